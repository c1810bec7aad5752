/- Merged texts: RsG ClS ClRa ClM ClY ClZ ClRb (what no proof of the claim needs is left out). -/
import Derived.Test.YtgejdaincnclpaaGreatCh8
import Derived.Test.YtgejdaincnclpaaGreatCR1
import Derived.Test.YtgejdaincnclpaaGreatShelfS
import Derived.Sort.Grow
import Derived.Lib.SlicesCompact
namespace Go.Proofs.YtgejdaincnclpaaGreat
open Go Go.RowKit
set_option linter.unusedVariables false
set_option maxRecDepth 100000 in
set_option maxHeartbeats 20000000 in
theorem rpair_on (v1 v2 w1 w2 n1 n2 rest : Int) (w : World) (h : permB v1 v2 w1 w2 n1 n2 = true) (hr : sixB rest = true) (ha : apprB v1 v2 w1 w2 n1 n2 = true) :
  Calls Tryz.prog 64 #[.agg #[.int .i64 v1, .int .i64 v2], .agg #[.int .i64 w1, .int .i64 w2], .agg #[.int .i64 n1, .int .i64 n2], .int .i64 rest] w (POut2 ((lowR (pairX v1 n1 (n1 * n1 + n2 * n2) ((v1 - w1) * n1 + (v2 - w2) * n2) rest (-1)) (pairX v2 n2 (n1 * n1 + n2 * n2) ((v1 - w1) * n1 + (v2 - w2) * n2) rest (-1)) (32 * (n1 * n1 + n2 * n2))), (lowR (pairX w1 n1 (n1 * n1 + n2 * n2) ((v1 - w1) * n1 + (v2 - w2) * n2) rest 1) (pairX w2 n2 (n1 * n1 + n2 * n2) ((v1 - w1) * n1 + (v2 - w2) * n2) rest 1) (32 * (n1 * n1 + n2 * n2)))) w) := by
 obtain ⟨bv, bw, bn⟩ := perm_bd h
 obtain ⟨e1, e2, e3⟩ := perm_vals h
 obtain ⟨⟨p1, p2⟩, p3, p4⟩ := perm_prod h
 obtain ⟨_, _, q3⟩ := appr_bd ha
 have t1 := sp1 (x := v1) (n := n1) (sgn := -1) h hr (by omega) (by omega) (by omega)
 have t2 := sp1 (x := v2) (n := n2) (sgn := -1) h hr (by omega) (by omega) (by omega)
 have t3 := sp1 (x := w1) (n := n1) (sgn := 1) h hr (by omega) (by omega) (by omega)
 have t4 := sp1 (x := w2) (n := n2) (sgn := 1) h hr (by omega) (by omega) (by omega)
 have k1 := fun w => rspeed_any v1 v2 w
 have k2 := fun w => rspeed_any w1 w2 w
 have k3 := fun w => rdirection_any n1 n2 w
 have k4 := fun w => rpart_any rest w
 have hp := h
 unfold permB at hp
 simp only [Bool.and_eq_true] at hp
 rw [hp.1.1] at k1
 rw [hp.1.2] at k2
 rw [hp.2] at k3
 rw [hr] at k4
 have k5 := fun w => rapproaches_any v1 v2 w1 w2 n1 n2 w
 rw [ha] at k5
 have k6 := fun w => rsub_any v1 v2 w1 w2 w
 have k7 := fun w => rdot_any (v1 - w1) (v2 - w2) n1 n2 w
 have k8 := fun w => rdot_any n1 n2 n1 n2 w
 rw [e1] at k6
 rw [e2] at k7
 rw [e3] at k8
 generalize (v1 - w1) * n1 + (v2 - w2) * n2 = C at *
 generalize n1 * n1 + n2 * n2 = M at *
 simp only [sixB, decide_eq_true_eq] at hr
 have k9 := fun w => rscaled_any 32 M w (by omega) (by omega)
 have k14 := fun w => rscaled_any (16 + rest) C w (by omega) (by omega)
 have b1 := mulB (16 + rest) C 31 17592186044416 (by omega) (by omega)
 have b2 := mulB ((16 + rest) * C) n1 (31 * 17592186044416) 4194304 (by omega) (by omega)
 have b3 := mulB ((16 + rest) * C) n2 (31 * 17592186044416) 4194304 (by omega) (by omega)
 have b4 := mulB v1 (32 * M) 4194304 (32 * 17592186044416) (by omega) (by omega)
 have b5 := mulB v2 (32 * M) 4194304 (32 * 17592186044416) (by omega) (by omega)
 have b6 := mulB w1 (32 * M) 4194304 (32 * 17592186044416) (by omega) (by omega)
 have b7 := mulB w2 (32 * M) 4194304 (32 * 17592186044416) (by omega) (by omega)
 have k15 := fun w => of_any n1 w (by omega) (by omega)
 have k16 := fun x y w h1 h2 => times_any 10 x y ((16 + rest) * C) n1 w h1 h2 (by omega)
 have k17 := fun w => of_any n2 w (by omega) (by omega)
 have k18 := fun x y w h1 h2 => times_any 10 x y ((16 + rest) * C) n2 w h1 h2 (by omega)
 have k19 := fun w => of_any v1 w (by omega) (by omega)
 have k20 := fun x y w h1 h2 => times_any 10 x y v1 (32 * M) w h1 h2 (by omega)
 have k21 := fun w => of_any v2 w (by omega) (by omega)
 have k22 := fun x y w h1 h2 => times_any 10 x y v2 (32 * M) w h1 h2 (by omega)
 have k23 := fun w => of_any w1 w (by omega) (by omega)
 have k24 := fun x y w h1 h2 => times_any 10 x y w1 (32 * M) w h1 h2 (by omega)
 have k25 := fun w => of_any w2 w (by omega) (by omega)
 have k26 := fun x y w h1 h2 => times_any 10 x y w2 (32 * M) w h1 h2 (by omega)
 have k27 := fun x y w h1 h2 => minus_any 10 x y (v1 * (32 * M)) ((16 + rest) * C * n1) w h1 h2 (by omega)
 have k28 := fun x y w h1 h2 => minus_any 10 x y (v2 * (32 * M)) ((16 + rest) * C * n2) w h1 h2 (by omega)
 have k29 := fun x y w h1 h2 => plus_any 10 x y (w1 * (32 * M)) ((16 + rest) * C * n1) w h1 h2 (by omega)
 have k30 := fun x y w h1 h2 => plus_any 10 x y (w2 * (32 * M)) ((16 + rest) * C * n2) w h1 h2 (by omega)
 rw [show v1 * (32 * M) - (16 + rest) * C * n1 = pairX v1 n1 M C rest (-1) by unfold pairX; grind] at k27
 rw [show v2 * (32 * M) - (16 + rest) * C * n2 = pairX v2 n2 M C rest (-1) by unfold pairX; grind] at k28
 rw [show w1 * (32 * M) + (16 + rest) * C * n1 = pairX w1 n1 M C rest 1 by unfold pairX; grind] at k29
 rw [show w2 * (32 * M) + (16 + rest) * C * n2 = pairX w2 n2 M C rest 1 by unfold pairX; grind] at k30
 have l6 := len_wd (z := (16 + rest) * C) (by omega) (by omega)
 have l7 := len_wd (z := n1) (by omega) (by omega)
 have l8 := len_wd (z := n2) (by omega) (by omega)
 have l11 := len_wd (z := v1) (by omega) (by omega)
 have l12 := len_wd (z := v2) (by omega) (by omega)
 have l13 := len_wd (z := w1) (by omega) (by omega)
 have l14 := len_wd (z := w2) (by omega) (by omega)
 have l9 : (canN ((16 + rest) * C * n1).natAbs).length ≤ 10 := canN_bd (B := 18446744073709551616 * 18446744073709551616) (by omega) (by omega) (by decide)
 have l10 : (canN ((16 + rest) * C * n2).natAbs).length ≤ 10 := canN_bd (B := 18446744073709551616 * 18446744073709551616) (by omega) (by omega) (by decide)
 have l15 : (canN (v1 * (32 * M)).natAbs).length ≤ 10 := canN_bd (B := 18446744073709551616 * 18446744073709551616) (by omega) (by omega) (by decide)
 have l16 : (canN (v2 * (32 * M)).natAbs).length ≤ 10 := canN_bd (B := 18446744073709551616 * 18446744073709551616) (by omega) (by omega) (by decide)
 have l17 : (canN (w1 * (32 * M)).natAbs).length ≤ 10 := canN_bd (B := 18446744073709551616 * 18446744073709551616) (by omega) (by omega) (by decide)
 have l18 : (canN (w2 * (32 * M)).natAbs).length ≤ 10 := canN_bd (B := 18446744073709551616 * 18446744073709551616) (by omega) (by omega) (by decide)
 have l1 := t1.len
 have l2 := t2.len
 have l3 := t3.len
 have l4 := t4.len
 have l5 := len_wd (z := 32 * M) (by omega) (by omega)
 generalize pairX v1 n1 M C rest (-1) = X1 at *
 generalize pairX v2 n2 M C rest (-1) = X2 at *
 generalize pairX w1 n1 M C rest 1 = Y1 at *
 generalize pairX w2 n2 M C rest 1 = Y2 at *
 have k10 := fun v w hv => rlowest_any X1 X2 (32 * M) v w hv (by omega) (by omega) (by omega) (by omega)
 have k13 := fun v w hv => rlowest_any Y1 Y2 (32 * M) v w hv (by omega) (by omega) (by omega) (by omega)
 unfold POut2 lowR
 generalize X1.tdiv (lowG X1 X2 (32 * M)) = P1 at *
 generalize X2.tdiv (lowG X1 X2 (32 * M)) = P2 at *
 generalize (32 * M).tdiv (lowG X1 X2 (32 * M)) = P3 at *
 generalize Y1.tdiv (lowG Y1 Y2 (32 * M)) = Q1 at *
 generalize Y2.tdiv (lowG Y1 Y2 (32 * M)) = Q2 at *
 generalize (32 * M).tdiv (lowG Y1 Y2 (32 * M)) = Q3 at *
 generalize v1 * (32 * M) = A1 at *
 generalize v2 * (32 * M) = A2 at *
 generalize w1 * (32 * M) = B1 at *
 generalize w2 * (32 * M) = B2 at *
 generalize (16 + rest) * C * n1 = J1 at *
 generalize (16 + rest) * C * n2 = J2 at *
 generalize (16 + rest) * C = RC at *
 obtain ⟨bv1, bv2, bv3, bv4⟩ := bv
 obtain ⟨bw1, bw2, bw3, bw4⟩ := bw
 have K1 := hQ0 k1
 have K2 := hQ0 k2
 have K3 := hQ0 k3
 have K4 := hQ0 k4
 have K5 := hQ0 k5
 have K6 := hQ0 k6
 have K7 := hQ0 k7
 have K8 := hQ0 k8
 have K9 := hQ0 k9
 have K10 := hQ0 k10
 have K13 := hQ0 k13
 have K14 := hQ0 k14
 have K15 := hQ0 k15
 have K16 := hQ0 k16
 have K17 := hQ0 k17
 have K18 := hQ0 k18
 have K19 := hQ0 k19
 have K20 := hQ0 k20
 have K21 := hQ0 k21
 have K22 := hQ0 k22
 have K23 := hQ0 k23
 have K24 := hQ0 k24
 have K25 := hQ0 k25
 have K26 := hQ0 k26
 have K27 := hQ0 k27
 have K28 := hQ0 k28
 have K29 := hQ0 k29
 have K30 := hQ0 k30
 have L5 := hQ0 l5
 have L6 := hQ0 l6
 have L7 := hQ0 l7
 have L8 := hQ0 l8
 have L9 := hQ0 l9
 have L10 := hQ0 l10
 have L11 := hQ0 l11
 have L12 := hQ0 l12
 have L13 := hQ0 l13
 have L14 := hQ0 l14
 have L15 := hQ0 l15
 have L16 := hQ0 l16
 have L17 := hQ0 l17
 have L18 := hQ0 l18
 clear k1 k2 k3 k4 k5 k6 k7 k8 k9 k10 k13 k14 k15 k16 k17 k18 k19 k20 k21 k22 k23 k24 k25 k26 k27 k28 k29 k30 h ha e1 e2 e3 t1 t2 t3 t4 l1 l2 l3 l4 l5 l6 l7 l8 l9 l10 l11 l12 l13 l14 l15 l16 l17 l18 hp b1 b2 b3 b4 b5 b6 b7
 simp only
 go_enter Tryz.func64, Tryz.ntmps64; (try simp only [List.append_eq, List.cons_append, List.nil_append])
 go_wp2_with fail
 (go_at_call 34; refine (K1.out _).mono ?_; rintro e w101 ⟨rfl, hb_w101⟩; have hz_w101 := hb_w101.size; (try simp at hz_w101); (with_reducible apply cal2 (b := w.heap.size) hb_w101); (focus (go_simp; try exact ⟨rfl, rfl⟩)); intro fR gB jJ dK; (with_reducible apply cal2 (b := w.heap.size + 1) hb_w101); (focus (go_simp; try exact ⟨rfl, rfl⟩)); intro sS aBf lX aC8; (with_reducible apply cal2 (b := w.heap.size + 1 + 1) hb_w101); (focus (go_simp; try exact ⟨rfl, rfl⟩)); intro aB2 mC yQ oD; (with_reducible apply cal6 (b := w.heap.size + 1 + 1 + 1) hb_w101); (focus (go_simp; try exact ⟨rfl, rfl, rfl, rfl, rfl, rfl⟩)); intro uK xE aC0 bK vI rU nO tO; (with_reducible apply cal6 (b := w.heap.size + 1 + 1 + 1 + 1) hb_w101); (focus (go_simp; try exact ⟨rfl, rfl, rfl, rfl, rfl, rfl⟩)); intro gG xO aZ dY uJ tG jL yT)
 have HB101 := hQ0 (show Below w.heap.size w w101 by ((with_reducible (repeat (first | exact bR _ _ | apply bS | apply bA | apply bD | refine bT ?_ (by assumption) ?_ | refine bO (by assumption) ?_ ?_))) <;> (first | omega | (simp <;> omega))))
 have hz101 : w.heap.size + 1 + 1 + 1 + 1 + 1 ≤ w101.heap.size := by omega
 clear hb_w101
 skip
 go_wp2_with fail
 (go_at_call 34; refine (K2.out _).mono ?_; rintro e w102 ⟨rfl, hb_w102⟩; have hz_w102 := hb_w102.size; (try simp at hz_w102); (with_reducible apply cal2 (b := w.heap.size) hb_w102); (focus (go_simp; try exact ⟨rfl, rfl⟩)); intro bZ aBg nK aA1; (with_reducible apply cal2 (b := w.heap.size + 1) hb_w102); (focus (go_simp; try exact ⟨rfl, rfl⟩)); intro oN aBd kR lM; (with_reducible apply cal2 (b := w.heap.size + 1 + 1) hb_w102); (focus (go_simp; try exact ⟨rfl, rfl⟩)); intro eA rD aDf xV; (with_reducible apply cal6 (b := w.heap.size + 1 + 1 + 1) hb_w102); (focus (go_simp; try exact ⟨rfl, rfl, rfl, rfl, rfl, rfl⟩)); intro lZ vS tN qT oL gT iL nS; (with_reducible apply cal6 (b := w.heap.size + 1 + 1 + 1 + 1) hb_w102); (focus (go_simp; try exact ⟨rfl, rfl, rfl, rfl, rfl, rfl⟩)); intro aAd kX iG zZ lS lI bQ gN)
 have HB102 := hQ0 (show Below w.heap.size w w102 by have hB := HB101.out; ((with_reducible (repeat (first | exact bR _ _ | apply bS | apply bA | apply bD | refine bT ?_ (by assumption) ?_ | refine bO (by assumption) ?_ ?_))) <;> (first | omega | (simp <;> omega))))
 have hz102 : w.heap.size + 1 + 1 + 1 + 1 + 1 ≤ w102.heap.size := by omega
 clear hb_w102
 clear fR gB jJ dK sS aBf lX aC8 aB2 mC yQ oD uK xE aC0 bK vI rU nO tO gG xO aZ dY uJ tG jL yT
 go_wp2_with fail
 (go_at_call 35; refine (K3.out _).mono ?_; rintro e w103 ⟨rfl, hb_w103⟩; have hz_w103 := hb_w103.size; (try simp at hz_w103); (with_reducible apply cal2 (b := w.heap.size) hb_w103); (focus (go_simp; try exact ⟨rfl, rfl⟩)); intro vZ lR aC6 yM; (with_reducible apply cal2 (b := w.heap.size + 1) hb_w103); (focus (go_simp; try exact ⟨rfl, rfl⟩)); intro nH aB7 jA yL; (with_reducible apply cal2 (b := w.heap.size + 1 + 1) hb_w103); (focus (go_simp; try exact ⟨rfl, rfl⟩)); intro qQ fM aBb dE; (with_reducible apply cal6 (b := w.heap.size + 1 + 1 + 1) hb_w103); (focus (go_simp; try exact ⟨rfl, rfl, rfl, rfl, rfl, rfl⟩)); intro oY fU aDg aCv mY eO kT aC5; (with_reducible apply cal6 (b := w.heap.size + 1 + 1 + 1 + 1) hb_w103); (focus (go_simp; try exact ⟨rfl, rfl, rfl, rfl, rfl, rfl⟩)); intro aAo rZ aC2 aBz iB lQ mK qM)
 have HB103 := hQ0 (show Below w.heap.size w w103 by have hB := HB102.out; ((with_reducible (repeat (first | exact bR _ _ | apply bS | apply bA | apply bD | refine bT ?_ (by assumption) ?_ | refine bO (by assumption) ?_ ?_))) <;> (first | omega | (simp <;> omega))))
 have hz103 : w.heap.size + 1 + 1 + 1 + 1 + 1 ≤ w103.heap.size := by omega
 clear hb_w103
 clear bZ aBg nK aA1 oN aBd kR lM eA rD aDf xV lZ vS tN qT oL gT iL nS aAd kX iG zZ lS lI bQ gN
 go_wp2_with fail
 (go_at_call 41; refine (K4.out _).mono ?_; rintro e w104 ⟨rfl, hb_w104⟩; have hz_w104 := hb_w104.size; (try simp at hz_w104); (with_reducible apply cal2 (b := w.heap.size) hb_w104); (focus (go_simp; try exact ⟨rfl, rfl⟩)); intro yE aBp rP aCf; (with_reducible apply cal2 (b := w.heap.size + 1) hb_w104); (focus (go_simp; try exact ⟨rfl, rfl⟩)); intro gR tQ aB9 gK; (with_reducible apply cal2 (b := w.heap.size + 1 + 1) hb_w104); (focus (go_simp; try exact ⟨rfl, rfl⟩)); intro rK aCj qB kV; (with_reducible apply cal6 (b := w.heap.size + 1 + 1 + 1) hb_w104); (focus (go_simp; try exact ⟨rfl, rfl, rfl, rfl, rfl, rfl⟩)); intro kK xB qD fF tA rM gM bV; (with_reducible apply cal6 (b := w.heap.size + 1 + 1 + 1 + 1) hb_w104); (focus (go_simp; try exact ⟨rfl, rfl, rfl, rfl, rfl, rfl⟩)); intro jQ sC aCg tC lC oA rH aAc)
 have HB104 := hQ0 (show Below w.heap.size w w104 by have hB := HB103.out; ((with_reducible (repeat (first | exact bR _ _ | apply bS | apply bA | apply bD | refine bT ?_ (by assumption) ?_ | refine bO (by assumption) ?_ ?_))) <;> (first | omega | (simp <;> omega))))
 have hz104 : w.heap.size + 1 + 1 + 1 + 1 + 1 ≤ w104.heap.size := by omega
 clear hb_w104
 clear vZ lR aC6 yM nH aB7 jA yL qQ fM aBb dE oY fU aDg aCv mY eO kT aC5 aAo rZ aC2 aBz iB lQ mK qM
 go_wp2_with fail
 (go_at_call 13; refine (K5.out _).mono ?_; rintro e w105 ⟨rfl, hb_w105⟩; have hz_w105 := hb_w105.size; (try simp at hz_w105); (with_reducible apply cal2 (b := w.heap.size) hb_w105); (focus (go_simp; try exact ⟨rfl, rfl⟩)); intro oG jG aBa zN; (with_reducible apply cal2 (b := w.heap.size + 1) hb_w105); (focus (go_simp; try exact ⟨rfl, rfl⟩)); intro aBx zE kO mM; (with_reducible apply cal2 (b := w.heap.size + 1 + 1) hb_w105); (focus (go_simp; try exact ⟨rfl, rfl⟩)); intro uN iW aAz aC3; (with_reducible apply cal6 (b := w.heap.size + 1 + 1 + 1) hb_w105); (focus (go_simp; try exact ⟨rfl, rfl, rfl, rfl, rfl, rfl⟩)); intro yC dB fE oU aCp qA uT tB; (with_reducible apply cal6 (b := w.heap.size + 1 + 1 + 1 + 1) hb_w105); (focus (go_simp; try exact ⟨rfl, rfl, rfl, rfl, rfl, rfl⟩)); intro aBt gU iD vH uO kZ jM oM)
 have HB105 := hQ0 (show Below w.heap.size w w105 by have hB := HB104.out; ((with_reducible (repeat (first | exact bR _ _ | apply bS | apply bA | apply bD | refine bT ?_ (by assumption) ?_ | refine bO (by assumption) ?_ ?_))) <;> (first | omega | (simp <;> omega))))
 have hz105 : w.heap.size + 1 + 1 + 1 + 1 + 1 ≤ w105.heap.size := by omega
 clear hb_w105
 clear yE aBp rP aCf gR tQ aB9 gK rK aCj qB kV kK xB qD fF tA rM gM bV jQ sC aCg tC lC oA rH aAc
 go_wp2_with fail
 (refine pin_wp (N := _) (Nat.le_refl _) (fun w106 hb_w106 hz_w106 => ?_); (try simp at hz_w106); (with_reducible apply cal2 (b := w.heap.size) hb_w106); (focus (go_simp; try exact ⟨rfl, rfl⟩)); intro tK aB3 tR xG; (with_reducible apply cal2 (b := w.heap.size + 1) hb_w106); (focus (go_simp; try exact ⟨rfl, rfl⟩)); intro aCn fN eX tI; (with_reducible apply cal2 (b := w.heap.size + 1 + 1) hb_w106); (focus (go_simp; try exact ⟨rfl, rfl⟩)); intro zQ mD mF xL; (with_reducible apply cal6 (b := w.heap.size + 1 + 1 + 1) hb_w106); (focus (go_simp; try exact ⟨rfl, rfl, rfl, rfl, rfl, rfl⟩)); intro vT xM sX bW uG dS vV mE; (with_reducible apply cal6 (b := w.heap.size + 1 + 1 + 1 + 1) hb_w106); (focus (go_simp; try exact ⟨rfl, rfl, rfl, rfl, rfl, rfl⟩)); intro yB gV vX aAy aBq dH aAt kS); refine wp_q (fun Q_ HQ_ => ?_); refine wp_region_floatQ w106.heap.size 10 [] (Nat.le_refl _) (fun _ => True) trivial Cl.tt (by kernel_rfl) (by kernel_rfl) ?_
 have HB106 := hQ0 (show Below w.heap.size w w106 by have hB := HB105.out; ((with_reducible (repeat (first | exact bR _ _ | apply bS | apply bA | apply bD | refine bT ?_ (by assumption) ?_ | refine bO (by assumption) ?_ ?_))) <;> (first | omega | (simp <;> omega))))
 have hz106 : w.heap.size + 1 + 1 + 1 + 1 + 1 ≤ w106.heap.size := by omega
 clear hb_w106
 clear oG jG aBa zN aBx zE kO mM uN iW aAz aC3 yC dB fE oU aCp qA uT tB aBt gU iD vH uO kZ jM oM
 refine wpQI_start [0, 1] ?_; (iterate 2 (first | (apply wpQI_step (zA rfl) (by kernel_rfl) (by exact rfl); (focus (intro W' hS; have hcS := hS.cells; go_simp; (iterate 2 (first | done | exact rfl | exact bB _ | go_simp)))); intro K hK; go_simp; (try go_bits); refine hK _ ?_; clear hK K))); refine wpQI_nil ?_
 refine wpQI_start [3] ?_; (iterate 1 (first | (apply wpQI_step (zA rfl) (by kernel_rfl) (by exact rfl); (focus (intro W' hS; have hcS := hS.cells; go_simp; (iterate 2 (first | done | exact rfl | exact bB _ | go_simp)))); intro K hK; go_simp; (try go_bits); refine hK _ ?_; clear hK K))); refine wpQI_nil ?_
 refine wpQI_start [5, 6] ?_; (iterate 2 (first | (apply wpQI_step (zA rfl) (by kernel_rfl) (by exact rfl); (focus (intro W' hS; have hcS := hS.cells; go_simp; (iterate 2 (first | done | exact rfl | exact bB _ | go_simp)))); intro K hK; go_simp; (try go_bits); refine hK _ ?_; clear hK K))); refine wpQI_nil ?_
 refine wpQI_start [2] ?_; (iterate 1 (first | (apply wpQI_step (zA rfl) (by kernel_rfl) (by exact rfl); (focus (intro W' hS; have hcS := hS.cells; go_simp; (first | done | exact rfl | exact ⟨rfl, Below.refl _ _⟩ | (go_at_call 37; exact (K6.out _).mono (fun _ _ h => ⟨h.1, h.2⟩)) | (go_simp; first | done | exact rfl | exact ⟨rfl, Below.refl _ _⟩)))); intro K hK; go_simp; (try go_bits); refine hK _ ?_; clear hK K))); refine wpQI_nil ?_
 refine wpQI_start [4] ?_; (iterate 1 (first | (apply wpQI_step (zA rfl) (by kernel_rfl) (by exact rfl); (focus (intro W' hS; have hcS := hS.cells; go_simp; (first | done | exact rfl | exact ⟨rfl, Below.refl _ _⟩ | (go_at_call 36; exact (K7.out _).mono (fun _ _ h => ⟨h.1, h.2⟩)) | (go_simp; first | done | exact rfl | exact ⟨rfl, Below.refl _ _⟩)))); intro K hK; go_simp; (try go_bits); refine hK _ ?_; clear hK K))); refine wpQI_nil ?_
 refine wpQI_start [7] ?_; (iterate 1 (first | (apply wpQI_step (zA rfl) (by kernel_rfl) (by exact rfl); (focus (intro W' hS; have hcS := hS.cells; go_simp; (first | done | exact rfl | exact ⟨rfl, Below.refl _ _⟩ | (go_at_call 36; exact (K8.out _).mono (fun _ _ h => ⟨h.1, h.2⟩)) | (go_simp; first | done | exact rfl | exact ⟨rfl, Below.refl _ _⟩)))); intro K hK; go_simp; (try go_bits); refine hK _ ?_; clear hK K))); refine wpQI_nil ?_
 refine wpQI_start [8, 9] ?_; (iterate 2 (first | (apply wpQI_step (zA rfl) (by kernel_rfl) (by exact rfl); (focus (intro W' hS; have hcS := hS.cells; go_simp; (iterate 2 (first | done | exact rfl | exact bB _ | go_simp)))); intro K hK; go_simp; (try go_bits); refine hK _ ?_; clear hK K))); refine wpQI_nil ?_
 refine wpQ_done (by kernel_rfl) ?_
 intro w107 hF_w107 hSG
 have hz_w107 := hSG.1.1
 have hb_w107 := hSG.1.2
 clear hSG
 (with_reducible apply cel2 (b := w.heap.size) hb_w107); ((try simp) <;> omega); omega; (iterate 2 (focus (go_simp; try exact rfl))); (intro o; go_simp); intro aCm aDh rN aB5; (with_reducible apply cel2 (b := w.heap.size + 1) hb_w107); ((try simp) <;> omega); omega; (iterate 2 (focus (go_simp; try exact rfl))); (intro o; go_simp); intro dD tL lT jH; (with_reducible apply cel2 (b := w.heap.size + 1 + 1) hb_w107); ((try simp) <;> omega); omega; (iterate 2 (focus (go_simp; try exact rfl))); (intro o; go_simp); intro bY nG aC9 oW; (with_reducible apply cel6 (b := w.heap.size + 1 + 1 + 1) hb_w107); ((try simp) <;> omega); omega; (iterate 6 (focus (go_simp; try exact rfl))); (intro o; go_simp); intro oJ vC oI sV xT jK aCa uS; (with_reducible apply cel6 (b := w.heap.size + 1 + 1 + 1 + 1) hb_w107); ((try simp) <;> omega); omega; (iterate 6 (focus (go_simp; try exact rfl))); (intro o; go_simp); intro lF aBm yF fS yI nL uB zP
 (try simp only [List.filterMap_nil])
 have HB107 := hQ0 (HB106.out.trans (hb_w107.mono (by have := HB106.out.size; omega)))
 have hz107 : w.heap.size + 1 + 1 + 1 + 1 + 1 ≤ w107.heap.size := by omega
 clear hF_w107 hb_w107
 clear tK aB3 tR xG aCn fN eX tI zQ mD mF xL vT xM sX bW uG dS vV mE yB gV vX aAy aBq dH aAt kS
 go_wp2_with fail
 refine HQ_.out _ _ _ ?_
 clear HQ_ Q_
 go_wp2_with fail
 (go_at_call 42; refine (K9.out _).mono ?_; rintro e w108 ⟨hb_w108, v108, rfl, hv108⟩; have hz_w108 := hb_w108.size; (try simp at hz_w108); (with_reducible apply cal2 (b := w.heap.size) hb_w108); (focus (go_simp; try exact ⟨rfl, rfl⟩)); intro iM tZ gA qC; (with_reducible apply cal2 (b := w.heap.size + 1) hb_w108); (focus (go_simp; try exact ⟨rfl, rfl⟩)); intro aAi aDe yA gI; (with_reducible apply cal2 (b := w.heap.size + 1 + 1) hb_w108); (focus (go_simp; try exact ⟨rfl, rfl⟩)); intro xQ aA2 aA3 iO; (with_reducible apply cal6 (b := w.heap.size + 1 + 1 + 1) hb_w108); (focus (go_simp; try exact ⟨rfl, rfl, rfl, rfl, rfl, rfl⟩)); intro sN aAe oF dV jZ aCu iH sD; (with_reducible apply cal6 (b := w.heap.size + 1 + 1 + 1 + 1) hb_w108); (focus (go_simp; try exact ⟨rfl, rfl, rfl, rfl, rfl, rfl⟩)); intro aCh kU zR gL aY uL nD uQ)
 obtain ⟨s108, A108, n108, c108, rfl⟩ := IsC.val hv108
 have HB108 := hQ0 (show Below w.heap.size w w108 by have hB := HB107.out; ((with_reducible (repeat (first | exact bR _ _ | apply bS | apply bA | apply bD | refine bT ?_ (by assumption) ?_ | refine bO (by assumption) ?_ ?_))) <;> (first | omega | (simp <;> omega))))
 have hz108 : w.heap.size + 1 + 1 + 1 + 1 + 1 ≤ w108.heap.size := by omega
 clear hb_w108
 clear aCm aDh rN aB5 dD tL lT jH bY nG aC9 oW oJ vC oI sV xT jK aCa uS lF aBm yF fS yI nL uB zP
 have H108 := hQ0 (show IsC w108 (.agg #[.bool s108, .slice A108 n108 c108]) ((32 * M)) from hv108)
 clear hv108
 go_wp2_with fail
 (refine pin_wp (N := _) (Nat.le_refl _) (fun w109 hb_w109 hz_w109 => ?_); (try simp at hz_w109); (with_reducible apply cal2 (b := w.heap.size) hb_w109); (focus (go_simp; try exact ⟨rfl, rfl⟩)); intro sJ rO xF gS; (with_reducible apply cal2 (b := w.heap.size + 1) hb_w109); (focus (go_simp; try exact ⟨rfl, rfl⟩)); intro aBe oQ xU tY; (with_reducible apply cal2 (b := w.heap.size + 1 + 1) hb_w109); (focus (go_simp; try exact ⟨rfl, rfl⟩)); intro aBj lL lV aCe; (with_reducible apply cal6 (b := w.heap.size + 1 + 1 + 1) hb_w109); (focus (go_simp; try exact ⟨rfl, rfl, rfl, rfl, rfl, rfl⟩)); intro vM mG aAm aBc qL jE jC oV; (with_reducible apply cal6 (b := w.heap.size + 1 + 1 + 1 + 1) hb_w109); (focus (go_simp; try exact ⟨rfl, rfl, rfl, rfl, rfl, rfl⟩)); intro dO mA aCc tT iI nJ lO oP; (with_reducible apply cal2 (b := w108.heap.size) hb_w109); (focus (go_simp; try exact ⟨rfl, rfl⟩)); intro kM eU iU bN); refine wp_q (fun Q_ HQ_ => ?_); refine wp_region_floatQ w109.heap.size 18 [18, 19] (Nat.le_refl _) (fun _ => True) trivial Cl.tt (by kernel_rfl) (by kernel_rfl) ?_
 replace H108 := hQ0 (IsC.below (v := .agg #[.bool s108, .slice A108 n108 c108]) (z := (32 * M)) (by ((with_reducible (repeat (first | exact H108.out | refine IsC.al ?_ _ | apply IsC.st1))) <;> (first | (with_reducible assumption) | (intro _ e; cases e; done) | (go_simp; first | done | exact rfl)))) hb_w109)
 have HB109 := hQ0 (show Below w.heap.size w w109 by have hB := HB108.out; ((with_reducible (repeat (first | exact bR _ _ | apply bS | apply bA | apply bD | refine bT ?_ (by assumption) ?_ | refine bO (by assumption) ?_ ?_))) <;> (first | omega | (simp <;> omega))))
 have hz109 : w.heap.size + 1 + 1 + 1 + 1 + 1 ≤ w109.heap.size := by omega
 clear hb_w109
 clear iM tZ gA qC aAi aDe yA gI xQ aA2 aA3 iO sN aAe oF dV jZ aCu iH sD aCh kU zR gL aY uL nD uQ
 refine wpQI_start [0, 1, 2] ?_; (iterate 3 (first | (apply wpQI_step (zA rfl) (by kernel_rfl) (by exact rfl); (focus (intro W' hS; have hcS := hS.cells; go_simp; (iterate 2 (first | done | exact rfl | exact bB _ | go_simp)))); intro K hK; go_simp; (try go_bits); refine hK _ ?_; clear hK K))); refine wpQI_nil ?_
 refine wpQI_start [4, 5] ?_; (iterate 2 (first | (apply wpQI_step (zA rfl) (by kernel_rfl) (by exact rfl); (focus (intro W' hS; have hcS := hS.cells; go_simp; (iterate 2 (first | done | exact rfl | exact bB _ | go_simp)))); intro K hK; go_simp; (try go_bits); refine hK _ ?_; clear hK K))); refine wpQI_nil ?_
 refine wpQI_start [8, 9, 10] ?_; (iterate 3 (first | (apply wpQI_step (zA rfl) (by kernel_rfl) (by exact rfl); (focus (intro W' hS; have hcS := hS.cells; go_simp; (iterate 2 (first | done | exact rfl | exact bB _ | go_simp)))); intro K hK; go_simp; (try go_bits); refine hK _ ?_; clear hK K))); refine wpQI_nil ?_
 refine wpQI_start [12, 13] ?_; (iterate 2 (first | (apply wpQI_step (zA rfl) (by kernel_rfl) (by exact rfl); (focus (intro W' hS; have hcS := hS.cells; go_simp; (iterate 2 (first | done | exact rfl | exact bB _ | go_simp)))); intro K hK; go_simp; (try go_bits); refine hK _ ?_; clear hK K))); refine wpQI_nil ?_
 apply wpQ_call (i := 3) (zA rfl) (by kernel_rfl) (by exact rfl); intro W hF hS; have hcS := hS.1.cells; go_simp; (go_at_call 42; refine (K14.out _).mono ?_; rintro e w110 ⟨hb_w110, v110, rfl, hv110⟩; refine XPost.mk _ (fun W => IsC W v110 (RC)) hb_w110 (hv110) (IsC.cl _ _) ?_); clear hb_w110 hcS hS hF
 intro K hK; go_simp; (try go_bits); refine hK _ ?_; clear hK K
 obtain ⟨s110, A110, n110, c110, rfl⟩ := IsC.val hv110
 clear hv110
 apply wpQ_call (i := 6) (zA rfl) (by kernel_rfl) (by exact rfl); intro W hF hS; have hcS := hS.1.cells; go_simp; (go_at_call 44; refine (K15.out _).mono ?_; rintro e w111 ⟨hb_w111, v111, rfl, hv111⟩; refine XPost.mk _ (fun W => IsC W v111 (n1)) hb_w111 (hv111) (IsC.cl _ _) ?_); clear hb_w111 hcS hS hF
 intro K hK; go_simp; (try go_bits); refine hK _ ?_; clear hK K
 obtain ⟨s111, A111, n111, c111, rfl⟩ := IsC.val hv111
 clear hv111
 apply wpQ_call (i := 7) (zA rfl) (by kernel_rfl) (by exact rfl); intro W hF hS; have hcS := hS.1.cells; go_simp; (go_at_call 40; refine (K16.out _ _ _ (hF.1.zl L6.out) (hF.2.zl L7.out)).mono ?_; rintro e w112 ⟨hb_w112, v112, rfl, hv112⟩; refine XPost.mk _ (fun W => IsC W v112 (J1)) hb_w112 (hv112) (IsC.cl _ _) ?_); clear hb_w112 hcS hS hF
 intro K hK; go_simp; (try go_bits); refine hK _ ?_; clear hK K
 obtain ⟨s112, A112, n112, c112, rfl⟩ := IsC.val hv112
 clear hv112
 apply wpQ_call (i := 11) (zA rfl) (by kernel_rfl) (by exact rfl); intro W hF hS; have hcS := hS.1.cells; go_simp; (go_at_call 42; refine (K14.out _).mono ?_; rintro e w113 ⟨hb_w113, v113, rfl, hv113⟩; refine XPost.mk _ (fun W => IsC W v113 (RC)) hb_w113 (hv113) (IsC.cl _ _) ?_); clear hb_w113 hcS hS hF
 intro K hK; go_simp; (try go_bits); refine hK _ ?_; clear hK K
 obtain ⟨s113, A113, n113, c113, rfl⟩ := IsC.val hv113
 clear hv113
 apply wpQ_call (i := 14) (zA rfl) (by kernel_rfl) (by exact rfl); intro W hF hS; have hcS := hS.1.cells; go_simp; (go_at_call 44; refine (K17.out _).mono ?_; rintro e w114 ⟨hb_w114, v114, rfl, hv114⟩; refine XPost.mk _ (fun W => IsC W v114 (n2)) hb_w114 (hv114) (IsC.cl _ _) ?_); clear hb_w114 hcS hS hF
 intro K hK; go_simp; (try go_bits); refine hK _ ?_; clear hK K
 obtain ⟨s114, A114, n114, c114, rfl⟩ := IsC.val hv114
 clear hv114
 apply wpQ_call (i := 15) (zA rfl) (by kernel_rfl) (by exact rfl); intro W hF hS; have hcS := hS.1.cells; go_simp; (go_at_call 40; refine (K18.out _ _ _ (hF.1.2.zl L6.out) (hF.2.zl L8.out)).mono ?_; rintro e w115 ⟨hb_w115, v115, rfl, hv115⟩; refine XPost.mk _ (fun W => IsC W v115 (J2)) hb_w115 (hv115) (IsC.cl _ _) ?_); clear hb_w115 hcS hS hF
 intro K hK; go_simp; (try go_bits); refine hK _ ?_; clear hK K
 obtain ⟨s115, A115, n115, c115, rfl⟩ := IsC.val hv115
 clear hv115
 apply wpQ_fresh (i := 16) LInv.std (zA rfl) (by kernel_rfl) (fun g => Value.pointer (some ⟨g, 0, none⟩)) (by exact rfl); (focus (intro W; go_simp; first | done | exact rfl | exact ⟨rfl, rfl⟩))
 intro g_r7_16 hN_r7_16 hG_r7_16 K hK
 go_simp; refine hK _ ?_; clear hK K
 apply wpQ_fresh (i := 17) LInv.std (zA rfl) (by kernel_rfl) (fun g => Value.pointer (some ⟨g, 0, none⟩)) (by exact rfl); (focus (intro W; go_simp; first | done | exact rfl | exact ⟨rfl, rfl⟩))
 intro g_r7_17 hN_r7_17 hG_r7_17 K hK
 go_simp; refine hK _ ?_; clear hK K
 have hne_r7_16_r7_17 : g_r7_16 ≠ g_r7_17 := hG_r7_17 _ (List.mem_cons_self ..)
 have hne_r7_17_r7_16 : g_r7_17 ≠ g_r7_16 := Ne.symm hne_r7_16_r7_17
 have hne : w.heap.size ≠ g_r7_16 ∧ g_r7_16 ≠ w.heap.size := by have := hN_r7_16; omega
 have hne : w.heap.size ≠ g_r7_17 ∧ g_r7_17 ≠ w.heap.size := by have := hN_r7_17; omega
 have hne : w.heap.size + 1 ≠ g_r7_16 ∧ g_r7_16 ≠ w.heap.size + 1 := by have := hN_r7_16; omega
 have hne : w.heap.size + 1 ≠ g_r7_17 ∧ g_r7_17 ≠ w.heap.size + 1 := by have := hN_r7_17; omega
 have hne : w.heap.size + 1 + 1 ≠ g_r7_16 ∧ g_r7_16 ≠ w.heap.size + 1 + 1 := by have := hN_r7_16; omega
 have hne : w.heap.size + 1 + 1 ≠ g_r7_17 ∧ g_r7_17 ≠ w.heap.size + 1 + 1 := by have := hN_r7_17; omega
 have hne : w.heap.size + 1 + 1 + 1 ≠ g_r7_16 ∧ g_r7_16 ≠ w.heap.size + 1 + 1 + 1 := by have := hN_r7_16; omega
 have hne : w.heap.size + 1 + 1 + 1 ≠ g_r7_17 ∧ g_r7_17 ≠ w.heap.size + 1 + 1 + 1 := by have := hN_r7_17; omega
 have hne : w.heap.size + 1 + 1 + 1 + 1 ≠ g_r7_16 ∧ g_r7_16 ≠ w.heap.size + 1 + 1 + 1 + 1 := by have := hN_r7_16; omega
 have hne : w.heap.size + 1 + 1 + 1 + 1 ≠ g_r7_17 ∧ g_r7_17 ≠ w.heap.size + 1 + 1 + 1 + 1 := by have := hN_r7_17; omega
 have hne : w108.heap.size ≠ g_r7_16 ∧ g_r7_16 ≠ w108.heap.size := by have := hN_r7_16; omega
 have hne : w108.heap.size ≠ g_r7_17 ∧ g_r7_17 ≠ w108.heap.size := by have := hN_r7_17; omega
 refine wpQ_done (by kernel_rfl) ?_
 intro w116 hF_w116 hSG
 have hz_w116 := hSG.1.1
 have hb_w116 := hSG.1.2
 have hB_r7_17 := (hSG.2 _ (List.mem_cons_self ..)).2; simp only at hB_r7_17; have hl_r7_17 := (hSG.size (List.mem_cons_self ..)); simp only at hl_r7_17
 have aN := cell_of_row w116 g_r7_17 0 _ _ _ hB_r7_17; simp only [List.getElem?_toArray, List.getElem?_cons_zero] at aN
 have aS := cell_of_row w116 g_r7_17 1 _ _ _ hB_r7_17; simp only [List.getElem?_toArray, List.getElem?_cons_zero, List.getElem?_cons_succ] at aS
 have oC : (∀ o, w116.frozen? ⟨g_r7_17, o, none⟩ = false) := (fun o => frozen_of_row w116 g_r7_17 o _ _ hB_r7_17); have HH_r7_17 := hQ0 hB_r7_17; clear hB_r7_17
 have hB_r7_16 := (hSG.2 _ (List.mem_cons_of_mem _ (List.mem_cons_self ..))).2; simp only at hB_r7_16; have hl_r7_16 := (hSG.size (List.mem_cons_of_mem _ (List.mem_cons_self ..))); simp only at hl_r7_16
 have aE := cell_of_row w116 g_r7_16 0 _ _ _ hB_r7_16; simp only [List.getElem?_toArray, List.getElem?_cons_zero] at aE
 have aP := cell_of_row w116 g_r7_16 1 _ _ _ hB_r7_16; simp only [List.getElem?_toArray, List.getElem?_cons_zero, List.getElem?_cons_succ] at aP
 have oZ : (∀ o, w116.frozen? ⟨g_r7_16, o, none⟩ = false) := (fun o => frozen_of_row w116 g_r7_16 o _ _ hB_r7_16); have HH_r7_16 := hQ0 hB_r7_16; clear hB_r7_16
 clear hSG
 (with_reducible apply cel2 (b := w.heap.size) hb_w116); ((try simp) <;> omega); omega; (iterate 2 (focus (go_simp; try exact rfl))); (intro o; go_simp); intro oK aAv sF aAr; (with_reducible apply cel2 (b := w.heap.size + 1) hb_w116); ((try simp) <;> omega); omega; (iterate 2 (focus (go_simp; try exact rfl))); (intro o; go_simp); intro eC dF tJ aCi; (with_reducible apply cel2 (b := w.heap.size + 1 + 1) hb_w116); ((try simp) <;> omega); omega; (iterate 2 (focus (go_simp; try exact rfl))); (intro o; go_simp); intro jB kW vO xK; (with_reducible apply cel6 (b := w.heap.size + 1 + 1 + 1) hb_w116); ((try simp) <;> omega); omega; (iterate 6 (focus (go_simp; try exact rfl))); (intro o; go_simp); intro fH xD yO aA6 aAj rG jO eW; (with_reducible apply cel6 (b := w.heap.size + 1 + 1 + 1 + 1) hb_w116); ((try simp) <;> omega); omega; (iterate 6 (focus (go_simp; try exact rfl))); (intro o; go_simp); intro xW gC yX iJ aAn aBy bF aCy; (with_reducible apply cel2 (b := w108.heap.size) hb_w116); ((try simp) <;> omega); omega; (iterate 2 (focus (go_simp; try exact rfl))); (intro o; go_simp); intro eG rQ zG dW
 (try simp only [List.filterMap_cons, List.filterMap_nil, List.getElem?_cons_succ, List.getElem?_cons_zero])
 replace H108 := hQ0 (H108.out.below hb_w116)
 have H110 := hQ0 (show IsC w116 (.agg #[.bool s110, .slice A110 n110 c110]) (RC) from hF_w116.1.1.1.1.1)
 have H111 := hQ0 (show IsC w116 (.agg #[.bool s111, .slice A111 n111 c111]) (n1) from hF_w116.1.1.1.1.2)
 have H112 := hQ0 (show IsC w116 (.agg #[.bool s112, .slice A112 n112 c112]) (J1) from hF_w116.1.1.1.2)
 have H113 := hQ0 (show IsC w116 (.agg #[.bool s113, .slice A113 n113 c113]) (RC) from hF_w116.1.1.2)
 have H114 := hQ0 (show IsC w116 (.agg #[.bool s114, .slice A114 n114 c114]) (n2) from hF_w116.1.2)
 have H115 := hQ0 (show IsC w116 (.agg #[.bool s115, .slice A115 n115 c115]) (J2) from hF_w116.2)
 have HB116 := hQ0 (HB109.out.trans (hb_w116.mono (by have := HB109.out.size; omega)))
 have hz116 : w.heap.size + 1 + 1 + 1 + 1 + 1 ≤ w116.heap.size := by omega
 have hn_r7_16 : w.heap.size + 1 + 1 + 1 + 1 + 1 ≤ g_r7_16 := by have := hN_r7_16; omega
 have hn_r7_17 : w.heap.size + 1 + 1 + 1 + 1 + 1 ≤ g_r7_17 := by have := hN_r7_17; omega
 clear hF_w116 hb_w116 HH_r7_16 hG_r7_16 hN_r7_16 HH_r7_17 hG_r7_17 hN_r7_17
 clear sJ rO xF gS aBe oQ xU tY aBj lL lV aCe vM mG aAm aBc qL jE jC oV dO mA aCc tT iI nJ lO oP kM eU iU bN
 go_wp2_with fail
 refine HQ_.out _ _ _ ?_
 clear HQ_ Q_
 go_wp2_with fail
 (refine pin_wp (N := _) (Nat.le_refl _) (fun w117 hb_w117 hz_w117 => ?_); (try simp at hz_w117); (with_reducible apply cal2 (b := w.heap.size) hb_w117); (focus (go_simp; try exact ⟨rfl, rfl⟩)); intro aBn mT aCt iR; (with_reducible apply cal2 (b := w.heap.size + 1) hb_w117); (focus (go_simp; try exact ⟨rfl, rfl⟩)); intro vR lH uV uZ; (with_reducible apply cal6 (b := w.heap.size + 1 + 1 + 1) hb_w117); (focus (go_simp; try exact ⟨rfl, rfl, rfl, rfl, rfl, rfl⟩)); intro yP iC uA aBh bP zY oO bM; (with_reducible apply cal6 (b := w.heap.size + 1 + 1 + 1 + 1) hb_w117); (focus (go_simp; try exact ⟨rfl, rfl, rfl, rfl, rfl, rfl⟩)); intro aDc mV vY uP vA dA zI aAu; (with_reducible apply cal2 (b := w108.heap.size) hb_w117); (focus (go_simp; try exact ⟨rfl, rfl⟩)); intro aBu aAx uE sH; (with_reducible apply cal2 (b := g_r7_16) hb_w117); (focus (go_simp; try exact ⟨rfl, rfl⟩)); intro nE qW vW rL; (with_reducible apply cal2 (b := g_r7_17) hb_w117); (focus (go_simp; try exact ⟨rfl, rfl⟩)); intro sL bC oS dT); refine wp_q (fun Q_ HQ_ => ?_); refine wp_region_floatQ w117.heap.size 12 [12, 13] (Nat.le_refl _) (fun _ => True) trivial Cl.tt (by kernel_rfl) (by kernel_rfl) ?_
 clear H110
 clear H111
 clear H113
 clear H114
 replace H108 := hQ0 (IsC.below (v := .agg #[.bool s108, .slice A108 n108 c108]) (z := (32 * M)) (by ((with_reducible (repeat (first | exact H108.out | refine IsC.al ?_ _ | apply IsC.st1))) <;> (first | (with_reducible assumption) | (intro _ e; cases e; done) | (go_simp; first | done | exact rfl)))) hb_w117)
 replace H112 := hQ0 (IsC.below (v := .agg #[.bool s112, .slice A112 n112 c112]) (z := J1) (by ((with_reducible (repeat (first | exact H112.out | refine IsC.al ?_ _ | apply IsC.st1))) <;> (first | (with_reducible assumption) | (intro _ e; cases e; done) | (go_simp; first | done | exact rfl)))) hb_w117)
 replace H115 := hQ0 (IsC.below (v := .agg #[.bool s115, .slice A115 n115 c115]) (z := J2) (by ((with_reducible (repeat (first | exact H115.out | refine IsC.al ?_ _ | apply IsC.st1))) <;> (first | (with_reducible assumption) | (intro _ e; cases e; done) | (go_simp; first | done | exact rfl)))) hb_w117)
 have HB117 := hQ0 (show Below w.heap.size w w117 by have hB := HB116.out; ((with_reducible (repeat (first | exact bR _ _ | apply bS | apply bA | apply bD | refine bT ?_ (by assumption) ?_ | refine bO (by assumption) ?_ ?_))) <;> (first | omega | (simp <;> omega))))
 have hz117 : w.heap.size + 1 + 1 + 1 + 1 + 1 ≤ w117.heap.size := by omega
 clear hb_w117
 clear aN aS oC aE aP oZ oK aAv sF aAr eC dF tJ aCi jB kW vO xK fH xD yO aA6 aAj rG jO eW xW gC yX iJ aAn aBy bF aCy eG rQ zG dW
 refine wpQI_start [0, 1] ?_; (iterate 2 (first | (apply wpQI_step (zA rfl) (by kernel_rfl) (by exact rfl); (focus (intro W' hS; have hcS := hS.cells; go_simp; (iterate 2 (first | done | exact rfl | exact bB _ | go_simp)))); intro K hK; go_simp; (try go_bits); refine hK _ ?_; clear hK K))); refine wpQI_nil ?_
 refine wpQI_start [3] ?_; (iterate 1 (first | (apply wpQI_step (zA rfl) (by kernel_rfl) (by exact rfl); (focus (intro W' hS; have hcS := hS.cells; go_simp; (iterate 2 (first | done | exact rfl | exact bB _ | go_simp)))); intro K hK; go_simp; (try go_bits); refine hK _ ?_; clear hK K))); refine wpQI_nil ?_
 refine wpQI_start [5, 6] ?_; (iterate 2 (first | (apply wpQI_step (zA rfl) (by kernel_rfl) (by exact rfl); (focus (intro W' hS; have hcS := hS.cells; go_simp; (iterate 2 (first | done | exact rfl | exact bB _ | go_simp)))); intro K hK; go_simp; (try go_bits); refine hK _ ?_; clear hK K))); refine wpQI_nil ?_
 refine wpQI_start [8] ?_; (iterate 1 (first | (apply wpQI_step (zA rfl) (by kernel_rfl) (by exact rfl); (focus (intro W' hS; have hcS := hS.cells; go_simp; (iterate 2 (first | done | exact rfl | exact bB _ | go_simp)))); intro K hK; go_simp; (try go_bits); refine hK _ ?_; clear hK K))); refine wpQI_nil ?_
 apply wpQ_call (i := 2) (zA rfl) (by kernel_rfl) (by exact rfl); intro W hF hS; have hcS := hS.1.cells; go_simp; (go_at_call 44; refine (K19.out _).mono ?_; rintro e w118 ⟨hb_w118, v118, rfl, hv118⟩; refine XPost.mk _ (fun W => IsC W v118 (v1)) hb_w118 (hv118) (IsC.cl _ _) ?_); clear hb_w118 hcS hS hF
 intro K hK; go_simp; (try go_bits); refine hK _ ?_; clear hK K
 obtain ⟨s118, A118, n118, c118, rfl⟩ := IsC.val hv118
 clear hv118
 apply wpQ_call (i := 4) (zA rfl) (by kernel_rfl) (by exact rfl); intro W hF hS; have hcS := hS.1.cells; go_simp; (go_at_call 40; refine (K20.out _ _ _ (hF.zl L11.out) ((H108.out.below hS.1.2).zl L5.out)).mono ?_; rintro e w119 ⟨hb_w119, v119, rfl, hv119⟩; refine XPost.mk _ (fun W => IsC W v119 (A1)) hb_w119 (hv119) (IsC.cl _ _) ?_); clear hb_w119 hcS hS hF
 intro K hK; go_simp; (try go_bits); refine hK _ ?_; clear hK K
 obtain ⟨s119, A119, n119, c119, rfl⟩ := IsC.val hv119
 clear hv119
 apply wpQ_call (i := 7) (zA rfl) (by kernel_rfl) (by exact rfl); intro W hF hS; have hcS := hS.1.cells; go_simp; (go_at_call 44; refine (K21.out _).mono ?_; rintro e w120 ⟨hb_w120, v120, rfl, hv120⟩; refine XPost.mk _ (fun W => IsC W v120 (v2)) hb_w120 (hv120) (IsC.cl _ _) ?_); clear hb_w120 hcS hS hF
 intro K hK; go_simp; (try go_bits); refine hK _ ?_; clear hK K
 obtain ⟨s120, A120, n120, c120, rfl⟩ := IsC.val hv120
 clear hv120
 apply wpQ_call (i := 9) (zA rfl) (by kernel_rfl) (by exact rfl); intro W hF hS; have hcS := hS.1.cells; go_simp; (go_at_call 40; refine (K22.out _ _ _ (hF.2.zl L12.out) ((H108.out.below hS.1.2).zl L5.out)).mono ?_; rintro e w121 ⟨hb_w121, v121, rfl, hv121⟩; refine XPost.mk _ (fun W => IsC W v121 (A2)) hb_w121 (hv121) (IsC.cl _ _) ?_); clear hb_w121 hcS hS hF
 intro K hK; go_simp; (try go_bits); refine hK _ ?_; clear hK K
 obtain ⟨s121, A121, n121, c121, rfl⟩ := IsC.val hv121
 clear hv121
 apply wpQ_fresh (i := 10) LInv.std (zA rfl) (by kernel_rfl) (fun g => Value.pointer (some ⟨g, 0, none⟩)) (by exact rfl); (focus (intro W; go_simp; first | done | exact rfl | exact ⟨rfl, rfl⟩))
 intro g_r8_10 hN_r8_10 hG_r8_10 K hK
 go_simp; refine hK _ ?_; clear hK K
 apply wpQ_fresh (i := 11) LInv.std (zA rfl) (by kernel_rfl) (fun g => Value.pointer (some ⟨g, 0, none⟩)) (by exact rfl); (focus (intro W; go_simp; first | done | exact rfl | exact ⟨rfl, rfl⟩))
 intro g_r8_11 hN_r8_11 hG_r8_11 K hK
 go_simp; refine hK _ ?_; clear hK K
 have hne_r8_10_r8_11 : g_r8_10 ≠ g_r8_11 := hG_r8_11 _ (List.mem_cons_self ..)
 have hne_r8_11_r8_10 : g_r8_11 ≠ g_r8_10 := Ne.symm hne_r8_10_r8_11
 have hne : w.heap.size ≠ g_r8_10 ∧ g_r8_10 ≠ w.heap.size := by have := hN_r8_10; omega
 have hne : w.heap.size ≠ g_r8_11 ∧ g_r8_11 ≠ w.heap.size := by have := hN_r8_11; omega
 have hne : w.heap.size + 1 ≠ g_r8_10 ∧ g_r8_10 ≠ w.heap.size + 1 := by have := hN_r8_10; omega
 have hne : w.heap.size + 1 ≠ g_r8_11 ∧ g_r8_11 ≠ w.heap.size + 1 := by have := hN_r8_11; omega
 have hne : w.heap.size + 1 + 1 ≠ g_r8_10 ∧ g_r8_10 ≠ w.heap.size + 1 + 1 := by have := hN_r8_10; omega
 have hne : w.heap.size + 1 + 1 ≠ g_r8_11 ∧ g_r8_11 ≠ w.heap.size + 1 + 1 := by have := hN_r8_11; omega
 have hne : w.heap.size + 1 + 1 + 1 ≠ g_r8_10 ∧ g_r8_10 ≠ w.heap.size + 1 + 1 + 1 := by have := hN_r8_10; omega
 have hne : w.heap.size + 1 + 1 + 1 ≠ g_r8_11 ∧ g_r8_11 ≠ w.heap.size + 1 + 1 + 1 := by have := hN_r8_11; omega
 have hne : w.heap.size + 1 + 1 + 1 + 1 ≠ g_r8_10 ∧ g_r8_10 ≠ w.heap.size + 1 + 1 + 1 + 1 := by have := hN_r8_10; omega
 have hne : w.heap.size + 1 + 1 + 1 + 1 ≠ g_r8_11 ∧ g_r8_11 ≠ w.heap.size + 1 + 1 + 1 + 1 := by have := hN_r8_11; omega
 have hne : w108.heap.size ≠ g_r8_10 ∧ g_r8_10 ≠ w108.heap.size := by have := hN_r8_10; omega
 have hne : w108.heap.size ≠ g_r8_11 ∧ g_r8_11 ≠ w108.heap.size := by have := hN_r8_11; omega
 have hne : g_r7_16 ≠ g_r8_10 ∧ g_r8_10 ≠ g_r7_16 := by have := hN_r8_10; omega
 have hne : g_r7_16 ≠ g_r8_11 ∧ g_r8_11 ≠ g_r7_16 := by have := hN_r8_11; omega
 have hne : g_r7_17 ≠ g_r8_10 ∧ g_r8_10 ≠ g_r7_17 := by have := hN_r8_10; omega
 have hne : g_r7_17 ≠ g_r8_11 ∧ g_r8_11 ≠ g_r7_17 := by have := hN_r8_11; omega
 refine wpQ_done (by kernel_rfl) ?_
 intro w122 hF_w122 hSG
 have hz_w122 := hSG.1.1
 have hb_w122 := hSG.1.2
 have hB_r8_11 := (hSG.2 _ (List.mem_cons_self ..)).2; simp only at hB_r8_11; have hl_r8_11 := (hSG.size (List.mem_cons_self ..)); simp only at hl_r8_11
 have aX := cell_of_row w122 g_r8_11 0 _ _ _ hB_r8_11; simp only [List.getElem?_toArray, List.getElem?_cons_zero] at aX
 have aI := cell_of_row w122 g_r8_11 1 _ _ _ hB_r8_11; simp only [List.getElem?_toArray, List.getElem?_cons_zero, List.getElem?_cons_succ] at aI
 have lA : (∀ o, w122.frozen? ⟨g_r8_11, o, none⟩ = false) := (fun o => frozen_of_row w122 g_r8_11 o _ _ hB_r8_11); have HH_r8_11 := hQ0 hB_r8_11; clear hB_r8_11
 have hB_r8_10 := (hSG.2 _ (List.mem_cons_of_mem _ (List.mem_cons_self ..))).2; simp only at hB_r8_10; have hl_r8_10 := (hSG.size (List.mem_cons_of_mem _ (List.mem_cons_self ..))); simp only at hl_r8_10
 have aA := cell_of_row w122 g_r8_10 0 _ _ _ hB_r8_10; simp only [List.getElem?_toArray, List.getElem?_cons_zero] at aA
 have aV := cell_of_row w122 g_r8_10 1 _ _ _ hB_r8_10; simp only [List.getElem?_toArray, List.getElem?_cons_zero, List.getElem?_cons_succ] at aV
 have fC : (∀ o, w122.frozen? ⟨g_r8_10, o, none⟩ = false) := (fun o => frozen_of_row w122 g_r8_10 o _ _ hB_r8_10); have HH_r8_10 := hQ0 hB_r8_10; clear hB_r8_10
 clear hSG
 (with_reducible apply cel2 (b := w.heap.size) hb_w122); ((try simp) <;> omega); omega; (iterate 2 (focus (go_simp; try exact rfl))); (intro o; go_simp); intro nF lY bH dU; (with_reducible apply cel2 (b := w.heap.size + 1) hb_w122); ((try simp) <;> omega); omega; (iterate 2 (focus (go_simp; try exact rfl))); (intro o; go_simp); intro qH eB aCo qE; (with_reducible apply cel6 (b := w.heap.size + 1 + 1 + 1) hb_w122); ((try simp) <;> omega); omega; (iterate 6 (focus (go_simp; try exact rfl))); (intro o; go_simp); intro vK bX aC4 vU qF aAs jD sZ; (with_reducible apply cel6 (b := w.heap.size + 1 + 1 + 1 + 1) hb_w122); ((try simp) <;> omega); omega; (iterate 6 (focus (go_simp; try exact rfl))); (intro o; go_simp); intro vB aBr kQ eR iK eY eK uU; (with_reducible apply cel2 (b := w108.heap.size) hb_w122); ((try simp) <;> omega); omega; (iterate 2 (focus (go_simp; try exact rfl))); (intro o; go_simp); intro rW tW zO lJ; (with_reducible apply cel2 (b := g_r7_16) hb_w122); ((try simp) <;> omega); omega; (iterate 2 (focus (go_simp; try exact rfl))); (intro o; go_simp); intro jR lB uY iN; (with_reducible apply cel2 (b := g_r7_17) hb_w122); ((try simp) <;> omega); omega; (iterate 2 (focus (go_simp; try exact rfl))); (intro o; go_simp); intro vF bG aCb lE
 (try simp only [List.filterMap_cons, List.filterMap_nil, List.getElem?_cons_succ, List.getElem?_cons_zero])
 replace H108 := hQ0 (H108.out.below hb_w122)
 replace H112 := hQ0 (H112.out.below hb_w122)
 replace H115 := hQ0 (H115.out.below hb_w122)
 have H118 := hQ0 (show IsC w122 (.agg #[.bool s118, .slice A118 n118 c118]) (v1) from hF_w122.1.1.1)
 have H119 := hQ0 (show IsC w122 (.agg #[.bool s119, .slice A119 n119 c119]) (A1) from hF_w122.1.1.2)
 have H120 := hQ0 (show IsC w122 (.agg #[.bool s120, .slice A120 n120 c120]) (v2) from hF_w122.1.2)
 have H121 := hQ0 (show IsC w122 (.agg #[.bool s121, .slice A121 n121 c121]) (A2) from hF_w122.2)
 have HB122 := hQ0 (HB117.out.trans (hb_w122.mono (by have := HB117.out.size; omega)))
 have hz122 : w.heap.size + 1 + 1 + 1 + 1 + 1 ≤ w122.heap.size := by omega
 have hn_r8_10 : w.heap.size + 1 + 1 + 1 + 1 + 1 ≤ g_r8_10 := by have := hN_r8_10; omega
 have hn_r8_11 : w.heap.size + 1 + 1 + 1 + 1 + 1 ≤ g_r8_11 := by have := hN_r8_11; omega
 clear hF_w122 hb_w122 HH_r8_10 hG_r8_10 hN_r8_10 HH_r8_11 hG_r8_11 hN_r8_11
 clear aBn mT aCt iR vR lH uV uZ yP iC uA aBh bP zY oO bM aDc mV vY uP vA dA zI aAu aBu aAx uE sH nE qW vW rL sL bC oS dT
 go_wp2_with fail
 refine HQ_.out _ _ _ ?_
 clear HQ_ Q_
 go_wp2_with fail
 (refine pin_wp (N := _) (Nat.le_refl _) (fun w123 hb_w123 hz_w123 => ?_); (try simp at hz_w123); (with_reducible apply cal2 (b := w.heap.size + 1) hb_w123); (focus (go_simp; try exact ⟨rfl, rfl⟩)); intro mU zT fZ aDd; (with_reducible apply cal6 (b := w.heap.size + 1 + 1 + 1) hb_w123); (focus (go_simp; try exact ⟨rfl, rfl, rfl, rfl, rfl, rfl⟩)); intro qY nT qU iX aBw mX aB8 sK; (with_reducible apply cal6 (b := w.heap.size + 1 + 1 + 1 + 1) hb_w123); (focus (go_simp; try exact ⟨rfl, rfl, rfl, rfl, rfl, rfl⟩)); intro aAw rB gQ sY aA7 aDa dM zU; (with_reducible apply cal2 (b := w108.heap.size) hb_w123); (focus (go_simp; try exact ⟨rfl, rfl⟩)); intro iS fX xZ bI; (with_reducible apply cal2 (b := g_r7_16) hb_w123); (focus (go_simp; try exact ⟨rfl, rfl⟩)); intro vE fO lG eQ; (with_reducible apply cal2 (b := g_r7_17) hb_w123); (focus (go_simp; try exact ⟨rfl, rfl⟩)); intro aA4 kH sR vN; (with_reducible apply cal2 (b := g_r8_10) hb_w123); (focus (go_simp; try exact ⟨rfl, rfl⟩)); intro qI vP tU yN; (with_reducible apply cal2 (b := g_r8_11) hb_w123); (focus (go_simp; try exact ⟨rfl, rfl⟩)); intro aCz qN zL nZ); refine wp_q (fun Q_ HQ_ => ?_); refine wp_region_floatQ w123.heap.size 12 [12, 13] (Nat.le_refl _) (fun _ => True) trivial Cl.tt (by kernel_rfl) (by kernel_rfl) ?_
 clear H118
 clear H120
 replace H108 := hQ0 (IsC.below (v := .agg #[.bool s108, .slice A108 n108 c108]) (z := (32 * M)) (by ((with_reducible (repeat (first | exact H108.out | refine IsC.al ?_ _ | apply IsC.st1))) <;> (first | (with_reducible assumption) | (intro _ e; cases e; done) | (go_simp; first | done | exact rfl)))) hb_w123)
 replace H112 := hQ0 (IsC.below (v := .agg #[.bool s112, .slice A112 n112 c112]) (z := J1) (by ((with_reducible (repeat (first | exact H112.out | refine IsC.al ?_ _ | apply IsC.st1))) <;> (first | (with_reducible assumption) | (intro _ e; cases e; done) | (go_simp; first | done | exact rfl)))) hb_w123)
 replace H115 := hQ0 (IsC.below (v := .agg #[.bool s115, .slice A115 n115 c115]) (z := J2) (by ((with_reducible (repeat (first | exact H115.out | refine IsC.al ?_ _ | apply IsC.st1))) <;> (first | (with_reducible assumption) | (intro _ e; cases e; done) | (go_simp; first | done | exact rfl)))) hb_w123)
 replace H119 := hQ0 (IsC.below (v := .agg #[.bool s119, .slice A119 n119 c119]) (z := A1) (by ((with_reducible (repeat (first | exact H119.out | refine IsC.al ?_ _ | apply IsC.st1))) <;> (first | (with_reducible assumption) | (intro _ e; cases e; done) | (go_simp; first | done | exact rfl)))) hb_w123)
 replace H121 := hQ0 (IsC.below (v := .agg #[.bool s121, .slice A121 n121 c121]) (z := A2) (by ((with_reducible (repeat (first | exact H121.out | refine IsC.al ?_ _ | apply IsC.st1))) <;> (first | (with_reducible assumption) | (intro _ e; cases e; done) | (go_simp; first | done | exact rfl)))) hb_w123)
 have HB123 := hQ0 (show Below w.heap.size w w123 by have hB := HB122.out; ((with_reducible (repeat (first | exact bR _ _ | apply bS | apply bA | apply bD | refine bT ?_ (by assumption) ?_ | refine bO (by assumption) ?_ ?_))) <;> (first | omega | (simp <;> omega))))
 have hz123 : w.heap.size + 1 + 1 + 1 + 1 + 1 ≤ w123.heap.size := by omega
 clear hb_w123
 clear aX aI lA aA aV fC nF lY bH dU qH eB aCo qE vK bX aC4 vU qF aAs jD sZ vB aBr kQ eR iK eY eK uU rW tW zO lJ jR lB uY iN vF bG aCb lE
 refine wpQI_start [0, 1] ?_; (iterate 2 (first | (apply wpQI_step (zA rfl) (by kernel_rfl) (by exact rfl); (focus (intro W' hS; have hcS := hS.cells; go_simp; (iterate 2 (first | done | exact rfl | exact bB _ | go_simp)))); intro K hK; go_simp; (try go_bits); refine hK _ ?_; clear hK K))); refine wpQI_nil ?_
 refine wpQI_start [3] ?_; (iterate 1 (first | (apply wpQI_step (zA rfl) (by kernel_rfl) (by exact rfl); (focus (intro W' hS; have hcS := hS.cells; go_simp; (iterate 2 (first | done | exact rfl | exact bB _ | go_simp)))); intro K hK; go_simp; (try go_bits); refine hK _ ?_; clear hK K))); refine wpQI_nil ?_
 refine wpQI_start [5, 6] ?_; (iterate 2 (first | (apply wpQI_step (zA rfl) (by kernel_rfl) (by exact rfl); (focus (intro W' hS; have hcS := hS.cells; go_simp; (iterate 2 (first | done | exact rfl | exact bB _ | go_simp)))); intro K hK; go_simp; (try go_bits); refine hK _ ?_; clear hK K))); refine wpQI_nil ?_
 refine wpQI_start [8] ?_; (iterate 1 (first | (apply wpQI_step (zA rfl) (by kernel_rfl) (by exact rfl); (focus (intro W' hS; have hcS := hS.cells; go_simp; (iterate 2 (first | done | exact rfl | exact bB _ | go_simp)))); intro K hK; go_simp; (try go_bits); refine hK _ ?_; clear hK K))); refine wpQI_nil ?_
 apply wpQ_call (i := 2) (zA rfl) (by kernel_rfl) (by exact rfl); intro W hF hS; have hcS := hS.1.cells; go_simp; (go_at_call 44; refine (K23.out _).mono ?_; rintro e w124 ⟨hb_w124, v124, rfl, hv124⟩; refine XPost.mk _ (fun W => IsC W v124 (w1)) hb_w124 (hv124) (IsC.cl _ _) ?_); clear hb_w124 hcS hS hF
 intro K hK; go_simp; (try go_bits); refine hK _ ?_; clear hK K
 obtain ⟨s124, A124, n124, c124, rfl⟩ := IsC.val hv124
 clear hv124
 apply wpQ_call (i := 4) (zA rfl) (by kernel_rfl) (by exact rfl); intro W hF hS; have hcS := hS.1.cells; go_simp; (go_at_call 40; refine (K24.out _ _ _ (hF.zl L13.out) ((H108.out.below hS.1.2).zl L5.out)).mono ?_; rintro e w125 ⟨hb_w125, v125, rfl, hv125⟩; refine XPost.mk _ (fun W => IsC W v125 (B1)) hb_w125 (hv125) (IsC.cl _ _) ?_); clear hb_w125 hcS hS hF
 intro K hK; go_simp; (try go_bits); refine hK _ ?_; clear hK K
 obtain ⟨s125, A125, n125, c125, rfl⟩ := IsC.val hv125
 clear hv125
 apply wpQ_call (i := 7) (zA rfl) (by kernel_rfl) (by exact rfl); intro W hF hS; have hcS := hS.1.cells; go_simp; (go_at_call 44; refine (K25.out _).mono ?_; rintro e w126 ⟨hb_w126, v126, rfl, hv126⟩; refine XPost.mk _ (fun W => IsC W v126 (w2)) hb_w126 (hv126) (IsC.cl _ _) ?_); clear hb_w126 hcS hS hF
 intro K hK; go_simp; (try go_bits); refine hK _ ?_; clear hK K
 obtain ⟨s126, A126, n126, c126, rfl⟩ := IsC.val hv126
 clear hv126
 apply wpQ_call (i := 9) (zA rfl) (by kernel_rfl) (by exact rfl); intro W hF hS; have hcS := hS.1.cells; go_simp; (go_at_call 40; refine (K26.out _ _ _ (hF.2.zl L14.out) ((H108.out.below hS.1.2).zl L5.out)).mono ?_; rintro e w127 ⟨hb_w127, v127, rfl, hv127⟩; refine XPost.mk _ (fun W => IsC W v127 (B2)) hb_w127 (hv127) (IsC.cl _ _) ?_); clear hb_w127 hcS hS hF
 intro K hK; go_simp; (try go_bits); refine hK _ ?_; clear hK K
 obtain ⟨s127, A127, n127, c127, rfl⟩ := IsC.val hv127
 clear hv127
 apply wpQ_fresh (i := 10) LInv.std (zA rfl) (by kernel_rfl) (fun g => Value.pointer (some ⟨g, 0, none⟩)) (by exact rfl); (focus (intro W; go_simp; first | done | exact rfl | exact ⟨rfl, rfl⟩))
 intro g_r9_10 hN_r9_10 hG_r9_10 K hK
 go_simp; refine hK _ ?_; clear hK K
 apply wpQ_fresh (i := 11) LInv.std (zA rfl) (by kernel_rfl) (fun g => Value.pointer (some ⟨g, 0, none⟩)) (by exact rfl); (focus (intro W; go_simp; first | done | exact rfl | exact ⟨rfl, rfl⟩))
 intro g_r9_11 hN_r9_11 hG_r9_11 K hK
 go_simp; refine hK _ ?_; clear hK K
 have hne_r9_10_r9_11 : g_r9_10 ≠ g_r9_11 := hG_r9_11 _ (List.mem_cons_self ..)
 have hne_r9_11_r9_10 : g_r9_11 ≠ g_r9_10 := Ne.symm hne_r9_10_r9_11
 have hne : w.heap.size ≠ g_r9_10 ∧ g_r9_10 ≠ w.heap.size := by have := hN_r9_10; omega
 have hne : w.heap.size ≠ g_r9_11 ∧ g_r9_11 ≠ w.heap.size := by have := hN_r9_11; omega
 have hne : w.heap.size + 1 ≠ g_r9_10 ∧ g_r9_10 ≠ w.heap.size + 1 := by have := hN_r9_10; omega
 have hne : w.heap.size + 1 ≠ g_r9_11 ∧ g_r9_11 ≠ w.heap.size + 1 := by have := hN_r9_11; omega
 have hne : w.heap.size + 1 + 1 ≠ g_r9_10 ∧ g_r9_10 ≠ w.heap.size + 1 + 1 := by have := hN_r9_10; omega
 have hne : w.heap.size + 1 + 1 ≠ g_r9_11 ∧ g_r9_11 ≠ w.heap.size + 1 + 1 := by have := hN_r9_11; omega
 have hne : w.heap.size + 1 + 1 + 1 ≠ g_r9_10 ∧ g_r9_10 ≠ w.heap.size + 1 + 1 + 1 := by have := hN_r9_10; omega
 have hne : w.heap.size + 1 + 1 + 1 ≠ g_r9_11 ∧ g_r9_11 ≠ w.heap.size + 1 + 1 + 1 := by have := hN_r9_11; omega
 have hne : w.heap.size + 1 + 1 + 1 + 1 ≠ g_r9_10 ∧ g_r9_10 ≠ w.heap.size + 1 + 1 + 1 + 1 := by have := hN_r9_10; omega
 have hne : w.heap.size + 1 + 1 + 1 + 1 ≠ g_r9_11 ∧ g_r9_11 ≠ w.heap.size + 1 + 1 + 1 + 1 := by have := hN_r9_11; omega
 have hne : w108.heap.size ≠ g_r9_10 ∧ g_r9_10 ≠ w108.heap.size := by have := hN_r9_10; omega
 have hne : w108.heap.size ≠ g_r9_11 ∧ g_r9_11 ≠ w108.heap.size := by have := hN_r9_11; omega
 have hne : g_r7_16 ≠ g_r9_10 ∧ g_r9_10 ≠ g_r7_16 := by have := hN_r9_10; omega
 have hne : g_r7_16 ≠ g_r9_11 ∧ g_r9_11 ≠ g_r7_16 := by have := hN_r9_11; omega
 have hne : g_r7_17 ≠ g_r9_10 ∧ g_r9_10 ≠ g_r7_17 := by have := hN_r9_10; omega
 have hne : g_r7_17 ≠ g_r9_11 ∧ g_r9_11 ≠ g_r7_17 := by have := hN_r9_11; omega
 have hne : g_r8_10 ≠ g_r9_10 ∧ g_r9_10 ≠ g_r8_10 := by have := hN_r9_10; omega
 have hne : g_r8_10 ≠ g_r9_11 ∧ g_r9_11 ≠ g_r8_10 := by have := hN_r9_11; omega
 have hne : g_r8_11 ≠ g_r9_10 ∧ g_r9_10 ≠ g_r8_11 := by have := hN_r9_10; omega
 have hne : g_r8_11 ≠ g_r9_11 ∧ g_r9_11 ≠ g_r8_11 := by have := hN_r9_11; omega
 refine wpQ_done (by kernel_rfl) ?_
 intro w128 hF_w128 hSG
 have hz_w128 := hSG.1.1
 have hb_w128 := hSG.1.2
 have hB_r9_11 := (hSG.2 _ (List.mem_cons_self ..)).2; simp only at hB_r9_11; have hl_r9_11 := (hSG.size (List.mem_cons_self ..)); simp only at hl_r9_11
 have aC := cell_of_row w128 g_r9_11 0 _ _ _ hB_r9_11; simp only [List.getElem?_toArray, List.getElem?_cons_zero] at aC
 have aW := cell_of_row w128 g_r9_11 1 _ _ _ hB_r9_11; simp only [List.getElem?_toArray, List.getElem?_cons_zero, List.getElem?_cons_succ] at aW
 have iT : (∀ o, w128.frozen? ⟨g_r9_11, o, none⟩ = false) := (fun o => frozen_of_row w128 g_r9_11 o _ _ hB_r9_11); have HH_r9_11 := hQ0 hB_r9_11; clear hB_r9_11
 have hB_r9_10 := (hSG.2 _ (List.mem_cons_of_mem _ (List.mem_cons_self ..))).2; simp only at hB_r9_10; have hl_r9_10 := (hSG.size (List.mem_cons_of_mem _ (List.mem_cons_self ..))); simp only at hl_r9_10
 have aQ := cell_of_row w128 g_r9_10 0 _ _ _ hB_r9_10; simp only [List.getElem?_toArray, List.getElem?_cons_zero] at aQ
 have aT := cell_of_row w128 g_r9_10 1 _ _ _ hB_r9_10; simp only [List.getElem?_toArray, List.getElem?_cons_zero, List.getElem?_cons_succ] at aT
 have aDb : (∀ o, w128.frozen? ⟨g_r9_10, o, none⟩ = false) := (fun o => frozen_of_row w128 g_r9_10 o _ _ hB_r9_10); have HH_r9_10 := hQ0 hB_r9_10; clear hB_r9_10
 clear hSG
 (with_reducible apply cel2 (b := w.heap.size + 1) hb_w128); ((try simp) <;> omega); omega; (iterate 2 (focus (go_simp; try exact rfl))); (intro o; go_simp); intro mH bJ bL sT; (with_reducible apply cel6 (b := w.heap.size + 1 + 1 + 1) hb_w128); ((try simp) <;> omega); omega; (iterate 6 (focus (go_simp; try exact rfl))); (intro o; go_simp); intro mR gJ vQ aAg kA fW kI tH; (with_reducible apply cel6 (b := w.heap.size + 1 + 1 + 1 + 1) hb_w128); ((try simp) <;> omega); omega; (iterate 6 (focus (go_simp; try exact rfl))); (intro o; go_simp); intro lU fY rR aAa sM jF aA9 nI; (with_reducible apply cel2 (b := w108.heap.size) hb_w128); ((try simp) <;> omega); omega; (iterate 2 (focus (go_simp; try exact rfl))); (intro o; go_simp); intro kP dQ yZ dC; (with_reducible apply cel2 (b := g_r7_16) hb_w128); ((try simp) <;> omega); omega; (iterate 2 (focus (go_simp; try exact rfl))); (intro o; go_simp); intro gZ aCs tM aAh; (with_reducible apply cel2 (b := g_r7_17) hb_w128); ((try simp) <;> omega); omega; (iterate 2 (focus (go_simp; try exact rfl))); (intro o; go_simp); intro xI nC sW sB; (with_reducible apply cel2 (b := g_r8_10) hb_w128); ((try simp) <;> omega); omega; (iterate 2 (focus (go_simp; try exact rfl))); (intro o; go_simp); intro yY sG qZ aCx; (with_reducible apply cel2 (b := g_r8_11) hb_w128); ((try simp) <;> omega); omega; (iterate 2 (focus (go_simp; try exact rfl))); (intro o; go_simp); intro uH dG dX aCk
 (try simp only [List.filterMap_cons, List.filterMap_nil, List.getElem?_cons_succ, List.getElem?_cons_zero])
 replace H108 := hQ0 (H108.out.below hb_w128)
 replace H112 := hQ0 (H112.out.below hb_w128)
 replace H115 := hQ0 (H115.out.below hb_w128)
 replace H119 := hQ0 (H119.out.below hb_w128)
 replace H121 := hQ0 (H121.out.below hb_w128)
 have H124 := hQ0 (show IsC w128 (.agg #[.bool s124, .slice A124 n124 c124]) (w1) from hF_w128.1.1.1)
 have H125 := hQ0 (show IsC w128 (.agg #[.bool s125, .slice A125 n125 c125]) (B1) from hF_w128.1.1.2)
 have H126 := hQ0 (show IsC w128 (.agg #[.bool s126, .slice A126 n126 c126]) (w2) from hF_w128.1.2)
 have H127 := hQ0 (show IsC w128 (.agg #[.bool s127, .slice A127 n127 c127]) (B2) from hF_w128.2)
 have HB128 := hQ0 (HB123.out.trans (hb_w128.mono (by have := HB123.out.size; omega)))
 have hz128 : w.heap.size + 1 + 1 + 1 + 1 + 1 ≤ w128.heap.size := by omega
 have hn_r9_10 : w.heap.size + 1 + 1 + 1 + 1 + 1 ≤ g_r9_10 := by have := hN_r9_10; omega
 have hn_r9_11 : w.heap.size + 1 + 1 + 1 + 1 + 1 ≤ g_r9_11 := by have := hN_r9_11; omega
 clear hF_w128 hb_w128 HH_r9_10 hG_r9_10 hN_r9_10 HH_r9_11 hG_r9_11 hN_r9_11
 clear mU zT fZ aDd qY nT qU iX aBw mX aB8 sK aAw rB gQ sY aA7 aDa dM zU iS fX xZ bI vE fO lG eQ aA4 kH sR vN qI vP tU yN aCz qN zL nZ
 go_wp2_with fail
 refine HQ_.out _ _ _ ?_
 clear HQ_ Q_
 go_wp2_with fail
 (refine pin_wp (N := _) (Nat.le_refl _) (fun w129 hb_w129 hz_w129 => ?_); (try simp at hz_w129); (with_reducible apply cal6 (b := w.heap.size + 1 + 1 + 1) hb_w129); (focus (go_simp; try exact ⟨rfl, rfl, rfl, rfl, rfl, rfl⟩)); intro xP aA0 qV rY jI eL mJ aBo; (with_reducible apply cal6 (b := w.heap.size + 1 + 1 + 1 + 1) hb_w129); (focus (go_simp; try exact ⟨rfl, rfl, rfl, rfl, rfl, rfl⟩)); intro iY jN iV kL zW gH zF tV; (with_reducible apply cal2 (b := w108.heap.size) hb_w129); (focus (go_simp; try exact ⟨rfl, rfl⟩)); intro fQ dL kB aAl; (with_reducible apply cal2 (b := g_r7_16) hb_w129); (focus (go_simp; try exact ⟨rfl, rfl⟩)); intro aCq fT jX zX; (with_reducible apply cal2 (b := g_r7_17) hb_w129); (focus (go_simp; try exact ⟨rfl, rfl⟩)); intro sI yR eD iZ; (with_reducible apply cal2 (b := g_r8_10) hb_w129); (focus (go_simp; try exact ⟨rfl, rfl⟩)); intro qO aC1 aAp aB0; (with_reducible apply cal2 (b := g_r8_11) hb_w129); (focus (go_simp; try exact ⟨rfl, rfl⟩)); intro aCr lN vL zV; (with_reducible apply cal2 (b := g_r9_10) hb_w129); (focus (go_simp; try exact ⟨rfl, rfl⟩)); intro rS yD zK fA; (with_reducible apply cal2 (b := g_r9_11) hb_w129); (focus (go_simp; try exact ⟨rfl, rfl⟩)); intro nX nU mN uW); refine wp_q (fun Q_ HQ_ => ?_); refine wp_region_floatQ w129.heap.size 9 [9] (Nat.le_refl _) (fun _ => True) trivial Cl.tt (by kernel_rfl) (by kernel_rfl) ?_
 clear H124
 clear H126
 replace H108 := hQ0 (IsC.below (v := .agg #[.bool s108, .slice A108 n108 c108]) (z := (32 * M)) (by ((with_reducible (repeat (first | exact H108.out | refine IsC.al ?_ _ | apply IsC.st1))) <;> (first | (with_reducible assumption) | (intro _ e; cases e; done) | (go_simp; first | done | exact rfl)))) hb_w129)
 replace H112 := hQ0 (IsC.below (v := .agg #[.bool s112, .slice A112 n112 c112]) (z := J1) (by ((with_reducible (repeat (first | exact H112.out | refine IsC.al ?_ _ | apply IsC.st1))) <;> (first | (with_reducible assumption) | (intro _ e; cases e; done) | (go_simp; first | done | exact rfl)))) hb_w129)
 replace H115 := hQ0 (IsC.below (v := .agg #[.bool s115, .slice A115 n115 c115]) (z := J2) (by ((with_reducible (repeat (first | exact H115.out | refine IsC.al ?_ _ | apply IsC.st1))) <;> (first | (with_reducible assumption) | (intro _ e; cases e; done) | (go_simp; first | done | exact rfl)))) hb_w129)
 replace H119 := hQ0 (IsC.below (v := .agg #[.bool s119, .slice A119 n119 c119]) (z := A1) (by ((with_reducible (repeat (first | exact H119.out | refine IsC.al ?_ _ | apply IsC.st1))) <;> (first | (with_reducible assumption) | (intro _ e; cases e; done) | (go_simp; first | done | exact rfl)))) hb_w129)
 replace H121 := hQ0 (IsC.below (v := .agg #[.bool s121, .slice A121 n121 c121]) (z := A2) (by ((with_reducible (repeat (first | exact H121.out | refine IsC.al ?_ _ | apply IsC.st1))) <;> (first | (with_reducible assumption) | (intro _ e; cases e; done) | (go_simp; first | done | exact rfl)))) hb_w129)
 replace H125 := hQ0 (IsC.below (v := .agg #[.bool s125, .slice A125 n125 c125]) (z := B1) (by ((with_reducible (repeat (first | exact H125.out | refine IsC.al ?_ _ | apply IsC.st1))) <;> (first | (with_reducible assumption) | (intro _ e; cases e; done) | (go_simp; first | done | exact rfl)))) hb_w129)
 replace H127 := hQ0 (IsC.below (v := .agg #[.bool s127, .slice A127 n127 c127]) (z := B2) (by ((with_reducible (repeat (first | exact H127.out | refine IsC.al ?_ _ | apply IsC.st1))) <;> (first | (with_reducible assumption) | (intro _ e; cases e; done) | (go_simp; first | done | exact rfl)))) hb_w129)
 have HB129 := hQ0 (show Below w.heap.size w w129 by have hB := HB128.out; ((with_reducible (repeat (first | exact bR _ _ | apply bS | apply bA | apply bD | refine bT ?_ (by assumption) ?_ | refine bO (by assumption) ?_ ?_))) <;> (first | omega | (simp <;> omega))))
 have hz129 : w.heap.size + 1 + 1 + 1 + 1 + 1 ≤ w129.heap.size := by omega
 clear hb_w129
 clear aC aW iT aQ aT aDb mH bJ bL sT mR gJ vQ aAg kA fW kI tH lU fY rR aAa sM jF aA9 nI kP dQ yZ dC gZ aCs tM aAh xI nC sW sB yY sG qZ aCx uH dG dX aCk
 refine wpQI_start [0, 1] ?_; (iterate 2 (first | (apply wpQI_step (zA rfl) (by kernel_rfl) (by exact rfl); (focus (intro W' hS; have hcS := hS.cells; go_simp; (iterate 2 (first | done | exact rfl | exact bB _ | go_simp)))); intro K hK; go_simp; (try go_bits); refine hK _ ?_; clear hK K))); refine wpQI_nil ?_
 refine wpQI_start [3, 4] ?_; (iterate 2 (first | (apply wpQI_step (zA rfl) (by kernel_rfl) (by exact rfl); (focus (intro W' hS; have hcS := hS.cells; go_simp; (iterate 2 (first | done | exact rfl | exact bB _ | go_simp)))); intro K hK; go_simp; (try go_bits); refine hK _ ?_; clear hK K))); refine wpQI_nil ?_
 refine wpQI_start [6] ?_; (iterate 1 (first | (apply wpQI_step (zA rfl) (by kernel_rfl) (by exact rfl); (focus (intro W' hS; have hcS := hS.cells; go_simp; (iterate 2 (first | done | exact rfl | exact bB _ | go_simp)))); intro K hK; go_simp; (try go_bits); refine hK _ ?_; clear hK K))); refine wpQI_nil ?_
 apply wpQ_call (i := 2) (zA rfl) (by kernel_rfl) (by exact rfl); intro W hF hS; have hcS := hS.1.cells; go_simp; (go_at_call 76; refine (K27.out _ _ _ ((H119.out.below hS.1.2).zl L15.out) ((H112.out.below hS.1.2).zl L9.out)).mono ?_; rintro e w130 ⟨hb_w130, v130, rfl, hv130⟩; refine XPost.mk _ (fun W => IsC W v130 (X1)) hb_w130 (hv130) (IsC.cl _ _) ?_); clear hb_w130 hcS hS hF
 intro K hK; go_simp; (try go_bits); refine hK _ ?_; clear hK K
 obtain ⟨s130, A130, n130, c130, rfl⟩ := IsC.val hv130
 clear hv130
 apply wpQ_call (i := 5) (zA rfl) (by kernel_rfl) (by exact rfl); intro W hF hS; have hcS := hS.1.cells; go_simp; (go_at_call 76; refine (K28.out _ _ _ ((H121.out.below hS.1.2).zl L16.out) ((H115.out.below hS.1.2).zl L10.out)).mono ?_; rintro e w131 ⟨hb_w131, v131, rfl, hv131⟩; refine XPost.mk _ (fun W => IsC W v131 (X2)) hb_w131 (hv131) (IsC.cl _ _) ?_); clear hb_w131 hcS hS hF
 intro K hK; go_simp; (try go_bits); refine hK _ ?_; clear hK K
 obtain ⟨s131, A131, n131, c131, rfl⟩ := IsC.val hv131
 clear hv131
 refine wpQI_start [7] ?_; (iterate 1 (first | (apply wpQI_step (zA rfl) (by kernel_rfl) (by exact rfl); (focus (intro W' hS; have hcS := hS.cells; go_simp; (iterate 2 (first | done | exact rfl | exact bB _ | go_simp)))); intro K hK; go_simp; (try go_bits); refine hK _ ?_; clear hK K))); refine wpQI_nil ?_
 apply wpQ_fresh (i := 8) LInv.std (zA rfl) (by kernel_rfl) (fun g => Value.pointer (some ⟨g, 0, none⟩)) (by exact rfl); (focus (intro W; go_simp; first | done | exact rfl | exact ⟨rfl, rfl⟩))
 intro g_r10_8 hN_r10_8 hG_r10_8 K hK
 go_simp; refine hK _ ?_; clear hK K
 have hne : w.heap.size ≠ g_r10_8 ∧ g_r10_8 ≠ w.heap.size := by have := hN_r10_8; omega
 have hne : w.heap.size + 1 ≠ g_r10_8 ∧ g_r10_8 ≠ w.heap.size + 1 := by have := hN_r10_8; omega
 have hne : w.heap.size + 1 + 1 ≠ g_r10_8 ∧ g_r10_8 ≠ w.heap.size + 1 + 1 := by have := hN_r10_8; omega
 have hne : w.heap.size + 1 + 1 + 1 ≠ g_r10_8 ∧ g_r10_8 ≠ w.heap.size + 1 + 1 + 1 := by have := hN_r10_8; omega
 have hne : w.heap.size + 1 + 1 + 1 + 1 ≠ g_r10_8 ∧ g_r10_8 ≠ w.heap.size + 1 + 1 + 1 + 1 := by have := hN_r10_8; omega
 have hne : w108.heap.size ≠ g_r10_8 ∧ g_r10_8 ≠ w108.heap.size := by have := hN_r10_8; omega
 have hne : g_r7_16 ≠ g_r10_8 ∧ g_r10_8 ≠ g_r7_16 := by have := hN_r10_8; omega
 have hne : g_r7_17 ≠ g_r10_8 ∧ g_r10_8 ≠ g_r7_17 := by have := hN_r10_8; omega
 have hne : g_r8_10 ≠ g_r10_8 ∧ g_r10_8 ≠ g_r8_10 := by have := hN_r10_8; omega
 have hne : g_r8_11 ≠ g_r10_8 ∧ g_r10_8 ≠ g_r8_11 := by have := hN_r10_8; omega
 have hne : g_r9_10 ≠ g_r10_8 ∧ g_r10_8 ≠ g_r9_10 := by have := hN_r10_8; omega
 have hne : g_r9_11 ≠ g_r10_8 ∧ g_r10_8 ≠ g_r9_11 := by have := hN_r10_8; omega
 refine wpQ_done (by kernel_rfl) ?_
 intro w132 hF_w132 hSG
 have hz_w132 := hSG.1.1
 have hb_w132 := hSG.1.2
 have hB_r10_8 := (hSG.2 _ (List.mem_cons_self ..)).2; simp only at hB_r10_8; have hl_r10_8 := (hSG.size (List.mem_cons_self ..)); simp only at hl_r10_8
 have aU := cell_of_row w132 g_r10_8 0 _ _ _ hB_r10_8; simp only [List.getElem?_toArray, List.getElem?_cons_zero] at aU
 have aG := cell_of_row w132 g_r10_8 1 _ _ _ hB_r10_8; simp only [List.getElem?_toArray, List.getElem?_cons_zero, List.getElem?_cons_succ] at aG
 have aK := cell_of_row w132 g_r10_8 2 _ _ _ hB_r10_8; simp only [List.getElem?_toArray, List.getElem?_cons_zero, List.getElem?_cons_succ] at aK
 have aM := cell_of_row w132 g_r10_8 3 _ _ _ hB_r10_8; simp only [List.getElem?_toArray, List.getElem?_cons_zero, List.getElem?_cons_succ] at aM
 have aL := cell_of_row w132 g_r10_8 4 _ _ _ hB_r10_8; simp only [List.getElem?_toArray, List.getElem?_cons_zero, List.getElem?_cons_succ] at aL
 have aH := cell_of_row w132 g_r10_8 5 _ _ _ hB_r10_8; simp only [List.getElem?_toArray, List.getElem?_cons_zero, List.getElem?_cons_succ] at aH
 have lW : (∀ o, w132.frozen? ⟨g_r10_8, o, none⟩ = false) := (fun o => frozen_of_row w132 g_r10_8 o _ _ hB_r10_8); have HH_r10_8 := hQ0 hB_r10_8; clear hB_r10_8
 clear hSG
 (with_reducible apply cel6 (b := w.heap.size + 1 + 1 + 1) hb_w132); ((try simp) <;> omega); omega; (iterate 6 (focus (go_simp; try exact rfl))); (intro o; go_simp); intro nA aDj yH sA fK kN aAf vG; (with_reducible apply cel6 (b := w.heap.size + 1 + 1 + 1 + 1) hb_w132); ((try simp) <;> omega); omega; (iterate 6 (focus (go_simp; try exact rfl))); (intro o; go_simp); intro aBl oT xR mS nR rE rC jT; (with_reducible apply cel2 (b := w108.heap.size) hb_w132); ((try simp) <;> omega); omega; (iterate 2 (focus (go_simp; try exact rfl))); (intro o; go_simp); intro aA5 oX qR zH; (with_reducible apply cel2 (b := g_r7_16) hb_w132); ((try simp) <;> omega); omega; (iterate 2 (focus (go_simp; try exact rfl))); (intro o; go_simp); intro gX xX gY uC; (with_reducible apply cel2 (b := g_r7_17) hb_w132); ((try simp) <;> omega); omega; (iterate 2 (focus (go_simp; try exact rfl))); (intro o; go_simp); intro oE tD eN aBk; (with_reducible apply cel2 (b := g_r8_10) hb_w132); ((try simp) <;> omega); omega; (iterate 2 (focus (go_simp; try exact rfl))); (intro o; go_simp); intro gF qX tP yG; (with_reducible apply cel2 (b := g_r8_11) hb_w132); ((try simp) <;> omega); omega; (iterate 2 (focus (go_simp; try exact rfl))); (intro o; go_simp); intro mB aB6 oB dR; (with_reducible apply cel2 (b := g_r9_10) hb_w132); ((try simp) <;> omega); omega; (iterate 2 (focus (go_simp; try exact rfl))); (intro o; go_simp); intro iQ mZ gP kG; (with_reducible apply cel2 (b := g_r9_11) hb_w132); ((try simp) <;> omega); omega; (iterate 2 (focus (go_simp; try exact rfl))); (intro o; go_simp); intro xA kC vJ uD
 (try simp only [List.filterMap_cons, List.filterMap_nil, List.getElem?_cons_succ, List.getElem?_cons_zero])
 clear H119
 clear H121
 replace H108 := hQ0 (H108.out.below hb_w132)
 replace H112 := hQ0 (H112.out.below hb_w132)
 replace H115 := hQ0 (H115.out.below hb_w132)
 replace H125 := hQ0 (H125.out.below hb_w132)
 replace H127 := hQ0 (H127.out.below hb_w132)
 have H130 := hQ0 (show IsC w132 (.agg #[.bool s130, .slice A130 n130 c130]) (X1) from hF_w132.1)
 have H131 := hQ0 (show IsC w132 (.agg #[.bool s131, .slice A131 n131 c131]) (X2) from hF_w132.2)
 have HB132 := hQ0 (HB129.out.trans (hb_w132.mono (by have := HB129.out.size; omega)))
 have hz132 : w.heap.size + 1 + 1 + 1 + 1 + 1 ≤ w132.heap.size := by omega
 have hn_r10_8 : w.heap.size + 1 + 1 + 1 + 1 + 1 ≤ g_r10_8 := by have := hN_r10_8; omega
 clear hF_w132 hb_w132 HH_r10_8 hG_r10_8 hN_r10_8
 clear xP aA0 qV rY jI eL mJ aBo iY jN iV kL zW gH zF tV fQ dL kB aAl aCq fT jX zX sI yR eD iZ qO aC1 aAp aB0 aCr lN vL zV rS yD zK fA nX nU mN uW
 go_wp2_with fail
 refine HQ_.out _ _ _ ?_
 clear HQ_ Q_
 go_wp2_with fail
 (refine pin_wp (N := _) (Nat.le_refl _) (fun w133 hb_w133 hz_w133 => ?_); (try simp at hz_w133); (with_reducible apply cal6 (b := w.heap.size + 1 + 1 + 1) hb_w133); (focus (go_simp; try exact ⟨rfl, rfl, rfl, rfl, rfl, rfl⟩)); intro zJ aCd oR oH xH qS aB1 mL; (with_reducible apply cal6 (b := w.heap.size + 1 + 1 + 1 + 1) hb_w133); (focus (go_simp; try exact ⟨rfl, rfl, rfl, rfl, rfl, rfl⟩)); intro xJ kY uI mO zS aCl dI eZ; (with_reducible apply cal2 (b := w108.heap.size) hb_w133); (focus (go_simp; try exact ⟨rfl, rfl⟩)); intro eH dZ aDi xC; (with_reducible apply cal2 (b := g_r7_16) hb_w133); (focus (go_simp; try exact ⟨rfl, rfl⟩)); intro tX eP tF jY; (with_reducible apply cal2 (b := g_r7_17) hb_w133); (focus (go_simp; try exact ⟨rfl, rfl⟩)); intro yS rF aA8 kD; (with_reducible apply cal2 (b := g_r9_10) hb_w133); (focus (go_simp; try exact ⟨rfl, rfl⟩)); intro yJ nN fP aBv; (with_reducible apply cal2 (b := g_r9_11) hb_w133); (focus (go_simp; try exact ⟨rfl, rfl⟩)); intro rA kE dJ gW; (with_reducible apply cal6 (b := g_r10_8) hb_w133); (focus (go_simp; try exact ⟨rfl, rfl, rfl, rfl, rfl, rfl⟩)); intro bU rX fD iA jP fI iP kF); refine wp_q (fun Q_ HQ_ => ?_); refine wp_region_floatQ w133.heap.size 9 [9] (Nat.le_refl _) (fun _ => True) trivial Cl.tt (by kernel_rfl) (by kernel_rfl) ?_
 replace H108 := hQ0 (IsC.below (v := .agg #[.bool s108, .slice A108 n108 c108]) (z := (32 * M)) (by ((with_reducible (repeat (first | exact H108.out | refine IsC.al ?_ _ | apply IsC.st1))) <;> (first | (with_reducible assumption) | (intro _ e; cases e; done) | (go_simp; first | done | exact rfl)))) hb_w133)
 replace H112 := hQ0 (IsC.below (v := .agg #[.bool s112, .slice A112 n112 c112]) (z := J1) (by ((with_reducible (repeat (first | exact H112.out | refine IsC.al ?_ _ | apply IsC.st1))) <;> (first | (with_reducible assumption) | (intro _ e; cases e; done) | (go_simp; first | done | exact rfl)))) hb_w133)
 replace H115 := hQ0 (IsC.below (v := .agg #[.bool s115, .slice A115 n115 c115]) (z := J2) (by ((with_reducible (repeat (first | exact H115.out | refine IsC.al ?_ _ | apply IsC.st1))) <;> (first | (with_reducible assumption) | (intro _ e; cases e; done) | (go_simp; first | done | exact rfl)))) hb_w133)
 replace H125 := hQ0 (IsC.below (v := .agg #[.bool s125, .slice A125 n125 c125]) (z := B1) (by ((with_reducible (repeat (first | exact H125.out | refine IsC.al ?_ _ | apply IsC.st1))) <;> (first | (with_reducible assumption) | (intro _ e; cases e; done) | (go_simp; first | done | exact rfl)))) hb_w133)
 replace H127 := hQ0 (IsC.below (v := .agg #[.bool s127, .slice A127 n127 c127]) (z := B2) (by ((with_reducible (repeat (first | exact H127.out | refine IsC.al ?_ _ | apply IsC.st1))) <;> (first | (with_reducible assumption) | (intro _ e; cases e; done) | (go_simp; first | done | exact rfl)))) hb_w133)
 replace H130 := hQ0 (IsC.below (v := .agg #[.bool s130, .slice A130 n130 c130]) (z := X1) (by ((with_reducible (repeat (first | exact H130.out | refine IsC.al ?_ _ | apply IsC.st1))) <;> (first | (with_reducible assumption) | (intro _ e; cases e; done) | (go_simp; first | done | exact rfl)))) hb_w133)
 replace H131 := hQ0 (IsC.below (v := .agg #[.bool s131, .slice A131 n131 c131]) (z := X2) (by ((with_reducible (repeat (first | exact H131.out | refine IsC.al ?_ _ | apply IsC.st1))) <;> (first | (with_reducible assumption) | (intro _ e; cases e; done) | (go_simp; first | done | exact rfl)))) hb_w133)
 have HB133 := hQ0 (show Below w.heap.size w w133 by have hB := HB132.out; ((with_reducible (repeat (first | exact bR _ _ | apply bS | apply bA | apply bD | refine bT ?_ (by assumption) ?_ | refine bO (by assumption) ?_ ?_))) <;> (first | omega | (simp <;> omega))))
 have hz133 : w.heap.size + 1 + 1 + 1 + 1 + 1 ≤ w133.heap.size := by omega
 clear hb_w133
 clear aU aG aK aM aL aH lW nA aDj yH sA fK kN aAf vG aBl oT xR mS nR rE rC jT aA5 oX qR zH gX xX gY uC oE tD eN aBk gF qX tP yG mB aB6 oB dR iQ mZ gP kG xA kC vJ uD
 refine wpQI_start [0, 1] ?_; (iterate 2 (first | (apply wpQI_step (zA rfl) (by kernel_rfl) (by exact rfl); (focus (intro W' hS; have hcS := hS.cells; go_simp; (iterate 2 (first | done | exact rfl | exact bB _ | go_simp)))); intro K hK; go_simp; (try go_bits); refine hK _ ?_; clear hK K))); refine wpQI_nil ?_
 refine wpQI_start [3, 4] ?_; (iterate 2 (first | (apply wpQI_step (zA rfl) (by kernel_rfl) (by exact rfl); (focus (intro W' hS; have hcS := hS.cells; go_simp; (iterate 2 (first | done | exact rfl | exact bB _ | go_simp)))); intro K hK; go_simp; (try go_bits); refine hK _ ?_; clear hK K))); refine wpQI_nil ?_
 refine wpQI_start [6] ?_; (iterate 1 (first | (apply wpQI_step (zA rfl) (by kernel_rfl) (by exact rfl); (focus (intro W' hS; have hcS := hS.cells; go_simp; (iterate 2 (first | done | exact rfl | exact bB _ | go_simp)))); intro K hK; go_simp; (try go_bits); refine hK _ ?_; clear hK K))); refine wpQI_nil ?_
 apply wpQ_call (i := 2) (zA rfl) (by kernel_rfl) (by exact rfl); intro W hF hS; have hcS := hS.1.cells; go_simp; (go_at_call 39; refine (K29.out _ _ _ ((H125.out.below hS.1.2).zl L17.out) ((H112.out.below hS.1.2).zl L9.out)).mono ?_; rintro e w134 ⟨hb_w134, v134, rfl, hv134⟩; refine XPost.mk _ (fun W => IsC W v134 (Y1)) hb_w134 (hv134) (IsC.cl _ _) ?_); clear hb_w134 hcS hS hF
 intro K hK; go_simp; (try go_bits); refine hK _ ?_; clear hK K
 obtain ⟨s134, A134, n134, c134, rfl⟩ := IsC.val hv134
 clear hv134
 apply wpQ_call (i := 5) (zA rfl) (by kernel_rfl) (by exact rfl); intro W hF hS; have hcS := hS.1.cells; go_simp; (go_at_call 39; refine (K30.out _ _ _ ((H127.out.below hS.1.2).zl L18.out) ((H115.out.below hS.1.2).zl L10.out)).mono ?_; rintro e w135 ⟨hb_w135, v135, rfl, hv135⟩; refine XPost.mk _ (fun W => IsC W v135 (Y2)) hb_w135 (hv135) (IsC.cl _ _) ?_); clear hb_w135 hcS hS hF
 intro K hK; go_simp; (try go_bits); refine hK _ ?_; clear hK K
 obtain ⟨s135, A135, n135, c135, rfl⟩ := IsC.val hv135
 clear hv135
 refine wpQI_start [7] ?_; (iterate 1 (first | (apply wpQI_step (zA rfl) (by kernel_rfl) (by exact rfl); (focus (intro W' hS; have hcS := hS.cells; go_simp; (iterate 2 (first | done | exact rfl | exact bB _ | go_simp)))); intro K hK; go_simp; (try go_bits); refine hK _ ?_; clear hK K))); refine wpQI_nil ?_
 apply wpQ_fresh (i := 8) LInv.std (zA rfl) (by kernel_rfl) (fun g => Value.pointer (some ⟨g, 0, none⟩)) (by exact rfl); (focus (intro W; go_simp; first | done | exact rfl | exact ⟨rfl, rfl⟩))
 intro g_r11_8 hN_r11_8 hG_r11_8 K hK
 go_simp; refine hK _ ?_; clear hK K
 have hne : w.heap.size ≠ g_r11_8 ∧ g_r11_8 ≠ w.heap.size := by have := hN_r11_8; omega
 have hne : w.heap.size + 1 ≠ g_r11_8 ∧ g_r11_8 ≠ w.heap.size + 1 := by have := hN_r11_8; omega
 have hne : w.heap.size + 1 + 1 ≠ g_r11_8 ∧ g_r11_8 ≠ w.heap.size + 1 + 1 := by have := hN_r11_8; omega
 have hne : w.heap.size + 1 + 1 + 1 ≠ g_r11_8 ∧ g_r11_8 ≠ w.heap.size + 1 + 1 + 1 := by have := hN_r11_8; omega
 have hne : w.heap.size + 1 + 1 + 1 + 1 ≠ g_r11_8 ∧ g_r11_8 ≠ w.heap.size + 1 + 1 + 1 + 1 := by have := hN_r11_8; omega
 have hne : w108.heap.size ≠ g_r11_8 ∧ g_r11_8 ≠ w108.heap.size := by have := hN_r11_8; omega
 have hne : g_r7_16 ≠ g_r11_8 ∧ g_r11_8 ≠ g_r7_16 := by have := hN_r11_8; omega
 have hne : g_r7_17 ≠ g_r11_8 ∧ g_r11_8 ≠ g_r7_17 := by have := hN_r11_8; omega
 have hne : g_r8_10 ≠ g_r11_8 ∧ g_r11_8 ≠ g_r8_10 := by have := hN_r11_8; omega
 have hne : g_r8_11 ≠ g_r11_8 ∧ g_r11_8 ≠ g_r8_11 := by have := hN_r11_8; omega
 have hne : g_r9_10 ≠ g_r11_8 ∧ g_r11_8 ≠ g_r9_10 := by have := hN_r11_8; omega
 have hne : g_r9_11 ≠ g_r11_8 ∧ g_r11_8 ≠ g_r9_11 := by have := hN_r11_8; omega
 have hne : g_r10_8 ≠ g_r11_8 ∧ g_r11_8 ≠ g_r10_8 := by have := hN_r11_8; omega
 refine wpQ_done (by kernel_rfl) ?_
 intro w136 hF_w136 hSG
 have hz_w136 := hSG.1.1
 have hb_w136 := hSG.1.2
 have hB_r11_8 := (hSG.2 _ (List.mem_cons_self ..)).2; simp only at hB_r11_8; have hl_r11_8 := (hSG.size (List.mem_cons_self ..)); simp only at hl_r11_8
 have aJ := cell_of_row w136 g_r11_8 0 _ _ _ hB_r11_8; simp only [List.getElem?_toArray, List.getElem?_cons_zero] at aJ
 have aO := cell_of_row w136 g_r11_8 1 _ _ _ hB_r11_8; simp only [List.getElem?_toArray, List.getElem?_cons_zero, List.getElem?_cons_succ] at aO
 have aF := cell_of_row w136 g_r11_8 2 _ _ _ hB_r11_8; simp only [List.getElem?_toArray, List.getElem?_cons_zero, List.getElem?_cons_succ] at aF
 have aR := cell_of_row w136 g_r11_8 3 _ _ _ hB_r11_8; simp only [List.getElem?_toArray, List.getElem?_cons_zero, List.getElem?_cons_succ] at aR
 have aD := cell_of_row w136 g_r11_8 4 _ _ _ hB_r11_8; simp only [List.getElem?_toArray, List.getElem?_cons_zero, List.getElem?_cons_succ] at aD
 have aB := cell_of_row w136 g_r11_8 5 _ _ _ hB_r11_8; simp only [List.getElem?_toArray, List.getElem?_cons_zero, List.getElem?_cons_succ] at aB
 have aAb : (∀ o, w136.frozen? ⟨g_r11_8, o, none⟩ = false) := (fun o => frozen_of_row w136 g_r11_8 o _ _ hB_r11_8); have HH_r11_8 := hQ0 hB_r11_8; clear hB_r11_8
 clear hSG
 (with_reducible apply cel6 (b := w.heap.size + 1 + 1 + 1) hb_w136); ((try simp) <;> omega); omega; (iterate 6 (focus (go_simp; try exact rfl))); (intro o; go_simp); intro tS eE iE nQ fL aBi eF rT; (with_reducible apply cel6 (b := w.heap.size + 1 + 1 + 1 + 1) hb_w136); ((try simp) <;> omega); omega; (iterate 6 (focus (go_simp; try exact rfl))); (intro o; go_simp); intro aC7 mW fB fV gD aB4 uX uM; (with_reducible apply cel2 (b := w108.heap.size) hb_w136); ((try simp) <;> omega); omega; (iterate 2 (focus (go_simp; try exact rfl))); (intro o; go_simp); intro eS yV fJ gE; (with_reducible apply cel2 (b := g_r7_16) hb_w136); ((try simp) <;> omega); omega; (iterate 2 (focus (go_simp; try exact rfl))); (intro o; go_simp); intro sQ aBs nM xN; (with_reducible apply cel2 (b := g_r7_17) hb_w136); ((try simp) <;> omega); omega; (iterate 2 (focus (go_simp; try exact rfl))); (intro o; go_simp); intro nV yU aCw mQ; (with_reducible apply cel2 (b := g_r9_10) hb_w136); ((try simp) <;> omega); omega; (iterate 2 (focus (go_simp; try exact rfl))); (intro o; go_simp); intro eI sP mP jS; (with_reducible apply cel2 (b := g_r9_11) hb_w136); ((try simp) <;> omega); omega; (iterate 2 (focus (go_simp; try exact rfl))); (intro o; go_simp); intro yK eV iF uR; (with_reducible apply cel6 (b := g_r10_8) hb_w136); ((try simp) <;> omega); omega; (iterate 6 (focus (go_simp; try exact rfl))); (intro o; go_simp); intro sU nY bE jV yW sO xY uF
 (try simp only [List.filterMap_cons, List.filterMap_nil, List.getElem?_cons_succ, List.getElem?_cons_zero])
 clear H112
 clear H115
 clear H125
 clear H127
 replace H108 := hQ0 (H108.out.below hb_w136)
 replace H130 := hQ0 (H130.out.below hb_w136)
 replace H131 := hQ0 (H131.out.below hb_w136)
 have H134 := hQ0 (show IsC w136 (.agg #[.bool s134, .slice A134 n134 c134]) (Y1) from hF_w136.1)
 have H135 := hQ0 (show IsC w136 (.agg #[.bool s135, .slice A135 n135 c135]) (Y2) from hF_w136.2)
 have HB136 := hQ0 (HB133.out.trans (hb_w136.mono (by have := HB133.out.size; omega)))
 have hz136 : w.heap.size + 1 + 1 + 1 + 1 + 1 ≤ w136.heap.size := by omega
 have hn_r11_8 : w.heap.size + 1 + 1 + 1 + 1 + 1 ≤ g_r11_8 := by have := hN_r11_8; omega
 clear hF_w136 hb_w136 HH_r11_8 hG_r11_8 hN_r11_8
 clear zJ aCd oR oH xH qS aB1 mL xJ kY uI mO zS aCl dI eZ eH dZ aDi xC tX eP tF jY yS rF aA8 kD yJ nN fP aBv rA kE dJ gW bU rX fD iA jP fI iP kF
 go_wp2_with fail
 refine HQ_.out _ _ _ ?_
 clear HQ_ Q_
 go_wp2_with fail
 (refine pin_wp (N := _) (Nat.le_refl _) (fun w137 hb_w137 hz_w137 => ?_); (try simp at hz_w137); (with_reducible apply cal6 (b := w.heap.size + 1 + 1 + 1) hb_w137); (focus (go_simp; try exact ⟨rfl, rfl, rfl, rfl, rfl, rfl⟩)); intro eT zD jU rI jW rV aAq rJ; (with_reducible apply cal6 (b := w.heap.size + 1 + 1 + 1 + 1) hb_w137); (focus (go_simp; try exact ⟨rfl, rfl, rfl, rfl, rfl, rfl⟩)); intro lP qG nP eJ nW aAk lK nB; (with_reducible apply cal6 (b := g_r10_8) hb_w137); (focus (go_simp; try exact ⟨rfl, rfl, rfl, rfl, rfl, rfl⟩)); intro qJ eM dP vD mI lD sE xS; (with_reducible apply cal6 (b := g_r11_8) hb_w137); (focus (go_simp; try exact ⟨rfl, rfl, rfl, rfl, rfl, rfl⟩)); intro kJ tE gO dN qP qK zM fG); refine wp_q (fun Q_ HQ_ => ?_); refine wp_region_floatQ w137.heap.size 4 [4, 5] (Nat.le_refl _) (fun _ => True) trivial Cl.tt (by kernel_rfl) (by kernel_rfl) ?_
 replace H108 := hQ0 (IsC.below (v := .agg #[.bool s108, .slice A108 n108 c108]) (z := (32 * M)) (by ((with_reducible (repeat (first | exact H108.out | refine IsC.al ?_ _ | apply IsC.st1))) <;> (first | (with_reducible assumption) | (intro _ e; cases e; done) | (go_simp; first | done | exact rfl)))) hb_w137)
 replace H130 := hQ0 (IsC.below (v := .agg #[.bool s130, .slice A130 n130 c130]) (z := X1) (by ((with_reducible (repeat (first | exact H130.out | refine IsC.al ?_ _ | apply IsC.st1))) <;> (first | (with_reducible assumption) | (intro _ e; cases e; done) | (go_simp; first | done | exact rfl)))) hb_w137)
 replace H131 := hQ0 (IsC.below (v := .agg #[.bool s131, .slice A131 n131 c131]) (z := X2) (by ((with_reducible (repeat (first | exact H131.out | refine IsC.al ?_ _ | apply IsC.st1))) <;> (first | (with_reducible assumption) | (intro _ e; cases e; done) | (go_simp; first | done | exact rfl)))) hb_w137)
 replace H134 := hQ0 (IsC.below (v := .agg #[.bool s134, .slice A134 n134 c134]) (z := Y1) (by ((with_reducible (repeat (first | exact H134.out | refine IsC.al ?_ _ | apply IsC.st1))) <;> (first | (with_reducible assumption) | (intro _ e; cases e; done) | (go_simp; first | done | exact rfl)))) hb_w137)
 replace H135 := hQ0 (IsC.below (v := .agg #[.bool s135, .slice A135 n135 c135]) (z := Y2) (by ((with_reducible (repeat (first | exact H135.out | refine IsC.al ?_ _ | apply IsC.st1))) <;> (first | (with_reducible assumption) | (intro _ e; cases e; done) | (go_simp; first | done | exact rfl)))) hb_w137)
 have HB137 := hQ0 (show Below w.heap.size w w137 by have hB := HB136.out; ((with_reducible (repeat (first | exact bR _ _ | apply bS | apply bA | apply bD | refine bT ?_ (by assumption) ?_ | refine bO (by assumption) ?_ ?_))) <;> (first | omega | (simp <;> omega))))
 have hz137 : w.heap.size + 1 + 1 + 1 + 1 + 1 ≤ w137.heap.size := by omega
 clear hb_w137
 clear aJ aO aF aR aD aB aAb tS eE iE nQ fL aBi eF rT aC7 mW fB fV gD aB4 uX uM eS yV fJ gE sQ aBs nM xN nV yU aCw mQ eI sP mP jS yK eV iF uR sU nY bE jV yW sO xY uF
 refine wpQI_start [0] ?_; (iterate 1 (first | (apply wpQI_step (zA rfl) (by kernel_rfl) (by exact rfl); (focus (intro W' hS; have hcS := hS.cells; go_simp; (iterate 2 (first | done | exact rfl | exact bB _ | go_simp)))); intro K hK; go_simp; (try go_bits); refine hK _ ?_; clear hK K))); refine wpQI_nil ?_
 refine wpQI_start [2] ?_; (iterate 1 (first | (apply wpQI_step (zA rfl) (by kernel_rfl) (by exact rfl); (focus (intro W' hS; have hcS := hS.cells; go_simp; (iterate 2 (first | done | exact rfl | exact bB _ | go_simp)))); intro K hK; go_simp; (try go_bits); refine hK _ ?_; clear hK K))); refine wpQI_nil ?_
 apply wpQ_call (i := 1) (zA rfl) (by kernel_rfl) (by exact rfl); intro W hF hS; have hcS := hS.1.cells; go_simp; (go_at_call 38; refine (K10.out _ _ (⟨_, _, _, _, _, _, _, _, _, _, _, _, rfl, (H130.out.below hS.1.2), (H131.out.below hS.1.2), (H108.out.below hS.1.2)⟩)).mono ?_; rintro e w138 ⟨hb_w138, v138, rfl, hv138⟩; refine XPost.mk _ (fun W => RAt W v138 (P1) (P2) (P3)) hb_w138 (hv138) (RAt.cl _ _ _ _) ?_); clear hb_w138 hcS hS hF
 intro K hK; go_simp; (try go_bits); refine hK _ ?_; clear hK K
 obtain ⟨s138x, A138x, n138x, c138x, s138y, A138y, n138y, c138y, s138d, A138d, n138d, c138d, rfl⟩ := RAt.val hv138
 clear hv138
 apply wpQ_call (i := 3) (zA rfl) (by kernel_rfl) (by exact rfl); intro W hF hS; have hcS := hS.1.cells; go_simp; (go_at_call 38; refine (K13.out _ _ (⟨_, _, _, _, _, _, _, _, _, _, _, _, rfl, (H134.out.below hS.1.2), (H135.out.below hS.1.2), (H108.out.below hS.1.2)⟩)).mono ?_; rintro e w139 ⟨hb_w139, v139, rfl, hv139⟩; refine XPost.mk _ (fun W => RAt W v139 (Q1) (Q2) (Q3)) hb_w139 (hv139) (RAt.cl _ _ _ _) ?_); clear hb_w139 hcS hS hF
 intro K hK; go_simp; (try go_bits); refine hK _ ?_; clear hK K
 obtain ⟨s139x, A139x, n139x, c139x, s139y, A139y, n139y, c139y, s139d, A139d, n139d, c139d, rfl⟩ := RAt.val hv139
 clear hv139
 refine wpQ_done (by kernel_rfl) ?_
 intro w140 hF_w140 hSG
 have hz_w140 := hSG.1.1
 have hb_w140 := hSG.1.2
 clear hSG
 (with_reducible apply cel6 (b := w.heap.size + 1 + 1 + 1) hb_w140); ((try simp) <;> omega); omega; (iterate 6 (focus (go_simp; try exact rfl))); (intro o; go_simp); intro aDs aDm aEc aDx aDk aDo aEf aDp; (with_reducible apply cel6 (b := w.heap.size + 1 + 1 + 1 + 1) hb_w140); ((try simp) <;> omega); omega; (iterate 6 (focus (go_simp; try exact rfl))); (intro o; go_simp); intro aEd aD9 aDz aDt aEa aD0 aD3 aDy; (with_reducible apply cel6 (b := g_r10_8) hb_w140); ((try simp) <;> omega); omega; (iterate 6 (focus (go_simp; try exact rfl))); (intro o; go_simp); intro aEe aDn aD8 aDu aEb aDr aDq aDl; (with_reducible apply cel6 (b := g_r11_8) hb_w140); ((try simp) <;> omega); omega; (iterate 6 (focus (go_simp; try exact rfl))); (intro o; go_simp); intro aD1 aD2 aDv aD4 aD5 aD6 aD7 aDw
 (try simp only [List.filterMap_cons, List.filterMap_nil, List.getElem?_cons_succ, List.getElem?_cons_zero])
 clear H108
 clear H130
 clear H131
 clear H134
 clear H135
 have H138 := hQ0 (show RAt w140 (.agg #[.bool s138x, .slice A138x n138x c138x, .bool s138y, .slice A138y n138y c138y, .bool s138d, .slice A138d n138d c138d]) (P1) (P2) (P3) from hF_w140.1)
 have H139 := hQ0 (show RAt w140 (.agg #[.bool s139x, .slice A139x n139x c139x, .bool s139y, .slice A139y n139y c139y, .bool s139d, .slice A139d n139d c139d]) (Q1) (Q2) (Q3) from hF_w140.2)
 have HB140 := hQ0 (HB137.out.trans (hb_w140.mono (by have := HB137.out.size; omega)))
 have hz140 : w.heap.size + 1 + 1 + 1 + 1 + 1 ≤ w140.heap.size := by omega
 clear hF_w140 hb_w140
 clear eT zD jU rI jW rV aAq rJ lP qG nP eJ nW aAk lK nB qJ eM dP vD mI lD sE xS kJ tE gO dN qP qK zM fG
 go_wp2_with fail
 refine HQ_.out _ _ _ ?_
 clear HQ_ Q_
 go_wp2_with fail
 refine bodyPost_ret (v := .tuple #[.agg #[.bool s138x, .slice A138x n138x c138x, .bool s138y, .slice A138y n138y c138y, .bool s138d, .slice A138d n138d c138d], .agg #[.bool s139x, .slice A139x n139x c139x, .bool s139y, .slice A139y n139y c139y, .bool s139d, .slice A139d n139d c139d]]) (by simp only [results, Tryz.results64]; go_simp) rfl ⟨?_, ?_⟩
 · have hB := HB140.out; ((with_reducible (repeat (first | exact bR _ _ | apply bS | apply bA | apply bD | refine bT ?_ (by assumption) ?_ | refine bO (by assumption) ?_ ?_))) <;> (first | omega | (simp <;> omega)))
 · exact ⟨_, _, rfl, (by ((with_reducible (repeat (first | exact H138.out | refine RAt.al ?_ _ | apply RAt.st1))) <;> (first | (with_reducible assumption) | (intro _ e; cases e; done) | (go_simp; first | done | exact rfl)))), (by ((with_reducible (repeat (first | exact H139.out | refine RAt.al ?_ _ | apply RAt.st1))) <;> (first | (with_reducible assumption) | (intro _ e; cases e; done) | (go_simp; first | done | exact rfl))))⟩
theorem setI_congr {l r : List Int} (h : ∀ x, x ∈ l ↔ x ∈ r) : setI l = setI r := setI_eq (setI_asc r) fun x => (h x).trans (setI_mem r x).symm
def OwnMr (w : World) (base : Nat) (A : Option Addr) (c : Nat) (l : List Mt) : Prop := w.ownsRow base 72 10 (.slice A l.length c) l.length (flatM l)
theorem OwnMr.nil (w : World) (base : Nat) : OwnMr w base none 0 [] := World.ownsRow_nil _ _ _ _
theorem OwnMr.mat {w : World} {base : Nat} {A : Option Addr} {c : Nat} {l : List Mt} (h : OwnMr w base A c l) : MAt w A l := fun k m hk => by
 have hk' := (List.getElem?_eq_some_iff.1 hk).1
 rcases own_formS h with ⟨hn, _⟩ | ⟨_, g, c', hv, _, hg, _⟩
 · omega
 · simp only [Value.slice.injEq, true_and] at hv
   obtain ⟨rfl, rfl⟩ := hv
   have key : ∀ j, j < 10 → w.cell? ⟨g, 0 + k * 10 + j, none⟩ = m.cells[j]? := fun j hj => by
    rw [Nat.zero_add, World.ownsRow.cellAt h _ (by omega)]
    exact flatM_get hk hj
   exact ⟨g, 0, rfl, hg, key 0 (by omega), key 1 (by omega), key 2 (by omega), key 3 (by omega), key 4 (by omega), key 5 (by omega), key 6 (by omega), key 7 (by omega), key 8 (by omega), key 9 (by omega)⟩
theorem OwnMr.fresh {w : World} {base : Nat} {A : Option Addr} {c : Nat} {l : List Mt} (h : OwnMr w base A c l) : ∀ k, Value.ownBlock (.slice A l.length c) = some k → base ≤ k := fun k hk => (World.ownsRow.lt h k hk).1
theorem OwnMr.low {W : World} {base : Nat} {A : Option Addr} {c : Nat} {l : List Mt} (h : OwnMr W base A c l) {p : Addr} (hp : p.block < base) (u : Value) : OwnMr (W.setCell p u) base A c l := ownr_low h hp u
theorem OwnMr.bel {W W' : World} {base B : Nat} {A : Option Addr} {c : Nat} {l : List Mt} (h : OwnMr W base A c l) (hb : Below B W W') (hB : W.heap.size ≤ B) : OwnMr W' base A c l := own_below h hb hB
theorem OwnMr.alloc {w : World} {base : Nat} {A : Option Addr} {c : Nat} {l : List Mt} (h : OwnMr w base A c l) (o : Obj) : OwnMr (w.alloc o) base A c l := World.ownsRow.alloc h o
theorem ownmr_snoc {w : World} {base : Nat} {v : Value} {l : List Mt} {m : Mt} (h : w.ownsRow base 72 10 v (l.length + 1) (flatM l ++ m.cells)) : ∃ A c, v = .slice A (l ++ [m]).length c ∧ OwnMr w base A c (l ++ [m]) := by
 obtain ⟨A, c, rfl⟩ := own_slice h
 refine ⟨A, c, by simp, ?_⟩
 have e : flatM (l ++ [m]) = flatM l ++ m.cells := by simp [flatM]
 unfold OwnMr
 rw [e, List.length_append]
 exact h
theorem infMr : (Tryz.prog.info? 72).map (fun i => (i.zero, i.size, i.bytes)) = some (some (.agg #[.int .i64 0, .int .i64 0, .int .i64 0, .int .i64 0, .int .i64 0, .int .i64 0, .int .i64 0, .int .i64 0, .int .i64 0, .int .i64 0]), 10, 80) := by kernel_rfl
def MtOut (l : List Mt) (w : World) (e : Ending) (w' : World) : Prop := Below w.heap.size w w' ∧ ∃ A c, e = .returned (.slice A l.length c) ∧ MAt w' A l
set_option maxRecDepth 100000 in
set_option maxHeartbeats 4000000 in
theorem rother_any (m : Mt) (v : List V2) (A : Option Addr) (c : Nat) (w : World) (hV : VAt w A v) (h1 : -1 ≤ m.b) (h2 : m.b < v.length) :
  Calls Tryz.prog 28 #[m.v, .slice A v.length c] w fun e w' => e = .returned (.agg #[.int .i64 (surfM m v).1, .int .i64 (surfM m v).2]) ∧ Below w.heap.size w w' := by
 obtain ⟨a, b, n1, n2, x1, x2, y1, y2, e, g⟩ := m
 simp only [Mt.v] at *
 by_cases h : b = -1
 · have hs : surfM ⟨a, b, n1, n2, x1, x2, y1, y2, e, g⟩ v = (x1, x2) := by unfold surfM; rw [if_pos h]
   rw [hs]
   subst h
   clear hs hV
   go_enter Tryz.func28, Tryz.ntmps28; (try simp only [List.append_eq, List.cons_append, List.nil_append])
   go_wp2_with fail
   refine bodyPost_ret (v := .agg #[.int .i64 x1, .int .i64 x2]) (by (try simp only [results, Tryz.results28]); (try go_simp)) rfl ⟨?_, ?_⟩
   · rfl
   · ((with_reducible (repeat (first | exact bR _ _ | apply bS | apply bA | apply bD | refine bT ?_ (by assumption) ?_ | refine bO (by assumption) ?_ ?_))) <;> (first | omega | (simp <;> omega)))
 · obtain ⟨k, rfl⟩ : ∃ k : Nat, b = (k : Int) := ⟨b.toNat, by omega⟩
   obtain ⟨⟨p, q⟩, hx⟩ : ∃ x, v[k]? = some x := ⟨v[k]'(by omega), by simp⟩
   have hs : surfM ⟨a, k, n1, n2, x1, x2, y1, y2, e, g⟩ v = (p, q) := by unfold surfM; rw [if_neg h]; simp [hx]
   rw [hs]
   obtain ⟨g', o, rfl, hg, c0, c1⟩ := hV k _ hx
   simp only at c0 c1
   have hb1 : decide ((k : Int) ≥ 0) = true := decide_eq_true (by omega)
   have i1 : (0 : Int) ≤ (k : Int) := by omega
   have i2 : (k : Int) < (v.length : Int) := h2
   clear hs hV hx h h1 h2
   go_enter Tryz.func28, Tryz.ntmps28; (try simp only [List.append_eq, List.cons_append, List.nil_append])
   go_wp2_with fail
   refine bodyPost_ret (v := .agg #[.int .i64 p, .int .i64 q]) (by (try simp only [results, Tryz.results28]); (try go_simp)) rfl ⟨?_, ?_⟩
   · rfl
   · ((with_reducible (repeat (first | exact bR _ _ | apply bS | apply bA | apply bD | refine bT ?_ (by assumption) ?_ | refine bO (by assumption) ?_ ?_))) <;> (first | omega | (simp <;> omega)))
set_option maxHeartbeats 4000000 in
theorem limit_any (x : Int) (w : World) :
  Calls Tryz.prog 30 #[.int .i64 x] w fun e w' => e = .returned (.int .i64 (clampR x)) ∧ Below w.heap.size w w' := by
 unfold clampR
 go_enter Tryz.func30, Tryz.ntmps30; (try simp only [List.append_eq, List.cons_append, List.nil_append])
 go_wp2_with fail
 go_ret
 exact ⟨rfl, Below.refl _ _⟩
set_option maxRecDepth 100000 in
set_option maxHeartbeats 20000000 in
theorem meetings_any (l : List Mt) (A : Option Addr) (c : Nat) (w : World) (hV : MAt w A l) (hl : l.length ≤ 1000) :
  Calls Tryz.prog 8 #[.slice A l.length c] w (MtOut l w) := by
 have HM := hQ0 hV
 clear hV
 go_enter Tryz.func8, Tryz.ntmps8; (try simp only [List.append_eq, List.cons_append, List.nil_append])
 go_wp2_with fail
 go_loopw [3, 4] (fun t3 t4 wr => ∃ (k : Nat) (E : Option Addr) (q : Nat), k ≤ l.length ∧ t4 = .int .i64 k ∧ t3 = .slice E (l.take k).length q ∧ Hid (OwnMr wr w.heap.size E q (l.take k) ∧ Below w.heap.size w wr)) (fun _ t4 _ => l.length - (intOf t4).toNat)
 case atStart => exact ⟨0, none, 0, by omega, rfl, rfl, hQ0 ⟨OwnMr.nil _ _, Below.refl _ _⟩⟩
 case round =>
  obtain ⟨k, E, q, hk, rfl, rfl, HI⟩ := hrel
  obtain ⟨w3, rfl⟩ : ∃ z, z = wr := ⟨_, rfl⟩
  have k1 : (0 : Int) ≤ (k : Int) := by omega
  have hz3 : w.heap.size ≤ w3.heap.size := HI.out.2.size
  by_cases hkl : k < l.length
  · have k2 : (k : Int) < (l.length : Int) := by omega
    obtain ⟨m, hm⟩ : ∃ m, l[k]? = some m := ⟨l[k], by simp⟩
    obtain ⟨gm, om, rfl, hgm, m0, m1, m2, m3, m4, m5, m6, m7, m8, m9⟩ := (HM.out.below HI.out.2 (Nat.le_refl _)) k m hm
    have HT := hQ0 (show l.take (k + 1) = l.take k ++ [m] by rw [List.take_add_one, hm]; rfl)
    have hL1 : (l.take k).length ≤ 1000 := by rw [List.length_take]; omega
    generalize l.take k = L at *
    obtain ⟨ma, mb, n1, n2, x1, x2, y1, y2, e, f⟩ := m
    simp only at m0 m1 m2 m3 m4 m5 m6 m7 m8 m9
    clear hm
    go_wp2_with (at_builtin; go_must (refine wpList_append_one rfl _ _ 29 72 _ 10 80 rfl Tryz.underlying29 infMr rfl (by decide) (by decide) w.heap.size _ L.length (flatM L) (Mt.cells ⟨ma, mb, n1, n2, x1, x2, y1, y2, e, f⟩) rfl (OwnMr.bel HI.out.1 (show Below w3.heap.size w3 _ by ((with_reducible (repeat (first | exact bR _ _ | apply bS | apply bA | apply bD | refine bT ?_ (by assumption) ?_ | refine bO (by assumption) ?_ ?_))) <;> (first | omega | (simp <;> omega)))) (Nat.le_refl _)) _ 1 rfl rfl (cell10 (m := ⟨ma, mb, n1, n2, x1, x2, y1, y2, e, f⟩) (by go_simp) (by go_simp) (by go_simp) (by go_simp) (by go_simp) (by go_simp) (by go_simp) (by go_simp) (by go_simp) (by go_simp)) one10 (by omega) (by simp; omega) ?_))
    intro v1' w6 hown6 hg6 _
    obtain ⟨P, hBP, hgP⟩ : ∃ P : World, Below w3.heap.size w3 P ∧ P.grownBy w6 (Value.ownBlock (.slice E L.length q)) := ⟨_, (by ((with_reducible (repeat (first | exact bR _ _ | apply bS | apply bA | apply bD | refine bT ?_ (by assumption) ?_ | refine bO (by assumption) ?_ ?_))) <;> (first | omega | (simp <;> omega)))), hg6⟩
    obtain ⟨E6, q6, rfl, ho6⟩ := ownmr_snoc hown6
    have HO6 := hQ0 ho6
    have HB6 := hQ0 ((HI.out.2.trans (hBP.mono hz3)).grown hgP (by have := hBP.size; omega) (HI.out.1.fresh))
    clear hown6 ho6 hg6 hBP hgP m0 m1 m2 m3 m4 m5 m6 m7 m8 m9
    go_wp2_with fail
    go_roundw
    case rel => exact ⟨k + 1, E6, q6, by omega, by go_num, by rw [HT.out], hQ0 ⟨by rw [HT.out]; exact HO6.out, HB6.out⟩⟩
    case measure => simp [intOf]; omega
  · obtain rfl : k = l.length := by omega
    have HI' := HI.out
    rw [List.take_length] at HI' ⊢
    clear HI
    go_wp2_with fail
    refine bodyPost_ret (v := .slice E l.length q) (by (try simp only [results, Tryz.results8]); (try go_simp)) rfl ⟨?_, ?_⟩
    · exact HI'.2
    · exact ⟨E, q, rfl, HI'.1.mat⟩
theorem sumR_pos {s r : Int × Int × Int} (hs : 0 < s.2.2) (hr : 0 < r.2.2) : 0 < (sumR s r).2.2 := by
 unfold sumR
 obtain ⟨G, hG, e1, e2, e3, hd⟩ := lowR_mul (s.1 * r.2.2 + r.1 * s.2.2) (s.2.1 * r.2.2 + r.2.1 * s.2.2) (s.2.2 * r.2.2) (Int.mul_pos hs hr)
 exact hd
theorem resR_ok {l : List Mt} {v : List V2} (h : (resR l v).2.2 = 0) : ¬ (16 < l.length ∨ 64 < v.length) ∧ v.all (nearB 1048576) = true ∧ (∀ m ∈ l, PermM m v.length) := by
 unfold resR at h
 split at h
 · simp at h
 · rename_i h1
   split at h
   · rename_i h2
     exact ⟨h1, h2.1, fun m hm => permM_iff.1 (List.all_eq_true.1 h2.2 m hm)⟩
   · simp at h
theorem resR_val {l : List Mt} {v : List V2} (h1 : ¬ (16 < l.length ∨ 64 < v.length)) (hv : v.all (nearB 1048576) = true) (hp : ∀ m ∈ l, PermM m v.length) : resR l v = (putV (effL l v) v (ballsE l v) v, chgV (effL l v) v (ballsE l v), 0) := by
 unfold resR
 rw [if_neg h1, if_pos ⟨hv, List.all_eq_true.2 fun m hm => permM_iff.2 (hp m hm)⟩]
theorem resR_err {l : List Mt} {v : List V2} (h : ¬ (resR l v).2.2 = 0) : (resR l v).1 = [] ∧ (resR l v).2.1 = false := by
 unfold resR at *
 split
 · exact ⟨rfl, rfl⟩
 · rename_i h1
   rw [if_neg h1] at h
   split
   · rename_i h2
     rw [if_pos h2] at h
     exact absurd rfl h
   · exact ⟨rfl, rfl⟩
theorem clamp_bd (x : Int) : -65536 ≤ clampR x ∧ clampR x ≤ 65536 := by unfold clampR; omega
theorem put_near {l : List Mt} {v : List V2} : ∀ (bs : List Int) (o : List V2), o.all (nearB 1048576) = true → (putV l v bs o).all (nearB 1048576) = true
 | [], o, h => h
 | b :: bs, o, h => by
  refine put_near bs _ ?_
  rw [List.all_eq_true] at *
  intro x hx
  rcases List.mem_or_eq_of_mem_set hx with h' | rfl
  · exact h x h'
  · have h1 := clamp_bd (meanR (l.map fun m => aloneR m v b)).1
    have h2 := clamp_bd (meanR (l.map fun m => aloneR m v b)).2
    unfold newV nearB
    simp only [withinB, decide_eq_true_eq]
    omega
theorem res_near {l : List Mt} {v : List V2} (h : (resR l v).2.2 = 0) : (resR l v).1.all (nearB 1048576) = true ∧ (resR l v).1.length = v.length := by
 obtain ⟨h1, hv, hp⟩ := resR_ok h
 rw [resR_val h1 hv hp]
 exact ⟨put_near _ _ hv, putV_len _ _ _ _⟩
structure Sc (S : Int × Int × Int) (X Y D : Int) : Prop where
  d : 0 < D
  s : 0 < S.2.2
  g : ∃ G : Int, 0 < G ∧ X = G * S.1 ∧ Y = G * S.2.1 ∧ D = G * S.2.2
theorem Sc.zero : Sc (0, 0, 1) 0 0 1 := ⟨by decide, by decide, 1, by decide, rfl, rfl, rfl⟩
theorem Sc.step {S : Int × Int × Int} {X Y D x y d : Int} (h : Sc S X Y D) (d2 : 0 < d) : Sc (sumR S (x, y, d)) (X * d + x * D) (Y * d + y * D) (D * d) := by
 obtain ⟨hd, hs, G, hG, e1, e2, e3⟩ := h
 unfold sumR
 obtain ⟨H, hH, f1, f2, f3, hd'⟩ := lowR_mul (S.1 * d + x * S.2.2) (S.2.1 * d + y * S.2.2) (S.2.2 * d) (Int.mul_pos hs d2)
 simp only
 generalize lowR (S.1 * d + x * S.2.2) (S.2.1 * d + y * S.2.2) (S.2.2 * d) = L at *
 refine ⟨Int.mul_pos hd d2, hd', G * H, Int.mul_pos hG hH, ?_, ?_, ?_⟩
 · rw [Int.mul_assoc, ← f1, e1, e3]; grind
 · rw [Int.mul_assoc, ← f2, e2, e3]; grind
 · rw [Int.mul_assoc, ← f3, e3]; grind
theorem Sc.mean {S : Int × Int × Int} {X Y D n : Int} (h : Sc S X Y D) : S.1.tdiv (S.2.2 * n) = X.tdiv (D * n) ∧ S.2.1.tdiv (S.2.2 * n) = Y.tdiv (D * n) := by
 obtain ⟨_, _, G, hG, e1, e2, e3⟩ := h
 rw [e1, e2, e3, Int.mul_assoc]
 exact ⟨(Int.mul_tdiv_mul_of_pos _ _ hG).symm, (Int.mul_tdiv_mul_of_pos _ _ hG).symm⟩
def oneX (m : Mt) (v : List V2) : Int × Int × Int := sumR (statR (v.getD m.a.toNat (0, 0)).1 (v.getD m.a.toNat (0, 0)).2 m.w1 m.w2 m.n1 m.n2 m.e m.g) (m.k1, m.k2, 1)
structure OneOk (m : Mt) (v o : List V2) : Prop where
  p : PermM m v.length
  nv : v.all (nearB 1048576) = true
  x : Val (oneX m v)
  mw : withinB (meanR [oneX m v]).1 (meanR [oneX m v]).2 1073741824 = true
  val : o[m.a.toNat]? = some (clampR (meanR [oneX m v]).1, clampR (meanR [oneX m v]).2)
theorem rpair_ap {v1 v2 w1 w2 n1 n2 e : Int} (w : World) (h : permB v1 v2 w1 w2 n1 n2 = true) (hr : sixB e = true) (ha : apprB v1 v2 w1 w2 n1 n2 = true) : Calls Tryz.prog 64 #[.agg #[.int .i64 v1, .int .i64 v2], .agg #[.int .i64 w1, .int .i64 w2], .agg #[.int .i64 n1, .int .i64 n2], .int .i64 e] w (POut2 (pairR v1 v2 w1 w2 n1 n2 e) w) := by
 rw [pairR_on ha hr]
 exact rpair_on v1 v2 w1 w2 n1 n2 e w h hr ha
theorem rstat_ap {v1 v2 w1 w2 n1 n2 e g : Int} (w : World) (h : permB v1 v2 w1 w2 n1 n2 = true) (hr : sixB e = true) (hg : sixB g = true) (ha : apprB v1 v2 w1 w2 n1 n2 = true) : Calls Tryz.prog 15 #[.agg #[.int .i64 v1, .int .i64 v2], .agg #[.int .i64 w1, .int .i64 w2], .agg #[.int .i64 n1, .int .i64 n2], .int .i64 e, .int .i64 g] w (TOut (statR v1 v2 w1 w2 n1 n2 e g) w) := by
 rw [statR_on ha hr hg]
 exact rstatic_on v1 v2 w1 w2 n1 n2 e g w h hr hg ha
def raloneR (m : Mt) (v : List V2) (k : Int) : Int × Int × Int :=
  if ¬ m.b = -1 ∧ k = m.a then (pairR (v.getD m.a.toNat (0, 0)).1 (v.getD m.a.toNat (0, 0)).2 (v.getD m.b.toNat (0, 0)).1 (v.getD m.b.toNat (0, 0)).2 m.n1 m.n2 m.e).1
  else if ¬ m.b = -1 ∧ k = m.b then (pairR (v.getD m.a.toNat (0, 0)).1 (v.getD m.a.toNat (0, 0)).2 (v.getD m.b.toNat (0, 0)).1 (v.getD m.b.toNat (0, 0)).2 m.n1 m.n2 m.e).2
  else if k = m.a then sumR (statR (v.getD m.a.toNat (0, 0)).1 (v.getD m.a.toNat (0, 0)).2 m.w1 m.w2 m.n1 m.n2 m.e m.g) (m.k1, m.k2, 1)
  else ((v.getD k.toNat (0, 0)).1, (v.getD k.toNat (0, 0)).2, 1)
theorem sumR_prop {s r t : Int × Int × Int} {G : Int} (hG : 0 < G) (hs : 0 < s.2.2) (ht : 0 < t.2.2) (e1 : r.1 = G * t.1) (e2 : r.2.1 = G * t.2.1) (e3 : r.2.2 = G * t.2.2) : sumR s r = sumR s t := by
 unfold sumR
 rw [e1, e2, e3, ← lowR_scale G (s.1 * t.2.2 + t.1 * s.2.2) (s.2.1 * t.2.2 + t.2.1 * s.2.2) (s.2.2 * t.2.2) hG (Int.mul_pos hs ht)]
 congr 1 <;> grind
def SameQ (r t : Int × Int × Int) : Prop := 0 < t.2.2 ∧ ∃ G : Int, 0 < G ∧ r.1 = G * t.1 ∧ r.2.1 = G * t.2.1 ∧ r.2.2 = G * t.2.2
theorem SameQ.rfl' {r : Int × Int × Int} (h : 0 < r.2.2) : SameQ r r := ⟨h, 1, by decide, by omega, by omega, by omega⟩
theorem mean_sameQ {f g : Mt → Int × Int × Int} : ∀ (l : List Mt), (∀ m ∈ l, SameQ (f m) (g m)) → meanR (l.map f) = meanR (l.map g) := by
 have key : ∀ (l : List Mt) (s : Int × Int × Int), 0 < s.2.2 → (∀ m ∈ l, SameQ (f m) (g m)) → (l.map f).foldl sumR s = (l.map g).foldl sumR s := by
  intro l
  induction l with
  | nil => intro s _ _; rfl
  | cons m l ih =>
   intro s hs h
   obtain ⟨ht, G, hG, e1, e2, e3⟩ := h m (by simp)
   rw [List.map_cons, List.map_cons, List.foldl_cons, List.foldl_cons, sumR_prop hG hs ht e1 e2 e3]
   exact ih _ (sumR_pos hs ht) (fun x hx => h x (List.mem_cons_of_mem _ hx))
 intro l h
 unfold meanR meanS
 rw [key l (0, 0, 1) (by decide) h, List.length_map, List.length_map]
theorem alone_same {m : Mt} {v : List V2} {k : Int} (hp : PermM m v.length) (hv : v.all (nearB 1048576) = true) (h0 : 0 ≤ k) (h1 : k < v.length) : SameQ (aloneR m v k) (raloneR m v k) := by
 have hao := (alone_ok hp hv h0 h1).1.d
 unfold aloneR at hao
 unfold aloneR raloneR
 split
 · rename_i h; rw [if_pos h] at hao; exact SameQ.rfl' hao
 · rename_i h
   rw [if_neg h] at hao
   split
   · rename_i h2; rw [if_pos h2] at hao; exact SameQ.rfl' hao
   · rename_i h2
     rw [if_neg h2] at hao
     split
     · rename_i h3
       rw [if_pos h3] at hao
       unfold kickS at *
       generalize statR (v.getD m.a.toNat (0, 0)).1 (v.getD m.a.toNat (0, 0)).2 m.w1 m.w2 m.n1 m.n2 m.e m.g = r at *
       obtain ⟨x, y, d⟩ := r
       simp only at *
       unfold sumR
       simp only
       obtain ⟨G, hG, e1, e2, e3, hd'⟩ := lowR_mul (x * 1 + m.k1 * d) (y * 1 + m.k2 * d) (d * 1) (by omega)
       refine ⟨hd', G, hG, ?_, ?_, ?_⟩
       · simp only; rw [← e1]; grind
       · simp only; rw [← e2]; grind
       · simp only; rw [← e3]; grind
     · exact ⟨by simp only; omega, 1, by decide, by simp only; omega, by simp only; omega, by simp only; omega⟩
set_option maxRecDepth 100000 in
set_option maxHeartbeats 20000000 in
theorem ralone_a (a b n1 n2 x1 x2 y1 y2 e f p1 p2 q1 q2 : Int) (g o n c : Nat) (w : World)
  (hg : g < w.heap.size) (i1 : 0 ≤ a) (i2 : a < (n : Int)) (c0 : w.cell? ⟨g, o + a.toNat * 2, none⟩ = some (.int .i64 p1)) (c1 : w.cell? ⟨g, o + a.toNat * 2 + 1, none⟩ = some (.int .i64 p2))
  (j1 : 0 ≤ b) (j2 : b < (n : Int)) (d0 : w.cell? ⟨g, o + b.toNat * 2, none⟩ = some (.int .i64 q1)) (d1 : w.cell? ⟨g, o + b.toNat * 2 + 1, none⟩ = some (.int .i64 q2)) (hpp : permB p1 p2 q1 q2 n1 n2 = true) (hse : sixB e = true) (hap : apprB p1 p2 q1 q2 n1 n2 = true) :
  Calls Tryz.prog 29 #[.agg #[.int .i64 a, .int .i64 b, .int .i64 n1, .int .i64 n2, .int .i64 x1, .int .i64 x2, .int .i64 y1, .int .i64 y2, .int .i64 e, .int .i64 f], .slice (some ⟨g, o, none⟩) n c, .int .i64 a] w (TOut (pairR p1 p2 q1 q2 n1 n2 e).1 w) := by
 have k1 := fun w => rpair_ap w hpp hse hap
 clear hpp hse hap
 generalize hP : pairR p1 p2 q1 q2 n1 n2 e = P at *
 obtain ⟨⟨r1, r2, r3⟩, s1, s2, s3⟩ := P
 unfold POut2 at k1
 simp only at k1 ⊢
 have K1 := hQ0 k1
 clear k1 hP
 have hb0 : decide (b ≥ 0) = true := decide_eq_true j1
 go_enter Tryz.func29, Tryz.ntmps29; (try simp only [List.append_eq, List.cons_append, List.nil_append])
 go_wp2_with fail
 (refine pin_wp (N := _) (Nat.le_refl _) (fun w101 hb_w101 hz_w101 => ?_); (try simp at hz_w101); (with_reducible apply cel10 (b := w.heap.size) hb_w101); ((try simp) <;> omega); omega; (iterate 10 (focus (go_simp; try exact rfl))); (intro o; go_simp); intro aL aX aE aY aZ bH aC aI aJ aM bI bF; (with_reducible apply cal6 (b := w.heap.size + 1) hb_w101); (focus (go_simp; try exact ⟨rfl, rfl, rfl, rfl, rfl, rfl⟩)); intro aH aF aG aK aD aV aN bE); refine wp_q (fun Q_ HQ_ => ?_); refine wp_region_floatQ w101.heap.size 21 [21] (Nat.le_refl _) (fun _ => True) trivial Cl.tt (by kernel_rfl) (by kernel_rfl) ?_
 have HB101 := hQ0 (show Below w.heap.size w w101 by ((with_reducible (repeat (first | exact bR _ _ | apply bS | apply bA | apply bD | refine bT ?_ (by assumption) ?_ | refine bO (by assumption) ?_ ?_))) <;> (first | omega | (simp <;> omega))))
 have hz101 : w.heap.size + 1 + 1 ≤ w101.heap.size := by omega
 clear hb_w101
 skip
 have c0_w101 := (HB101.out.cell (p := ⟨g, o + a.toNat * 2, none⟩) hg).trans c0
 have c1_w101 := (HB101.out.cell (p := ⟨g, o + a.toNat * 2 + 1, none⟩) hg).trans c1
 have d0_w101 := (HB101.out.cell (p := ⟨g, o + b.toNat * 2, none⟩) hg).trans d0
 have d1_w101 := (HB101.out.cell (p := ⟨g, o + b.toNat * 2 + 1, none⟩) hg).trans d1
 have hg_w101 : g < w101.heap.size := by have := HB101.out.size; omega
 refine wpQI_start [0, 1, 2, 3, 4, 5, 6, 7, 8, 9, 10, 11, 12, 13] ?_; (iterate 14 (first | (apply wpQI_step (zA rfl) (by kernel_rfl) (by exact rfl); (focus (intro W' hS; have hcS := hS.cells; go_simp; (iterate 2 (first | done | exact rfl | exact bB _ | go_simp)))); intro K hK; go_simp; (try go_bits); refine hK _ ?_; clear hK K))); refine wpQI_nil ?_
 apply wpQ_call (i := 14) (zA rfl) (by kernel_rfl) (by exact rfl); intro W hF hS; have hcS := hS.1.cells; go_simp; (go_at_call 64; refine (K1.out _).mono ?_; rintro e w102 ⟨hb_w102, u102, v102, rfl, hu102, hv102⟩; refine XPost.mk _ (fun W => RAt W u102 (r1) (r2) (r3) ∧ RAt W v102 (s1) (s2) (s3)) hb_w102 (⟨hu102, hv102⟩) (Cl.and (RAt.cl _ _ _ _) (RAt.cl _ _ _ _)) ?_); clear hb_w102 hcS hS hF
 intro K hK; go_simp; (try go_bits); refine hK _ ?_; clear hK K
 obtain ⟨s102ux, A102ux, n102ux, c102ux, s102uy, A102uy, n102uy, c102uy, s102ud, A102ud, n102ud, c102ud, rfl⟩ := RAt.val hu102
 clear hu102
 obtain ⟨s102x, A102x, n102x, c102x, s102y, A102y, n102y, c102y, s102d, A102d, n102d, c102d, rfl⟩ := RAt.val hv102
 clear hv102
 refine wpQI_start [15, 16, 17] ?_; (iterate 3 (first | (apply wpQI_step (zA rfl) (by kernel_rfl) (by exact rfl); (focus (intro W' hS; have hcS := hS.cells; go_simp; (iterate 2 (first | done | exact rfl | exact bB _ | go_simp)))); intro K hK; go_simp; (try go_bits); refine hK _ ?_; clear hK K))); refine wpQI_nil ?_
 apply wpQ_fresh (i := 19) LInv.std (zA rfl) (by kernel_rfl) (fun g => Value.pointer (some ⟨g, 0, none⟩)) (by exact rfl); (focus (intro W; go_simp; first | done | exact rfl | exact ⟨rfl, rfl⟩))
 intro g_r2_19 hN_r2_19 hG_r2_19 K hK
 go_simp; refine hK _ ?_; clear hK K
 apply wpQ_fresh (i := 18) LInv.std (zA rfl) (by kernel_rfl) (fun g => Value.pointer (some ⟨g, 0, none⟩)) (by exact rfl); (focus (intro W; go_simp; first | done | exact rfl | exact ⟨rfl, rfl⟩))
 intro g_r2_18 hN_r2_18 hG_r2_18 K hK
 go_simp; refine hK _ ?_; clear hK K
 have hne_r2_19_r2_18 : g_r2_19 ≠ g_r2_18 := hG_r2_18 _ (List.mem_cons_self ..)
 have hne_r2_18_r2_19 : g_r2_18 ≠ g_r2_19 := Ne.symm hne_r2_19_r2_18
 have hne : w.heap.size ≠ g_r2_19 ∧ g_r2_19 ≠ w.heap.size := by have := hN_r2_19; omega
 have hne : w.heap.size ≠ g_r2_18 ∧ g_r2_18 ≠ w.heap.size := by have := hN_r2_18; omega
 have hne : w.heap.size + 1 ≠ g_r2_19 ∧ g_r2_19 ≠ w.heap.size + 1 := by have := hN_r2_19; omega
 have hne : w.heap.size + 1 ≠ g_r2_18 ∧ g_r2_18 ≠ w.heap.size + 1 := by have := hN_r2_18; omega
 apply wpQ_wild (i := 20) rfl (by kernel_rfl) (by kernel_rfl); intro W hF hS; have hcS := hS.1.cells; have hb0 := (hS.2 _ (List.mem_cons_self ..)).2; simp only at hb0; have fz : (∀ o, W.frozen? ⟨g_r2_18, o, none⟩ = false) := (fun o => frozen_of_row W g_r2_18 o _ _ hb0); have cc0 := cell_of_row W g_r2_18 0 _ _ _ hb0; simp only [List.getElem?_toArray, List.getElem?_cons_zero] at cc0; have cc1 := cell_of_row W g_r2_18 1 _ _ _ hb0; simp only [List.getElem?_toArray, List.getElem?_cons_zero, List.getElem?_cons_succ] at cc1; have cc2 := cell_of_row W g_r2_18 2 _ _ _ hb0; simp only [List.getElem?_toArray, List.getElem?_cons_zero, List.getElem?_cons_succ] at cc2; have cc3 := cell_of_row W g_r2_18 3 _ _ _ hb0; simp only [List.getElem?_toArray, List.getElem?_cons_zero, List.getElem?_cons_succ] at cc3; have cc4 := cell_of_row W g_r2_18 4 _ _ _ hb0; simp only [List.getElem?_toArray, List.getElem?_cons_zero, List.getElem?_cons_succ] at cc4; have cc5 := cell_of_row W g_r2_18 5 _ _ _ hb0; simp only [List.getElem?_toArray, List.getElem?_cons_zero, List.getElem?_cons_succ] at cc5; go_simp
 have hP := ((((((hS.put hG_r2_18 0 (.bool s102ux)).put hG_r2_18 1 (.slice A102ux n102ux c102ux)).put hG_r2_18 2 (.bool s102uy)).put hG_r2_18 3 (.slice A102uy n102uy c102uy)).put hG_r2_18 4 (.bool s102ud)).put hG_r2_18 5 (.slice A102ud n102ud c102ud))
 simp only [List.setIfInBounds_toArray, List.set_cons_zero, List.set_cons_succ] at hP
 refine WPost.mk _ (fun W => RAt W (.agg #[.bool s102ux, .slice A102ux n102ux c102ux, .bool s102uy, .slice A102uy n102uy c102uy, .bool s102ud, .slice A102ud n102ud c102ud]) (r1) (r2) (r3) ∧ RAt W (.agg #[.bool s102x, .slice A102x n102x c102x, .bool s102y, .slice A102y n102y c102y, .bool s102d, .slice A102d n102d c102d]) (s1) (s2) (s3)) _ ⟨(by ((with_reducible (repeat (first | exact hF.1 | apply RAt.st1))) <;> (first | (with_reducible assumption) | (intro _ e; cases e; done) | (go_simp; first | done | exact rfl)))), (by ((with_reducible (repeat (first | exact hF.2 | apply RAt.st1))) <;> (first | (with_reducible assumption) | (intro _ e; cases e; done) | (go_simp; first | done | exact rfl))))⟩ (Cl.and (RAt.cl _ _ _ _) (RAt.cl _ _ _ _)) hP ?_
 clear hP fz hb0 cc0 cc1 cc2 cc3 cc4 cc5 hcS hS hF
 intro K hK; go_simp; refine hK _ ?_; clear hK K
 refine wpQ_done (by kernel_rfl) ?_
 intro w103 hF_w103 hSG
 have hz_w103 := hSG.1.1
 have hb_w103 := hSG.1.2
 have hB_r2_18 := (hSG.2 _ (List.mem_cons_self ..)).2; simp only at hB_r2_18; have hl_r2_18 := (hSG.size (List.mem_cons_self ..)); simp only at hl_r2_18
 have bC := cell_of_row w103 g_r2_18 0 _ _ _ hB_r2_18; simp only [List.getElem?_toArray, List.getElem?_cons_zero] at bC
 have aR := cell_of_row w103 g_r2_18 1 _ _ _ hB_r2_18; simp only [List.getElem?_toArray, List.getElem?_cons_zero, List.getElem?_cons_succ] at aR
 have aP := cell_of_row w103 g_r2_18 2 _ _ _ hB_r2_18; simp only [List.getElem?_toArray, List.getElem?_cons_zero, List.getElem?_cons_succ] at aP
 have aA := cell_of_row w103 g_r2_18 3 _ _ _ hB_r2_18; simp only [List.getElem?_toArray, List.getElem?_cons_zero, List.getElem?_cons_succ] at aA
 have bG := cell_of_row w103 g_r2_18 4 _ _ _ hB_r2_18; simp only [List.getElem?_toArray, List.getElem?_cons_zero, List.getElem?_cons_succ] at bG
 have aU := cell_of_row w103 g_r2_18 5 _ _ _ hB_r2_18; simp only [List.getElem?_toArray, List.getElem?_cons_zero, List.getElem?_cons_succ] at aU
 have bM : (∀ o, w103.frozen? ⟨g_r2_18, o, none⟩ = false) := (fun o => frozen_of_row w103 g_r2_18 o _ _ hB_r2_18); have HH_r2_18 := hQ0 hB_r2_18; clear hB_r2_18
 have hB_r2_19 := (hSG.2 _ (List.mem_cons_of_mem _ (List.mem_cons_self ..))).2; simp only at hB_r2_19; have hl_r2_19 := (hSG.size (List.mem_cons_of_mem _ (List.mem_cons_self ..))); simp only at hl_r2_19
 have aW := cell_of_row w103 g_r2_19 0 _ _ _ hB_r2_19; simp only [List.getElem?_toArray, List.getElem?_cons_zero] at aW
 have aS := cell_of_row w103 g_r2_19 1 _ _ _ hB_r2_19; simp only [List.getElem?_toArray, List.getElem?_cons_zero, List.getElem?_cons_succ] at aS
 have aQ := cell_of_row w103 g_r2_19 2 _ _ _ hB_r2_19; simp only [List.getElem?_toArray, List.getElem?_cons_zero, List.getElem?_cons_succ] at aQ
 have aO := cell_of_row w103 g_r2_19 3 _ _ _ hB_r2_19; simp only [List.getElem?_toArray, List.getElem?_cons_zero, List.getElem?_cons_succ] at aO
 have aT := cell_of_row w103 g_r2_19 4 _ _ _ hB_r2_19; simp only [List.getElem?_toArray, List.getElem?_cons_zero, List.getElem?_cons_succ] at aT
 have aB := cell_of_row w103 g_r2_19 5 _ _ _ hB_r2_19; simp only [List.getElem?_toArray, List.getElem?_cons_zero, List.getElem?_cons_succ] at aB
 have dI : (∀ o, w103.frozen? ⟨g_r2_19, o, none⟩ = false) := (fun o => frozen_of_row w103 g_r2_19 o _ _ hB_r2_19); have HH_r2_19 := hQ0 hB_r2_19; clear hB_r2_19
 clear hSG
 (with_reducible apply cel10 (b := w.heap.size) hb_w103); ((try simp) <;> omega); omega; (iterate 10 (focus (go_simp; try exact rfl))); (intro o; go_simp); intro bU bP bK dF bJ bY dB dG bZ bL dA dD; (with_reducible apply cel6 (b := w.heap.size + 1) hb_w103); ((try simp) <;> omega); omega; (iterate 6 (focus (go_simp; try exact rfl))); (intro o; go_simp); intro bQ dE bV bN bW bX dC dH
 (try simp only [List.filterMap_cons, List.filterMap_nil, List.getElem?_cons_succ, List.getElem?_cons_zero])
 have H102u := hQ0 (show RAt w103 (.agg #[.bool s102ux, .slice A102ux n102ux c102ux, .bool s102uy, .slice A102uy n102uy c102uy, .bool s102ud, .slice A102ud n102ud c102ud]) (r1) (r2) (r3) from hF_w103.1)
 have H102 := hQ0 (show RAt w103 (.agg #[.bool s102x, .slice A102x n102x c102x, .bool s102y, .slice A102y n102y c102y, .bool s102d, .slice A102d n102d c102d]) (s1) (s2) (s3) from hF_w103.2)
 have HB103 := hQ0 (HB101.out.trans (hb_w103.mono (by have := HB101.out.size; omega)))
 have hz103 : w.heap.size + 1 + 1 ≤ w103.heap.size := by omega
 have hn_r2_19 : w.heap.size + 1 + 1 ≤ g_r2_19 := by have := hN_r2_19; omega
 have hn_r2_18 : w.heap.size + 1 + 1 ≤ g_r2_18 := by have := hN_r2_18; omega
 clear hF_w103 hb_w103 HH_r2_19 hG_r2_19 hN_r2_19 HH_r2_18 hG_r2_18 hN_r2_18
 clear aL aX aE aY aZ bH aC aI aJ aM bI bF aH aF aG aK aD aV aN bE
 go_wp2_with fail
 refine HQ_.out _ _ _ ?_
 clear HQ_ Q_
 go_wp2_with fail
 refine bodyPost_ret (v := .agg #[.bool s102ux, .slice A102ux n102ux c102ux, .bool s102uy, .slice A102uy n102uy c102uy, .bool s102ud, .slice A102ud n102ud c102ud]) (by simp only [results, Tryz.results29]; go_simp) rfl ⟨?_, ?_⟩
 · have hB := HB103.out; ((with_reducible (repeat (first | exact bR _ _ | apply bS | apply bA | apply bD | refine bT ?_ (by assumption) ?_ | refine bO (by assumption) ?_ ?_))) <;> (first | omega | (simp <;> omega)))
 · exact ⟨_, rfl, (by ((with_reducible (repeat (first | exact H102u.out | refine RAt.al ?_ _ | apply RAt.st1))) <;> (first | (with_reducible assumption) | (intro _ e; cases e; done) | (go_simp; first | done | exact rfl))))⟩
set_option maxRecDepth 100000 in
set_option maxHeartbeats 20000000 in
theorem ralone_b (a b n1 n2 x1 x2 y1 y2 e f p1 p2 q1 q2 : Int) (g o n c : Nat) (w : World)
  (hg : g < w.heap.size) (i1 : 0 ≤ a) (i2 : a < (n : Int)) (c0 : w.cell? ⟨g, o + a.toNat * 2, none⟩ = some (.int .i64 p1)) (c1 : w.cell? ⟨g, o + a.toNat * 2 + 1, none⟩ = some (.int .i64 p2))
  (j1 : 0 ≤ b) (j2 : b < (n : Int)) (d0 : w.cell? ⟨g, o + b.toNat * 2, none⟩ = some (.int .i64 q1)) (d1 : w.cell? ⟨g, o + b.toNat * 2 + 1, none⟩ = some (.int .i64 q2)) (hpp : permB p1 p2 q1 q2 n1 n2 = true) (hse : sixB e = true) (hap : apprB p1 p2 q1 q2 n1 n2 = true) (hab : ¬ b = a) :
  Calls Tryz.prog 29 #[.agg #[.int .i64 a, .int .i64 b, .int .i64 n1, .int .i64 n2, .int .i64 x1, .int .i64 x2, .int .i64 y1, .int .i64 y2, .int .i64 e, .int .i64 f], .slice (some ⟨g, o, none⟩) n c, .int .i64 b] w (TOut (pairR p1 p2 q1 q2 n1 n2 e).2 w) := by
 have k1 := fun w => rpair_ap w hpp hse hap
 clear hpp hse hap
 generalize hP : pairR p1 p2 q1 q2 n1 n2 e = P at *
 obtain ⟨⟨r1, r2, r3⟩, s1, s2, s3⟩ := P
 unfold POut2 at k1
 simp only at k1 ⊢
 have K1 := hQ0 k1
 clear k1 hP
 have hb0 : decide (b ≥ 0) = true := decide_eq_true j1
 have hab0 : (b == a) = false := by rw [beq_eq_false_iff_ne]; exact hab
 go_enter Tryz.func29, Tryz.ntmps29; (try simp only [List.append_eq, List.cons_append, List.nil_append])
 go_wp2_with fail
 (refine pin_wp (N := _) (Nat.le_refl _) (fun w101 hb_w101 hz_w101 => ?_); (try simp at hz_w101); (with_reducible apply cel10 (b := w.heap.size) hb_w101); ((try simp) <;> omega); omega; (iterate 10 (focus (go_simp; try exact rfl))); (intro o; go_simp); intro aL aX aE aY aZ bH aC aI aJ aM bI bF; (with_reducible apply cal6 (b := w.heap.size + 1) hb_w101); (focus (go_simp; try exact ⟨rfl, rfl, rfl, rfl, rfl, rfl⟩)); intro aH aF aG aK aD aV aN bE); refine wp_q (fun Q_ HQ_ => ?_); refine wp_region_floatQ w101.heap.size 21 [21] (Nat.le_refl _) (fun _ => True) trivial Cl.tt (by kernel_rfl) (by kernel_rfl) ?_
 have HB101 := hQ0 (show Below w.heap.size w w101 by ((with_reducible (repeat (first | exact bR _ _ | apply bS | apply bA | apply bD | refine bT ?_ (by assumption) ?_ | refine bO (by assumption) ?_ ?_))) <;> (first | omega | (simp <;> omega))))
 have hz101 : w.heap.size + 1 + 1 ≤ w101.heap.size := by omega
 clear hb_w101
 skip
 have c0_w101 := (HB101.out.cell (p := ⟨g, o + a.toNat * 2, none⟩) hg).trans c0
 have c1_w101 := (HB101.out.cell (p := ⟨g, o + a.toNat * 2 + 1, none⟩) hg).trans c1
 have d0_w101 := (HB101.out.cell (p := ⟨g, o + b.toNat * 2, none⟩) hg).trans d0
 have d1_w101 := (HB101.out.cell (p := ⟨g, o + b.toNat * 2 + 1, none⟩) hg).trans d1
 have hg_w101 : g < w101.heap.size := by have := HB101.out.size; omega
 refine wpQI_start [0, 1, 2, 3, 4, 5, 6, 7, 8, 9, 10, 11, 12, 13] ?_; (iterate 14 (first | (apply wpQI_step (zA rfl) (by kernel_rfl) (by exact rfl); (focus (intro W' hS; have hcS := hS.cells; go_simp; (iterate 2 (first | done | exact rfl | exact bB _ | go_simp)))); intro K hK; go_simp; (try go_bits); refine hK _ ?_; clear hK K))); refine wpQI_nil ?_
 apply wpQ_call (i := 14) (zA rfl) (by kernel_rfl) (by exact rfl); intro W hF hS; have hcS := hS.1.cells; go_simp; (go_at_call 64; refine (K1.out _).mono ?_; rintro e w102 ⟨hb_w102, u102, v102, rfl, hu102, hv102⟩; refine XPost.mk _ (fun W => RAt W u102 (r1) (r2) (r3) ∧ RAt W v102 (s1) (s2) (s3)) hb_w102 (⟨hu102, hv102⟩) (Cl.and (RAt.cl _ _ _ _) (RAt.cl _ _ _ _)) ?_); clear hb_w102 hcS hS hF
 intro K hK; go_simp; (try go_bits); refine hK _ ?_; clear hK K
 obtain ⟨s102ux, A102ux, n102ux, c102ux, s102uy, A102uy, n102uy, c102uy, s102ud, A102ud, n102ud, c102ud, rfl⟩ := RAt.val hu102
 clear hu102
 obtain ⟨s102x, A102x, n102x, c102x, s102y, A102y, n102y, c102y, s102d, A102d, n102d, c102d, rfl⟩ := RAt.val hv102
 clear hv102
 refine wpQI_start [15, 16, 17] ?_; (iterate 3 (first | (apply wpQI_step (zA rfl) (by kernel_rfl) (by exact rfl); (focus (intro W' hS; have hcS := hS.cells; go_simp; (iterate 2 (first | done | exact rfl | exact bB _ | go_simp)))); intro K hK; go_simp; (try go_bits); refine hK _ ?_; clear hK K))); refine wpQI_nil ?_
 apply wpQ_fresh (i := 19) LInv.std (zA rfl) (by kernel_rfl) (fun g => Value.pointer (some ⟨g, 0, none⟩)) (by exact rfl); (focus (intro W; go_simp; first | done | exact rfl | exact ⟨rfl, rfl⟩))
 intro g_r2_19 hN_r2_19 hG_r2_19 K hK
 go_simp; refine hK _ ?_; clear hK K
 apply wpQ_fresh (i := 18) LInv.std (zA rfl) (by kernel_rfl) (fun g => Value.pointer (some ⟨g, 0, none⟩)) (by exact rfl); (focus (intro W; go_simp; first | done | exact rfl | exact ⟨rfl, rfl⟩))
 intro g_r2_18 hN_r2_18 hG_r2_18 K hK
 go_simp; refine hK _ ?_; clear hK K
 have hne_r2_19_r2_18 : g_r2_19 ≠ g_r2_18 := hG_r2_18 _ (List.mem_cons_self ..)
 have hne_r2_18_r2_19 : g_r2_18 ≠ g_r2_19 := Ne.symm hne_r2_19_r2_18
 have hne : w.heap.size ≠ g_r2_19 ∧ g_r2_19 ≠ w.heap.size := by have := hN_r2_19; omega
 have hne : w.heap.size ≠ g_r2_18 ∧ g_r2_18 ≠ w.heap.size := by have := hN_r2_18; omega
 have hne : w.heap.size + 1 ≠ g_r2_19 ∧ g_r2_19 ≠ w.heap.size + 1 := by have := hN_r2_19; omega
 have hne : w.heap.size + 1 ≠ g_r2_18 ∧ g_r2_18 ≠ w.heap.size + 1 := by have := hN_r2_18; omega
 apply wpQ_wild (i := 20) rfl (by kernel_rfl) (by kernel_rfl); intro W hF hS; have hcS := hS.1.cells; have hb0 := (hS.2 _ (List.mem_cons_self ..)).2; simp only at hb0; have fz : (∀ o, W.frozen? ⟨g_r2_18, o, none⟩ = false) := (fun o => frozen_of_row W g_r2_18 o _ _ hb0); have cc0 := cell_of_row W g_r2_18 0 _ _ _ hb0; simp only [List.getElem?_toArray, List.getElem?_cons_zero] at cc0; have cc1 := cell_of_row W g_r2_18 1 _ _ _ hb0; simp only [List.getElem?_toArray, List.getElem?_cons_zero, List.getElem?_cons_succ] at cc1; have cc2 := cell_of_row W g_r2_18 2 _ _ _ hb0; simp only [List.getElem?_toArray, List.getElem?_cons_zero, List.getElem?_cons_succ] at cc2; have cc3 := cell_of_row W g_r2_18 3 _ _ _ hb0; simp only [List.getElem?_toArray, List.getElem?_cons_zero, List.getElem?_cons_succ] at cc3; have cc4 := cell_of_row W g_r2_18 4 _ _ _ hb0; simp only [List.getElem?_toArray, List.getElem?_cons_zero, List.getElem?_cons_succ] at cc4; have cc5 := cell_of_row W g_r2_18 5 _ _ _ hb0; simp only [List.getElem?_toArray, List.getElem?_cons_zero, List.getElem?_cons_succ] at cc5; go_simp
 have hP := ((((((hS.put hG_r2_18 0 (.bool s102ux)).put hG_r2_18 1 (.slice A102ux n102ux c102ux)).put hG_r2_18 2 (.bool s102uy)).put hG_r2_18 3 (.slice A102uy n102uy c102uy)).put hG_r2_18 4 (.bool s102ud)).put hG_r2_18 5 (.slice A102ud n102ud c102ud))
 simp only [List.setIfInBounds_toArray, List.set_cons_zero, List.set_cons_succ] at hP
 refine WPost.mk _ (fun W => RAt W (.agg #[.bool s102ux, .slice A102ux n102ux c102ux, .bool s102uy, .slice A102uy n102uy c102uy, .bool s102ud, .slice A102ud n102ud c102ud]) (r1) (r2) (r3) ∧ RAt W (.agg #[.bool s102x, .slice A102x n102x c102x, .bool s102y, .slice A102y n102y c102y, .bool s102d, .slice A102d n102d c102d]) (s1) (s2) (s3)) _ ⟨(by ((with_reducible (repeat (first | exact hF.1 | apply RAt.st1))) <;> (first | (with_reducible assumption) | (intro _ e; cases e; done) | (go_simp; first | done | exact rfl)))), (by ((with_reducible (repeat (first | exact hF.2 | apply RAt.st1))) <;> (first | (with_reducible assumption) | (intro _ e; cases e; done) | (go_simp; first | done | exact rfl))))⟩ (Cl.and (RAt.cl _ _ _ _) (RAt.cl _ _ _ _)) hP ?_
 clear hP fz hb0 cc0 cc1 cc2 cc3 cc4 cc5 hcS hS hF
 intro K hK; go_simp; refine hK _ ?_; clear hK K
 refine wpQ_done (by kernel_rfl) ?_
 intro w103 hF_w103 hSG
 have hz_w103 := hSG.1.1
 have hb_w103 := hSG.1.2
 have hB_r2_18 := (hSG.2 _ (List.mem_cons_self ..)).2; simp only at hB_r2_18; have hl_r2_18 := (hSG.size (List.mem_cons_self ..)); simp only at hl_r2_18
 have bC := cell_of_row w103 g_r2_18 0 _ _ _ hB_r2_18; simp only [List.getElem?_toArray, List.getElem?_cons_zero] at bC
 have aR := cell_of_row w103 g_r2_18 1 _ _ _ hB_r2_18; simp only [List.getElem?_toArray, List.getElem?_cons_zero, List.getElem?_cons_succ] at aR
 have aP := cell_of_row w103 g_r2_18 2 _ _ _ hB_r2_18; simp only [List.getElem?_toArray, List.getElem?_cons_zero, List.getElem?_cons_succ] at aP
 have aA := cell_of_row w103 g_r2_18 3 _ _ _ hB_r2_18; simp only [List.getElem?_toArray, List.getElem?_cons_zero, List.getElem?_cons_succ] at aA
 have bG := cell_of_row w103 g_r2_18 4 _ _ _ hB_r2_18; simp only [List.getElem?_toArray, List.getElem?_cons_zero, List.getElem?_cons_succ] at bG
 have aU := cell_of_row w103 g_r2_18 5 _ _ _ hB_r2_18; simp only [List.getElem?_toArray, List.getElem?_cons_zero, List.getElem?_cons_succ] at aU
 have bM : (∀ o, w103.frozen? ⟨g_r2_18, o, none⟩ = false) := (fun o => frozen_of_row w103 g_r2_18 o _ _ hB_r2_18); have HH_r2_18 := hQ0 hB_r2_18; clear hB_r2_18
 have hB_r2_19 := (hSG.2 _ (List.mem_cons_of_mem _ (List.mem_cons_self ..))).2; simp only at hB_r2_19; have hl_r2_19 := (hSG.size (List.mem_cons_of_mem _ (List.mem_cons_self ..))); simp only at hl_r2_19
 have aW := cell_of_row w103 g_r2_19 0 _ _ _ hB_r2_19; simp only [List.getElem?_toArray, List.getElem?_cons_zero] at aW
 have aS := cell_of_row w103 g_r2_19 1 _ _ _ hB_r2_19; simp only [List.getElem?_toArray, List.getElem?_cons_zero, List.getElem?_cons_succ] at aS
 have aQ := cell_of_row w103 g_r2_19 2 _ _ _ hB_r2_19; simp only [List.getElem?_toArray, List.getElem?_cons_zero, List.getElem?_cons_succ] at aQ
 have aO := cell_of_row w103 g_r2_19 3 _ _ _ hB_r2_19; simp only [List.getElem?_toArray, List.getElem?_cons_zero, List.getElem?_cons_succ] at aO
 have aT := cell_of_row w103 g_r2_19 4 _ _ _ hB_r2_19; simp only [List.getElem?_toArray, List.getElem?_cons_zero, List.getElem?_cons_succ] at aT
 have aB := cell_of_row w103 g_r2_19 5 _ _ _ hB_r2_19; simp only [List.getElem?_toArray, List.getElem?_cons_zero, List.getElem?_cons_succ] at aB
 have dI : (∀ o, w103.frozen? ⟨g_r2_19, o, none⟩ = false) := (fun o => frozen_of_row w103 g_r2_19 o _ _ hB_r2_19); have HH_r2_19 := hQ0 hB_r2_19; clear hB_r2_19
 clear hSG
 (with_reducible apply cel10 (b := w.heap.size) hb_w103); ((try simp) <;> omega); omega; (iterate 10 (focus (go_simp; try exact rfl))); (intro o; go_simp); intro bU bP bK dF bJ bY dB dG bZ bL dA dD; (with_reducible apply cel6 (b := w.heap.size + 1) hb_w103); ((try simp) <;> omega); omega; (iterate 6 (focus (go_simp; try exact rfl))); (intro o; go_simp); intro bQ dE bV bN bW bX dC dH
 (try simp only [List.filterMap_cons, List.filterMap_nil, List.getElem?_cons_succ, List.getElem?_cons_zero])
 have H102u := hQ0 (show RAt w103 (.agg #[.bool s102ux, .slice A102ux n102ux c102ux, .bool s102uy, .slice A102uy n102uy c102uy, .bool s102ud, .slice A102ud n102ud c102ud]) (r1) (r2) (r3) from hF_w103.1)
 have H102 := hQ0 (show RAt w103 (.agg #[.bool s102x, .slice A102x n102x c102x, .bool s102y, .slice A102y n102y c102y, .bool s102d, .slice A102d n102d c102d]) (s1) (s2) (s3) from hF_w103.2)
 have HB103 := hQ0 (HB101.out.trans (hb_w103.mono (by have := HB101.out.size; omega)))
 have hz103 : w.heap.size + 1 + 1 ≤ w103.heap.size := by omega
 have hn_r2_19 : w.heap.size + 1 + 1 ≤ g_r2_19 := by have := hN_r2_19; omega
 have hn_r2_18 : w.heap.size + 1 + 1 ≤ g_r2_18 := by have := hN_r2_18; omega
 clear hF_w103 hb_w103 HH_r2_19 hG_r2_19 hN_r2_19 HH_r2_18 hG_r2_18 hN_r2_18
 clear aL aX aE aY aZ bH aC aI aJ aM bI bF aH aF aG aK aD aV aN bE
 go_wp2_with fail
 refine HQ_.out _ _ _ ?_
 clear HQ_ Q_
 go_wp2_with fail
 refine bodyPost_ret (v := .agg #[.bool s102x, .slice A102x n102x c102x, .bool s102y, .slice A102y n102y c102y, .bool s102d, .slice A102d n102d c102d]) (by simp only [results, Tryz.results29]; go_simp) rfl ⟨?_, ?_⟩
 · have hB := HB103.out; ((with_reducible (repeat (first | exact bR _ _ | apply bS | apply bA | apply bD | refine bT ?_ (by assumption) ?_ | refine bO (by assumption) ?_ ?_))) <;> (first | omega | (simp <;> omega)))
 · exact ⟨_, rfl, (by ((with_reducible (repeat (first | exact H102.out | refine RAt.al ?_ _ | apply RAt.st1))) <;> (first | (with_reducible assumption) | (intro _ e; cases e; done) | (go_simp; first | done | exact rfl))))⟩
set_option maxRecDepth 100000 in
set_option maxHeartbeats 20000000 in
theorem ralone_s (a n1 n2 x1 x2 y1 y2 e f p1 p2 : Int) (g o n c : Nat) (w : World)
  (hg : g < w.heap.size) (i1 : 0 ≤ a) (i2 : a < (n : Int)) (c0 : w.cell? ⟨g, o + a.toNat * 2, none⟩ = some (.int .i64 p1)) (c1 : w.cell? ⟨g, o + a.toNat * 2 + 1, none⟩ = some (.int .i64 p2)) (hy1 : -1048576 ≤ y1 ∧ y1 ≤ 1048576) (hy2 : -1048576 ≤ y2 ∧ y2 ≤ 1048576) (hd : 0 < (statR p1 p2 x1 x2 n1 n2 e f).2.2) (hpp : permB p1 p2 x1 x2 n1 n2 = true) (hse : sixB e = true) (hsg : sixB f = true) (hap : apprB p1 p2 x1 x2 n1 n2 = true) :
  Calls Tryz.prog 29 #[.agg #[.int .i64 a, .int .i64 (-1), .int .i64 n1, .int .i64 n2, .int .i64 x1, .int .i64 x2, .int .i64 y1, .int .i64 y2, .int .i64 e, .int .i64 f], .slice (some ⟨g, o, none⟩) n c, .int .i64 a] w (TOut (sumR (statR p1 p2 x1 x2 n1 n2 e f) (y1, y2, 1)) w) := by
 have k1 := fun w => rstat_ap w hpp hse hsg hap
 clear hpp hse hsg hap
 obtain ⟨⟨lx, ly, ld⟩, _⟩ := stat_lens p1 p2 x1 x2 n1 n2 e f
 unfold TOut at *
 generalize hP : statR p1 p2 x1 x2 n1 n2 e f = P at *
 obtain ⟨r1, r2, r3⟩ := P
 simp only at k1 lx ly ld hd
 have k2 := fun w => rwhole_any y1 y2 w (by omega) (by omega)
 have ly1 := len_up (len_wd (z := y1) (by omega) (by omega)) (show _ ≤ 1000 by omega)
 have ly2 := len_up (len_wd (z := y2) (by omega) (by omega)) (show _ ≤ 1000 by omega)
 have l1 := len_up (len_wd (z := 1) (by omega) (by omega)) (show _ ≤ 1000 by omega)
 have k3 := fun u v w h1 h2 => rsum_any r1 r2 r3 y1 y2 1 u v w h1 h2 (by omega) (len_up lx (by omega)) (len_up ly (by omega)) (len_up ld (by omega)) ly1 ly2 l1
 unfold POut at k3
 generalize sumR (r1, r2, r3) (y1, y2, 1) = S at *
 obtain ⟨S1, S2, S3⟩ := S
 simp only at k3 ⊢
 have K1 := hQ0 k1
 have K2 := hQ0 k2
 have K3 := hQ0 k3
 clear k1 k2 k3 hP lx ly ld ly1 ly2 l1 hy1 hy2 hd
 go_enter Tryz.func29, Tryz.ntmps29; (try simp only [List.append_eq, List.cons_append, List.nil_append])
 go_wp2_with fail
 (refine pin_wp (N := _) (Nat.le_refl _) (fun w101 hb_w101 hz_w101 => ?_); (try simp at hz_w101); (with_reducible apply cel10 (b := w.heap.size) hb_w101); ((try simp) <;> omega); omega; (iterate 10 (focus (go_simp; try exact rfl))); (intro o; go_simp); intro aJ aN aC aO aP aS aA aG aH aK aT aR; (with_reducible apply cal6 (b := w.heap.size + 1) hb_w101); (focus (go_simp; try exact ⟨rfl, rfl, rfl, rfl, rfl, rfl⟩)); intro aF aD aE aI aB aM aL aQ); refine wp_q (fun Q_ HQ_ => ?_); refine wp_region_floatQ w101.heap.size 18 [18] (Nat.le_refl _) (fun _ => True) trivial Cl.tt (by kernel_rfl) (by kernel_rfl) ?_
 have HB101 := hQ0 (show Below w.heap.size w w101 by ((with_reducible (repeat (first | exact bR _ _ | apply bS | apply bA | apply bD | refine bT ?_ (by assumption) ?_ | refine bO (by assumption) ?_ ?_))) <;> (first | omega | (simp <;> omega))))
 have hz101 : w.heap.size + 1 + 1 ≤ w101.heap.size := by omega
 clear hb_w101
 skip
 have c0_w101 := (HB101.out.cell (p := ⟨g, o + a.toNat * 2, none⟩) hg).trans c0
 have c1_w101 := (HB101.out.cell (p := ⟨g, o + a.toNat * 2 + 1, none⟩) hg).trans c1
 have hg_w101 : g < w101.heap.size := by have := HB101.out.size; omega
 refine wpQI_start [0, 1, 2, 3, 4, 5, 6, 7, 8, 9, 10, 11, 12] ?_; (iterate 13 (first | (apply wpQI_step (zA rfl) (by kernel_rfl) (by exact rfl); (focus (intro W' hS; have hcS := hS.cells; go_simp; (iterate 2 (first | done | exact rfl | exact bB _ | go_simp)))); intro K hK; go_simp; (try go_bits); refine hK _ ?_; clear hK K))); refine wpQI_nil ?_
 refine wpQI_start [14, 15] ?_; (iterate 2 (first | (apply wpQI_step (zA rfl) (by kernel_rfl) (by exact rfl); (focus (intro W' hS; have hcS := hS.cells; go_simp; (iterate 2 (first | done | exact rfl | exact bB _ | go_simp)))); intro K hK; go_simp; (try go_bits); refine hK _ ?_; clear hK K))); refine wpQI_nil ?_
 apply wpQ_call (i := 13) (zA rfl) (by kernel_rfl) (by exact rfl); intro W hF hS; have hcS := hS.1.cells; go_simp; (go_at_call 15; refine (K1.out _).mono ?_; rintro e w102 ⟨hb_w102, v102, rfl, hv102⟩; refine XPost.mk _ (fun W => RAt W v102 (r1) (r2) (r3)) hb_w102 (hv102) (RAt.cl _ _ _ _) ?_); clear hb_w102 hcS hS hF
 intro K hK; go_simp; (try go_bits); refine hK _ ?_; clear hK K
 obtain ⟨s102x, A102x, n102x, c102x, s102y, A102y, n102y, c102y, s102d, A102d, n102d, c102d, rfl⟩ := RAt.val hv102
 clear hv102
 apply wpQ_call (i := 16) (zA rfl) (by kernel_rfl) (by exact rfl); intro W hF hS; have hcS := hS.1.cells; go_simp; (go_at_call 16; refine (K2.out _).mono ?_; rintro e w103 ⟨hb_w103, v103, rfl, hv103⟩; refine XPost.mk _ (fun W => RAt W v103 (y1) (y2) (1)) hb_w103 (hv103) (RAt.cl _ _ _ _) ?_); clear hb_w103 hcS hS hF
 intro K hK; go_simp; (try go_bits); refine hK _ ?_; clear hK K
 obtain ⟨s103x, A103x, n103x, c103x, s103y, A103y, n103y, c103y, s103d, A103d, n103d, c103d, rfl⟩ := RAt.val hv103
 clear hv103
 apply wpQ_call (i := 17) (zA rfl) (by kernel_rfl) (by exact rfl); intro W hF hS; have hcS := hS.1.cells; go_simp; (go_at_call 14; refine (K3.out _ _ _ (hF.1) (hF.2)).mono ?_; rintro e w104 ⟨hb_w104, v104, rfl, hv104⟩; refine XPost.mk _ (fun W => RAt W v104 (S1) (S2) (S3)) hb_w104 (hv104) (RAt.cl _ _ _ _) ?_); clear hb_w104 hcS hS hF
 intro K hK; go_simp; (try go_bits); refine hK _ ?_; clear hK K
 obtain ⟨s104x, A104x, n104x, c104x, s104y, A104y, n104y, c104y, s104d, A104d, n104d, c104d, rfl⟩ := RAt.val hv104
 clear hv104
 refine wpQ_done (by kernel_rfl) ?_
 intro w105 hF_w105 hSG
 have hz_w105 := hSG.1.1
 have hb_w105 := hSG.1.2
 clear hSG
 (with_reducible apply cel10 (b := w.heap.size) hb_w105); ((try simp) <;> omega); omega; (iterate 10 (focus (go_simp; try exact rfl))); (intro o; go_simp); intro bN bQ aY aW aX bU aU aZ bF bE bC bK; (with_reducible apply cel6 (b := w.heap.size + 1) hb_w105); ((try simp) <;> omega); omega; (iterate 6 (focus (go_simp; try exact rfl))); (intro o; go_simp); intro bJ bH bM bL aV bG bI bP
 (try simp only [List.filterMap_cons, List.filterMap_nil, List.getElem?_cons_succ, List.getElem?_cons_zero])
 have H102 := hQ0 (show RAt w105 (.agg #[.bool s102x, .slice A102x n102x c102x, .bool s102y, .slice A102y n102y c102y, .bool s102d, .slice A102d n102d c102d]) (r1) (r2) (r3) from hF_w105.1.1)
 have H103 := hQ0 (show RAt w105 (.agg #[.bool s103x, .slice A103x n103x c103x, .bool s103y, .slice A103y n103y c103y, .bool s103d, .slice A103d n103d c103d]) (y1) (y2) (1) from hF_w105.1.2)
 have H104 := hQ0 (show RAt w105 (.agg #[.bool s104x, .slice A104x n104x c104x, .bool s104y, .slice A104y n104y c104y, .bool s104d, .slice A104d n104d c104d]) (S1) (S2) (S3) from hF_w105.2)
 have HB105 := hQ0 (HB101.out.trans (hb_w105.mono (by have := HB101.out.size; omega)))
 have hz105 : w.heap.size + 1 + 1 ≤ w105.heap.size := by omega
 clear hF_w105 hb_w105
 clear aJ aN aC aO aP aS aA aG aH aK aT aR aF aD aE aI aB aM aL aQ
 go_wp2_with fail
 refine HQ_.out _ _ _ ?_
 clear HQ_ Q_
 go_wp2_with fail
 refine bodyPost_ret (v := .agg #[.bool s104x, .slice A104x n104x c104x, .bool s104y, .slice A104y n104y c104y, .bool s104d, .slice A104d n104d c104d]) (by simp only [results, Tryz.results29]; go_simp) rfl ⟨?_, ?_⟩
 · have hB := HB105.out; ((with_reducible (repeat (first | exact bR _ _ | apply bS | apply bA | apply bD | refine bT ?_ (by assumption) ?_ | refine bO (by assumption) ?_ ?_))) <;> (first | omega | (simp <;> omega)))
 · exact ⟨_, rfl, (by ((with_reducible (repeat (first | exact H104.out | refine RAt.al ?_ _ | apply RAt.st1))) <;> (first | (with_reducible assumption) | (intro _ e; cases e; done) | (go_simp; first | done | exact rfl))))⟩
set_option maxRecDepth 100000 in
set_option maxHeartbeats 20000000 in
theorem ralone_o (a b n1 n2 x1 x2 y1 y2 e f p1 p2 k : Int) (g o n c : Nat) (w : World)
  (hg : g < w.heap.size) (i1 : 0 ≤ k) (i2 : k < (n : Int)) (c0 : w.cell? ⟨g, o + k.toNat * 2, none⟩ = some (.int .i64 p1)) (c1 : w.cell? ⟨g, o + k.toNat * 2 + 1, none⟩ = some (.int .i64 p2)) (hp1 : -1048576 ≤ p1 ∧ p1 ≤ 1048576) (hp2 : -1048576 ≤ p2 ∧ p2 ≤ 1048576) (h1 : ¬ k = a) (h2 : b = -1 ∨ ¬ k = b) (hbb : -1 ≤ b) :
  Calls Tryz.prog 29 #[.agg #[.int .i64 a, .int .i64 b, .int .i64 n1, .int .i64 n2, .int .i64 x1, .int .i64 x2, .int .i64 y1, .int .i64 y2, .int .i64 e, .int .i64 f], .slice (some ⟨g, o, none⟩) n c, .int .i64 k] w (TOut (p1, p2, 1) w) := by
 have k1 := fun w => rwhole_any p1 p2 w (by omega) (by omega)
 unfold TOut
 simp only
 have K1 := hQ0 k1
 have hka : (k == a) = false := by rw [beq_eq_false_iff_ne]; exact h1
 clear k1 hp1 hp2
 have hcase : (b = -1) ∨ (0 ≤ b ∧ ¬ k = b) := by omega
 clear h2 hbb
 rcases hcase with rfl | ⟨hb1, hb2⟩
 case' inr =>
  have hb0 : decide (b ≥ 0) = true := decide_eq_true hb1
  have hkb : (k == b) = false := by rw [beq_eq_false_iff_ne]; exact hb2
 all_goals
  go_enter Tryz.func29, Tryz.ntmps29; (try simp only [List.append_eq, List.cons_append, List.nil_append])
  go_wp2_with fail
  (go_at_call 16; refine (K1.out _).mono ?_; rintro e w101 ⟨hb_w101, v101, rfl, hv101⟩; have hz_w101 := hb_w101.size; (try simp at hz_w101); (with_reducible apply cal6 (b := w.heap.size + 1) hb_w101); (focus (go_simp; try exact ⟨rfl, rfl, rfl, rfl, rfl, rfl⟩)); intro aB aD aC aE aF aG aH aA)
  obtain ⟨s101x, A101x, n101x, c101x, s101y, A101y, n101y, c101y, s101d, A101d, n101d, c101d, rfl⟩ := RAt.val hv101
  have HB101 := hQ0 (show Below w.heap.size w w101 by ((with_reducible (repeat (first | exact bR _ _ | apply bS | apply bA | apply bD | refine bT ?_ (by assumption) ?_ | refine bO (by assumption) ?_ ?_))) <;> (first | omega | (simp <;> omega))))
  have hz101 : w.heap.size + 1 + 1 ≤ w101.heap.size := by omega
  clear hb_w101
  skip
  have H101 := hQ0 (show RAt w101 (.agg #[.bool s101x, .slice A101x n101x c101x, .bool s101y, .slice A101y n101y c101y, .bool s101d, .slice A101d n101d c101d]) (p1) (p2) (1) from hv101)
  clear hv101
  go_wp2_with fail
  refine bodyPost_ret (v := .agg #[.bool s101x, .slice A101x n101x c101x, .bool s101y, .slice A101y n101y c101y, .bool s101d, .slice A101d n101d c101d]) (by simp only [results, Tryz.results29]; go_simp) rfl ⟨?_, ?_⟩
  · have hB := HB101.out; ((with_reducible (repeat (first | exact bR _ _ | apply bS | apply bA | apply bD | refine bT ?_ (by assumption) ?_ | refine bO (by assumption) ?_ ?_))) <;> (first | omega | (simp <;> omega)))
  · exact ⟨_, rfl, (by ((with_reducible (repeat (first | exact H101.out | refine RAt.al ?_ _ | apply RAt.st1))) <;> (first | (with_reducible assumption) | (intro _ e; cases e; done) | (go_simp; first | done | exact rfl))))⟩
theorem ralone_any (m : Mt) (v : List V2) (A : Option Addr) (c : Nat) (k : Int) (w : World) (hV : VAt w A v) (hp : PermM m v.length) (hv : v.all (nearB 1048576) = true) (h0 : 0 ≤ k) (h1 : k < v.length) (hs : m.b = -1 → apprB (v.getD m.a.toNat (0, 0)).1 (v.getD m.a.toNat (0, 0)).2 m.w1 m.w2 m.n1 m.n2 = true) (ht : ¬ m.b = -1 → apprB (v.getD m.a.toNat (0, 0)).1 (v.getD m.a.toNat (0, 0)).2 (v.getD m.b.toNat (0, 0)).1 (v.getD m.b.toNat (0, 0)).2 m.n1 m.n2 = true) :
  Calls Tryz.prog 29 #[m.v, .slice A v.length c, .int .i64 k] w (TOut (raloneR m v k) w) := by
 obtain ⟨g, o, hA, hg, c0, c1⟩ := vat_cell hV hp.a0 hp.a1
 obtain ⟨g3, o3, hA3, _, f0, f1⟩ := vat_cell hV h0 h1
 obtain rfl := hA
 simp only [Option.some.injEq, Addr.mk.injEq, and_true] at hA3
 obtain ⟨rfl, rfl⟩ := hA3
 have na := near_get hv hp.a0 hp.a1
 unfold raloneR
 by_cases hb : m.b = -1
 · rw [if_neg (fun h => h.1 hb), if_neg (fun h => h.1 hb)]
   by_cases hk : k = m.a
   · rw [if_pos hk]
     subst hk
     have hpp := permB_of na hp.w hp.nn
     have hap := hs hb
     obtain ⟨a, b, n1, n2, x1, x2, y1, y2, e, f⟩ := m
     simp only at hb
     subst hb
     have hy := within_bd2 hp.k
     simp only at hy hpp hap
     exact ralone_s a n1 n2 x1 x2 y1 y2 e f _ _ g o v.length c w hg hp.a0 hp.a1 c0 c1 ⟨hy.1, hy.2.1⟩ hy.2.2 ((stat_lens _ _ _ _ _ _ _ _).2 hpp hp.e hp.g) hpp hp.e hp.g hap
   · rw [if_neg hk]
     have hw := within_bd2 (near_get hv h0 h1)
     exact ralone_o m.a m.b m.n1 m.n2 m.w1 m.w2 m.k1 m.k2 m.e m.g _ _ k g o v.length c w hg h0 h1 f0 f1 ⟨hw.1, hw.2.1⟩ hw.2.2 hk (.inl hb) hp.b0
 · have hb0 : 0 ≤ m.b := by have := hp.b0; omega
   obtain ⟨g2, o2, hA2, _, d0, d1⟩ := vat_cell hV hb0 hp.b1
   simp only [Option.some.injEq, Addr.mk.injEq, and_true] at hA2
   obtain ⟨rfl, rfl⟩ := hA2
   by_cases hk : k = m.a
   · rw [if_pos ⟨hb, hk⟩]
     subst hk
     exact ralone_a m.a m.b m.n1 m.n2 m.w1 m.w2 m.k1 m.k2 m.e m.g _ _ _ _ g o v.length c w hg hp.a0 hp.a1 c0 c1 hb0 hp.b1 d0 d1 (permB_of na (near_get hv hb0 hp.b1) hp.nn) hp.e (ht hb)
   · rw [if_neg (fun h => hk h.2)]
     by_cases hk2 : k = m.b
     · rw [if_pos ⟨hb, hk2⟩]
       subst hk2
       exact ralone_b m.a m.b m.n1 m.n2 m.w1 m.w2 m.k1 m.k2 m.e m.g _ _ _ _ g o v.length c w hg hp.a0 hp.a1 c0 c1 hb0 hp.b1 d0 d1 (permB_of na (near_get hv hb0 hp.b1) hp.nn) hp.e (ht hb) (fun h => hp.ab h.symm)
     · rw [if_neg (fun h => hk2 h.2), if_neg hk]
       have hw := within_bd2 (near_get hv h0 h1)
       exact ralone_o m.a m.b m.n1 m.n2 m.w1 m.w2 m.k1 m.k2 m.e m.g _ _ k g o v.length c w hg h0 h1 f0 f1 ⟨hw.1, hw.2.1⟩ hw.2.2 hk (.inr hk2) hp.b0
end Go.Proofs.YtgejdaincnclpaaGreat
