/- Merged texts: LcK. -/
import Derived.Test.YtbpcjpiaimdpnaaGreatDoorCk11
import Derived.Test.YtbpcjpiaimdpnaaGreatDoorCk12
import Derived.Deep.Cut
import Derived.Deep.CutBlock
set_option linter.unusedSimpArgs false
set_option linter.unusedVariables false
namespace Go.Proofs.YtbpcjpiaimdpnaaGreatDoor
open Go Go.RowKit
set_option linter.unusedVariables false
theorem SeenAt.cast {w : World} {b b' n : Nat} {L : List ByteArray} (h : SeenAt w b n L) (e : b = b') : SeenAt w b' n L := e ▸ h
theorem lookR_zero {st : CS} {nm : ByteArray} {f s : Bool} (h : (lookR st nm f s).1 = 0) : st.1 = 0 ∧ f = true := by
 unfold lookR at h
 by_cases h0 : st.1 = 0
 · rw [if_neg (by simpa using h0)] at h
   refine ⟨h0, ?_⟩
   simp only [lookC] at h
   cases f
   · split at h
     · exact absurd h (by decide)
     · split at h
       · exact absurd h (by decide)
       · rw [if_pos rfl] at h
         exact absurd h (by decide)
   · rfl
 · rw [if_pos h0] at h
   exact absurd h h0
theorem fold_zero {α : Type} {look : CS → α → CS} {fB : α → Bool} (hl : ∀ s x, (look s x).1 = 0 → s.1 = 0 ∧ fB x = true) : ∀ (l : List α) (s : CS), (l.foldl look s).1 = 0 → s.1 = 0 ∧ ∀ x ∈ l, fB x = true
 | [], s, h => ⟨h, fun x hx => by simp at hx⟩
 | y :: l, s, h => by
  obtain ⟨h1, h2⟩ := fold_zero hl l (look s y) h
  obtain ⟨h3, h4⟩ := hl s y h1
  refine ⟨h3, fun x hx => ?_⟩
  rcases List.mem_cons.1 hx with rfl | hx
  · exact h4
  · exact h2 x hx
theorem in1_iff {lo hi x : Int} (h : in1 lo hi x = true) : lo ≤ x ∧ x ≤ hi := by
 simp only [in1, Bool.and_eq_true, decide_eq_true_eq] at h
 exact h
theorem fold_ovok (t : Tb) (h : t.fold.1 = 0) (hr : in1 64 32768 t.rad = true) : OvOk t := by
 unfold Tb.fold at h
 obtain ⟨h, q1⟩ := fold_zero (fB := Ln.fB) (fun s x h => lookR_zero h) _ _ h
 obtain ⟨h, _⟩ := fold_zero (fB := Dr.fB) (fun s x h => lookR_zero h) _ _ h
 obtain ⟨h, q2⟩ := fold_zero (fB := Ra.fB) (fun s x h => lookR_zero h) _ _ h
 obtain ⟨h, _⟩ := fold_zero (fB := La.fB) (fun s x h => lookR_zero h) _ _ h
 obtain ⟨h, q3⟩ := fold_zero (fB := Sc.fB) (fun s x h => lookR_zero h) _ _ h
 have hr := in1_iff hr
 refine ⟨fun x hx => ?_, fun x hx => ?_, fun x hx => ?_, by omega, by omega⟩
 · have := q3 x hx
   simp only [Sc.fB, Bool.and_eq_true] at this
   have h2 := in1_iff this.1.1.1.2
   exact ⟨this.1.1.1.1.2, by omega, by omega⟩
 · have := q2 x hx
   simp only [Ra.fB, Bool.and_eq_true] at this
   have h2 := in1_iff this.1.2
   exact ⟨this.1.1.2, by omega, by omega⟩
 · have := q1 x hx
   simp only [Ln.fB, Bool.and_eq_true] at this
   exact this.1.1.2
attribute [local go_sem ↓] evalL getL64 setL64
attribute [local go_sem ↓] getL8 setL8
attribute [local go_sem ↓] getL1 getL0
set_option maxRecDepth 100000 in
set_option maxHeartbeats 8000000 in
theorem check_any (t : Tb) (a : TbA) (w : World) (hA : TbAt w t a) (hk : TbCap0 t a) (hs : TbSmall t) :
  Calls Tryz.prog 11 #[t.v a] w fun e w' => e = .returned (.int .i64 (checkR t)) ∧ Below w.heap.size w w' := by
 have HA := hQ0 hA
 have HS := hQ0 hs
 have HK := hQ0 hk
 have HTR := hQ0 hs.tr
 clear hA hs hk
 obtain ⟨R, hR⟩ : ∃ R, R = checkR t := ⟨_, rfl⟩
 have HRr := hQ0 hR
 rw [← hR]
 clear hR
 obtain ⟨rad, bal, rst, gx, gy, drg, shf, tr, ws, ars, ps, fs, zs, ss, las, rs, ds, lns⟩ := t
 obtain ⟨Atr, ctr, Aws, cws, Aars, cars, Aps, cps, Afs, cfs, Azs, czs, Ass, css, Alas, clas, Ars, crs, Ads, cds, Alns, clns⟩ := a
 unfold Tb.v
 simp only
 obtain ⟨b0, hb0⟩ : ∃ b, decide (64 < (ws.length : Int)) = b := ⟨_, rfl⟩
 have HB0 := hQ0 hb0
 obtain ⟨b1, hb1⟩ : ∃ b, decide (32 < (ars.length : Int)) = b := ⟨_, rfl⟩
 have HB1 := hQ0 hb1
 obtain ⟨b2, hb2⟩ : ∃ b, decide (32 < (ps.length : Int)) = b := ⟨_, rfl⟩
 have HB2 := hQ0 hb2
 obtain ⟨b3, hb3⟩ : ∃ b, decide (4 < (fs.length : Int)) = b := ⟨_, rfl⟩
 have HB3 := hQ0 hb3
 obtain ⟨b4, hb4⟩ : ∃ b, decide (16 < (zs.length : Int)) = b := ⟨_, rfl⟩
 have HB4 := hQ0 hb4
 obtain ⟨b5, hb5⟩ : ∃ b, decide (8 < (ss.length : Int)) = b := ⟨_, rfl⟩
 have HB5 := hQ0 hb5
 obtain ⟨b6, hb6⟩ : ∃ b, decide (24 < (las.length : Int)) = b := ⟨_, rfl⟩
 have HB6 := hQ0 hb6
 obtain ⟨b7, hb7⟩ : ∃ b, decide (8 < (rs.length : Int)) = b := ⟨_, rfl⟩
 have HB7 := hQ0 hb7
 obtain ⟨b8, hb8⟩ : ∃ b, decide (4 < (ds.length : Int)) = b := ⟨_, rfl⟩
 have HB8 := hQ0 hb8
 obtain ⟨b9, hb9⟩ : ∃ b, decide (4 < (lns.length : Int)) = b := ⟨_, rfl⟩
 have HB9 := hQ0 hb9
 obtain ⟨r3, hr3⟩ : ∃ b, b = in1 0 6 bal := ⟨_, rfl⟩
 have HR3 := hQ0 hr3
 clear hr3
 have hmm := @run_makeMap Tryz.prog
 obtain ⟨TC, hTC⟩ : ∃ z : List Value, z = [.int .i64 rad, .int .i64 bal, .int .i64 rst, .int .i64 gx, .int .i64 gy, .int .i64 drg, .int .i64 shf, .slice Atr tr.length ctr, .slice Aws ws.length cws, .slice Aars ars.length cars, .slice Aps ps.length cps, .slice Afs fs.length cfs, .slice Azs zs.length czs, .slice Ass ss.length css, .slice Alas las.length clas, .slice Ars rs.length crs, .slice Ads ds.length cds, .slice Alns lns.length clns] := ⟨_, rfl⟩
 have HTC := hQ0 hTC
 clear hTC
 obtain ⟨r6, hr6⟩ : ∃ b, b = in1 64 32768 rad := ⟨_, rfl⟩
 have HR6 := hQ0 hr6
 clear hr6
 obtain ⟨r7, hr7⟩ : ∃ b, b = in1 0 15 rst := ⟨_, rfl⟩
 have HR7 := hQ0 hr7
 clear hr7
 obtain ⟨r9, hr9⟩ : ∃ b, b = in1 0 1000 drg := ⟨_, rfl⟩
 have HR9 := hQ0 hr9
 clear hr9
 obtain ⟨r10, hr10⟩ : ∃ b, b = in1 0 14 shf := ⟨_, rfl⟩
 have HR10 := hQ0 hr10
 clear hr10
 obtain ⟨r8, hr8⟩ : ∃ b, b = nearV 256 ⟨gx, gy⟩ := ⟨_, rfl⟩
 have HR8 := hQ0 hr8
 clear hr8
 obtain ⟨r11, hr11⟩ : ∃ b, b = inL (-1) 63 tr := ⟨_, rfl⟩
 have HR11 := hQ0 hr11
 clear hr11
 go_enter Tryz.func11, Tryz.ntmps11; (try simp only [List.append_eq, List.cons_append, List.nil_append])
 go_upto_region 1 with (fail)
 (refine pin_eqT (fun w1_ hE_w1 => ?_))
 have HT1 : Hid (BoxAt w1_ w.heap.size TC) := hQ0 (by rw [hE_w1, HTC.out]; exact BoxAt.new _ _ _)
 have HBB : Hid (Below w.heap.size w w1_) := hQ0 (by rw [hE_w1]; ((with_reducible (repeat (first | exact bR _ _ | apply bS | apply bA | apply bD | refine bT ?_ (by assumption) ?_ | refine bO (by assumption) ?_ ?_))) <;> (first | omega | (simp <;> omega))))
 clear hE_w1
 have t0 := HT1.out.c 0 (.int .i64 rad) (by rw [HTC.out]; rfl)
 have t1 := HT1.out.c 1 (.int .i64 bal) (by rw [HTC.out]; rfl)
 have t2 := HT1.out.c 2 (.int .i64 rst) (by rw [HTC.out]; rfl)
 have t3 := HT1.out.c 3 (.int .i64 gx) (by rw [HTC.out]; rfl)
 have t4 := HT1.out.c 4 (.int .i64 gy) (by rw [HTC.out]; rfl)
 have t5 := HT1.out.c 5 (.int .i64 drg) (by rw [HTC.out]; rfl)
 have t6 := HT1.out.c 6 (.int .i64 shf) (by rw [HTC.out]; rfl)
 have t7 := HT1.out.c 7 (.slice Atr tr.length ctr) (by rw [HTC.out]; rfl)
 have t8 := HT1.out.c 8 (.slice Aws ws.length cws) (by rw [HTC.out]; rfl)
 have t9 := HT1.out.c 9 (.slice Aars ars.length cars) (by rw [HTC.out]; rfl)
 have t10 := HT1.out.c 10 (.slice Aps ps.length cps) (by rw [HTC.out]; rfl)
 have t11 := HT1.out.c 11 (.slice Afs fs.length cfs) (by rw [HTC.out]; rfl)
 have t12 := HT1.out.c 12 (.slice Azs zs.length czs) (by rw [HTC.out]; rfl)
 have t13 := HT1.out.c 13 (.slice Ass ss.length css) (by rw [HTC.out]; rfl)
 have t14 := HT1.out.c 14 (.slice Alas las.length clas) (by rw [HTC.out]; rfl)
 have t15 := HT1.out.c 15 (.slice Ars rs.length crs) (by rw [HTC.out]; rfl)
 have t16 := HT1.out.c 16 (.slice Ads ds.length cds) (by rw [HTC.out]; rfl)
 have t17 := HT1.out.c 17 (.slice Alns lns.length clns) (by rw [HTC.out]; rfl)
 have hltT := HT1.out.lt
 have HX := HBB
 cases b0
 cases b1
 cases b2
 cases b3
 cases b4
 cases b5
 cases b6
 cases b7
 cases b8
 cases b9
 rotate_left
 iterate 10 (as_aux_lemma =>
  obtain rfl : R = 9 := HRr.out.trans (if_pos (by unfold Tb.many; simp only [HB0.out, HB1.out, HB2.out, HB3.out, HB4.out, HB5.out, HB6.out, HB7.out, HB8.out, HB9.out]; simp))
  go_wp2_with fail
  go_ret
  exact ⟨rfl, HBB.out.trans (by ((with_reducible (repeat (first | exact bR _ _ | apply bS | apply bA | apply bD | refine bT ?_ (by assumption) ?_ | refine bO (by assumption) ?_ ?_))) <;> (first | omega | (simp <;> omega))))⟩)
 go_wp2_with fail
 (go_at_call 25; refine (in_new1' 0 6 bal _ _ r3 HR3.out (by simp)).mono ?_; rintro e w1 ⟨rfl, rfl⟩)
 cases r3
 case false =>
  have HX := HBB
  obtain rfl : R = 9 := HRr.out.trans (if_pos (by unfold Tb.many; simp only [HB0.out, HB1.out, HB2.out, HB3.out, HB4.out, HB5.out, HB6.out, HB7.out, HB8.out, HB9.out]; rw [← HR3.out]; simp))
  go_wp2_with fail
  go_ret
  exact ⟨rfl, HBB.out.trans (by ((with_reducible (repeat (first | exact bR _ _ | apply bS | apply bA | apply bD | refine bT ?_ (by assumption) ?_ | refine bO (by assumption) ?_ ?_))) <;> (first | omega | (simp <;> omega))))⟩
 case true =>
  by_cases htr : bal < (tr.length : Int)
  · have HX := HBB
    obtain rfl : R = 9 := HRr.out.trans (if_pos (by unfold Tb.many; simp only [HB0.out, HB1.out, HB2.out, HB3.out, HB4.out, HB5.out, HB6.out, HB7.out, HB8.out, HB9.out]; rw [decide_eq_true htr]; simp))
    go_wp2_with fail
    go_ret
    exact ⟨rfl, HBB.out.trans (by ((with_reducible (repeat (first | exact bR _ _ | apply bS | apply bA | apply bD | refine bT ?_ (by assumption) ?_ | refine bO (by assumption) ?_ ?_))) <;> (first | omega | (simp <;> omega))))⟩
  · have hLn : ws.length ≤ 64 ∧ ars.length ≤ 32 ∧ ps.length ≤ 32 ∧ fs.length ≤ 4 ∧ zs.length ≤ 16 ∧ ss.length ≤ 8 ∧ las.length ≤ 24 ∧ rs.length ≤ 8 ∧ ds.length ≤ 4 ∧ lns.length ≤ 4 := by
     have q0 := of_decide_eq_false HB0.out
     have q1 := of_decide_eq_false HB1.out
     have q2 := of_decide_eq_false HB2.out
     have q3 := of_decide_eq_false HB3.out
     have q4 := of_decide_eq_false HB4.out
     have q5 := of_decide_eq_false HB5.out
     have q6 := of_decide_eq_false HB6.out
     have q7 := of_decide_eq_false HB7.out
     have q8 := of_decide_eq_false HB8.out
     have q9 := of_decide_eq_false HB9.out
     omega
    have HM : Hid (¬ Tb.many ⟨rad, bal, rst, gx, gy, drg, shf, tr, ws, ars, ps, fs, zs, ss, las, rs, ds, lns⟩ = true) := hQ0 (by unfold Tb.many; simp only [HB0.out, HB1.out, HB2.out, HB3.out, HB4.out, HB5.out, HB6.out, HB7.out, HB8.out, HB9.out]; rw [← HR3.out]; simp; omega)
    have HLn := hQ0 hLn
    clear hLn hb0 hb1 hb2 hb3 hb4 hb5 hb6 hb7 hb8 hb9 HX HB0 HB1 HB2 HB3 HB4 HB5 HB6 HB7 HB8 HB9
    go_wp2_with fail
    (go_at_call 25; refine (in_new1' 64 32768 rad _ _ r6 HR6.out (by simp)).mono ?_; rintro e w1 ⟨rfl, rfl⟩)
    cases r6
    · obtain rfl : R = 5 := HRr.out.trans ((if_neg HM.out).trans (if_pos (by unfold Tb.headB; simp only; rw [← HR6.out, ← HR7.out, ← HR8.out, ← HR9.out, ← HR10.out, ← HR11.out]; simp)))
      go_wp2_with fail
      go_ret
      exact ⟨rfl, HBB.out.trans (by ((with_reducible (repeat (first | exact bR _ _ | apply bS | apply bA | apply bD | refine bT ?_ (by assumption) ?_ | refine bO (by assumption) ?_ ?_))) <;> (first | omega | (simp <;> omega))))⟩
    go_wp2_with fail
    (go_at_call 25; refine (in_new1' 0 15 rst _ _ r7 HR7.out (by simp)).mono ?_; rintro e w1 ⟨rfl, rfl⟩)
    cases r7
    · obtain rfl : R = 5 := HRr.out.trans ((if_neg HM.out).trans (if_pos (by unfold Tb.headB; simp only; rw [← HR6.out, ← HR7.out, ← HR8.out, ← HR9.out, ← HR10.out, ← HR11.out]; simp)))
      go_wp2_with fail
      go_ret
      exact ⟨rfl, HBB.out.trans (by ((with_reducible (repeat (first | exact bR _ _ | apply bS | apply bA | apply bD | refine bT ?_ (by assumption) ?_ | refine bO (by assumption) ?_ ?_))) <;> (first | omega | (simp <;> omega))))⟩
    go_upto_region 8 with (fail)
    (refine pin_eqT (fun w7_ hE_w7 => ?_))
    have HT7 : Hid (BoxAt w7_ w.heap.size TC) := hQ0 (by rw [hE_w7]; exact ((HT1.out.alloc _).alloc _).alloc _)
    have HB7 : Hid (Below w.heap.size w w7_) := hQ0 (by rw [hE_w7]; exact HBB.out.trans (by have hzz := HBB.out.size; ((with_reducible (repeat (first | exact bR _ _ | apply bS | apply bA | apply bD | refine bT ?_ (by assumption) ?_ | refine bO (by assumption) ?_ ?_))) <;> (first | omega | (simp <;> omega)))))
    clear hE_w7 t0 t1 t2 t3 t4 t5 t6 t7 t8 t9 t10 t11 t12 t13 t14 t15 t16 t17 HT1 hltT HBB
    have HT1 := HT7
    have HBB := HB7
    have hltT := HT1.out.lt
    have t3 := HT1.out.c 3 (.int .i64 gx) (by rw [HTC.out]; rfl)
    have t4 := HT1.out.c 4 (.int .i64 gy) (by rw [HTC.out]; rfl)
    clear HT7 HB7
    go_wp2_with fail
    (go_at_call 26; refine (within_new1' 256 gx gy _ _ r8 HR8.out (by simp) (by omega) (by omega)).mono ?_; rintro e w8 ⟨rfl, hb8⟩)
    have hzz := HBB.out.size
    have HT8 : Hid (BoxAt w8 w.heap.size TC) := hQ0 ((HT1.out.alloc _).below hb8 (by omega))
    have HB8 : Hid (Below w.heap.size w w8) := hQ0 ((HBB.out.trans (by ((with_reducible (repeat (first | exact bR _ _ | apply bS | apply bA | apply bD | refine bT ?_ (by assumption) ?_ | refine bO (by assumption) ?_ ?_))) <;> (first | omega | (simp <;> omega))))).trans (hb8.mono (by omega)))
    have hz8 := HB8.out.size
    have hlt8 := HT8.out.lt
    clear hb8 t3 t4 HT1 hltT HBB
    have HT1 := HT8
    have HBB := HB8
    have hltT := HT8.out.lt
    cases r8
    · obtain rfl : R = 5 := HRr.out.trans ((if_neg HM.out).trans (if_pos (by unfold Tb.headB; simp only; rw [← HR6.out, ← HR7.out, ← HR8.out, ← HR9.out, ← HR10.out, ← HR11.out]; simp)))
      go_wp2_with fail
      go_ret
      exact ⟨rfl, HBB.out.trans (by ((with_reducible (repeat (first | exact bR _ _ | apply bS | apply bA | apply bD | refine bT ?_ (by assumption) ?_ | refine bO (by assumption) ?_ ?_))) <;> (first | omega | (simp <;> omega))))⟩
    have t5 := HT8.out.c 5 (.int .i64 drg) (by rw [HTC.out]; rfl)
    have t6 := HT8.out.c 6 (.int .i64 shf) (by rw [HTC.out]; rfl)
    have t7 := HT8.out.c 7 (.slice Atr tr.length ctr) (by rw [HTC.out]; rfl)
    have t8 := HT8.out.c 8 (.slice Aws ws.length cws) (by rw [HTC.out]; rfl)
    go_wp2_with fail
    (go_at_call 25; refine (in_new1' 0 1000 drg _ _ r9 HR9.out (by simp)).mono ?_; rintro e w1 ⟨rfl, rfl⟩)
    cases r9
    · obtain rfl : R = 5 := HRr.out.trans ((if_neg HM.out).trans (if_pos (by unfold Tb.headB; simp only; rw [← HR6.out, ← HR7.out, ← HR8.out, ← HR9.out, ← HR10.out, ← HR11.out]; simp)))
      go_wp2_with fail
      go_ret
      exact ⟨rfl, HBB.out.trans (by ((with_reducible (repeat (first | exact bR _ _ | apply bS | apply bA | apply bD | refine bT ?_ (by assumption) ?_ | refine bO (by assumption) ?_ ?_))) <;> (first | omega | (simp <;> omega))))⟩
    go_wp2_with fail
    (go_at_call 25; refine (in_new1' 0 14 shf _ _ r10 HR10.out (by simp)).mono ?_; rintro e w1 ⟨rfl, rfl⟩)
    cases r10
    · obtain rfl : R = 5 := HRr.out.trans ((if_neg HM.out).trans (if_pos (by unfold Tb.headB; simp only; rw [← HR6.out, ← HR7.out, ← HR8.out, ← HR9.out, ← HR10.out, ← HR11.out]; simp)))
      go_wp2_with fail
      go_ret
      exact ⟨rfl, HBB.out.trans (by ((with_reducible (repeat (first | exact bR _ _ | apply bS | apply bA | apply bD | refine bT ?_ (by assumption) ?_ | refine bO (by assumption) ?_ ?_))) <;> (first | omega | (simp <;> omega))))⟩
    go_wp2_with fail
    (go_at_call 25; refine (in_any (-1) 63 tr _ _ _ (HA.out.tr.below (B := w.heap.size) (HBB.out.trans (by ((with_reducible (repeat (first | exact bR _ _ | apply bS | apply bA | apply bD | refine bT ?_ (by assumption) ?_ | refine bO (by assumption) ?_ ?_))) <;> (first | omega | (simp <;> omega))))) (Nat.le_refl _)) HTR.out).mono ?_; rintro e w1 ⟨rfl, rfl⟩; rw [← HR11.out])
    cases r11
    · obtain rfl : R = 5 := HRr.out.trans ((if_neg HM.out).trans (if_pos (by unfold Tb.headB; simp only; rw [← HR6.out, ← HR7.out, ← HR8.out, ← HR9.out, ← HR10.out, ← HR11.out]; simp)))
      go_wp2_with fail
      go_ret
      exact ⟨rfl, HBB.out.trans (by ((with_reducible (repeat (first | exact bR _ _ | apply bS | apply bA | apply bD | refine bT ?_ (by assumption) ?_ | refine bO (by assumption) ?_ ?_))) <;> (first | omega | (simp <;> omega))))⟩
    have HH : Hid (¬ Tb.headB ⟨rad, bal, rst, gx, gy, drg, shf, tr, ws, ars, ps, fs, zs, ss, las, rs, ds, lns⟩ = false) := hQ0 (by unfold Tb.headB; simp only; rw [← HR6.out, ← HR7.out, ← HR8.out, ← HR9.out, ← HR10.out, ← HR11.out]; simp)
    go_upto_region 14 with (fail)
    (refine pin_eqT (fun w2 hE_w2 => ?_))
    have HT2 : Hid (BoxAt w2 w.heap.size TC) := hQ0 (by rw [hE_w2]; exact (((HT8.out.alloc _).alloc _).alloc _).alloc _)
    have HB2 : Hid (Below w.heap.size w w2) := hQ0 (by rw [hE_w2]; exact HBB.out.trans (by ((with_reducible (repeat (first | exact bR _ _ | apply bS | apply bA | apply bD | refine bT ?_ (by assumption) ?_ | refine bO (by assumption) ?_ ?_))) <;> (first | omega | (simp <;> omega)))))
    obtain ⟨cb, hcb⟩ : ∃ z, z = w8.heap.size + 1 + 1 + 1 := ⟨_, rfl⟩
    obtain ⟨mb, hmb⟩ : ∃ z, z = w8.heap.size + 1 + 1 := ⟨_, rfl⟩
    have HC2 : Hid (CkAt w2 cb mb 0 0 []) := hQ0 (by
     rw [hE_w2, hcb, hmb]
     exact ⟨by go_simp, by go_simp, fun o => by go_simp, by simp, by omega, ((SeenAt.new ((w8.alloc _).alloc _)).block (heap_alloc_old _ _ (by simp)) : SeenAt _ _ _ _).cast (by simp)⟩)
    rw [← hcb]
    have hcw : w.heap.size < cb := by omega
    have hmw : w.heap.size < mb := by omega
    clear hE_w2 t5 t6 t7 t8 hcb hmb hlt8 hz8 HT8 HBB HB8 HT1
    as_aux_lemma =>
     have ta_ := HT2.out.c 8 (.slice Aws ws.length cws) (by rw [HTC.out]; rfl)
     have tl_ := HT2.out.lt
     go_upto_block 1 with (fail)
     clear ta_ tl_
     refine wp_of_end (lp_ws w _ Aws cws cb mb 0 1000 (0) ([]) ws TC _ _ (by rfl) (by rfl) (by rfl) (by rfl) (by rfl) HA.out.ws (by have := HLn.out; omega) HS.out.ws HB2.out HT2.out HC2.out (by have := HLn.out; omega) (Nat.le_refl _) hcw hmw _ ?_) (fun _ _ h => h)
     clear HB2 HT2 HC2
     intro F_ wL0 n0 hF_ h1_ h2_ h3_ hb_ hT_ hn_ hC_
     obtain ⟨s0, rfl⟩ := fr623_ex F_ hF_
     have e1_ : s0 1 = .pointer (some ⟨w.heap.size, 0, none⟩) := Option.some.inj h1_
     have e2_ : s0 2 = .int .i64 0 := Option.some.inj h2_
     have e3_ : s0 3 = .pointer (some ⟨cb, 0, none⟩) := Option.some.inj h3_
     obtain ⟨S0, hS0⟩ : ∃ z : CS, z = ws.foldl Wl.look (0, []) := ⟨_, rfl⟩
     have HC2 : Hid (CkAt wL0 cb mb n0 S0.1 S0.2) := hQ0 (by rw [hS0]; exact hC_)
     have HS0 := hQ0 hS0
     have HB2 := hQ0 hb_
     have HT2 := hQ0 hT_
     clear hS0 hC_ hb_ hT_
     unfold fr623
     rw [e1_, e2_, e3_]
     clear e1_ e2_ e3_ h1_ h2_ h3_ hF_
     show _
     have ta_ := HT2.out.c 9 (.slice Aars ars.length cars) (by rw [HTC.out]; rfl)
     have tl_ := HT2.out.lt
     go_upto_block 3 with (fail)
     clear ta_ tl_
     refine wp_of_end (lp_ars w _ Aars cars cb mb n0 1000 (S0.1) (S0.2) ars TC rad _ _ (by rfl) (by rfl) (by rfl) (by rfl) (by rfl) (by rfl) HA.out.ars (by have := HLn.out; omega) HS.out.ars HB2.out HT2.out (by rw [HTC.out]; rfl) (by have := in1_iff HR6.out.symm; omega) (by have := in1_iff HR6.out.symm; omega) HC2.out (by have := HLn.out; omega) (Nat.le_refl _) hcw hmw _ ?_) (fun _ _ h => h)
     clear HB2 HT2 HC2
     intro F_ wL1 n1 hF_ h1_ h2_ h3_ hb_ hT_ hn_ hC_
     obtain ⟨s1, rfl⟩ := fr623_ex F_ hF_
     have e1_ : s1 1 = .pointer (some ⟨w.heap.size, 0, none⟩) := Option.some.inj h1_
     have e2_ : s1 2 = .int .i64 0 := Option.some.inj h2_
     have e3_ : s1 3 = .pointer (some ⟨cb, 0, none⟩) := Option.some.inj h3_
     obtain ⟨S1, hS1⟩ : ∃ z : CS, z = ars.foldl (Ac.look rad) S0 := ⟨_, rfl⟩
     have HC2 : Hid (CkAt wL1 cb mb n1 S1.1 S1.2) := hQ0 (by rw [hS1]; exact hC_)
     have HS1 := hQ0 hS1
     have HB2 := hQ0 hb_
     have HT2 := hQ0 hT_
     clear hS1 hC_ hb_ hT_
     unfold fr623
     rw [e1_, e2_, e3_]
     clear e1_ e2_ e3_ h1_ h2_ h3_ hF_
     show _
     as_aux_lemma =>
      have ta_ := HT2.out.c 10 (.slice Aps ps.length cps) (by rw [HTC.out]; rfl)
      have tl_ := HT2.out.lt
      go_upto_block 5 with (fail)
      clear ta_ tl_
      refine wp_of_end (lp_ps w _ Aps cps cb mb n1 1000 (S1.1) (S1.2) ps TC _ _ (by rfl) (by rfl) (by rfl) (by rfl) (by rfl) HA.out.ps (by have := HLn.out; omega) HS.out.ps HB2.out HT2.out HC2.out (by have := HLn.out; omega) (Nat.le_refl _) hcw hmw _ ?_) (fun _ _ h => h)
      clear HB2 HT2 HC2
      intro F_ wL2 n2 hF_ h1_ h2_ h3_ hb_ hT_ hn_ hC_
      obtain ⟨s2, rfl⟩ := fr623_ex F_ hF_
      have e1_ : s2 1 = .pointer (some ⟨w.heap.size, 0, none⟩) := Option.some.inj h1_
      have e2_ : s2 2 = .int .i64 0 := Option.some.inj h2_
      have e3_ : s2 3 = .pointer (some ⟨cb, 0, none⟩) := Option.some.inj h3_
      obtain ⟨S2, hS2⟩ : ∃ z : CS, z = ps.foldl Ps.look S1 := ⟨_, rfl⟩
      have HC2 : Hid (CkAt wL2 cb mb n2 S2.1 S2.2) := hQ0 (by rw [hS2]; exact hC_)
      have HS2 := hQ0 hS2
      have HB2 := hQ0 hb_
      have HT2 := hQ0 hT_
      clear hS2 hC_ hb_ hT_
      unfold fr623
      rw [e1_, e2_, e3_]
      clear e1_ e2_ e3_ h1_ h2_ h3_ hF_
      show _
      have ta_ := HT2.out.c 11 (.slice Afs fs.length cfs) (by rw [HTC.out]; rfl)
      have tl_ := HT2.out.lt
      go_upto_block 7 with (fail)
      clear ta_ tl_
      refine wp_of_end (lp_fs w _ Afs cfs cb mb n2 1000 (S2.1) (S2.2) fs TC _ _ (by rfl) (by rfl) (by rfl) (by rfl) (by rfl) HA.out.fs (by have := HLn.out; omega) HS.out.fs HB2.out HT2.out HC2.out (by have := HLn.out; omega) (Nat.le_refl _) hcw hmw _ ?_) (fun _ _ h => h)
      clear HB2 HT2 HC2
      intro F_ wL3 n3 hF_ h1_ h2_ h3_ hb_ hT_ hn_ hC_
      obtain ⟨s3, rfl⟩ := fr623_ex F_ hF_
      have e1_ : s3 1 = .pointer (some ⟨w.heap.size, 0, none⟩) := Option.some.inj h1_
      have e2_ : s3 2 = .int .i64 0 := Option.some.inj h2_
      have e3_ : s3 3 = .pointer (some ⟨cb, 0, none⟩) := Option.some.inj h3_
      obtain ⟨S3, hS3⟩ : ∃ z : CS, z = fs.foldl Fl.look S2 := ⟨_, rfl⟩
      have HC2 : Hid (CkAt wL3 cb mb n3 S3.1 S3.2) := hQ0 (by rw [hS3]; exact hC_)
      have HS3 := hQ0 hS3
      have HB2 := hQ0 hb_
      have HT2 := hQ0 hT_
      clear hS3 hC_ hb_ hT_
      unfold fr623
      rw [e1_, e2_, e3_]
      clear e1_ e2_ e3_ h1_ h2_ h3_ hF_
      show _
      as_aux_lemma =>
       have ta_ := HT2.out.c 12 (.slice Azs zs.length czs) (by rw [HTC.out]; rfl)
       have tl_ := HT2.out.lt
       go_upto_block 9 with (fail)
       clear ta_ tl_
       refine wp_of_end (lp_zs w _ Azs czs cb mb n3 1000 (S3.1) (S3.2) zs TC _ _ (by rfl) (by rfl) (by rfl) (by rfl) (by rfl) HA.out.zs (by have := HLn.out; omega) HS.out.zs HB2.out HT2.out HC2.out (by have := HLn.out; omega) (Nat.le_refl _) hcw hmw _ ?_) (fun _ _ h => h)
       clear HB2 HT2 HC2
       intro F_ wL4 n4 hF_ h1_ h2_ h3_ hb_ hT_ hn_ hC_
       obtain ⟨s4, rfl⟩ := fr623_ex F_ hF_
       have e1_ : s4 1 = .pointer (some ⟨w.heap.size, 0, none⟩) := Option.some.inj h1_
       have e2_ : s4 2 = .int .i64 0 := Option.some.inj h2_
       have e3_ : s4 3 = .pointer (some ⟨cb, 0, none⟩) := Option.some.inj h3_
       obtain ⟨S4, hS4⟩ : ∃ z : CS, z = zs.foldl Zn.look S3 := ⟨_, rfl⟩
       have HC2 : Hid (CkAt wL4 cb mb n4 S4.1 S4.2) := hQ0 (by rw [hS4]; exact hC_)
       have HS4 := hQ0 hS4
       have HB2 := hQ0 hb_
       have HT2 := hQ0 hT_
       clear hS4 hC_ hb_ hT_
       unfold fr623
       rw [e1_, e2_, e3_]
       clear e1_ e2_ e3_ h1_ h2_ h3_ hF_
       show _
       have ta_ := HT2.out.c 13 (.slice Ass ss.length css) (by rw [HTC.out]; rfl)
       have tl_ := HT2.out.lt
       go_upto_block 11 with (fail)
       clear ta_ tl_
       refine wp_of_end (lp_ss w _ Ass css cb mb n4 1000 (S4.1) (S4.2) ss TC rad _ _ (by rfl) (by rfl) (by rfl) (by rfl) (by rfl) (by rfl) HA.out.ss (by have := HLn.out; omega) HS.out.ss HB2.out HT2.out (by rw [HTC.out]; rfl) (by have := in1_iff HR6.out.symm; omega) (by have := in1_iff HR6.out.symm; omega) HC2.out (by have := HLn.out; omega) (Nat.le_refl _) hcw hmw _ ?_) (fun _ _ h => h)
       clear HB2 HT2 HC2
       intro F_ wL5 n5 hF_ h1_ h2_ h3_ hb_ hT_ hn_ hC_
       obtain ⟨s5, rfl⟩ := fr623_ex F_ hF_
       have e1_ : s5 1 = .pointer (some ⟨w.heap.size, 0, none⟩) := Option.some.inj h1_
       have e2_ : s5 2 = .int .i64 0 := Option.some.inj h2_
       have e3_ : s5 3 = .pointer (some ⟨cb, 0, none⟩) := Option.some.inj h3_
       obtain ⟨S5, hS5⟩ : ∃ z : CS, z = ss.foldl (Sc.look rad) S4 := ⟨_, rfl⟩
       have HC2 : Hid (CkAt wL5 cb mb n5 S5.1 S5.2) := hQ0 (by rw [hS5]; exact hC_)
       have HS5 := hQ0 hS5
       have HB2 := hQ0 hb_
       have HT2 := hQ0 hT_
       clear hS5 hC_ hb_ hT_
       unfold fr623
       rw [e1_, e2_, e3_]
       clear e1_ e2_ e3_ h1_ h2_ h3_ hF_
       show _
       as_aux_lemma =>
        have ta_ := HT2.out.c 14 (.slice Alas las.length clas) (by rw [HTC.out]; rfl)
        have tl_ := HT2.out.lt
        go_upto_block 13 with (fail)
        clear ta_ tl_
        refine wp_of_end (lp_las w _ Alas clas cb mb n5 1000 (S5.1) (S5.2) las TC _ _ (by rfl) (by rfl) (by rfl) (by rfl) (by rfl) HA.out.las (by have := HLn.out; omega) HS.out.las HB2.out HT2.out HC2.out (by have := HLn.out; omega) (Nat.le_refl _) hcw hmw _ ?_) (fun _ _ h => h)
        clear HB2 HT2 HC2
        intro F_ wL6 n6 hF_ h1_ h2_ h3_ hb_ hT_ hn_ hC_
        obtain ⟨s6, rfl⟩ := fr623_ex F_ hF_
        have e1_ : s6 1 = .pointer (some ⟨w.heap.size, 0, none⟩) := Option.some.inj h1_
        have e2_ : s6 2 = .int .i64 0 := Option.some.inj h2_
        have e3_ : s6 3 = .pointer (some ⟨cb, 0, none⟩) := Option.some.inj h3_
        obtain ⟨S6, hS6⟩ : ∃ z : CS, z = las.foldl La.look S5 := ⟨_, rfl⟩
        have HC2 : Hid (CkAt wL6 cb mb n6 S6.1 S6.2) := hQ0 (by rw [hS6]; exact hC_)
        have HS6 := hQ0 hS6
        have HB2 := hQ0 hb_
        have HT2 := hQ0 hT_
        clear hS6 hC_ hb_ hT_
        unfold fr623
        rw [e1_, e2_, e3_]
        clear e1_ e2_ e3_ h1_ h2_ h3_ hF_
        show _
        have ta_ := HT2.out.c 15 (.slice Ars rs.length crs) (by rw [HTC.out]; rfl)
        have tl_ := HT2.out.lt
        go_upto_block 15 with (fail)
        clear ta_ tl_
        refine wp_of_end (lp_rs w _ Ars crs cb mb n6 1000 (S6.1) (S6.2) rs TC _ _ (by rfl) (by rfl) (by rfl) (by rfl) (by rfl) HA.out.rs (by have := HLn.out; omega) HS.out.rs HB2.out HT2.out HC2.out (by have := HLn.out; omega) (Nat.le_refl _) hcw hmw _ ?_) (fun _ _ h => h)
        clear HB2 HT2 HC2
        intro F_ wL7 n7 hF_ h1_ h2_ h3_ hb_ hT_ hn_ hC_
        obtain ⟨s7, rfl⟩ := fr623_ex F_ hF_
        have e1_ : s7 1 = .pointer (some ⟨w.heap.size, 0, none⟩) := Option.some.inj h1_
        have e2_ : s7 2 = .int .i64 0 := Option.some.inj h2_
        have e3_ : s7 3 = .pointer (some ⟨cb, 0, none⟩) := Option.some.inj h3_
        obtain ⟨S7, hS7⟩ : ∃ z : CS, z = rs.foldl Ra.look S6 := ⟨_, rfl⟩
        have HC2 : Hid (CkAt wL7 cb mb n7 S7.1 S7.2) := hQ0 (by rw [hS7]; exact hC_)
        have HS7 := hQ0 hS7
        have HB2 := hQ0 hb_
        have HT2 := hQ0 hT_
        clear hS7 hC_ hb_ hT_
        unfold fr623
        rw [e1_, e2_, e3_]
        clear e1_ e2_ e3_ h1_ h2_ h3_ hF_
        show _
        as_aux_lemma =>
         have ta_ := HT2.out.c 16 (.slice Ads ds.length cds) (by rw [HTC.out]; rfl)
         have tl_ := HT2.out.lt
         go_upto_block 17 with (fail)
         clear ta_ tl_
         refine wp_of_end (lp_ds w _ Ads cds cb mb n7 1000 (S7.1) (S7.2) ds TC _ _ (by rfl) (by rfl) (by rfl) (by rfl) (by rfl) HA.out.ds (by have := HLn.out; omega) HS.out.ds HB2.out HT2.out HC2.out (by have := HLn.out; omega) (Nat.le_refl _) hcw hmw _ ?_) (fun _ _ h => h)
         clear HB2 HT2 HC2
         intro F_ wL8 n8 hF_ h1_ h2_ h3_ hb_ hT_ hn_ hC_
         obtain ⟨s8, rfl⟩ := fr623_ex F_ hF_
         have e1_ : s8 1 = .pointer (some ⟨w.heap.size, 0, none⟩) := Option.some.inj h1_
         have e2_ : s8 2 = .int .i64 0 := Option.some.inj h2_
         have e3_ : s8 3 = .pointer (some ⟨cb, 0, none⟩) := Option.some.inj h3_
         obtain ⟨S8, hS8⟩ : ∃ z : CS, z = ds.foldl Dr.look S7 := ⟨_, rfl⟩
         have HC2 : Hid (CkAt wL8 cb mb n8 S8.1 S8.2) := hQ0 (by rw [hS8]; exact hC_)
         have HS8 := hQ0 hS8
         have HB2 := hQ0 hb_
         have HT2 := hQ0 hT_
         clear hS8 hC_ hb_ hT_
         unfold fr623
         rw [e1_, e2_, e3_]
         clear e1_ e2_ e3_ h1_ h2_ h3_ hF_
         show _
         have ta_ := HT2.out.c 17 (.slice Alns lns.length clns) (by rw [HTC.out]; rfl)
         have tl_ := HT2.out.lt
         go_upto_block 19 with (fail)
         clear ta_ tl_
         refine wp_of_end (lp_lns w _ Alns clns cb mb n8 1000 (S8.1) (S8.2) lns TC _ _ (by rfl) (by rfl) (by rfl) (by rfl) (by rfl) HA.out.lns (by have := HLn.out; omega) HS.out.lns HB2.out HT2.out HC2.out (by have := HLn.out; omega) (Nat.le_refl _) hcw hmw _ ?_) (fun _ _ h => h)
         clear HB2 HT2 HC2
         intro F_ wL9 n9 hF_ h1_ h2_ h3_ hb_ hT_ hn_ hC_
         obtain ⟨s9, rfl⟩ := fr623_ex F_ hF_
         have e1_ : s9 1 = .pointer (some ⟨w.heap.size, 0, none⟩) := Option.some.inj h1_
         have e2_ : s9 2 = .int .i64 0 := Option.some.inj h2_
         have e3_ : s9 3 = .pointer (some ⟨cb, 0, none⟩) := Option.some.inj h3_
         obtain ⟨S9, hS9⟩ : ∃ z : CS, z = lns.foldl Ln.look S8 := ⟨_, rfl⟩
         have HC2 : Hid (CkAt wL9 cb mb n9 S9.1 S9.2) := hQ0 (by rw [hS9]; exact hC_)
         have HS9 := hQ0 hS9
         have HB2 := hQ0 hb_
         have HT2 := hQ0 hT_
         clear hS9 hC_ hb_ hT_
         unfold fr623
         rw [e1_, e2_, e3_]
         clear e1_ e2_ e3_ h1_ h2_ h3_ hF_
         show _
         as_aux_lemma =>
          go_upto_region 66 with (fail)
          have hF : Tb.fold ⟨rad, bal, rst, gx, gy, drg, shf, tr, ws, ars, ps, fs, zs, ss, las, rs, ds, lns⟩ = S9 := by unfold Tb.fold; rw [HS9.out, HS8.out, HS7.out, HS6.out, HS5.out, HS4.out, HS3.out, HS2.out, HS1.out, HS0.out]
          have HF := hQ0 hF
          have hRf : R = if S9.1 = 0 ∧ Tb.over ⟨rad, bal, rst, gx, gy, drg, shf, tr, ws, ars, ps, fs, zs, ss, las, rs, ds, lns⟩ = true then 11 else S9.1 := by rw [HRr.out]; unfold checkR; rw [if_neg HM.out, if_neg HH.out, hF]
          have HRf := hQ0 hRf
          obtain ⟨ε, hε⟩ : ∃ z, z = S9.1 := ⟨_, rfl⟩
          obtain ⟨c0, c1, cfz, clt, cne, csn⟩ := HC2.out
          rw [← hε] at c1
          rw [← hε] at HRf
          have HE := hQ0 hε
          clear hF hRf hε csn
          obtain ⟨ov, hov'⟩ : ∃ b, b = Tb.over ⟨rad, bal, rst, gx, gy, drg, shf, tr, ws, ars, ps, fs, zs, ss, las, rs, ds, lns⟩ := ⟨_, rfl⟩
          have KO : ε = 0 → ∀ (W : World), Below w.heap.size w W → Calls Tryz.prog 33 #[.agg #[.int .i64 rad, .int .i64 bal, .int .i64 rst, .int .i64 gx, .int .i64 gy, .int .i64 drg, .int .i64 shf, .slice Atr tr.length ctr, .slice Aws ws.length cws, .slice Aars ars.length cars, .slice Aps ps.length cps, .slice Afs fs.length cfs, .slice Azs zs.length czs, .slice Ass ss.length css, .slice Alas las.length clas, .slice Ars rs.length crs, .slice Ads ds.length cds, .slice Alns lns.length clns]] W fun e w' => e = .returned (.bool ov) ∧ Below W.heap.size W w' := fun h0 W hb => by
           have hov := fold_ovok _ (by rw [HF.out, ← HE.out, h0]) (by exact HR6.out.symm)
           have h := overlaps_any _ _ W (HA.out.below hb (Nat.le_refl _)) HK.out hov (by have := HLn.out; exact ⟨by simp only; omega, by simp only; omega, by simp only; omega⟩)
           rw [← hov'] at h
           exact h
          have KO := hQ0 KO
          rw [← hov'] at HRf
          clear hov'
          obtain ⟨be, hbe⟩ : ∃ b, b = decide (ε = 0) := ⟨_, rfl⟩
          have HHbe := hQ0 hbe
          clear hbe
          have hzL9 := HB2.out.size
          refine wp_region_lit ?_
          have hS_ : Below wL9.heap.size wL9 wL9 := Below.refl _ _
          iterate 4 (apply wpL_maybe true (by exact rfl); (case h => intro _; have hcW_ := (bcellW hS_).1; have c1y := (hS_.cell (p := ⟨cb, 1, none⟩) clt).trans c1; go_simp; try exact rfl); intro K hK; go_simp; apply hK; clear hK K)
          apply wpL_maybe true (by exact rfl) (.bool be)
          (case h => intro _; have hcW_ := (bcellW hS_).1; have c1y := (hS_.cell (p := ⟨cb, 1, none⟩) clt).trans c1; go_simp; rw [HHbe.out]; by_cases q1_ : ε = 0 <;> simp [q1_])
          intro K hK; go_simp; apply hK; clear hK K
          apply wpL_maybe true (by exact rfl)
          (case h => intro _; have hcW_ := (bcellW hS_).1; have c1y := (hS_.cell (p := ⟨cb, 1, none⟩) clt).trans c1; go_simp; try exact rfl)
          intro K hK; go_simp; apply hK; clear hK K
          apply wpL_maybe be (by clear hS_; cases be <;> rfl) (.agg #[.int .i64 rad, .int .i64 bal, .int .i64 rst, .int .i64 gx, .int .i64 gy, .int .i64 drg, .int .i64 shf, .slice Atr tr.length ctr, .slice Aws ws.length cws, .slice Aars ars.length cars, .slice Aps ps.length cps, .slice Afs fs.length cfs, .slice Azs zs.length czs, .slice Ass ss.length css, .slice Alas las.length clas, .slice Ars rs.length crs, .slice Ads ds.length cds, .slice Alns lns.length clns])
          (case h => intro hc_; obtain rfl : be = true := hc_; (try simp only [opt_true]); exact load_tb _ _ 1 rfl w.heap.size (by first | rfl | (go_simp; done)) ⟨rad, bal, rst, gx, gy, drg, shf, tr, ws, ars, ps, fs, zs, ss, las, rs, ds, lns⟩ ⟨Atr, ctr, Aws, cws, Aars, cars, Aps, cps, Afs, cfs, Azs, czs, Ass, css, Alas, clas, Ars, crs, Ads, cds, Alns, clns⟩ _ (by have h := HT2.out.below hS_ HT2.out.lt; rw [HTC.out] at h; exact h))
          intro K hK; go_simp; apply hK; clear hK K
          refine wpL_callm (S := Below wL9.heap.size wL9)  be (by clear hS_; cases be <;> rfl) (.bool ov) ?_ hS_ ?_
          · intro hc_; obtain rfl : be = true := hc_; intro N_ hN_; generalize hA_ : Act.mk _ _ = A_ at hN_ ⊢; (have v616_ := evA hA_ 616; simp only [getL64, getL8, getL1, getL0, opt_true, Bool.not_false] at v616_); clear hA_; have vc_ := acC A_; have vf_ := acF A_; generalize Act.eval A_ = ev_ at vc_ vf_ v616_ ⊢; go_simp; go_at_call 33; refine (KO.out (of_decide_eq_true HHbe.out.symm) _ (HB2.out.trans (hS_.mono hzL9))).mono ?_; rintro e w9 ⟨rfl, hb9⟩; exact hN_ _ (hS_.trans (hb9.mono hS_.size))
          intro K hK w_ hS2_; go_simp; apply hK; clear hK K hS_; have hS_ := hS2_; clear hS2_
          obtain ⟨d66_1, hd66_1⟩ : ∃ b_, b_ = (be && ov) := ⟨_, rfl⟩
          apply wpL_maybe true (by exact rfl) (.bool d66_1) (by intro _; rw [hd66_1]; cases be <;> (go_simp; try exact rfl))
          have Hd66_1 := hQ0 hd66_1; clear hd66_1
          intro K hK; go_simp; apply hK; clear hK K
          refine wpList_nil ?_
          (try go_simp)
          have HB2x := hS_
          clear hS_
          have c1' := (HB2x.cell (p := ⟨cb, 1, none⟩) clt).trans c1
          have clt' := Nat.lt_of_lt_of_le clt HB2x.size
          clear c0 c1 cfz clt
          cases d66_1
          · obtain rfl : R = ε := by
             rw [HRf.out]
             have hd := Hd66_1.out
             rw [HHbe.out] at hd
             by_cases h : ε = 0 ∧ ov = true
             · rw [decide_eq_true h.1, h.2] at hd; cases hd
             · rw [if_neg h]
            go_wp2_with fail
            go_ret
            exact ⟨rfl, HB2.out.trans (HB2x.mono hzL9)⟩
          · obtain rfl : R = 11 := by
             rw [HRf.out]
             have hd := Hd66_1.out
             rw [HHbe.out] at hd
             have hd : (decide (ε = 0) && ov) = true := hd.symm
             rw [Bool.and_eq_true, decide_eq_true_eq] at hd
             rw [if_pos hd]
            go_wp2_with fail
            go_ret
            exact ⟨rfl, HB2.out.trans (HB2x.mono hzL9)⟩
end Go.Proofs.YtbpcjpiaimdpnaaGreatDoor
