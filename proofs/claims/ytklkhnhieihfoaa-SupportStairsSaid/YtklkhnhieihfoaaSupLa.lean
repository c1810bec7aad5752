/- SupportStairs, the first component of the normal is not 0. -/
import Derived.Test.YtklkhnhieihfoaaSupLd
namespace Go.Proofs.Ytklkhnhieihfoaa
open Go Go.RowKit
set_option linter.unusedVariables false
set_option maxRecDepth 100000 in
set_option maxHeartbeats 40000000 in
theorem stairs_goodA (px py vx vy hx hy n1 n2 again : Int) (w : World) (h : usualB px py vx vy hx hy = true) (hn : withinB n1 n2 1048576 = true) (hz : ¬ n1 = 0) (g1 : 1 ≤ again) (g2 : again ≤ 6) :
    Calls Try.prog 4 #[.agg #[.int .i64 px, .int .i64 py, .int .i64 vx, .int .i64 vy, .int .i64 hx, .int .i64 hy], .agg #[.int .i64 n1, .int .i64 n2], .int .i64 again] w fun e w' => e = .returned (.bool true) ∧ Below w.heap.size w w' := by
  have hu := fun w => usual_any px py vx vy hx hy w
  have hw := fun w => lwithin_any n1 n2 1048576 w (by omega) (by omega)
  rw [h] at hu
  rw [hn] at hw
  unfold usualB at h
  simp only [Bool.and_eq_true] at h
  have bp := within_bd h.1.1
  have bv := within_bd h.1.2
  have bh := within_bd h.2
  have bn := within_bd hn
  obtain ⟨es, ef⟩ := start_fit bp bh bv
  have hst := fun w => start_any px py vx vy hx hy w
  rw [es] at hst
  have hnn : nearB 2097152 (n1, n2) = true := within_mk (by simp only; omega)
  have h1 := stair_one (key := 7) (n := (n1, n2)) bp bh bv bn
  have hfit := fun k S (hS : Stair px py hx hy vx vy 7 (n1, n2) k S) => hS.fit bp bh bv bn
  have hnx := fun k S (hS : Stair px py hx hy vx vy 7 (n1, n2) k S) (hk : 1 ≤ k) => stair_next hS hk (hfit k S hS) hnn
  have hvv : withinB vx vy 262144 = true := within_mk (by omega)
  obtain ⟨m, rfl⟩ := Int.eq_ofNat_of_zero_le (show 0 ≤ again by omega)
  simp only [plV, startP] at hst
  have HST := Lib.hid hst
  have HU := Lib.hid hu
  have HW := Lib.hid hw
  have HES := Lib.hid (And.intro es ef)
  have H1 := Lib.hid h1
  have HFIT := Lib.hid hfit
  have HNX := Lib.hid hnx
  have HVV := Lib.hid hvv
  have m1 : 1 ≤ m := by omega
  have m6 : m ≤ 6 := by omega
  clear h hn hu hw hst es ef h1 hfit hnx bp bv bh bn hnn hvv
  go_enter Try.func4, Try.ntmps4; (try simp only [List.append_eq, List.cons_append, List.nil_append])
  go_wp2_with fail
  -- own blocks: w.heap.size:6, w.heap.size + 1:2
  (go_at_call 11; refine (awake17_any _).mono ?_; rintro e w1 ⟨rfl, hb_w1⟩; have hz_w1 := hb_w1.size; (try simp at hz_w1); (with_reducible apply cel6 (b := w.heap.size) hb_w1); (focus ((try simp) <;> omega)); (focus omega); (focus (go_simp; try exact rfl)); (focus (go_simp; try exact rfl)); (focus (go_simp; try exact rfl)); (focus (go_simp; try exact rfl)); (focus (go_simp; try exact rfl)); (focus (go_simp; try exact rfl)); (focus (intro o; go_simp)); intro cc cc cc cc cc cc fz hl; (with_reducible apply cel2 (b := w.heap.size + 1) hb_w1); (focus ((try simp) <;> omega)); (focus omega); (focus (go_simp; try exact rfl)); (focus (go_simp; try exact rfl)); (focus (intro o; go_simp)); intro cc cc fz hl)
  go_wp2_with fail
  (go_at_call 12; refine (HU.out _).mono ?_; rintro e w2 ⟨rfl, hb_w2⟩; have hz_w2 := hb_w2.size; (try simp at hz_w2); (with_reducible apply cel6 (b := w.heap.size) hb_w2); (focus ((try simp) <;> omega)); (focus omega); (focus (go_simp; try exact rfl)); (focus (go_simp; try exact rfl)); (focus (go_simp; try exact rfl)); (focus (go_simp; try exact rfl)); (focus (go_simp; try exact rfl)); (focus (go_simp; try exact rfl)); (focus (intro o; go_simp)); intro cc cc cc cc cc cc fz hl; (with_reducible apply cel2 (b := w.heap.size + 1) hb_w2); (focus ((try simp) <;> omega)); (focus omega); (focus (go_simp; try exact rfl)); (focus (go_simp; try exact rfl)); (focus (intro o; go_simp)); intro cc cc fz hl)
  go_wp2_with fail
  (go_at_call 13; refine (HW.out _).mono ?_; rintro e w3 ⟨rfl, hb_w3⟩; have hz_w3 := hb_w3.size; (try simp at hz_w3); (with_reducible apply cel6 (b := w.heap.size) hb_w3); (focus ((try simp) <;> omega)); (focus omega); (focus (go_simp; try exact rfl)); (focus (go_simp; try exact rfl)); (focus (go_simp; try exact rfl)); (focus (go_simp; try exact rfl)); (focus (go_simp; try exact rfl)); (focus (go_simp; try exact rfl)); (focus (intro o; go_simp)); intro cc cc cc cc cc cc fz hl; (with_reducible apply cel2 (b := w.heap.size + 1) hb_w3); (focus ((try simp) <;> omega)); (focus omega); (focus (go_simp; try exact rfl)); (focus (go_simp; try exact rfl)); (focus (intro o; go_simp)); intro cc cc fz hl)
  go_wp2_with fail
  (go_at_call 15; refine (HST.out _).mono ?_; rintro e w4 ⟨rfl, hb_w4⟩; have hz_w4 := hb_w4.size; (try simp at hz_w4); (with_reducible apply cel6 (b := w.heap.size) hb_w4); (focus ((try simp) <;> omega)); (focus omega); (focus (go_simp; try exact rfl)); (focus (go_simp; try exact rfl)); (focus (go_simp; try exact rfl)); (focus (go_simp; try exact rfl)); (focus (go_simp; try exact rfl)); (focus (go_simp; try exact rfl)); (focus (intro o; go_simp)); intro cc cc cc cc cc cc fz hl; (with_reducible apply cel2 (b := w.heap.size + 1) hb_w4); (focus ((try simp) <;> omega)); (focus omega); (focus (go_simp; try exact rfl)); (focus (go_simp; try exact rfl)); (focus (intro o; go_simp)); intro cc cc fz hl)
  go_wp2_with fail
  -- own blocks besides: w4.heap.size:14
  (refine pin_wp (N := _) (Nat.le_refl _) (fun w5 hb_w5 hz_w5 => ?_); (try simp at hz_w5); (with_reducible apply cel6 (b := w.heap.size) hb_w5); (focus ((try simp) <;> omega)); (focus omega); (focus (go_simp; try exact rfl)); (focus (go_simp; try exact rfl)); (focus (go_simp; try exact rfl)); (focus (go_simp; try exact rfl)); (focus (go_simp; try exact rfl)); (focus (go_simp; try exact rfl)); (focus (intro o; go_simp)); intro cc cc cc cc cc cc fz hl; (with_reducible apply cel2 (b := w.heap.size + 1) hb_w5); (focus ((try simp) <;> omega)); (focus omega); (focus (go_simp; try exact rfl)); (focus (go_simp; try exact rfl)); (focus (intro o; go_simp)); intro cc cc fz hl; (with_reducible apply cel14 (b := w4.heap.size) hb_w5); (focus ((try simp) <;> omega)); (focus omega); (focus (go_simp; try exact rfl)); (focus (go_simp; try exact rfl)); (focus (go_simp; try exact rfl)); (focus (go_simp; try exact rfl)); (focus (go_simp; try exact rfl)); (focus (go_simp; try exact rfl)); (focus (go_simp; try exact rfl)); (focus (go_simp; try exact rfl)); (focus (go_simp; try exact rfl)); (focus (go_simp; try exact rfl)); (focus (go_simp; try exact rfl)); (focus (go_simp; try exact rfl)); (focus (go_simp; try exact rfl)); (focus (go_simp; try exact rfl)); (focus (intro o; go_simp)); intro cc cc cc cc cc cc cc cc cc cc cc cc cc cc fz hl)
  have HB5 := Lib.hid (show Below w.heap.size w w5 by ((with_reducible (repeat (first | exact bR _ _ | refine bS ?_ ?_ _ | refine bA ?_ ?_ _ | refine bD ?_ | refine bT ?_ (by assumption) ?_ | refine bO (by assumption) ?_ ?_))) <;> (first | omega | (simp; done) | (simp <;> omega))))
  have HX5 := Lib.hid (show XB w5 w4.heap.size (startP px py vx vy hx hy) (.slice none 0 0) (.slice none 0 0) from ⟨by omega, by assumption, by assumption, by assumption, by assumption, by assumption, by assumption, by assumption, by assumption, by assumption, by assumption, by assumption, by assumption, by assumption, by assumption, by assumption⟩)
  clear hb_w1 hb_w2 hb_w3 hb_w4 hb_w5
  go_loopw [8] (fun vi wr => ∃ k : Nat, k ≤ m ∧ vi = .int .i64 k ∧ Hid (SLoop w w5 w4.heap.size px py vx vy hx hy (n1, n2) k wr)) (fun vi _ => m - (intOf vi).toNat)
  case atStart => exact ⟨0, by omega, rfl, Lib.hid ⟨HB5.out, Below.refl _ _, by omega, _, none, 0, none, 0, HX5.out, World.ownsRow_nil _ _ _ _, World.ownsRow_nil _ _ _ _, .inl ⟨rfl, rfl⟩⟩⟩
  case round =>
    obtain ⟨k, hk, rfl, HSL⟩ := hrel
    have hsl := HSL.out
    unfold SLoop at hsl
    obtain ⟨hbr, hb5, hbs, S, A, c, B, d, hxb, hok, hon, hS⟩ := hsl
    have HBR := Lib.hid hbr
    have HXB := Lib.hid hxb
    have HOK := Lib.hid hok
    have HON := Lib.hid hon
    have hb_wr := hb5
    have HB5R := Lib.hid hb5
    have hz_wr := hb5.size
    clear hb5
    have j1 : (0 : Int) ≤ (k : Int) := by omega
    by_cases hlt : k < m
    · have hkl : S.ks.length ≤ 1 ∧ S.ns.length ≤ 1 := by
        rcases hS with ⟨_, e⟩ | ⟨_, e⟩
        · rw [e]; exact ⟨Nat.zero_le _, Nat.zero_le _⟩
        · rw [e.l.1, e.l.2]; exact ⟨Nat.le_refl _, Nat.le_refl _⟩
      have hS2 : Stair px py hx hy vx vy 7 (n1, n2) (k + 1) (pressR S [7] [(n1, n2)]) := by
        rcases hS with ⟨e0, e⟩ | ⟨e0, e⟩
        · rw [e, e0]; exact H1.out
        · exact HNX.out k S e e0
      have hpr := fun W (h1 : IAt W A S.ks) (h2 : VAt W B S.ns) g g' hk hn => press_one S _ 7 (n1, n2) g g' W ⟨A, c, B, d, rfl, h1, h2⟩ hk hn (by omega) (by omega)
      obtain ⟨T, hT⟩ : ∃ T, T = pressR S [7] [(n1, n2)] := ⟨_, rfl⟩
      rw [← hT] at hpr hS2
      simp only [plV] at hpr
      have HPR := Lib.hid hpr
      have HS2 := Lib.hid hS2
      have j2 : (k : Int) < (m : Int) := by omega
      clear hbr hok hon hS hpr hS2 hT HSL
      obtain ⟨lX, zX, X0, X1, X2, X3, X4, X5, X6, X7, X8, X9, X10, X11, X12, X13⟩ := hxb
      have hln := hkl.1
      -- own blocks: w.heap.size:6, w.heap.size + 1:2
      (with_reducible apply cel6 (b := w.heap.size) hb_wr); (focus ((try simp) <;> omega)); (focus omega); (focus (go_simp; try exact rfl)); (focus (go_simp; try exact rfl)); (focus (go_simp; try exact rfl)); (focus (go_simp; try exact rfl)); (focus (go_simp; try exact rfl)); (focus (go_simp; try exact rfl)); (focus (intro o; go_simp)); intro cc cc cc cc cc cc fz hl; (with_reducible apply cel2 (b := w.heap.size + 1) hb_wr); (focus ((try simp) <;> omega)); (focus omega); (focus (go_simp; try exact rfl)); (focus (go_simp; try exact rfl)); (focus (intro o; go_simp)); intro cc cc fz hl
      clear hb_wr
      go_wp2_with fail
      -- own blocks: w.heap.size:6, w.heap.size + 1:2
      (go_at_call 14; refine (HPR.out _ (OwnK.iat (base := w4.heap.size + 1) (c := c) (by have hk9 := HOK.out; ((repeat (first | (with_reducible exact hk9) | (with_reducible refine OwnK.low ?_ ?_ _) | (with_reducible refine OwnK.alloc ?_ _))) <;> first | omega | (simp; done) | (simp <;> omega)))) (OwnN.vat (base := w4.heap.size + 1) (c := d) (by have hn9 := HON.out; ((repeat (first | (with_reducible exact hn9) | (with_reducible refine OwnN.low ?_ ?_ _) | (with_reducible refine OwnN.alloc ?_ _))) <;> first | omega | (simp; done) | (simp <;> omega)))) _ _ (by unfold IC; go_simp) (by unfold VC; exact ⟨by go_simp, by go_simp⟩)).mono ?_; rintro e w7 ⟨hb_w7, A7, c7, B7, d7, rfl, hk7, hn7⟩; have hz_w7 := hb_w7.size; (try simp at hz_w7); (with_reducible apply cel6 (b := w.heap.size) hb_w7); (focus ((try simp) <;> omega)); (focus omega); (focus (go_simp; try exact rfl)); (focus (go_simp; try exact rfl)); (focus (go_simp; try exact rfl)); (focus (go_simp; try exact rfl)); (focus (go_simp; try exact rfl)); (focus (go_simp; try exact rfl)); (focus (intro o; go_simp)); intro cc cc cc cc cc cc fz hl; (with_reducible apply cel2 (b := w.heap.size + 1) hb_w7); (focus ((try simp) <;> omega)); (focus omega); (focus (go_simp; try exact rfl)); (focus (go_simp; try exact rfl)); (focus (intro o; go_simp)); intro cc cc fz hl)
      have HB7 := Lib.hid (show Below wr.heap.size wr w7 by ((with_reducible (repeat (first | exact bR _ _ | refine bS ?_ ?_ _ | refine bA ?_ ?_ _ | refine bD ?_ | refine bT ?_ (by assumption) ?_ | refine bO (by assumption) ?_ ?_))) <;> (first | omega | (simp; done) | (simp <;> omega))))
      have HK7 := Lib.hid (OwnK.weaker (base' := w4.heap.size + 1) hk7 (by (try simp) <;> omega))
      have HN7 := Lib.hid (OwnN.weaker (base' := w4.heap.size + 1) hn7 (by (try simp) <;> omega))
      have HX7 := Lib.hid (HXB.out.below HB7.out hbs)
      have HBR7 := Lib.hid (show Below w.heap.size w w7 from HBR.out.trans (HB7.out.mono (by have := HBR.out.size; omega)))
      have hz7 := HB7.out.size
      clear hb_w7 hk7 hn7 lX zX X0 X1 X2 X3 X4 X5 X6 X7 X8 X9 X10 X11 X12 X13
      simp only [plV]
      obtain ⟨lX, zX, X0, X1, X2, X3, X4, X5, X6, X7, X8, X9, X10, X11, X12, X13⟩ := HX7.out
      go_wp2_with fail
      go_roundw
      case rel =>
        refine ⟨k + 1, by omega, by go_num, Lib.hid ?_⟩
        unfold SLoop
        refine ⟨?_, ?_, by (try simp) <;> omega, T, A7, c7, B7, d7, ?_, ?_, ?_, .inr ⟨by omega, HS2.out⟩⟩
        · have hB := HBR7.out
          clear HBR7 HBR
          ((with_reducible (repeat (first | exact bR _ _ | refine bS ?_ ?_ _ | refine bA ?_ ?_ _ | refine bD ?_ | refine bT ?_ (by assumption) ?_ | refine bO (by assumption) ?_ ?_))) <;> (first | omega | (simp; done) | (simp <;> omega)))
        · have hB := HB5R.out.trans (HB7.out.mono (by omega))
          clear HB5R HB7 HBR7 HBR
          ((with_reducible (repeat (first | exact bR _ _ | refine bS ?_ ?_ _ | refine bA ?_ ?_ _ | refine bD ?_ | refine bT ?_ (by assumption) ?_ | refine bO (by assumption) ?_ ?_))) <;> (first | omega | (simp; done) | (simp <;> omega)))
        · exact ⟨by (try simp) <;> omega, by intro o; go_simp, by go_simp, by go_simp, by go_simp, by go_simp, by go_simp, by go_simp, by go_simp, by go_simp, by go_simp, by go_simp, by go_simp, by go_simp, by go_simp, by go_simp⟩
        · have hk9 := HK7.out
          ((repeat (first | (with_reducible exact hk9) | (with_reducible refine OwnK.low ?_ ?_ _) | (with_reducible refine OwnK.alloc ?_ _))) <;> first | omega | (simp; done) | (simp <;> omega))
        · have hn9 := HN7.out
          ((repeat (first | (with_reducible exact hn9) | (with_reducible refine OwnN.low ?_ ?_ _) | (with_reducible refine OwnN.alloc ?_ _))) <;> first | omega | (simp; done) | (simp <;> omega))
      case measure => simp [intOf] <;> omega
    · obtain rfl : k = m := by omega
      have hS : Stair px py hx hy vx vy 7 (n1, n2) k S := by
        rcases hS with ⟨e0, _⟩ | ⟨_, e⟩
        · omega
        · exact e
      have hfS := HFIT.out k S hS
      obtain ⟨q1, q2, q3, q4, q5, q6, q7, q8, q9, q10, qk, qn, qt, qd⟩ := S
      obtain ⟨⟨ep1, ep2⟩, ⟨ef1, ef2⟩, ⟨eb1, eb2⟩, ⟨el1, el2⟩, _, _, t1, t2, t3⟩ := hS
      simp only at ep1 ep2 ef1 ef2 eb1 eb2 el1 el2 t1 t2 t3
      subst ep1 ep2 ef1 ef2 eb1 eb2 el1 el2
      have him := fun W (h1 : IAt W A [7]) (h2 : VAt W B [(n1, n2)]) => impulse_any ⟨q1, q2, q3, q4, q5, q6, q7, q8, q9, q10, [7], [(n1, n2)], qt, qd⟩ _ q9 q10 W ⟨A, c, B, d, rfl, h1, h2⟩ (by simp) (by simp)
      have hY : impR ⟨q1, q2, q3, q4, q5, q6, q7, q8, q9, q10, [7], [(n1, n2)], qt, qd⟩ q9 q10 = if qd = true then ⟨q1, q2, q3, q4, q5, q6, q7, q8, q9, q10, [7], [(n1, n2)], qt, qd⟩ else startP q1 q2 q9 q10 q7 q8 := by
        unfold impR
        rw [if_pos ⟨hfS, HVV.out⟩, HES.out.1]
      rw [hY] at him
      have hsm := fun W (P : Pl) (A1 : Option Addr) (c1 : Nat) (B1 : Option Addr) (d1 : Nat) (A2 : Option Addr) (c2 : Nat) (B2 : Option Addr) (d2 : Nat) (h1 : IAt W A1 P.ks) (h2 : VAt W B1 P.ns) (h3 : IAt W A2 P.ks) (h4 : VAt W B2 P.ns) (h5 : P.ks.length ≤ 1000) (h6 : P.ns.length ≤ 1000) => same_pl P _ _ W ⟨A1, c1, B1, d1, rfl, h1, h2⟩ ⟨A2, c2, B2, d2, rfl, h3, h4⟩ h5 h6
      clear hbr hY hfS HSL hok hon
      cases qd
      · rw [if_neg (by simp)] at him
        have hs2 := fun W A1 c1 B1 d1 => hsm W (startP q1 q2 q9 q10 q7 q8) A1 c1 B1 d1 none 0 none 0 (fun k x h => by simp [startP] at h) (VAt.nil _ _) (fun k x h => by simp [startP] at h) (VAt.nil _ _) (by simp [startP]) (by simp [startP])
        simp only [plV, startP, List.length_nil, List.length_cons, Nat.zero_add] at him hs2
        have HIM := Lib.hid him
        have HSM := Lib.hid hs2
        have hcase : (k = 1 ∧ qt = false) ∨ k = 2 := by
          rcases (by omega : k = 1 ∨ k = 2 ∨ 3 ≤ k) with e | e | e
          · exact .inl ⟨e, t1 e⟩
          · exact .inr e
          · have := t3 e; cases this
        clear him hs2 hsm t1 t2 t3
        obtain ⟨lX, zX, X0, X1, X2, X3, X4, X5, X6, X7, X8, X9, X10, X11, X12, X13⟩ := hxb
        simp only [List.length_nil, List.length_cons, Nat.zero_add] at X10 X11
        -- own blocks: w.heap.size:6
        (with_reducible apply cel6 (b := w.heap.size) hb_wr); (focus ((try simp) <;> omega)); (focus omega); (focus (go_simp; try exact rfl)); (focus (go_simp; try exact rfl)); (focus (go_simp; try exact rfl)); (focus (go_simp; try exact rfl)); (focus (go_simp; try exact rfl)); (focus (go_simp; try exact rfl)); (focus (intro o; go_simp)); intro cc cc cc cc cc cc fz hl
        clear hb_wr
        rcases hcase with ⟨rfl, rfl⟩ | rfl
        all_goals
          go_wp2_with fail
          -- own blocks: w.heap.size:6, w4.heap.size:14
          (go_at_call 21; refine (HIM.out _ (OwnK.iat (base := w4.heap.size + 1) (c := c) (by have hk9 := HOK.out; ((repeat (first | (with_reducible exact hk9) | (with_reducible refine OwnK.low ?_ ?_ _) | (with_reducible refine OwnK.alloc ?_ _))) <;> first | omega | (simp; done) | (simp <;> omega)))) (OwnN.vat (base := w4.heap.size + 1) (c := d) (by have hn9 := HON.out; ((repeat (first | (with_reducible exact hn9) | (with_reducible refine OwnN.low ?_ ?_ _) | (with_reducible refine OwnN.alloc ?_ _))) <;> first | omega | (simp; done) | (simp <;> omega))))).mono ?_; rintro e w8 ⟨hb_w8, A8, c8, B8, d8, rfl, hk8, hn8⟩; have hz_w8 := hb_w8.size; (try simp at hz_w8); (with_reducible apply cel6 (b := w.heap.size) hb_w8); (focus ((try simp) <;> omega)); (focus omega); (focus (go_simp; try exact rfl)); (focus (go_simp; try exact rfl)); (focus (go_simp; try exact rfl)); (focus (go_simp; try exact rfl)); (focus (go_simp; try exact rfl)); (focus (go_simp; try exact rfl)); (focus (intro o; go_simp)); intro cc cc cc cc cc cc fz hl; (with_reducible apply cel14 (b := w4.heap.size) hb_w8); (focus ((try simp) <;> omega)); (focus omega); (focus (go_simp; try exact rfl)); (focus (go_simp; try exact rfl)); (focus (go_simp; try exact rfl)); (focus (go_simp; try exact rfl)); (focus (go_simp; try exact rfl)); (focus (go_simp; try exact rfl)); (focus (go_simp; try exact rfl)); (focus (go_simp; try exact rfl)); (focus (go_simp; try exact rfl)); (focus (go_simp; try exact rfl)); (focus (go_simp; try exact rfl)); (focus (go_simp; try exact rfl)); (focus (go_simp; try exact rfl)); (focus (go_simp; try exact rfl)); (focus (intro o; go_simp)); intro cc cc cc cc cc cc cc cc cc cc cc cc cc cc fz hl)
          simp only [plV, List.length_nil]
          clear hk8 hn8
          go_wp2_with fail
          -- own blocks besides: w8.heap.size:14
          (refine pin_wp (N := _) (Nat.le_refl _) (fun w9 hb_w9 hz_w9 => ?_); (try simp at hz_w9); (with_reducible apply cel6 (b := w.heap.size) hb_w9); (focus ((try simp) <;> omega)); (focus omega); (focus (go_simp; try exact rfl)); (focus (go_simp; try exact rfl)); (focus (go_simp; try exact rfl)); (focus (go_simp; try exact rfl)); (focus (go_simp; try exact rfl)); (focus (go_simp; try exact rfl)); (focus (intro o; go_simp)); intro cc cc cc cc cc cc fz hl; (with_reducible apply cel14 (b := w4.heap.size) hb_w9); (focus ((try simp) <;> omega)); (focus omega); (focus (go_simp; try exact rfl)); (focus (go_simp; try exact rfl)); (focus (go_simp; try exact rfl)); (focus (go_simp; try exact rfl)); (focus (go_simp; try exact rfl)); (focus (go_simp; try exact rfl)); (focus (go_simp; try exact rfl)); (focus (go_simp; try exact rfl)); (focus (go_simp; try exact rfl)); (focus (go_simp; try exact rfl)); (focus (go_simp; try exact rfl)); (focus (go_simp; try exact rfl)); (focus (go_simp; try exact rfl)); (focus (go_simp; try exact rfl)); (focus (intro o; go_simp)); intro cc cc cc cc cc cc cc cc cc cc cc cc cc cc fz hl; (with_reducible apply cel14 (b := w8.heap.size) hb_w9); (focus ((try simp) <;> omega)); (focus omega); (focus (go_simp; try exact rfl)); (focus (go_simp; try exact rfl)); (focus (go_simp; try exact rfl)); (focus (go_simp; try exact rfl)); (focus (go_simp; try exact rfl)); (focus (go_simp; try exact rfl)); (focus (go_simp; try exact rfl)); (focus (go_simp; try exact rfl)); (focus (go_simp; try exact rfl)); (focus (go_simp; try exact rfl)); (focus (go_simp; try exact rfl)); (focus (go_simp; try exact rfl)); (focus (go_simp; try exact rfl)); (focus (go_simp; try exact rfl)); (focus (intro o; go_simp)); intro cc cc cc cc cc cc cc cc cc cc cc cc cc cc fz hl); refine wp_region_warm (Own w9.heap.size w9) (by kernel_rfl) (by kernel_rfl) (Own.refl (Nat.le_refl _)).drew ?_
          repeat (first | (refine wpWarm_step_off rfl (fun K hK => ?_); (go_simp; refine hK _ ?_; clear hK K)) | (apply wpWarm_step rfl; (focus (intro W' hS; have hcS := hS.cells.1; have hfS := hS.cells.2; go_simp; (first | done | exact rfl | exact ⟨rfl, hS⟩ | (go_at_call 15; exact (HST.out _).mono (fun _ _ h => ⟨h.1, hS.call h.2⟩)) | (go_at_call 22; exact (HSM.out _ _ _ _ _).mono (fun _ _ h => ⟨h.1, hS.call h.2⟩)) | (go_simp; exact rfl)))); (intro K hK; go_simp; (try go_bits); refine hK _ ?_; clear hK K)) | (apply wpWarm_step_on rfl; (focus (intro W' hS; have hcS := hS.cells.1; have hfS := hS.cells.2; go_simp; (first | done | exact rfl | exact ⟨rfl, hS⟩ | (go_at_call 15; exact (HST.out _).mono (fun _ _ h => ⟨h.1, hS.call h.2⟩)) | (go_at_call 22; exact (HSM.out _ _ _ _ _).mono (fun _ _ h => ⟨h.1, hS.call h.2⟩)) | (go_simp; exact rfl)))); (intro K hK; go_simp; (try go_bits); refine hK _ ?_; clear hK K)))
          (refine wpWarm_nil ?_; intro w10 hO; have hz_w10 := hO.1; have hb_w10 := hO.2; clear hO; (with_reducible apply cel6 (b := w.heap.size) hb_w10); (focus ((try simp) <;> omega)); (focus omega); (focus (go_simp; try exact rfl)); (focus (go_simp; try exact rfl)); (focus (go_simp; try exact rfl)); (focus (go_simp; try exact rfl)); (focus (go_simp; try exact rfl)); (focus (go_simp; try exact rfl)); (focus (intro o; go_simp)); intro cc cc cc cc cc cc fz hl; (with_reducible apply cel14 (b := w4.heap.size) hb_w10); (focus ((try simp) <;> omega)); (focus omega); (focus (go_simp; try exact rfl)); (focus (go_simp; try exact rfl)); (focus (go_simp; try exact rfl)); (focus (go_simp; try exact rfl)); (focus (go_simp; try exact rfl)); (focus (go_simp; try exact rfl)); (focus (go_simp; try exact rfl)); (focus (go_simp; try exact rfl)); (focus (go_simp; try exact rfl)); (focus (go_simp; try exact rfl)); (focus (go_simp; try exact rfl)); (focus (go_simp; try exact rfl)); (focus (go_simp; try exact rfl)); (focus (go_simp; try exact rfl)); (focus (intro o; go_simp)); intro cc cc cc cc cc cc cc cc cc cc cc cc cc cc fz hl; (with_reducible apply cel14 (b := w8.heap.size) hb_w10); (focus ((try simp) <;> omega)); (focus omega); (focus (go_simp; try exact rfl)); (focus (go_simp; try exact rfl)); (focus (go_simp; try exact rfl)); (focus (go_simp; try exact rfl)); (focus (go_simp; try exact rfl)); (focus (go_simp; try exact rfl)); (focus (go_simp; try exact rfl)); (focus (go_simp; try exact rfl)); (focus (go_simp; try exact rfl)); (focus (go_simp; try exact rfl)); (focus (go_simp; try exact rfl)); (focus (go_simp; try exact rfl)); (focus (go_simp; try exact rfl)); (focus (go_simp; try exact rfl)); (focus (intro o; go_simp)); intro cc cc cc cc cc cc cc cc cc cc cc cc cc cc fz hl)
          go_wp2_with fail
          go_ret
          exact ⟨rfl, HBR.out.trans (show Below w.heap.size wr _ by ((with_reducible (repeat (first | exact bR _ _ | refine bS ?_ ?_ _ | refine bA ?_ ?_ _ | refine bD ?_ | refine bT ?_ (by assumption) ?_ | refine bO (by assumption) ?_ ?_))) <;> (first | omega | (simp; done) | (simp <;> omega))))⟩
      · rw [if_pos rfl] at him
        have hs2 := fun W A1 c1 B1 d1 A2 c2 B2 d2 h1 h2 h3 h4 => hsm W ⟨q1, q2, q3, q4, q5, q6, q7, q8, q9, q10, [7], [(n1, n2)], qt, true⟩ A1 c1 B1 d1 A2 c2 B2 d2 h1 h2 h3 h4 (by simp) (by simp)
        simp only [plV, List.length_nil, List.length_cons, Nat.zero_add] at him hs2
        have HIM := Lib.hid him
        have HSM := Lib.hid hs2
        have hcase : (k = 1 ∧ qt = false) ∨ k = 2 ∨ 3 ≤ k := by
          rcases (by omega : k = 1 ∨ k = 2 ∨ 3 ≤ k) with e | e | e
          · exact .inl ⟨e, t1 e⟩
          · exact .inr (.inl e)
          · exact .inr (.inr e)
        clear him hs2 hsm t1 t2 t3
        obtain ⟨lX, zX, X0, X1, X2, X3, X4, X5, X6, X7, X8, X9, X10, X11, X12, X13⟩ := hxb
        simp only [List.length_nil, List.length_cons, Nat.zero_add] at X10 X11
        -- own blocks: w.heap.size:6
        (with_reducible apply cel6 (b := w.heap.size) hb_wr); (focus ((try simp) <;> omega)); (focus omega); (focus (go_simp; try exact rfl)); (focus (go_simp; try exact rfl)); (focus (go_simp; try exact rfl)); (focus (go_simp; try exact rfl)); (focus (go_simp; try exact rfl)); (focus (go_simp; try exact rfl)); (focus (intro o; go_simp)); intro cc cc cc cc cc cc fz hl
        clear hb_wr
        rcases hcase with ⟨rfl, rfl⟩ | rfl | h3
        all_goals
          go_wp2_with fail
          -- own blocks: w.heap.size:6, w4.heap.size:14
          (go_at_call 21; refine (HIM.out _ (OwnK.iat (base := w4.heap.size + 1) (c := c) (by have hk9 := HOK.out; ((repeat (first | (with_reducible exact hk9) | (with_reducible refine OwnK.low ?_ ?_ _) | (with_reducible refine OwnK.alloc ?_ _))) <;> first | omega | (simp; done) | (simp <;> omega)))) (OwnN.vat (base := w4.heap.size + 1) (c := d) (by have hn9 := HON.out; ((repeat (first | (with_reducible exact hn9) | (with_reducible refine OwnN.low ?_ ?_ _) | (with_reducible refine OwnN.alloc ?_ _))) <;> first | omega | (simp; done) | (simp <;> omega))))).mono ?_; rintro e w8 ⟨hb_w8, A8, c8, B8, d8, rfl, hk8, hn8⟩; have hz_w8 := hb_w8.size; (try simp at hz_w8); (with_reducible apply cel6 (b := w.heap.size) hb_w8); (focus ((try simp) <;> omega)); (focus omega); (focus (go_simp; try exact rfl)); (focus (go_simp; try exact rfl)); (focus (go_simp; try exact rfl)); (focus (go_simp; try exact rfl)); (focus (go_simp; try exact rfl)); (focus (go_simp; try exact rfl)); (focus (intro o; go_simp)); intro cc cc cc cc cc cc fz hl; (with_reducible apply cel14 (b := w4.heap.size) hb_w8); (focus ((try simp) <;> omega)); (focus omega); (focus (go_simp; try exact rfl)); (focus (go_simp; try exact rfl)); (focus (go_simp; try exact rfl)); (focus (go_simp; try exact rfl)); (focus (go_simp; try exact rfl)); (focus (go_simp; try exact rfl)); (focus (go_simp; try exact rfl)); (focus (go_simp; try exact rfl)); (focus (go_simp; try exact rfl)); (focus (go_simp; try exact rfl)); (focus (go_simp; try exact rfl)); (focus (go_simp; try exact rfl)); (focus (go_simp; try exact rfl)); (focus (go_simp; try exact rfl)); (focus (intro o; go_simp)); intro cc cc cc cc cc cc cc cc cc cc cc cc cc cc fz hl)
          have HK8 := Lib.hid (show OwnK w8 _ A8 c8 [7] from hk8)
          have HN8 := Lib.hid (show OwnN w8 _ B8 d8 [(n1, n2)] from hn8)
          clear hk8 hn8
          simp only [plV, List.length_nil, List.length_cons, Nat.zero_add]
          go_wp2_with fail
          -- own blocks besides: w8.heap.size:14
          (go_at_call 22; refine (HSM.out _ _ _ _ _ _ _ _ _ ((OwnK.iat HK8.out).below (show Below w8.heap.size w8 _ by ((with_reducible (repeat (first | exact bR _ _ | refine bS ?_ ?_ _ | refine bA ?_ ?_ _ | refine bD ?_ | refine bT ?_ (by assumption) ?_ | refine bO (by assumption) ?_ ?_))) <;> (first | omega | (simp; done) | (simp <;> omega)))) (Nat.le_refl _)) ((OwnN.vat HN8.out).below (show Below w8.heap.size w8 _ by ((with_reducible (repeat (first | exact bR _ _ | refine bS ?_ ?_ _ | refine bA ?_ ?_ _ | refine bD ?_ | refine bT ?_ (by assumption) ?_ | refine bO (by assumption) ?_ ?_))) <;> (first | omega | (simp; done) | (simp <;> omega)))) (Nat.le_refl _)) ((OwnK.iat HOK.out).below (show Below wr.heap.size wr _ by ((with_reducible (repeat (first | exact bR _ _ | refine bS ?_ ?_ _ | refine bA ?_ ?_ _ | refine bD ?_ | refine bT ?_ (by assumption) ?_ | refine bO (by assumption) ?_ ?_))) <;> (first | omega | (simp; done) | (simp <;> omega)))) (Nat.le_refl _)) ((OwnN.vat HON.out).below (show Below wr.heap.size wr _ by ((with_reducible (repeat (first | exact bR _ _ | refine bS ?_ ?_ _ | refine bA ?_ ?_ _ | refine bD ?_ | refine bT ?_ (by assumption) ?_ | refine bO (by assumption) ?_ ?_))) <;> (first | omega | (simp; done) | (simp <;> omega)))) (Nat.le_refl _))).mono ?_; rintro e w9 ⟨rfl, hb_w9⟩; have hz_w9 := hb_w9.size; (try simp at hz_w9); (with_reducible apply cel6 (b := w.heap.size) hb_w9); (focus ((try simp) <;> omega)); (focus omega); (focus (go_simp; try exact rfl)); (focus (go_simp; try exact rfl)); (focus (go_simp; try exact rfl)); (focus (go_simp; try exact rfl)); (focus (go_simp; try exact rfl)); (focus (go_simp; try exact rfl)); (focus (intro o; go_simp)); intro cc cc cc cc cc cc fz hl; (with_reducible apply cel14 (b := w4.heap.size) hb_w9); (focus ((try simp) <;> omega)); (focus omega); (focus (go_simp; try exact rfl)); (focus (go_simp; try exact rfl)); (focus (go_simp; try exact rfl)); (focus (go_simp; try exact rfl)); (focus (go_simp; try exact rfl)); (focus (go_simp; try exact rfl)); (focus (go_simp; try exact rfl)); (focus (go_simp; try exact rfl)); (focus (go_simp; try exact rfl)); (focus (go_simp; try exact rfl)); (focus (go_simp; try exact rfl)); (focus (go_simp; try exact rfl)); (focus (go_simp; try exact rfl)); (focus (go_simp; try exact rfl)); (focus (intro o; go_simp)); intro cc cc cc cc cc cc cc cc cc cc cc cc cc cc fz hl; (with_reducible apply cel14 (b := w8.heap.size) hb_w9); (focus ((try simp) <;> omega)); (focus omega); (focus (go_simp; try exact rfl)); (focus (go_simp; try exact rfl)); (focus (go_simp; try exact rfl)); (focus (go_simp; try exact rfl)); (focus (go_simp; try exact rfl)); (focus (go_simp; try exact rfl)); (focus (go_simp; try exact rfl)); (focus (go_simp; try exact rfl)); (focus (go_simp; try exact rfl)); (focus (go_simp; try exact rfl)); (focus (go_simp; try exact rfl)); (focus (go_simp; try exact rfl)); (focus (go_simp; try exact rfl)); (focus (go_simp; try exact rfl)); (focus (intro o; go_simp)); intro cc cc cc cc cc cc cc cc cc cc cc cc cc cc fz hl)
          go_wp2_with fail
          go_ret
          exact ⟨rfl, HBR.out.trans (show Below w.heap.size wr _ by ((with_reducible (repeat (first | exact bR _ _ | refine bS ?_ ?_ _ | refine bA ?_ ?_ _ | refine bD ?_ | refine bT ?_ (by assumption) ?_ | refine bO (by assumption) ?_ ?_))) <;> (first | omega | (simp; done) | (simp <;> omega))))⟩
end Go.Proofs.Ytklkhnhieihfoaa
