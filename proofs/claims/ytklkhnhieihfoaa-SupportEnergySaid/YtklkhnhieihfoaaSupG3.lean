/- The contract of support.Press, end 3. -/
import Derived.Test.YtklkhnhieihfoaaSupGd
namespace Go.Proofs.Ytklkhnhieihfoaa
open Go Go.RowKit
set_option linter.unusedVariables false
set_option maxRecDepth 100000 in
set_option maxHeartbeats 40000000 in
theorem press_main3 (P : Pl) (v : Value) (keys : List Int) (norms : List V2) (kA nA : Option Addr) (kc nc : Nat) (w : World) (h : PlAt w v P) (hkA : IAt w kA keys) (hnA : VAt w nA norms)
    (hlk : P.ks.length ≤ 400) (hln : P.ns.length ≤ 400) (hle : keys.length ≤ 100) (hl : norms.length = keys.length) (hpos : 0 < keys.length) (hf : fitB P = true) (hnn : norms.all (nearB 2097152) = true) (hd : P.d = false) (hcs : caseR P keys norms = 3) :
    Calls Try.prog 14 #[v, .slice kA keys.length kc, .slice nA norms.length nc] w (CpOut (pressR P keys norms) w) := by
  have ha := fun w' (hb : Below w.heap.size w w') => accepted_any P v w' (h.below hb (Nat.le_refl _)) (by omega)
  rw [hf] at ha
  have hc := fun w' (hb : Below w.heap.size w w') => copied_any P v w' (h.below hb (Nat.le_refl _)) (by omega) (by omega)
  have hwi := fun w' (hb : Below w.heap.size w w') => swithin_any 2097152 norms nA nc w' (by omega) (hnA.below hb (Nat.le_refl _)) (by omega) (by omega)
  rw [hnn] at hwi
  obtain ⟨R, hR⟩ : ∃ R, R = pressR P keys norms := ⟨_, rfl⟩
  rw [← hR]
  unfold pressR at hR
  rw [if_pos ⟨hf, hnn⟩, if_neg (by rw [hd]; rintro (h | h | h) <;> first | (cases h; done) | omega)] at hR
  obtain ⟨A, c, B, e, rfl, hA, hB⟩ := h
  have hz := fun w => PlAt.zero w
  have HR := Lib.hid hR
  have HFIT := Lib.hid (And.intro hf hnn)
  have HCS := Lib.hid hcs
  clear hcs
  have HKA := Lib.hid hkA
  have HNA := Lib.hid hnA
  have HL := Lib.hid hl
  obtain ⟨n, hnk⟩ : ∃ n, n = keys.length := ⟨_, rfl⟩
  rw [hl, ← hnk]
  have HNK := Lib.hid hnk
  have n1 : (n : Int) ≤ 100 := by omega
  have n2 : (0 : Int) < (n : Int) := by omega
  have n3 : n ≤ 100 := by omega
  rw [hl, ← hnk] at hwi
  rw [← hnk] at hpos
  have hP := hd
  obtain ⟨p1, p2, v1, v2, h1, h2, f1, f2, b1, b2, ks, ns, t, d⟩ := P
  simp only at hd hlk hln
  subst hd
  simp only [plV] at ha hc ⊢
  have HA := Lib.hid ha
  have HC := Lib.hid hc
  have HWI := Lib.hid hwi
  clear ha hc hwi hR hA hB hz hf hnn hkA hnA hl hnk hle hP
  obtain ⟨P, hPe⟩ : ∃ P : Pl, P = ⟨p1, p2, v1, v2, h1, h2, f1, f2, b1, b2, ks, ns, t, false⟩ := ⟨_, rfl⟩
  rw [← hPe] at HR HFIT HCS
  have HPE := Lib.hid hPe
  have HL0 := Lib.hid (And.intro hlk hln)
  clear hPe
  go_enter Try.func14, Try.ntmps14; (try simp only [List.append_eq, List.cons_append, List.nil_append])
  go_wp2_with fail
  -- own blocks: w.heap.size:14, w.heap.size + 1:14
  (go_at_call 56; refine (HA.out _ (by ((with_reducible (repeat (first | exact bR _ _ | refine bS ?_ ?_ _ | refine bA ?_ ?_ _ | refine bD ?_ | refine bT ?_ (by assumption) ?_ | refine bO (by assumption) ?_ ?_))) <;> (first | omega | (simp; done) | (simp <;> omega))))).mono ?_; rintro e w1 ⟨rfl, hb_w1⟩; have hz_w1 := hb_w1.size; (try simp at hz_w1); (with_reducible apply cel14 (b := w.heap.size) hb_w1); (focus ((try simp) <;> omega)); (focus omega); (focus (go_simp; try exact rfl)); (focus (go_simp; try exact rfl)); (focus (go_simp; try exact rfl)); (focus (go_simp; try exact rfl)); (focus (go_simp; try exact rfl)); (focus (go_simp; try exact rfl)); (focus (go_simp; try exact rfl)); (focus (go_simp; try exact rfl)); (focus (go_simp; try exact rfl)); (focus (go_simp; try exact rfl)); (focus (go_simp; try exact rfl)); (focus (go_simp; try exact rfl)); (focus (go_simp; try exact rfl)); (focus (go_simp; try exact rfl)); (focus (intro o; go_simp)); intro cc cc cc cc cc cc cc cc cc cc cc cc cc cc fz hl; (with_reducible apply cel14 (b := w.heap.size + 1) hb_w1); (focus ((try simp) <;> omega)); (focus omega); (focus (go_simp; try exact rfl)); (focus (go_simp; try exact rfl)); (focus (go_simp; try exact rfl)); (focus (go_simp; try exact rfl)); (focus (go_simp; try exact rfl)); (focus (go_simp; try exact rfl)); (focus (go_simp; try exact rfl)); (focus (go_simp; try exact rfl)); (focus (go_simp; try exact rfl)); (focus (go_simp; try exact rfl)); (focus (go_simp; try exact rfl)); (focus (go_simp; try exact rfl)); (focus (go_simp; try exact rfl)); (focus (go_simp; try exact rfl)); (focus (intro o; go_simp)); intro cc cc cc cc cc cc cc cc cc cc cc cc cc cc fz hl)
  go_wp2_with fail
  (go_at_call 57; refine (HWI.out _ (by ((with_reducible (repeat (first | exact bR _ _ | refine bS ?_ ?_ _ | refine bA ?_ ?_ _ | refine bD ?_ | refine bT ?_ (by assumption) ?_ | refine bO (by assumption) ?_ ?_))) <;> (first | omega | (simp; done) | (simp <;> omega))))).mono ?_; rintro e w2 ⟨rfl, hb_w2⟩; have hz_w2 := hb_w2.size; (try simp at hz_w2); (with_reducible apply cel14 (b := w.heap.size) hb_w2); (focus ((try simp) <;> omega)); (focus omega); (focus (go_simp; try exact rfl)); (focus (go_simp; try exact rfl)); (focus (go_simp; try exact rfl)); (focus (go_simp; try exact rfl)); (focus (go_simp; try exact rfl)); (focus (go_simp; try exact rfl)); (focus (go_simp; try exact rfl)); (focus (go_simp; try exact rfl)); (focus (go_simp; try exact rfl)); (focus (go_simp; try exact rfl)); (focus (go_simp; try exact rfl)); (focus (go_simp; try exact rfl)); (focus (go_simp; try exact rfl)); (focus (go_simp; try exact rfl)); (focus (intro o; go_simp)); intro cc cc cc cc cc cc cc cc cc cc cc cc cc cc fz hl; (with_reducible apply cel14 (b := w.heap.size + 1) hb_w2); (focus ((try simp) <;> omega)); (focus omega); (focus (go_simp; try exact rfl)); (focus (go_simp; try exact rfl)); (focus (go_simp; try exact rfl)); (focus (go_simp; try exact rfl)); (focus (go_simp; try exact rfl)); (focus (go_simp; try exact rfl)); (focus (go_simp; try exact rfl)); (focus (go_simp; try exact rfl)); (focus (go_simp; try exact rfl)); (focus (go_simp; try exact rfl)); (focus (go_simp; try exact rfl)); (focus (go_simp; try exact rfl)); (focus (go_simp; try exact rfl)); (focus (go_simp; try exact rfl)); (focus (intro o; go_simp)); intro cc cc cc cc cc cc cc cc cc cc cc cc cc cc fz hl)
  go_wp2_with fail
  (go_at_call 58; refine (HC.out _ (by ((with_reducible (repeat (first | exact bR _ _ | refine bS ?_ ?_ _ | refine bA ?_ ?_ _ | refine bD ?_ | refine bT ?_ (by assumption) ?_ | refine bO (by assumption) ?_ ?_))) <;> (first | omega | (simp; done) | (simp <;> omega))))).mono ?_; rintro e w3 ⟨hb_w3, A2, c2, B2, d2, rfl, hk2, hn2⟩; have hz_w3 := hb_w3.size; (try simp at hz_w3); (with_reducible apply cel14 (b := w.heap.size) hb_w3); (focus ((try simp) <;> omega)); (focus omega); (focus (go_simp; try exact rfl)); (focus (go_simp; try exact rfl)); (focus (go_simp; try exact rfl)); (focus (go_simp; try exact rfl)); (focus (go_simp; try exact rfl)); (focus (go_simp; try exact rfl)); (focus (go_simp; try exact rfl)); (focus (go_simp; try exact rfl)); (focus (go_simp; try exact rfl)); (focus (go_simp; try exact rfl)); (focus (go_simp; try exact rfl)); (focus (go_simp; try exact rfl)); (focus (go_simp; try exact rfl)); (focus (go_simp; try exact rfl)); (focus (intro o; go_simp)); intro cc cc cc cc cc cc cc cc cc cc cc cc cc cc fz hl; (with_reducible apply cel14 (b := w.heap.size + 1) hb_w3); (focus ((try simp) <;> omega)); (focus omega); (focus (go_simp; try exact rfl)); (focus (go_simp; try exact rfl)); (focus (go_simp; try exact rfl)); (focus (go_simp; try exact rfl)); (focus (go_simp; try exact rfl)); (focus (go_simp; try exact rfl)); (focus (go_simp; try exact rfl)); (focus (go_simp; try exact rfl)); (focus (go_simp; try exact rfl)); (focus (go_simp; try exact rfl)); (focus (go_simp; try exact rfl)); (focus (go_simp; try exact rfl)); (focus (go_simp; try exact rfl)); (focus (go_simp; try exact rfl)); (focus (intro o; go_simp)); intro cc cc cc cc cc cc cc cc cc cc cc cc cc cc fz hl)
  have HK := Lib.hid hk2
  have HN := Lib.hid hn2
  have hz22 : w.heap.size + 1 + 1 ≤ w2.heap.size := by omega
  clear hk2 hn2
  simp only [plV]
  go_wp2_with fail
  (refine pin_wp (N := _) (Nat.le_refl _) (fun w4 hb_w4 hz_w4 => ?_); (try simp at hz_w4); (with_reducible apply cel14 (b := w.heap.size) hb_w4); (focus ((try simp) <;> omega)); (focus omega); (focus (go_simp; try exact rfl)); (focus (go_simp; try exact rfl)); (focus (go_simp; try exact rfl)); (focus (go_simp; try exact rfl)); (focus (go_simp; try exact rfl)); (focus (go_simp; try exact rfl)); (focus (go_simp; try exact rfl)); (focus (go_simp; try exact rfl)); (focus (go_simp; try exact rfl)); (focus (go_simp; try exact rfl)); (focus (go_simp; try exact rfl)); (focus (go_simp; try exact rfl)); (focus (go_simp; try exact rfl)); (focus (go_simp; try exact rfl)); (focus (intro o; go_simp)); intro cc cc cc cc cc cc cc cc cc cc cc cc cc cc fz hl; (with_reducible apply cel14 (b := w.heap.size + 1) hb_w4); (focus ((try simp) <;> omega)); (focus omega); (focus (go_simp; try exact rfl)); (focus (go_simp; try exact rfl)); (focus (go_simp; try exact rfl)); (focus (go_simp; try exact rfl)); (focus (go_simp; try exact rfl)); (focus (go_simp; try exact rfl)); (focus (go_simp; try exact rfl)); (focus (go_simp; try exact rfl)); (focus (go_simp; try exact rfl)); (focus (go_simp; try exact rfl)); (focus (go_simp; try exact rfl)); (focus (go_simp; try exact rfl)); (focus (go_simp; try exact rfl)); (focus (go_simp; try exact rfl)); (focus (intro o; go_simp)); intro cc cc cc cc cc cc cc cc cc cc cc cc cc cc fz hl)
  have HB4 := Lib.hid (show Below w.heap.size w w4 by ((with_reducible (repeat (first | exact bR _ _ | refine bS ?_ ?_ _ | refine bA ?_ ?_ _ | refine bD ?_ | refine bT ?_ (by assumption) ?_ | refine bO (by assumption) ?_ ?_))) <;> (first | omega | (simp; done) | (simp <;> omega))))
  have HXB := Lib.hid (show XB w4 w.heap.size P (.slice A2 ks.length c2) (.slice B2 ns.length d2) by rw [HPE.out]; exact ⟨by omega, by assumption, by assumption, by assumption, by assumption, by assumption, by assumption, by assumption, by assumption, by assumption, by assumption, by assumption, by assumption, by assumption, by assumption, by assumption⟩)
  have HZB := Lib.hid (show XB w4 (w.heap.size + 1) zeroPl (.slice none 0 0) (.slice none 0 0) from ⟨by omega, by assumption, by assumption, by assumption, by assumption, by assumption, by assumption, by assumption, by assumption, by assumption, by assumption, by assumption, by assumption, by assumption, by assumption, by assumption⟩)
  have HOK := Lib.hid (show OwnK w4 w2.heap.size A2 c2 ks by
    have hk9 := HK.out
    unfold OwnK at hk9 ⊢
    refine own_below ?_ hb_w4 (Nat.le_refl _)
    ((repeat (first | (with_reducible exact hk9) | (with_reducible refine own_setlow ?_ ?_ _))) <;> first | omega | (simp; done) | (simp <;> omega)))
  have HON := Lib.hid (show OwnN w4 w2.heap.size B2 d2 ns by
    have hn9 := HN.out
    unfold OwnN at hn9 ⊢
    refine own_below ?_ hb_w4 (Nat.le_refl _)
    ((repeat (first | (with_reducible exact hn9) | (with_reducible refine own_setlow ?_ ?_ _))) <;> first | omega | (simp; done) | (simp <;> omega)))
  clear hb_w1 hb_w2 hb_w3 hb_w4 HK HN
  go_loopw [43] (fun vi wr => ∃ k : Nat, k ≤ n ∧ vi = .int .i64 k ∧ Hid (PLoop w P keys norms w2.heap.size k wr)) (fun vi _ => n - (intOf vi).toNat)
  case atStart =>
    refine ⟨0, by omega, rfl, Lib.hid ⟨HB4.out, by omega, A2, c2, B2, d2, ?_, HZB.out, ?_, ?_⟩⟩
    · rw [addR_zero]; have := HXB.out; rw [HPE.out] at this ⊢; exact this
    · rw [addR_zero, HPE.out]; exact HOK.out
    · rw [addR_zero, HPE.out]; exact HON.out
  case round =>
    clear HOK HON HXB HZB
    obtain ⟨k, hk, rfl, HPL⟩ := hrel
    have hlen := addR_len P (keys.zip norms) k
    have hlp : P.ks.length ≤ 400 ∧ P.ns.length ≤ 400 := by rw [HPE.out]; exact HL0.out
    have i1 : (0 : Int) ≤ (k : Int) := by omega
    by_cases hlt : k < n
    · obtain ⟨kv, hkv⟩ : ∃ x, keys[k]? = some x := ⟨keys[k]'(by have := HNK.out; omega), by simp⟩
      obtain ⟨nv, hnv⟩ : ∃ x, norms[k]? = some x := ⟨norms[k]'(by have := HNK.out; have := HL.out; omega), by simp⟩
      have hadd := addR_step P (zip_get hkv hnv)
      have hpl := HPL.out
      unfold PLoop at hpl
      obtain ⟨⟨s1, s2⟩, hs⟩ : ∃ s, s = addR P ((keys.zip norms).take k) := ⟨_, rfl⟩
      rw [← hs] at hpl hadd hlen
      obtain ⟨hbr, hbs, A, c, B, d, hxb, hzb, hok, hon⟩ := hpl
      simp only at hxb hok hon hlen
      obtain ⟨g, o, rfl, hg, a0⟩ := (HKA.out.below hbr (Nat.le_refl _)) k _ hkv
      obtain ⟨g', o', rfl, hg', a1, a2⟩ := (HNA.out.below hbr (Nat.le_refl _)) k _ hnv
      obtain ⟨g0, o0, e0, hg0, _⟩ := HKA.out k _ hkv
      obtain ⟨g1, o1, e1, hg1, _, _⟩ := HNA.out k _ hnv
      have e0 := Option.some.inj e0
      have e1 := Option.some.inj e1
      simp only [Addr.mk.injEq, and_true] at e0 e1
      obtain ⟨rfl, rfl⟩ := e0
      obtain ⟨rfl, rfl⟩ := e1
      have hct := fun w' (hb : Below wr.heap.size wr w') => contains_any s1 A c kv w' (by omega) ((own_iat hok).below hb (Nat.le_refl _))
      obtain ⟨b, hb⟩ : ∃ b, b = s1.contains kv := ⟨_, rfl⟩
      rw [← hb] at hct
      have HADD := hadd
      unfold addS at HADD
      simp only at HADD
      rw [← hb] at HADD
      have HADD := Lib.hid HADD
      have HCT := Lib.hid hct
      have HBR := Lib.hid hbr
      have HXB := Lib.hid hxb
      have HZB := Lib.hid hzb
      have HOK := Lib.hid hok
      have HON := Lib.hid hon
      have hnt : nv = (nv.1, nv.2) := rfl
      have i2 : (k : Int) < (n : Int) := by omega
      have lw : w.heap.size + 1 + 1 ≤ wr.heap.size := by omega
      clear hct hbr hok hon hb hadd hs hkv HPL hnv
      obtain ⟨lX, zX, X0, X1, X2, X3, X4, X5, X6, X7, X8, X9, X10, X11, X12, X13⟩ := hxb
      go_wp2_with fail
      -- own blocks: 
      (go_at_call 59; refine (HCT.out _ (Below.refl _ _)).mono ?_; rintro e w5 ⟨rfl, hb_w5⟩; have hz_w5 := hb_w5.size; (try simp at hz_w5); skip)
      have HB5 := Lib.hid (show Below w.heap.size w w5 from HBR.out.trans (hb_w5.mono (by omega)))
      have HXB5 := Lib.hid (HXB.out.below hb_w5 lX)
      have HZB5 := Lib.hid (HZB.out.below hb_w5 (by omega))
      have HOK5 := Lib.hid (show OwnK w5 w2.heap.size A c s1 from own_below HOK.out hb_w5 (Nat.le_refl _))
      have HON5 := Lib.hid (show OwnN w5 w2.heap.size B d s2 from own_below HON.out hb_w5 (Nat.le_refl _))
      have b1 := (hb_w5.cell (p := ⟨g', o' + k * 2, none⟩) hg').trans a1
      have b2 := (hb_w5.cell (p := ⟨g', o' + k * 2 + 1, none⟩) hg').trans a2
      have hz5 := hb_w5.size
      clear hb_w5 HXB HZB HOK HON HCT lX zX X0 X1 X2 X3 X4 X5 X6 X7 X8 X9 X10 X11 X12 X13 a0 a1 a2 hzb
      cases b
      · replace HADD := Lib.hid (show addR P ((keys.zip norms).take (k + 1)) = (s1 ++ [kv], s2 ++ [nv]) by have := HADD.out; simpa using this)
        obtain ⟨lX, zX, X0, X1, X2, X3, X4, X5, X6, X7, X8, X9, X10, X11, X12, X13⟩ := HXB5.out
        go_wp2_with fail
        -- REGION
        have q1 : w.heap.size < w2.heap.size := by omega
        have q2 : g' < w2.heap.size := by omega
        have q3 : w.heap.size + 1 < w2.heap.size := by omega
        obtain ⟨iK, ik0, ik⟩ := Option.map_eq_some_iff.1 intInfoK
        simp only [Prod.mk.injEq] at ik
        obtain ⟨ik1, ik2, ik3⟩ := ik
        obtain ⟨iN, in0, hy⟩ := Option.map_eq_some_iff.1 vecInfo
        simp only [Prod.mk.injEq] at hy
        obtain ⟨in1, in2, in3⟩ := hy
        refine wp_region_floatJ w2.heap.size 14 [14, 15, 16] (by omega) (fun W => OwnK W w2.heap.size A c s1 ∧ OwnN W w2.heap.size B d s2) ⟨HOK5.out, HON5.out⟩ ((OwnK.cl _ _ _ _).and (OwnN.cl _ _ _ _)) (by kernel_rfl) (by kernel_rfl) ?_
        refine wpK_start [0, 1, 2] ?_; (iterate 3 (first | (refine wpK_off rfl (by kernel_rfl) rfl (fun K hK => ?_); go_simp; refine hK _ ?_; clear hK K) | ((first | apply wpK_step rfl (by kernel_rfl) rfl | apply wpK_on rfl (by kernel_rfl) rfl); (focus (intro W' hS; have hcS := hS.cells.1; have hfS := hS.cells.2; go_simp; (first | done | exact rfl | exact ⟨rfl, Below.refl _ _⟩ | (go_simp; first | done | exact rfl | exact ⟨rfl, Below.refl _ _⟩)))); intro K hK; go_simp; (try go_bits); refine hK _ ?_; clear hK K))); refine wpK_nil ?_
        refine wpK_start [5, 6, 7, 8, 9, 10] ?_; (iterate 6 (first | (refine wpK_off rfl (by kernel_rfl) rfl (fun K hK => ?_); go_simp; refine hK _ ?_; clear hK K) | ((first | apply wpK_step rfl (by kernel_rfl) rfl | apply wpK_on rfl (by kernel_rfl) rfl); (focus (intro W' hS; have hcS := hS.cells.1; have hfS := hS.cells.2; go_simp; (first | done | exact rfl | exact ⟨rfl, Below.refl _ _⟩ | (go_simp; first | done | exact rfl | exact ⟨rfl, Below.refl _ _⟩)))); intro K hK; go_simp; (try go_bits); refine hK _ ?_; clear hK K))); refine wpK_nil ?_
        refine wpJ_two (i := 3) (j := 11) rfl rfl (by kernel_rfl) (by kernel_rfl) (by kernel_rfl) ?_ ?_
        · intro Wa hF hS
          go_simp
          refine WPost.mk _ (fun W' => ((OwnK W' w2.heap.size A c s1 ∧ OwnN W' w2.heap.size B d s2) ∧ IC Wa.heap.size kv W')) [] ⟨⟨World.ownsRow.alloc hF.1 _, World.ownsRow.alloc hF.2 _⟩, by unfold IC; simp⟩ (((OwnK.cl _ _ _ _).and (OwnN.cl _ _ _ _)).and (IC.cl _ _)) ⟨hS.1.alloc _, fun p hp => by cases hp⟩ ?_
          have hlWa := World.ownsRow.lt hF.1
          clear hS hF
          intro K hK; go_simp; refine hK _ ?_; clear hK K
          refine wpJ_two (i := 4) (j := 11) rfl rfl (by kernel_rfl) (by kernel_rfl) (by kernel_rfl) ?_ ?_
          · intro Wb hF hS
            refine givesW_append (.tmp 54) (.tmp 56) 29 rfl w2.heap.size 3 iK _ 1 8 Try.underlying29 ik0 ik1 ik2 ik3 rfl (by decide) (.slice A s1.length c) s1.length (s1.map (Value.int .i64)) rfl hF.1.1 ⟨Wa.heap.size, 0, none⟩ 1 1 [.int .i64 kv] rfl rfl (ic_cells hF.2) (by intro u hu; simp at hu; subst hu; rfl) (by simp [maxLen]; omega) (by omega) hS.1.1 ?_
            intro v7 w7 ho7 hg7 _; obtain ⟨A6, c6, rfl⟩ := own_slice ho7
            refine WPost.mk _ (fun W' => (OwnK W' w2.heap.size A6 c6 (s1 ++ [kv]) ∧ OwnN W' w2.heap.size B d s2)) [] ⟨ownk_snoc ho7, World.ownsRow.kept hF.1.2 hg7 (rows_apart hF.1.2 hF.1.1 (by decide))⟩ ((OwnK.cl _ _ _ _).and (OwnN.cl _ _ _ _)) ⟨Own.grown hS.1 hg7 (fun q hq => (World.ownsRow.lt hF.1.1 q hq).1), fun p hp => by cases hp⟩ ?_
            clear hS hF ho7 hg7
            intro K hK; go_simp; refine hK _ ?_; clear hK K
            refine wpK_start [13] ?_; (iterate 1 (first | (refine wpK_off rfl (by kernel_rfl) rfl (fun K hK => ?_); go_simp; refine hK _ ?_; clear hK K) | ((first | apply wpK_step rfl (by kernel_rfl) rfl | apply wpK_on rfl (by kernel_rfl) rfl); (focus (intro W' hS; have hcS := hS.cells.1; have hfS := hS.cells.2; go_simp; (first | done | exact rfl | exact ⟨rfl, Below.refl _ _⟩ | (go_simp; first | done | exact rfl | exact ⟨rfl, Below.refl _ _⟩)))); intro K hK; go_simp; (try go_bits); refine hK _ ?_; clear hK K))); refine wpK_nil ?_
            apply wpJ_wild (i := 11) rfl (by kernel_rfl) (by kernel_rfl)
            intro Wc hF hS
            go_simp
            refine WPost.mk _ (fun W' => ((OwnK W' w2.heap.size A6 c6 (s1 ++ [kv]) ∧ OwnN W' w2.heap.size B d s2) ∧ VC Wc.heap.size nv W')) [] ⟨⟨World.ownsRow.alloc hF.1 _, World.ownsRow.alloc hF.2 _⟩, by unfold VC; exact ⟨by simp, by simp⟩⟩ (((OwnK.cl _ _ _ _).and (OwnN.cl _ _ _ _)).and (VC.cl _ _)) ⟨hS.1.alloc _, fun p hp => by cases hp⟩ ?_
            have hlWc := World.ownsRow.lt hF.1
            clear hS hF
            intro K hK; go_simp; refine hK _ ?_; clear hK K
            apply wpJ_wild (i := 12) rfl (by kernel_rfl) (by kernel_rfl)
            intro Wd hF hS
            refine givesW_append (.tmp 59) (.tmp 64) 30 rfl w2.heap.size 23 iN _ 2 16 Try.underlying30 in0 in1 in2 in3 rfl (by decide) (.slice B s2.length d) s2.length (flatV s2) rfl hF.1.2 ⟨Wc.heap.size, 0, none⟩ 1 1 (cellsOfV nv) rfl rfl (vc_cells hF.2) (by intro u hu; simp [cellsOfV] at hu; rcases hu with rfl | rfl <;> rfl) (by simp [maxLen]; omega) (by omega) hS.1.1 ?_
            intro v7 w7 ho7 hg7 _; obtain ⟨B6, d6, rfl⟩ := own_slice ho7
            refine WPost.mk _ (fun W' => (OwnK W' w2.heap.size A6 c6 (s1 ++ [kv]) ∧ OwnN W' w2.heap.size B6 d6 (s2 ++ [nv]))) [] ⟨World.ownsRow.kept hF.1.1 hg7 (rows_apart hF.1.1 hF.1.2 (by decide)), ownn_snoc ho7⟩ ((OwnK.cl _ _ _ _).and (OwnN.cl _ _ _ _)) ⟨Own.grown hS.1 hg7 (fun q hq => (World.ownsRow.lt hF.1.2 q hq).1), fun p hp => by cases hp⟩ ?_
            clear hS hF ho7 hg7
            intro K hK; go_simp; refine hK _ ?_; clear hK K
            refine wpJ_done (by kernel_rfl) ?_
            intro w8 hF8 hSG
            have HB8 := Lib.hid (show Below w2.heap.size w5 w8 from hSG.1.2)
            have HK8 := Lib.hid (show OwnK w8 w2.heap.size A6 c6 (s1 ++ [kv]) from hF8.1)
            have HN8 := Lib.hid (show OwnN w8 w2.heap.size B6 d6 (s2 ++ [nv]) from hF8.2)
            have hz8 := hSG.1.2.size
            clear hF8 hSG
            (try simp only [List.filterMap_cons, List.filterMap_nil, List.getElem?_cons_succ, List.getElem?_cons_zero])
            have HXB8 := Lib.hid (HXB5.out.below HB8.out (by omega))
            have HZB8 := Lib.hid (HZB5.out.below HB8.out (by omega))
            clear lX zX X0 X1 X2 X3 X4 X5 X6 X7 X8 X9 X10 X11 X12 X13
            obtain ⟨lX, zX, X0, X1, X2, X3, X4, X5, X6, X7, X8, X9, X10, X11, X12, X13⟩ := HXB8.out
            obtain ⟨lZ, zZ, Z0, Z1, Z2, Z3, Z4, Z5, Z6, Z7, Z8, Z9, Z10, Z11, Z12, Z13⟩ := HZB8.out
            go_wp2_with fail
            go_roundw
            case rel =>
              refine ⟨k + 1, by omega, by go_num, Lib.hid ?_⟩
              unfold PLoop
              rw [HADD.out]
              refine ⟨?_, by simp <;> omega, A6, c6, B6, d6, ?_, ?_, ?_, ?_⟩
              · exact ((HB5.out.trans (HB8.out.mono (by omega))).setCell (by (try simp) <;> omega) _).setCell (by (try simp) <;> omega) _
              · simp only [List.length_append, List.length_cons, List.length_nil]
                exact ⟨by (try simp) <;> omega, by intro o; go_simp, by go_simp, by go_simp, by go_simp, by go_simp, by go_simp, by go_simp, by go_simp, by go_simp, by go_simp, by go_simp, by go_simp, by go_simp, by go_simp, by go_simp⟩
              · exact ⟨by (try simp) <;> omega, by intro o; go_simp, by go_simp, by go_simp, by go_simp, by go_simp, by go_simp, by go_simp, by go_simp, by go_simp, by go_simp, by go_simp, by go_simp, by go_simp, by go_simp, by go_simp⟩
              · have hk9 := HK8.out
                unfold OwnK at hk9 ⊢
                ((repeat (first | (with_reducible exact hk9) | (with_reducible refine own_setlow ?_ ?_ _))) <;> first | omega | (simp; done) | (simp <;> omega))
              · have hn9 := HN8.out
                unfold OwnN at hn9 ⊢
                ((repeat (first | (with_reducible exact hn9) | (with_reducible refine own_setlow ?_ ?_ _))) <;> first | omega | (simp; done) | (simp <;> omega))
            case measure => simp [intOf] <;> omega
          · intro Wb hF hS
            go_simp
            refine WPost.mk _ (fun W' => (((OwnK W' w2.heap.size A c s1 ∧ OwnN W' w2.heap.size B d s2) ∧ IC Wa.heap.size kv W') ∧ VC Wb.heap.size nv W')) [] ⟨⟨⟨World.ownsRow.alloc hF.1.1 _, World.ownsRow.alloc hF.1.2 _⟩, IC.cl _ _ _ _ hF.2 ((Below.refl _ _).alloc (Nat.le_refl _) _)⟩, by unfold VC; exact ⟨by simp, by simp⟩⟩ ((((OwnK.cl _ _ _ _).and (OwnN.cl _ _ _ _)).and (IC.cl _ _)).and (VC.cl _ _)) ⟨hS.1.alloc _, fun p hp => by cases hp⟩ ?_
            have hlWb := World.ownsRow.lt hF.1.1
            clear hS hF
            intro K hK; go_simp; refine hK _ ?_; clear hK K
            apply wpJ_wild (i := 4) rfl (by kernel_rfl) (by kernel_rfl)
            intro Wc hF hS
            refine givesW_append (.tmp 54) (.tmp 56) 29 rfl w2.heap.size 3 iK _ 1 8 Try.underlying29 ik0 ik1 ik2 ik3 rfl (by decide) (.slice A s1.length c) s1.length (s1.map (Value.int .i64)) rfl hF.1.1.1 ⟨Wa.heap.size, 0, none⟩ 1 1 [.int .i64 kv] rfl rfl (ic_cells hF.1.2) (by intro u hu; simp at hu; subst hu; rfl) (by simp [maxLen]; omega) (by omega) hS.1.1 ?_
            intro v7 w7 ho7 hg7 _; obtain ⟨A6, c6, rfl⟩ := own_slice ho7
            refine WPost.mk _ (fun W' => ((OwnK W' w2.heap.size A6 c6 (s1 ++ [kv]) ∧ OwnN W' w2.heap.size B d s2) ∧ VC Wb.heap.size nv W')) [] ⟨⟨ownk_snoc ho7, World.ownsRow.kept hF.1.1.2 hg7 (rows_apart hF.1.1.2 hF.1.1.1 (by decide))⟩, vc_grown hF.2 hg7 (fun q hq => (hlWb q hq).2)⟩ (((OwnK.cl _ _ _ _).and (OwnN.cl _ _ _ _)).and (VC.cl _ _)) ⟨Own.grown hS.1 hg7 (fun q hq => (World.ownsRow.lt hF.1.1.1 q hq).1), fun p hp => by cases hp⟩ ?_
            clear hS hF ho7 hg7
            intro K hK; go_simp; refine hK _ ?_; clear hK K
            refine wpK_start [13] ?_; (iterate 1 (first | (refine wpK_off rfl (by kernel_rfl) rfl (fun K hK => ?_); go_simp; refine hK _ ?_; clear hK K) | ((first | apply wpK_step rfl (by kernel_rfl) rfl | apply wpK_on rfl (by kernel_rfl) rfl); (focus (intro W' hS; have hcS := hS.cells.1; have hfS := hS.cells.2; go_simp; (first | done | exact rfl | exact ⟨rfl, Below.refl _ _⟩ | (go_simp; first | done | exact rfl | exact ⟨rfl, Below.refl _ _⟩)))); intro K hK; go_simp; (try go_bits); refine hK _ ?_; clear hK K))); refine wpK_nil ?_
            apply wpJ_wild (i := 12) rfl (by kernel_rfl) (by kernel_rfl)
            intro Wd hF hS
            refine givesW_append (.tmp 59) (.tmp 64) 30 rfl w2.heap.size 23 iN _ 2 16 Try.underlying30 in0 in1 in2 in3 rfl (by decide) (.slice B s2.length d) s2.length (flatV s2) rfl hF.1.2 ⟨Wb.heap.size, 0, none⟩ 1 1 (cellsOfV nv) rfl rfl (vc_cells hF.2) (by intro u hu; simp [cellsOfV] at hu; rcases hu with rfl | rfl <;> rfl) (by simp [maxLen]; omega) (by omega) hS.1.1 ?_
            intro v7 w7 ho7 hg7 _; obtain ⟨B6, d6, rfl⟩ := own_slice ho7
            refine WPost.mk _ (fun W' => (OwnK W' w2.heap.size A6 c6 (s1 ++ [kv]) ∧ OwnN W' w2.heap.size B6 d6 (s2 ++ [nv]))) [] ⟨World.ownsRow.kept hF.1.1 hg7 (rows_apart hF.1.1 hF.1.2 (by decide)), ownn_snoc ho7⟩ ((OwnK.cl _ _ _ _).and (OwnN.cl _ _ _ _)) ⟨Own.grown hS.1 hg7 (fun q hq => (World.ownsRow.lt hF.1.2 q hq).1), fun p hp => by cases hp⟩ ?_
            clear hS hF ho7 hg7
            intro K hK; go_simp; refine hK _ ?_; clear hK K
            refine wpJ_done (by kernel_rfl) ?_
            intro w8 hF8 hSG
            have HB8 := Lib.hid (show Below w2.heap.size w5 w8 from hSG.1.2)
            have HK8 := Lib.hid (show OwnK w8 w2.heap.size A6 c6 (s1 ++ [kv]) from hF8.1)
            have HN8 := Lib.hid (show OwnN w8 w2.heap.size B6 d6 (s2 ++ [nv]) from hF8.2)
            have hz8 := hSG.1.2.size
            clear hF8 hSG
            (try simp only [List.filterMap_cons, List.filterMap_nil, List.getElem?_cons_succ, List.getElem?_cons_zero])
            have HXB8 := Lib.hid (HXB5.out.below HB8.out (by omega))
            have HZB8 := Lib.hid (HZB5.out.below HB8.out (by omega))
            clear lX zX X0 X1 X2 X3 X4 X5 X6 X7 X8 X9 X10 X11 X12 X13
            obtain ⟨lX, zX, X0, X1, X2, X3, X4, X5, X6, X7, X8, X9, X10, X11, X12, X13⟩ := HXB8.out
            obtain ⟨lZ, zZ, Z0, Z1, Z2, Z3, Z4, Z5, Z6, Z7, Z8, Z9, Z10, Z11, Z12, Z13⟩ := HZB8.out
            go_wp2_with fail
            go_roundw
            case rel =>
              refine ⟨k + 1, by omega, by go_num, Lib.hid ?_⟩
              unfold PLoop
              rw [HADD.out]
              refine ⟨?_, by simp <;> omega, A6, c6, B6, d6, ?_, ?_, ?_, ?_⟩
              · exact ((HB5.out.trans (HB8.out.mono (by omega))).setCell (by (try simp) <;> omega) _).setCell (by (try simp) <;> omega) _
              · simp only [List.length_append, List.length_cons, List.length_nil]
                exact ⟨by (try simp) <;> omega, by intro o; go_simp, by go_simp, by go_simp, by go_simp, by go_simp, by go_simp, by go_simp, by go_simp, by go_simp, by go_simp, by go_simp, by go_simp, by go_simp, by go_simp, by go_simp⟩
              · exact ⟨by (try simp) <;> omega, by intro o; go_simp, by go_simp, by go_simp, by go_simp, by go_simp, by go_simp, by go_simp, by go_simp, by go_simp, by go_simp, by go_simp, by go_simp, by go_simp, by go_simp, by go_simp⟩
              · have hk9 := HK8.out
                unfold OwnK at hk9 ⊢
                ((repeat (first | (with_reducible exact hk9) | (with_reducible refine own_setlow ?_ ?_ _))) <;> first | omega | (simp; done) | (simp <;> omega))
              · have hn9 := HN8.out
                unfold OwnN at hn9 ⊢
                ((repeat (first | (with_reducible exact hn9) | (with_reducible refine own_setlow ?_ ?_ _))) <;> first | omega | (simp; done) | (simp <;> omega))
            case measure => simp [intOf] <;> omega
        · intro Wa hF hS
          go_simp
          refine WPost.mk _ (fun W' => ((OwnK W' w2.heap.size A c s1 ∧ OwnN W' w2.heap.size B d s2) ∧ VC Wa.heap.size nv W')) [] ⟨⟨World.ownsRow.alloc hF.1 _, World.ownsRow.alloc hF.2 _⟩, by unfold VC; exact ⟨by simp, by simp⟩⟩ (((OwnK.cl _ _ _ _).and (OwnN.cl _ _ _ _)).and (VC.cl _ _)) ⟨hS.1.alloc _, fun p hp => by cases hp⟩ ?_
          have hlWa := World.ownsRow.lt hF.1
          clear hS hF
          intro K hK; go_simp; refine hK _ ?_; clear hK K
          apply wpJ_wild (i := 3) rfl (by kernel_rfl) (by kernel_rfl)
          intro Wb hF hS
          go_simp
          refine WPost.mk _ (fun W' => (((OwnK W' w2.heap.size A c s1 ∧ OwnN W' w2.heap.size B d s2) ∧ IC Wb.heap.size kv W') ∧ VC Wa.heap.size nv W')) [] ⟨⟨⟨World.ownsRow.alloc hF.1.1 _, World.ownsRow.alloc hF.1.2 _⟩, by unfold IC; simp⟩, VC.cl _ _ _ _ hF.2 ((Below.refl _ _).alloc (Nat.le_refl _) _)⟩ ((((OwnK.cl _ _ _ _).and (OwnN.cl _ _ _ _)).and (IC.cl _ _)).and (VC.cl _ _)) ⟨hS.1.alloc _, fun p hp => by cases hp⟩ ?_
          have hlWb := World.ownsRow.lt hF.1.1
          clear hS hF
          intro K hK; go_simp; refine hK _ ?_; clear hK K
          apply wpJ_wild (i := 4) rfl (by kernel_rfl) (by kernel_rfl)
          intro Wc hF hS
          refine givesW_append (.tmp 54) (.tmp 56) 29 rfl w2.heap.size 3 iK _ 1 8 Try.underlying29 ik0 ik1 ik2 ik3 rfl (by decide) (.slice A s1.length c) s1.length (s1.map (Value.int .i64)) rfl hF.1.1.1 ⟨Wb.heap.size, 0, none⟩ 1 1 [.int .i64 kv] rfl rfl (ic_cells hF.1.2) (by intro u hu; simp at hu; subst hu; rfl) (by simp [maxLen]; omega) (by omega) hS.1.1 ?_
          intro v7 w7 ho7 hg7 _; obtain ⟨A6, c6, rfl⟩ := own_slice ho7
          refine WPost.mk _ (fun W' => ((OwnK W' w2.heap.size A6 c6 (s1 ++ [kv]) ∧ OwnN W' w2.heap.size B d s2) ∧ VC Wa.heap.size nv W')) [] ⟨⟨ownk_snoc ho7, World.ownsRow.kept hF.1.1.2 hg7 (rows_apart hF.1.1.2 hF.1.1.1 (by decide))⟩, vc_grown hF.2 hg7 (fun q hq => (hlWa q hq).2)⟩ (((OwnK.cl _ _ _ _).and (OwnN.cl _ _ _ _)).and (VC.cl _ _)) ⟨Own.grown hS.1 hg7 (fun q hq => (World.ownsRow.lt hF.1.1.1 q hq).1), fun p hp => by cases hp⟩ ?_
          clear hS hF ho7 hg7
          intro K hK; go_simp; refine hK _ ?_; clear hK K
          refine wpK_start [13] ?_; (iterate 1 (first | (refine wpK_off rfl (by kernel_rfl) rfl (fun K hK => ?_); go_simp; refine hK _ ?_; clear hK K) | ((first | apply wpK_step rfl (by kernel_rfl) rfl | apply wpK_on rfl (by kernel_rfl) rfl); (focus (intro W' hS; have hcS := hS.cells.1; have hfS := hS.cells.2; go_simp; (first | done | exact rfl | exact ⟨rfl, Below.refl _ _⟩ | (go_simp; first | done | exact rfl | exact ⟨rfl, Below.refl _ _⟩)))); intro K hK; go_simp; (try go_bits); refine hK _ ?_; clear hK K))); refine wpK_nil ?_
          apply wpJ_wild (i := 12) rfl (by kernel_rfl) (by kernel_rfl)
          intro Wd hF hS
          refine givesW_append (.tmp 59) (.tmp 64) 30 rfl w2.heap.size 23 iN _ 2 16 Try.underlying30 in0 in1 in2 in3 rfl (by decide) (.slice B s2.length d) s2.length (flatV s2) rfl hF.1.2 ⟨Wa.heap.size, 0, none⟩ 1 1 (cellsOfV nv) rfl rfl (vc_cells hF.2) (by intro u hu; simp [cellsOfV] at hu; rcases hu with rfl | rfl <;> rfl) (by simp [maxLen]; omega) (by omega) hS.1.1 ?_
          intro v7 w7 ho7 hg7 _; obtain ⟨B6, d6, rfl⟩ := own_slice ho7
          refine WPost.mk _ (fun W' => (OwnK W' w2.heap.size A6 c6 (s1 ++ [kv]) ∧ OwnN W' w2.heap.size B6 d6 (s2 ++ [nv]))) [] ⟨World.ownsRow.kept hF.1.1 hg7 (rows_apart hF.1.1 hF.1.2 (by decide)), ownn_snoc ho7⟩ ((OwnK.cl _ _ _ _).and (OwnN.cl _ _ _ _)) ⟨Own.grown hS.1 hg7 (fun q hq => (World.ownsRow.lt hF.1.2 q hq).1), fun p hp => by cases hp⟩ ?_
          clear hS hF ho7 hg7
          intro K hK; go_simp; refine hK _ ?_; clear hK K
          refine wpJ_done (by kernel_rfl) ?_
          intro w8 hF8 hSG
          have HB8 := Lib.hid (show Below w2.heap.size w5 w8 from hSG.1.2)
          have HK8 := Lib.hid (show OwnK w8 w2.heap.size A6 c6 (s1 ++ [kv]) from hF8.1)
          have HN8 := Lib.hid (show OwnN w8 w2.heap.size B6 d6 (s2 ++ [nv]) from hF8.2)
          have hz8 := hSG.1.2.size
          clear hF8 hSG
          (try simp only [List.filterMap_cons, List.filterMap_nil, List.getElem?_cons_succ, List.getElem?_cons_zero])
          have HXB8 := Lib.hid (HXB5.out.below HB8.out (by omega))
          have HZB8 := Lib.hid (HZB5.out.below HB8.out (by omega))
          clear lX zX X0 X1 X2 X3 X4 X5 X6 X7 X8 X9 X10 X11 X12 X13
          obtain ⟨lX, zX, X0, X1, X2, X3, X4, X5, X6, X7, X8, X9, X10, X11, X12, X13⟩ := HXB8.out
          obtain ⟨lZ, zZ, Z0, Z1, Z2, Z3, Z4, Z5, Z6, Z7, Z8, Z9, Z10, Z11, Z12, Z13⟩ := HZB8.out
          go_wp2_with fail
          go_roundw
          case rel =>
            refine ⟨k + 1, by omega, by go_num, Lib.hid ?_⟩
            unfold PLoop
            rw [HADD.out]
            refine ⟨?_, by simp <;> omega, A6, c6, B6, d6, ?_, ?_, ?_, ?_⟩
            · exact ((HB5.out.trans (HB8.out.mono (by omega))).setCell (by (try simp) <;> omega) _).setCell (by (try simp) <;> omega) _
            · simp only [List.length_append, List.length_cons, List.length_nil]
              exact ⟨by (try simp) <;> omega, by intro o; go_simp, by go_simp, by go_simp, by go_simp, by go_simp, by go_simp, by go_simp, by go_simp, by go_simp, by go_simp, by go_simp, by go_simp, by go_simp, by go_simp, by go_simp⟩
            · exact ⟨by (try simp) <;> omega, by intro o; go_simp, by go_simp, by go_simp, by go_simp, by go_simp, by go_simp, by go_simp, by go_simp, by go_simp, by go_simp, by go_simp, by go_simp, by go_simp, by go_simp, by go_simp⟩
            · have hk9 := HK8.out
              unfold OwnK at hk9 ⊢
              ((repeat (first | (with_reducible exact hk9) | (with_reducible refine own_setlow ?_ ?_ _))) <;> first | omega | (simp; done) | (simp <;> omega))
            · have hn9 := HN8.out
              unfold OwnN at hn9 ⊢
              ((repeat (first | (with_reducible exact hn9) | (with_reducible refine own_setlow ?_ ?_ _))) <;> first | omega | (simp; done) | (simp <;> omega))
          case measure => simp [intOf] <;> omega
      · have HADE := Lib.hid (show addR P ((keys.zip norms).take (k + 1)) = (s1, s2) by have := HADD.out; simpa using this)
        obtain ⟨lX, zX, X0, X1, X2, X3, X4, X5, X6, X7, X8, X9, X10, X11, X12, X13⟩ := HXB5.out
        go_wp2_with fail
        go_roundw
        case rel =>
          refine ⟨k + 1, by omega, by go_num, Lib.hid ?_⟩
          unfold PLoop
          rw [HADE.out]
          exact ⟨HB5.out, by omega, A, c, B, d, HXB5.out, HZB5.out, HOK5.out, HON5.out⟩
        case measure => simp [intOf] <;> omega
    · obtain rfl : k = n := by omega
      have hpl := HPL.out
      unfold PLoop at hpl
      have htk : (keys.zip norms).take k = keys.zip norms := by rw [List.take_of_length_le]; rw [List.length_zip]; have := HNK.out; omega
      rw [htk] at hpl hlen
      obtain ⟨⟨s1, s2⟩, hs⟩ : ∃ s, s = addR P (keys.zip norms) := ⟨_, rfl⟩
      rw [← hs] at hpl hlen
      have hr := HR.out
      rw [← hs] at hr
      have HRR := Lib.hid hr
      have HS := Lib.hid hs.symm
      obtain ⟨hbr, hbs, A, c, B, d, hxb, hzb, hok, hon⟩ := hpl
      simp only at hxb hok hon hlen
      have HBR := Lib.hid hbr
      have HXB := Lib.hid hxb
      have HZB := Lib.hid hzb
      have HOK := Lib.hid hok
      have HON := Lib.hid hon
      have lw : w.heap.size + 1 + 1 ≤ wr.heap.size := by omega
      clear hbr hok hon hs HPL hxb hzb hr htk HR
      have hall := addR_all (keys := keys) HFIT.out.1 HFIT.out.2
      obtain ⟨fp, fv, fh, ff, fb⟩ := fit_parts HFIT.out.1
      have HPK := Lib.hid (show P.ks.length = ks.length by rw [HPE.out])
      obtain ⟨lX, zX, X0, X1, X2, X3, X4, X5, X6, X7, X8, X9, X10, X11, X12, X13⟩ := HXB.out
      obtain ⟨lZ, zZ, Z0, Z1, Z2, Z3, Z4, Z5, Z6, Z7, Z8, Z9, Z10, Z11, Z12, Z13⟩ := HZB.out
      simp only [zeroPl] at Z0 Z1 Z2 Z3 Z4 Z5 Z6 Z7 Z8 Z9 Z12 Z13
      by_cases hgrow : ks.length < s1.length
      · have hg1 : (ks.length : Int) < (s1.length : Int) := by omega
        exact absurd (HCS.out.symm.trans (show caseR P keys norms = 0 by unfold caseR; rw [HS.out, if_pos (by rw [HPK.out]; exact hgrow)])) (by decide)
      · have hg1 : (s1.length : Int) ≤ (ks.length : Int) := by omega
        have hr2 := HRR.out
        rw [if_neg (by rw [HPK.out]; exact hgrow)] at hr2
        clear HRR
        by_cases hcase : k = 1 ∧ P.t = false
        · obtain ⟨rfl, hptf⟩ := hcase
          rw [if_pos ⟨by have := HNK.out; omega, hptf⟩] at hr2
          obtain ⟨n0, hn0⟩ : ∃ x, norms = [x] := by
            have h1 := HL.out
            have h2 := HNK.out
            match norms, h1 with
            | [], h1 => simp only [List.length_nil] at h1; omega
            | [x], _ => exact ⟨x, rfl⟩
            | x :: y :: l, h1 => simp only [List.length_cons] at h1; omega
          have hhd : norms.headD (0, 0) = n0 := by rw [hn0]; rfl
          rw [hhd] at hr2
          obtain ⟨g', o', rfl, hg', a1, a2⟩ := (HNA.out.below HBR.out (Nat.le_refl _)) 0 n0 (by rw [hn0]; rfl)
          have b1 : wr.cell? ⟨g', o', none⟩ = some (.int .i64 n0.1) := by simpa using a1
          have b2 : wr.cell? ⟨g', o' + 1, none⟩ = some (.int .i64 n0.2) := by simpa using a2
          rw [hptf] at X12
          have htu := fun W => turn_any P.v1 P.v2 n0.1 n0.2 W
          obtain ⟨⟨T1, T2, TB⟩, hT⟩ : ∃ y, y = turnR P.v1 P.v2 n0.1 n0.2 := ⟨_, rfl⟩
          rw [← hT] at htu hr2
          simp only at htu hr2
          have HTU := Lib.hid htu
          have hQ : turnP (withR P (s1, s2)) n0 = (⟨P.p1, P.p2, T1, T2, P.h1, P.h2, P.f1, P.f2, P.b1, P.b2, s1, s2, true, P.d⟩ : Pl) := by simp only [turnP, withR, ← hT]
          have HBO := Lib.hid (show BudOk (⟨P.p1, P.p2, T1, T2, P.h1, P.h2, P.f1, P.f2, P.b1, P.b2, s1, s2, true, P.d⟩ : Pl) from hQ ▸ turn_bud (P := P) (s := (s1, s2)) (n := n0) HFIT.out.1)
          rw [hQ] at hr2
          have HT := Lib.hid hT
          clear htu hT a1 a2 hall hQ
          cases TB
          · exact absurd (HCS.out.symm.trans (show caseR P keys norms = 2 by unfold caseR; rw [HS.out, if_neg (by rw [HPK.out]; exact hgrow), if_pos ⟨by have := HNK.out; omega, hptf⟩, hhd, ← HT.out]; rfl)) (by decide)
          · exact absurd (HCS.out.symm.trans (show caseR P keys norms = 1 by unfold caseR; rw [HS.out, if_neg (by rw [HPK.out]; exact hgrow), if_pos ⟨by have := HNK.out; omega, hptf⟩, hhd, ← HT.out]; rfl)) (by decide)
        · have HRR := Lib.hid (show R = holdR (⟨P.p1, P.p2, P.v1, P.v2, P.h1, P.h2, P.f1, P.f2, P.b1, P.b2, s1, s2, P.t, P.d⟩ : Pl) by rw [if_neg (by have := HNK.out; intro h; exact hcase ⟨by omega, h.2⟩)] at hr2; exact hr2)
          clear hr2 hall
          by_cases hk1 : k = 1
          · subst hk1
            have hptt : P.t = true := by cases h : P.t; exact absurd ⟨rfl, h⟩ hcase; rfl
            have HRR3 := Lib.hid (show R = holdR (⟨P.p1, P.p2, P.v1, P.v2, P.h1, P.h2, P.f1, P.f2, P.b1, P.b2, s1, s2, true, P.d⟩ : Pl) by have h := HRR.out; rw [hptt] at h; exact h)
            rw [hptt] at X12
            clear HRR
            have HRR := HRR3
            clear HRR3 hptt
            go_wp2_with fail
            -- own blocks: w.heap.size:14, w.heap.size + 1:14
            have hho := fun W (h1 : IAt W A s1) (h2 : VAt W B s2) => hold_any (⟨P.p1, P.p2, P.v1, P.v2, P.h1, P.h2, P.f1, P.f2, P.b1, P.b2, s1, s2, true, P.d⟩ : Pl) _ W ⟨A, c, B, d, rfl, h1, h2⟩ (by simp only; omega) (by simp only; omega)
            obtain ⟨H, hH⟩ : ∃ H, H = holdR (⟨P.p1, P.p2, P.v1, P.v2, P.h1, P.h2, P.f1, P.f2, P.b1, P.b2, s1, s2, true, P.d⟩ : Pl) := ⟨_, rfl⟩
            rw [← hH] at hho
            have HH := Lib.hid hH
            simp only [plV] at hho
            have HHO := Lib.hid hho
            clear hho hH
            (go_at_call 62; refine (HHO.out _ (OwnK.iat (base := w2.heap.size) (c := c) (by have hk9 := HOK.out; ((repeat (first | (with_reducible exact hk9) | (with_reducible refine OwnK.low ?_ ?_ _) | (with_reducible refine OwnK.alloc ?_ _))) <;> first | omega | (simp; done) | (simp <;> omega)))) (OwnN.vat (base := w2.heap.size) (c := d) (by have hn9 := HON.out; ((repeat (first | (with_reducible exact hn9) | (with_reducible refine OwnN.low ?_ ?_ _) | (with_reducible refine OwnN.alloc ?_ _))) <;> first | omega | (simp; done) | (simp <;> omega))))).mono ?_; rintro e w8 ⟨hb_w8, A9, c9, B9, d9, rfl, hA9, hB9⟩; have hz_w8 := hb_w8.size; (try simp at hz_w8); (with_reducible apply cel14 (b := w.heap.size) hb_w8); (focus ((try simp) <;> omega)); (focus omega); (focus (go_simp; try exact rfl)); (focus (go_simp; try exact rfl)); (focus (go_simp; try exact rfl)); (focus (go_simp; try exact rfl)); (focus (go_simp; try exact rfl)); (focus (go_simp; try exact rfl)); (focus (go_simp; try exact rfl)); (focus (go_simp; try exact rfl)); (focus (go_simp; try exact rfl)); (focus (go_simp; try exact rfl)); (focus (go_simp; try exact rfl)); (focus (go_simp; try exact rfl)); (focus (go_simp; try exact rfl)); (focus (go_simp; try exact rfl)); (focus (intro o; go_simp)); intro cc cc cc cc cc cc cc cc cc cc cc cc cc cc fz hl; (with_reducible apply cel14 (b := w.heap.size + 1) hb_w8); (focus ((try simp) <;> omega)); (focus omega); (focus (go_simp; try exact rfl)); (focus (go_simp; try exact rfl)); (focus (go_simp; try exact rfl)); (focus (go_simp; try exact rfl)); (focus (go_simp; try exact rfl)); (focus (go_simp; try exact rfl)); (focus (go_simp; try exact rfl)); (focus (go_simp; try exact rfl)); (focus (go_simp; try exact rfl)); (focus (go_simp; try exact rfl)); (focus (go_simp; try exact rfl)); (focus (go_simp; try exact rfl)); (focus (go_simp; try exact rfl)); (focus (go_simp; try exact rfl)); (focus (intro o; go_simp)); intro cc cc cc cc cc cc cc cc cc cc cc cc cc cc fz hl)
            have HA9 := Lib.hid hA9
            have HB9 := Lib.hid hB9
            clear hA9 hB9
            simp only [plV]
            go_wp2_with fail
            refine bodyPost_ret (v := .agg #[.int .i64 H.p1, .int .i64 H.p2, .int .i64 H.v1, .int .i64 H.v2, .int .i64 H.h1, .int .i64 H.h2, .int .i64 H.f1, .int .i64 H.f2, .int .i64 H.b1, .int .i64 H.b2, .slice A9 H.ks.length c9, .slice B9 H.ns.length d9, .bool H.t, .bool H.d]) (by simp only [results, Try.results14]; go_simp) rfl ⟨?_, ?_⟩
            · exact HBR.out.trans (show Below w.heap.size wr _ by ((with_reducible (repeat (first | exact bR _ _ | refine bS ?_ ?_ _ | refine bA ?_ ?_ _ | refine bD ?_ | refine bT ?_ (by assumption) ?_ | refine bO (by assumption) ?_ ?_))) <;> (first | omega | (simp; done) | (simp <;> omega))))
            · have er := HRR.out
              rw [← HH.out] at er
              rw [er]
              exact ⟨A9, c9, B9, d9, rfl, OwnK.weaker (base := wr.heap.size) (c := c9) (l := H.ks) (by have hk9 := HA9.out; ((repeat (first | (with_reducible exact hk9) | (with_reducible refine OwnK.low ?_ ?_ _) | (with_reducible refine OwnK.alloc ?_ _))) <;> first | omega | (simp; done) | (simp <;> omega))) (by omega), OwnN.weaker (base := wr.heap.size) (c := d9) (l := H.ns) (by have hn9 := HB9.out; ((repeat (first | (with_reducible exact hn9) | (with_reducible refine OwnN.low ?_ ?_ _) | (with_reducible refine OwnN.alloc ?_ _))) <;> first | omega | (simp; done) | (simp <;> omega))) (by omega)⟩
          · exact absurd (HCS.out.symm.trans (show caseR P keys norms = 4 by unfold caseR; rw [HS.out, if_neg (by rw [HPK.out]; exact hgrow), if_neg (by have := HNK.out; intro h; exact hcase ⟨by omega, h.2⟩), if_neg (by have := HNK.out; intro h; exact hk1 (by omega))])) (by decide)
end Go.Proofs.Ytklkhnhieihfoaa
