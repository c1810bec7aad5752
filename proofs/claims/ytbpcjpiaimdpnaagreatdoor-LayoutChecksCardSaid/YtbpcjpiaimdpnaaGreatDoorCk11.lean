/- Merged texts: Lpws Lpars Lpps Lpfs. -/
import Derived.Test.YtbpcjpiaimdpnaaGreatDoorCk4
import Derived.Deep.Cut
set_option linter.unusedSimpArgs false
set_option linter.unusedVariables false
namespace Go.Proofs.YtbpcjpiaimdpnaaGreatDoor
open Go Go.RowKit
set_option linter.unusedVariables false
attribute [local go_sem ↓] evalL getL64 setL64
attribute [local go_sem ↓] getL8 setL8
attribute [local go_sem ↓] getL1 getL0
attribute [local go_sem] opt_true opt_false
theorem atWl_ {W : World} {b : Nat} {x : Wl} (h : BoxAt W b x.cells) : W.cell? ⟨b, 0, none⟩ = some (.string x.nm) ∧ W.cell? ⟨b, 1, none⟩ = some (.int .i64 x.kd) ∧ W.cell? ⟨b, 2, none⟩ = some (.int .i64 x.lv) ∧ W.cell? ⟨b, 3, none⟩ = some (.int .i64 x.a1) ∧ W.cell? ⟨b, 4, none⟩ = some (.int .i64 x.a2) ∧ W.cell? ⟨b, 5, none⟩ = some (.int .i64 x.b1) ∧ W.cell? ⟨b, 6, none⟩ = some (.int .i64 x.b2) ∧ W.cell? ⟨b, 7, none⟩ = some (.int .i64 x.rs) ∧ W.cell? ⟨b, 8, none⟩ = some (.int .i64 x.gr) ∧ W.cell? ⟨b, 9, none⟩ = some (.int .i64 x.kk) ∧ W.cell? ⟨b, 10, none⟩ = some (.int .i64 x.mn) ∧ W.cell? ⟨b, 11, none⟩ = some (.int .i64 x.cl) ∧ W.cell? ⟨b, 12, none⟩ = some (.int .i64 x.sw) := ⟨h.c 0 _ rfl, h.c 1 _ rfl, h.c 2 _ rfl, h.c 3 _ rfl, h.c 4 _ rfl, h.c 5 _ rfl, h.c 6 _ rfl, h.c 7 _ rfl, h.c 8 _ rfl, h.c 9 _ rfl, h.c 10 _ rfl, h.c 11 _ rfl, h.c 12 _ rfl⟩
set_option maxRecDepth 100000 in
set_option maxHeartbeats 40000000 in
theorem lp_ws (w wr : World) (A : Option Addr) (c cb mb n0 N : Nat) (e0 : Int) (L0 : List ByteArray) (l : List Wl) (TC : List Value) (df : List Deferred) (F : List Value) (hF : F.length = 623) (f3 : F[3]? = some (.pointer (some ⟨cb, 0, none⟩))) (f128 : F[128]? = some (.slice A l.length c)) (f129 : F[129]? = some (.int .i64 (l.length : Int))) (f130 : F[130]? = some (.int .i64 0))
  (hA : RowsAt 13 Wl.cells w A l) (hl : l.length ≤ 64) (hnm : ∀ x ∈ l, x.nm.size ≤ maxLen) (hb : Below w.heap.size w wr) (hT : BoxAt wr w.heap.size TC) (hC : CkAt wr cb mb n0 e0 L0) (hn : n0 + l.length ≤ N) (hN : N ≤ 1000) (hcb : w.heap.size < cb) (hmb : w.heap.size < mb) (R : Act → World → Prop)
  (hR : ∀ (F' : List Value) (w' : World) (n : Nat), F'.length = 623 → F'[1]? = F[1]? → F'[2]? = F[2]? → F'[3]? = F[3]? → Below w.heap.size w w' → BoxAt w' w.heap.size TC → n ≤ n0 + l.length → CkAt w' cb mb n (l.foldl Wl.look (e0, L0)).1 (l.foldl Wl.look (e0, L0)).2 → R ⟨F'.toArray, df⟩ w') :
  (blkOf 1 Tryz.f11).wp Tryz.prog (AtEnd R) ⟨F.toArray, df⟩ wr := by
 obtain ⟨s, rfl⟩ := fr623_ex F hF
 have e3 : s 3 = .pointer (some ⟨cb, 0, none⟩) := Option.some.inj f3
 have e128 : s 128 = .slice A l.length c := Option.some.inj f128
 have e129 : s 129 = .int .i64 (l.length : Int) := Option.some.inj f129
 have e130 : s 130 = .int .i64 0 := Option.some.inj f130
 unfold fr623
 rw [e3, e128, e129, e130]
 have HF3 := hQ0 f3
 clear hF e3 f3 e128 f128 e129 f129 e130 f130
 have HA := hQ0 hA
 have HR := hQ0 hR
 have HN := hQ0 hnm
 have HN2 := hQ0 hN
 have HN3 := hQ0 hn
 clear hA hnm hN hn hR
 conv in (blkOf _ _) => whnf
 go_wp2_with fail
 go_loopg [130] (l.length + 1) (fun gk tt wr => ∃ (k n : Nat) (e : Int) (L : List ByteArray), k ≤ l.length ∧ l.length - k < gk ∧ tt = .int .i64 k ∧ n ≤ n0 + k ∧ Below w.heap.size w wr ∧ BoxAt wr w.heap.size TC ∧ CkAt wr cb mb n e L ∧ Hid ((e, L) = ((l.take k).foldl Wl.look (e0, L0))))
 case atStart => exact ⟨0, n0, e0, L0, by omega, by omega, rfl, by omega, hb, hT, hC, hQ0 rfl⟩
 case round =>
  obtain ⟨ws_, rfl⟩ : ∃ z, z = wr := ⟨_, rfl⟩
  clear hb hT hC
  obtain ⟨k, n, e, L, hk, hkk, rfl, hnk, hb_ws, hTr, hCr, HJ⟩ := hrel
  have hz_ws := hb_ws.size
  by_cases hlt : k < l.length
  · obtain ⟨x, hx⟩ : ∃ x, l[k]? = some x := ⟨l[k], by simp⟩
    obtain ⟨g, o, rfl, hg, c0, c1, c2, c3, c4, c5, c6, c7, c8, c9, c10, c11, c12⟩ := Wl.get (HA.out.below hb_ws (Nat.le_refl _)) hx
    have i1 : (k : Int) < (l.length : Int) := by omega
    have HX := hQ0 hx
    have HBe := hQ0 hb_ws
    have HTr := hQ0 hTr
    have HCr := hQ0 hCr
    clear hx hb_ws hTr hCr
    go_upto_region 17 with (fail)
    (refine pin_eqT (fun w3 hE_w3 => ?_))
    obtain ⟨gb, hgb⟩ : ∃ z, z = ws_.heap.size := ⟨_, rfl⟩
    rw [← hgb]
    have hX3 : BoxAt w3 gb x.cells := by rw [hE_w3, hgb]; exact BoxAt.new _ _ _
    have hT3 : BoxAt w3 w.heap.size TC := by rw [hE_w3]; exact HTr.out.alloc _
    have hC3 : CkAt w3 cb mb n e L := by rw [hE_w3]; exact HCr.out.below ((Below.refl _ _).alloc (Nat.le_refl _) _) (Nat.le_refl _)
    have hB3 : Below w.heap.size w w3 := by rw [hE_w3]; exact HBe.out.alloc hz_ws _
    have HGB := hQ0 hgb
    clear hgb hE_w3 c0 c1 c2 c3 c4 c5 c6 c7 c8 c9 c10 c11 c12
    have hg3 := hX3.lt
    have HT3 := hQ0 hT3
    have HC3 := hQ0 hC3
    have HB3 := hQ0 hB3
    clear hT3 hC3 hB3 hg
    obtain ⟨p1, hp1⟩ : ∃ b, b = (in1 0 3 x.lv) := ⟨_, rfl⟩
    obtain ⟨p2, hp2⟩ : ∃ b, b = (in1 1 4 x.kd) := ⟨_, rfl⟩
    obtain ⟨p3, hp3⟩ : ∃ b, b = (nearV 1048576 ⟨x.a1, x.a2⟩ && nearV 1048576 ⟨x.b1, x.b2⟩) := ⟨_, rfl⟩
    obtain ⟨p4, hp4⟩ : ∃ b, b = (in1 0 15 x.rs && in1 0 15 x.gr) := ⟨_, rfl⟩
    obtain ⟨p5, hp5⟩ : ∃ b, b = (in1 0 16384 x.kk && in1 0 16384 x.mn) := ⟨_, rfl⟩
    obtain ⟨p6, hp6⟩ : ∃ b, b = (in1 (-1) 31 x.cl && in1 (-1) 63 x.sw) := ⟨_, rfl⟩
    obtain ⟨b0, hb0⟩ : ∃ b, b = (x.sB) := ⟨_, rfl⟩
    have HF : Hid ((((((p1 && p2) && p3) && p4) && p5) && p6) = x.fB) := hQ0 (by rw [hp1, hp2, hp3, hp4, hp5, hp6]; rfl)
    have HG : Hid (b0 = x.sB) := hQ0 (by rw [hb0] <;> rfl)
    have Hp1 := hQ0 hp1
    have Hp2 := hQ0 hp2
    have Hp3 := hQ0 hp3
    have Hp4 := hQ0 hp4
    have Hp5 := hQ0 hp5
    have Hp6 := hQ0 hp6
    have Hb0 := hQ0 hb0
    clear hp1 hp2 hp3 hp4 hp5 hp6 hb0
    have hS_ : (Below w3.heap.size w3) w3.drew := (Below.refl _ _).drew
    refine wp_region_Y (Below w3.heap.size w3) 48 [48] (by kernel_rfl) (by kernel_rfl) (tailBJ_of (nx := [48, 2, 48, 4, 5, 6, 7, 8, 9, 10, 11, 12, 13, 14, 15, 18, 17, 18, 19, 20, 21, 22, 23, 26, 25, 26, 27, 28, 29, 30, 33, 32, 33, 34, 35, 36, 37, 38, 41, 40, 41, 42, 48, 44, 47, 46, 47, 48, 0]) (by kernel_rfl)) (by kernel_rfl) (fun _ _ _ _ _ h => h) hS_ ?_
    generalize w3.drew = wd_ at hS_  ⊢
    iterate 5 (first
     | (apply wpY_skip 43 48 rfl rfl (by kernel_rfl); (focus (apply wantF rfl rfl rfl; go_simp; done)); intro K hK; go_simp; apply hK; clear hK K)
     | (apply wpY_seqg 43 48 rfl rfl (by kernel_rfl) true; (focus (first | exact wantN rfl | (apply wantT rfl rfl rfl; go_simp; done))); (case h => intro _ W_ hW_; obtain ⟨y0_, y1_, y2_, y3_, y4_, y5_, y6_, y7_, y8_, y9_, y10_, y11_, y12_⟩ := atWl_ (hX3.below hW_ hg3); go_simp; try exact rfl); intro K hK; go_simp; apply hK; clear hK K))
    iterate 5 (first
     | (apply wpY_skip 38 86 rfl rfl (by kernel_rfl); (focus (apply wantF rfl rfl rfl; go_simp; done)); intro K hK; go_simp; apply hK; clear hK K)
     | (refine wpY_seqv 38 86 rfl rfl (by kernel_rfl) true ?_ (.bool b0) ?_ ?_; (focus (first | exact wantN rfl | (apply wantT rfl rfl rfl; go_simp; done))); (focus (intro _ W_ hW_; obtain ⟨y0_, y1_, y2_, y3_, y4_, y5_, y6_, y7_, y8_, y9_, y10_, y11_, y12_⟩ := atWl_ (hX3.below hW_ hg3); go_simp; rw [Hb0.out]; first | done | exact rfl | (unfold Wl.sB; by_cases q1_ : x.a1 = x.b1 <;> by_cases q2_ : x.a2 = x.b2 <;> simp [q1_, q2_]))); intro K hK; go_simp; apply hK; clear hK K)
     | (apply wpY_seqg 38 86 rfl rfl (by kernel_rfl) true; (focus (first | exact wantN rfl | (apply wantT rfl rfl rfl; go_simp; done))); (case h => intro _ W_ hW_; obtain ⟨y0_, y1_, y2_, y3_, y4_, y5_, y6_, y7_, y8_, y9_, y10_, y11_, y12_⟩ := atWl_ (hX3.below hW_ hg3); go_simp; try exact rfl); intro K hK; go_simp; apply hK; clear hK K))
    iterate 7 ((repeat (first
     | (apply wpY_skip 0 43 rfl rfl (by kernel_rfl); (focus (apply wantF rfl rfl rfl; go_simp; done)); intro K hK; go_simp; apply hK; clear hK K)
     | (apply wpY_seqf 0 43 rfl rfl rfl (by kernel_rfl); (focus (first | exact wantN rfl | (apply wantT rfl rfl rfl; go_simp; done))); (case h => generalize hev_ : Act.eval _ = ev_; have va_ := evE hev_; have vc_ := evC hev_; clear hev_; go_simp; first | done | exact rfl | exact ⟨rfl, rfl⟩); (case hS' => exact hS_.alloc hS_.size _); intro K hK hS2_; go_simp; apply hK; clear hK K hS_; have hS_ := hS2_; clear hS2_)
     | (apply wpY_seqc 0 43 rfl rfl rfl (by kernel_rfl); (focus (first | exact wantN rfl | (apply wantT rfl rfl rfl; go_simp; done))); (case h => intro N_ hN_; generalize hA_ : Act.mk _ _ = A_ at hN_ ⊢; have va_ := evA hA_; clear hA_; have vc_ := acC A_; have vf_ := acF A_; generalize Act.eval A_ = ev_ at va_ vc_ vf_ ⊢; go_simp; first
      | (go_at_call 28; refine (level_new1' x.lv _ _ _ Hp1.out (by simp)).mono ?_; rintro e w9 ⟨rfl, rfl⟩; exact hN_ _ hS_)
      | (go_at_call 25; refine (in_new1' 1 4 x.kd _ _ _ Hp2.out (by simp)).mono ?_; rintro e w9 ⟨rfl, rfl⟩; exact hN_ _ hS_)
      | (go_at_call 29; refine (at_new2' x.a1 x.a2 x.b1 x.b2 _ _ _ Hp3.out (by simp)).mono ?_; rintro e w9 ⟨rfl, hb9⟩; exact hN_ _ (hS_.trans (hb9.mono (by have := hS_.size; simp at this; omega))))
      | (go_at_call 30; refine (bounce_any' x.rs x.gr _ _ Hp4.out).mono ?_; rintro e w9 ⟨rfl, hb9⟩; exact hN_ _ (hS_.trans (hb9.mono hS_.size)))
      | (go_at_call 25; refine (in_new2' 0 16384 x.kk x.mn _ _ _ Hp5.out (by simp)).mono ?_; rintro e w9 ⟨rfl, rfl⟩; exact hN_ _ hS_)
      | (go_at_call 31; refine (ports_any' x.cl x.sw _ _ Hp6.out).mono ?_; rintro e w9 ⟨rfl, hb9⟩; exact hN_ _ (hS_.trans (hb9.mono hS_.size)))
      ); intro K hK wd_ hS2_; go_simp; apply hK; clear hK K hS_; have hS_ := hS2_; clear hS2_; first | clear Hp1 | clear Hp2 | clear Hp3 | clear Hp4 | clear Hp5 | clear Hp6)
     | (apply wpY_seqg 0 43 rfl rfl (by kernel_rfl) true; (focus (first | exact wantN rfl | (apply wantT rfl rfl rfl; go_simp; done))); (case h => intro _ W_ hW_; obtain ⟨y0_, y1_, y2_, y3_, y4_, y5_, y6_, y7_, y8_, y9_, y10_, y11_, y12_⟩ := atWl_ (hX3.below hW_ hg3); go_simp; try exact rfl); intro K hK; go_simp; apply hK; clear hK K))); try ((fail_if_success (refine wpY_end rfl ?_)); first | (cases p1; rotate_left) | (cases p2; rotate_left) | (cases p3; rotate_left) | (cases p4; rotate_left) | (cases p5; rotate_left) | (cases p6; rotate_left)))
    all_goals (as_aux_lemma =>
     repeat (first
      | (apply wpY_skip 0 43 rfl rfl (by kernel_rfl); (focus (apply wantF rfl rfl rfl; go_simp; done)); intro K hK; go_simp; apply hK; clear hK K)
      | (apply wpY_seqg 0 43 rfl rfl (by kernel_rfl) true; (focus (first | exact wantN rfl | (apply wantT rfl rfl rfl; go_simp; done))); (case h => intro _ W_ hW_; go_simp; try exact rfl); intro K hK; go_simp; apply hK; clear hK K))
     refine wpY_nil (by kernel_rfl) ?_
     (try simp only [List.filterMap_cons, List.filterMap_nil, List.getElem?_cons_succ, List.getElem?_cons_zero])
     (try go_simp)
     have hCk := HC3.out.below hS_ (Nat.le_refl _)
     have hTk := HT3.out.below hS_ HT3.out.lt
     have hBk : Below w.heap.size w wd_ := HB3.out.trans (hS_.mono HB3.out.size)
     have HCk := hQ0 hCk
     have HTk := hQ0 hTk
     have HBk := hQ0 hBk
     have hF_ := HF.out
     have hG_ := HG.out
     simp only [Bool.true_and, Bool.false_and, Bool.and_true, Bool.and_false] at hF_ hG_
     have HG2 := hQ0 hG_
     clear hG_
     have HF2 := hQ0 hF_
     clear hCk hTk hBk hS_ hF_
     go_wp2_with (go_at_call 27; refine (look_any _ cb mb n (w.heap.size + 1) e L x.nm _ _ HCk.out (HN.out x (List.mem_of_getElem? HX.out)) (by unfold maxLen; have := HN2.out; have := HN3.out; omega) hcb hmb).mono ?_; rintro ε w4 ⟨rfl, hb4, m, hm, hC4⟩)
     go_roundg (l.length - (k + 1) + 1)
     case measure => omega
     case rel =>
      refine ⟨k + 1, m, _, _, by omega, by omega, by go_num, by omega, HBk.out.trans (hb4.mono (by have := HBk.out.size; omega)), HTk.out.below hb4 (by omega), hC4, hQ0 ?_⟩
      rw [fold_next HX.out, ← HJ.out]
      unfold Wl.look
      rw [← HF2.out, ← HG2.out])
  · obtain rfl : k = l.length := by omega
    have HBe := hQ0 hb_ws
    have HTr := hQ0 hTr
    have HCr := hQ0 hCr
    clear hb_ws hTr hCr
    go_wp2_with fail
    show R _ _
    have hj := HJ.out
    rw [List.take_length] at hj
    exact HR.out _ _ n rfl rfl rfl HF3.out.symm HBe.out HTr.out hnk (by rw [← hj]; exact HCr.out)
theorem Ac.look_eq (rad e : Int) (L : List ByteArray) (x : Ac) (f s : Bool) (hf : f = x.fB) (hs : s = (x.fB && roundB x rad)) : ((lookR (e, L) x.nm f s).1, (lookR (e, L) x.nm f s).2) = Ac.look rad (e, L) x := by
 subst hf hs
 unfold Ac.look
 rfl
attribute [local go_sem ↓] evalL getL64 setL64
attribute [local go_sem ↓] getL8 setL8
attribute [local go_sem ↓] getL1 getL0
set_option maxRecDepth 100000 in
set_option maxHeartbeats 8000000 in
theorem lp_ars (w wr : World) (A : Option Addr) (c cb mb n0 N : Nat) (e0 : Int) (L0 : List ByteArray) (l : List Ac) (TC : List Value) (rad : Int) (df : List Deferred) (F : List Value) (hF : F.length = 623) (f1 : F[1]? = some (.pointer (some ⟨w.heap.size, 0, none⟩))) (f3 : F[3]? = some (.pointer (some ⟨cb, 0, none⟩))) (f185 : F[185]? = some (.slice A l.length c)) (f186 : F[186]? = some (.int .i64 (l.length : Int))) (f187 : F[187]? = some (.int .i64 0))
  (hA : RowsAt 12 Ac.cells w A l) (hl : l.length ≤ 64) (hnm : ∀ x ∈ l, x.nm.size ≤ maxLen) (hb : Below w.heap.size w wr) (hT : BoxAt wr w.heap.size TC) (hT0 : TC[0]? = some (.int .i64 rad)) (r0 : 0 ≤ rad) (r1 : rad ≤ 32768) (hC : CkAt wr cb mb n0 e0 L0) (hn : n0 + l.length ≤ N) (hN : N ≤ 1000) (hcb : w.heap.size < cb) (hmb : w.heap.size < mb) (R : Act → World → Prop)
  (hR : ∀ (F' : List Value) (w' : World) (n : Nat), F'.length = 623 → F'[1]? = F[1]? → F'[2]? = F[2]? → F'[3]? = F[3]? → Below w.heap.size w w' → BoxAt w' w.heap.size TC → n ≤ n0 + l.length → CkAt w' cb mb n (l.foldl (Ac.look rad) (e0, L0)).1 (l.foldl (Ac.look rad) (e0, L0)).2 → R ⟨F'.toArray, df⟩ w') :
  (blkOf 3 Tryz.f11).wp Tryz.prog (AtEnd R) ⟨F.toArray, df⟩ wr := by
 obtain ⟨s, rfl⟩ := fr623_ex F hF
 have e1 : s 1 = .pointer (some ⟨w.heap.size, 0, none⟩) := Option.some.inj f1
 have e3 : s 3 = .pointer (some ⟨cb, 0, none⟩) := Option.some.inj f3
 have e185 : s 185 = .slice A l.length c := Option.some.inj f185
 have e186 : s 186 = .int .i64 (l.length : Int) := Option.some.inj f186
 have e187 : s 187 = .int .i64 0 := Option.some.inj f187
 unfold fr623
 rw [e1, e3, e185, e186, e187]
 have HF3 := hQ0 f3
 have HF1 := hQ0 f1
 clear hF e1 f1 e3 f3 e185 f185 e186 f186 e187 f187
 have HA := hQ0 hA
 have HR := hQ0 hR
 have HN := hQ0 hnm
 have HN2 := hQ0 hN
 have HN3 := hQ0 hn
 clear hA hnm hN hn hR
 conv in (blkOf _ _) => whnf
 go_wp2_with fail
 go_loopg [187] (l.length + 1) (fun gk tt wr => ∃ (k n : Nat) (e : Int) (L : List ByteArray), k ≤ l.length ∧ l.length - k < gk ∧ tt = .int .i64 k ∧ n ≤ n0 + k ∧ Below w.heap.size w wr ∧ BoxAt wr w.heap.size TC ∧ CkAt wr cb mb n e L ∧ Hid ((e, L) = ((l.take k).foldl (Ac.look rad) (e0, L0))))
 case atStart => exact ⟨0, n0, e0, L0, by omega, by omega, rfl, by omega, hb, hT, hC, hQ0 rfl⟩
 case round =>
  obtain ⟨ws_, rfl⟩ : ∃ z, z = wr := ⟨_, rfl⟩
  clear hb hT hC
  obtain ⟨k, n, e, L, hk, hkk, rfl, hnk, hb_ws, hTr, hCr, HJ⟩ := hrel
  have hz_ws := hb_ws.size
  by_cases hlt : k < l.length
  · obtain ⟨x, hx⟩ : ∃ x, l[k]? = some x := ⟨l[k], by simp⟩
    obtain ⟨g, o, rfl, hg, c0, c1, c2, c3, c4, c5, c6, c7, c8, c9, c10, c11⟩ := Ac.get (HA.out.below hb_ws (Nat.le_refl _)) hx
    have i1 : (k : Int) < (l.length : Int) := by omega
    have HX := hQ0 hx
    have HBe := hQ0 hb_ws
    have HTr := hQ0 hTr
    have HCr := hQ0 hCr
    clear hx hb_ws hTr hCr
    go_upto_region 22 with (fail)
    (refine pin_eqT (fun w3 hE_w3 => ?_))
    obtain ⟨gb, hgb⟩ : ∃ z, z = ws_.heap.size := ⟨_, rfl⟩
    rw [← hgb]
    have hX3 : BoxAt w3 gb x.cells := by rw [hE_w3, hgb]; exact BoxAt.new _ _ _
    have hT3 : BoxAt w3 w.heap.size TC := by rw [hE_w3]; exact HTr.out.alloc _
    have hC3 : CkAt w3 cb mb n e L := by rw [hE_w3]; exact HCr.out.below ((Below.refl _ _).alloc (Nat.le_refl _) _) (Nat.le_refl _)
    have hB3 : Below w.heap.size w w3 := by rw [hE_w3]; exact HBe.out.alloc hz_ws _
    have HGB := hQ0 hgb
    clear hgb hE_w3 c0 c1 c2 c3 c4 c5 c6 c7 c8 c9 c10 c11
    have hg3 := hX3.lt
    have HT3 := hQ0 hT3
    have HC3 := hQ0 hC3
    have HB3 := hQ0 hB3
    clear hT3 hC3 hB3 hg
    obtain ⟨p1, hp1⟩ : ∃ b, b = (in1 0 3 x.lv) := ⟨_, rfl⟩
    have HHp1 := hQ0 hp1
    clear hp1
    obtain ⟨p2, hp2⟩ : ∃ b, b = (nearV 1048576 ⟨x.c1, x.c2⟩ && (nearV 1048576 ⟨x.s1, x.s2⟩ && nearV 1048576 ⟨x.e1, x.e2⟩)) := ⟨_, rfl⟩
    have HHp2 := hQ0 hp2
    clear hp2
    obtain ⟨p3, hp3⟩ : ∃ b, b = (in1 0 15 x.rs && in1 0 15 x.gr) := ⟨_, rfl⟩
    have HHp3 := hQ0 hp3
    clear hp3
    obtain ⟨p4, hp4⟩ : ∃ b, b = (in1 0 16384 x.mn) := ⟨_, rfl⟩
    have HHp4 := hQ0 hp4
    clear hp4
    obtain ⟨p5, hp5⟩ : ∃ b, b = (in1 (-1) 63 x.sw) := ⟨_, rfl⟩
    have HHp5 := hQ0 hp5
    clear hp5
    obtain ⟨p6, hp6⟩ : ∃ b, b = roundB x rad := ⟨_, rfl⟩
    have HHp6 := hQ0 hp6
    clear hp6
    refine wp_region_lit ?_
    have hS_ : Below w3.heap.size w3 w3 := Below.refl _ _
    iterate 2 (apply wpL_maybe true (by exact rfl); (case h => intro _; have hY_ := (hX3).below hS_ (hg3); have y0_ := hY_.c 1 (.int .i64 x.lv) (rfl); go_simp; try exact rfl); intro K hK; go_simp; apply hK; clear hK K)
    apply wpL_freshm (S := Below w3.heap.size w3)  true (by exact rfl)
    (case h => intro _; generalize hev_ : Act.eval _ = ev_; (have v192_ := evE hev_ 192; simp only [getL64, getL8, getL1, getL0, opt_true, Bool.not_false] at v192_); have vc_ := evC hev_; clear hev_; go_simp; first | done | exact rfl | exact ⟨rfl, rfl⟩); (case hS => exact hS_); (case hS' => exact (hS_).alloc (hS_).size _)
    intro K hK w_ hS2_ hw0_; have hw_ := hQ0 hw0_; clear hw0_; go_simp; apply hK; clear hK K hS_; have hS_ := hS2_; clear hS2_
    refine wpL_callm (S := Below w3.heap.size w3)  true (by exact rfl) (.bool p1) ?_ hS_ ?_
    · intro _; intro N_ hN_; generalize hA_ : Act.mk _ _ = A_ at hN_ ⊢; (have v193_ := evA hA_ 193; simp only [getL64, getL8, getL1, getL0, opt_true, Bool.not_false] at v193_); clear hA_; have vc_ := acC A_; have vf_ := acF A_; generalize Act.eval A_ = ev_ at vc_ vf_ v193_ ⊢; obtain rfl := hw_.out rfl; go_simp; go_at_call 28; refine (level_new1' x.lv _ _ p1 HHp1.out (by simp)).mono ?_; rintro e w9 ⟨rfl, rfl⟩; exact hN_ _ hS_
    intro K hK w_ hS2_; go_simp; apply hK; clear hK K hS_; have hS_ := hS2_; clear hS2_
    apply wpL_maybe true (by exact rfl)
    (case h => intro _; have hcW_ := (bcellW hS_).1; go_simp; try exact rfl)
    intro K hK; go_simp; apply hK; clear hK K
    apply wpL_maybe p1 (by clear hS_; cases p1 <;> rfl)
    (case h => intro hc_; obtain rfl : p1 = true := hc_; (try simp only [opt_true]); have hcW_ := (bcellW hS_).1; go_simp; try exact rfl)
    intro K hK; go_simp; apply hK; clear hK K
    apply wpL_maybe p1 (by clear hS_; cases p1 <;> rfl)
    (case h => intro hc_; obtain rfl : p1 = true := hc_; (try simp only [opt_true]); have hY_ := (hX3).below hS_ (hg3); have y0_ := hY_.c 2 (.int .i64 x.c1) (rfl); have y1_ := hY_.c 3 (.int .i64 x.c2) (rfl); go_simp; try exact rfl)
    intro K hK; go_simp; apply hK; clear hK K
    apply wpL_maybe p1 (by clear hS_; cases p1 <;> rfl)
    (case h => intro hc_; obtain rfl : p1 = true := hc_; (try simp only [opt_true]); have hcW_ := (bcellW hS_).1; go_simp; try exact rfl)
    intro K hK; go_simp; apply hK; clear hK K
    apply wpL_maybe p1 (by clear hS_; cases p1 <;> rfl)
    (case h => intro hc_; obtain rfl : p1 = true := hc_; (try simp only [opt_true]); have hY_ := (hX3).below hS_ (hg3); have y0_ := hY_.c 4 (.int .i64 x.s1) (rfl); have y1_ := hY_.c 5 (.int .i64 x.s2) (rfl); go_simp; try exact rfl)
    intro K hK; go_simp; apply hK; clear hK K
    apply wpL_maybe p1 (by clear hS_; cases p1 <;> rfl)
    (case h => intro hc_; obtain rfl : p1 = true := hc_; (try simp only [opt_true]); have hcW_ := (bcellW hS_).1; go_simp; try exact rfl)
    intro K hK; go_simp; apply hK; clear hK K
    apply wpL_maybe p1 (by clear hS_; cases p1 <;> rfl)
    (case h => intro hc_; obtain rfl : p1 = true := hc_; (try simp only [opt_true]); have hY_ := (hX3).below hS_ (hg3); have y0_ := hY_.c 6 (.int .i64 x.e1) (rfl); have y1_ := hY_.c 7 (.int .i64 x.e2) (rfl); go_simp; try exact rfl)
    intro K hK; go_simp; apply hK; clear hK K
    apply wpL_freshm (S := Below w3.heap.size w3)  p1 (by clear hS_; cases p1 <;> rfl)
    (case h => intro hc_; obtain rfl : p1 = true := hc_; generalize hev_ : Act.eval _ = ev_; (have v197_ := evE hev_ 197; simp only [getL64, getL8, getL1, getL0, opt_true, Bool.not_false] at v197_); (have v199_ := evE hev_ 199; simp only [getL64, getL8, getL1, getL0, opt_true, Bool.not_false] at v199_); (have v201_ := evE hev_ 201; simp only [getL64, getL8, getL1, getL0, opt_true, Bool.not_false] at v201_); have vc_ := evC hev_; clear hev_; go_simp; first | done | exact rfl | exact ⟨rfl, rfl⟩); (case hS => exact hS_); (case hS' => exact (hS_).alloc (hS_).size _)
    intro K hK w_ hS2_ hw0_; have hw_ := hQ0 hw0_; clear hw0_; go_simp; apply hK; clear hK K hS_; have hS_ := hS2_; clear hS2_
    refine wpL_callm (S := Below w3.heap.size w3)  p1 (by clear hS_; cases p1 <;> rfl) (.bool p2) ?_ hS_ ?_
    · intro hc_; obtain rfl : p1 = true := hc_; intro N_ hN_; generalize hA_ : Act.mk _ _ = A_ at hN_ ⊢; (have v202_ := evA hA_ 202; simp only [getL64, getL8, getL1, getL0, opt_true, Bool.not_false] at v202_); clear hA_; have vc_ := acC A_; have vf_ := acF A_; generalize Act.eval A_ = ev_ at vc_ vf_ v202_ ⊢; obtain rfl := hw_.out rfl; go_simp; go_at_call 29; refine (at_new3' x.c1 x.c2 x.s1 x.s2 x.e1 x.e2 _ _ p2 HHp2.out (by simp)).mono ?_; rintro e w9 ⟨rfl, hb9⟩; exact hN_ _ (hS_.trans (hb9.mono (by have := hS_.size; simp at this; omega)))
    intro K hK w_ hS2_; go_simp; apply hK; clear hK K hS_; have hS_ := hS2_; clear hS2_
    obtain ⟨d22_1, hd22_1⟩ : ∃ b_, b_ = (p1 && p2) := ⟨_, rfl⟩
    apply wpL_maybe true (by exact rfl) (.bool d22_1) (by intro _; rw [hd22_1]; cases p1 <;> (go_simp; try exact rfl))
    have Hd22_1 := hQ0 hd22_1; clear hd22_1
    intro K hK; go_simp; apply hK; clear hK K
    apply wpL_maybe true (by exact rfl)
    (case h => intro _; have hcW_ := (bcellW hS_).1; go_simp; try exact rfl)
    intro K hK; go_simp; apply hK; clear hK K
    apply wpL_maybe d22_1 (by clear hS_; cases d22_1 <;> rfl)
    (case h => intro hc_; obtain rfl : d22_1 = true := hc_; (try simp only [opt_true]); have hcW_ := (bcellW hS_).1; go_simp; try exact rfl)
    intro K hK; go_simp; apply hK; clear hK K
    apply wpL_maybe d22_1 (by clear hS_; cases d22_1 <;> rfl)
    (case h => intro hc_; obtain rfl : d22_1 = true := hc_; (try simp only [opt_true]); have hY_ := (hX3).below hS_ (hg3); have y0_ := hY_.c 8 (.int .i64 x.rs) (rfl); go_simp; try exact rfl)
    intro K hK; go_simp; apply hK; clear hK K
    apply wpL_maybe d22_1 (by clear hS_; cases d22_1 <;> rfl)
    (case h => intro hc_; obtain rfl : d22_1 = true := hc_; (try simp only [opt_true]); have hcW_ := (bcellW hS_).1; go_simp; try exact rfl)
    intro K hK; go_simp; apply hK; clear hK K
    apply wpL_maybe d22_1 (by clear hS_; cases d22_1 <;> rfl)
    (case h => intro hc_; obtain rfl : d22_1 = true := hc_; (try simp only [opt_true]); have hY_ := (hX3).below hS_ (hg3); have y0_ := hY_.c 9 (.int .i64 x.gr) (rfl); go_simp; try exact rfl)
    intro K hK; go_simp; apply hK; clear hK K
    refine wpL_callm (S := Below w3.heap.size w3)  d22_1 (by clear hS_; cases d22_1 <;> rfl) (.bool p3) ?_ hS_ ?_
    · intro hc_; obtain rfl : d22_1 = true := hc_; intro N_ hN_; generalize hA_ : Act.mk _ _ = A_ at hN_ ⊢; (have v207_ := evA hA_ 207; simp only [getL64, getL8, getL1, getL0, opt_true, Bool.not_false] at v207_); (have v209_ := evA hA_ 209; simp only [getL64, getL8, getL1, getL0, opt_true, Bool.not_false] at v209_); clear hA_; have vc_ := acC A_; have vf_ := acF A_; generalize Act.eval A_ = ev_ at vc_ vf_ v207_ v209_ ⊢; go_simp; go_at_call 30; refine (bounce_any' x.rs x.gr _ p3 HHp3.out).mono ?_; rintro e w9 ⟨rfl, hb9⟩; exact hN_ _ (hS_.trans (hb9.mono hS_.size))
    intro K hK w_ hS2_; go_simp; apply hK; clear hK K hS_; have hS_ := hS2_; clear hS2_
    obtain ⟨d22_2, hd22_2⟩ : ∃ b_, b_ = (d22_1 && p3) := ⟨_, rfl⟩
    apply wpL_maybe true (by exact rfl) (.bool d22_2) (by intro _; rw [hd22_2]; cases d22_1 <;> (go_simp; try exact rfl))
    have Hd22_2 := hQ0 hd22_2; clear hd22_2
    intro K hK; go_simp; apply hK; clear hK K
    apply wpL_maybe true (by exact rfl)
    (case h => intro _; have hcW_ := (bcellW hS_).1; go_simp; try exact rfl)
    intro K hK; go_simp; apply hK; clear hK K
    apply wpL_maybe d22_2 (by clear hS_; cases d22_2 <;> rfl)
    (case h => intro hc_; obtain rfl : d22_2 = true := hc_; (try simp only [opt_true]); have hcW_ := (bcellW hS_).1; go_simp; try exact rfl)
    intro K hK; go_simp; apply hK; clear hK K
    apply wpL_maybe d22_2 (by clear hS_; cases d22_2 <;> rfl)
    (case h => intro hc_; obtain rfl : d22_2 = true := hc_; (try simp only [opt_true]); have hY_ := (hX3).below hS_ (hg3); have y0_ := hY_.c 10 (.int .i64 x.mn) (rfl); go_simp; try exact rfl)
    intro K hK; go_simp; apply hK; clear hK K
    apply wpL_freshm (S := Below w3.heap.size w3)  d22_2 (by clear hS_; cases d22_2 <;> rfl)
    (case h => intro hc_; obtain rfl : d22_2 = true := hc_; generalize hev_ : Act.eval _ = ev_; (have v214_ := evE hev_ 214; simp only [getL64, getL8, getL1, getL0, opt_true, Bool.not_false] at v214_); have vc_ := evC hev_; clear hev_; go_simp; first | done | exact rfl | exact ⟨rfl, rfl⟩); (case hS => exact hS_); (case hS' => exact (hS_).alloc (hS_).size _)
    intro K hK w_ hS2_ hw0_; have hw_ := hQ0 hw0_; clear hw0_; go_simp; apply hK; clear hK K hS_; have hS_ := hS2_; clear hS2_
    refine wpL_callm (S := Below w3.heap.size w3)  d22_2 (by clear hS_; cases d22_2 <;> rfl) (.bool p4) ?_ hS_ ?_
    · intro hc_; obtain rfl : d22_2 = true := hc_; intro N_ hN_; generalize hA_ : Act.mk _ _ = A_ at hN_ ⊢; (have v215_ := evA hA_ 215; simp only [getL64, getL8, getL1, getL0, opt_true, Bool.not_false] at v215_); clear hA_; have vc_ := acC A_; have vf_ := acF A_; generalize Act.eval A_ = ev_ at vc_ vf_ v215_ ⊢; obtain rfl := hw_.out rfl; go_simp; go_at_call 25; refine (in_new1' 0 16384 x.mn _ _ p4 HHp4.out (by simp)).mono ?_; rintro e w9 ⟨rfl, rfl⟩; exact hN_ _ hS_
    intro K hK w_ hS2_; go_simp; apply hK; clear hK K hS_; have hS_ := hS2_; clear hS2_
    obtain ⟨d22_3, hd22_3⟩ : ∃ b_, b_ = (d22_2 && p4) := ⟨_, rfl⟩
    apply wpL_maybe true (by exact rfl) (.bool d22_3) (by intro _; rw [hd22_3]; cases d22_2 <;> (go_simp; try exact rfl))
    have Hd22_3 := hQ0 hd22_3; clear hd22_3
    intro K hK; go_simp; apply hK; clear hK K
    apply wpL_maybe true (by exact rfl)
    (case h => intro _; have hcW_ := (bcellW hS_).1; go_simp; try exact rfl)
    intro K hK; go_simp; apply hK; clear hK K
    apply wpL_maybe d22_3 (by clear hS_; cases d22_3 <;> rfl)
    (case h => intro hc_; obtain rfl : d22_3 = true := hc_; (try simp only [opt_true]); have hcW_ := (bcellW hS_).1; go_simp; try exact rfl)
    intro K hK; go_simp; apply hK; clear hK K
    apply wpL_maybe d22_3 (by clear hS_; cases d22_3 <;> rfl)
    (case h => intro hc_; obtain rfl : d22_3 = true := hc_; (try simp only [opt_true]); have hY_ := (hX3).below hS_ (hg3); have y0_ := hY_.c 11 (.int .i64 x.sw) (rfl); go_simp; try exact rfl)
    intro K hK; go_simp; apply hK; clear hK K
    apply wpL_freshm (S := Below w3.heap.size w3)  d22_3 (by clear hS_; cases d22_3 <;> rfl)
    (case h => intro hc_; obtain rfl : d22_3 = true := hc_; generalize hev_ : Act.eval _ = ev_; (have v220_ := evE hev_ 220; simp only [getL64, getL8, getL1, getL0, opt_true, Bool.not_false] at v220_); have vc_ := evC hev_; clear hev_; go_simp; first | done | exact rfl | exact ⟨rfl, rfl⟩); (case hS => exact hS_); (case hS' => exact (hS_).alloc (hS_).size _)
    intro K hK w_ hS2_ hw0_; have hw_ := hQ0 hw0_; clear hw0_; go_simp; apply hK; clear hK K hS_; have hS_ := hS2_; clear hS2_
    refine wpL_callm (S := Below w3.heap.size w3)  d22_3 (by clear hS_; cases d22_3 <;> rfl) (.bool p5) ?_ hS_ ?_
    · intro hc_; obtain rfl : d22_3 = true := hc_; intro N_ hN_; generalize hA_ : Act.mk _ _ = A_ at hN_ ⊢; (have v221_ := evA hA_ 221; simp only [getL64, getL8, getL1, getL0, opt_true, Bool.not_false] at v221_); clear hA_; have vc_ := acC A_; have vf_ := acF A_; generalize Act.eval A_ = ev_ at vc_ vf_ v221_ ⊢; obtain rfl := hw_.out rfl; go_simp; go_at_call 25; refine (in_new1' (-1) 63 x.sw _ _ p5 HHp5.out (by simp)).mono ?_; rintro e w9 ⟨rfl, rfl⟩; exact hN_ _ hS_
    intro K hK w_ hS2_; go_simp; apply hK; clear hK K hS_; have hS_ := hS2_; clear hS2_
    obtain ⟨d22_4, hd22_4⟩ : ∃ b_, b_ = (d22_3 && p5) := ⟨_, rfl⟩
    apply wpL_maybe true (by exact rfl) (.bool d22_4) (by intro _; rw [hd22_4]; cases d22_3 <;> (go_simp; try exact rfl))
    have Hd22_4 := hQ0 hd22_4; clear hd22_4
    intro K hK; go_simp; apply hK; clear hK K
    apply wpL_maybe true (by exact rfl)
    (case h => intro _; have hcW_ := (bcellW hS_).1; go_simp; try exact rfl)
    intro K hK; go_simp; apply hK; clear hK K
    refine wpList_nil ?_
    (try go_simp)
    obtain ⟨w5, rfl⟩ : ∃ z, z = w_ := ⟨_, rfl⟩
    have hX5 := hX3.below hS_ hg3
    have hg5 := hX5.lt
    have HT5 := hQ0 (HT3.out.below hS_ HT3.out.lt)
    have HC5 := hQ0 (HC3.out.below hS_ (Nat.le_refl _))
    have HB5 := hQ0 (HB3.out.trans (hS_.mono HB3.out.size))
    clear hX3 hg3 hS_ HT3 HC3 HB3
    have HPB : Hid (d22_4 = true → x.pB = true) := hQ0 (fun h => by rw [Hd22_4.out, Hd22_3.out, Hd22_2.out, Hd22_1.out, HHp1.out, HHp2.out] at h; simp only [Bool.and_eq_true] at h; unfold Ac.pB; simp only [Bool.and_eq_true]; exact h.1.1.1.2)
    go_upto_region 23 with (fail)
    have hS_ : Below w5.heap.size w5 w5.drew := (Below.refl _ _).drew
    refine wp_region_Y (Below w5.heap.size w5) 11 [11] (by kernel_rfl) (by kernel_rfl) (tailBJ_of (nx := [11, 2, 11, 11, 5, 6, 9, 8, 9, 10, 11, 0]) (by kernel_rfl)) (by kernel_rfl) (fun _ _ _ _ _ h => h) hS_ ?_
    generalize w5.drew = wd_ at hS_ ⊢
    iterate 6 (apply wpY_seq 11 rfl (by kernel_rfl) true (by exact rfl); (case h => intro _ W_ hW_; have hY_ := (hX5).below hW_ (hg5); have y0_ := hY_.c 0 (.string x.nm) (rfl); go_simp; try exact rfl); intro K hK; go_simp; apply hK; clear hK K)
    iterate 3 (apply wpY_seq 11 rfl (by kernel_rfl) d22_4 (by clear hS_; cases d22_4 <;> rfl); (case h => intro hc_; obtain rfl : d22_4 = true := hc_; intro W_ hW_; have hY_ := (hX5).below hW_ (hg5); have y0_ := hY_.c 0 (.string x.nm) (rfl); have y1_ := hY_.c 1 (.int .i64 x.lv) (rfl); have y2_ := hY_.c 2 (.int .i64 x.c1) (rfl); have y3_ := hY_.c 3 (.int .i64 x.c2) (rfl); have y4_ := hY_.c 4 (.int .i64 x.s1) (rfl); have y5_ := hY_.c 5 (.int .i64 x.s2) (rfl); have y6_ := hY_.c 6 (.int .i64 x.e1) (rfl); have y7_ := hY_.c 7 (.int .i64 x.e2) (rfl); have y8_ := hY_.c 8 (.int .i64 x.rs) (rfl); have y9_ := hY_.c 9 (.int .i64 x.gr) (rfl); have y10_ := hY_.c 10 (.int .i64 x.mn) (rfl); have y11_ := hY_.c 11 (.int .i64 x.sw) (rfl); have hY1_ := (HT5.out).below hW_ (HT5.out.lt); have ya0_ := hY1_.c 0 (.int .i64 rad) (hT0); go_simp; try exact rfl); intro K hK; go_simp; apply hK; clear hK K)
    refine wpY_callm (i := 9) rfl (by kernel_rfl) d22_4 (by clear hS_; cases d22_4 <;> rfl) (.bool p6) ?_ ?_
    · intro hc_; obtain rfl : d22_4 = true := hc_; intro N_ hN_; generalize hA_ : Act.mk _ _ = A_ at hN_ ⊢; (have v230_ := evA hA_ 230; simp only [getL64, getL8, getL1, getL0, opt_true, Bool.not_false] at v230_); (have v232_ := evA hA_ 232; simp only [getL64, getL8, getL1, getL0, opt_true, Bool.not_false] at v232_); clear hA_; have vc_ := acC A_; have vf_ := acF A_; generalize Act.eval A_ = ev_ at vc_ vf_ v230_ v232_ ⊢; go_simp; go_at_call 32; refine (round_any x rad _ (HPB.out rfl) r0 r1).mono ?_; rintro e w9 ⟨rfl, hb9⟩; rw [← HHp6.out]; exact hN_ _ (hS_.trans (hb9.mono hS_.size))
    intro K hK w_ hS2_; go_simp; apply hK; clear hK K hS_; have hS_ := hS2_; clear hS2_
    obtain ⟨d23_1, hd23_1⟩ : ∃ b_, b_ = (d22_4 && p6) := ⟨_, rfl⟩
    apply wpY_maybe (i := 10) rfl (by kernel_rfl) true (by exact rfl) (.bool d23_1) (by intro _ W_ hW_; rw [hd23_1]; cases d22_4 <;> (go_simp; try exact rfl))
    have Hd23_1 := hQ0 hd23_1; clear hd23_1
    intro K hK; go_simp; apply hK; clear hK K
    refine wpY_nil (by kernel_rfl) ?_
    (try simp only [List.filterMap_cons, List.filterMap_nil, List.getElem?_cons_succ, List.getElem?_cons_zero])
    (try go_simp)
    have HT3 := HT5; have HC3 := HC5; have HB3 := HB5
    have hCk := HC3.out.below hS_ (Nat.le_refl _)
    have hTk := HT3.out.below hS_ HT3.out.lt
    have hBk : Below w.heap.size w w_ := HB3.out.trans (hS_.mono HB3.out.size)
    have HF : Hid (d22_4 = x.fB) := hQ0 (by simp only [Hd23_1.out, Hd22_4.out, Hd22_3.out, Hd22_2.out, Hd22_1.out, HHp1.out, HHp2.out, HHp3.out, HHp4.out, HHp5.out, HHp6.out]; rfl)
    have HSH : Hid (d23_1 = (x.fB && roundB x rad)) := hQ0 (by rw [Hd23_1.out, HF.out, HHp6.out])
    have HCk := hQ0 hCk
    have HTk := hQ0 hTk
    have HBk := hQ0 hBk
    clear hCk hTk hBk hS_
    go_wp2_with (go_at_call 27; refine (look_any _ cb mb n (w.heap.size + 1) e L x.nm d22_4 d23_1 HCk.out (HN.out x (List.mem_of_getElem? HX.out)) (by unfold maxLen; have := HN2.out; have := HN3.out; omega) hcb hmb).mono ?_; rintro ε w4 ⟨rfl, hb4, m, hm, hC4⟩)
    go_roundg (l.length - (k + 1) + 1)
    case measure => omega
    case rel =>
     refine ⟨k + 1, m, _, _, by omega, by omega, by go_num, by omega, HBk.out.trans (hb4.mono (by have := HBk.out.size; omega)), HTk.out.below hb4 (by omega), hC4, hQ0 ?_⟩
     exact (Ac.look_eq rad e L x _ _ HF.out HSH.out).trans ((congrArg (fun z_ => Ac.look rad z_ x) HJ.out).trans (fold_next HX.out).symm)
  · obtain rfl : k = l.length := by omega
    have HBe := hQ0 hb_ws
    have HTr := hQ0 hTr
    have HCr := hQ0 hCr
    clear hb_ws hTr hCr
    go_wp2_with fail
    show R _ _
    have hj := HJ.out
    rw [List.take_length] at hj
    exact HR.out _ _ n rfl HF1.out.symm rfl HF3.out.symm HBe.out HTr.out hnk (by rw [← hj]; exact HCr.out)
attribute [local go_sem ↓] evalL getL64 setL64
attribute [local go_sem ↓] getL8 setL8
attribute [local go_sem ↓] getL1 getL0
attribute [local go_sem] opt_true opt_false
theorem atPs_ {W : World} {b : Nat} {x : Ps} (h : BoxAt W b x.cells) : W.cell? ⟨b, 0, none⟩ = some (.string x.nm) ∧ W.cell? ⟨b, 1, none⟩ = some (.int .i64 x.lv) ∧ W.cell? ⟨b, 2, none⟩ = some (.int .i64 x.c1) ∧ W.cell? ⟨b, 3, none⟩ = some (.int .i64 x.c2) ∧ W.cell? ⟨b, 4, none⟩ = some (.int .i64 x.sz) ∧ W.cell? ⟨b, 5, none⟩ = some (.int .i64 x.rs) ∧ W.cell? ⟨b, 6, none⟩ = some (.int .i64 x.gr) ∧ W.cell? ⟨b, 7, none⟩ = some (.int .i64 x.kk) ∧ W.cell? ⟨b, 8, none⟩ = some (.int .i64 x.mn) ∧ W.cell? ⟨b, 9, none⟩ = some (.int .i64 x.cl) ∧ W.cell? ⟨b, 10, none⟩ = some (.int .i64 x.sw) := ⟨h.c 0 _ rfl, h.c 1 _ rfl, h.c 2 _ rfl, h.c 3 _ rfl, h.c 4 _ rfl, h.c 5 _ rfl, h.c 6 _ rfl, h.c 7 _ rfl, h.c 8 _ rfl, h.c 9 _ rfl, h.c 10 _ rfl⟩
set_option maxRecDepth 100000 in
set_option maxHeartbeats 40000000 in
theorem lp_ps (w wr : World) (A : Option Addr) (c cb mb n0 N : Nat) (e0 : Int) (L0 : List ByteArray) (l : List Ps) (TC : List Value) (df : List Deferred) (F : List Value) (hF : F.length = 623) (f3 : F[3]? = some (.pointer (some ⟨cb, 0, none⟩))) (f238 : F[238]? = some (.slice A l.length c)) (f239 : F[239]? = some (.int .i64 (l.length : Int))) (f240 : F[240]? = some (.int .i64 0))
  (hA : RowsAt 11 Ps.cells w A l) (hl : l.length ≤ 64) (hnm : ∀ x ∈ l, x.nm.size ≤ maxLen) (hb : Below w.heap.size w wr) (hT : BoxAt wr w.heap.size TC) (hC : CkAt wr cb mb n0 e0 L0) (hn : n0 + l.length ≤ N) (hN : N ≤ 1000) (hcb : w.heap.size < cb) (hmb : w.heap.size < mb) (R : Act → World → Prop)
  (hR : ∀ (F' : List Value) (w' : World) (n : Nat), F'.length = 623 → F'[1]? = F[1]? → F'[2]? = F[2]? → F'[3]? = F[3]? → Below w.heap.size w w' → BoxAt w' w.heap.size TC → n ≤ n0 + l.length → CkAt w' cb mb n (l.foldl Ps.look (e0, L0)).1 (l.foldl Ps.look (e0, L0)).2 → R ⟨F'.toArray, df⟩ w') :
  (blkOf 5 Tryz.f11).wp Tryz.prog (AtEnd R) ⟨F.toArray, df⟩ wr := by
 obtain ⟨s, rfl⟩ := fr623_ex F hF
 have e3 : s 3 = .pointer (some ⟨cb, 0, none⟩) := Option.some.inj f3
 have e238 : s 238 = .slice A l.length c := Option.some.inj f238
 have e239 : s 239 = .int .i64 (l.length : Int) := Option.some.inj f239
 have e240 : s 240 = .int .i64 0 := Option.some.inj f240
 unfold fr623
 rw [e3, e238, e239, e240]
 have HF3 := hQ0 f3
 clear hF e3 f3 e238 f238 e239 f239 e240 f240
 have HA := hQ0 hA
 have HR := hQ0 hR
 have HN := hQ0 hnm
 have HN2 := hQ0 hN
 have HN3 := hQ0 hn
 clear hA hnm hN hn hR
 conv in (blkOf _ _) => whnf
 go_wp2_with fail
 go_loopg [240] (l.length + 1) (fun gk tt wr => ∃ (k n : Nat) (e : Int) (L : List ByteArray), k ≤ l.length ∧ l.length - k < gk ∧ tt = .int .i64 k ∧ n ≤ n0 + k ∧ Below w.heap.size w wr ∧ BoxAt wr w.heap.size TC ∧ CkAt wr cb mb n e L ∧ Hid ((e, L) = ((l.take k).foldl Ps.look (e0, L0))))
 case atStart => exact ⟨0, n0, e0, L0, by omega, by omega, rfl, by omega, hb, hT, hC, hQ0 rfl⟩
 case round =>
  obtain ⟨ws_, rfl⟩ : ∃ z, z = wr := ⟨_, rfl⟩
  clear hb hT hC
  obtain ⟨k, n, e, L, hk, hkk, rfl, hnk, hb_ws, hTr, hCr, HJ⟩ := hrel
  have hz_ws := hb_ws.size
  by_cases hlt : k < l.length
  · obtain ⟨x, hx⟩ : ∃ x, l[k]? = some x := ⟨l[k], by simp⟩
    obtain ⟨g, o, rfl, hg, c0, c1, c2, c3, c4, c5, c6, c7, c8, c9, c10⟩ := Ps.get (HA.out.below hb_ws (Nat.le_refl _)) hx
    have i1 : (k : Int) < (l.length : Int) := by omega
    have HX := hQ0 hx
    have HBe := hQ0 hb_ws
    have HTr := hQ0 hTr
    have HCr := hQ0 hCr
    clear hx hb_ws hTr hCr
    go_upto_region 28 with (fail)
    (refine pin_eqT (fun w3 hE_w3 => ?_))
    obtain ⟨gb, hgb⟩ : ∃ z, z = ws_.heap.size := ⟨_, rfl⟩
    rw [← hgb]
    have hX3 : BoxAt w3 gb x.cells := by rw [hE_w3, hgb]; exact BoxAt.new _ _ _
    have hT3 : BoxAt w3 w.heap.size TC := by rw [hE_w3]; exact HTr.out.alloc _
    have hC3 : CkAt w3 cb mb n e L := by rw [hE_w3]; exact HCr.out.below ((Below.refl _ _).alloc (Nat.le_refl _) _) (Nat.le_refl _)
    have hB3 : Below w.heap.size w w3 := by rw [hE_w3]; exact HBe.out.alloc hz_ws _
    have HGB := hQ0 hgb
    clear hgb hE_w3 c0 c1 c2 c3 c4 c5 c6 c7 c8 c9 c10
    have hg3 := hX3.lt
    have HT3 := hQ0 hT3
    have HC3 := hQ0 hC3
    have HB3 := hQ0 hB3
    clear hT3 hC3 hB3 hg
    obtain ⟨p1, hp1⟩ : ∃ b, b = (in1 0 3 x.lv) := ⟨_, rfl⟩
    obtain ⟨p2, hp2⟩ : ∃ b, b = (nearV 1048576 ⟨x.c1, x.c2⟩) := ⟨_, rfl⟩
    obtain ⟨p3, hp3⟩ : ∃ b, b = (in1 0 262144 x.sz) := ⟨_, rfl⟩
    obtain ⟨p4, hp4⟩ : ∃ b, b = (in1 0 15 x.rs && in1 0 15 x.gr) := ⟨_, rfl⟩
    obtain ⟨p5, hp5⟩ : ∃ b, b = (in1 0 16384 x.kk && in1 0 16384 x.mn) := ⟨_, rfl⟩
    obtain ⟨p6, hp6⟩ : ∃ b, b = (in1 (-1) 31 x.cl && in1 (-1) 63 x.sw) := ⟨_, rfl⟩
    have HF : Hid ((((((p1 && p2) && p3) && p4) && p5) && p6) = x.fB) := hQ0 (by rw [hp1, hp2, hp3, hp4, hp5, hp6]; rfl)
    have Hp1 := hQ0 hp1
    have Hp2 := hQ0 hp2
    have Hp3 := hQ0 hp3
    have Hp4 := hQ0 hp4
    have Hp5 := hQ0 hp5
    have Hp6 := hQ0 hp6
    clear hp1 hp2 hp3 hp4 hp5 hp6
    have hS_ : (Below w3.heap.size w3) w3.drew := (Below.refl _ _).drew
    refine wp_region_Y (Below w3.heap.size w3) 41 [41] (by kernel_rfl) (by kernel_rfl) (tailBJ_of (nx := [41, 2, 41, 4, 5, 6, 7, 8, 9, 10, 11, 12, 13, 14, 15, 16, 17, 18, 19, 20, 21, 24, 23, 24, 25, 26, 27, 28, 31, 30, 31, 32, 33, 34, 35, 36, 39, 38, 39, 40, 41, 0]) (by kernel_rfl)) (by kernel_rfl) (fun _ _ _ _ _ h => h) hS_ ?_
    generalize w3.drew = wd_ at hS_  ⊢
    iterate 7 ((repeat (first
     | (apply wpY_skip 0 41 rfl rfl (by kernel_rfl); (focus (apply wantF rfl rfl rfl; go_simp; done)); intro K hK; go_simp; apply hK; clear hK K)
     | (apply wpY_seqf 0 41 rfl rfl rfl (by kernel_rfl); (focus (first | exact wantN rfl | (apply wantT rfl rfl rfl; go_simp; done))); (case h => generalize hev_ : Act.eval _ = ev_; have va_ := evE hev_; have vc_ := evC hev_; clear hev_; go_simp; first | done | exact rfl | exact ⟨rfl, rfl⟩); (case hS' => exact hS_.alloc hS_.size _); intro K hK hS2_; go_simp; apply hK; clear hK K hS_; have hS_ := hS2_; clear hS2_)
     | (apply wpY_seqc 0 41 rfl rfl rfl (by kernel_rfl); (focus (first | exact wantN rfl | (apply wantT rfl rfl rfl; go_simp; done))); (case h => intro N_ hN_; generalize hA_ : Act.mk _ _ = A_ at hN_ ⊢; have va_ := evA hA_; clear hA_; have vc_ := acC A_; have vf_ := acF A_; generalize Act.eval A_ = ev_ at va_ vc_ vf_ ⊢; go_simp; first
      | (go_at_call 28; refine (level_new1' x.lv _ _ _ Hp1.out (by simp)).mono ?_; rintro e w9 ⟨rfl, rfl⟩; exact hN_ _ hS_)
      | (go_at_call 29; refine (at_new1' x.c1 x.c2 _ _ _ Hp2.out (by simp)).mono ?_; rintro e w9 ⟨rfl, hb9⟩; exact hN_ _ (hS_.trans (hb9.mono (by have := hS_.size; simp at this; omega))))
      | (go_at_call 25; refine (in_new1' 0 262144 x.sz _ _ _ Hp3.out (by simp)).mono ?_; rintro e w9 ⟨rfl, rfl⟩; exact hN_ _ hS_)
      | (go_at_call 30; refine (bounce_any' x.rs x.gr _ _ Hp4.out).mono ?_; rintro e w9 ⟨rfl, hb9⟩; exact hN_ _ (hS_.trans (hb9.mono hS_.size)))
      | (go_at_call 25; refine (in_new2' 0 16384 x.kk x.mn _ _ _ Hp5.out (by simp)).mono ?_; rintro e w9 ⟨rfl, rfl⟩; exact hN_ _ hS_)
      | (go_at_call 31; refine (ports_any' x.cl x.sw _ _ Hp6.out).mono ?_; rintro e w9 ⟨rfl, hb9⟩; exact hN_ _ (hS_.trans (hb9.mono hS_.size)))
      ); intro K hK wd_ hS2_; go_simp; apply hK; clear hK K hS_; have hS_ := hS2_; clear hS2_; first | clear Hp1 | clear Hp2 | clear Hp3 | clear Hp4 | clear Hp5 | clear Hp6)
     | (apply wpY_seqg 0 41 rfl rfl (by kernel_rfl) true; (focus (first | exact wantN rfl | (apply wantT rfl rfl rfl; go_simp; done))); (case h => intro _ W_ hW_; obtain ⟨y0_, y1_, y2_, y3_, y4_, y5_, y6_, y7_, y8_, y9_, y10_⟩ := atPs_ (hX3.below hW_ hg3); go_simp; try exact rfl); intro K hK; go_simp; apply hK; clear hK K))); try ((fail_if_success (refine wpY_end rfl ?_)); first | (cases p1; rotate_left) | (cases p2; rotate_left) | (cases p3; rotate_left) | (cases p4; rotate_left) | (cases p5; rotate_left) | (cases p6; rotate_left)))
    all_goals (as_aux_lemma =>
     repeat (first
      | (apply wpY_skip 0 41 rfl rfl (by kernel_rfl); (focus (apply wantF rfl rfl rfl; go_simp; done)); intro K hK; go_simp; apply hK; clear hK K)
      | (apply wpY_seqg 0 41 rfl rfl (by kernel_rfl) true; (focus (first | exact wantN rfl | (apply wantT rfl rfl rfl; go_simp; done))); (case h => intro _ W_ hW_; go_simp; try exact rfl); intro K hK; go_simp; apply hK; clear hK K))
     refine wpY_nil (by kernel_rfl) ?_
     (try simp only [List.filterMap_cons, List.filterMap_nil, List.getElem?_cons_succ, List.getElem?_cons_zero])
     (try go_simp)
     have hCk := HC3.out.below hS_ (Nat.le_refl _)
     have hTk := HT3.out.below hS_ HT3.out.lt
     have hBk : Below w.heap.size w wd_ := HB3.out.trans (hS_.mono HB3.out.size)
     have HCk := hQ0 hCk
     have HTk := hQ0 hTk
     have HBk := hQ0 hBk
     have hF_ := HF.out
     simp only [Bool.true_and, Bool.false_and, Bool.and_true, Bool.and_false] at hF_
     have HF2 := hQ0 hF_
     clear hCk hTk hBk hS_ hF_
     go_wp2_with (go_at_call 27; refine (look_any _ cb mb n (w.heap.size + 1) e L x.nm _ _ HCk.out (HN.out x (List.mem_of_getElem? HX.out)) (by unfold maxLen; have := HN2.out; have := HN3.out; omega) hcb hmb).mono ?_; rintro ε w4 ⟨rfl, hb4, m, hm, hC4⟩)
     go_roundg (l.length - (k + 1) + 1)
     case measure => omega
     case rel =>
      refine ⟨k + 1, m, _, _, by omega, by omega, by go_num, by omega, HBk.out.trans (hb4.mono (by have := HBk.out.size; omega)), HTk.out.below hb4 (by omega), hC4, hQ0 ?_⟩
      rw [fold_next HX.out, ← HJ.out]
      unfold Ps.look
      rw [← HF2.out])
  · obtain rfl : k = l.length := by omega
    have HBe := hQ0 hb_ws
    have HTr := hQ0 hTr
    have HCr := hQ0 hCr
    clear hb_ws hTr hCr
    go_wp2_with fail
    show R _ _
    have hj := HJ.out
    rw [List.take_length] at hj
    exact HR.out _ _ n rfl rfl rfl HF3.out.symm HBe.out HTr.out hnk (by rw [← hj]; exact HCr.out)
attribute [local go_sem ↓] evalL getL64 setL64
attribute [local go_sem ↓] getL8 setL8
attribute [local go_sem ↓] getL1 getL0
set_option maxRecDepth 100000 in
set_option maxHeartbeats 8000000 in
theorem lp_fs (w wr : World) (A : Option Addr) (c cb mb n0 N : Nat) (e0 : Int) (L0 : List ByteArray) (l : List Fl) (TC : List Value) (df : List Deferred) (F : List Value) (hF : F.length = 623) (f3 : F[3]? = some (.pointer (some ⟨cb, 0, none⟩))) (f288 : F[288]? = some (.slice A l.length c)) (f289 : F[289]? = some (.int .i64 (l.length : Int))) (f290 : F[290]? = some (.int .i64 0))
  (hA : RowsAt 15 Fl.cells w A l) (hl : l.length ≤ 64) (hnm : ∀ x ∈ l, x.nm.size ≤ maxLen) (hb : Below w.heap.size w wr) (hT : BoxAt wr w.heap.size TC) (hC : CkAt wr cb mb n0 e0 L0) (hn : n0 + l.length ≤ N) (hN : N ≤ 1000) (hcb : w.heap.size < cb) (hmb : w.heap.size < mb) (R : Act → World → Prop)
  (hR : ∀ (F' : List Value) (w' : World) (n : Nat), F'.length = 623 → F'[1]? = F[1]? → F'[2]? = F[2]? → F'[3]? = F[3]? → Below w.heap.size w w' → BoxAt w' w.heap.size TC → n ≤ n0 + l.length → CkAt w' cb mb n (l.foldl Fl.look (e0, L0)).1 (l.foldl Fl.look (e0, L0)).2 → R ⟨F'.toArray, df⟩ w') :
  (blkOf 7 Tryz.f11).wp Tryz.prog (AtEnd R) ⟨F.toArray, df⟩ wr := by
 obtain ⟨s, rfl⟩ := fr623_ex F hF
 have e3 : s 3 = .pointer (some ⟨cb, 0, none⟩) := Option.some.inj f3
 have e288 : s 288 = .slice A l.length c := Option.some.inj f288
 have e289 : s 289 = .int .i64 (l.length : Int) := Option.some.inj f289
 have e290 : s 290 = .int .i64 0 := Option.some.inj f290
 unfold fr623
 rw [e3, e288, e289, e290]
 have HF3 := hQ0 f3
 clear hF e3 f3 e288 f288 e289 f289 e290 f290
 have HA := hQ0 hA
 have HR := hQ0 hR
 have HN := hQ0 hnm
 have HN2 := hQ0 hN
 have HN3 := hQ0 hn
 clear hA hnm hN hn hR
 conv in (blkOf _ _) => whnf
 go_wp2_with fail
 go_loopg [290] (l.length + 1) (fun gk tt wr => ∃ (k n : Nat) (e : Int) (L : List ByteArray), k ≤ l.length ∧ l.length - k < gk ∧ tt = .int .i64 k ∧ n ≤ n0 + k ∧ Below w.heap.size w wr ∧ BoxAt wr w.heap.size TC ∧ CkAt wr cb mb n e L ∧ Hid ((e, L) = ((l.take k).foldl Fl.look (e0, L0))))
 case atStart => exact ⟨0, n0, e0, L0, by omega, by omega, rfl, by omega, hb, hT, hC, hQ0 rfl⟩
 case round =>
  obtain ⟨ws_, rfl⟩ : ∃ z, z = wr := ⟨_, rfl⟩
  clear hb hT hC
  obtain ⟨k, n, e, L, hk, hkk, rfl, hnk, hb_ws, hTr, hCr, HJ⟩ := hrel
  have hz_ws := hb_ws.size
  by_cases hlt : k < l.length
  · obtain ⟨x, hx⟩ : ∃ x, l[k]? = some x := ⟨l[k], by simp⟩
    obtain ⟨g, o, rfl, hg, c0, c1, c2, c3, c4, c5, c6, c7, c8, c9, c10, c11, c12, c13, c14⟩ := Fl.get (HA.out.below hb_ws (Nat.le_refl _)) hx
    have i1 : (k : Int) < (l.length : Int) := by omega
    have HX := hQ0 hx
    have HBe := hQ0 hb_ws
    have HTr := hQ0 hTr
    have HCr := hQ0 hCr
    clear hx hb_ws hTr hCr
    go_upto_region 33 with (fail)
    (refine pin_eqT (fun w3 hE_w3 => ?_))
    obtain ⟨gb, hgb⟩ : ∃ z, z = ws_.heap.size := ⟨_, rfl⟩
    rw [← hgb]
    have hX3 : BoxAt w3 gb x.cells := by rw [hE_w3, hgb]; exact BoxAt.new _ _ _
    have hT3 : BoxAt w3 w.heap.size TC := by rw [hE_w3]; exact HTr.out.alloc _
    have hC3 : CkAt w3 cb mb n e L := by rw [hE_w3]; exact HCr.out.below ((Below.refl _ _).alloc (Nat.le_refl _) _) (Nat.le_refl _)
    have hB3 : Below w.heap.size w w3 := by rw [hE_w3]; exact HBe.out.alloc hz_ws _
    have HGB := hQ0 hgb
    clear hgb hE_w3 c0 c1 c2 c3 c4 c5 c6 c7 c8 c9 c10 c11 c12 c13 c14
    have hg3 := hX3.lt
    have HT3 := hQ0 hT3
    have HC3 := hQ0 hC3
    have HB3 := hQ0 hB3
    clear hT3 hC3 hB3 hg
    obtain ⟨p1, hp1⟩ : ∃ b, b = (in1 0 3 x.lv) := ⟨_, rfl⟩
    have HHp1 := hQ0 hp1
    clear hp1
    obtain ⟨p2, hp2⟩ : ∃ b, b = (nearV 1048576 ⟨x.p1, x.p2⟩) := ⟨_, rfl⟩
    have HHp2 := hQ0 hp2
    clear hp2
    obtain ⟨p3, hp3⟩ : ∃ b, b = (in1 1 262144 x.ln) := ⟨_, rfl⟩
    have HHp3 := hQ0 hp3
    clear hp3
    obtain ⟨p4, hp4⟩ : ∃ b, b = (in1 (-256) 256 x.lo && in1 (-256) 256 x.hi) := ⟨_, rfl⟩
    have HHp4 := hQ0 hp4
    clear hp4
    obtain ⟨p5, hp5⟩ : ∃ b, b = (in1 1 64 x.up && (in1 1 64 x.dn && in1 1 64 x.mx)) := ⟨_, rfl⟩
    have HHp5 := hQ0 hp5
    clear hp5
    obtain ⟨b0, hb0⟩ : ∃ b, b = (decide (x.lo < x.hi)) := ⟨_, rfl⟩
    have HHb0 := hQ0 hb0
    clear hb0
    obtain ⟨b1, hb1⟩ : ∃ b, b = (decide (x.mx * x.ln ≤ 2097152)) := ⟨_, rfl⟩
    have HHb1 := hQ0 hb1
    clear hb1
    obtain ⟨p6, hp6⟩ : ∃ b, b = (in1 0 15 x.rs && in1 0 15 x.gr) := ⟨_, rfl⟩
    have HHp6 := hQ0 hp6
    clear hp6
    obtain ⟨p7, hp7⟩ : ∃ b, b = (in1 (-1) 31 x.cl && in1 (-1) 63 x.sw) := ⟨_, rfl⟩
    have HHp7 := hQ0 hp7
    clear hp7
    as_aux_lemma =>
     refine wp_region_lit ?_
     have hS_ : Below w3.heap.size w3 w3 := Below.refl _ _
     iterate 2 (apply wpL_maybe true (by exact rfl); (case h => intro _; have hY_ := (hX3).below hS_ (hg3); have y0_ := hY_.c 1 (.int .i64 x.lv) (rfl); go_simp; try exact rfl); intro K hK; go_simp; apply hK; clear hK K)
     apply wpL_freshm (S := Below w3.heap.size w3)  true (by exact rfl)
     (case h => intro _; generalize hev_ : Act.eval _ = ev_; (have v295_ := evE hev_ 295; simp only [getL64, getL8, getL1, getL0, opt_true, Bool.not_false] at v295_); have vc_ := evC hev_; clear hev_; go_simp; first | done | exact rfl | exact ⟨rfl, rfl⟩); (case hS => exact hS_); (case hS' => exact (hS_).alloc (hS_).size _)
     intro K hK w_ hS2_ hw0_; have hw_ := hQ0 hw0_; clear hw0_; go_simp; apply hK; clear hK K hS_; have hS_ := hS2_; clear hS2_
     refine wpL_callm (S := Below w3.heap.size w3)  true (by exact rfl) (.bool p1) ?_ hS_ ?_
     · intro _; intro N_ hN_; generalize hA_ : Act.mk _ _ = A_ at hN_ ⊢; (have v296_ := evA hA_ 296; simp only [getL64, getL8, getL1, getL0, opt_true, Bool.not_false] at v296_); clear hA_; have vc_ := acC A_; have vf_ := acF A_; generalize Act.eval A_ = ev_ at vc_ vf_ v296_ ⊢; obtain rfl := hw_.out rfl; go_simp; go_at_call 28; refine (level_new1' x.lv _ _ p1 HHp1.out (by simp)).mono ?_; rintro e w9 ⟨rfl, rfl⟩; exact hN_ _ hS_
     intro K hK w_ hS2_; go_simp; apply hK; clear hK K hS_; have hS_ := hS2_; clear hS2_
     apply wpL_maybe true (by exact rfl)
     (case h => intro _; have hcW_ := (bcellW hS_).1; go_simp; try exact rfl)
     intro K hK; go_simp; apply hK; clear hK K
     apply wpL_maybe p1 (by clear hS_; cases p1 <;> rfl)
     (case h => intro hc_; obtain rfl : p1 = true := hc_; (try simp only [opt_true]); have hcW_ := (bcellW hS_).1; go_simp; try exact rfl)
     intro K hK; go_simp; apply hK; clear hK K
     apply wpL_maybe p1 (by clear hS_; cases p1 <;> rfl)
     (case h => intro hc_; obtain rfl : p1 = true := hc_; (try simp only [opt_true]); have hY_ := (hX3).below hS_ (hg3); have y0_ := hY_.c 2 (.int .i64 x.p1) (rfl); have y1_ := hY_.c 3 (.int .i64 x.p2) (rfl); go_simp; try exact rfl)
     intro K hK; go_simp; apply hK; clear hK K
     apply wpL_freshm (S := Below w3.heap.size w3)  p1 (by clear hS_; cases p1 <;> rfl)
     (case h => intro hc_; obtain rfl : p1 = true := hc_; generalize hev_ : Act.eval _ = ev_; (have v300_ := evE hev_ 300; simp only [getL64, getL8, getL1, getL0, opt_true, Bool.not_false] at v300_); have vc_ := evC hev_; clear hev_; go_simp; first | done | exact rfl | exact ⟨rfl, rfl⟩); (case hS => exact hS_); (case hS' => exact (hS_).alloc (hS_).size _)
     intro K hK w_ hS2_ hw0_; have hw_ := hQ0 hw0_; clear hw0_; go_simp; apply hK; clear hK K hS_; have hS_ := hS2_; clear hS2_
     refine wpL_callm (S := Below w3.heap.size w3)  p1 (by clear hS_; cases p1 <;> rfl) (.bool p2) ?_ hS_ ?_
     · intro hc_; obtain rfl : p1 = true := hc_; intro N_ hN_; generalize hA_ : Act.mk _ _ = A_ at hN_ ⊢; (have v301_ := evA hA_ 301; simp only [getL64, getL8, getL1, getL0, opt_true, Bool.not_false] at v301_); clear hA_; have vc_ := acC A_; have vf_ := acF A_; generalize Act.eval A_ = ev_ at vc_ vf_ v301_ ⊢; obtain rfl := hw_.out rfl; go_simp; go_at_call 29; refine (at_new1' x.p1 x.p2 _ _ p2 HHp2.out (by simp)).mono ?_; rintro e w9 ⟨rfl, hb9⟩; exact hN_ _ (hS_.trans (hb9.mono (by have := hS_.size; simp at this; omega)))
     intro K hK w_ hS2_; go_simp; apply hK; clear hK K hS_; have hS_ := hS2_; clear hS2_
     obtain ⟨d33_1, hd33_1⟩ : ∃ b_, b_ = (p1 && p2) := ⟨_, rfl⟩
     apply wpL_maybe true (by exact rfl) (.bool d33_1) (by intro _; rw [hd33_1]; cases p1 <;> (go_simp; try exact rfl))
     have Hd33_1 := hQ0 hd33_1; clear hd33_1
     intro K hK; go_simp; apply hK; clear hK K
     apply wpL_maybe true (by exact rfl)
     (case h => intro _; have hcW_ := (bcellW hS_).1; go_simp; try exact rfl)
     intro K hK; go_simp; apply hK; clear hK K
     apply wpL_maybe d33_1 (by clear hS_; cases d33_1 <;> rfl)
     (case h => intro hc_; obtain rfl : d33_1 = true := hc_; (try simp only [opt_true]); have hcW_ := (bcellW hS_).1; go_simp; try exact rfl)
     intro K hK; go_simp; apply hK; clear hK K
     apply wpL_maybe d33_1 (by clear hS_; cases d33_1 <;> rfl)
     (case h => intro hc_; obtain rfl : d33_1 = true := hc_; (try simp only [opt_true]); have hY_ := (hX3).below hS_ (hg3); have y0_ := hY_.c 4 (.int .i64 x.ln) (rfl); go_simp; try exact rfl)
     intro K hK; go_simp; apply hK; clear hK K
     apply wpL_freshm (S := Below w3.heap.size w3)  d33_1 (by clear hS_; cases d33_1 <;> rfl)
     (case h => intro hc_; obtain rfl : d33_1 = true := hc_; generalize hev_ : Act.eval _ = ev_; (have v306_ := evE hev_ 306; simp only [getL64, getL8, getL1, getL0, opt_true, Bool.not_false] at v306_); have vc_ := evC hev_; clear hev_; go_simp; first | done | exact rfl | exact ⟨rfl, rfl⟩); (case hS => exact hS_); (case hS' => exact (hS_).alloc (hS_).size _)
     intro K hK w_ hS2_ hw0_; have hw_ := hQ0 hw0_; clear hw0_; go_simp; apply hK; clear hK K hS_; have hS_ := hS2_; clear hS2_
     refine wpL_callm (S := Below w3.heap.size w3)  d33_1 (by clear hS_; cases d33_1 <;> rfl) (.bool p3) ?_ hS_ ?_
     · intro hc_; obtain rfl : d33_1 = true := hc_; intro N_ hN_; generalize hA_ : Act.mk _ _ = A_ at hN_ ⊢; (have v307_ := evA hA_ 307; simp only [getL64, getL8, getL1, getL0, opt_true, Bool.not_false] at v307_); clear hA_; have vc_ := acC A_; have vf_ := acF A_; generalize Act.eval A_ = ev_ at vc_ vf_ v307_ ⊢; obtain rfl := hw_.out rfl; go_simp; go_at_call 25; refine (in_new1' 1 262144 x.ln _ _ p3 HHp3.out (by simp)).mono ?_; rintro e w9 ⟨rfl, rfl⟩; exact hN_ _ hS_
     intro K hK w_ hS2_; go_simp; apply hK; clear hK K hS_; have hS_ := hS2_; clear hS2_
     obtain ⟨d33_2, hd33_2⟩ : ∃ b_, b_ = (d33_1 && p3) := ⟨_, rfl⟩
     apply wpL_maybe true (by exact rfl) (.bool d33_2) (by intro _; rw [hd33_2]; cases d33_1 <;> (go_simp; try exact rfl))
     have Hd33_2 := hQ0 hd33_2; clear hd33_2
     intro K hK; go_simp; apply hK; clear hK K
     apply wpL_maybe true (by exact rfl)
     (case h => intro _; have hcW_ := (bcellW hS_).1; go_simp; try exact rfl)
     intro K hK; go_simp; apply hK; clear hK K
     apply wpL_maybe d33_2 (by clear hS_; cases d33_2 <;> rfl)
     (case h => intro hc_; obtain rfl : d33_2 = true := hc_; (try simp only [opt_true]); have hcW_ := (bcellW hS_).1; go_simp; try exact rfl)
     intro K hK; go_simp; apply hK; clear hK K
     apply wpL_maybe d33_2 (by clear hS_; cases d33_2 <;> rfl)
     (case h => intro hc_; obtain rfl : d33_2 = true := hc_; (try simp only [opt_true]); have hY_ := (hX3).below hS_ (hg3); have y0_ := hY_.c 6 (.int .i64 x.lo) (rfl); go_simp; try exact rfl)
     intro K hK; go_simp; apply hK; clear hK K
     apply wpL_maybe d33_2 (by clear hS_; cases d33_2 <;> rfl)
     (case h => intro hc_; obtain rfl : d33_2 = true := hc_; (try simp only [opt_true]); have hcW_ := (bcellW hS_).1; go_simp; try exact rfl)
     intro K hK; go_simp; apply hK; clear hK K
     as_aux_lemma =>
      apply wpL_maybe d33_2 (by clear hS_; cases d33_2 <;> rfl)
      (case h => intro hc_; obtain rfl : d33_2 = true := hc_; (try simp only [opt_true]); have hY_ := (hX3).below hS_ (hg3); have y0_ := hY_.c 7 (.int .i64 x.hi) (rfl); go_simp; try exact rfl)
      intro K hK; go_simp; apply hK; clear hK K
      apply wpL_freshm (S := Below w3.heap.size w3)  d33_2 (by clear hS_; cases d33_2 <;> rfl)
      (case h => intro hc_; obtain rfl : d33_2 = true := hc_; generalize hev_ : Act.eval _ = ev_; (have v312_ := evE hev_ 312; simp only [getL64, getL8, getL1, getL0, opt_true, Bool.not_false] at v312_); (have v314_ := evE hev_ 314; simp only [getL64, getL8, getL1, getL0, opt_true, Bool.not_false] at v314_); have vc_ := evC hev_; clear hev_; go_simp; first | done | exact rfl | exact ⟨rfl, rfl⟩); (case hS => exact hS_); (case hS' => exact (hS_).alloc (hS_).size _)
      intro K hK w_ hS2_ hw0_; have hw_ := hQ0 hw0_; clear hw0_; go_simp; apply hK; clear hK K hS_; have hS_ := hS2_; clear hS2_
      refine wpL_callm (S := Below w3.heap.size w3)  d33_2 (by clear hS_; cases d33_2 <;> rfl) (.bool p4) ?_ hS_ ?_
      · intro hc_; obtain rfl : d33_2 = true := hc_; intro N_ hN_; generalize hA_ : Act.mk _ _ = A_ at hN_ ⊢; (have v315_ := evA hA_ 315; simp only [getL64, getL8, getL1, getL0, opt_true, Bool.not_false] at v315_); clear hA_; have vc_ := acC A_; have vf_ := acF A_; generalize Act.eval A_ = ev_ at vc_ vf_ v315_ ⊢; obtain rfl := hw_.out rfl; go_simp; go_at_call 25; refine (in_new2' (-256) 256 x.lo x.hi _ _ p4 HHp4.out (by simp)).mono ?_; rintro e w9 ⟨rfl, rfl⟩; exact hN_ _ hS_
      intro K hK w_ hS2_; go_simp; apply hK; clear hK K hS_; have hS_ := hS2_; clear hS2_
      obtain ⟨d33_3, hd33_3⟩ : ∃ b_, b_ = (d33_2 && p4) := ⟨_, rfl⟩
      apply wpL_maybe true (by exact rfl) (.bool d33_3) (by intro _; rw [hd33_3]; cases d33_2 <;> (go_simp; try exact rfl))
      have Hd33_3 := hQ0 hd33_3; clear hd33_3
      intro K hK; go_simp; apply hK; clear hK K
      apply wpL_maybe true (by exact rfl)
      (case h => intro _; have hcW_ := (bcellW hS_).1; go_simp; try exact rfl)
      intro K hK; go_simp; apply hK; clear hK K
      apply wpL_maybe d33_3 (by clear hS_; cases d33_3 <;> rfl)
      (case h => intro hc_; obtain rfl : d33_3 = true := hc_; (try simp only [opt_true]); have hcW_ := (bcellW hS_).1; go_simp; try exact rfl)
      intro K hK; go_simp; apply hK; clear hK K
      apply wpL_maybe d33_3 (by clear hS_; cases d33_3 <;> rfl)
      (case h => intro hc_; obtain rfl : d33_3 = true := hc_; (try simp only [opt_true]); have hY_ := (hX3).below hS_ (hg3); have y0_ := hY_.c 6 (.int .i64 x.lo) (rfl); go_simp; try exact rfl)
      intro K hK; go_simp; apply hK; clear hK K
      apply wpL_maybe d33_3 (by clear hS_; cases d33_3 <;> rfl)
      (case h => intro hc_; obtain rfl : d33_3 = true := hc_; (try simp only [opt_true]); have hcW_ := (bcellW hS_).1; go_simp; try exact rfl)
      intro K hK; go_simp; apply hK; clear hK K
      apply wpL_maybe d33_3 (by clear hS_; cases d33_3 <;> rfl)
      (case h => intro hc_; obtain rfl : d33_3 = true := hc_; (try simp only [opt_true]); have hY_ := (hX3).below hS_ (hg3); have y0_ := hY_.c 7 (.int .i64 x.hi) (rfl); go_simp; try exact rfl)
      intro K hK; go_simp; apply hK; clear hK K
      apply wpL_maybe d33_3 (by clear hS_; cases d33_3 <;> rfl) (.bool b0)
      (case h => intro hc_; obtain rfl : d33_3 = true := hc_; (try simp only [opt_true]); have hcW_ := (bcellW hS_).1; go_simp; rw [HHb0.out]; first | done | exact rfl | (rfl))
      intro K hK; go_simp; apply hK; clear hK K
      obtain ⟨d33_4, hd33_4⟩ : ∃ b_, b_ = (d33_3 && b0) := ⟨_, rfl⟩
      apply wpL_maybe true (by exact rfl) (.bool d33_4) (by intro _; rw [hd33_4]; cases d33_3 <;> (go_simp; try exact rfl))
      have Hd33_4 := hQ0 hd33_4; clear hd33_4
      intro K hK; go_simp; apply hK; clear hK K
      apply wpL_maybe true (by exact rfl)
      (case h => intro _; have hcW_ := (bcellW hS_).1; go_simp; try exact rfl)
      intro K hK; go_simp; apply hK; clear hK K
      apply wpL_maybe d33_4 (by clear hS_; cases d33_4 <;> rfl)
      (case h => intro hc_; obtain rfl : d33_4 = true := hc_; (try simp only [opt_true]); have hcW_ := (bcellW hS_).1; go_simp; try exact rfl)
      intro K hK; go_simp; apply hK; clear hK K
      apply wpL_maybe d33_4 (by clear hS_; cases d33_4 <;> rfl)
      (case h => intro hc_; obtain rfl : d33_4 = true := hc_; (try simp only [opt_true]); have hY_ := (hX3).below hS_ (hg3); have y0_ := hY_.c 8 (.int .i64 x.up) (rfl); go_simp; try exact rfl)
      intro K hK; go_simp; apply hK; clear hK K
      apply wpL_maybe d33_4 (by clear hS_; cases d33_4 <;> rfl)
      (case h => intro hc_; obtain rfl : d33_4 = true := hc_; (try simp only [opt_true]); have hcW_ := (bcellW hS_).1; go_simp; try exact rfl)
      intro K hK; go_simp; apply hK; clear hK K
      apply wpL_maybe d33_4 (by clear hS_; cases d33_4 <;> rfl)
      (case h => intro hc_; obtain rfl : d33_4 = true := hc_; (try simp only [opt_true]); have hY_ := (hX3).below hS_ (hg3); have y0_ := hY_.c 9 (.int .i64 x.dn) (rfl); go_simp; try exact rfl)
      intro K hK; go_simp; apply hK; clear hK K
      apply wpL_maybe d33_4 (by clear hS_; cases d33_4 <;> rfl)
      (case h => intro hc_; obtain rfl : d33_4 = true := hc_; (try simp only [opt_true]); have hcW_ := (bcellW hS_).1; go_simp; try exact rfl)
      intro K hK; go_simp; apply hK; clear hK K
      apply wpL_maybe d33_4 (by clear hS_; cases d33_4 <;> rfl)
      (case h => intro hc_; obtain rfl : d33_4 = true := hc_; (try simp only [opt_true]); have hY_ := (hX3).below hS_ (hg3); have y0_ := hY_.c 10 (.int .i64 x.mx) (rfl); go_simp; try exact rfl)
      intro K hK; go_simp; apply hK; clear hK K
      apply wpL_freshm (S := Below w3.heap.size w3)  d33_4 (by clear hS_; cases d33_4 <;> rfl)
      (case h => intro hc_; obtain rfl : d33_4 = true := hc_; generalize hev_ : Act.eval _ = ev_; (have v327_ := evE hev_ 327; simp only [getL64, getL8, getL1, getL0, opt_true, Bool.not_false] at v327_); (have v329_ := evE hev_ 329; simp only [getL64, getL8, getL1, getL0, opt_true, Bool.not_false] at v329_); (have v331_ := evE hev_ 331; simp only [getL64, getL8, getL1, getL0, opt_true, Bool.not_false] at v331_); have vc_ := evC hev_; clear hev_; go_simp; first | done | exact rfl | exact ⟨rfl, rfl⟩); (case hS => exact hS_); (case hS' => exact (hS_).alloc (hS_).size _)
      intro K hK w_ hS2_ hw0_; have hw_ := hQ0 hw0_; clear hw0_; go_simp; apply hK; clear hK K hS_; have hS_ := hS2_; clear hS2_
      refine wpL_callm (S := Below w3.heap.size w3)  d33_4 (by clear hS_; cases d33_4 <;> rfl) (.bool p5) ?_ hS_ ?_
      · intro hc_; obtain rfl : d33_4 = true := hc_; intro N_ hN_; generalize hA_ : Act.mk _ _ = A_ at hN_ ⊢; (have v332_ := evA hA_ 332; simp only [getL64, getL8, getL1, getL0, opt_true, Bool.not_false] at v332_); clear hA_; have vc_ := acC A_; have vf_ := acF A_; generalize Act.eval A_ = ev_ at vc_ vf_ v332_ ⊢; obtain rfl := hw_.out rfl; go_simp; go_at_call 25; refine (in_new3' 1 64 x.up x.dn x.mx _ _ p5 HHp5.out (by simp)).mono ?_; rintro e w9 ⟨rfl, rfl⟩; exact hN_ _ hS_
      intro K hK w_ hS2_; go_simp; apply hK; clear hK K hS_; have hS_ := hS2_; clear hS2_
      as_aux_lemma =>
       obtain ⟨d33_5, hd33_5⟩ : ∃ b_, b_ = (d33_4 && p5) := ⟨_, rfl⟩
       apply wpL_maybe true (by exact rfl) (.bool d33_5) (by intro _; rw [hd33_5]; cases d33_4 <;> (go_simp; try exact rfl))
       have Hd33_5 := hQ0 hd33_5; clear hd33_5
       intro K hK; go_simp; apply hK; clear hK K
       apply wpL_maybe true (by exact rfl)
       (case h => intro _; have hcW_ := (bcellW hS_).1; go_simp; try exact rfl)
       intro K hK; go_simp; apply hK; clear hK K
       apply wpL_maybe d33_5 (by clear hS_; cases d33_5 <;> rfl)
       (case h => intro hc_; obtain rfl : d33_5 = true := hc_; (try simp only [opt_true]); have hcW_ := (bcellW hS_).1; go_simp; try exact rfl)
       intro K hK; go_simp; apply hK; clear hK K
       apply wpL_maybe d33_5 (by clear hS_; cases d33_5 <;> rfl)
       (case h => intro hc_; obtain rfl : d33_5 = true := hc_; (try simp only [opt_true]); have hY_ := (hX3).below hS_ (hg3); have y0_ := hY_.c 10 (.int .i64 x.mx) (rfl); go_simp; try exact rfl)
       intro K hK; go_simp; apply hK; clear hK K
       apply wpL_maybe d33_5 (by clear hS_; cases d33_5 <;> rfl)
       (case h => intro hc_; obtain rfl : d33_5 = true := hc_; (try simp only [opt_true]); have hcW_ := (bcellW hS_).1; go_simp; try exact rfl)
       intro K hK; go_simp; apply hK; clear hK K
       apply wpL_maybe d33_5 (by clear hS_; cases d33_5 <;> rfl)
       (case h => intro hc_; obtain rfl : d33_5 = true := hc_; (try simp only [opt_true]); have hY_ := (hX3).below hS_ (hg3); have y0_ := hY_.c 4 (.int .i64 x.ln) (rfl); go_simp; try exact rfl)
       intro K hK; go_simp; apply hK; clear hK K
       apply wpL_maybe d33_5 (by clear hS_; cases d33_5 <;> rfl) (.int .i64 (x.mx * x.ln))
       (case h => intro hc_; obtain rfl : d33_5 = true := hc_; (try simp only [opt_true]); have hcW_ := (bcellW hS_).1; go_simp; (have e_ := Hd33_5.out.symm; rw [Hd33_4.out, Hd33_3.out, Hd33_2.out, HHp3.out, HHp5.out] at e_; simp only [in1, Bool.and_eq_true, decide_eq_true_eq] at e_; have m_ := mul_bd x.mx x.ln 64 262144 (by omega) (by omega) (by omega) (by omega); have w_ : IntKind.i64.wrap (x.mx * x.ln) = x.mx * x.ln := (by rw [IntKind.wrap_i64]; omega); rw [w_]))
       intro K hK; go_simp; apply hK; clear hK K
       apply wpL_maybe d33_5 (by clear hS_; cases d33_5 <;> rfl) (.bool b1)
       (case h => intro hc_; obtain rfl : d33_5 = true := hc_; (try simp only [opt_true]); have hcW_ := (bcellW hS_).1; go_simp; rw [HHb1.out]; first | done | exact rfl | (rfl))
       intro K hK; go_simp; apply hK; clear hK K
       obtain ⟨d33_6, hd33_6⟩ : ∃ b_, b_ = (d33_5 && b1) := ⟨_, rfl⟩
       apply wpL_maybe true (by exact rfl) (.bool d33_6) (by intro _; rw [hd33_6]; cases d33_5 <;> (go_simp; try exact rfl))
       have Hd33_6 := hQ0 hd33_6; clear hd33_6
       intro K hK; go_simp; apply hK; clear hK K
       apply wpL_maybe true (by exact rfl)
       (case h => intro _; have hcW_ := (bcellW hS_).1; go_simp; try exact rfl)
       intro K hK; go_simp; apply hK; clear hK K
       refine wpList_nil ?_
       (try go_simp)
       obtain ⟨w5, rfl⟩ : ∃ z, z = w_ := ⟨_, rfl⟩
       have hX5 := hX3.below hS_ hg3
       have hg5 := hX5.lt
       have HT5 := hQ0 (HT3.out.below hS_ HT3.out.lt)
       have HC5 := hQ0 (HC3.out.below hS_ (Nat.le_refl _))
       have HB5 := hQ0 (HB3.out.trans (hS_.mono HB3.out.size))
       clear hX3 hg3 hS_ HT3 HC3 HB3
       as_aux_lemma =>
        go_upto_region 34 with (fail)
        have hS_ : Below w5.heap.size w5 w5.drew := (Below.refl _ _).drew
        refine wp_region_Y (Below w5.heap.size w5) 18 [18] (by kernel_rfl) (by kernel_rfl) (tailBJ_of (nx := [18, 2, 18, 4, 5, 6, 9, 8, 9, 10, 11, 12, 13, 16, 15, 16, 17, 18, 0]) (by kernel_rfl)) (by kernel_rfl) (fun _ _ _ _ _ h => h) hS_ ?_
        generalize w5.drew = wd_ at hS_ ⊢
        iterate 5 (apply wpY_seq 18 rfl (by kernel_rfl) true (by exact rfl); (case h => intro _ W_ hW_; have hY_ := (hX5).below hW_ (hg5); have y0_ := hY_.c 0 (.string x.nm) (rfl); go_simp; try exact rfl); intro K hK; go_simp; apply hK; clear hK K)
        iterate 4 (apply wpY_seq 18 rfl (by kernel_rfl) d33_6 (by clear hS_; cases d33_6 <;> rfl); (case h => intro hc_; obtain rfl : d33_6 = true := hc_; intro W_ hW_; have hY_ := (hX5).below hW_ (hg5); have y0_ := hY_.c 11 (.int .i64 x.rs) (rfl); have y1_ := hY_.c 12 (.int .i64 x.gr) (rfl); go_simp; try exact rfl); intro K hK; go_simp; apply hK; clear hK K)
        refine wpY_callm (i := 9) rfl (by kernel_rfl) d33_6 (by clear hS_; cases d33_6 <;> rfl) (.bool p6) ?_ ?_
        · intro hc_; obtain rfl : d33_6 = true := hc_; intro N_ hN_; generalize hA_ : Act.mk _ _ = A_ at hN_ ⊢; (have v349_ := evA hA_ 349; simp only [getL64, getL8, getL1, getL0, opt_true, Bool.not_false] at v349_); (have v351_ := evA hA_ 351; simp only [getL64, getL8, getL1, getL0, opt_true, Bool.not_false] at v351_); clear hA_; have vc_ := acC A_; have vf_ := acF A_; generalize Act.eval A_ = ev_ at vc_ vf_ v349_ v351_ ⊢; go_simp; go_at_call 30; refine (bounce_any' x.rs x.gr _ p6 HHp6.out).mono ?_; rintro e w9 ⟨rfl, hb9⟩; exact hN_ _ (hS_.trans (hb9.mono hS_.size))
        intro K hK w_ hS2_; go_simp; apply hK; clear hK K hS_; have hS_ := hS2_; clear hS2_
        obtain ⟨d34_1, hd34_1⟩ : ∃ b_, b_ = (d33_6 && p6) := ⟨_, rfl⟩
        apply wpY_maybe (i := 10) rfl (by kernel_rfl) true (by exact rfl) (.bool d34_1) (by intro _ W_ hW_; rw [hd34_1]; cases d33_6 <;> (go_simp; try exact rfl))
        have Hd34_1 := hQ0 hd34_1; clear hd34_1
        intro K hK; go_simp; apply hK; clear hK K
        apply wpY_maybe (i := 11) rfl (by kernel_rfl) true (by exact rfl)
        (case h => intro _ W_ hW_; have hcW_ := (bcellW hW_).1; go_simp; try exact rfl)
        intro K hK; go_simp; apply hK; clear hK K
        iterate 4 (apply wpY_seq 18 rfl (by kernel_rfl) d34_1 (by clear hS_; cases d34_1 <;> rfl); (case h => intro hc_; obtain rfl : d34_1 = true := hc_; intro W_ hW_; have hY_ := (hX5).below hW_ (hg5); have y0_ := hY_.c 13 (.int .i64 x.cl) (rfl); have y1_ := hY_.c 14 (.int .i64 x.sw) (rfl); go_simp; try exact rfl); intro K hK; go_simp; apply hK; clear hK K)
        refine wpY_callm (i := 16) rfl (by kernel_rfl) d34_1 (by clear hS_; cases d34_1 <;> rfl) (.bool p7) ?_ ?_
        · intro hc_; obtain rfl : d34_1 = true := hc_; intro N_ hN_; generalize hA_ : Act.mk _ _ = A_ at hN_ ⊢; (have v356_ := evA hA_ 356; simp only [getL64, getL8, getL1, getL0, opt_true, Bool.not_false] at v356_); (have v358_ := evA hA_ 358; simp only [getL64, getL8, getL1, getL0, opt_true, Bool.not_false] at v358_); clear hA_; have vc_ := acC A_; have vf_ := acF A_; generalize Act.eval A_ = ev_ at vc_ vf_ v356_ v358_ ⊢; go_simp; go_at_call 31; refine (ports_any' x.cl x.sw _ p7 HHp7.out).mono ?_; rintro e w9 ⟨rfl, hb9⟩; exact hN_ _ (hS_.trans (hb9.mono hS_.size))
        intro K hK w_ hS2_; go_simp; apply hK; clear hK K hS_; have hS_ := hS2_; clear hS2_
        obtain ⟨d34_2, hd34_2⟩ : ∃ b_, b_ = (d34_1 && p7) := ⟨_, rfl⟩
        apply wpY_maybe (i := 17) rfl (by kernel_rfl) true (by exact rfl) (.bool d34_2) (by intro _ W_ hW_; rw [hd34_2]; cases d34_1 <;> (go_simp; try exact rfl))
        have Hd34_2 := hQ0 hd34_2; clear hd34_2
        intro K hK; go_simp; apply hK; clear hK K
        refine wpY_nil (by kernel_rfl) ?_
        (try simp only [List.filterMap_cons, List.filterMap_nil, List.getElem?_cons_succ, List.getElem?_cons_zero])
        (try go_simp)
        have HT3 := HT5; have HC3 := HC5; have HB3 := HB5
        as_aux_lemma =>
         have hCk := HC3.out.below hS_ (Nat.le_refl _)
         have hTk := HT3.out.below hS_ HT3.out.lt
         have hBk : Below w.heap.size w w_ := HB3.out.trans (hS_.mono HB3.out.size)
         have HF : Hid (d34_2 = x.fB) := hQ0 (by simp only [Hd34_2.out, Hd34_1.out, Hd33_6.out, Hd33_5.out, Hd33_4.out, Hd33_3.out, Hd33_2.out, Hd33_1.out, HHp1.out, HHp2.out, HHp3.out, HHp4.out, HHp5.out, HHp6.out, HHp7.out, HHb0.out, HHb1.out]; rfl)
         have HCk := hQ0 hCk
         have HTk := hQ0 hTk
         have HBk := hQ0 hBk
         clear hCk hTk hBk hS_
         go_wp2_with (go_at_call 27; refine (look_any _ cb mb n (w.heap.size + 1) e L x.nm d34_2 true HCk.out (HN.out x (List.mem_of_getElem? HX.out)) (by unfold maxLen; have := HN2.out; have := HN3.out; omega) hcb hmb).mono ?_; rintro ε w4 ⟨rfl, hb4, m, hm, hC4⟩)
         go_roundg (l.length - (k + 1) + 1)
         case measure => omega
         case rel =>
          refine ⟨k + 1, m, _, _, by omega, by omega, by go_num, by omega, HBk.out.trans (hb4.mono (by have := HBk.out.size; omega)), HTk.out.below hb4 (by omega), hC4, hQ0 ?_⟩
          rw [fold_next HX.out, ← HJ.out, HF.out]
          rfl
  · obtain rfl : k = l.length := by omega
    have HBe := hQ0 hb_ws
    have HTr := hQ0 hTr
    have HCr := hQ0 hCr
    clear hb_ws hTr hCr
    go_wp2_with fail
    show R _ _
    have hj := HJ.out
    rw [List.take_length] at hj
    exact HR.out _ _ n rfl rfl rfl HF3.out.symm HBe.out HTr.out hnk (by rw [← hj]; exact HCr.out)
end Go.Proofs.YtbpcjpiaimdpnaaGreatDoor
