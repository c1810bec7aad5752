/- Merged texts: Lpzs Lpss Lplas Lprs Lpds Lplns. -/
import Derived.Test.YtbpcjpiaimdpnaaGreatDoorCk4
import Derived.Deep.Cut
set_option linter.unusedSimpArgs false
set_option linter.unusedVariables false
namespace Go.Proofs.YtbpcjpiaimdpnaaGreatDoor
open Go Go.RowKit
set_option linter.unusedVariables false
attribute [local go_sem ↓] evalL getL64 setL64
attribute [local go_sem ↓] getL8 setL8
attribute [local go_sem ↓] getL1 getL0
attribute [local go_sem] opt_true opt_false
theorem atZn_ {W : World} {b : Nat} {x : Zn} (h : BoxAt W b x.cells) : W.cell? ⟨b, 0, none⟩ = some (.string x.nm) ∧ W.cell? ⟨b, 1, none⟩ = some (.int .i64 x.lv) ∧ W.cell? ⟨b, 2, none⟩ = some (.int .i64 x.l1) ∧ W.cell? ⟨b, 3, none⟩ = some (.int .i64 x.l2) ∧ W.cell? ⟨b, 4, none⟩ = some (.int .i64 x.h1) ∧ W.cell? ⟨b, 5, none⟩ = some (.int .i64 x.h2) ∧ W.cell? ⟨b, 6, none⟩ = some (.int .i64 x.f1) ∧ W.cell? ⟨b, 7, none⟩ = some (.int .i64 x.f2) ∧ W.cell? ⟨b, 8, none⟩ = some (.int .i64 x.cl) := ⟨h.c 0 _ rfl, h.c 1 _ rfl, h.c 2 _ rfl, h.c 3 _ rfl, h.c 4 _ rfl, h.c 5 _ rfl, h.c 6 _ rfl, h.c 7 _ rfl, h.c 8 _ rfl⟩
set_option maxRecDepth 100000 in
set_option maxHeartbeats 40000000 in
theorem lp_zs (w wr : World) (A : Option Addr) (c cb mb n0 N : Nat) (e0 : Int) (L0 : List ByteArray) (l : List Zn) (TC : List Value) (df : List Deferred) (F : List Value) (hF : F.length = 623) (f3 : F[3]? = some (.pointer (some ⟨cb, 0, none⟩))) (f364 : F[364]? = some (.slice A l.length c)) (f365 : F[365]? = some (.int .i64 (l.length : Int))) (f366 : F[366]? = some (.int .i64 0))
  (hA : RowsAt 9 Zn.cells w A l) (hl : l.length ≤ 64) (hnm : ∀ x ∈ l, x.nm.size ≤ maxLen) (hb : Below w.heap.size w wr) (hT : BoxAt wr w.heap.size TC) (hC : CkAt wr cb mb n0 e0 L0) (hn : n0 + l.length ≤ N) (hN : N ≤ 1000) (hcb : w.heap.size < cb) (hmb : w.heap.size < mb) (R : Act → World → Prop)
  (hR : ∀ (F' : List Value) (w' : World) (n : Nat), F'.length = 623 → F'[1]? = F[1]? → F'[2]? = F[2]? → F'[3]? = F[3]? → Below w.heap.size w w' → BoxAt w' w.heap.size TC → n ≤ n0 + l.length → CkAt w' cb mb n (l.foldl Zn.look (e0, L0)).1 (l.foldl Zn.look (e0, L0)).2 → R ⟨F'.toArray, df⟩ w') :
  (blkOf 9 Tryz.f11).wp Tryz.prog (AtEnd R) ⟨F.toArray, df⟩ wr := by
 obtain ⟨s, rfl⟩ := fr623_ex F hF
 have e3 : s 3 = .pointer (some ⟨cb, 0, none⟩) := Option.some.inj f3
 have e364 : s 364 = .slice A l.length c := Option.some.inj f364
 have e365 : s 365 = .int .i64 (l.length : Int) := Option.some.inj f365
 have e366 : s 366 = .int .i64 0 := Option.some.inj f366
 unfold fr623
 rw [e3, e364, e365, e366]
 have HF3 := hQ0 f3
 clear hF e3 f3 e364 f364 e365 f365 e366 f366
 have HA := hQ0 hA
 have HR := hQ0 hR
 have HN := hQ0 hnm
 have HN2 := hQ0 hN
 have HN3 := hQ0 hn
 clear hA hnm hN hn hR
 conv in (blkOf _ _) => whnf
 go_wp2_with fail
 go_loopg [366] (l.length + 1) (fun gk tt wr => ∃ (k n : Nat) (e : Int) (L : List ByteArray), k ≤ l.length ∧ l.length - k < gk ∧ tt = .int .i64 k ∧ n ≤ n0 + k ∧ Below w.heap.size w wr ∧ BoxAt wr w.heap.size TC ∧ CkAt wr cb mb n e L ∧ Hid ((e, L) = ((l.take k).foldl Zn.look (e0, L0))))
 case atStart => exact ⟨0, n0, e0, L0, by omega, by omega, rfl, by omega, hb, hT, hC, hQ0 rfl⟩
 case round =>
  obtain ⟨ws_, rfl⟩ : ∃ z, z = wr := ⟨_, rfl⟩
  clear hb hT hC
  obtain ⟨k, n, e, L, hk, hkk, rfl, hnk, hb_ws, hTr, hCr, HJ⟩ := hrel
  have hz_ws := hb_ws.size
  by_cases hlt : k < l.length
  · obtain ⟨x, hx⟩ : ∃ x, l[k]? = some x := ⟨l[k], by simp⟩
    obtain ⟨g, o, rfl, hg, c0, c1, c2, c3, c4, c5, c6, c7, c8⟩ := Zn.get (HA.out.below hb_ws (Nat.le_refl _)) hx
    have i1 : (k : Int) < (l.length : Int) := by omega
    have HX := hQ0 hx
    have HBe := hQ0 hb_ws
    have HTr := hQ0 hTr
    have HCr := hQ0 hCr
    clear hx hb_ws hTr hCr
    go_upto_region 39 with (fail)
    (refine pin_eqT (fun w3 hE_w3 => ?_))
    obtain ⟨gb, hgb⟩ : ∃ z, z = ws_.heap.size := ⟨_, rfl⟩
    rw [← hgb]
    have hX3 : BoxAt w3 gb x.cells := by rw [hE_w3, hgb]; exact BoxAt.new _ _ _
    have hT3 : BoxAt w3 w.heap.size TC := by rw [hE_w3]; exact HTr.out.alloc _
    have hC3 : CkAt w3 cb mb n e L := by rw [hE_w3]; exact HCr.out.below ((Below.refl _ _).alloc (Nat.le_refl _) _) (Nat.le_refl _)
    have hB3 : Below w.heap.size w w3 := by rw [hE_w3]; exact HBe.out.alloc hz_ws _
    have HGB := hQ0 hgb
    clear hgb hE_w3 c0 c1 c2 c3 c4 c5 c6 c7 c8
    have hg3 := hX3.lt
    have HT3 := hQ0 hT3
    have HC3 := hQ0 hC3
    have HB3 := hQ0 hB3
    clear hT3 hC3 hB3 hg
    obtain ⟨p1, hp1⟩ : ∃ b, b = (in1 0 3 x.lv) := ⟨_, rfl⟩
    obtain ⟨p2, hp2⟩ : ∃ b, b = (nearV 1048576 ⟨x.l1, x.l2⟩ && nearV 1048576 ⟨x.h1, x.h2⟩) := ⟨_, rfl⟩
    obtain ⟨p3, hp3⟩ : ∃ b, b = (nearV 256 ⟨x.f1, x.f2⟩) := ⟨_, rfl⟩
    obtain ⟨p4, hp4⟩ : ∃ b, b = (in1 (-1) 31 x.cl) := ⟨_, rfl⟩
    obtain ⟨b0, hb0⟩ : ∃ b, b = (decide (x.l1 < x.h1)) := ⟨_, rfl⟩
    obtain ⟨b1, hb1⟩ : ∃ b, b = (decide (x.l2 < x.h2)) := ⟨_, rfl⟩
    have HF : Hid ((((p1 && p2) && p3) && p4) = x.fB) := hQ0 (by rw [hp1, hp2, hp3, hp4]; rfl)
    have HG : Hid ((b0 && b1) = x.sB) := hQ0 (by rw [hb0, hb1] <;> rfl)
    have Hp1 := hQ0 hp1
    have Hp2 := hQ0 hp2
    have Hp3 := hQ0 hp3
    have Hp4 := hQ0 hp4
    have Hb0 := hQ0 hb0
    have Hb1 := hQ0 hb1
    clear hp1 hp2 hp3 hp4 hb0 hb1
    have hS_ : (Below w3.heap.size w3) w3.drew := (Below.refl _ _).drew
    refine wp_region_Y (Below w3.heap.size w3) 43 [43] (by kernel_rfl) (by kernel_rfl) (tailBJ_of (nx := [43, 2, 43, 4, 5, 6, 7, 8, 9, 12, 11, 12, 13, 14, 15, 16, 17, 18, 19, 20, 21, 22, 23, 24, 25, 26, 43, 28, 29, 33, 31, 32, 33, 34, 35, 36, 37, 41, 39, 40, 41, 42, 43, 0]) (by kernel_rfl)) (by kernel_rfl) (fun _ _ _ _ _ h => h) hS_ ?_
    generalize w3.drew = wd_ at hS_  ⊢
    iterate 5 (first
     | (apply wpY_skip 38 43 rfl rfl (by kernel_rfl); (focus (apply wantF rfl rfl rfl; go_simp; done)); intro K hK; go_simp; apply hK; clear hK K)
     | (apply wpY_seqg 38 43 rfl rfl (by kernel_rfl) true; (focus (first | exact wantN rfl | (apply wantT rfl rfl rfl; go_simp; done))); (case h => intro _ W_ hW_; obtain ⟨y0_, y1_, y2_, y3_, y4_, y5_, y6_, y7_, y8_⟩ := atZn_ (hX3.below hW_ hg3); go_simp; try exact rfl); intro K hK; go_simp; apply hK; clear hK K))
    iterate 7 (first
     | (apply wpY_skip 31 65 rfl rfl (by kernel_rfl); (focus (apply wantF rfl rfl rfl; go_simp; done)); intro K hK; go_simp; apply hK; clear hK K)
     | (refine wpY_seqv 31 65 rfl rfl (by kernel_rfl) true ?_ (.bool b0) ?_ ?_; (focus (first | exact wantN rfl | (apply wantT rfl rfl rfl; go_simp; done))); (focus (intro _ W_ hW_; obtain ⟨y0_, y1_, y2_, y3_, y4_, y5_, y6_, y7_, y8_⟩ := atZn_ (hX3.below hW_ hg3); go_simp; rw [Hb0.out]; first | done | exact rfl | (rfl))); intro K hK; go_simp; apply hK; clear hK K)
     | (apply wpY_seqg 31 65 rfl rfl (by kernel_rfl) true; (focus (first | exact wantN rfl | (apply wantT rfl rfl rfl; go_simp; done))); (case h => intro _ W_ hW_; obtain ⟨y0_, y1_, y2_, y3_, y4_, y5_, y6_, y7_, y8_⟩ := atZn_ (hX3.below hW_ hg3); go_simp; try exact rfl); intro K hK; go_simp; apply hK; clear hK K))
    iterate 5 ((repeat (first
     | (apply wpY_skip 9 36 rfl rfl (by kernel_rfl); (focus (apply wantF rfl rfl rfl; go_simp; done)); intro K hK; go_simp; apply hK; clear hK K)
     | (apply wpY_seqf 9 36 rfl rfl rfl (by kernel_rfl); (focus (first | exact wantN rfl | (apply wantT rfl rfl rfl; go_simp; done))); (case h => generalize hev_ : Act.eval _ = ev_; have va_ := evE hev_; have vc_ := evC hev_; clear hev_; go_simp; first | done | exact rfl | exact ⟨rfl, rfl⟩); (case hS' => exact hS_.alloc hS_.size _); intro K hK hS2_; go_simp; apply hK; clear hK K hS_; have hS_ := hS2_; clear hS2_)
     | (apply wpY_seqc 9 36 rfl rfl rfl (by kernel_rfl); (focus (first | exact wantN rfl | (apply wantT rfl rfl rfl; go_simp; done))); (case h => intro N_ hN_; generalize hA_ : Act.mk _ _ = A_ at hN_ ⊢; have va_ := evA hA_; clear hA_; have vc_ := acC A_; have vf_ := acF A_; generalize Act.eval A_ = ev_ at va_ vc_ vf_ ⊢; go_simp; first
      | (go_at_call 28; refine (level_new1' x.lv _ _ _ Hp1.out (by simp)).mono ?_; rintro e w9 ⟨rfl, rfl⟩; exact hN_ _ hS_)
      | (go_at_call 29; refine (at_new2' x.l1 x.l2 x.h1 x.h2 _ _ _ Hp2.out (by simp)).mono ?_; rintro e w9 ⟨rfl, hb9⟩; exact hN_ _ (hS_.trans (hb9.mono (by have := hS_.size; simp at this; omega))))
      | (go_at_call 26; refine (within_new1' 256 x.f1 x.f2 _ _ _ Hp3.out (by simp) (by omega) (by omega)).mono ?_; rintro e w9 ⟨rfl, hb9⟩; exact hN_ _ (hS_.trans (hb9.mono (by have := hS_.size; simp at this; omega))))
      | (go_at_call 25; refine (in_new1' (-1) 31 x.cl _ _ _ Hp4.out (by simp)).mono ?_; rintro e w9 ⟨rfl, rfl⟩; exact hN_ _ hS_)
      ); intro K hK wd_ hS2_; go_simp; apply hK; clear hK K hS_; have hS_ := hS2_; clear hS2_; first | clear Hp1 | clear Hp2 | clear Hp3 | clear Hp4)
     | (apply wpY_seqg 9 36 rfl rfl (by kernel_rfl) true; (focus (first | exact wantN rfl | (apply wantT rfl rfl rfl; go_simp; done))); (case h => intro _ W_ hW_; obtain ⟨y0_, y1_, y2_, y3_, y4_, y5_, y6_, y7_, y8_⟩ := atZn_ (hX3.below hW_ hg3); go_simp; try exact rfl); intro K hK; go_simp; apply hK; clear hK K))); try ((fail_if_success (refine wpY_end rfl ?_)); first | (cases p1; rotate_left) | (cases p2; rotate_left) | (cases p3; rotate_left) | (cases p4; rotate_left)))
    all_goals (cases b0)
    all_goals (as_aux_lemma =>
     repeat (first
      | (apply wpY_skip 9 36 rfl rfl (by kernel_rfl); (focus (apply wantF rfl rfl rfl; go_simp; done)); intro K hK; go_simp; apply hK; clear hK K)
      | (apply wpY_seqg 9 36 rfl rfl (by kernel_rfl) true; (focus (first | exact wantN rfl | (apply wantT rfl rfl rfl; go_simp; done))); (case h => intro _ W_ hW_; obtain ⟨y0_, y1_, y2_, y3_, y4_, y5_, y6_, y7_, y8_⟩ := atZn_ (hX3.below hW_ hg3); go_simp; try exact rfl); intro K hK; go_simp; apply hK; clear hK K))
     iterate 9 (first
      | (apply wpY_skip 0 43 rfl rfl (by kernel_rfl); (focus (apply wantF rfl rfl rfl; go_simp; done)); intro K hK; go_simp; apply hK; clear hK K)
      | (refine wpY_seqv 1 43 rfl rfl (by kernel_rfl) true ?_ (.bool b1) ?_ ?_; (focus (first | exact wantN rfl | (apply wantT rfl rfl rfl; go_simp; done))); (focus (intro _ W_ hW_; obtain ⟨y0_, y1_, y2_, y3_, y4_, y5_, y6_, y7_, y8_⟩ := atZn_ (hX3.below hW_ hg3); go_simp; rw [Hb1.out]; first | done | exact rfl | (rfl))); intro K hK; go_simp; apply hK; clear hK K)
      | (apply wpY_seqg 0 43 rfl rfl (by kernel_rfl) true; (focus (first | exact wantN rfl | (apply wantT rfl rfl rfl; go_simp; done))); (case h => intro _ W_ hW_; obtain ⟨y0_, y1_, y2_, y3_, y4_, y5_, y6_, y7_, y8_⟩ := atZn_ (hX3.below hW_ hg3); go_simp; try exact rfl); intro K hK; go_simp; apply hK; clear hK K))
     refine wpY_nil (by kernel_rfl) ?_
     (try simp only [List.filterMap_cons, List.filterMap_nil, List.getElem?_cons_succ, List.getElem?_cons_zero])
     (try go_simp)
     have hCk := HC3.out.below hS_ (Nat.le_refl _)
     have hTk := HT3.out.below hS_ HT3.out.lt
     have hBk : Below w.heap.size w wd_ := HB3.out.trans (hS_.mono HB3.out.size)
     have HCk := hQ0 hCk
     have HTk := hQ0 hTk
     have HBk := hQ0 hBk
     have hF_ := HF.out
     have hG_ := HG.out
     simp only [Bool.true_and, Bool.false_and, Bool.and_true, Bool.and_false] at hF_ hG_
     have HG2 := hQ0 hG_
     clear hG_
     have HF2 := hQ0 hF_
     clear hCk hTk hBk hS_ hF_
     go_wp2_with (go_at_call 27; refine (look_any _ cb mb n (w.heap.size + 1) e L x.nm _ _ HCk.out (HN.out x (List.mem_of_getElem? HX.out)) (by unfold maxLen; have := HN2.out; have := HN3.out; omega) hcb hmb).mono ?_; rintro ε w4 ⟨rfl, hb4, m, hm, hC4⟩)
     go_roundg (l.length - (k + 1) + 1)
     case measure => omega
     case rel =>
      refine ⟨k + 1, m, _, _, by omega, by omega, by go_num, by omega, HBk.out.trans (hb4.mono (by have := HBk.out.size; omega)), HTk.out.below hb4 (by omega), hC4, hQ0 ?_⟩
      rw [fold_next HX.out, ← HJ.out]
      unfold Zn.look
      rw [← HF2.out, ← HG2.out])
  · obtain rfl : k = l.length := by omega
    have HBe := hQ0 hb_ws
    have HTr := hQ0 hTr
    have HCr := hQ0 hCr
    clear hb_ws hTr hCr
    go_wp2_with fail
    show R _ _
    have hj := HJ.out
    rw [List.take_length] at hj
    exact HR.out _ _ n rfl rfl rfl HF3.out.symm HBe.out HTr.out hnk (by rw [← hj]; exact HCr.out)
attribute [local go_sem ↓] evalL getL64 setL64
attribute [local go_sem ↓] getL8 setL8
attribute [local go_sem ↓] getL1 getL0
attribute [local go_sem] opt_true opt_false
theorem atSc_ {W : World} {b : Nat} {x : Sc} (h : BoxAt W b x.cells) : W.cell? ⟨b, 0, none⟩ = some (.string x.nm) ∧ W.cell? ⟨b, 1, none⟩ = some (.int .i64 x.lv) ∧ W.cell? ⟨b, 2, none⟩ = some (.int .i64 x.c1) ∧ W.cell? ⟨b, 3, none⟩ = some (.int .i64 x.c2) ∧ W.cell? ⟨b, 4, none⟩ = some (.int .i64 x.sz) ∧ W.cell? ⟨b, 5, none⟩ = some (.int .i64 x.lm) ∧ W.cell? ⟨b, 6, none⟩ = some (.int .i64 x.o1) ∧ W.cell? ⟨b, 7, none⟩ = some (.int .i64 x.o2) ∧ W.cell? ⟨b, 8, none⟩ = some (.int .i64 x.cl) ∧ W.cell? ⟨b, 9, none⟩ = some (.int .i64 x.sw) := ⟨h.c 0 _ rfl, h.c 1 _ rfl, h.c 2 _ rfl, h.c 3 _ rfl, h.c 4 _ rfl, h.c 5 _ rfl, h.c 6 _ rfl, h.c 7 _ rfl, h.c 8 _ rfl, h.c 9 _ rfl⟩
set_option maxRecDepth 100000 in
set_option maxHeartbeats 40000000 in
theorem lp_ss (w wr : World) (A : Option Addr) (c cb mb n0 N : Nat) (e0 : Int) (L0 : List ByteArray) (l : List Sc) (TC : List Value) (rad : Int) (df : List Deferred) (F : List Value) (hF : F.length = 623) (f1 : F[1]? = some (.pointer (some ⟨w.heap.size, 0, none⟩))) (f3 : F[3]? = some (.pointer (some ⟨cb, 0, none⟩))) (f416 : F[416]? = some (.slice A l.length c)) (f417 : F[417]? = some (.int .i64 (l.length : Int))) (f418 : F[418]? = some (.int .i64 0))
  (hA : RowsAt 10 Sc.cells w A l) (hl : l.length ≤ 64) (hnm : ∀ x ∈ l, x.nm.size ≤ maxLen) (hb : Below w.heap.size w wr) (hT : BoxAt wr w.heap.size TC) (hT0 : TC[0]? = some (.int .i64 rad)) (r0 : 0 ≤ rad) (r1 : rad ≤ 32768) (hC : CkAt wr cb mb n0 e0 L0) (hn : n0 + l.length ≤ N) (hN : N ≤ 1000) (hcb : w.heap.size < cb) (hmb : w.heap.size < mb) (R : Act → World → Prop)
  (hR : ∀ (F' : List Value) (w' : World) (n : Nat), F'.length = 623 → F'[1]? = F[1]? → F'[2]? = F[2]? → F'[3]? = F[3]? → Below w.heap.size w w' → BoxAt w' w.heap.size TC → n ≤ n0 + l.length → CkAt w' cb mb n (l.foldl (Sc.look rad) (e0, L0)).1 (l.foldl (Sc.look rad) (e0, L0)).2 → R ⟨F'.toArray, df⟩ w') :
  (blkOf 11 Tryz.f11).wp Tryz.prog (AtEnd R) ⟨F.toArray, df⟩ wr := by
 obtain ⟨s, rfl⟩ := fr623_ex F hF
 have e1 : s 1 = .pointer (some ⟨w.heap.size, 0, none⟩) := Option.some.inj f1
 have e3 : s 3 = .pointer (some ⟨cb, 0, none⟩) := Option.some.inj f3
 have e416 : s 416 = .slice A l.length c := Option.some.inj f416
 have e417 : s 417 = .int .i64 (l.length : Int) := Option.some.inj f417
 have e418 : s 418 = .int .i64 0 := Option.some.inj f418
 unfold fr623
 rw [e1, e3, e416, e417, e418]
 have HF3 := hQ0 f3
 have HF1 := hQ0 f1
 clear hF e1 f1 e3 f3 e416 f416 e417 f417 e418 f418
 have HA := hQ0 hA
 have HR := hQ0 hR
 have HN := hQ0 hnm
 have HN2 := hQ0 hN
 have HN3 := hQ0 hn
 clear hA hnm hN hn hR
 conv in (blkOf _ _) => whnf
 go_wp2_with fail
 go_loopg [418] (l.length + 1) (fun gk tt wr => ∃ (k n : Nat) (e : Int) (L : List ByteArray), k ≤ l.length ∧ l.length - k < gk ∧ tt = .int .i64 k ∧ n ≤ n0 + k ∧ Below w.heap.size w wr ∧ BoxAt wr w.heap.size TC ∧ CkAt wr cb mb n e L ∧ Hid ((e, L) = ((l.take k).foldl (Sc.look rad) (e0, L0))))
 case atStart => exact ⟨0, n0, e0, L0, by omega, by omega, rfl, by omega, hb, hT, hC, hQ0 rfl⟩
 case round =>
  obtain ⟨ws_, rfl⟩ : ∃ z, z = wr := ⟨_, rfl⟩
  clear hb hT hC
  obtain ⟨k, n, e, L, hk, hkk, rfl, hnk, hb_ws, hTr, hCr, HJ⟩ := hrel
  have hz_ws := hb_ws.size
  by_cases hlt : k < l.length
  · obtain ⟨x, hx⟩ : ∃ x, l[k]? = some x := ⟨l[k], by simp⟩
    obtain ⟨g, o, rfl, hg, c0, c1, c2, c3, c4, c5, c6, c7, c8, c9⟩ := Sc.get (HA.out.below hb_ws (Nat.le_refl _)) hx
    have i1 : (k : Int) < (l.length : Int) := by omega
    have HX := hQ0 hx
    have HBe := hQ0 hb_ws
    have HTr := hQ0 hTr
    have HCr := hQ0 hCr
    clear hx hb_ws hTr hCr
    go_upto_region 44 with (fail)
    (refine pin_eqT (fun w3 hE_w3 => ?_))
    obtain ⟨gb, hgb⟩ : ∃ z, z = ws_.heap.size := ⟨_, rfl⟩
    rw [← hgb]
    have hX3 : BoxAt w3 gb x.cells := by rw [hE_w3, hgb]; exact BoxAt.new _ _ _
    have hT3 : BoxAt w3 w.heap.size TC := by rw [hE_w3]; exact HTr.out.alloc _
    have hC3 : CkAt w3 cb mb n e L := by rw [hE_w3]; exact HCr.out.below ((Below.refl _ _).alloc (Nat.le_refl _) _) (Nat.le_refl _)
    have hB3 : Below w.heap.size w w3 := by rw [hE_w3]; exact HBe.out.alloc hz_ws _
    have HGB := hQ0 hgb
    clear hgb hE_w3 c0 c1 c2 c3 c4 c5 c6 c7 c8 c9
    have hg3 := hX3.lt
    have HT3 := hQ0 hT3
    have HC3 := hQ0 hC3
    have HB3 := hQ0 hB3
    clear hT3 hC3 hB3 hg
    obtain ⟨p1, hp1⟩ : ∃ b, b = (in1 0 3 x.lv) := ⟨_, rfl⟩
    obtain ⟨p2, hp2⟩ : ∃ b, b = (nearV 1048576 ⟨x.c1, x.c2⟩) := ⟨_, rfl⟩
    obtain ⟨p3, hp3⟩ : ∃ b, b = (in1 1 262144 x.sz) := ⟨_, rfl⟩
    obtain ⟨p4, hp4⟩ : ∃ b, b = (in1 0 1048576 x.lm) := ⟨_, rfl⟩
    obtain ⟨p5, hp5⟩ : ∃ b, b = (nearV 16384 ⟨x.o1, x.o2⟩) := ⟨_, rfl⟩
    obtain ⟨p6, hp6⟩ : ∃ b, b = (in1 (-1) 31 x.cl && in1 (-1) 63 x.sw) := ⟨_, rfl⟩
    obtain ⟨b0, hb0⟩ : ∃ b, b = (decide (x.sz < rad)) := ⟨_, rfl⟩
    have HF : Hid ((((((p1 && p2) && p3) && p4) && p5) && p6) = x.fB) := hQ0 (by rw [hp1, hp2, hp3, hp4, hp5, hp6]; rfl)
    have HG : Hid (b0 = decide (x.sz < rad)) := hQ0 (by rw [hb0] <;> rfl)
    have Hp1 := hQ0 hp1
    have Hp2 := hQ0 hp2
    have Hp3 := hQ0 hp3
    have Hp4 := hQ0 hp4
    have Hp5 := hQ0 hp5
    have Hp6 := hQ0 hp6
    have Hb0 := hQ0 hb0
    clear hp1 hp2 hp3 hp4 hp5 hp6 hb0
    have hS_ : (Below w3.heap.size w3) w3.drew := (Below.refl _ _).drew
    refine wp_region_Y (Below w3.heap.size w3) 43 [43] (by kernel_rfl) (by kernel_rfl) (tailBJ_of (nx := [43, 2, 43, 4, 5, 6, 7, 8, 9, 10, 11, 12, 13, 14, 15, 16, 17, 18, 19, 20, 21, 22, 23, 24, 25, 26, 27, 28, 29, 30, 31, 32, 33, 36, 35, 36, 37, 43, 39, 42, 41, 42, 43, 0]) (by kernel_rfl)) (by kernel_rfl) (fun _ _ _ _ _ h => h) hS_ ?_
    generalize w3.drew = wd_ at hS_  ⊢
    iterate 5 (first
     | (apply wpY_skip 38 43 rfl rfl (by kernel_rfl); (focus (apply wantF rfl rfl rfl; go_simp; done)); intro K hK; go_simp; apply hK; clear hK K)
     | (apply wpY_seqg 38 43 rfl rfl (by kernel_rfl) true; (focus (first | exact wantN rfl | (apply wantT rfl rfl rfl; go_simp; done))); (case h => intro _ W_ hW_; obtain ⟨y0_, y1_, y2_, y3_, y4_, y5_, y6_, y7_, y8_, y9_⟩ := atSc_ (hX3.below hW_ hg3); have hZ_ := HT3.out.below hW_ HT3.out.lt; have z0_ := hZ_.c 0 _ hT0; go_simp; try exact rfl); intro K hK; go_simp; apply hK; clear hK K))
    iterate 5 (first
     | (apply wpY_skip 33 76 rfl rfl (by kernel_rfl); (focus (apply wantF rfl rfl rfl; go_simp; done)); intro K hK; go_simp; apply hK; clear hK K)
     | (refine wpY_seqv 33 76 rfl rfl (by kernel_rfl) true ?_ (.bool b0) ?_ ?_; (focus (first | exact wantN rfl | (apply wantT rfl rfl rfl; go_simp; done))); (focus (intro _ W_ hW_; obtain ⟨y0_, y1_, y2_, y3_, y4_, y5_, y6_, y7_, y8_, y9_⟩ := atSc_ (hX3.below hW_ hg3); have hZ_ := HT3.out.below hW_ HT3.out.lt; have z0_ := hZ_.c 0 _ hT0; go_simp; rw [Hb0.out]; first | done | exact rfl | (rfl))); intro K hK; go_simp; apply hK; clear hK K)
     | (apply wpY_seqg 33 76 rfl rfl (by kernel_rfl) true; (focus (first | exact wantN rfl | (apply wantT rfl rfl rfl; go_simp; done))); (case h => intro _ W_ hW_; obtain ⟨y0_, y1_, y2_, y3_, y4_, y5_, y6_, y7_, y8_, y9_⟩ := atSc_ (hX3.below hW_ hg3); have hZ_ := HT3.out.below hW_ HT3.out.lt; have z0_ := hZ_.c 0 _ hT0; go_simp; try exact rfl); intro K hK; go_simp; apply hK; clear hK K))
    iterate 7 ((repeat (first
     | (apply wpY_skip 0 38 rfl rfl (by kernel_rfl); (focus (apply wantF rfl rfl rfl; go_simp; done)); intro K hK; go_simp; apply hK; clear hK K)
     | (apply wpY_seqf 0 38 rfl rfl rfl (by kernel_rfl); (focus (first | exact wantN rfl | (apply wantT rfl rfl rfl; go_simp; done))); (case h => generalize hev_ : Act.eval _ = ev_; have va_ := evE hev_; have vc_ := evC hev_; clear hev_; go_simp; first | done | exact rfl | exact ⟨rfl, rfl⟩); (case hS' => exact hS_.alloc hS_.size _); intro K hK hS2_; go_simp; apply hK; clear hK K hS_; have hS_ := hS2_; clear hS2_)
     | (apply wpY_seqc 0 38 rfl rfl rfl (by kernel_rfl); (focus (first | exact wantN rfl | (apply wantT rfl rfl rfl; go_simp; done))); (case h => intro N_ hN_; generalize hA_ : Act.mk _ _ = A_ at hN_ ⊢; have va_ := evA hA_; clear hA_; have vc_ := acC A_; have vf_ := acF A_; generalize Act.eval A_ = ev_ at va_ vc_ vf_ ⊢; go_simp; first
      | (go_at_call 28; refine (level_new1' x.lv _ _ _ Hp1.out (by simp)).mono ?_; rintro e w9 ⟨rfl, rfl⟩; exact hN_ _ hS_)
      | (go_at_call 29; refine (at_new1' x.c1 x.c2 _ _ _ Hp2.out (by simp)).mono ?_; rintro e w9 ⟨rfl, hb9⟩; exact hN_ _ (hS_.trans (hb9.mono (by have := hS_.size; simp at this; omega))))
      | (go_at_call 25; refine (in_new1' 1 262144 x.sz _ _ _ Hp3.out (by simp)).mono ?_; rintro e w9 ⟨rfl, rfl⟩; exact hN_ _ hS_)
      | (go_at_call 25; refine (in_new1' 0 1048576 x.lm _ _ _ Hp4.out (by simp)).mono ?_; rintro e w9 ⟨rfl, rfl⟩; exact hN_ _ hS_)
      | (go_at_call 26; refine (within_new1' 16384 x.o1 x.o2 _ _ _ Hp5.out (by simp) (by omega) (by omega)).mono ?_; rintro e w9 ⟨rfl, hb9⟩; exact hN_ _ (hS_.trans (hb9.mono (by have := hS_.size; simp at this; omega))))
      | (go_at_call 31; refine (ports_any' x.cl x.sw _ _ Hp6.out).mono ?_; rintro e w9 ⟨rfl, hb9⟩; exact hN_ _ (hS_.trans (hb9.mono hS_.size)))
      ); intro K hK wd_ hS2_; go_simp; apply hK; clear hK K hS_; have hS_ := hS2_; clear hS2_; first | clear Hp1 | clear Hp2 | clear Hp3 | clear Hp4 | clear Hp5 | clear Hp6)
     | (apply wpY_seqg 0 38 rfl rfl (by kernel_rfl) true; (focus (first | exact wantN rfl | (apply wantT rfl rfl rfl; go_simp; done))); (case h => intro _ W_ hW_; obtain ⟨y0_, y1_, y2_, y3_, y4_, y5_, y6_, y7_, y8_, y9_⟩ := atSc_ (hX3.below hW_ hg3); have hZ_ := HT3.out.below hW_ HT3.out.lt; have z0_ := hZ_.c 0 _ hT0; go_simp; try exact rfl); intro K hK; go_simp; apply hK; clear hK K))); try ((fail_if_success (refine wpY_end rfl ?_)); first | (cases p1; rotate_left) | (cases p2; rotate_left) | (cases p3; rotate_left) | (cases p4; rotate_left) | (cases p5; rotate_left) | (cases p6; rotate_left)))
    all_goals (as_aux_lemma =>
     repeat (first
      | (apply wpY_skip 0 38 rfl rfl (by kernel_rfl); (focus (apply wantF rfl rfl rfl; go_simp; done)); intro K hK; go_simp; apply hK; clear hK K)
      | (apply wpY_seqg 0 38 rfl rfl (by kernel_rfl) true; (focus (first | exact wantN rfl | (apply wantT rfl rfl rfl; go_simp; done))); (case h => intro _ W_ hW_; go_simp; try exact rfl); intro K hK; go_simp; apply hK; clear hK K))
     refine wpY_nil (by kernel_rfl) ?_
     (try simp only [List.filterMap_cons, List.filterMap_nil, List.getElem?_cons_succ, List.getElem?_cons_zero])
     (try go_simp)
     have hCk := HC3.out.below hS_ (Nat.le_refl _)
     have hTk := HT3.out.below hS_ HT3.out.lt
     have hBk : Below w.heap.size w wd_ := HB3.out.trans (hS_.mono HB3.out.size)
     have HCk := hQ0 hCk
     have HTk := hQ0 hTk
     have HBk := hQ0 hBk
     have hF_ := HF.out
     have hG_ := HG.out
     simp only [Bool.true_and, Bool.false_and, Bool.and_true, Bool.and_false] at hF_ hG_
     have HG2 := hQ0 hG_
     clear hG_
     have HF2 := hQ0 hF_
     clear hCk hTk hBk hS_ hF_
     go_wp2_with (go_at_call 27; refine (look_any _ cb mb n (w.heap.size + 1) e L x.nm _ _ HCk.out (HN.out x (List.mem_of_getElem? HX.out)) (by unfold maxLen; have := HN2.out; have := HN3.out; omega) hcb hmb).mono ?_; rintro ε w4 ⟨rfl, hb4, m, hm, hC4⟩)
     go_roundg (l.length - (k + 1) + 1)
     case measure => omega
     case rel =>
      refine ⟨k + 1, m, _, _, by omega, by omega, by go_num, by omega, HBk.out.trans (hb4.mono (by have := HBk.out.size; omega)), HTk.out.below hb4 (by omega), hC4, hQ0 ?_⟩
      rw [fold_next HX.out, ← HJ.out]
      unfold Sc.look
      rw [← HF2.out, ← HG2.out])
  · obtain rfl : k = l.length := by omega
    have HBe := hQ0 hb_ws
    have HTr := hQ0 hTr
    have HCr := hQ0 hCr
    clear hb_ws hTr hCr
    go_wp2_with fail
    show R _ _
    have hj := HJ.out
    rw [List.take_length] at hj
    exact HR.out _ _ n rfl HF1.out.symm rfl HF3.out.symm HBe.out HTr.out hnk (by rw [← hj]; exact HCr.out)
attribute [local go_sem ↓] evalL getL64 setL64
attribute [local go_sem ↓] getL8 setL8
attribute [local go_sem ↓] getL1 getL0
attribute [local go_sem] opt_true opt_false
theorem atLa_ {W : World} {b : Nat} {x : La} (h : BoxAt W b x.cells) : W.cell? ⟨b, 0, none⟩ = some (.string x.nm) ∧ W.cell? ⟨b, 1, none⟩ = some (.int .i64 x.lv) ∧ W.cell? ⟨b, 2, none⟩ = some (.int .i64 x.c1) ∧ W.cell? ⟨b, 3, none⟩ = some (.int .i64 x.c2) ∧ W.cell? ⟨b, 4, none⟩ = some (.int .i64 x.sz) ∧ W.cell? ⟨b, 5, none⟩ = some (.int .i64 x.sw) := ⟨h.c 0 _ rfl, h.c 1 _ rfl, h.c 2 _ rfl, h.c 3 _ rfl, h.c 4 _ rfl, h.c 5 _ rfl⟩
set_option maxRecDepth 100000 in
set_option maxHeartbeats 40000000 in
theorem lp_las (w wr : World) (A : Option Addr) (c cb mb n0 N : Nat) (e0 : Int) (L0 : List ByteArray) (l : List La) (TC : List Value) (df : List Deferred) (F : List Value) (hF : F.length = 623) (f3 : F[3]? = some (.pointer (some ⟨cb, 0, none⟩))) (f468 : F[468]? = some (.slice A l.length c)) (f469 : F[469]? = some (.int .i64 (l.length : Int))) (f470 : F[470]? = some (.int .i64 0))
  (hA : RowsAt 6 La.cells w A l) (hl : l.length ≤ 64) (hnm : ∀ x ∈ l, x.nm.size ≤ maxLen) (hb : Below w.heap.size w wr) (hT : BoxAt wr w.heap.size TC) (hC : CkAt wr cb mb n0 e0 L0) (hn : n0 + l.length ≤ N) (hN : N ≤ 1000) (hcb : w.heap.size < cb) (hmb : w.heap.size < mb) (R : Act → World → Prop)
  (hR : ∀ (F' : List Value) (w' : World) (n : Nat), F'.length = 623 → F'[1]? = F[1]? → F'[2]? = F[2]? → F'[3]? = F[3]? → Below w.heap.size w w' → BoxAt w' w.heap.size TC → n ≤ n0 + l.length → CkAt w' cb mb n (l.foldl La.look (e0, L0)).1 (l.foldl La.look (e0, L0)).2 → R ⟨F'.toArray, df⟩ w') :
  (blkOf 13 Tryz.f11).wp Tryz.prog (AtEnd R) ⟨F.toArray, df⟩ wr := by
 obtain ⟨s, rfl⟩ := fr623_ex F hF
 have e3 : s 3 = .pointer (some ⟨cb, 0, none⟩) := Option.some.inj f3
 have e468 : s 468 = .slice A l.length c := Option.some.inj f468
 have e469 : s 469 = .int .i64 (l.length : Int) := Option.some.inj f469
 have e470 : s 470 = .int .i64 0 := Option.some.inj f470
 unfold fr623
 rw [e3, e468, e469, e470]
 have HF3 := hQ0 f3
 clear hF e3 f3 e468 f468 e469 f469 e470 f470
 have HA := hQ0 hA
 have HR := hQ0 hR
 have HN := hQ0 hnm
 have HN2 := hQ0 hN
 have HN3 := hQ0 hn
 clear hA hnm hN hn hR
 conv in (blkOf _ _) => whnf
 go_wp2_with fail
 go_loopg [470] (l.length + 1) (fun gk tt wr => ∃ (k n : Nat) (e : Int) (L : List ByteArray), k ≤ l.length ∧ l.length - k < gk ∧ tt = .int .i64 k ∧ n ≤ n0 + k ∧ Below w.heap.size w wr ∧ BoxAt wr w.heap.size TC ∧ CkAt wr cb mb n e L ∧ Hid ((e, L) = ((l.take k).foldl La.look (e0, L0))))
 case atStart => exact ⟨0, n0, e0, L0, by omega, by omega, rfl, by omega, hb, hT, hC, hQ0 rfl⟩
 case round =>
  obtain ⟨ws_, rfl⟩ : ∃ z, z = wr := ⟨_, rfl⟩
  clear hb hT hC
  obtain ⟨k, n, e, L, hk, hkk, rfl, hnk, hb_ws, hTr, hCr, HJ⟩ := hrel
  have hz_ws := hb_ws.size
  by_cases hlt : k < l.length
  · obtain ⟨x, hx⟩ : ∃ x, l[k]? = some x := ⟨l[k], by simp⟩
    obtain ⟨g, o, rfl, hg, c0, c1, c2, c3, c4, c5⟩ := La.get (HA.out.below hb_ws (Nat.le_refl _)) hx
    have i1 : (k : Int) < (l.length : Int) := by omega
    have HX := hQ0 hx
    have HBe := hQ0 hb_ws
    have HTr := hQ0 hTr
    have HCr := hQ0 hCr
    clear hx hb_ws hTr hCr
    go_upto_region 49 with (fail)
    (refine pin_eqT (fun w3 hE_w3 => ?_))
    obtain ⟨gb, hgb⟩ : ∃ z, z = ws_.heap.size := ⟨_, rfl⟩
    rw [← hgb]
    have hX3 : BoxAt w3 gb x.cells := by rw [hE_w3, hgb]; exact BoxAt.new _ _ _
    have hT3 : BoxAt w3 w.heap.size TC := by rw [hE_w3]; exact HTr.out.alloc _
    have hC3 : CkAt w3 cb mb n e L := by rw [hE_w3]; exact HCr.out.below ((Below.refl _ _).alloc (Nat.le_refl _) _) (Nat.le_refl _)
    have hB3 : Below w.heap.size w w3 := by rw [hE_w3]; exact HBe.out.alloc hz_ws _
    have HGB := hQ0 hgb
    clear hgb hE_w3 c0 c1 c2 c3 c4 c5
    have hg3 := hX3.lt
    have HT3 := hQ0 hT3
    have HC3 := hQ0 hC3
    have HB3 := hQ0 hB3
    clear hT3 hC3 hB3 hg
    obtain ⟨p1, hp1⟩ : ∃ b, b = (in1 0 3 x.lv) := ⟨_, rfl⟩
    obtain ⟨p2, hp2⟩ : ∃ b, b = (nearV 1048576 ⟨x.c1, x.c2⟩) := ⟨_, rfl⟩
    obtain ⟨p3, hp3⟩ : ∃ b, b = (in1 1 262144 x.sz) := ⟨_, rfl⟩
    obtain ⟨p4, hp4⟩ : ∃ b, b = (in1 (-1) 63 x.sw) := ⟨_, rfl⟩
    have HF : Hid ((((p1 && p2) && p3) && p4) = x.fB) := hQ0 (by rw [hp1, hp2, hp3, hp4]; rfl)
    have Hp1 := hQ0 hp1
    have Hp2 := hQ0 hp2
    have Hp3 := hQ0 hp3
    have Hp4 := hQ0 hp4
    clear hp1 hp2 hp3 hp4
    have hS_ : (Below w3.heap.size w3) w3.drew := (Below.refl _ _).drew
    refine wp_region_Y (Below w3.heap.size w3) 25 [25] (by kernel_rfl) (by kernel_rfl) (tailBJ_of (nx := [25, 2, 25, 4, 5, 6, 7, 8, 9, 10, 11, 12, 13, 14, 15, 16, 17, 18, 19, 20, 21, 22, 23, 24, 25, 0]) (by kernel_rfl)) (by kernel_rfl) (fun _ _ _ _ _ h => h) hS_ ?_
    generalize w3.drew = wd_ at hS_  ⊢
    iterate 5 ((repeat (first
     | (apply wpY_skip 0 25 rfl rfl (by kernel_rfl); (focus (apply wantF rfl rfl rfl; go_simp; done)); intro K hK; go_simp; apply hK; clear hK K)
     | (apply wpY_seqf 0 25 rfl rfl rfl (by kernel_rfl); (focus (first | exact wantN rfl | (apply wantT rfl rfl rfl; go_simp; done))); (case h => generalize hev_ : Act.eval _ = ev_; have va_ := evE hev_; have vc_ := evC hev_; clear hev_; go_simp; first | done | exact rfl | exact ⟨rfl, rfl⟩); (case hS' => exact hS_.alloc hS_.size _); intro K hK hS2_; go_simp; apply hK; clear hK K hS_; have hS_ := hS2_; clear hS2_)
     | (apply wpY_seqc 0 25 rfl rfl rfl (by kernel_rfl); (focus (first | exact wantN rfl | (apply wantT rfl rfl rfl; go_simp; done))); (case h => intro N_ hN_; generalize hA_ : Act.mk _ _ = A_ at hN_ ⊢; have va_ := evA hA_; clear hA_; have vc_ := acC A_; have vf_ := acF A_; generalize Act.eval A_ = ev_ at va_ vc_ vf_ ⊢; go_simp; first
      | (go_at_call 28; refine (level_new1' x.lv _ _ _ Hp1.out (by simp)).mono ?_; rintro e w9 ⟨rfl, rfl⟩; exact hN_ _ hS_)
      | (go_at_call 29; refine (at_new1' x.c1 x.c2 _ _ _ Hp2.out (by simp)).mono ?_; rintro e w9 ⟨rfl, hb9⟩; exact hN_ _ (hS_.trans (hb9.mono (by have := hS_.size; simp at this; omega))))
      | (go_at_call 25; refine (in_new1' 1 262144 x.sz _ _ _ Hp3.out (by simp)).mono ?_; rintro e w9 ⟨rfl, rfl⟩; exact hN_ _ hS_)
      | (go_at_call 25; refine (in_new1' (-1) 63 x.sw _ _ _ Hp4.out (by simp)).mono ?_; rintro e w9 ⟨rfl, rfl⟩; exact hN_ _ hS_)
      ); intro K hK wd_ hS2_; go_simp; apply hK; clear hK K hS_; have hS_ := hS2_; clear hS2_; first | clear Hp1 | clear Hp2 | clear Hp3 | clear Hp4)
     | (apply wpY_seqg 0 25 rfl rfl (by kernel_rfl) true; (focus (first | exact wantN rfl | (apply wantT rfl rfl rfl; go_simp; done))); (case h => intro _ W_ hW_; obtain ⟨y0_, y1_, y2_, y3_, y4_, y5_⟩ := atLa_ (hX3.below hW_ hg3); go_simp; try exact rfl); intro K hK; go_simp; apply hK; clear hK K))); try ((fail_if_success (refine wpY_end rfl ?_)); first | (cases p1; rotate_left) | (cases p2; rotate_left) | (cases p3; rotate_left) | (cases p4; rotate_left)))
    all_goals (as_aux_lemma =>
     repeat (first
      | (apply wpY_skip 0 25 rfl rfl (by kernel_rfl); (focus (apply wantF rfl rfl rfl; go_simp; done)); intro K hK; go_simp; apply hK; clear hK K)
      | (apply wpY_seqg 0 25 rfl rfl (by kernel_rfl) true; (focus (first | exact wantN rfl | (apply wantT rfl rfl rfl; go_simp; done))); (case h => intro _ W_ hW_; go_simp; try exact rfl); intro K hK; go_simp; apply hK; clear hK K))
     refine wpY_nil (by kernel_rfl) ?_
     (try simp only [List.filterMap_cons, List.filterMap_nil, List.getElem?_cons_succ, List.getElem?_cons_zero])
     (try go_simp)
     have hCk := HC3.out.below hS_ (Nat.le_refl _)
     have hTk := HT3.out.below hS_ HT3.out.lt
     have hBk : Below w.heap.size w wd_ := HB3.out.trans (hS_.mono HB3.out.size)
     have HCk := hQ0 hCk
     have HTk := hQ0 hTk
     have HBk := hQ0 hBk
     have hF_ := HF.out
     simp only [Bool.true_and, Bool.false_and, Bool.and_true, Bool.and_false] at hF_
     have HF2 := hQ0 hF_
     clear hCk hTk hBk hS_ hF_
     go_wp2_with (go_at_call 27; refine (look_any _ cb mb n (w.heap.size + 1) e L x.nm _ _ HCk.out (HN.out x (List.mem_of_getElem? HX.out)) (by unfold maxLen; have := HN2.out; have := HN3.out; omega) hcb hmb).mono ?_; rintro ε w4 ⟨rfl, hb4, m, hm, hC4⟩)
     go_roundg (l.length - (k + 1) + 1)
     case measure => omega
     case rel =>
      refine ⟨k + 1, m, _, _, by omega, by omega, by go_num, by omega, HBk.out.trans (hb4.mono (by have := HBk.out.size; omega)), HTk.out.below hb4 (by omega), hC4, hQ0 ?_⟩
      rw [fold_next HX.out, ← HJ.out]
      unfold La.look
      rw [← HF2.out])
  · obtain rfl : k = l.length := by omega
    have HBe := hQ0 hb_ws
    have HTr := hQ0 hTr
    have HCr := hQ0 hCr
    clear hb_ws hTr hCr
    go_wp2_with fail
    show R _ _
    have hj := HJ.out
    rw [List.take_length] at hj
    exact HR.out _ _ n rfl rfl rfl HF3.out.symm HBe.out HTr.out hnk (by rw [← hj]; exact HCr.out)
attribute [local go_sem ↓] evalL getL64 setL64
attribute [local go_sem ↓] getL8 setL8
attribute [local go_sem ↓] getL1 getL0
attribute [local go_sem] opt_true opt_false
theorem atRa_ {W : World} {b : Nat} {x : Ra} (h : BoxAt W b x.cells) : W.cell? ⟨b, 0, none⟩ = some (.string x.nm) ∧ W.cell? ⟨b, 1, none⟩ = some (.int .i64 x.fr) ∧ W.cell? ⟨b, 2, none⟩ = some (.int .i64 x.to) ∧ W.cell? ⟨b, 3, none⟩ = some (.int .i64 x.c1) ∧ W.cell? ⟨b, 4, none⟩ = some (.int .i64 x.c2) ∧ W.cell? ⟨b, 5, none⟩ = some (.int .i64 x.sz) ∧ W.cell? ⟨b, 6, none⟩ = some (.int .i64 x.d1) ∧ W.cell? ⟨b, 7, none⟩ = some (.int .i64 x.d2) := ⟨h.c 0 _ rfl, h.c 1 _ rfl, h.c 2 _ rfl, h.c 3 _ rfl, h.c 4 _ rfl, h.c 5 _ rfl, h.c 6 _ rfl, h.c 7 _ rfl⟩
set_option maxRecDepth 100000 in
set_option maxHeartbeats 40000000 in
theorem lp_rs (w wr : World) (A : Option Addr) (c cb mb n0 N : Nat) (e0 : Int) (L0 : List ByteArray) (l : List Ra) (TC : List Value) (df : List Deferred) (F : List Value) (hF : F.length = 623) (f3 : F[3]? = some (.pointer (some ⟨cb, 0, none⟩))) (f502 : F[502]? = some (.slice A l.length c)) (f503 : F[503]? = some (.int .i64 (l.length : Int))) (f504 : F[504]? = some (.int .i64 0))
  (hA : RowsAt 8 Ra.cells w A l) (hl : l.length ≤ 64) (hnm : ∀ x ∈ l, x.nm.size ≤ maxLen) (hb : Below w.heap.size w wr) (hT : BoxAt wr w.heap.size TC) (hC : CkAt wr cb mb n0 e0 L0) (hn : n0 + l.length ≤ N) (hN : N ≤ 1000) (hcb : w.heap.size < cb) (hmb : w.heap.size < mb) (R : Act → World → Prop)
  (hR : ∀ (F' : List Value) (w' : World) (n : Nat), F'.length = 623 → F'[1]? = F[1]? → F'[2]? = F[2]? → F'[3]? = F[3]? → Below w.heap.size w w' → BoxAt w' w.heap.size TC → n ≤ n0 + l.length → CkAt w' cb mb n (l.foldl Ra.look (e0, L0)).1 (l.foldl Ra.look (e0, L0)).2 → R ⟨F'.toArray, df⟩ w') :
  (blkOf 15 Tryz.f11).wp Tryz.prog (AtEnd R) ⟨F.toArray, df⟩ wr := by
 obtain ⟨s, rfl⟩ := fr623_ex F hF
 have e3 : s 3 = .pointer (some ⟨cb, 0, none⟩) := Option.some.inj f3
 have e502 : s 502 = .slice A l.length c := Option.some.inj f502
 have e503 : s 503 = .int .i64 (l.length : Int) := Option.some.inj f503
 have e504 : s 504 = .int .i64 0 := Option.some.inj f504
 unfold fr623
 rw [e3, e502, e503, e504]
 have HF3 := hQ0 f3
 clear hF e3 f3 e502 f502 e503 f503 e504 f504
 have HA := hQ0 hA
 have HR := hQ0 hR
 have HN := hQ0 hnm
 have HN2 := hQ0 hN
 have HN3 := hQ0 hn
 clear hA hnm hN hn hR
 conv in (blkOf _ _) => whnf
 go_wp2_with fail
 go_loopg [504] (l.length + 1) (fun gk tt wr => ∃ (k n : Nat) (e : Int) (L : List ByteArray), k ≤ l.length ∧ l.length - k < gk ∧ tt = .int .i64 k ∧ n ≤ n0 + k ∧ Below w.heap.size w wr ∧ BoxAt wr w.heap.size TC ∧ CkAt wr cb mb n e L ∧ Hid ((e, L) = ((l.take k).foldl Ra.look (e0, L0))))
 case atStart => exact ⟨0, n0, e0, L0, by omega, by omega, rfl, by omega, hb, hT, hC, hQ0 rfl⟩
 case round =>
  obtain ⟨ws_, rfl⟩ : ∃ z, z = wr := ⟨_, rfl⟩
  clear hb hT hC
  obtain ⟨k, n, e, L, hk, hkk, rfl, hnk, hb_ws, hTr, hCr, HJ⟩ := hrel
  have hz_ws := hb_ws.size
  by_cases hlt : k < l.length
  · obtain ⟨x, hx⟩ : ∃ x, l[k]? = some x := ⟨l[k], by simp⟩
    obtain ⟨g, o, rfl, hg, c0, c1, c2, c3, c4, c5, c6, c7⟩ := Ra.get (HA.out.below hb_ws (Nat.le_refl _)) hx
    have i1 : (k : Int) < (l.length : Int) := by omega
    have HX := hQ0 hx
    have HBe := hQ0 hb_ws
    have HTr := hQ0 hTr
    have HCr := hQ0 hCr
    clear hx hb_ws hTr hCr
    go_upto_region 54 with (fail)
    (refine pin_eqT (fun w3 hE_w3 => ?_))
    obtain ⟨gb, hgb⟩ : ∃ z, z = ws_.heap.size := ⟨_, rfl⟩
    rw [← hgb]
    have hX3 : BoxAt w3 gb x.cells := by rw [hE_w3, hgb]; exact BoxAt.new _ _ _
    have hT3 : BoxAt w3 w.heap.size TC := by rw [hE_w3]; exact HTr.out.alloc _
    have hC3 : CkAt w3 cb mb n e L := by rw [hE_w3]; exact HCr.out.below ((Below.refl _ _).alloc (Nat.le_refl _) _) (Nat.le_refl _)
    have hB3 : Below w.heap.size w w3 := by rw [hE_w3]; exact HBe.out.alloc hz_ws _
    have HGB := hQ0 hgb
    clear hgb hE_w3 c0 c1 c2 c3 c4 c5 c6 c7
    have hg3 := hX3.lt
    have HT3 := hQ0 hT3
    have HC3 := hQ0 hC3
    have HB3 := hQ0 hB3
    clear hT3 hC3 hB3 hg
    obtain ⟨p1, hp1⟩ : ∃ b, b = (in1 0 3 x.fr && in1 0 3 x.to) := ⟨_, rfl⟩
    obtain ⟨p2, hp2⟩ : ∃ b, b = (nearV 1048576 ⟨x.c1, x.c2⟩) := ⟨_, rfl⟩
    obtain ⟨p3, hp3⟩ : ∃ b, b = (in1 1 262144 x.sz) := ⟨_, rfl⟩
    obtain ⟨p4, hp4⟩ : ∃ b, b = (nearV 16384 ⟨x.d1, x.d2⟩) := ⟨_, rfl⟩
    obtain ⟨b0, hb0⟩ : ∃ b, b = (!decide (x.fr = x.to)) := ⟨_, rfl⟩
    obtain ⟨b1, hb1⟩ : ∃ b, b = (!(decide (x.d1 = 0) && decide (x.d2 = 0))) := ⟨_, rfl⟩
    have HF : Hid ((((p1 && p2) && p3) && p4) = x.fB) := hQ0 (by rw [hp1, hp2, hp3, hp4]; rfl)
    have HG : Hid ((b0 && b1) = x.sB) := hQ0 (by rw [hb0, hb1] <;> rfl)
    have Hp1 := hQ0 hp1
    have Hp2 := hQ0 hp2
    have Hp3 := hQ0 hp3
    have Hp4 := hQ0 hp4
    have Hb0 := hQ0 hb0
    have Hb1 := hQ0 hb1
    clear hp1 hp2 hp3 hp4 hb0 hb1
    have hS_ : (Below w3.heap.size w3) w3.drew := (Below.refl _ _).drew
    refine wp_region_Y (Below w3.heap.size w3) 38 [38] (by kernel_rfl) (by kernel_rfl) (tailBJ_of (nx := [38, 2, 38, 4, 7, 6, 7, 8, 9, 10, 11, 12, 13, 14, 15, 16, 17, 18, 19, 20, 21, 22, 23, 24, 25, 26, 38, 28, 31, 30, 31, 32, 33, 34, 36, 36, 37, 38, 0]) (by kernel_rfl)) (by kernel_rfl) (fun _ _ _ _ _ h => h) hS_ ?_
    generalize w3.drew = wd_ at hS_  ⊢
    iterate 7 (first
     | (apply wpY_skip 31 38 rfl rfl (by kernel_rfl); (focus (apply wantF rfl rfl rfl; go_simp; done)); intro K hK; go_simp; apply hK; clear hK K)
     | (apply wpY_seqg 31 38 rfl rfl (by kernel_rfl) true; (focus (first | exact wantN rfl | (apply wantT rfl rfl rfl; go_simp; done))); (case h => intro _ W_ hW_; obtain ⟨y0_, y1_, y2_, y3_, y4_, y5_, y6_, y7_⟩ := atRa_ (hX3.below hW_ hg3); go_simp; try exact rfl); intro K hK; go_simp; apply hK; clear hK K))
    iterate 5 (first
     | (apply wpY_skip 26 58 rfl rfl (by kernel_rfl); (focus (apply wantF rfl rfl rfl; go_simp; done)); intro K hK; go_simp; apply hK; clear hK K)
     | (refine wpY_seqv 26 58 rfl rfl (by kernel_rfl) true ?_ (.bool b0) ?_ ?_; (focus (first | exact wantN rfl | (apply wantT rfl rfl rfl; go_simp; done))); (focus (intro _ W_ hW_; obtain ⟨y0_, y1_, y2_, y3_, y4_, y5_, y6_, y7_⟩ := atRa_ (hX3.below hW_ hg3); go_simp; rw [Hb0.out]; first | done | exact rfl | (by_cases q1_ : x.fr = x.to <;> simp [q1_]))); intro K hK; go_simp; apply hK; clear hK K)
     | (apply wpY_seqg 26 58 rfl rfl (by kernel_rfl) true; (focus (first | exact wantN rfl | (apply wantT rfl rfl rfl; go_simp; done))); (case h => intro _ W_ hW_; obtain ⟨y0_, y1_, y2_, y3_, y4_, y5_, y6_, y7_⟩ := atRa_ (hX3.below hW_ hg3); go_simp; try exact rfl); intro K hK; go_simp; apply hK; clear hK K))
    iterate 5 ((repeat (first
     | (apply wpY_skip 6 33 rfl rfl (by kernel_rfl); (focus (apply wantF rfl rfl rfl; go_simp; done)); intro K hK; go_simp; apply hK; clear hK K)
     | (apply wpY_seqf 6 33 rfl rfl rfl (by kernel_rfl); (focus (first | exact wantN rfl | (apply wantT rfl rfl rfl; go_simp; done))); (case h => generalize hev_ : Act.eval _ = ev_; have va_ := evE hev_; have vc_ := evC hev_; clear hev_; go_simp; first | done | exact rfl | exact ⟨rfl, rfl⟩); (case hS' => exact hS_.alloc hS_.size _); intro K hK hS2_; go_simp; apply hK; clear hK K hS_; have hS_ := hS2_; clear hS2_)
     | (apply wpY_seqc 6 33 rfl rfl rfl (by kernel_rfl); (focus (first | exact wantN rfl | (apply wantT rfl rfl rfl; go_simp; done))); (case h => intro N_ hN_; generalize hA_ : Act.mk _ _ = A_ at hN_ ⊢; have va_ := evA hA_; clear hA_; have vc_ := acC A_; have vf_ := acF A_; generalize Act.eval A_ = ev_ at va_ vc_ vf_ ⊢; go_simp; first
      | (go_at_call 28; refine (level_new2' x.fr x.to _ _ _ Hp1.out (by simp)).mono ?_; rintro e w9 ⟨rfl, rfl⟩; exact hN_ _ hS_)
      | (go_at_call 29; refine (at_new1' x.c1 x.c2 _ _ _ Hp2.out (by simp)).mono ?_; rintro e w9 ⟨rfl, hb9⟩; exact hN_ _ (hS_.trans (hb9.mono (by have := hS_.size; simp at this; omega))))
      | (go_at_call 25; refine (in_new1' 1 262144 x.sz _ _ _ Hp3.out (by simp)).mono ?_; rintro e w9 ⟨rfl, rfl⟩; exact hN_ _ hS_)
      | (go_at_call 26; refine (within_new1' 16384 x.d1 x.d2 _ _ _ Hp4.out (by simp) (by omega) (by omega)).mono ?_; rintro e w9 ⟨rfl, hb9⟩; exact hN_ _ (hS_.trans (hb9.mono (by have := hS_.size; simp at this; omega))))
      ); intro K hK wd_ hS2_; go_simp; apply hK; clear hK K hS_; have hS_ := hS2_; clear hS2_; first | clear Hp1 | clear Hp2 | clear Hp3 | clear Hp4)
     | (apply wpY_seqg 6 33 rfl rfl (by kernel_rfl) true; (focus (first | exact wantN rfl | (apply wantT rfl rfl rfl; go_simp; done))); (case h => intro _ W_ hW_; obtain ⟨y0_, y1_, y2_, y3_, y4_, y5_, y6_, y7_⟩ := atRa_ (hX3.below hW_ hg3); go_simp; try exact rfl); intro K hK; go_simp; apply hK; clear hK K))); try ((fail_if_success (refine wpY_end rfl ?_)); first | (cases p1; rotate_left) | (cases p2; rotate_left) | (cases p3; rotate_left) | (cases p4; rotate_left)))
    all_goals (cases b0)
    all_goals (as_aux_lemma =>
     repeat (first
      | (apply wpY_skip 6 33 rfl rfl (by kernel_rfl); (focus (apply wantF rfl rfl rfl; go_simp; done)); intro K hK; go_simp; apply hK; clear hK K)
      | (apply wpY_seqg 6 33 rfl rfl (by kernel_rfl) true; (focus (first | exact wantN rfl | (apply wantT rfl rfl rfl; go_simp; done))); (case h => intro _ W_ hW_; obtain ⟨y0_, y1_, y2_, y3_, y4_, y5_, y6_, y7_⟩ := atRa_ (hX3.below hW_ hg3); go_simp; try exact rfl); intro K hK; go_simp; apply hK; clear hK K))
     iterate 6 (first
      | (apply wpY_skip 0 38 rfl rfl (by kernel_rfl); (focus (apply wantF rfl rfl rfl; go_simp; done)); intro K hK; go_simp; apply hK; clear hK K)
      | (refine wpY_seqv 1 38 rfl rfl (by kernel_rfl) true ?_ (.bool b1) ?_ ?_; (focus (first | exact wantN rfl | (apply wantT rfl rfl rfl; go_simp; done))); (focus (intro _ W_ hW_; obtain ⟨y0_, y1_, y2_, y3_, y4_, y5_, y6_, y7_⟩ := atRa_ (hX3.below hW_ hg3); go_simp; rw [Hb1.out]; first | done | exact rfl | (by_cases q1_ : x.d1 = 0 <;> by_cases q2_ : x.d2 = 0 <;> simp [q1_, q2_]))); intro K hK; go_simp; apply hK; clear hK K)
      | (apply wpY_seqg 0 38 rfl rfl (by kernel_rfl) true; (focus (first | exact wantN rfl | (apply wantT rfl rfl rfl; go_simp; done))); (case h => intro _ W_ hW_; obtain ⟨y0_, y1_, y2_, y3_, y4_, y5_, y6_, y7_⟩ := atRa_ (hX3.below hW_ hg3); go_simp; try exact rfl); intro K hK; go_simp; apply hK; clear hK K))
     refine wpY_nil (by kernel_rfl) ?_
     (try simp only [List.filterMap_cons, List.filterMap_nil, List.getElem?_cons_succ, List.getElem?_cons_zero])
     (try go_simp)
     have hCk := HC3.out.below hS_ (Nat.le_refl _)
     have hTk := HT3.out.below hS_ HT3.out.lt
     have hBk : Below w.heap.size w wd_ := HB3.out.trans (hS_.mono HB3.out.size)
     have HCk := hQ0 hCk
     have HTk := hQ0 hTk
     have HBk := hQ0 hBk
     have hF_ := HF.out
     have hG_ := HG.out
     simp only [Bool.true_and, Bool.false_and, Bool.and_true, Bool.and_false] at hF_ hG_
     have HG2 := hQ0 hG_
     clear hG_
     have HF2 := hQ0 hF_
     clear hCk hTk hBk hS_ hF_
     go_wp2_with (go_at_call 27; refine (look_any _ cb mb n (w.heap.size + 1) e L x.nm _ _ HCk.out (HN.out x (List.mem_of_getElem? HX.out)) (by unfold maxLen; have := HN2.out; have := HN3.out; omega) hcb hmb).mono ?_; rintro ε w4 ⟨rfl, hb4, m, hm, hC4⟩)
     go_roundg (l.length - (k + 1) + 1)
     case measure => omega
     case rel =>
      refine ⟨k + 1, m, _, _, by omega, by omega, by go_num, by omega, HBk.out.trans (hb4.mono (by have := HBk.out.size; omega)), HTk.out.below hb4 (by omega), hC4, hQ0 ?_⟩
      rw [fold_next HX.out, ← HJ.out]
      unfold Ra.look
      rw [← HF2.out, ← HG2.out])
  · obtain rfl : k = l.length := by omega
    have HBe := hQ0 hb_ws
    have HTr := hQ0 hTr
    have HCr := hQ0 hCr
    clear hb_ws hTr hCr
    go_wp2_with fail
    show R _ _
    have hj := HJ.out
    rw [List.take_length] at hj
    exact HR.out _ _ n rfl rfl rfl HF3.out.symm HBe.out HTr.out hnk (by rw [← hj]; exact HCr.out)
attribute [local go_sem ↓] evalL getL64 setL64
attribute [local go_sem ↓] getL8 setL8
attribute [local go_sem ↓] getL1 getL0
attribute [local go_sem] opt_true opt_false
theorem atDr_ {W : World} {b : Nat} {x : Dr} (h : BoxAt W b x.cells) : W.cell? ⟨b, 0, none⟩ = some (.string x.nm) ∧ W.cell? ⟨b, 1, none⟩ = some (.int .i64 x.lv) ∧ W.cell? ⟨b, 2, none⟩ = some (.int .i64 x.c1) ∧ W.cell? ⟨b, 3, none⟩ = some (.int .i64 x.c2) ∧ W.cell? ⟨b, 4, none⟩ = some (.int .i64 x.sz) := ⟨h.c 0 _ rfl, h.c 1 _ rfl, h.c 2 _ rfl, h.c 3 _ rfl, h.c 4 _ rfl⟩
set_option maxRecDepth 100000 in
set_option maxHeartbeats 40000000 in
theorem lp_ds (w wr : World) (A : Option Addr) (c cb mb n0 N : Nat) (e0 : Int) (L0 : List ByteArray) (l : List Dr) (TC : List Value) (df : List Deferred) (F : List Value) (hF : F.length = 623) (f3 : F[3]? = some (.pointer (some ⟨cb, 0, none⟩))) (f549 : F[549]? = some (.slice A l.length c)) (f550 : F[550]? = some (.int .i64 (l.length : Int))) (f551 : F[551]? = some (.int .i64 0))
  (hA : RowsAt 5 Dr.cells w A l) (hl : l.length ≤ 64) (hnm : ∀ x ∈ l, x.nm.size ≤ maxLen) (hb : Below w.heap.size w wr) (hT : BoxAt wr w.heap.size TC) (hC : CkAt wr cb mb n0 e0 L0) (hn : n0 + l.length ≤ N) (hN : N ≤ 1000) (hcb : w.heap.size < cb) (hmb : w.heap.size < mb) (R : Act → World → Prop)
  (hR : ∀ (F' : List Value) (w' : World) (n : Nat), F'.length = 623 → F'[1]? = F[1]? → F'[2]? = F[2]? → F'[3]? = F[3]? → Below w.heap.size w w' → BoxAt w' w.heap.size TC → n ≤ n0 + l.length → CkAt w' cb mb n (l.foldl Dr.look (e0, L0)).1 (l.foldl Dr.look (e0, L0)).2 → R ⟨F'.toArray, df⟩ w') :
  (blkOf 17 Tryz.f11).wp Tryz.prog (AtEnd R) ⟨F.toArray, df⟩ wr := by
 obtain ⟨s, rfl⟩ := fr623_ex F hF
 have e3 : s 3 = .pointer (some ⟨cb, 0, none⟩) := Option.some.inj f3
 have e549 : s 549 = .slice A l.length c := Option.some.inj f549
 have e550 : s 550 = .int .i64 (l.length : Int) := Option.some.inj f550
 have e551 : s 551 = .int .i64 0 := Option.some.inj f551
 unfold fr623
 rw [e3, e549, e550, e551]
 have HF3 := hQ0 f3
 clear hF e3 f3 e549 f549 e550 f550 e551 f551
 have HA := hQ0 hA
 have HR := hQ0 hR
 have HN := hQ0 hnm
 have HN2 := hQ0 hN
 have HN3 := hQ0 hn
 clear hA hnm hN hn hR
 conv in (blkOf _ _) => whnf
 go_wp2_with fail
 go_loopg [551] (l.length + 1) (fun gk tt wr => ∃ (k n : Nat) (e : Int) (L : List ByteArray), k ≤ l.length ∧ l.length - k < gk ∧ tt = .int .i64 k ∧ n ≤ n0 + k ∧ Below w.heap.size w wr ∧ BoxAt wr w.heap.size TC ∧ CkAt wr cb mb n e L ∧ Hid ((e, L) = ((l.take k).foldl Dr.look (e0, L0))))
 case atStart => exact ⟨0, n0, e0, L0, by omega, by omega, rfl, by omega, hb, hT, hC, hQ0 rfl⟩
 case round =>
  obtain ⟨ws_, rfl⟩ : ∃ z, z = wr := ⟨_, rfl⟩
  clear hb hT hC
  obtain ⟨k, n, e, L, hk, hkk, rfl, hnk, hb_ws, hTr, hCr, HJ⟩ := hrel
  have hz_ws := hb_ws.size
  by_cases hlt : k < l.length
  · obtain ⟨x, hx⟩ : ∃ x, l[k]? = some x := ⟨l[k], by simp⟩
    obtain ⟨g, o, rfl, hg, c0, c1, c2, c3, c4⟩ := Dr.get (HA.out.below hb_ws (Nat.le_refl _)) hx
    have i1 : (k : Int) < (l.length : Int) := by omega
    have HX := hQ0 hx
    have HBe := hQ0 hb_ws
    have HTr := hQ0 hTr
    have HCr := hQ0 hCr
    clear hx hb_ws hTr hCr
    go_upto_region 59 with (fail)
    (refine pin_eqT (fun w3 hE_w3 => ?_))
    obtain ⟨gb, hgb⟩ : ∃ z, z = ws_.heap.size := ⟨_, rfl⟩
    rw [← hgb]
    have hX3 : BoxAt w3 gb x.cells := by rw [hE_w3, hgb]; exact BoxAt.new _ _ _
    have hT3 : BoxAt w3 w.heap.size TC := by rw [hE_w3]; exact HTr.out.alloc _
    have hC3 : CkAt w3 cb mb n e L := by rw [hE_w3]; exact HCr.out.below ((Below.refl _ _).alloc (Nat.le_refl _) _) (Nat.le_refl _)
    have hB3 : Below w.heap.size w w3 := by rw [hE_w3]; exact HBe.out.alloc hz_ws _
    have HGB := hQ0 hgb
    clear hgb hE_w3 c0 c1 c2 c3 c4
    have hg3 := hX3.lt
    have HT3 := hQ0 hT3
    have HC3 := hQ0 hC3
    have HB3 := hQ0 hB3
    clear hT3 hC3 hB3 hg
    obtain ⟨p1, hp1⟩ : ∃ b, b = (in1 0 3 x.lv) := ⟨_, rfl⟩
    obtain ⟨p2, hp2⟩ : ∃ b, b = (nearV 1048576 ⟨x.c1, x.c2⟩) := ⟨_, rfl⟩
    obtain ⟨p3, hp3⟩ : ∃ b, b = (in1 1 262144 x.sz) := ⟨_, rfl⟩
    have HF : Hid (((p1 && p2) && p3) = x.fB) := hQ0 (by rw [hp1, hp2, hp3]; rfl)
    have Hp1 := hQ0 hp1
    have Hp2 := hQ0 hp2
    have Hp3 := hQ0 hp3
    clear hp1 hp2 hp3
    have hS_ : (Below w3.heap.size w3) w3.drew := (Below.refl _ _).drew
    refine wp_region_Y (Below w3.heap.size w3) 19 [19] (by kernel_rfl) (by kernel_rfl) (tailBJ_of (nx := [19, 2, 19, 4, 5, 6, 7, 8, 9, 10, 11, 12, 13, 14, 15, 16, 17, 18, 19, 0]) (by kernel_rfl)) (by kernel_rfl) (fun _ _ _ _ _ h => h) hS_ ?_
    generalize w3.drew = wd_ at hS_  ⊢
    iterate 4 ((repeat (first
     | (apply wpY_skip 0 19 rfl rfl (by kernel_rfl); (focus (apply wantF rfl rfl rfl; go_simp; done)); intro K hK; go_simp; apply hK; clear hK K)
     | (apply wpY_seqf 0 19 rfl rfl rfl (by kernel_rfl); (focus (first | exact wantN rfl | (apply wantT rfl rfl rfl; go_simp; done))); (case h => generalize hev_ : Act.eval _ = ev_; have va_ := evE hev_; have vc_ := evC hev_; clear hev_; go_simp; first | done | exact rfl | exact ⟨rfl, rfl⟩); (case hS' => exact hS_.alloc hS_.size _); intro K hK hS2_; go_simp; apply hK; clear hK K hS_; have hS_ := hS2_; clear hS2_)
     | (apply wpY_seqc 0 19 rfl rfl rfl (by kernel_rfl); (focus (first | exact wantN rfl | (apply wantT rfl rfl rfl; go_simp; done))); (case h => intro N_ hN_; generalize hA_ : Act.mk _ _ = A_ at hN_ ⊢; have va_ := evA hA_; clear hA_; have vc_ := acC A_; have vf_ := acF A_; generalize Act.eval A_ = ev_ at va_ vc_ vf_ ⊢; go_simp; first
      | (go_at_call 28; refine (level_new1' x.lv _ _ _ Hp1.out (by simp)).mono ?_; rintro e w9 ⟨rfl, rfl⟩; exact hN_ _ hS_)
      | (go_at_call 29; refine (at_new1' x.c1 x.c2 _ _ _ Hp2.out (by simp)).mono ?_; rintro e w9 ⟨rfl, hb9⟩; exact hN_ _ (hS_.trans (hb9.mono (by have := hS_.size; simp at this; omega))))
      | (go_at_call 25; refine (in_new1' 1 262144 x.sz _ _ _ Hp3.out (by simp)).mono ?_; rintro e w9 ⟨rfl, rfl⟩; exact hN_ _ hS_)
      ); intro K hK wd_ hS2_; go_simp; apply hK; clear hK K hS_; have hS_ := hS2_; clear hS2_; first | clear Hp1 | clear Hp2 | clear Hp3)
     | (apply wpY_seqg 0 19 rfl rfl (by kernel_rfl) true; (focus (first | exact wantN rfl | (apply wantT rfl rfl rfl; go_simp; done))); (case h => intro _ W_ hW_; obtain ⟨y0_, y1_, y2_, y3_, y4_⟩ := atDr_ (hX3.below hW_ hg3); go_simp; try exact rfl); intro K hK; go_simp; apply hK; clear hK K))); try ((fail_if_success (refine wpY_end rfl ?_)); first | (cases p1; rotate_left) | (cases p2; rotate_left) | (cases p3; rotate_left)))
    all_goals (as_aux_lemma =>
     repeat (first
      | (apply wpY_skip 0 19 rfl rfl (by kernel_rfl); (focus (apply wantF rfl rfl rfl; go_simp; done)); intro K hK; go_simp; apply hK; clear hK K)
      | (apply wpY_seqg 0 19 rfl rfl (by kernel_rfl) true; (focus (first | exact wantN rfl | (apply wantT rfl rfl rfl; go_simp; done))); (case h => intro _ W_ hW_; go_simp; try exact rfl); intro K hK; go_simp; apply hK; clear hK K))
     refine wpY_nil (by kernel_rfl) ?_
     (try simp only [List.filterMap_cons, List.filterMap_nil, List.getElem?_cons_succ, List.getElem?_cons_zero])
     (try go_simp)
     have hCk := HC3.out.below hS_ (Nat.le_refl _)
     have hTk := HT3.out.below hS_ HT3.out.lt
     have hBk : Below w.heap.size w wd_ := HB3.out.trans (hS_.mono HB3.out.size)
     have HCk := hQ0 hCk
     have HTk := hQ0 hTk
     have HBk := hQ0 hBk
     have hF_ := HF.out
     simp only [Bool.true_and, Bool.false_and, Bool.and_true, Bool.and_false] at hF_
     have HF2 := hQ0 hF_
     clear hCk hTk hBk hS_ hF_
     go_wp2_with (go_at_call 27; refine (look_any _ cb mb n (w.heap.size + 1) e L x.nm _ _ HCk.out (HN.out x (List.mem_of_getElem? HX.out)) (by unfold maxLen; have := HN2.out; have := HN3.out; omega) hcb hmb).mono ?_; rintro ε w4 ⟨rfl, hb4, m, hm, hC4⟩)
     go_roundg (l.length - (k + 1) + 1)
     case measure => omega
     case rel =>
      refine ⟨k + 1, m, _, _, by omega, by omega, by go_num, by omega, HBk.out.trans (hb4.mono (by have := HBk.out.size; omega)), HTk.out.below hb4 (by omega), hC4, hQ0 ?_⟩
      rw [fold_next HX.out, ← HJ.out]
      unfold Dr.look
      rw [← HF2.out])
  · obtain rfl : k = l.length := by omega
    have HBe := hQ0 hb_ws
    have HTr := hQ0 hTr
    have HCr := hQ0 hCr
    clear hb_ws hTr hCr
    go_wp2_with fail
    show R _ _
    have hj := HJ.out
    rw [List.take_length] at hj
    exact HR.out _ _ n rfl rfl rfl HF3.out.symm HBe.out HTr.out hnk (by rw [← hj]; exact HCr.out)
attribute [local go_sem ↓] evalL getL64 setL64
attribute [local go_sem ↓] getL8 setL8
attribute [local go_sem ↓] getL1 getL0
attribute [local go_sem] opt_true opt_false
theorem atLn_ {W : World} {b : Nat} {x : Ln} (h : BoxAt W b x.cells) : W.cell? ⟨b, 0, none⟩ = some (.string x.nm) ∧ W.cell? ⟨b, 1, none⟩ = some (.int .i64 x.lv) ∧ W.cell? ⟨b, 2, none⟩ = some (.int .i64 x.a1) ∧ W.cell? ⟨b, 3, none⟩ = some (.int .i64 x.a2) ∧ W.cell? ⟨b, 4, none⟩ = some (.int .i64 x.v1) ∧ W.cell? ⟨b, 5, none⟩ = some (.int .i64 x.v2) ∧ W.cell? ⟨b, 6, none⟩ = some (.int .i64 x.cl) := ⟨h.c 0 _ rfl, h.c 1 _ rfl, h.c 2 _ rfl, h.c 3 _ rfl, h.c 4 _ rfl, h.c 5 _ rfl, h.c 6 _ rfl⟩
set_option maxRecDepth 100000 in
set_option maxHeartbeats 40000000 in
theorem lp_lns (w wr : World) (A : Option Addr) (c cb mb n0 N : Nat) (e0 : Int) (L0 : List ByteArray) (l : List Ln) (TC : List Value) (df : List Deferred) (F : List Value) (hF : F.length = 623) (f3 : F[3]? = some (.pointer (some ⟨cb, 0, none⟩))) (f577 : F[577]? = some (.slice A l.length c)) (f578 : F[578]? = some (.int .i64 (l.length : Int))) (f579 : F[579]? = some (.int .i64 0))
  (hA : RowsAt 7 Ln.cells w A l) (hl : l.length ≤ 64) (hnm : ∀ x ∈ l, x.nm.size ≤ maxLen) (hb : Below w.heap.size w wr) (hT : BoxAt wr w.heap.size TC) (hC : CkAt wr cb mb n0 e0 L0) (hn : n0 + l.length ≤ N) (hN : N ≤ 1000) (hcb : w.heap.size < cb) (hmb : w.heap.size < mb) (R : Act → World → Prop)
  (hR : ∀ (F' : List Value) (w' : World) (n : Nat), F'.length = 623 → F'[1]? = F[1]? → F'[2]? = F[2]? → F'[3]? = F[3]? → Below w.heap.size w w' → BoxAt w' w.heap.size TC → n ≤ n0 + l.length → CkAt w' cb mb n (l.foldl Ln.look (e0, L0)).1 (l.foldl Ln.look (e0, L0)).2 → R ⟨F'.toArray, df⟩ w') :
  (blkOf 19 Tryz.f11).wp Tryz.prog (AtEnd R) ⟨F.toArray, df⟩ wr := by
 obtain ⟨s, rfl⟩ := fr623_ex F hF
 have e3 : s 3 = .pointer (some ⟨cb, 0, none⟩) := Option.some.inj f3
 have e577 : s 577 = .slice A l.length c := Option.some.inj f577
 have e578 : s 578 = .int .i64 (l.length : Int) := Option.some.inj f578
 have e579 : s 579 = .int .i64 0 := Option.some.inj f579
 unfold fr623
 rw [e3, e577, e578, e579]
 have HF3 := hQ0 f3
 clear hF e3 f3 e577 f577 e578 f578 e579 f579
 have HA := hQ0 hA
 have HR := hQ0 hR
 have HN := hQ0 hnm
 have HN2 := hQ0 hN
 have HN3 := hQ0 hn
 clear hA hnm hN hn hR
 conv in (blkOf _ _) => whnf
 go_wp2_with fail
 go_loopg [579] (l.length + 1) (fun gk tt wr => ∃ (k n : Nat) (e : Int) (L : List ByteArray), k ≤ l.length ∧ l.length - k < gk ∧ tt = .int .i64 k ∧ n ≤ n0 + k ∧ Below w.heap.size w wr ∧ BoxAt wr w.heap.size TC ∧ CkAt wr cb mb n e L ∧ Hid ((e, L) = ((l.take k).foldl Ln.look (e0, L0))))
 case atStart => exact ⟨0, n0, e0, L0, by omega, by omega, rfl, by omega, hb, hT, hC, hQ0 rfl⟩
 case round =>
  obtain ⟨ws_, rfl⟩ : ∃ z, z = wr := ⟨_, rfl⟩
  clear hb hT hC
  obtain ⟨k, n, e, L, hk, hkk, rfl, hnk, hb_ws, hTr, hCr, HJ⟩ := hrel
  have hz_ws := hb_ws.size
  by_cases hlt : k < l.length
  · obtain ⟨x, hx⟩ : ∃ x, l[k]? = some x := ⟨l[k], by simp⟩
    obtain ⟨g, o, rfl, hg, c0, c1, c2, c3, c4, c5, c6⟩ := Ln.get (HA.out.below hb_ws (Nat.le_refl _)) hx
    have i1 : (k : Int) < (l.length : Int) := by omega
    have HX := hQ0 hx
    have HBe := hQ0 hb_ws
    have HTr := hQ0 hTr
    have HCr := hQ0 hCr
    clear hx hb_ws hTr hCr
    go_upto_region 64 with (fail)
    (refine pin_eqT (fun w3 hE_w3 => ?_))
    obtain ⟨gb, hgb⟩ : ∃ z, z = ws_.heap.size := ⟨_, rfl⟩
    rw [← hgb]
    have hX3 : BoxAt w3 gb x.cells := by rw [hE_w3, hgb]; exact BoxAt.new _ _ _
    have hT3 : BoxAt w3 w.heap.size TC := by rw [hE_w3]; exact HTr.out.alloc _
    have hC3 : CkAt w3 cb mb n e L := by rw [hE_w3]; exact HCr.out.below ((Below.refl _ _).alloc (Nat.le_refl _) _) (Nat.le_refl _)
    have hB3 : Below w.heap.size w w3 := by rw [hE_w3]; exact HBe.out.alloc hz_ws _
    have HGB := hQ0 hgb
    clear hgb hE_w3 c0 c1 c2 c3 c4 c5 c6
    have hg3 := hX3.lt
    have HT3 := hQ0 hT3
    have HC3 := hQ0 hC3
    have HB3 := hQ0 hB3
    clear hT3 hC3 hB3 hg
    obtain ⟨p1, hp1⟩ : ∃ b, b = (in1 0 3 x.lv) := ⟨_, rfl⟩
    obtain ⟨p2, hp2⟩ : ∃ b, b = (nearV 1048576 ⟨x.a1, x.a2⟩) := ⟨_, rfl⟩
    obtain ⟨p3, hp3⟩ : ∃ b, b = (nearV 16384 ⟨x.v1, x.v2⟩) := ⟨_, rfl⟩
    obtain ⟨p4, hp4⟩ : ∃ b, b = (in1 0 31 x.cl) := ⟨_, rfl⟩
    have HF : Hid ((((p1 && p2) && p3) && p4) = x.fB) := hQ0 (by rw [hp1, hp2, hp3, hp4]; rfl)
    have Hp1 := hQ0 hp1
    have Hp2 := hQ0 hp2
    have Hp3 := hQ0 hp3
    have Hp4 := hQ0 hp4
    clear hp1 hp2 hp3 hp4
    have hS_ : (Below w3.heap.size w3) w3.drew := (Below.refl _ _).drew
    refine wp_region_Y (Below w3.heap.size w3) 25 [25] (by kernel_rfl) (by kernel_rfl) (tailBJ_of (nx := [25, 2, 25, 4, 5, 6, 7, 8, 9, 10, 11, 12, 13, 14, 15, 16, 17, 18, 19, 20, 21, 22, 23, 24, 25, 0]) (by kernel_rfl)) (by kernel_rfl) (fun _ _ _ _ _ h => h) hS_ ?_
    generalize w3.drew = wd_ at hS_  ⊢
    iterate 5 ((repeat (first
     | (apply wpY_skip 0 25 rfl rfl (by kernel_rfl); (focus (apply wantF rfl rfl rfl; go_simp; done)); intro K hK; go_simp; apply hK; clear hK K)
     | (apply wpY_seqf 0 25 rfl rfl rfl (by kernel_rfl); (focus (first | exact wantN rfl | (apply wantT rfl rfl rfl; go_simp; done))); (case h => generalize hev_ : Act.eval _ = ev_; have va_ := evE hev_; have vc_ := evC hev_; clear hev_; go_simp; first | done | exact rfl | exact ⟨rfl, rfl⟩); (case hS' => exact hS_.alloc hS_.size _); intro K hK hS2_; go_simp; apply hK; clear hK K hS_; have hS_ := hS2_; clear hS2_)
     | (apply wpY_seqc 0 25 rfl rfl rfl (by kernel_rfl); (focus (first | exact wantN rfl | (apply wantT rfl rfl rfl; go_simp; done))); (case h => intro N_ hN_; generalize hA_ : Act.mk _ _ = A_ at hN_ ⊢; have va_ := evA hA_; clear hA_; have vc_ := acC A_; have vf_ := acF A_; generalize Act.eval A_ = ev_ at va_ vc_ vf_ ⊢; go_simp; first
      | (go_at_call 28; refine (level_new1' x.lv _ _ _ Hp1.out (by simp)).mono ?_; rintro e w9 ⟨rfl, rfl⟩; exact hN_ _ hS_)
      | (go_at_call 29; refine (at_new1' x.a1 x.a2 _ _ _ Hp2.out (by simp)).mono ?_; rintro e w9 ⟨rfl, hb9⟩; exact hN_ _ (hS_.trans (hb9.mono (by have := hS_.size; simp at this; omega))))
      | (go_at_call 26; refine (within_new1' 16384 x.v1 x.v2 _ _ _ Hp3.out (by simp) (by omega) (by omega)).mono ?_; rintro e w9 ⟨rfl, hb9⟩; exact hN_ _ (hS_.trans (hb9.mono (by have := hS_.size; simp at this; omega))))
      | (go_at_call 25; refine (in_new1' 0 31 x.cl _ _ _ Hp4.out (by simp)).mono ?_; rintro e w9 ⟨rfl, rfl⟩; exact hN_ _ hS_)
      ); intro K hK wd_ hS2_; go_simp; apply hK; clear hK K hS_; have hS_ := hS2_; clear hS2_; first | clear Hp1 | clear Hp2 | clear Hp3 | clear Hp4)
     | (apply wpY_seqg 0 25 rfl rfl (by kernel_rfl) true; (focus (first | exact wantN rfl | (apply wantT rfl rfl rfl; go_simp; done))); (case h => intro _ W_ hW_; obtain ⟨y0_, y1_, y2_, y3_, y4_, y5_, y6_⟩ := atLn_ (hX3.below hW_ hg3); go_simp; try exact rfl); intro K hK; go_simp; apply hK; clear hK K))); try ((fail_if_success (refine wpY_end rfl ?_)); first | (cases p1; rotate_left) | (cases p2; rotate_left) | (cases p3; rotate_left) | (cases p4; rotate_left)))
    all_goals (as_aux_lemma =>
     repeat (first
      | (apply wpY_skip 0 25 rfl rfl (by kernel_rfl); (focus (apply wantF rfl rfl rfl; go_simp; done)); intro K hK; go_simp; apply hK; clear hK K)
      | (apply wpY_seqg 0 25 rfl rfl (by kernel_rfl) true; (focus (first | exact wantN rfl | (apply wantT rfl rfl rfl; go_simp; done))); (case h => intro _ W_ hW_; go_simp; try exact rfl); intro K hK; go_simp; apply hK; clear hK K))
     refine wpY_nil (by kernel_rfl) ?_
     (try simp only [List.filterMap_cons, List.filterMap_nil, List.getElem?_cons_succ, List.getElem?_cons_zero])
     (try go_simp)
     have hCk := HC3.out.below hS_ (Nat.le_refl _)
     have hTk := HT3.out.below hS_ HT3.out.lt
     have hBk : Below w.heap.size w wd_ := HB3.out.trans (hS_.mono HB3.out.size)
     have HCk := hQ0 hCk
     have HTk := hQ0 hTk
     have HBk := hQ0 hBk
     have hF_ := HF.out
     simp only [Bool.true_and, Bool.false_and, Bool.and_true, Bool.and_false] at hF_
     have HF2 := hQ0 hF_
     clear hCk hTk hBk hS_ hF_
     go_wp2_with (go_at_call 27; refine (look_any _ cb mb n (w.heap.size + 1) e L x.nm _ _ HCk.out (HN.out x (List.mem_of_getElem? HX.out)) (by unfold maxLen; have := HN2.out; have := HN3.out; omega) hcb hmb).mono ?_; rintro ε w4 ⟨rfl, hb4, m, hm, hC4⟩)
     go_roundg (l.length - (k + 1) + 1)
     case measure => omega
     case rel =>
      refine ⟨k + 1, m, _, _, by omega, by omega, by go_num, by omega, HBk.out.trans (hb4.mono (by have := HBk.out.size; omega)), HTk.out.below hb4 (by omega), hC4, hQ0 ?_⟩
      rw [fold_next HX.out, ← HJ.out]
      unfold Ln.look
      rw [← HF2.out])
  · obtain rfl : k = l.length := by omega
    have HBe := hQ0 hb_ws
    have HTr := hQ0 hTr
    have HCr := hQ0 hCr
    clear hb_ws hTr hCr
    go_wp2_with fail
    show R _ _
    have hj := HJ.out
    rw [List.take_length] at hj
    exact HR.out _ _ n rfl rfl rfl HF3.out.symm HBe.out HTr.out hnk (by rw [← hj]; exact HCr.out)
end Go.Proofs.YtbpcjpiaimdpnaaGreatDoor
