/- Law LayoutChecks returns true for every table; it reads afterwards as it read before. The rows' listed variables are tied to the program's text. Merged texts: Aw9Ww TbO Chkw Laid LawLCw. -/
import Derived.Test.YtbpcjpiaimdpnaaGreatDoorCk14
import Derived.Test.YtbpcjpiaimdpnaaGreatDoorCk18
import Derived.Test.YtbpcjpiaimdpnaaGreatDoorCk19
import Derived.Deep.Cut
import Derived.Test.YtbpcjpiaimdpnaaGreatDoorProg
import Derived.KernelRfl
import Derived.Test.YtbpcjpiaimdpnaaGreatDoorRows
import Derived.Test.YtbpcjpiaimdpnaaGreatDoorTie
import Derived.ProofKit
import Derived.LaidMore
import Derived.Stop.Joined
import Derived.Stop.LaidErr
import Derived.SevenTiedAt
import Derived.Test.YtbpcjpiaimdpnaaGreatDoorCards
import Derived.ShutString
set_option linter.unusedSimpArgs false
set_option linter.unusedVariables false
namespace Go.Proofs.YtbpcjpiaimdpnaaGreatDoor
open Go Go.RowKit
set_option linter.unusedVariables false
attribute [local go_sem ↓] evalL getL64 setL64
attribute [local go_sem ↓] getL8 setL8
attribute [local go_sem ↓] getL1 getL0
set_option maxRecDepth 100000 in
set_option maxHeartbeats 8000000 in
theorem awake09_any (w : World) (ht : Tabs w) : Calls Tryz.prog 9 #[] w fun e w' => e = .returned (.bool true) ∧ Below w.heap.size w w' := by
 have HTB := hQ0 ht
 clear ht
 have HBw : Hid (Below w.heap.size w w) := hQ0 (Below.refl _ _)
 go_enter Tryz.func9, Tryz.ntmps9; (try simp only [List.append_eq, List.cons_append, List.nil_append])
 go_upto_region 1 with (fail)
 have KC := compile_any awS1 w (by decide) HTB.out (words_of aw_w1)
 refine wp_region_lit ?_
 refine wpList_plain rfl fun K hK => ?_
 go_simp
 (go_at_call 13; refine KC.mono ?_; rintro e u1 ⟨a1, rfl, hb_, hT_, hc_, n_, hm_, hn_⟩)
 go_simp
 refine hK _ _ ?_
 clear hK K KC hm_
 rw [aw_c1] at hT_ hc_ ⊢
 dsimp only at hT_ hc_ ⊢
 have HC1 := hQ0 hc_
 have HBu : Hid (Below w.heap.size w u1) := hQ0 (HBw.out.trans (hb_.mono HBw.out.size))
 have HTu := hQ0 hT_
 clear hb_ hT_ hc_ hn_
 iterate 4 (refine wpList_plain rfl fun K hK => ?_; go_simp; apply hK; clear hK K)
 refine wpList_plain rfl fun K hK => ?_; go_simp; apply hK; clear hK K
 have HW := hQ0 ((Below.refl u1.heap.size u1).alloc (Nat.le_refl _) (.cells #[.int .i64 0, .int .i64 0, .int .i64 0, .int .i64 0, .int .i64 0, .int .i64 0, .int .i64 0, .slice none 0 0, .slice none 0 0, .slice none 0 0, .slice none 0 0, .slice none 0 0, .slice none 0 0, .slice none 0 0, .slice none 0 0, .slice none 0 0, .slice none 0 0, .slice none 0 0] 36))
 have HX1 : Hid (BoxAt (u1.alloc (.cells #[.int .i64 0, .int .i64 0, .int .i64 0, .int .i64 0, .int .i64 0, .int .i64 0, .int .i64 0, .slice none 0 0, .slice none 0 0, .slice none 0 0, .slice none 0 0, .slice none 0 0, .slice none 0 0, .slice none 0 0, .slice none 0 0, .slice none 0 0, .slice none 0 0, .slice none 0 0] 36)) u1.heap.size (tb0.cells a0)) := hQ0 (BoxAt.new u1 (tb0.cells a0) 36)
 generalize u1.alloc _ = v1 at HW HX1 ⊢
 obtain ⟨b1, hbq⟩ : ∃ z, z = u1.heap.size := ⟨_, rfl⟩
 rw [← hbq] at HX1 ⊢
 have HQ1 := hQ0 hbq
 clear hbq
 refine wpList_store_tb rfl (.tmp 1) (.tmp 14) rfl b1 _ (by go_simp) awT a1 (by go_simp; first | done | rfl) HX1.out rfl ?_
 have hlow := below_setCells (b := b1) (B := u1.heap.size) (by have := HQ1.out; omega) (Tb.cells awT a1) 0 HW.out
 have HX1 := hQ0 (stored_tb b1 _ awT a1 v1 HX1.out rfl)
 have HT1 := hQ0 (HTu.out.below hlow (Nat.le_refl _))
 have HBw1 := hQ0 (HBu.out.trans (hlow.mono HBu.out.size))
 clear hlow HW HTu HBu HQ1
 generalize v1.setCells b1 0 (Tb.cells awT a1) = w1 at HX1 HT1 HBw1 ⊢
 go_simp
 iterate 2 (refine wpList_plain rfl fun K hK => ?_; go_simp; apply hK; clear hK K)
 refine wpList_nil ?_
 (try go_simp)
 go_upto_region 2 with (fail)
 have KC := compile_any awS2 w1 (by decide) (HTB.out.below HBw1.out HTB.out.three) (words_of aw_w2)
 refine wp_region_lit ?_
 refine wpList_plain rfl fun K hK => ?_
 go_simp
 (go_at_call 13; refine KC.mono ?_; rintro e u2 ⟨a2, rfl, hb_, hT_, hc_, n_, hm_, hn_⟩)
 go_simp
 refine hK _ _ ?_
 clear hK K KC hm_
 obtain ⟨U2, hU2⟩ : ∃ z, z = (compileR awS2).1 := ⟨_, rfl⟩
 rw [show (compileR awS2).2.1 = 8 from congrArg Prod.fst aw_c2, show (compileR awS2).2.2 = 25 from congrArg Prod.snd aw_c2]
 rw [← hU2] at hT_ hc_ ⊢
 clear hU2
 have HC2 := hQ0 hc_
 have HBu : Hid (Below w.heap.size w u2) := hQ0 (HBw1.out.trans (hb_.mono HBw1.out.size))
 have HTu := hQ0 hT_
 have HX1 := hQ0 (HX1.out.below hb_ HX1.out.lt)
 have HT1 := hQ0 (HT1.out.below hb_ (Nat.le_refl _))
 clear hb_ hT_ hc_ hn_
 iterate 4 (refine wpList_plain rfl fun K hK => ?_; go_simp; apply hK; clear hK K)
 refine wpList_plain rfl fun K hK => ?_; go_simp; apply hK; clear hK K
 have HW := hQ0 ((Below.refl u2.heap.size u2).alloc (Nat.le_refl _) (.cells #[.int .i64 0, .int .i64 0, .int .i64 0, .int .i64 0, .int .i64 0, .int .i64 0, .int .i64 0, .slice none 0 0, .slice none 0 0, .slice none 0 0, .slice none 0 0, .slice none 0 0, .slice none 0 0, .slice none 0 0, .slice none 0 0, .slice none 0 0, .slice none 0 0, .slice none 0 0] 36))
 have HX2 : Hid (BoxAt (u2.alloc (.cells #[.int .i64 0, .int .i64 0, .int .i64 0, .int .i64 0, .int .i64 0, .int .i64 0, .int .i64 0, .slice none 0 0, .slice none 0 0, .slice none 0 0, .slice none 0 0, .slice none 0 0, .slice none 0 0, .slice none 0 0, .slice none 0 0, .slice none 0 0, .slice none 0 0, .slice none 0 0] 36)) u2.heap.size (tb0.cells a0)) := hQ0 (BoxAt.new u2 (tb0.cells a0) 36)
 generalize u2.alloc _ = v2 at HW HX2 ⊢
 obtain ⟨b2, hbq⟩ : ∃ z, z = u2.heap.size := ⟨_, rfl⟩
 rw [← hbq] at HX2 ⊢
 have HQ2 := hQ0 hbq
 clear hbq
 refine wpList_store_tb rfl (.tmp 4) (.tmp 19) rfl b2 _ (by go_simp) U2 a2 (by go_simp; first | done | rfl) HX2.out rfl ?_
 have hlow := below_setCells (b := b2) (B := u2.heap.size) (by have := HQ2.out; omega) (Tb.cells U2 a2) 0 HW.out
 have HX2 := hQ0 (stored_tb b2 _ U2 a2 v2 HX2.out rfl)
 have HT2 := hQ0 (HTu.out.below hlow (Nat.le_refl _))
 have HBw2 := hQ0 (HBu.out.trans (hlow.mono HBu.out.size))
 have HX1 := hQ0 (HX1.out.below hlow HX1.out.lt)
 have HT1 := hQ0 (HT1.out.below hlow (Nat.le_refl _))
 clear hlow HW HTu HBu HQ2
 generalize v2.setCells b2 0 (Tb.cells U2 a2) = w2 at HX2 HT2 HBw2 HX1 HT1 ⊢
 go_simp
 iterate 2 (refine wpList_plain rfl fun K hK => ?_; go_simp; apply hK; clear hK K)
 refine wpList_nil ?_
 (try go_simp)
 have k1 := HX1.out.c 1 (.int .i64 2) rfl
 obtain ⟨g5, o5, hA5, hg5, hc5⟩ := HT1.out.tr 1 6 rfl
 have k7 : w2.cell? ⟨b1, 7, none⟩ = some (.slice (some ⟨g5, o5, none⟩) 2 a1.trc) := by rw [← hA5]; exact HX1.out.c 7 _ rfl
 have k5 : w2.cell? ⟨g5, o5 + 1, none⟩ = some (.int .i64 6) := hc5 0 _ rfl
 obtain ⟨g6, o6, hA6, hg6, hc6⟩ := HT1.out.ws 0 ⟨⟨#[119]⟩, 1, 0, 0, 0, 900, 0, 8, 0, 0, 0, -1, -1⟩ rfl
 have k8 : w2.cell? ⟨b1, 8, none⟩ = some (.slice (some ⟨g6, o6, none⟩) 1 a1.wsc) := by rw [← hA6]; exact HX1.out.c 8 _ rfl
 have k6 : w2.cell? ⟨g6, o6 + 7, none⟩ = some (.int .i64 8) := by
  have h := hc6 7 _ rfl
  simpa using h
 clear hA5 hc5 hA6 hc6
 go_upto_region 5 with (fail)
 clear k1 k7 k5 k8 k6 hg5 hg6
 refine wp_region_lit ?_
 apply wpL_maybe true (by exact rfl) (awT.v a1)
 (case h => intro _; exact load_tb _ _ 1 rfl b1 (by first | rfl | (go_simp; done)) awT a1 _ HX1.out)
 intro K hK; go_simp; apply hK; clear hK K
 have KT := text_any awT a1 w2 HT1.out (aw_le 1000 (by decide)) aw_ok aw_len (HTB.out.below HBw2.out HTB.out.three) aw_o9 (words_of aw_w4)
 refine wpList_plain rfl fun K hK => ?_
 go_simp
 (go_at_call 17; refine KT.mono ?_; rintro e w3 ⟨rfl, hb_⟩)
 go_simp
 refine hK _ _ ?_
 clear hK K KT
 obtain ⟨S3, hS3⟩ : ∃ z, z = (textR awT).1 := ⟨_, rfl⟩
 rw [aw_t, ← hS3]
 have HS3 : Hid (∃ p, compileR S3 = (awT, 0, p)) := hQ0 (by rw [hS3]; exact ⟨_, text_back aw_t⟩)
 have HW3 : Hid (∀ x ∈ (parseR S3).1, x.word = t_table ∨ x.word = t_wall) := hQ0 (by rw [hS3]; exact words_of aw_w3)
 have HZ3 : Hid (S3.size ≤ maxLen) := hQ0 (by rw [hS3]; exact Nat.le_trans aw_sz (by decide))
 have HX1 := hQ0 (HX1.out.below hb_ HX1.out.lt)
 have HT1 := hQ0 (HT1.out.below hb_ (Nat.le_refl _))
 have HBw3 := hQ0 (HBw2.out.trans (hb_.mono HBw2.out.size))
 clear hb_ hS3 HX2 HT2 HC2
 iterate 5 (refine wpList_plain rfl fun K hK => ?_; go_simp; apply hK; clear hK K)
 refine wpList_nil ?_
 (try go_simp)
 go_upto_region 6 with (fail)
 obtain ⟨p3, hq_⟩ := HS3.out
 have KC := compile_any S3 w3 HZ3.out (HTB.out.below HBw3.out HTB.out.three) HW3.out
 refine wp_region_lit ?_
 refine wpList_plain rfl fun K hK => ?_; go_simp; apply hK; clear hK K
 refine wpList_plain rfl fun K hK => ?_
 go_simp
 (go_at_call 13; refine KC.mono ?_; rintro e u9 ⟨a9, rfl, hb_, hT_, hc_, n_, hm_, hn_⟩)
 go_simp
 refine hK _ _ ?_
 clear hK K KC hm_
 rw [hq_] at hT_ hc_
 (try rw [hq_])
 dsimp only at hT_ hc_
 (try dsimp only)
 clear hq_
 have HC9 := hQ0 hc_
 have HBu : Hid (Below w.heap.size w u9) := hQ0 (HBw3.out.trans (hb_.mono HBw3.out.size))
 have HTu := hQ0 hT_
 have HX1 := hQ0 (HX1.out.below hb_ HX1.out.lt)
 have HT1 := hQ0 (HT1.out.below hb_ (Nat.le_refl _))
 clear hb_ hT_ hc_ hn_
 iterate 4 (refine wpList_plain rfl fun K hK => ?_; go_simp; apply hK; clear hK K)
 refine wpList_plain rfl fun K hK => ?_; go_simp; apply hK; clear hK K
 have HW := hQ0 ((Below.refl u9.heap.size u9).alloc (Nat.le_refl _) (.cells #[.int .i64 0, .int .i64 0, .int .i64 0, .int .i64 0, .int .i64 0, .int .i64 0, .int .i64 0, .slice none 0 0, .slice none 0 0, .slice none 0 0, .slice none 0 0, .slice none 0 0, .slice none 0 0, .slice none 0 0, .slice none 0 0, .slice none 0 0, .slice none 0 0, .slice none 0 0] 36))
 have HX9 : Hid (BoxAt (u9.alloc (.cells #[.int .i64 0, .int .i64 0, .int .i64 0, .int .i64 0, .int .i64 0, .int .i64 0, .int .i64 0, .slice none 0 0, .slice none 0 0, .slice none 0 0, .slice none 0 0, .slice none 0 0, .slice none 0 0, .slice none 0 0, .slice none 0 0, .slice none 0 0, .slice none 0 0, .slice none 0 0] 36)) u9.heap.size (tb0.cells a0)) := hQ0 (BoxAt.new u9 (tb0.cells a0) 36)
 generalize u9.alloc _ = v9 at HW HX9 ⊢
 obtain ⟨b9, hbq⟩ : ∃ z, z = u9.heap.size := ⟨_, rfl⟩
 rw [← hbq] at HX9 ⊢
 have HQ9 := hQ0 hbq
 clear hbq
 refine wpList_store_tb rfl (.tmp 9) (.tmp 72) rfl b9 _ (by go_simp) awT a9 (by go_simp; first | done | rfl) HX9.out rfl ?_
 have hlow := below_setCells (b := b9) (B := u9.heap.size) (by have := HQ9.out; omega) (Tb.cells awT a9) 0 HW.out
 have HX9 := hQ0 (stored_tb b9 _ awT a9 v9 HX9.out rfl)
 have HT9 := hQ0 (HTu.out.below hlow (Nat.le_refl _))
 have HBw9 := hQ0 (HBu.out.trans (hlow.mono HBu.out.size))
 have HX1 := hQ0 (HX1.out.below hlow HX1.out.lt)
 have HT1 := hQ0 (HT1.out.below hlow (Nat.le_refl _))
 clear hlow HW HTu HBu HQ9
 generalize v9.setCells b9 0 (Tb.cells awT a9) = w9 at HX9 HT9 HBw9 HX1 HT1 ⊢
 go_simp
 iterate 2 (refine wpList_plain rfl fun K hK => ?_; go_simp; apply hK; clear hK K)
 refine wpList_nil ?_
 (try go_simp)
 go_upto_region 7 with (fail)
 have KS := fun W (hb : Below w9.heap.size w9 W) => same_any awT awT a1 a9 10 W (HT1.out.below hb (Nat.le_refl _)) (HT9.out.below hb (Nat.le_refl _)) (aw_le 10 (by decide)) (aw_le 10 (by decide)) (by decide) aw_o9
 rw [aw_s] at KS
 have KK := fun W (hb : Below w9.heap.size w9 W) => check_any awT a1 W (HT1.out.below hb (Nat.le_refl _)) HC1.out.toTbCap0 aw_small
 rw [aw_k] at KK
 have KM := fun W (hb : Below w9.heap.size w9 W) => mirror_any awT a1 W (HT1.out.below hb (Nat.le_refl _)) HC1.out.ok (aw_le 10000 (by decide)) aw_mild aw_soft aw_o9
 have hS_ : Below w9.heap.size w9 w9.drew := (Below.refl _ _).drew
 refine wp_region_Y (Below w9.heap.size w9) 22 [22] (by kernel_rfl) (by kernel_rfl) (tailBJ_of (nx := [22, 22, 22, 22, 22, 22, 22, 22, 22, 22, 22, 22, 22, 22, 22, 22, 22, 22, 22, 22, 22, 22, 0]) (by kernel_rfl)) (by kernel_rfl) (fun _ _ _ _ _ h => h) hS_ ?_
 generalize w9.drew = wd_ at hS_ ⊢
 iterate 6 (apply wpY_seq 22 rfl (by kernel_rfl) true (by exact rfl); (case h => intro _ W_ hW_; go_simp; try exact rfl); intro K hK; go_simp; apply hK; clear hK K)
 apply wpY_maybe (i := 6) rfl (by kernel_rfl) true (by exact rfl) (awT.v a1)
 (case h => intro _ W_ hW_; exact load_tb _ _ 1 rfl b1 (by first | rfl | (go_simp; done)) awT a1 W_ (HX1.out.below hW_ HX1.out.lt))
 intro K hK; go_simp; apply hK; clear hK K
 apply wpY_maybe (i := 7) rfl (by kernel_rfl) true (by exact rfl) (awT.v a9)
 (case h => intro _ W_ hW_; exact load_tb _ _ 9 rfl b9 (by first | rfl | (go_simp; done)) awT a9 W_ (HX9.out.below hW_ HX9.out.lt))
 intro K hK; go_simp; apply hK; clear hK K
 refine wpY_callm (i := 8) rfl (by kernel_rfl) true (by exact rfl) (.bool true) ?_ ?_
 · intro _; intro N_ hN_; go_simp; (go_at_call 16; refine (KS _ hS_).mono ?_; rintro e w_ ⟨rfl, hb_⟩); go_simp; exact hN_ _ (hS_.trans (hb_.mono hS_.size))
 intro K hK w_ hS2_; go_simp; apply hK; clear hK K hS_; have hS_ := hS2_; clear hS2_
 iterate 2 (apply wpY_seq 22 rfl (by kernel_rfl) true (by exact rfl); (case h => intro _ W_ hW_; go_simp; try exact rfl); intro K hK; go_simp; apply hK; clear hK K)
 apply wpY_maybe (i := 11) rfl (by kernel_rfl) true (by exact rfl) (awT.v a1)
 (case h => intro _ W_ hW_; exact load_tb _ _ 1 rfl b1 (by first | rfl | (go_simp; done)) awT a1 W_ (HX1.out.below hW_ HX1.out.lt))
 intro K hK; go_simp; apply hK; clear hK K
 refine wpY_callm (i := 12) rfl (by kernel_rfl) true (by exact rfl) (.int .i64 0) ?_ ?_
 · intro _; intro N_ hN_; go_simp; (go_at_call 11; refine (KK _ hS_).mono ?_; rintro e w_ ⟨rfl, hb_⟩); go_simp; exact hN_ _ (hS_.trans (hb_.mono hS_.size))
 intro K hK w_ hS2_; go_simp; apply hK; clear hK K hS_; have hS_ := hS2_; clear hS2_
 iterate 3 (apply wpY_seq 22 rfl (by kernel_rfl) true (by exact rfl); (case h => intro _ W_ hW_; go_simp; try exact rfl); intro K hK; go_simp; apply hK; clear hK K)
 apply wpY_maybe (i := 16) rfl (by kernel_rfl) true (by exact rfl) (awT.v a1)
 (case h => intro _ W_ hW_; exact load_tb _ _ 1 rfl b1 (by first | rfl | (go_simp; done)) awT a1 W_ (HX1.out.below hW_ HX1.out.lt))
 intro K hK; go_simp; apply hK; clear hK K
 apply wpY_maybe (i := 17) rfl (by kernel_rfl) true (by exact rfl) (awT.v a1)
 (case h => intro _ W_ hW_; exact load_tb _ _ 1 rfl b1 (by first | rfl | (go_simp; done)) awT a1 W_ (HX1.out.below hW_ HX1.out.lt))
 intro K hK; go_simp; apply hK; clear hK K
 refine wpY_onew (i := 18) rfl (by kernel_rfl) (by exact rfl) ?_
 intro K hK
 go_simp
 (go_at_call 22; refine (KM _ hS_).mono ?_; rintro e wm_ ⟨am, rfl, hbm, ⟨bb, hbb, hsep⟩, hcap⟩)
 go_simp
 have hS2_ := hS_.trans (hbm.mono hS_.size)
 refine ⟨hS2_, hK _ _ ?_⟩
 clear hK K hS_ hbb hcap
 have hS_ := hS2_
 clear hS2_ hbm
 have hlm : (mirrorR awT).le 10 := ⟨by decide, by decide, by decide, by decide, by decide, by decide, by decide, by decide, by decide, by decide, by decide⟩
 have KZ := same_any awT (mirrorR awT) a1 am 10 wm_ (HT1.out.below hS_ (Nat.le_refl _)) hsep.at (aw_le 10 (by decide)) hlm (by decide) aw_m9
 rw [aw_m] at KZ
 clear hsep hlm
 refine wpY_callm (i := 19) rfl (by kernel_rfl) true (by exact rfl) (.bool false) ?_ ?_
 · intro _; intro N_ hN_; go_simp; (go_at_call 16; refine (KZ).mono ?_; rintro e w_ ⟨rfl, hb_⟩); go_simp; exact hN_ _ (hS_.trans (hb_.mono hS_.size))
 intro K hK w_ hS2_; go_simp; apply hK; clear hK K hS_; have hS_ := hS2_; clear hS2_
 iterate 2 (apply wpY_seq 22 rfl (by kernel_rfl) true (by exact rfl); (case h => intro _ W_ hW_; go_simp; try exact rfl); intro K hK; go_simp; apply hK; clear hK K)
 refine wpY_nil (by kernel_rfl) ?_
 (try simp only [List.filterMap_nil, List.filterMap_cons, List.getElem?_cons_succ, List.getElem?_cons_zero])
 (try go_simp)
 go_wp2_with fail
 go_ret
 exact ⟨rfl, HBw9.out.trans (hS_.mono HBw9.out.size)⟩
end Go.Proofs.YtbpcjpiaimdpnaaGreatDoor
namespace Go.Proofs.YtbpcjpiaimdpnaaGreatDoor
open Go Go.RowKit
set_option linter.unusedVariables false
def Bd (z : Int) : Prop := -9223372036854775808 ≤ z ∧ z ≤ 9223372036854775807
theorem rows_open {α : Type} {w : World} {n : Nat} {t e : TypeId} {c : Value} {size : Nat} (hu : Tryz.prog.underlying t = some (.slice e)) (h : RowIs Tryz.prog w n t [c]) (hc : Tryz.prog.cellsOf e = size)
  (cells : α → List Value) (ok : α → Prop) (hpos : ∀ x, ∃ v r, cells x = v :: r) (hrow : ∀ m row, RowIs Tryz.prog w m e row → ∃ x, ok x ∧ row = cells x) :
  ∃ (A : Option Addr) (l : List α) (cap : Nat), c = .slice A l.length cap ∧ l.length ≤ cap ∧ cap ≤ maxLen ∧ (∀ x ∈ l, ok x) ∧ RowsAt size cells w A l := by
 rcases rowIs_slice hu h with h0 | ⟨a, len, cap, m, hcs, hlc, hcap, hrows⟩
 · simp only [List.cons.injEq, and_true] at h0
   exact ⟨none, [], 0, h0, Nat.le_refl _, by unfold maxLen; omega, by simp, RowsAt.nil⟩
 · simp only [List.cons.injEq, and_true] at hcs
   subst hcs
   rcases Nat.eq_zero_or_pos len with h0 | h0
   · subst h0
     exact ⟨some a, [], cap, rfl, Nat.zero_le _, hcap, by simp, RowsAt.nil⟩
   · have hr : ∀ i, i < len → ∃ x : α, ok x ∧ ∀ j v, (cells x)[j]? = some v → w.cell? (a.add (i * size + j)) = some v := by
      intro i hi
      obtain ⟨row, hl, hc', hrw⟩ := hrows i hi
      obtain ⟨x, hx, rfl⟩ := hrow _ _ hrw
      rw [hc] at hc'
      exact ⟨x, hx, hc'⟩
     obtain ⟨x0, _, hx0⟩ := hr 0 h0
     obtain ⟨v0, r0, e0⟩ := hpos x0
     have hc0 := hx0 0 v0 (by rw [e0]; rfl)
     obtain ⟨g, o, spot⟩ := a
     have hsp : spot = none := by simpa [Addr.add] using World.cell?_spot hc0
     subst hsp
     have hg : g < w.heap.size := by
      have := World.block_lt_of_cell? w _ hc0
      simpa [Addr.add] using this
     clear hc0 hx0 e0
     have build : ∀ m, m ≤ len → ∃ l : List α, l.length = m ∧ (∀ k x, l[k]? = some x → ok x ∧ ∀ j v, (cells x)[j]? = some v → w.cell? ((⟨g, o, none⟩ : Addr).add (k * size + j)) = some v) := by
      intro m
      induction m with
      | zero => intro _; exact ⟨[], rfl, fun k x h => by simp at h⟩
      | succ m ih =>
       intro hm
       obtain ⟨l, hl, hp⟩ := ih (by omega)
       obtain ⟨x, hx⟩ := hr m (by omega)
       refine ⟨l ++ [x], by simp [hl], fun k y hk => ?_⟩
       rcases Nat.lt_or_ge k l.length with h | h
       · rw [List.getElem?_append_left h] at hk; exact hp k y hk
       · rw [List.getElem?_append_right h] at hk
         have hk0 : k = m := by
          have := (List.getElem?_eq_some_iff.1 hk).1
          simp at this; omega
         subst hk0
         rw [hl, Nat.sub_self] at hk
         simp only [List.getElem?_cons_zero, Option.some.injEq] at hk
         subst hk
         exact hx
     obtain ⟨l, hl, hp⟩ := build len (Nat.le_refl _)
     have hadd : ∀ j, (⟨g, o, none⟩ : Addr).add j = ⟨g, o + j, none⟩ := by intro j; unfold Addr.add; split <;> simp_all
     subst hl
     refine ⟨_, l, cap, rfl, hlc, hcap, fun x hx => ?_, fun k x hx => ⟨g, o, rfl, hg, fun j v hj => ?_⟩⟩
     · obtain ⟨k, hk⟩ := List.getElem?_of_mem hx
       exact (hp k x hk).1
     · have := (hp k x hx).2 j v hj; rwa [hadd] at this
theorem nth_of {α : Type} {p : α → Prop} {l : List α} (h : ∀ x ∈ l, p x) (j : Nat) {a : α} (ha : l[j]? = some a) : p a := h a (List.mem_of_getElem? ha)
theorem cells_int : Tryz.prog.cellsOf 3 = 1 := by kernel_rfl
theorem cells_bool : Tryz.prog.cellsOf 4 = 1 := by kernel_rfl
theorem cells_string : Tryz.prog.cellsOf 9 = 1 := by kernel_rfl
theorem cells_vec : Tryz.prog.cellsOf 23 = 2 := by kernel_rfl
theorem row1_int {w : World} {n : Nat} {v : Value} (h : RowIs Tryz.prog w n 3 [v]) : ∃ x : Int, v = .int .i64 x ∧ Bd x := by
 obtain ⟨x, hx, wx⟩ := rowIs_int Tryz.underlying3 h
 simp only [List.cons.injEq, and_true] at hx
 exact ⟨x, hx, wf_bd wx⟩
theorem row1_bool {w : World} {n : Nat} {v : Value} (h : RowIs Tryz.prog w n 4 [v]) : ∃ x : Bool, v = .bool x := by
 obtain ⟨x, hx⟩ := rowIs_bool Tryz.underlying4 h
 simp only [List.cons.injEq, and_true] at hx
 exact ⟨x, hx⟩
theorem row1_string {w : World} {n : Nat} {v : Value} (h : RowIs Tryz.prog w n 9 [v]) : ∃ x : ByteArray, v = .string x ∧ x.size ≤ maxLen := by
 obtain ⟨x, hx, wx⟩ := rowIs_string Tryz.underlying9 h
 simp only [List.cons.injEq, and_true] at hx
 exact ⟨x, hx, wx⟩
theorem row2_vec {w : World} {n : Nat} {u v : Value} (h : RowIs Tryz.prog w n 23 [u, v]) : ∃ x y : Int, u = .int .i64 x ∧ v = .int .i64 y ∧ Bd x ∧ Bd y := by
 obtain ⟨hl, m, hf⟩ := rowIs_struct Tryz.underlying23 h
 have h0 := nth_of hf 0 rfl
 have h1 := nth_of hf 1 rfl
 simp only [cells_int, List.drop_zero, List.drop_succ_cons, List.take_succ_cons, List.take_zero] at h0 h1
 obtain ⟨x, hx, wx⟩ := row1_int h0
 obtain ⟨y, hy, wy⟩ := row1_int h1
 exact ⟨x, y, hx, hy, wx, wy⟩
def Wl.bd (x : Wl) : Prop := x.nm.size ≤ maxLen ∧ Bd x.kd ∧ Bd x.lv ∧ Bd x.a1 ∧ Bd x.a2 ∧ Bd x.b1 ∧ Bd x.b2 ∧ Bd x.rs ∧ Bd x.gr ∧ Bd x.kk ∧ Bd x.mn ∧ Bd x.cl ∧ Bd x.sw
theorem cells_ws : Tryz.prog.cellsOf 53 = 13 := by kernel_rfl
theorem row_ws {w : World} {n : Nat} {cs : List Value} (h : RowIs Tryz.prog w n 53 cs) : ∃ x : Wl, x.bd ∧ cs = x.cells := by
 obtain ⟨hl, m, hf⟩ := rowIs_struct Tryz.underlying53 h
 rw [cells_ws] at hl
 obtain ⟨s, rfl⟩ : ∃ s : Nat → Value, cs = [s 0, s 1, s 2, s 3, s 4, s 5, s 6, s 7, s 8, s 9, s 10, s 11, s 12] := ⟨fun i => cs.getD i undef, (map_getD cs 13 hl).trans rfl⟩
 clear hl h
 have h0 := nth_of hf 0 rfl
 have h1 := nth_of hf 1 rfl
 have h2 := nth_of hf 2 rfl
 have h3 := nth_of hf 3 rfl
 have h4 := nth_of hf 4 rfl
 have h5 := nth_of hf 5 rfl
 have h6 := nth_of hf 6 rfl
 have h7 := nth_of hf 7 rfl
 have h8 := nth_of hf 8 rfl
 have h9 := nth_of hf 9 rfl
 have h10 := nth_of hf 10 rfl
 simp only [cells_int, cells_bool, cells_string, cells_vec, List.drop_zero, List.drop_succ_cons, List.take_succ_cons, List.take_zero] at h0 h1 h2 h3 h4 h5 h6 h7 h8 h9 h10
 obtain ⟨x0, e0, w0⟩ := row1_string h0
 obtain ⟨x1, e1, w1⟩ := row1_int h1
 obtain ⟨x2, e2, w2⟩ := row1_int h2
 obtain ⟨x3, x4, e3, e4, w3, w4⟩ := row2_vec h3
 obtain ⟨x5, x6, e5, e6, w5, w6⟩ := row2_vec h4
 obtain ⟨x7, e7, w7⟩ := row1_int h5
 obtain ⟨x8, e8, w8⟩ := row1_int h6
 obtain ⟨x9, e9, w9⟩ := row1_int h7
 obtain ⟨x10, e10, w10⟩ := row1_int h8
 obtain ⟨x11, e11, w11⟩ := row1_int h9
 obtain ⟨x12, e12, w12⟩ := row1_int h10
 exact ⟨⟨x0, x1, x2, x3, x4, x5, x6, x7, x8, x9, x10, x11, x12⟩, ⟨w0, w1, w2, w3, w4, w5, w6, w7, w8, w9, w10, w11, w12⟩, by rw [e0, e1, e2, e3, e4, e5, e6, e7, e8, e9, e10, e11, e12]; rfl⟩
def Ac.bd (x : Ac) : Prop := x.nm.size ≤ maxLen ∧ Bd x.lv ∧ Bd x.c1 ∧ Bd x.c2 ∧ Bd x.s1 ∧ Bd x.s2 ∧ Bd x.e1 ∧ Bd x.e2 ∧ Bd x.rs ∧ Bd x.gr ∧ Bd x.mn ∧ Bd x.sw
theorem cells_ars : Tryz.prog.cellsOf 76 = 12 := by kernel_rfl
theorem row_ars {w : World} {n : Nat} {cs : List Value} (h : RowIs Tryz.prog w n 76 cs) : ∃ x : Ac, x.bd ∧ cs = x.cells := by
 obtain ⟨hl, m, hf⟩ := rowIs_struct Tryz.underlying76 h
 rw [cells_ars] at hl
 obtain ⟨s, rfl⟩ : ∃ s : Nat → Value, cs = [s 0, s 1, s 2, s 3, s 4, s 5, s 6, s 7, s 8, s 9, s 10, s 11] := ⟨fun i => cs.getD i undef, (map_getD cs 12 hl).trans rfl⟩
 clear hl h
 have h0 := nth_of hf 0 rfl
 have h1 := nth_of hf 1 rfl
 have h2 := nth_of hf 2 rfl
 have h3 := nth_of hf 3 rfl
 have h4 := nth_of hf 4 rfl
 have h5 := nth_of hf 5 rfl
 have h6 := nth_of hf 6 rfl
 have h7 := nth_of hf 7 rfl
 have h8 := nth_of hf 8 rfl
 simp only [cells_int, cells_bool, cells_string, cells_vec, List.drop_zero, List.drop_succ_cons, List.take_succ_cons, List.take_zero] at h0 h1 h2 h3 h4 h5 h6 h7 h8
 obtain ⟨x0, e0, w0⟩ := row1_string h0
 obtain ⟨x1, e1, w1⟩ := row1_int h1
 obtain ⟨x2, x3, e2, e3, w2, w3⟩ := row2_vec h2
 obtain ⟨x4, x5, e4, e5, w4, w5⟩ := row2_vec h3
 obtain ⟨x6, x7, e6, e7, w6, w7⟩ := row2_vec h4
 obtain ⟨x8, e8, w8⟩ := row1_int h5
 obtain ⟨x9, e9, w9⟩ := row1_int h6
 obtain ⟨x10, e10, w10⟩ := row1_int h7
 obtain ⟨x11, e11, w11⟩ := row1_int h8
 exact ⟨⟨x0, x1, x2, x3, x4, x5, x6, x7, x8, x9, x10, x11⟩, ⟨w0, w1, w2, w3, w4, w5, w6, w7, w8, w9, w10, w11⟩, by rw [e0, e1, e2, e3, e4, e5, e6, e7, e8, e9, e10, e11]; rfl⟩
def Ps.bd (x : Ps) : Prop := x.nm.size ≤ maxLen ∧ Bd x.lv ∧ Bd x.c1 ∧ Bd x.c2 ∧ Bd x.sz ∧ Bd x.rs ∧ Bd x.gr ∧ Bd x.kk ∧ Bd x.mn ∧ Bd x.cl ∧ Bd x.sw
theorem cells_ps : Tryz.prog.cellsOf 55 = 11 := by kernel_rfl
theorem row_ps {w : World} {n : Nat} {cs : List Value} (h : RowIs Tryz.prog w n 55 cs) : ∃ x : Ps, x.bd ∧ cs = x.cells := by
 obtain ⟨hl, m, hf⟩ := rowIs_struct Tryz.underlying55 h
 rw [cells_ps] at hl
 obtain ⟨s, rfl⟩ : ∃ s : Nat → Value, cs = [s 0, s 1, s 2, s 3, s 4, s 5, s 6, s 7, s 8, s 9, s 10] := ⟨fun i => cs.getD i undef, (map_getD cs 11 hl).trans rfl⟩
 clear hl h
 have h0 := nth_of hf 0 rfl
 have h1 := nth_of hf 1 rfl
 have h2 := nth_of hf 2 rfl
 have h3 := nth_of hf 3 rfl
 have h4 := nth_of hf 4 rfl
 have h5 := nth_of hf 5 rfl
 have h6 := nth_of hf 6 rfl
 have h7 := nth_of hf 7 rfl
 have h8 := nth_of hf 8 rfl
 have h9 := nth_of hf 9 rfl
 simp only [cells_int, cells_bool, cells_string, cells_vec, List.drop_zero, List.drop_succ_cons, List.take_succ_cons, List.take_zero] at h0 h1 h2 h3 h4 h5 h6 h7 h8 h9
 obtain ⟨x0, e0, w0⟩ := row1_string h0
 obtain ⟨x1, e1, w1⟩ := row1_int h1
 obtain ⟨x2, x3, e2, e3, w2, w3⟩ := row2_vec h2
 obtain ⟨x4, e4, w4⟩ := row1_int h3
 obtain ⟨x5, e5, w5⟩ := row1_int h4
 obtain ⟨x6, e6, w6⟩ := row1_int h5
 obtain ⟨x7, e7, w7⟩ := row1_int h6
 obtain ⟨x8, e8, w8⟩ := row1_int h7
 obtain ⟨x9, e9, w9⟩ := row1_int h8
 obtain ⟨x10, e10, w10⟩ := row1_int h9
 exact ⟨⟨x0, x1, x2, x3, x4, x5, x6, x7, x8, x9, x10⟩, ⟨w0, w1, w2, w3, w4, w5, w6, w7, w8, w9, w10⟩, by rw [e0, e1, e2, e3, e4, e5, e6, e7, e8, e9, e10]; rfl⟩
def Fl.bd (x : Fl) : Prop := x.nm.size ≤ maxLen ∧ Bd x.lv ∧ Bd x.p1 ∧ Bd x.p2 ∧ Bd x.ln ∧ Bd x.lo ∧ Bd x.hi ∧ Bd x.up ∧ Bd x.dn ∧ Bd x.mx ∧ Bd x.rs ∧ Bd x.gr ∧ Bd x.cl ∧ Bd x.sw
theorem cells_fs : Tryz.prog.cellsOf 79 = 15 := by kernel_rfl
theorem row_fs {w : World} {n : Nat} {cs : List Value} (h : RowIs Tryz.prog w n 79 cs) : ∃ x : Fl, x.bd ∧ cs = x.cells := by
 obtain ⟨hl, m, hf⟩ := rowIs_struct Tryz.underlying79 h
 rw [cells_fs] at hl
 obtain ⟨s, rfl⟩ : ∃ s : Nat → Value, cs = [s 0, s 1, s 2, s 3, s 4, s 5, s 6, s 7, s 8, s 9, s 10, s 11, s 12, s 13, s 14] := ⟨fun i => cs.getD i undef, (map_getD cs 15 hl).trans rfl⟩
 clear hl h
 have h0 := nth_of hf 0 rfl
 have h1 := nth_of hf 1 rfl
 have h2 := nth_of hf 2 rfl
 have h3 := nth_of hf 3 rfl
 have h4 := nth_of hf 4 rfl
 have h5 := nth_of hf 5 rfl
 have h6 := nth_of hf 6 rfl
 have h7 := nth_of hf 7 rfl
 have h8 := nth_of hf 8 rfl
 have h9 := nth_of hf 9 rfl
 have h10 := nth_of hf 10 rfl
 have h11 := nth_of hf 11 rfl
 have h12 := nth_of hf 12 rfl
 have h13 := nth_of hf 13 rfl
 simp only [cells_int, cells_bool, cells_string, cells_vec, List.drop_zero, List.drop_succ_cons, List.take_succ_cons, List.take_zero] at h0 h1 h2 h3 h4 h5 h6 h7 h8 h9 h10 h11 h12 h13
 obtain ⟨x0, e0, w0⟩ := row1_string h0
 obtain ⟨x1, e1, w1⟩ := row1_int h1
 obtain ⟨x2, x3, e2, e3, w2, w3⟩ := row2_vec h2
 obtain ⟨x4, e4, w4⟩ := row1_int h3
 obtain ⟨x5, e5⟩ := row1_bool h4
 obtain ⟨x6, e6, w6⟩ := row1_int h5
 obtain ⟨x7, e7, w7⟩ := row1_int h6
 obtain ⟨x8, e8, w8⟩ := row1_int h7
 obtain ⟨x9, e9, w9⟩ := row1_int h8
 obtain ⟨x10, e10, w10⟩ := row1_int h9
 obtain ⟨x11, e11, w11⟩ := row1_int h10
 obtain ⟨x12, e12, w12⟩ := row1_int h11
 obtain ⟨x13, e13, w13⟩ := row1_int h12
 obtain ⟨x14, e14, w14⟩ := row1_int h13
 exact ⟨⟨x0, x1, x2, x3, x4, x5, x6, x7, x8, x9, x10, x11, x12, x13, x14⟩, ⟨w0, w1, w2, w3, w4, w6, w7, w8, w9, w10, w11, w12, w13, w14⟩, by rw [e0, e1, e2, e3, e4, e5, e6, e7, e8, e9, e10, e11, e12, e13, e14]; rfl⟩
def Zn.bd (x : Zn) : Prop := x.nm.size ≤ maxLen ∧ Bd x.lv ∧ Bd x.l1 ∧ Bd x.l2 ∧ Bd x.h1 ∧ Bd x.h2 ∧ Bd x.f1 ∧ Bd x.f2 ∧ Bd x.cl
theorem cells_zs : Tryz.prog.cellsOf 59 = 9 := by kernel_rfl
theorem row_zs {w : World} {n : Nat} {cs : List Value} (h : RowIs Tryz.prog w n 59 cs) : ∃ x : Zn, x.bd ∧ cs = x.cells := by
 obtain ⟨hl, m, hf⟩ := rowIs_struct Tryz.underlying59 h
 rw [cells_zs] at hl
 obtain ⟨s, rfl⟩ : ∃ s : Nat → Value, cs = [s 0, s 1, s 2, s 3, s 4, s 5, s 6, s 7, s 8] := ⟨fun i => cs.getD i undef, (map_getD cs 9 hl).trans rfl⟩
 clear hl h
 have h0 := nth_of hf 0 rfl
 have h1 := nth_of hf 1 rfl
 have h2 := nth_of hf 2 rfl
 have h3 := nth_of hf 3 rfl
 have h4 := nth_of hf 4 rfl
 have h5 := nth_of hf 5 rfl
 simp only [cells_int, cells_bool, cells_string, cells_vec, List.drop_zero, List.drop_succ_cons, List.take_succ_cons, List.take_zero] at h0 h1 h2 h3 h4 h5
 obtain ⟨x0, e0, w0⟩ := row1_string h0
 obtain ⟨x1, e1, w1⟩ := row1_int h1
 obtain ⟨x2, x3, e2, e3, w2, w3⟩ := row2_vec h2
 obtain ⟨x4, x5, e4, e5, w4, w5⟩ := row2_vec h3
 obtain ⟨x6, x7, e6, e7, w6, w7⟩ := row2_vec h4
 obtain ⟨x8, e8, w8⟩ := row1_int h5
 exact ⟨⟨x0, x1, x2, x3, x4, x5, x6, x7, x8⟩, ⟨w0, w1, w2, w3, w4, w5, w6, w7, w8⟩, by rw [e0, e1, e2, e3, e4, e5, e6, e7, e8]; rfl⟩
def Sc.bd (x : Sc) : Prop := x.nm.size ≤ maxLen ∧ Bd x.lv ∧ Bd x.c1 ∧ Bd x.c2 ∧ Bd x.sz ∧ Bd x.lm ∧ Bd x.o1 ∧ Bd x.o2 ∧ Bd x.cl ∧ Bd x.sw
theorem cells_ss : Tryz.prog.cellsOf 81 = 10 := by kernel_rfl
theorem row_ss {w : World} {n : Nat} {cs : List Value} (h : RowIs Tryz.prog w n 81 cs) : ∃ x : Sc, x.bd ∧ cs = x.cells := by
 obtain ⟨hl, m, hf⟩ := rowIs_struct Tryz.underlying81 h
 rw [cells_ss] at hl
 obtain ⟨s, rfl⟩ : ∃ s : Nat → Value, cs = [s 0, s 1, s 2, s 3, s 4, s 5, s 6, s 7, s 8, s 9] := ⟨fun i => cs.getD i undef, (map_getD cs 10 hl).trans rfl⟩
 clear hl h
 have h0 := nth_of hf 0 rfl
 have h1 := nth_of hf 1 rfl
 have h2 := nth_of hf 2 rfl
 have h3 := nth_of hf 3 rfl
 have h4 := nth_of hf 4 rfl
 have h5 := nth_of hf 5 rfl
 have h6 := nth_of hf 6 rfl
 have h7 := nth_of hf 7 rfl
 simp only [cells_int, cells_bool, cells_string, cells_vec, List.drop_zero, List.drop_succ_cons, List.take_succ_cons, List.take_zero] at h0 h1 h2 h3 h4 h5 h6 h7
 obtain ⟨x0, e0, w0⟩ := row1_string h0
 obtain ⟨x1, e1, w1⟩ := row1_int h1
 obtain ⟨x2, x3, e2, e3, w2, w3⟩ := row2_vec h2
 obtain ⟨x4, e4, w4⟩ := row1_int h3
 obtain ⟨x5, e5, w5⟩ := row1_int h4
 obtain ⟨x6, x7, e6, e7, w6, w7⟩ := row2_vec h5
 obtain ⟨x8, e8, w8⟩ := row1_int h6
 obtain ⟨x9, e9, w9⟩ := row1_int h7
 exact ⟨⟨x0, x1, x2, x3, x4, x5, x6, x7, x8, x9⟩, ⟨w0, w1, w2, w3, w4, w5, w6, w7, w8, w9⟩, by rw [e0, e1, e2, e3, e4, e5, e6, e7, e8, e9]; rfl⟩
def La.bd (x : La) : Prop := x.nm.size ≤ maxLen ∧ Bd x.lv ∧ Bd x.c1 ∧ Bd x.c2 ∧ Bd x.sz ∧ Bd x.sw
theorem cells_las : Tryz.prog.cellsOf 57 = 6 := by kernel_rfl
theorem row_las {w : World} {n : Nat} {cs : List Value} (h : RowIs Tryz.prog w n 57 cs) : ∃ x : La, x.bd ∧ cs = x.cells := by
 obtain ⟨hl, m, hf⟩ := rowIs_struct Tryz.underlying57 h
 rw [cells_las] at hl
 obtain ⟨s, rfl⟩ : ∃ s : Nat → Value, cs = [s 0, s 1, s 2, s 3, s 4, s 5] := ⟨fun i => cs.getD i undef, (map_getD cs 6 hl).trans rfl⟩
 clear hl h
 have h0 := nth_of hf 0 rfl
 have h1 := nth_of hf 1 rfl
 have h2 := nth_of hf 2 rfl
 have h3 := nth_of hf 3 rfl
 have h4 := nth_of hf 4 rfl
 simp only [cells_int, cells_bool, cells_string, cells_vec, List.drop_zero, List.drop_succ_cons, List.take_succ_cons, List.take_zero] at h0 h1 h2 h3 h4
 obtain ⟨x0, e0, w0⟩ := row1_string h0
 obtain ⟨x1, e1, w1⟩ := row1_int h1
 obtain ⟨x2, x3, e2, e3, w2, w3⟩ := row2_vec h2
 obtain ⟨x4, e4, w4⟩ := row1_int h3
 obtain ⟨x5, e5, w5⟩ := row1_int h4
 exact ⟨⟨x0, x1, x2, x3, x4, x5⟩, ⟨w0, w1, w2, w3, w4, w5⟩, by rw [e0, e1, e2, e3, e4, e5]; rfl⟩
def Ra.bd (x : Ra) : Prop := x.nm.size ≤ maxLen ∧ Bd x.fr ∧ Bd x.to ∧ Bd x.c1 ∧ Bd x.c2 ∧ Bd x.sz ∧ Bd x.d1 ∧ Bd x.d2
theorem cells_rs : Tryz.prog.cellsOf 83 = 8 := by kernel_rfl
theorem row_rs {w : World} {n : Nat} {cs : List Value} (h : RowIs Tryz.prog w n 83 cs) : ∃ x : Ra, x.bd ∧ cs = x.cells := by
 obtain ⟨hl, m, hf⟩ := rowIs_struct Tryz.underlying83 h
 rw [cells_rs] at hl
 obtain ⟨s, rfl⟩ : ∃ s : Nat → Value, cs = [s 0, s 1, s 2, s 3, s 4, s 5, s 6, s 7] := ⟨fun i => cs.getD i undef, (map_getD cs 8 hl).trans rfl⟩
 clear hl h
 have h0 := nth_of hf 0 rfl
 have h1 := nth_of hf 1 rfl
 have h2 := nth_of hf 2 rfl
 have h3 := nth_of hf 3 rfl
 have h4 := nth_of hf 4 rfl
 have h5 := nth_of hf 5 rfl
 simp only [cells_int, cells_bool, cells_string, cells_vec, List.drop_zero, List.drop_succ_cons, List.take_succ_cons, List.take_zero] at h0 h1 h2 h3 h4 h5
 obtain ⟨x0, e0, w0⟩ := row1_string h0
 obtain ⟨x1, e1, w1⟩ := row1_int h1
 obtain ⟨x2, e2, w2⟩ := row1_int h2
 obtain ⟨x3, x4, e3, e4, w3, w4⟩ := row2_vec h3
 obtain ⟨x5, e5, w5⟩ := row1_int h4
 obtain ⟨x6, x7, e6, e7, w6, w7⟩ := row2_vec h5
 exact ⟨⟨x0, x1, x2, x3, x4, x5, x6, x7⟩, ⟨w0, w1, w2, w3, w4, w5, w6, w7⟩, by rw [e0, e1, e2, e3, e4, e5, e6, e7]; rfl⟩
def Dr.bd (x : Dr) : Prop := x.nm.size ≤ maxLen ∧ Bd x.lv ∧ Bd x.c1 ∧ Bd x.c2 ∧ Bd x.sz
theorem cells_ds : Tryz.prog.cellsOf 61 = 5 := by kernel_rfl
theorem row_ds {w : World} {n : Nat} {cs : List Value} (h : RowIs Tryz.prog w n 61 cs) : ∃ x : Dr, x.bd ∧ cs = x.cells := by
 obtain ⟨hl, m, hf⟩ := rowIs_struct Tryz.underlying61 h
 rw [cells_ds] at hl
 obtain ⟨s, rfl⟩ : ∃ s : Nat → Value, cs = [s 0, s 1, s 2, s 3, s 4] := ⟨fun i => cs.getD i undef, (map_getD cs 5 hl).trans rfl⟩
 clear hl h
 have h0 := nth_of hf 0 rfl
 have h1 := nth_of hf 1 rfl
 have h2 := nth_of hf 2 rfl
 have h3 := nth_of hf 3 rfl
 simp only [cells_int, cells_bool, cells_string, cells_vec, List.drop_zero, List.drop_succ_cons, List.take_succ_cons, List.take_zero] at h0 h1 h2 h3
 obtain ⟨x0, e0, w0⟩ := row1_string h0
 obtain ⟨x1, e1, w1⟩ := row1_int h1
 obtain ⟨x2, x3, e2, e3, w2, w3⟩ := row2_vec h2
 obtain ⟨x4, e4, w4⟩ := row1_int h3
 exact ⟨⟨x0, x1, x2, x3, x4⟩, ⟨w0, w1, w2, w3, w4⟩, by rw [e0, e1, e2, e3, e4]; rfl⟩
def Ln.bd (x : Ln) : Prop := x.nm.size ≤ maxLen ∧ Bd x.lv ∧ Bd x.a1 ∧ Bd x.a2 ∧ Bd x.v1 ∧ Bd x.v2 ∧ Bd x.cl
theorem cells_lns : Tryz.prog.cellsOf 85 = 7 := by kernel_rfl
theorem row_lns {w : World} {n : Nat} {cs : List Value} (h : RowIs Tryz.prog w n 85 cs) : ∃ x : Ln, x.bd ∧ cs = x.cells := by
 obtain ⟨hl, m, hf⟩ := rowIs_struct Tryz.underlying85 h
 rw [cells_lns] at hl
 obtain ⟨s, rfl⟩ : ∃ s : Nat → Value, cs = [s 0, s 1, s 2, s 3, s 4, s 5, s 6] := ⟨fun i => cs.getD i undef, (map_getD cs 7 hl).trans rfl⟩
 clear hl h
 have h0 := nth_of hf 0 rfl
 have h1 := nth_of hf 1 rfl
 have h2 := nth_of hf 2 rfl
 have h3 := nth_of hf 3 rfl
 have h4 := nth_of hf 4 rfl
 simp only [cells_int, cells_bool, cells_string, cells_vec, List.drop_zero, List.drop_succ_cons, List.take_succ_cons, List.take_zero] at h0 h1 h2 h3 h4
 obtain ⟨x0, e0, w0⟩ := row1_string h0
 obtain ⟨x1, e1, w1⟩ := row1_int h1
 obtain ⟨x2, x3, e2, e3, w2, w3⟩ := row2_vec h2
 obtain ⟨x4, x5, e4, e5, w4, w5⟩ := row2_vec h3
 obtain ⟨x6, e6, w6⟩ := row1_int h4
 exact ⟨⟨x0, x1, x2, x3, x4, x5, x6⟩, ⟨w0, w1, w2, w3, w4, w5, w6⟩, by rw [e0, e1, e2, e3, e4, e5, e6]; rfl⟩
theorem cells_table : Tryz.prog.cellsOf 36 = 18 := by kernel_rfl
theorem cells_ints : Tryz.prog.cellsOf 24 = 1 := by kernel_rfl
theorem cellsl_ws : Tryz.prog.cellsOf 25 = 1 := by kernel_rfl
theorem cellsl_ars : Tryz.prog.cellsOf 26 = 1 := by kernel_rfl
theorem cellsl_ps : Tryz.prog.cellsOf 27 = 1 := by kernel_rfl
theorem cellsl_fs : Tryz.prog.cellsOf 28 = 1 := by kernel_rfl
theorem cellsl_zs : Tryz.prog.cellsOf 29 = 1 := by kernel_rfl
theorem cellsl_ss : Tryz.prog.cellsOf 30 = 1 := by kernel_rfl
theorem cellsl_las : Tryz.prog.cellsOf 31 = 1 := by kernel_rfl
theorem cellsl_rs : Tryz.prog.cellsOf 32 = 1 := by kernel_rfl
theorem cellsl_ds : Tryz.prog.cellsOf 33 = 1 := by kernel_rfl
theorem cellsl_lns : Tryz.prog.cellsOf 34 = 1 := by kernel_rfl
structure Tb.bd (t : Tb) : Prop where
  hd : Bd t.rad ∧ Bd t.bal ∧ Bd t.rst ∧ Bd t.gx ∧ Bd t.gy ∧ Bd t.drg ∧ Bd t.shf
  tr : t.tr.length ≤ maxLen ∧ ∀ x ∈ t.tr, Bd x
  ws : t.ws.length ≤ maxLen ∧ ∀ x ∈ t.ws, x.bd
  ars : t.ars.length ≤ maxLen ∧ ∀ x ∈ t.ars, x.bd
  ps : t.ps.length ≤ maxLen ∧ ∀ x ∈ t.ps, x.bd
  fs : t.fs.length ≤ maxLen ∧ ∀ x ∈ t.fs, x.bd
  zs : t.zs.length ≤ maxLen ∧ ∀ x ∈ t.zs, x.bd
  ss : t.ss.length ≤ maxLen ∧ ∀ x ∈ t.ss, x.bd
  las : t.las.length ≤ maxLen ∧ ∀ x ∈ t.las, x.bd
  rs : t.rs.length ≤ maxLen ∧ ∀ x ∈ t.rs, x.bd
  ds : t.ds.length ≤ maxLen ∧ ∀ x ∈ t.ds, x.bd
  lns : t.lns.length ≤ maxLen ∧ ∀ x ∈ t.lns, x.bd
structure TbOpen (w : World) (t : Tb) (a : TbA) : Prop where
  bd : t.bd
  at_ : TbAt w t a
  tr : t.tr.length ≤ a.trc
  ws : t.ws.length ≤ a.wsc
  ars : t.ars.length ≤ a.arsc
  ps : t.ps.length ≤ a.psc
  fs : t.fs.length ≤ a.fsc
  zs : t.zs.length ≤ a.zsc
  ss : t.ss.length ≤ a.ssc
  las : t.las.length ≤ a.lasc
  rs : t.rs.length ≤ a.rsc
  ds : t.ds.length ≤ a.dsc
  lns : t.lns.length ≤ a.lnsc
theorem tb_open {w : World} {n : Nat} {cs : List Value} (h : RowIs Tryz.prog w n 36 cs) : ∃ (t : Tb) (a : TbA), TbOpen w t a ∧ cs = t.cells a := by
 obtain ⟨hl, m, hf⟩ := rowIs_struct Tryz.underlying36 h
 rw [cells_table] at hl
 obtain ⟨s, rfl⟩ : ∃ s : Nat → Value, cs = [s 0, s 1, s 2, s 3, s 4, s 5, s 6, s 7, s 8, s 9, s 10, s 11, s 12, s 13, s 14, s 15, s 16, s 17] := ⟨fun i => cs.getD i undef, (map_getD cs 18 hl).trans rfl⟩
 clear hl h
 have h0 := nth_of hf 0 rfl
 have h1 := nth_of hf 1 rfl
 have h2 := nth_of hf 2 rfl
 have h3 := nth_of hf 3 rfl
 have h4 := nth_of hf 4 rfl
 have h5 := nth_of hf 5 rfl
 have h6 := nth_of hf 6 rfl
 have h7 := nth_of hf 7 rfl
 have h8 := nth_of hf 8 rfl
 have h9 := nth_of hf 9 rfl
 have h10 := nth_of hf 10 rfl
 have h11 := nth_of hf 11 rfl
 have h12 := nth_of hf 12 rfl
 have h13 := nth_of hf 13 rfl
 have h14 := nth_of hf 14 rfl
 have h15 := nth_of hf 15 rfl
 have h16 := nth_of hf 16 rfl
 simp only [cells_int, cells_vec, cells_ints, cellsl_ws, cellsl_ars, cellsl_ps, cellsl_fs, cellsl_zs, cellsl_ss, cellsl_las, cellsl_rs, cellsl_ds, cellsl_lns, List.drop_zero, List.drop_succ_cons, List.take_succ_cons, List.take_zero] at h0 h1 h2 h3 h4 h5 h6 h7 h8 h9 h10 h11 h12 h13 h14 h15 h16
 obtain ⟨x0, e0, w0⟩ := row1_int h0
 obtain ⟨x1, e1, w1⟩ := row1_int h1
 obtain ⟨x2, e2, w2⟩ := row1_int h2
 obtain ⟨x3, x4, e3, e4, w3, w4⟩ := row2_vec h3
 obtain ⟨x5, e5, w5⟩ := row1_int h4
 obtain ⟨x6, e6, w6⟩ := row1_int h5
 obtain ⟨A7, l7, c7, e7, y7, z7, w7, r7⟩ := rows_open Tryz.underlying24 h6 cells_int (fun x : Int => [Value.int .i64 x]) Bd (fun x => ⟨_, _, rfl⟩) (fun m row hr => by
  obtain ⟨x, hx, wx⟩ := rowIs_int Tryz.underlying3 hr
  exact ⟨x, wf_bd wx, hx⟩)
 obtain ⟨A8, l8, c8, e8, y8, z8, w8, r8⟩ := rows_open Tryz.underlying25 h7 cells_ws Wl.cells Wl.bd (fun x => ⟨_, _, rfl⟩) (fun m row hr => row_ws hr)
 obtain ⟨A9, l9, c9, e9, y9, z9, w9, r9⟩ := rows_open Tryz.underlying26 h8 cells_ars Ac.cells Ac.bd (fun x => ⟨_, _, rfl⟩) (fun m row hr => row_ars hr)
 obtain ⟨A10, l10, c10, e10, y10, z10, w10, r10⟩ := rows_open Tryz.underlying27 h9 cells_ps Ps.cells Ps.bd (fun x => ⟨_, _, rfl⟩) (fun m row hr => row_ps hr)
 obtain ⟨A11, l11, c11, e11, y11, z11, w11, r11⟩ := rows_open Tryz.underlying28 h10 cells_fs Fl.cells Fl.bd (fun x => ⟨_, _, rfl⟩) (fun m row hr => row_fs hr)
 obtain ⟨A12, l12, c12, e12, y12, z12, w12, r12⟩ := rows_open Tryz.underlying29 h11 cells_zs Zn.cells Zn.bd (fun x => ⟨_, _, rfl⟩) (fun m row hr => row_zs hr)
 obtain ⟨A13, l13, c13, e13, y13, z13, w13, r13⟩ := rows_open Tryz.underlying30 h12 cells_ss Sc.cells Sc.bd (fun x => ⟨_, _, rfl⟩) (fun m row hr => row_ss hr)
 obtain ⟨A14, l14, c14, e14, y14, z14, w14, r14⟩ := rows_open Tryz.underlying31 h13 cells_las La.cells La.bd (fun x => ⟨_, _, rfl⟩) (fun m row hr => row_las hr)
 obtain ⟨A15, l15, c15, e15, y15, z15, w15, r15⟩ := rows_open Tryz.underlying32 h14 cells_rs Ra.cells Ra.bd (fun x => ⟨_, _, rfl⟩) (fun m row hr => row_rs hr)
 obtain ⟨A16, l16, c16, e16, y16, z16, w16, r16⟩ := rows_open Tryz.underlying33 h15 cells_ds Dr.cells Dr.bd (fun x => ⟨_, _, rfl⟩) (fun m row hr => row_ds hr)
 obtain ⟨A17, l17, c17, e17, y17, z17, w17, r17⟩ := rows_open Tryz.underlying34 h16 cells_lns Ln.cells Ln.bd (fun x => ⟨_, _, rfl⟩) (fun m row hr => row_lns hr)
 exact ⟨⟨x0, x1, x2, x3, x4, x5, x6, l7, l8, l9, l10, l11, l12, l13, l14, l15, l16, l17⟩, ⟨A7, c7, A8, c8, A9, c9, A10, c10, A11, c11, A12, c12, A13, c13, A14, c14, A15, c15, A16, c16, A17, c17⟩, ⟨⟨⟨w0, w1, w2, w3, w4, w5, w6⟩, ⟨Nat.le_trans y7 z7, w7⟩, ⟨Nat.le_trans y8 z8, w8⟩, ⟨Nat.le_trans y9 z9, w9⟩, ⟨Nat.le_trans y10 z10, w10⟩, ⟨Nat.le_trans y11 z11, w11⟩, ⟨Nat.le_trans y12 z12, w12⟩, ⟨Nat.le_trans y13 z13, w13⟩, ⟨Nat.le_trans y14 z14, w14⟩, ⟨Nat.le_trans y15 z15, w15⟩, ⟨Nat.le_trans y16 z16, w16⟩, ⟨Nat.le_trans y17 z17, w17⟩⟩, ⟨r7, r8, r9, r10, r11, r12, r13, r14, r15, r16, r17⟩, y7, y8, y9, y10, y11, y12, y13, y14, y15, y16, y17⟩, by rw [e0, e1, e2, e3, e4, e5, e6, e7, e8, e9, e10, e11, e12, e13, e14, e15, e16, e17]; rfl⟩
end Go.Proofs.YtbpcjpiaimdpnaaGreatDoor
namespace Go.Proofs.YtbpcjpiaimdpnaaGreatDoor
open Go Go.RowKit
set_option linter.unusedVariables false
attribute [local go_sem ↓] evalL getL64 setL64
attribute [local go_sem ↓] getL8 setL8
attribute [local go_sem ↓] getL1 getL0
def fewB (t : Tb) : Bool := decide ((t.tr.length : Int) ≤ 40) && decide ((t.ws.length : Int) ≤ 80) && decide ((t.ars.length : Int) ≤ 40) && decide ((t.ps.length : Int) ≤ 40) && decide ((t.fs.length : Int) ≤ 20) && decide ((t.zs.length : Int) ≤ 30) && decide ((t.ss.length : Int) ≤ 30) && decide ((t.las.length : Int) ≤ 40) && decide ((t.rs.length : Int) ≤ 30) && decide ((t.ds.length : Int) ≤ 20) && decide ((t.lns.length : Int) ≤ 20)
set_option maxRecDepth 100000 in
set_option maxHeartbeats 8000000 in
theorem few_any (t : Tb) (a : TbA) (w : World) (ha : TbAt w t a) :
  Calls Tryz.prog 10 #[t.v a] w fun e w' => e = .returned (.bool (fewB t)) ∧ Below w.heap.size w w' := by
 obtain ⟨M, hM⟩ : ∃ M, M = fewB t := ⟨_, rfl⟩
 rw [← hM]
 go_enter Tryz.func10, Tryz.ntmps10; (try simp only [List.append_eq, List.cons_append, List.nil_append])
 go_upto_region 1 with (fail)
 (refine pin_eqT (fun w1_ hE_w1 => ?_))
 have HT1 : BoxAt w1_ w.heap.size (t.cells a) := by rw [hE_w1]; exact BoxAt.new _ _ _
 have HBB : Below w.heap.size w w1_ := by rw [hE_w1]; ((with_reducible (repeat (first | exact bR _ _ | apply bS | apply bA | apply bD | refine bT ?_ (by assumption) ?_ | refine bO (by assumption) ?_ ?_))) <;> (first | omega | (simp <;> omega)))
 clear hE_w1
 have y7 := HT1.c 7 (.slice a.tr t.tr.length a.trc) rfl
 have y8 := HT1.c 8 (.slice a.ws t.ws.length a.wsc) rfl
 have y9 := HT1.c 9 (.slice a.ars t.ars.length a.arsc) rfl
 have y10 := HT1.c 10 (.slice a.ps t.ps.length a.psc) rfl
 have y11 := HT1.c 11 (.slice a.fs t.fs.length a.fsc) rfl
 have y12 := HT1.c 12 (.slice a.zs t.zs.length a.zsc) rfl
 have y13 := HT1.c 13 (.slice a.ss t.ss.length a.ssc) rfl
 have y14 := HT1.c 14 (.slice a.las t.las.length a.lasc) rfl
 have y15 := HT1.c 15 (.slice a.rs t.rs.length a.rsc) rfl
 have y16 := HT1.c 16 (.slice a.ds t.ds.length a.dsc) rfl
 have y17 := HT1.c 17 (.slice a.lns t.lns.length a.lnsc) rfl
 have lt_ := HT1.lt
 unfold fewB at hM
 revert hM
 cases h0 : decide ((t.tr.length : Int) ≤ 40)
 rotate_left
 cases h1 : decide ((t.ws.length : Int) ≤ 80)
 rotate_left
 cases h2 : decide ((t.ars.length : Int) ≤ 40)
 rotate_left
 cases h3 : decide ((t.ps.length : Int) ≤ 40)
 rotate_left
 cases h4 : decide ((t.fs.length : Int) ≤ 20)
 rotate_left
 cases h5 : decide ((t.zs.length : Int) ≤ 30)
 rotate_left
 cases h6 : decide ((t.ss.length : Int) ≤ 30)
 rotate_left
 cases h7 : decide ((t.las.length : Int) ≤ 40)
 rotate_left
 cases h8 : decide ((t.rs.length : Int) ≤ 30)
 rotate_left
 cases h9 : decide ((t.ds.length : Int) ≤ 20)
 rotate_left
 cases h10 : decide ((t.lns.length : Int) ≤ 20)
 rotate_left
 all_goals (
  intro hM
  simp only [Bool.and_true, Bool.true_and, Bool.and_false, Bool.false_and] at hM
  subst hM
  go_wp2_with fail
  go_ret
  exact ⟨rfl, HBB⟩)
set_option maxRecDepth 100000 in
set_option maxHeartbeats 8000000 in
theorem checks_walk (t : Tb) (a : TbA) (w : World) (ho : TbOpen w t a) (ht : Tabs w) :
  Calls Tryz.prog 3 #[t.v a] w fun e w' => e = .returned (.bool true) ∧ Below w.heap.size w w' := by
 have HO := hQ0 ho
 have HT := hQ0 ht
 have hsm : TbSmall t := ⟨ho.bd.tr.1, fun x hx => (ho.bd.ws.2 x hx).1, fun x hx => (ho.bd.ars.2 x hx).1, fun x hx => (ho.bd.ps.2 x hx).1, fun x hx => (ho.bd.fs.2 x hx).1, fun x hx => (ho.bd.zs.2 x hx).1, fun x hx => (ho.bd.ss.2 x hx).1, fun x hx => (ho.bd.las.2 x hx).1, fun x hx => (ho.bd.rs.2 x hx).1, fun x hx => (ho.bd.ds.2 x hx).1, fun x hx => (ho.bd.lns.2 x hx).1⟩
 have HSM := hQ0 hsm
 have HC0 : Hid (TbCap0 t a) := hQ0 ⟨ho.ss, ho.rs, ho.lns⟩
 have KA := fun W (h : Tabs W) => awake09_any W h
 have HKA := hQ0 KA
 clear ho ht hsm KA
 go_enter Tryz.func3, Tryz.ntmps3; (try simp only [List.append_eq, List.cons_append, List.nil_append])
 go_upto_region 1 with (fail)
 (refine pin_eqT (fun w1 hE_w1 => ?_))
 have HX1 : Hid (BoxAt w1 w.heap.size (t.cells a)) := hQ0 (by rw [hE_w1]; exact BoxAt.new _ _ _)
 have HB1 : Hid (Below w.heap.size w w1) := hQ0 (by rw [hE_w1]; ((with_reducible (repeat (first | exact bR _ _ | apply bS | apply bA | apply bD | refine bT ?_ (by assumption) ?_ | refine bO (by assumption) ?_ ?_))) <;> (first | omega | (simp <;> omega))))
 clear hE_w1
 have KA1 := HKA.out w1 (HT.out.below HB1.out HT.out.three)
 go_upto_region 3 with (go_at_call 9; refine KA1.mono ?_; rintro e w2 ⟨rfl, hb2⟩)
 have HB2 := hQ0 (HB1.out.trans (hb2.mono HB1.out.size))
 have HX2 := hQ0 (HX1.out.below hb2 HX1.out.lt)
 clear hb2 HB1 HX1 KA1
 refine wp_region_lit ?_
 apply wpL_maybe true (by exact rfl) (t.v a)
 (case h => intro _; exact load_tb _ _ 1 rfl w.heap.size (by first | rfl | (go_simp; done)) t a _ HX2.out)
 intro K hK; go_simp; apply hK; clear hK K
 refine wpList_plain rfl fun K hK => ?_
 go_simp
 go_at_call 10
 refine (few_any t a _ (HO.out.at_.below HB2.out (Nat.le_refl _))).mono ?_
 rintro e w3 ⟨rfl, hb3⟩
 refine hK _ _ ?_
 clear hK K
 have HB3 := hQ0 (HB2.out.trans (hb3.mono HB2.out.size))
 have HX := hQ0 (HX2.out.below hb3 HX2.out.lt)
 clear hb3 HB2 HX2
 refine wpList_plain rfl fun K hK => ?_; go_simp; apply hK; clear hK K
 refine wpList_nil ?_
 (try go_simp)
 cases hf : fewB t
 case false =>
  have KA3 := HKA.out w3 (HT.out.below HB3.out HT.out.three)
  go_wp2_with (go_at_call 9; refine KA3.mono ?_; rintro e w4 ⟨rfl, hb4⟩)
  go_ret
  exact ⟨rfl, HB3.out.trans (hb4.mono HB3.out.size)⟩
 case true =>
  have HA3 := hQ0 (HO.out.at_.below HB3.out (Nat.le_refl _))
  obtain ⟨ce, hce⟩ : ∃ z, z = checkR t := ⟨_, rfl⟩
  have HCE := hQ0 hce
  clear hce
  go_upto_region 5 with (fail)
  have hS_ : (Below w3.heap.size w3) w3.drew := (Below.refl _ _).drew
  refine wp_region_Y (Below w3.heap.size w3) 6 [] (by kernel_rfl) (by kernel_rfl) (by kernel_rfl) (by kernel_rfl) (fun _ _ _ _ _ h => h) hS_ ?_
  generalize w3.drew = wd_ at hS_  ⊢
  apply wpY_maybe (i := 0) rfl (by kernel_rfl) true (by exact rfl) (t.v a)
  (case h => intro _ W_ hW_; exact load_tb _ _ 1 rfl w.heap.size (by first | rfl | (go_simp; done)) t a W_ (HX.out.below hW_ HX.out.lt))
  intro K hK; go_simp; apply hK; clear hK K
  apply wpY_maybe (i := 2) rfl (by kernel_rfl) true (by exact rfl) (t.v a)
  (case h => intro _ W_ hW_; exact load_tb _ _ 1 rfl w.heap.size (by first | rfl | (go_simp; done)) t a W_ (HX.out.below hW_ HX.out.lt))
  intro K hK; go_simp; apply hK; clear hK K
  refine wpY_callm (i := 1) rfl (by kernel_rfl) true (by exact rfl) (.int .i64 ce) ?_ ?_
  · intro _; intro N_ hN_; generalize hA_ : Act.mk _ _ = A_ at hN_ ⊢; (have v9_ := evA hA_ 9; simp only [getL64, getL8, getL1, getL0, opt_true, Bool.not_false] at v9_); clear hA_; have vc_ := acC A_; have vf_ := acF A_; generalize Act.eval A_ = ev_ at vc_ vf_ v9_ ⊢; go_simp; go_at_call 11; refine (check_any t a _ (HA3.out.below hS_ (Nat.le_refl _)) HC0.out HSM.out).mono ?_; rintro e w9 ⟨rfl, hb9⟩; rw [← HCE.out]; exact hN_ _ (hS_.trans (hb9.mono hS_.size))
  intro K hK w_ hS2_; go_simp; apply hK; clear hK K hS_; have hS_ := hS2_; clear hS2_
  refine wpY_callm (i := 3) rfl (by kernel_rfl) true (by exact rfl) (.int .i64 ce) ?_ ?_
  · intro _; intro N_ hN_; generalize hA_ : Act.mk _ _ = A_ at hN_ ⊢; (have v11_ := evA hA_ 11; simp only [getL64, getL8, getL1, getL0, opt_true, Bool.not_false] at v11_); clear hA_; have vc_ := acC A_; have vf_ := acF A_; generalize Act.eval A_ = ev_ at vc_ vf_ v11_ ⊢; go_simp; go_at_call 12; refine (rcheck_any t a _ (HA3.out.below hS_ (Nat.le_refl _)) HSM.out).mono ?_; rintro e w9 ⟨rfl, hb9⟩; rw [← HCE.out]; exact hN_ _ (hS_.trans (hb9.mono hS_.size))
  intro K hK w_ hS2_; go_simp; apply hK; clear hK K hS_; have hS_ := hS2_; clear hS2_
  iterate 2 (apply wpY_seq 6 rfl (by kernel_rfl) true (by exact rfl); (case h => intro _ W_ hW_; have hcW_ := (bcellW hW_).1; go_simp; try exact rfl); intro K hK; go_simp; apply hK; clear hK K)
  refine wpY_nil (by kernel_rfl) ?_
  (try simp only [List.filterMap_nil])
  (try go_simp)
  go_wp2_with fail
  go_ret
  exact ⟨rfl, HB3.out.trans (hS_.mono HB3.out.size)⟩
end Go.Proofs.YtbpcjpiaimdpnaaGreatDoor
namespace Go.Proofs.YtbpcjpiaimdpnaaGreatDoor
open Go Go.RowKit
set_option linter.unusedVariables false
abbrev laids : List (String × DataW Unit) := [("math/bits.deBruijn32tab", Rows.laid_math_bits_deBruijn32tab), ("math/bits.deBruijn64tab", Rows.laid_math_bits_deBruijn64tab), ("internal/strconv.uint64pow10", Rows.laid_internal_strconv_uint64pow10), ("unicode.White_Space", Rows.laid_unicode_White_Space), ("strings.asciiSpace", Rows.laid_strings_asciiSpace)]
theorem door_met (os : Os) (args : Array Value) : laidMetH Tryz.prog laids ((World.doorLaid Tryz.prog 400 os).forCall (fun _ _ => 0) ⟨#[], args, []⟩).memory :=
 laidMetH_of_parts3 (fuel := 8) (laidMet_of_run' 8 (by kernel_rfl) (by kernel_rfl)) (by kernel_rfl) (by kernel_rfl)
theorem pow_data : (Rows.laid_internal_strconv_uint64pow10 : DataW Unit) = Lib.tabData .u64 Lib.pow10Tab := by kernel_rfl
theorem spc_data : (Rows.laid_strings_asciiSpace : DataW Unit) = Lib.tabData .u8 Lib.asciiSpaceTab := by kernel_rfl
theorem tabs_of_laid {W : World} (h : laidMetH Tryz.prog laids W) : Tabs W := by
 rw [MakeChecks.laidMetH_plain _ _ _ (by kernel_rfl)] at h
 have h3 := laidMet.tail (laidMet.tail h)
 have h5 := laidMet.tail (laidMet.tail h3)
 rw [pow_data] at h3
 rw [spc_data] at h5
 exact ⟨Lib.tabIs_of_head (t := 286) (e := 5) (n := 256) gSp (by kernel_rfl) (by kernel_rfl) (by kernel_rfl) (by kernel_rfl) (by kernel_rfl) h5, Lib.tabIs_of_head (t := 302) (e := 284) (n := 20) gPw (by kernel_rfl) (by kernel_rfl) (by kernel_rfl) (by kernel_rfl) (by kernel_rfl) h3⟩
end Go.Proofs.YtbpcjpiaimdpnaaGreatDoor
namespace Go.Proofs.YtbpcjpiaimdpnaaGreatDoor.lawLC
open Go.ChangeShapes Go.WideShapes Go.ChangeAt Go.RowKit
open Go.ChangeMaps (open_string shut_string)
set_option linter.unusedVariables false
theorem walk (w : World) (a : Array Value) (n : Nat) (hr : RowIs Tryz.prog w n 36 a.toList) (ht : Tabs w) :
  Calls Tryz.prog 3 #[.agg a] w fun e w' => e = .returned (.bool true) ∧ Below w.heap.size w w' := by
 obtain ⟨t, b, ho, hc⟩ := tb_open hr
 obtain rfl : a = (t.cells b).toArray := Array.ext' hc
 exact checks_walk t b w ho ht
theorem own : ownKnob Tryz.prog.godebug = none := by kernel_rfl
theorem laidOut : laidOutB Tryz.prog = true := by kernel_rfl
set_option maxRecDepth 100000 in
theorem lifted (os : Os) (started : os.Started) (H : Type) (enc : TypeId × Value → H) :
  ReturnsInHanded {} Tryz.checked os 3 .any (fun w args => (Rows.layoutChecksSpec.pre enc Tryz.prog Tryz.f3 [] false w args ∧ laidMetH Tryz.prog laids w) ∧ sizedMet enc Tryz.prog Tryz.f3 (OpenSpec.ofChange Rows.layoutChecksSpec) false w args)
   (Rows.layoutChecksSpec.post enc Tryz.prog Tryz.f3 false true false false) := by
 refine returnsInHanded_of_change_and (C := Tryz.checked) (X := fun w _ => laidMetH Tryz.prog laids w) (fun _ _ _ hh h => h.of_heap hh) own started (by kernel_rfl) Tryz.func3
  (ChangeSpec.witness_shaped (enc := enc) (C := Tryz.checked) (os := os) (X := fun w _ => laidMetH Tryz.prog laids w) false (World.doorLaid Tryz.prog 400 os) #[.agg #[.int .i64 0, .int .i64 0, .int .i64 0, .int .i64 0, .int .i64 0, .int .i64 0, .int .i64 0, .slice none 0 0, .slice none 0 0, .slice none 0 0, .slice none 0 0, .slice none 0 0, .slice none 0 0, .slice none 0 0, .slice none 0 0, .slice none 0 0, .slice none 0 0, .slice none 0 0]] 8 rfl (World.shaped_of_RefB (by kernel_rfl) (by kernel_rfl)) (by kernel_rfl) (by kernel_rfl) (by kernel_rfl) (door_met os _)) ?_
 intro W base args ds gs before hval0 hW _ _ hL _
 have ht := tabs_of_laid hL
 have hval : ∀ (j : Nat) t v, Tryz.f3.params[j]? = some t → args[j]? = some v → Value.okWide Tryz.prog W .any base t v := hval0
 have hW' := hW
 obtain ⟨p, q, hA0, hV, rfl, hfz, hnd⟩ := hW
 have hA : DataW.TrodAll enc Tryz.prog W 0 (fun _ => true) true Tryz.f3.params.toList args.toList ds p := hA0
 rw [Tryz.params3] at hA hval


 obtain ⟨v0, vs0, d0, ds0, p0, q0, hargs, rfl, rfl, h0, r0⟩ := trodAll_cons hA
 obtain ⟨rfl, rfl, rfl⟩ := trodAll_nil r0
 obtain rfl : args = #[v0] := by cases args; simp_all
 obtain ⟨rfl, rfl⟩ := trodVars_none hV
 obtain ⟨a0, rfl, hs0⟩ := okWide_struct Tryz.underlying36 (hval 0 36 v0 rfl rfl)
 have k0 := h0
 have lt0 : ∀ x ∈ p0, x.block < W.heap.size := by obtain ⟨m, hm⟩ := k0; exact DataW.trod_lt m _ _ _ hm
 obtain ⟨n0, w0⟩ : ∃ n, RowIs Tryz.prog W n 36 a0.toList := by obtain ⟨fuel, hf⟩ := h0; exact ⟨fuel, rowIs_of_trod fuel _ _ _ hf⟩
 clear hA0 hval0
 refine (walk W a0 n0 w0 ht).mono fun e W' ⟨he, bel⟩ => ?_
 subst he
 exact ⟨_, rfl, _, _, _, [], _, [], hW', trodAll_mk1 (shut_bool Tryz.underlying4 _), (trodAll_cons_mk (Below.trod laidOut (by kernel_rfl) (of_decide_eq_true (by kernel_rfl)) k0 bel lt0) trodAll_mk0), rfl, bel.frame _, fun h => by cases h⟩
theorem jf0 : (Rows.layoutChecksRow.inPlace == Tryz.prog.inPlace 3) = true := by kernel_rfl
theorem jf1 : (Rows.layoutChecksRow.unfollowed == Tryz.prog.unfollowed 3) = true := by kernel_rfl
theorem jf2 : (Rows.layoutChecksRow.recurses == Tryz.prog.recurses 3) = true := by kernel_rfl
theorem jf3 : (Rows.layoutChecksRow.named == Tryz.prog.varsNamed 3) = true := by kernel_rfl
theorem jf4 : (Rows.layoutChecksRow.loops == (Tryz.f3.params.toList ++ Rows.layoutChecksSpec.plain.varTypes Tryz.prog).any (Tryz.prog.loopsFrom ·)) = true := by kernel_rfl
theorem facts : joinedFacts Tryz.prog 3 Tryz.f3 Rows.layoutChecksSpec Rows.layoutChecksRow = true := by
 unfold joinedFacts
 rw [jf0, jf1, jf2, jf3, jf4]
 kernel_rfl
theorem over : Rows.layoutChecksRow.holds Tryz.pinned (OpenSpec.ofChange Rows.layoutChecksSpec) :=
 OpenClaim.holds_of_wide 3 Tryz.f3 rfl rfl rfl rfl rfl rfl rfl ⟨rfl, rfl, rfl, rfl, rfl⟩ rfl rfl rfl rfl rfl (by kernel_rfl) Tryz.func3 facts
  (of_decide_eq_true (by kernel_rfl)) (by unfold Func.isWrapper; first | (rw [if_pos (by decide +kernel)]; kernel_rfl) | (rw [if_neg (by decide +kernel)]; exact ⟨rfl, rfl⟩))
  (fun os started H enc _ => lifted os started H enc)
theorem proved : Rows.LayoutChecksCardSaid :=
 Claim7.holds_tied_plain_at .later [] [.data, .data, .data, .listed, .data] true (true, "4ffa0a240c363f7bc4c1e5ce10cebaf26484fe1eb9c5358c8204ed8c115b2db5") true
  over (fun _ h => by cases h) (by kernel_rfl) (fun _ h => by cases h) layoutChecks_row_tie rfl ⟨rfl, rfl⟩ (by kernel_rfl) rfl
  (fun f fn hf hfn => by
   obtain rfl : f = 3 := Option.some.inj ((show Tryz.prog.funcNamed "pinball/pinballlaw09.LayoutChecks" = some 3 by kernel_rfl).symm.trans hf) |>.symm
   obtain rfl : fn = Tryz.f3 := (Option.some.inj (Tryz.func3.symm.trans hfn)).symm
   exact ⟨by kernel_rfl, fun j t ht => by
    rw [Tryz.params3] at ht
    have hm : t ∈ [36] := by simpa using Array.mem_of_getElem? ht
    have hall : ([36].all fun u => !Tryz.prog.wantsStandIn u) = true := by kernel_rfl
    exact (show Tryz.prog.wantsStandIn t = false by simpa using List.all_eq_true.1 hall t hm)⟩)
  (by kernel_rfl)
#print axioms proved
end Go.Proofs.YtbpcjpiaimdpnaaGreatDoor.lawLC
