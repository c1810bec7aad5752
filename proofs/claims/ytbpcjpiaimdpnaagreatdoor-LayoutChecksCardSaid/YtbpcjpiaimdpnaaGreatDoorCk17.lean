/- Merged texts: Lezs Less Lelas Lers Leds Lelns. -/
import Derived.Test.YtbpcjpiaimdpnaaGreatDoorCk15
import Derived.Deep.Cut
set_option linter.unusedSimpArgs false
set_option linter.unusedVariables false
namespace Go.Proofs.YtbpcjpiaimdpnaaGreatDoor
open Go Go.RowKit
set_option linter.unusedVariables false
attribute [local go_sem ↓] evalL getL64 setL64
attribute [local go_sem ↓] getL8 setL8
attribute [local go_sem ↓] getL1 getL0
set_option maxRecDepth 100000 in
set_option maxHeartbeats 8000000 in
theorem le_zs (w wr : World) (base : Nat) (A A0 : Option Addr) (c c0 : Nat) (l : List Zn) (L0 : List El) (TC : List Value) (df : List Deferred) (F : List Value) (hF : F.length = 291) (f1 : F[1]? = some (.pointer (some ⟨w.heap.size, 0, none⟩))) (f3 : F[3]? = some (.slice A0 L0.length c0)) (f4 : F[4]? = some (.int .i64 0))
  (hTC : TC[12]? = some (.slice A l.length c)) (hA : RowsAt 9 Zn.cells w A l) (hl : l.length ≤ 1000) (hL : L0.length ≤ 100000) (hwb : w.heap.size < base) (hb : Below w.heap.size w wr) (hbs : base ≤ wr.heap.size) (hT : BoxAt wr w.heap.size TC) (hX : ElOwn wr base A0 c0 L0) (R : Act → World → Prop)
  (hR : ∀ (F' : List Value) (w' : World) (A' : Option Addr) (c' : Nat), F'.length = 291 → F'[1]? = F[1]? → F'[2]? = F[2]? → F'[3]? = some (.slice A' (L0 ++ l.map Zn.el).length c') → Below w.heap.size w w' → base ≤ w'.heap.size → BoxAt w' w.heap.size TC → ElOwn w' base A' c' (L0 ++ l.map Zn.el) → R ⟨F'.toArray, df⟩ w') :
  (blkOf 0 Tryz.f86).wp Tryz.prog (AtEnd R) ⟨F.toArray, df⟩ wr := by
 obtain ⟨s, rfl⟩ := fr291_ex F hF
 have e1 : s 1 = .pointer (some ⟨w.heap.size, 0, none⟩) := Option.some.inj f1
 have e3 : s 3 = .slice A0 L0.length c0 := Option.some.inj f3
 have e4 : s 4 = .int .i64 0 := Option.some.inj f4
 unfold fr291
 rw [e1, e3, e4]
 have HE1 := hQ0 e1
 clear hF e1 f1 e3 f3 e4 f4
 have HA := hQ0 hA
 have HR := hQ0 hR
 have HLl := hQ0 hL
 have HT := hQ0 hT
 have HX := hQ0 hX
 have HB := hQ0 hb
 have HTC := hQ0 hTC
 clear hA hR hL hT hX hb hTC
 conv in (blkOf _ _) => whnf
 go_wp2_with fail
 go_loopg [3, 4] (l.length + 1) (fun gk t3 tt wr => ∃ (k : Nat) (A1 : Option Addr) (c1 : Nat), k ≤ l.length ∧ l.length - k < gk ∧ t3 = .slice A1 (L0 ++ (l.take k).map Zn.el).length c1 ∧ tt = .int .i64 k ∧ base ≤ wr.heap.size ∧ Hid (Below w.heap.size w wr ∧ BoxAt wr w.heap.size TC ∧ ElOwn wr base A1 c1 (L0 ++ (l.take k).map Zn.el)))
 case atStart => exact ⟨0, A0, c0, by omega, by omega, by simp, rfl, hbs, hQ0 ⟨HB.out, HT.out, by simpa using HX.out⟩⟩
 case round =>
  obtain ⟨wq, rfl⟩ : ∃ z, z = wr := ⟨_, rfl⟩
  clear HB HT HX hbs
  obtain ⟨k, A1, c1_, hk, hkk, rfl, rfl, hbs, HJ⟩ := hrel
  have hz_wq := HJ.out.1.size
  obtain ⟨L, hL⟩ : ∃ L : List El, L = L0 ++ (l.take k).map Zn.el := ⟨_, rfl⟩
  rw [← hL] at HJ ⊢
  have HL := hQ0 hL
  clear hL
  have tq := HJ.out.2.1.c 12 _ HTC.out
  have hltT := HJ.out.2.1.lt
  by_cases hlt : k < l.length
  · obtain ⟨x, hx⟩ : ∃ x, l[k]? = some x := ⟨l[k], by simp⟩
    obtain ⟨g, o, rfl, hg, c0, c1, c2, c3, c4, c5, c6, c7, c8⟩ := Zn.get (HA.out.below HJ.out.1 (Nat.le_refl _)) hx
    have i1 : (k : Int) < (l.length : Int) := by omega
    have HXX := hQ0 hx
    clear hx
    go_upto_region 6 with (fail)
    (refine pin_eqT (fun w3 hE_w3 => ?_))
    obtain ⟨gb, hgb⟩ : ∃ z, z = wq.heap.size := ⟨_, rfl⟩
    rw [← hgb]
    have HX3 : Hid (BoxAt w3 gb x.cells) := hQ0 (by rw [hE_w3, hgb]; exact BoxAt.new _ _ _)
    have HJ3 : Hid (Below w.heap.size w w3 ∧ BoxAt w3 w.heap.size TC ∧ ElOwn w3 base A1 c1_ L) := hQ0 (by
     rw [hE_w3]
     exact ⟨HJ.out.1.alloc hz_wq _, HJ.out.2.1.alloc _, own_below HJ.out.2.2 ((Below.refl _ _).alloc (Nat.le_refl _) _) (Nat.le_refl _)⟩)
    have hz3 : wq.heap.size < w3.heap.size := by rw [hE_w3]; simp
    clear hgb hE_w3 c0 c1 c2 c3 c4 c5 c6 c7 c8 hg tq hltT
    have y0 := HX3.out.c 0 _ rfl
    have y1 := HX3.out.c 1 _ rfl
    have y2 := HX3.out.c 2 _ rfl
    have y3 := HX3.out.c 3 _ rfl
    have y4 := HX3.out.c 4 _ rfl
    have y5 := HX3.out.c 5 _ rfl
    have y6 := HX3.out.c 6 _ rfl
    have y7 := HX3.out.c 7 _ rfl
    have y8 := HX3.out.c 8 _ rfl
    have lt_ := HX3.out.lt
    obtain ⟨d_, hd_⟩ : ∃ b, b = ((((in1 0 3 x.lv && nearV 1048576 ⟨x.l1, x.l2⟩) && nearV 1048576 ⟨x.h1, x.h2⟩) && nearV 256 ⟨x.f1, x.f2⟩) && in1 (-1) 31 x.cl) := ⟨_, rfl⟩
    have HF : Hid (d_ = x.fB) := hQ0 (by rw [hd_]; first | rfl | (simp only [Zn.fB]; first | ac_rfl | (simp only [Bool.and_assoc]; done)))
    have hb3 := Below.refl w3.heap.size w3
    revert hd_
    cases h0 : in1 0 3 x.lv
    rotate_left
    cases h1 : nearV 1048576 ⟨x.l1, x.l2⟩
    rotate_left
    cases h2 : nearV 1048576 ⟨x.h1, x.h2⟩
    rotate_left
    cases h3 : nearV 256 ⟨x.f1, x.f2⟩
    rotate_left
    cases h4 : in1 (-1) 31 x.cl
    rotate_left
    all_goals (
     intro hd_
     simp only [Bool.and_true, Bool.true_and, Bool.and_false, Bool.false_and] at hd_
     have HD := hQ0 hd_
     clear hd_
     go_upto_region 7 with (first | (go_at_call 34; refine (rin_any _ _ _ _).mono ?_; rintro e w9 ⟨rfl, hb9⟩; replace hb3 := hb3.trans (hb9.mono hb3.size); replace HX3 := hQ0 (HX3.out.below hb9 HX3.out.lt); clear hb9 lt_ y0 y1 y2 y3 y4 y5 y6 y7 y8; have y0 := HX3.out.c 0 _ rfl; have y1 := HX3.out.c 1 _ rfl; have y2 := HX3.out.c 2 _ rfl; have y3 := HX3.out.c 3 _ rfl; have y4 := HX3.out.c 4 _ rfl; have y5 := HX3.out.c 5 _ rfl; have y6 := HX3.out.c 6 _ rfl; have y7 := HX3.out.c 7 _ rfl; have y8 := HX3.out.c 8 _ rfl; have lt_ := HX3.out.lt) | (go_at_call 35; refine (rnear_any _ _ _ _ (by decide) (by decide)).mono ?_; rintro e w9 ⟨rfl, hb9⟩; replace hb3 := hb3.trans (hb9.mono hb3.size); replace HX3 := hQ0 (HX3.out.below hb9 HX3.out.lt); clear hb9 lt_ y0 y1 y2 y3 y4 y5 y6 y7 y8; have y0 := HX3.out.c 0 _ rfl; have y1 := HX3.out.c 1 _ rfl; have y2 := HX3.out.c 2 _ rfl; have y3 := HX3.out.c 3 _ rfl; have y4 := HX3.out.c 4 _ rfl; have y5 := HX3.out.c 5 _ rfl; have y6 := HX3.out.c 6 _ rfl; have y7 := HX3.out.c 7 _ rfl; have y8 := HX3.out.c 8 _ rfl; have lt_ := HX3.out.lt))
     obtain ⟨w4, rfl⟩ : ∃ z, z = w9 := ⟨_, rfl⟩
     clear lt_ y0 y1 y2 y3 y4 y5 y6 y7 y8
     clear h0
     have HX4 := HX3
     have HJ4 : Hid (Below w.heap.size w w4 ∧ BoxAt w4 w.heap.size TC ∧ ElOwn w4 base A1 c1_ L) := hQ0 ⟨HJ3.out.1.trans (hb3.mono (by omega)), HJ3.out.2.1.below hb3 (by omega), own_below HJ3.out.2.2 hb3 (Nat.le_refl _)⟩
     have hz4 : wq.heap.size < w4.heap.size := Nat.lt_of_lt_of_le hz3 hb3.size
     clear hb3 HX3 HJ3 hz3
     obtain ⟨s0, hs0⟩ : ∃ b, b = (decide (x.l1 < x.h1)) := ⟨_, rfl⟩
     have HHs0 := hQ0 hs0
     clear hs0
     obtain ⟨s1, hs1⟩ : ∃ b, b = (decide (x.l2 < x.h2)) := ⟨_, rfl⟩
     have HHs1 := hQ0 hs1
     clear hs1
     refine wp_region_lit ?_
     have hS_ : Below w4.heap.size w4 w4 := Below.refl _ _
     iterate 3 (apply wpL_maybe true (by exact rfl); (case h => intro _; have hcW_ := (bcellW hS_).1; have hY_ := (HX4.out).below hS_ (HX4.out.lt); have y0_ := hY_.c 0 (.string x.nm) (rfl); go_simp; try exact rfl); intro K hK; go_simp; apply hK; clear hK K)
     apply wpL_maybe true (by exact rfl) (.bool d_)
     (case h => intro _; have hcW_ := (bcellW hS_).1; go_simp; first | done | exact rfl | (rw [HD.out]))
     intro K hK; go_simp; apply hK; clear hK K
     iterate 6 (apply wpL_maybe true (by exact rfl); (case h => intro _; have hcW_ := (bcellW hS_).1; have hY_ := (HX4.out).below hS_ (HX4.out.lt); have y0_ := hY_.c 2 (.int .i64 x.l1) (rfl); have y1_ := hY_.c 4 (.int .i64 x.h1) (rfl); go_simp; try exact rfl); intro K hK; go_simp; apply hK; clear hK K)
     apply wpL_maybe true (by exact rfl) (.bool s0)
     (case h => intro _; have hcW_ := (bcellW hS_).1; go_simp; rw [HHs0.out]; first | done | exact rfl | simp)
     intro K hK; go_simp; apply hK; clear hK K
     apply wpL_maybe true (by exact rfl)
     (case h => intro _; have hcW_ := (bcellW hS_).1; go_simp; try exact rfl)
     intro K hK; go_simp; apply hK; clear hK K
     apply wpL_maybe s0 (by clear hS_; cases s0 <;> rfl)
     (case h => intro hc_; obtain rfl : s0 = true := hc_; (try simp only [opt_true]); have hcW_ := (bcellW hS_).1; go_simp; try exact rfl)
     intro K hK; go_simp; apply hK; clear hK K
     apply wpL_maybe s0 (by clear hS_; cases s0 <;> rfl)
     (case h => intro hc_; obtain rfl : s0 = true := hc_; (try simp only [opt_true]); have hcW_ := (bcellW hS_).1; go_simp; try exact rfl)
     intro K hK; go_simp; apply hK; clear hK K
     apply wpL_maybe s0 (by clear hS_; cases s0 <;> rfl)
     (case h => intro hc_; obtain rfl : s0 = true := hc_; (try simp only [opt_true]); have hY_ := (HX4.out).below hS_ (HX4.out.lt); have y0_ := hY_.c 3 (.int .i64 x.l2) (rfl); go_simp; try exact rfl)
     intro K hK; go_simp; apply hK; clear hK K
     apply wpL_maybe s0 (by clear hS_; cases s0 <;> rfl)
     (case h => intro hc_; obtain rfl : s0 = true := hc_; (try simp only [opt_true]); have hcW_ := (bcellW hS_).1; go_simp; try exact rfl)
     intro K hK; go_simp; apply hK; clear hK K
     apply wpL_maybe s0 (by clear hS_; cases s0 <;> rfl)
     (case h => intro hc_; obtain rfl : s0 = true := hc_; (try simp only [opt_true]); have hcW_ := (bcellW hS_).1; go_simp; try exact rfl)
     intro K hK; go_simp; apply hK; clear hK K
     apply wpL_maybe s0 (by clear hS_; cases s0 <;> rfl)
     (case h => intro hc_; obtain rfl : s0 = true := hc_; (try simp only [opt_true]); have hY_ := (HX4.out).below hS_ (HX4.out.lt); have y0_ := hY_.c 5 (.int .i64 x.h2) (rfl); go_simp; try exact rfl)
     intro K hK; go_simp; apply hK; clear hK K
     apply wpL_maybe s0 (by clear hS_; cases s0 <;> rfl) (.bool s1)
     (case h => intro hc_; obtain rfl : s0 = true := hc_; (try simp only [opt_true]); have hcW_ := (bcellW hS_).1; go_simp; rw [HHs1.out]; first | done | exact rfl | simp)
     intro K hK; go_simp; apply hK; clear hK K
     obtain ⟨d7_1, hd7_1⟩ : ∃ b_, b_ = (s0 && s1) := ⟨_, rfl⟩
     apply wpL_maybe true (by exact rfl) (.bool d7_1) (by intro _; rw [hd7_1]; cases s0 <;> (go_simp; try exact rfl))
     have Hd7_1 := hQ0 hd7_1; clear hd7_1
     intro K hK; go_simp; apply hK; clear hK K
     apply wpL_maybe true (by exact rfl)
     (case h => intro _; have hcW_ := (bcellW hS_).1; go_simp; try exact rfl)
     intro K hK; go_simp; apply hK; clear hK K
     apply wpL_freshm (S := Below w4.heap.size w4)  true (by exact rfl)
     (case h => intro _; generalize hev_ : Act.eval _ = ev_; (have v74_ := evE hev_ 74; simp only [getL64, getL8, getL1, getL0, opt_true, Bool.not_false] at v74_); have vc_ := evC hev_; clear hev_; go_simp; first | done | exact rfl | exact ⟨rfl, rfl⟩); (case hS => exact hS_); (case hS' => exact (hS_).alloc (hS_).size _)
     intro K hK w_ hS2_ hw0_; have hw_ := hQ0 hw0_; clear hw0_; go_simp; apply hK; clear hK K hS_; have hS_ := hS2_; clear hS2_
     (try go_simp)
     have hE_ := hw_.out rfl
     have HEL : Hid (Zn.el x = ⟨x.nm, d_, d7_1⟩) := hQ0 (by
      have h1 : d_ = x.fB := HF.out
      have h2 : d7_1 = (Zn.el x).fm := by simp only [Hd7_1.out, HHs0.out, HHs1.out]; first | rfl | (simp only [Zn.sB]; first | rfl | ac_rfl | (simp; done))
      rw [h1, h2]
      rfl)
     have hR_ : BoxAt w_ w4.heap.size [.string x.nm, .bool d_, .bool d7_1] := by rw [hE_]; exact BoxAt.new w4 [.string x.nm, .bool d_, .bool d7_1] _
     have HJ5 : Hid (Below w.heap.size w w_ ∧ BoxAt w_ w.heap.size TC ∧ ElOwn w_ base A1 c1_ L) := hQ0 ⟨HJ4.out.1.trans (hS_.mono (by have := HJ4.out.1.size; omega)), HJ4.out.2.1.below hS_ HJ4.out.2.1.lt, own_below HJ4.out.2.2 hS_ (Nat.le_refl _)⟩
     have hbs5 : base ≤ w_.heap.size := by have := hS_.size; omega
     have HLL : Hid (L.length ≤ 1000000) := hQ0 (by rw [HL.out, List.length_append, List.length_map, List.length_take]; have := HLl.out; omega)
     refine wpList_append_one rfl (.tmp 54) (.tmp 75) 88 91 _ 3 _ rfl Tryz.underlying88 infEl rfl (by decide) (by decide) base (.slice A1 L.length c1_) L.length (L.flatMap El.cells) [.string x.nm, .bool d_, .bool d7_1] (by go_simp; try exact rfl) HJ5.out.2.2 w4.heap.size 1 (by go_simp; try exact rfl) rfl hR_.c (by simp [Value.oneCell']) HLL.out hbs5 ?_
     intro v7 w7 ho7 hg7 _
     obtain ⟨A2, c2, rfl⟩ := own_sl ho7
     have hfr : ∀ j, (Value.slice A1 L.length c1_).ownBlock = some j → base ≤ j := fun j hj => (World.ownsRow.lt HJ5.out.2.2 j hj).1
     have hX7 : ElOwn w7 base A2 c2 (L ++ [Zn.el x]) := ElOwn.snoc (by rw [HEL.out]; exact ho7)
     have hE : L ++ [Zn.el x] = L0 ++ (l.take (k + 1)).map Zn.el := by rw [HL.out]; exact el_snoc Zn.el HXX.out L0
     rw [hE] at hX7
     have hn7 : L.length + 1 = (L0 ++ (l.take (k + 1)).map Zn.el).length := by rw [← hE]; simp
     have HN7 := hQ0 hn7
     have HJ7 : Hid (Below w.heap.size w w7 ∧ BoxAt w7 w.heap.size TC ∧ ElOwn w7 base A2 c2 (L0 ++ (l.take (k + 1)).map Zn.el)) := hQ0 ⟨HJ5.out.1.trans (below_grown hg7 (fun j hj => by have := hfr j hj; omega) HJ5.out.1.size), boxAt_grown HJ5.out.2.1 hg7 (fun j hj e => by have := hfr j hj; omega), hX7⟩
     have hbs7 : base ≤ w7.heap.size := Nat.le_trans hbs5 hg7.size
     clear hX7 hfr hE ho7 hg7 hn7 hR_ hE_ hS_
     go_simp
     refine wpList_plain rfl fun K hK => ?_; go_simp; apply hK; clear hK K
     refine wpList_nil ?_
     (try go_simp)
     go_wp2_with fail
     go_roundg (l.length - (k + 1) + 1)
     case measure => omega
     case rel => exact ⟨k + 1, A2, c2, by omega, by omega, by rw [← HN7.out], by go_num, hbs7, HJ7⟩)
  · obtain rfl : k = l.length := by omega
    go_wp2_with fail
    show R _ _
    have hj := HJ.out
    have hL2 : L = L0 ++ l.map Zn.el := by rw [HL.out, List.take_length]
    rw [hL2] at hj ⊢
    exact HR.out _ _ A1 c1_ rfl (congrArg some HE1.out.symm) rfl rfl hj.1 hbs hj.2.1 hj.2.2
attribute [local go_sem ↓] evalL getL64 setL64
attribute [local go_sem ↓] getL8 setL8
attribute [local go_sem ↓] getL1 getL0
set_option maxRecDepth 100000 in
set_option maxHeartbeats 8000000 in
theorem le_ss (w wr : World) (base : Nat) (A A0 : Option Addr) (c c0 : Nat) (l : List Sc) (L0 : List El) (TC : List Value) (rad : Int) (df : List Deferred) (F : List Value) (hF : F.length = 291) (f1 : F[1]? = some (.pointer (some ⟨w.heap.size, 0, none⟩))) (f3 : F[3]? = some (.slice A0 L0.length c0)) (f7 : F[7]? = some (.int .i64 0))
  (hTC : TC[13]? = some (.slice A l.length c)) (hT0 : TC[0]? = some (.int .i64 rad)) (r0 : 0 ≤ rad) (r1 : rad ≤ 32768) (hA : RowsAt 10 Sc.cells w A l) (hl : l.length ≤ 1000) (hL : L0.length ≤ 100000) (hwb : w.heap.size < base) (hb : Below w.heap.size w wr) (hbs : base ≤ wr.heap.size) (hT : BoxAt wr w.heap.size TC) (hX : ElOwn wr base A0 c0 L0) (R : Act → World → Prop)
  (hR : ∀ (F' : List Value) (w' : World) (A' : Option Addr) (c' : Nat), F'.length = 291 → F'[1]? = F[1]? → F'[2]? = F[2]? → F'[3]? = some (.slice A' (L0 ++ l.map (Sc.el rad)).length c') → Below w.heap.size w w' → base ≤ w'.heap.size → BoxAt w' w.heap.size TC → ElOwn w' base A' c' (L0 ++ l.map (Sc.el rad)) → R ⟨F'.toArray, df⟩ w') :
  (blkOf 2 Tryz.f86).wp Tryz.prog (AtEnd R) ⟨F.toArray, df⟩ wr := by
 obtain ⟨s, rfl⟩ := fr291_ex F hF
 have e1 : s 1 = .pointer (some ⟨w.heap.size, 0, none⟩) := Option.some.inj f1
 have e3 : s 3 = .slice A0 L0.length c0 := Option.some.inj f3
 have e7 : s 7 = .int .i64 0 := Option.some.inj f7
 unfold fr291
 rw [e1, e3, e7]
 have HE1 := hQ0 e1
 clear hF e1 f1 e3 f3 e7 f7
 have HA := hQ0 hA
 have HR := hQ0 hR
 have HLl := hQ0 hL
 have HT := hQ0 hT
 have HX := hQ0 hX
 have HB := hQ0 hb
 have HTC := hQ0 hTC
 have HT0 := hQ0 hT0
 clear hT0
 clear hA hR hL hT hX hb hTC
 conv in (blkOf _ _) => whnf
 go_wp2_with fail
 go_loopg [3, 7] (l.length + 1) (fun gk t3 tt wr => ∃ (k : Nat) (A1 : Option Addr) (c1 : Nat), k ≤ l.length ∧ l.length - k < gk ∧ t3 = .slice A1 (L0 ++ (l.take k).map (Sc.el rad)).length c1 ∧ tt = .int .i64 k ∧ base ≤ wr.heap.size ∧ Hid (Below w.heap.size w wr ∧ BoxAt wr w.heap.size TC ∧ ElOwn wr base A1 c1 (L0 ++ (l.take k).map (Sc.el rad))))
 case atStart => exact ⟨0, A0, c0, by omega, by omega, by simp, rfl, hbs, hQ0 ⟨HB.out, HT.out, by simpa using HX.out⟩⟩
 case round =>
  obtain ⟨wq, rfl⟩ : ∃ z, z = wr := ⟨_, rfl⟩
  clear HB HT HX hbs
  obtain ⟨k, A1, c1_, hk, hkk, rfl, rfl, hbs, HJ⟩ := hrel
  have hz_wq := HJ.out.1.size
  obtain ⟨L, hL⟩ : ∃ L : List El, L = L0 ++ (l.take k).map (Sc.el rad) := ⟨_, rfl⟩
  rw [← hL] at HJ ⊢
  have HL := hQ0 hL
  clear hL
  have tq := HJ.out.2.1.c 13 _ HTC.out
  have hltT := HJ.out.2.1.lt
  by_cases hlt : k < l.length
  · obtain ⟨x, hx⟩ : ∃ x, l[k]? = some x := ⟨l[k], by simp⟩
    obtain ⟨g, o, rfl, hg, c0, c1, c2, c3, c4, c5, c6, c7, c8, c9⟩ := Sc.get (HA.out.below HJ.out.1 (Nat.le_refl _)) hx
    have i1 : (k : Int) < (l.length : Int) := by omega
    have HXX := hQ0 hx
    clear hx
    go_upto_region 12 with (fail)
    (refine pin_eqT (fun w3 hE_w3 => ?_))
    obtain ⟨gb, hgb⟩ : ∃ z, z = wq.heap.size := ⟨_, rfl⟩
    rw [← hgb]
    have HX3 : Hid (BoxAt w3 gb x.cells) := hQ0 (by rw [hE_w3, hgb]; exact BoxAt.new _ _ _)
    have HJ3 : Hid (Below w.heap.size w w3 ∧ BoxAt w3 w.heap.size TC ∧ ElOwn w3 base A1 c1_ L) := hQ0 (by
     rw [hE_w3]
     exact ⟨HJ.out.1.alloc hz_wq _, HJ.out.2.1.alloc _, own_below HJ.out.2.2 ((Below.refl _ _).alloc (Nat.le_refl _) _) (Nat.le_refl _)⟩)
    have hz3 : wq.heap.size < w3.heap.size := by rw [hE_w3]; simp
    clear hgb hE_w3 c0 c1 c2 c3 c4 c5 c6 c7 c8 c9 hg tq hltT
    have y0 := HX3.out.c 0 _ rfl
    have y1 := HX3.out.c 1 _ rfl
    have y2 := HX3.out.c 2 _ rfl
    have y3 := HX3.out.c 3 _ rfl
    have y4 := HX3.out.c 4 _ rfl
    have y5 := HX3.out.c 5 _ rfl
    have y6 := HX3.out.c 6 _ rfl
    have y7 := HX3.out.c 7 _ rfl
    have y8 := HX3.out.c 8 _ rfl
    have y9 := HX3.out.c 9 _ rfl
    have lt_ := HX3.out.lt
    obtain ⟨d_, hd_⟩ : ∃ b, b = ((((((in1 0 3 x.lv && nearV 1048576 ⟨x.c1, x.c2⟩) && in1 1 262144 x.sz) && in1 0 1048576 x.lm) && nearV 16384 ⟨x.o1, x.o2⟩) && in1 (-1) 31 x.cl) && in1 (-1) 63 x.sw) := ⟨_, rfl⟩
    have HF : Hid (d_ = x.fB) := hQ0 (by rw [hd_]; first | rfl | (simp only [Sc.fB]; first | ac_rfl | (simp only [Bool.and_assoc]; done)))
    have hb3 := Below.refl w3.heap.size w3
    revert hd_
    cases h0 : in1 0 3 x.lv
    rotate_left
    cases h1 : nearV 1048576 ⟨x.c1, x.c2⟩
    rotate_left
    cases h2 : in1 1 262144 x.sz
    rotate_left
    cases h3 : in1 0 1048576 x.lm
    rotate_left
    cases h4 : nearV 16384 ⟨x.o1, x.o2⟩
    rotate_left
    cases h5 : in1 (-1) 31 x.cl
    rotate_left
    cases h6 : in1 (-1) 63 x.sw
    rotate_left
    all_goals (
     intro hd_
     simp only [Bool.and_true, Bool.true_and, Bool.and_false, Bool.false_and] at hd_
     have HD := hQ0 hd_
     clear hd_
     go_upto_region 13 with (first | (go_at_call 34; refine (rin_any _ _ _ _).mono ?_; rintro e w9 ⟨rfl, hb9⟩; replace hb3 := hb3.trans (hb9.mono hb3.size); replace HX3 := hQ0 (HX3.out.below hb9 HX3.out.lt); clear hb9 lt_ y0 y1 y2 y3 y4 y5 y6 y7 y8 y9; have y0 := HX3.out.c 0 _ rfl; have y1 := HX3.out.c 1 _ rfl; have y2 := HX3.out.c 2 _ rfl; have y3 := HX3.out.c 3 _ rfl; have y4 := HX3.out.c 4 _ rfl; have y5 := HX3.out.c 5 _ rfl; have y6 := HX3.out.c 6 _ rfl; have y7 := HX3.out.c 7 _ rfl; have y8 := HX3.out.c 8 _ rfl; have y9 := HX3.out.c 9 _ rfl; have lt_ := HX3.out.lt) | (go_at_call 35; refine (rnear_any _ _ _ _ (by decide) (by decide)).mono ?_; rintro e w9 ⟨rfl, hb9⟩; replace hb3 := hb3.trans (hb9.mono hb3.size); replace HX3 := hQ0 (HX3.out.below hb9 HX3.out.lt); clear hb9 lt_ y0 y1 y2 y3 y4 y5 y6 y7 y8 y9; have y0 := HX3.out.c 0 _ rfl; have y1 := HX3.out.c 1 _ rfl; have y2 := HX3.out.c 2 _ rfl; have y3 := HX3.out.c 3 _ rfl; have y4 := HX3.out.c 4 _ rfl; have y5 := HX3.out.c 5 _ rfl; have y6 := HX3.out.c 6 _ rfl; have y7 := HX3.out.c 7 _ rfl; have y8 := HX3.out.c 8 _ rfl; have y9 := HX3.out.c 9 _ rfl; have lt_ := HX3.out.lt))
     obtain ⟨w4, rfl⟩ : ∃ z, z = w9 := ⟨_, rfl⟩
     clear lt_ y0 y1 y2 y3 y4 y5 y6 y7 y8 y9
     clear h0
     have HX4 := HX3
     have HJ4 : Hid (Below w.heap.size w w4 ∧ BoxAt w4 w.heap.size TC ∧ ElOwn w4 base A1 c1_ L) := hQ0 ⟨HJ3.out.1.trans (hb3.mono (by omega)), HJ3.out.2.1.below hb3 (by omega), own_below HJ3.out.2.2 hb3 (Nat.le_refl _)⟩
     have hz4 : wq.heap.size < w4.heap.size := Nat.lt_of_lt_of_le hz3 hb3.size
     clear hb3 HX3 HJ3 hz3
     obtain ⟨s0, hs0⟩ : ∃ b, b = (decide (x.sz < rad)) := ⟨_, rfl⟩
     have HHs0 := hQ0 hs0
     clear hs0
     refine wp_region_lit ?_
     have hS_ : Below w4.heap.size w4 w4 := Below.refl _ _
     iterate 3 (apply wpL_maybe true (by exact rfl); (case h => intro _; have hcW_ := (bcellW hS_).1; have hY_ := (HX4.out).below hS_ (HX4.out.lt); have y0_ := hY_.c 0 (.string x.nm) (rfl); go_simp; try exact rfl); intro K hK; go_simp; apply hK; clear hK K)
     apply wpL_maybe true (by exact rfl) (.bool d_)
     (case h => intro _; have hcW_ := (bcellW hS_).1; go_simp; first | done | exact rfl | (rw [HD.out]))
     intro K hK; go_simp; apply hK; clear hK K
     iterate 4 (apply wpL_maybe true (by exact rfl); (case h => intro _; have hcW_ := (bcellW hS_).1; have hY_ := (HX4.out).below hS_ (HX4.out.lt); have y0_ := hY_.c 4 (.int .i64 x.sz) (rfl); have hY1_ := (HJ4.out.2.1).below hS_ (HJ4.out.2.1.lt); have ya0_ := hY1_.c 0 (.int .i64 rad) (HT0.out); go_simp; try exact rfl); intro K hK; go_simp; apply hK; clear hK K)
     apply wpL_maybe true (by exact rfl) (.bool s0)
     (case h => intro _; have hcW_ := (bcellW hS_).1; go_simp; rw [HHs0.out]; first | done | exact rfl | simp)
     intro K hK; go_simp; apply hK; clear hK K
     apply wpL_maybe true (by exact rfl)
     (case h => intro _; have hcW_ := (bcellW hS_).1; go_simp; try exact rfl)
     intro K hK; go_simp; apply hK; clear hK K
     apply wpL_freshm (S := Below w4.heap.size w4)  true (by exact rfl)
     (case h => intro _; generalize hev_ : Act.eval _ = ev_; (have v131_ := evE hev_ 131; simp only [getL64, getL8, getL1, getL0, opt_true, Bool.not_false] at v131_); have vc_ := evC hev_; clear hev_; go_simp; first | done | exact rfl | exact ⟨rfl, rfl⟩); (case hS => exact hS_); (case hS' => exact (hS_).alloc (hS_).size _)
     intro K hK w_ hS2_ hw0_; have hw_ := hQ0 hw0_; clear hw0_; go_simp; apply hK; clear hK K hS_; have hS_ := hS2_; clear hS2_
     (try go_simp)
     have hE_ := hw_.out rfl
     have HEL : Hid ((Sc.el rad) x = ⟨x.nm, d_, s0⟩) := hQ0 (by
      have h1 : d_ = x.fB := HF.out
      have h2 : s0 = ((Sc.el rad) x).fm := by simp only [HHs0.out]; first | rfl | (simp only [Sc.sB]; first | rfl | ac_rfl | (simp; done))
      rw [h1, h2]
      rfl)
     have hR_ : BoxAt w_ w4.heap.size [.string x.nm, .bool d_, .bool s0] := by rw [hE_]; exact BoxAt.new w4 [.string x.nm, .bool d_, .bool s0] _
     have HJ5 : Hid (Below w.heap.size w w_ ∧ BoxAt w_ w.heap.size TC ∧ ElOwn w_ base A1 c1_ L) := hQ0 ⟨HJ4.out.1.trans (hS_.mono (by have := HJ4.out.1.size; omega)), HJ4.out.2.1.below hS_ HJ4.out.2.1.lt, own_below HJ4.out.2.2 hS_ (Nat.le_refl _)⟩
     have hbs5 : base ≤ w_.heap.size := by have := hS_.size; omega
     have HLL : Hid (L.length ≤ 1000000) := hQ0 (by rw [HL.out, List.length_append, List.length_map, List.length_take]; have := HLl.out; omega)
     refine wpList_append_one rfl (.tmp 122) (.tmp 132) 88 91 _ 3 _ rfl Tryz.underlying88 infEl rfl (by decide) (by decide) base (.slice A1 L.length c1_) L.length (L.flatMap El.cells) [.string x.nm, .bool d_, .bool s0] (by go_simp; try exact rfl) HJ5.out.2.2 w4.heap.size 1 (by go_simp; try exact rfl) rfl hR_.c (by simp [Value.oneCell']) HLL.out hbs5 ?_
     intro v7 w7 ho7 hg7 _
     obtain ⟨A2, c2, rfl⟩ := own_sl ho7
     have hfr : ∀ j, (Value.slice A1 L.length c1_).ownBlock = some j → base ≤ j := fun j hj => (World.ownsRow.lt HJ5.out.2.2 j hj).1
     have hX7 : ElOwn w7 base A2 c2 (L ++ [(Sc.el rad) x]) := ElOwn.snoc (by rw [HEL.out]; exact ho7)
     have hE : L ++ [(Sc.el rad) x] = L0 ++ (l.take (k + 1)).map (Sc.el rad) := by rw [HL.out]; exact el_snoc (Sc.el rad) HXX.out L0
     rw [hE] at hX7
     have hn7 : L.length + 1 = (L0 ++ (l.take (k + 1)).map (Sc.el rad)).length := by rw [← hE]; simp
     have HN7 := hQ0 hn7
     have HJ7 : Hid (Below w.heap.size w w7 ∧ BoxAt w7 w.heap.size TC ∧ ElOwn w7 base A2 c2 (L0 ++ (l.take (k + 1)).map (Sc.el rad))) := hQ0 ⟨HJ5.out.1.trans (below_grown hg7 (fun j hj => by have := hfr j hj; omega) HJ5.out.1.size), boxAt_grown HJ5.out.2.1 hg7 (fun j hj e => by have := hfr j hj; omega), hX7⟩
     have hbs7 : base ≤ w7.heap.size := Nat.le_trans hbs5 hg7.size
     clear hX7 hfr hE ho7 hg7 hn7 hR_ hE_ hS_
     go_simp
     refine wpList_plain rfl fun K hK => ?_; go_simp; apply hK; clear hK K
     refine wpList_nil ?_
     (try go_simp)
     go_wp2_with fail
     go_roundg (l.length - (k + 1) + 1)
     case measure => omega
     case rel => exact ⟨k + 1, A2, c2, by omega, by omega, by rw [← HN7.out], by go_num, hbs7, HJ7⟩)
  · obtain rfl : k = l.length := by omega
    go_wp2_with fail
    show R _ _
    have hj := HJ.out
    have hL2 : L = L0 ++ l.map (Sc.el rad) := by rw [HL.out, List.take_length]
    rw [hL2] at hj ⊢
    exact HR.out _ _ A1 c1_ rfl (congrArg some HE1.out.symm) rfl rfl hj.1 hbs hj.2.1 hj.2.2
attribute [local go_sem ↓] evalL getL64 setL64
attribute [local go_sem ↓] getL8 setL8
attribute [local go_sem ↓] getL1 getL0
set_option maxRecDepth 100000 in
set_option maxHeartbeats 8000000 in
theorem le_las (w wr : World) (base : Nat) (A A0 : Option Addr) (c c0 : Nat) (l : List La) (L0 : List El) (TC : List Value) (df : List Deferred) (F : List Value) (hF : F.length = 291) (f1 : F[1]? = some (.pointer (some ⟨w.heap.size, 0, none⟩))) (f3 : F[3]? = some (.slice A0 L0.length c0)) (f10 : F[10]? = some (.int .i64 0))
  (hTC : TC[14]? = some (.slice A l.length c)) (hA : RowsAt 6 La.cells w A l) (hl : l.length ≤ 1000) (hL : L0.length ≤ 100000) (hwb : w.heap.size < base) (hb : Below w.heap.size w wr) (hbs : base ≤ wr.heap.size) (hT : BoxAt wr w.heap.size TC) (hX : ElOwn wr base A0 c0 L0) (R : Act → World → Prop)
  (hR : ∀ (F' : List Value) (w' : World) (A' : Option Addr) (c' : Nat), F'.length = 291 → F'[1]? = F[1]? → F'[2]? = F[2]? → F'[3]? = some (.slice A' (L0 ++ l.map La.el).length c') → Below w.heap.size w w' → base ≤ w'.heap.size → BoxAt w' w.heap.size TC → ElOwn w' base A' c' (L0 ++ l.map La.el) → R ⟨F'.toArray, df⟩ w') :
  (blkOf 4 Tryz.f86).wp Tryz.prog (AtEnd R) ⟨F.toArray, df⟩ wr := by
 obtain ⟨s, rfl⟩ := fr291_ex F hF
 have e1 : s 1 = .pointer (some ⟨w.heap.size, 0, none⟩) := Option.some.inj f1
 have e3 : s 3 = .slice A0 L0.length c0 := Option.some.inj f3
 have e10 : s 10 = .int .i64 0 := Option.some.inj f10
 unfold fr291
 rw [e1, e3, e10]
 have HE1 := hQ0 e1
 clear hF e1 f1 e3 f3 e10 f10
 have HA := hQ0 hA
 have HR := hQ0 hR
 have HLl := hQ0 hL
 have HT := hQ0 hT
 have HX := hQ0 hX
 have HB := hQ0 hb
 have HTC := hQ0 hTC
 clear hA hR hL hT hX hb hTC
 conv in (blkOf _ _) => whnf
 go_wp2_with fail
 go_loopg [3, 10] (l.length + 1) (fun gk t3 tt wr => ∃ (k : Nat) (A1 : Option Addr) (c1 : Nat), k ≤ l.length ∧ l.length - k < gk ∧ t3 = .slice A1 (L0 ++ (l.take k).map La.el).length c1 ∧ tt = .int .i64 k ∧ base ≤ wr.heap.size ∧ Hid (Below w.heap.size w wr ∧ BoxAt wr w.heap.size TC ∧ ElOwn wr base A1 c1 (L0 ++ (l.take k).map La.el)))
 case atStart => exact ⟨0, A0, c0, by omega, by omega, by simp, rfl, hbs, hQ0 ⟨HB.out, HT.out, by simpa using HX.out⟩⟩
 case round =>
  obtain ⟨wq, rfl⟩ : ∃ z, z = wr := ⟨_, rfl⟩
  clear HB HT HX hbs
  obtain ⟨k, A1, c1_, hk, hkk, rfl, rfl, hbs, HJ⟩ := hrel
  have hz_wq := HJ.out.1.size
  obtain ⟨L, hL⟩ : ∃ L : List El, L = L0 ++ (l.take k).map La.el := ⟨_, rfl⟩
  rw [← hL] at HJ ⊢
  have HL := hQ0 hL
  clear hL
  have tq := HJ.out.2.1.c 14 _ HTC.out
  have hltT := HJ.out.2.1.lt
  by_cases hlt : k < l.length
  · obtain ⟨x, hx⟩ : ∃ x, l[k]? = some x := ⟨l[k], by simp⟩
    obtain ⟨g, o, rfl, hg, c0, c1, c2, c3, c4, c5⟩ := La.get (HA.out.below HJ.out.1 (Nat.le_refl _)) hx
    have i1 : (k : Int) < (l.length : Int) := by omega
    have HXX := hQ0 hx
    clear hx
    go_upto_region 18 with (fail)
    (refine pin_eqT (fun w3 hE_w3 => ?_))
    obtain ⟨gb, hgb⟩ : ∃ z, z = wq.heap.size := ⟨_, rfl⟩
    rw [← hgb]
    have HX3 : Hid (BoxAt w3 gb x.cells) := hQ0 (by rw [hE_w3, hgb]; exact BoxAt.new _ _ _)
    have HJ3 : Hid (Below w.heap.size w w3 ∧ BoxAt w3 w.heap.size TC ∧ ElOwn w3 base A1 c1_ L) := hQ0 (by
     rw [hE_w3]
     exact ⟨HJ.out.1.alloc hz_wq _, HJ.out.2.1.alloc _, own_below HJ.out.2.2 ((Below.refl _ _).alloc (Nat.le_refl _) _) (Nat.le_refl _)⟩)
    have hz3 : wq.heap.size < w3.heap.size := by rw [hE_w3]; simp
    clear hgb hE_w3 c0 c1 c2 c3 c4 c5 hg tq hltT
    obtain ⟨p0, hp0⟩ : ∃ b, b = (in1 0 3 x.lv) := ⟨_, rfl⟩
    have HHp0 := hQ0 hp0
    clear hp0
    obtain ⟨p1, hp1⟩ : ∃ b, b = (nearV 1048576 ⟨x.c1, x.c2⟩) := ⟨_, rfl⟩
    have HHp1 := hQ0 hp1
    clear hp1
    obtain ⟨p2, hp2⟩ : ∃ b, b = (in1 1 262144 x.sz) := ⟨_, rfl⟩
    have HHp2 := hQ0 hp2
    clear hp2
    obtain ⟨p3, hp3⟩ : ∃ b, b = (in1 (-1) 63 x.sw) := ⟨_, rfl⟩
    have HHp3 := hQ0 hp3
    clear hp3
    have hS_ : (Below w3.heap.size w3) w3.drew := (Below.refl _ _).drew
    refine wp_region_Y (Below w3.heap.size w3) 23 [23, 24] (by kernel_rfl) (by kernel_rfl) (by kernel_rfl) (by kernel_rfl) (fun _ _ _ _ _ h => h) hS_ ?_
    generalize w3.drew = wd_ at hS_  ⊢
    iterate 5 (apply wpY_seq 23 rfl (by kernel_rfl) true (by exact rfl); (case h => intro _ W_ hW_; have hcW_ := (bcellW hW_).1; have hY_ := (HX3.out).below hW_ (HX3.out.lt); have y0_ := hY_.c 0 (.string x.nm) (rfl); have y1_ := hY_.c 1 (.int .i64 x.lv) (rfl); go_simp; try exact rfl); intro K hK; go_simp; apply hK; clear hK K)
    refine wpY_callm (i := 5) rfl (by kernel_rfl) true (by exact rfl) (.bool p0) ?_ ?_
    · intro _; intro N_ hN_; generalize hA_ : Act.mk _ _ = A_ at hN_ ⊢; (have v150_ := evA hA_ 150; simp only [getL64, getL8, getL1, getL0, opt_true, Bool.not_false] at v150_); clear hA_; have vc_ := acC A_; have vf_ := acF A_; generalize Act.eval A_ = ev_ at vc_ vf_ v150_ ⊢; go_simp; go_at_call 34; refine (rin_any _ _ _ _).mono ?_; rintro e w9 ⟨rfl, hb9⟩; rw [← HHp0.out]; exact hN_ _ (hS_.trans (hb9.mono hS_.size))
    intro K hK w_ hS2_; go_simp; apply hK; clear hK K hS_; have hS_ := hS2_; clear hS2_
    apply wpY_maybe (i := 6) rfl (by kernel_rfl) true (by exact rfl)
    (case h => intro _ W_ hW_; have hcW_ := (bcellW hW_).1; go_simp; try exact rfl)
    intro K hK; go_simp; apply hK; clear hK K
    iterate 2 (apply wpY_seq 23 rfl (by kernel_rfl) p0 (by clear hS_; cases p0 <;> rfl); (case h => intro hc_; obtain rfl : p0 = true := hc_; intro W_ hW_; have hcW_ := (bcellW hW_).1; have hY_ := (HX3.out).below hW_ (HX3.out.lt); have y0_ := hY_.c 2 (.int .i64 x.c1) (rfl); have y1_ := hY_.c 3 (.int .i64 x.c2) (rfl); go_simp; try exact rfl); intro K hK; go_simp; apply hK; clear hK K)
    refine wpY_callm (i := 9) rfl (by kernel_rfl) p0 (by clear hS_; cases p0 <;> rfl) (.bool p1) ?_ ?_
    · intro hc_; obtain rfl : p0 = true := hc_; intro N_ hN_; generalize hA_ : Act.mk _ _ = A_ at hN_ ⊢; (have v154_ := evA hA_ 154; simp only [getL64, getL8, getL1, getL0, opt_true, Bool.not_false] at v154_); clear hA_; have vc_ := acC A_; have vf_ := acF A_; generalize Act.eval A_ = ev_ at vc_ vf_ v154_ ⊢; go_simp; go_at_call 35; refine (rnear_any _ _ _ _ (by decide) (by decide)).mono ?_; rintro e w9 ⟨rfl, hb9⟩; rw [← HHp1.out]; exact hN_ _ (hS_.trans (hb9.mono hS_.size))
    intro K hK w_ hS2_; go_simp; apply hK; clear hK K hS_; have hS_ := hS2_; clear hS2_
    obtain ⟨d18_1, hd18_1⟩ : ∃ b_, b_ = (p0 && p1) := ⟨_, rfl⟩
    apply wpY_maybe (i := 10) rfl (by kernel_rfl) true (by exact rfl) (.bool d18_1) (by intro _ W_ hW_; rw [hd18_1]; cases p0 <;> (go_simp; try exact rfl))
    have Hd18_1 := hQ0 hd18_1; clear hd18_1
    intro K hK; go_simp; apply hK; clear hK K
    apply wpY_maybe (i := 11) rfl (by kernel_rfl) true (by exact rfl)
    (case h => intro _ W_ hW_; have hcW_ := (bcellW hW_).1; go_simp; try exact rfl)
    intro K hK; go_simp; apply hK; clear hK K
    iterate 2 (apply wpY_seq 23 rfl (by kernel_rfl) d18_1 (by clear hS_; cases d18_1 <;> rfl); (case h => intro hc_; obtain rfl : d18_1 = true := hc_; intro W_ hW_; have hcW_ := (bcellW hW_).1; have hY_ := (HX3.out).below hW_ (HX3.out.lt); have y0_ := hY_.c 4 (.int .i64 x.sz) (rfl); go_simp; try exact rfl); intro K hK; go_simp; apply hK; clear hK K)
    refine wpY_callm (i := 14) rfl (by kernel_rfl) d18_1 (by clear hS_; cases d18_1 <;> rfl) (.bool p2) ?_ ?_
    · intro hc_; obtain rfl : d18_1 = true := hc_; intro N_ hN_; generalize hA_ : Act.mk _ _ = A_ at hN_ ⊢; (have v159_ := evA hA_ 159; simp only [getL64, getL8, getL1, getL0, opt_true, Bool.not_false] at v159_); clear hA_; have vc_ := acC A_; have vf_ := acF A_; generalize Act.eval A_ = ev_ at vc_ vf_ v159_ ⊢; go_simp; go_at_call 34; refine (rin_any _ _ _ _).mono ?_; rintro e w9 ⟨rfl, hb9⟩; rw [← HHp2.out]; exact hN_ _ (hS_.trans (hb9.mono hS_.size))
    intro K hK w_ hS2_; go_simp; apply hK; clear hK K hS_; have hS_ := hS2_; clear hS2_
    obtain ⟨d18_2, hd18_2⟩ : ∃ b_, b_ = (d18_1 && p2) := ⟨_, rfl⟩
    apply wpY_maybe (i := 15) rfl (by kernel_rfl) true (by exact rfl) (.bool d18_2) (by intro _ W_ hW_; rw [hd18_2]; cases d18_1 <;> (go_simp; try exact rfl))
    have Hd18_2 := hQ0 hd18_2; clear hd18_2
    intro K hK; go_simp; apply hK; clear hK K
    apply wpY_maybe (i := 16) rfl (by kernel_rfl) true (by exact rfl)
    (case h => intro _ W_ hW_; have hcW_ := (bcellW hW_).1; go_simp; try exact rfl)
    intro K hK; go_simp; apply hK; clear hK K
    iterate 2 (apply wpY_seq 23 rfl (by kernel_rfl) d18_2 (by clear hS_; cases d18_2 <;> rfl); (case h => intro hc_; obtain rfl : d18_2 = true := hc_; intro W_ hW_; have hcW_ := (bcellW hW_).1; have hY_ := (HX3.out).below hW_ (HX3.out.lt); have y0_ := hY_.c 5 (.int .i64 x.sw) (rfl); go_simp; try exact rfl); intro K hK; go_simp; apply hK; clear hK K)
    refine wpY_callm (i := 19) rfl (by kernel_rfl) d18_2 (by clear hS_; cases d18_2 <;> rfl) (.bool p3) ?_ ?_
    · intro hc_; obtain rfl : d18_2 = true := hc_; intro N_ hN_; generalize hA_ : Act.mk _ _ = A_ at hN_ ⊢; (have v164_ := evA hA_ 164; simp only [getL64, getL8, getL1, getL0, opt_true, Bool.not_false] at v164_); clear hA_; have vc_ := acC A_; have vf_ := acF A_; generalize Act.eval A_ = ev_ at vc_ vf_ v164_ ⊢; go_simp; go_at_call 34; refine (rin_any _ _ _ _).mono ?_; rintro e w9 ⟨rfl, hb9⟩; rw [← HHp3.out]; exact hN_ _ (hS_.trans (hb9.mono hS_.size))
    intro K hK w_ hS2_; go_simp; apply hK; clear hK K hS_; have hS_ := hS2_; clear hS2_
    obtain ⟨d18_3, hd18_3⟩ : ∃ b_, b_ = (d18_2 && p3) := ⟨_, rfl⟩
    apply wpY_maybe (i := 20) rfl (by kernel_rfl) true (by exact rfl) (.bool d18_3) (by intro _ W_ hW_; rw [hd18_3]; cases d18_2 <;> (go_simp; try exact rfl))
    have Hd18_3 := hQ0 hd18_3; clear hd18_3
    intro K hK; go_simp; apply hK; clear hK K
    apply wpY_maybe (i := 21) rfl (by kernel_rfl) true (by exact rfl)
    (case h => intro _ W_ hW_; have hcW_ := (bcellW hW_).1; go_simp; try exact rfl)
    intro K hK; go_simp; apply hK; clear hK K
    obtain ⟨wf_, rfl⟩ : ∃ z, z = w_ := ⟨_, rfl⟩
    apply wpY_freshm (i := 22) rfl (by kernel_rfl) true (by exact rfl)
    (case h => intro _; generalize hev_ : Act.eval _ = ev_; (have v167_ := evE hev_ 167; simp only [getL64, getL8, getL1, getL0, opt_true, Bool.not_false] at v167_); have vc_ := evC hev_; clear hev_; go_simp; first | done | exact rfl | exact ⟨rfl, rfl⟩); (case hS' => exact (hS_).alloc (hS_).size _)
    intro K hK w_ hS2_ hw0_; have hw_ := hQ0 hw0_; clear hw0_; go_simp; apply hK; clear hK K hS_; have hS_ := hS2_; clear hS2_
    refine wpY_nil (by kernel_rfl) ?_
    (try simp only [List.filterMap_cons, List.filterMap_nil, List.getElem?_cons_succ, List.getElem?_cons_zero])
    (try go_simp)
    have hE_ := hw_.out rfl
    have HEL : Hid (La.el x = ⟨x.nm, d18_3, true⟩) := hQ0 (by
     have h1 : d18_3 = x.fB := (by simp only [Hd18_3.out, Hd18_2.out, Hd18_1.out, HHp0.out, HHp1.out, HHp2.out, HHp3.out]; first | rfl | (simp only [La.fB]; first | ac_rfl | (simp only [Bool.and_assoc]; done)))
     have h2 : true = (La.el x).fm := rfl
     rw [h1, h2]
     rfl)
    have hR_ : BoxAt w_ wf_.heap.size [.string x.nm, .bool d18_3, .bool true] := by rw [hE_]; exact BoxAt.new wf_ [.string x.nm, .bool d18_3, .bool true] _
    have HJ5 : Hid (Below w.heap.size w w_ ∧ BoxAt w_ w.heap.size TC ∧ ElOwn w_ base A1 c1_ L) := hQ0 ⟨HJ3.out.1.trans (hS_.mono (by have := HJ3.out.1.size; omega)), HJ3.out.2.1.below hS_ HJ3.out.2.1.lt, own_below HJ3.out.2.2 hS_ (Nat.le_refl _)⟩
    have hbs5 : base ≤ w_.heap.size := by have := hS_.size; omega
    have HLL : Hid (L.length ≤ 1000000) := hQ0 (by rw [HL.out, List.length_append, List.length_map, List.length_take]; have := HLl.out; omega)
    refine wpList_append_one rfl (.tmp 146) (.tmp 168) 88 91 _ 3 _ rfl Tryz.underlying88 infEl rfl (by decide) (by decide) base (.slice A1 L.length c1_) L.length (L.flatMap El.cells) [.string x.nm, .bool d18_3, .bool true] (by go_simp; try exact rfl) HJ5.out.2.2 wf_.heap.size 1 (by go_simp; try exact rfl) rfl hR_.c (by simp [Value.oneCell']) HLL.out hbs5 ?_
    intro v7 w7 ho7 hg7 _
    obtain ⟨A2, c2, rfl⟩ := own_sl ho7
    have hfr : ∀ j, (Value.slice A1 L.length c1_).ownBlock = some j → base ≤ j := fun j hj => (World.ownsRow.lt HJ5.out.2.2 j hj).1
    have hX7 : ElOwn w7 base A2 c2 (L ++ [La.el x]) := ElOwn.snoc (by rw [HEL.out]; exact ho7)
    have hE : L ++ [La.el x] = L0 ++ (l.take (k + 1)).map La.el := by rw [HL.out]; exact el_snoc La.el HXX.out L0
    rw [hE] at hX7
    have hn7 : L.length + 1 = (L0 ++ (l.take (k + 1)).map La.el).length := by rw [← hE]; simp
    have HN7 := hQ0 hn7
    have HJ7 : Hid (Below w.heap.size w w7 ∧ BoxAt w7 w.heap.size TC ∧ ElOwn w7 base A2 c2 (L0 ++ (l.take (k + 1)).map La.el)) := hQ0 ⟨HJ5.out.1.trans (below_grown hg7 (fun j hj => by have := hfr j hj; omega) HJ5.out.1.size), boxAt_grown HJ5.out.2.1 hg7 (fun j hj e => by have := hfr j hj; omega), hX7⟩
    have hbs7 : base ≤ w7.heap.size := Nat.le_trans hbs5 hg7.size
    clear hX7 hfr hE ho7 hg7 hn7 hR_ hE_ hS_
    go_simp
    refine wpList_plain rfl fun K hK => ?_; go_simp; apply hK; clear hK K
    refine wpList_nil ?_
    (try go_simp)
    go_wp2_with fail
    go_roundg (l.length - (k + 1) + 1)
    case measure => omega
    case rel => exact ⟨k + 1, A2, c2, by omega, by omega, by rw [← HN7.out], by go_num, hbs7, HJ7⟩
  · obtain rfl : k = l.length := by omega
    go_wp2_with fail
    show R _ _
    have hj := HJ.out
    have hL2 : L = L0 ++ l.map La.el := by rw [HL.out, List.take_length]
    rw [hL2] at hj ⊢
    exact HR.out _ _ A1 c1_ rfl (congrArg some HE1.out.symm) rfl rfl hj.1 hbs hj.2.1 hj.2.2
attribute [local go_sem ↓] evalL getL64 setL64
attribute [local go_sem ↓] getL8 setL8
attribute [local go_sem ↓] getL1 getL0
set_option maxRecDepth 100000 in
set_option maxHeartbeats 8000000 in
theorem le_rs (w wr : World) (base : Nat) (A A0 : Option Addr) (c c0 : Nat) (l : List Ra) (L0 : List El) (TC : List Value) (df : List Deferred) (F : List Value) (hF : F.length = 291) (f1 : F[1]? = some (.pointer (some ⟨w.heap.size, 0, none⟩))) (f3 : F[3]? = some (.slice A0 L0.length c0)) (f12 : F[12]? = some (.int .i64 0))
  (hTC : TC[15]? = some (.slice A l.length c)) (hA : RowsAt 8 Ra.cells w A l) (hl : l.length ≤ 1000) (hL : L0.length ≤ 100000) (hwb : w.heap.size < base) (hb : Below w.heap.size w wr) (hbs : base ≤ wr.heap.size) (hT : BoxAt wr w.heap.size TC) (hX : ElOwn wr base A0 c0 L0) (R : Act → World → Prop)
  (hR : ∀ (F' : List Value) (w' : World) (A' : Option Addr) (c' : Nat), F'.length = 291 → F'[1]? = F[1]? → F'[2]? = F[2]? → F'[3]? = some (.slice A' (L0 ++ l.map Ra.el).length c') → Below w.heap.size w w' → base ≤ w'.heap.size → BoxAt w' w.heap.size TC → ElOwn w' base A' c' (L0 ++ l.map Ra.el) → R ⟨F'.toArray, df⟩ w') :
  (blkOf 6 Tryz.f86).wp Tryz.prog (AtEnd R) ⟨F.toArray, df⟩ wr := by
 obtain ⟨s, rfl⟩ := fr291_ex F hF
 have e1 : s 1 = .pointer (some ⟨w.heap.size, 0, none⟩) := Option.some.inj f1
 have e3 : s 3 = .slice A0 L0.length c0 := Option.some.inj f3
 have e12 : s 12 = .int .i64 0 := Option.some.inj f12
 unfold fr291
 rw [e1, e3, e12]
 have HE1 := hQ0 e1
 clear hF e1 f1 e3 f3 e12 f12
 have HA := hQ0 hA
 have HR := hQ0 hR
 have HLl := hQ0 hL
 have HT := hQ0 hT
 have HX := hQ0 hX
 have HB := hQ0 hb
 have HTC := hQ0 hTC
 clear hA hR hL hT hX hb hTC
 conv in (blkOf _ _) => whnf
 go_wp2_with fail
 go_loopg [3, 12] (l.length + 1) (fun gk t3 tt wr => ∃ (k : Nat) (A1 : Option Addr) (c1 : Nat), k ≤ l.length ∧ l.length - k < gk ∧ t3 = .slice A1 (L0 ++ (l.take k).map Ra.el).length c1 ∧ tt = .int .i64 k ∧ base ≤ wr.heap.size ∧ Hid (Below w.heap.size w wr ∧ BoxAt wr w.heap.size TC ∧ ElOwn wr base A1 c1 (L0 ++ (l.take k).map Ra.el)))
 case atStart => exact ⟨0, A0, c0, by omega, by omega, by simp, rfl, hbs, hQ0 ⟨HB.out, HT.out, by simpa using HX.out⟩⟩
 case round =>
  obtain ⟨wq, rfl⟩ : ∃ z, z = wr := ⟨_, rfl⟩
  clear HB HT HX hbs
  obtain ⟨k, A1, c1_, hk, hkk, rfl, rfl, hbs, HJ⟩ := hrel
  have hz_wq := HJ.out.1.size
  obtain ⟨L, hL⟩ : ∃ L : List El, L = L0 ++ (l.take k).map Ra.el := ⟨_, rfl⟩
  rw [← hL] at HJ ⊢
  have HL := hQ0 hL
  clear hL
  have tq := HJ.out.2.1.c 15 _ HTC.out
  have hltT := HJ.out.2.1.lt
  by_cases hlt : k < l.length
  · obtain ⟨x, hx⟩ : ∃ x, l[k]? = some x := ⟨l[k], by simp⟩
    obtain ⟨g, o, rfl, hg, c0, c1, c2, c3, c4, c5, c6, c7⟩ := Ra.get (HA.out.below HJ.out.1 (Nat.le_refl _)) hx
    have i1 : (k : Int) < (l.length : Int) := by omega
    have HXX := hQ0 hx
    clear hx
    go_upto_region 23 with (fail)
    (refine pin_eqT (fun w3 hE_w3 => ?_))
    obtain ⟨gb, hgb⟩ : ∃ z, z = wq.heap.size := ⟨_, rfl⟩
    rw [← hgb]
    have HX3 : Hid (BoxAt w3 gb x.cells) := hQ0 (by rw [hE_w3, hgb]; exact BoxAt.new _ _ _)
    have HJ3 : Hid (Below w.heap.size w w3 ∧ BoxAt w3 w.heap.size TC ∧ ElOwn w3 base A1 c1_ L) := hQ0 (by
     rw [hE_w3]
     exact ⟨HJ.out.1.alloc hz_wq _, HJ.out.2.1.alloc _, own_below HJ.out.2.2 ((Below.refl _ _).alloc (Nat.le_refl _) _) (Nat.le_refl _)⟩)
    have hz3 : wq.heap.size < w3.heap.size := by rw [hE_w3]; simp
    clear hgb hE_w3 c0 c1 c2 c3 c4 c5 c6 c7 hg tq hltT
    have y0 := HX3.out.c 0 _ rfl
    have y1 := HX3.out.c 1 _ rfl
    have y2 := HX3.out.c 2 _ rfl
    have y3 := HX3.out.c 3 _ rfl
    have y4 := HX3.out.c 4 _ rfl
    have y5 := HX3.out.c 5 _ rfl
    have y6 := HX3.out.c 6 _ rfl
    have y7 := HX3.out.c 7 _ rfl
    have lt_ := HX3.out.lt
    obtain ⟨d_, hd_⟩ : ∃ b, b = ((((in1 0 3 x.fr && in1 0 3 x.to) && nearV 1048576 ⟨x.c1, x.c2⟩) && in1 1 262144 x.sz) && nearV 16384 ⟨x.d1, x.d2⟩) := ⟨_, rfl⟩
    have HF : Hid (d_ = x.fB) := hQ0 (by rw [hd_]; first | rfl | (simp only [Ra.fB]; first | ac_rfl | (simp only [Bool.and_assoc]; done)))
    have hb3 := Below.refl w3.heap.size w3
    revert hd_
    cases h0 : in1 0 3 x.fr
    rotate_left
    cases h1 : in1 0 3 x.to
    rotate_left
    cases h2 : nearV 1048576 ⟨x.c1, x.c2⟩
    rotate_left
    cases h3 : in1 1 262144 x.sz
    rotate_left
    cases h4 : nearV 16384 ⟨x.d1, x.d2⟩
    rotate_left
    all_goals (
     intro hd_
     simp only [Bool.and_true, Bool.true_and, Bool.and_false, Bool.false_and] at hd_
     have HD := hQ0 hd_
     clear hd_
     go_upto_region 24 with (first | (go_at_call 34; refine (rin_any _ _ _ _).mono ?_; rintro e w9 ⟨rfl, hb9⟩; replace hb3 := hb3.trans (hb9.mono hb3.size); replace HX3 := hQ0 (HX3.out.below hb9 HX3.out.lt); clear hb9 lt_ y0 y1 y2 y3 y4 y5 y6 y7; have y0 := HX3.out.c 0 _ rfl; have y1 := HX3.out.c 1 _ rfl; have y2 := HX3.out.c 2 _ rfl; have y3 := HX3.out.c 3 _ rfl; have y4 := HX3.out.c 4 _ rfl; have y5 := HX3.out.c 5 _ rfl; have y6 := HX3.out.c 6 _ rfl; have y7 := HX3.out.c 7 _ rfl; have lt_ := HX3.out.lt) | (go_at_call 35; refine (rnear_any _ _ _ _ (by decide) (by decide)).mono ?_; rintro e w9 ⟨rfl, hb9⟩; replace hb3 := hb3.trans (hb9.mono hb3.size); replace HX3 := hQ0 (HX3.out.below hb9 HX3.out.lt); clear hb9 lt_ y0 y1 y2 y3 y4 y5 y6 y7; have y0 := HX3.out.c 0 _ rfl; have y1 := HX3.out.c 1 _ rfl; have y2 := HX3.out.c 2 _ rfl; have y3 := HX3.out.c 3 _ rfl; have y4 := HX3.out.c 4 _ rfl; have y5 := HX3.out.c 5 _ rfl; have y6 := HX3.out.c 6 _ rfl; have y7 := HX3.out.c 7 _ rfl; have lt_ := HX3.out.lt))
     obtain ⟨w4, rfl⟩ : ∃ z, z = w9 := ⟨_, rfl⟩
     clear lt_ y0 y1 y2 y3 y4 y5 y6 y7
     clear h0
     have HX4 := HX3
     have HJ4 : Hid (Below w.heap.size w w4 ∧ BoxAt w4 w.heap.size TC ∧ ElOwn w4 base A1 c1_ L) := hQ0 ⟨HJ3.out.1.trans (hb3.mono (by omega)), HJ3.out.2.1.below hb3 (by omega), own_below HJ3.out.2.2 hb3 (Nat.le_refl _)⟩
     have hz4 : wq.heap.size < w4.heap.size := Nat.lt_of_lt_of_le hz3 hb3.size
     clear hb3 HX3 HJ3 hz3
     obtain ⟨s0, hs0⟩ : ∃ b, b = (!decide (x.fr = x.to)) := ⟨_, rfl⟩
     have HHs0 := hQ0 hs0
     clear hs0
     obtain ⟨s1, hs1⟩ : ∃ b, b = (!(decide (x.d1 = 0) && decide (x.d2 = 0))) := ⟨_, rfl⟩
     have HHs1 := hQ0 hs1
     clear hs1
     have hS_ : (Below w4.heap.size w4) w4.drew := (Below.refl _ _).drew
     refine wp_region_Y (Below w4.heap.size w4) 17 [17, 18] (by kernel_rfl) (by kernel_rfl) (by kernel_rfl) (by kernel_rfl) (fun _ _ _ _ _ h => h) hS_ ?_
     generalize w4.drew = wd_ at hS_  ⊢
     iterate 3 (apply wpY_seq 17 rfl (by kernel_rfl) true (by exact rfl); (case h => intro _ W_ hW_; have hcW_ := (bcellW hW_).1; have hY_ := (HX4.out).below hW_ (HX4.out.lt); have y0_ := hY_.c 0 (.string x.nm) (rfl); go_simp; try exact rfl); intro K hK; go_simp; apply hK; clear hK K)
     apply wpY_maybe (i := 3) rfl (by kernel_rfl) true (by exact rfl) (.bool d_)
     (case h => intro _ W_ hW_; have hcW_ := (bcellW hW_).1; go_simp; first | done | exact rfl | (rw [HD.out]))
     intro K hK; go_simp; apply hK; clear hK K
     iterate 4 (apply wpY_seq 17 rfl (by kernel_rfl) true (by exact rfl); (case h => intro _ W_ hW_; have hcW_ := (bcellW hW_).1; have hY_ := (HX4.out).below hW_ (HX4.out.lt); have y0_ := hY_.c 1 (.int .i64 x.fr) (rfl); have y1_ := hY_.c 2 (.int .i64 x.to) (rfl); go_simp; try exact rfl); intro K hK; go_simp; apply hK; clear hK K)
     apply wpY_maybe (i := 8) rfl (by kernel_rfl) true (by exact rfl) (.bool s0)
     (case h => intro _ W_ hW_; have hcW_ := (bcellW hW_).1; go_simp; rw [HHs0.out]; first | done | exact rfl | simp | (by_cases q1_ : x.fr = x.to <;> simp [q1_]))
     intro K hK; go_simp; apply hK; clear hK K
     apply wpY_maybe (i := 9) rfl (by kernel_rfl) true (by exact rfl)
     (case h => intro _ W_ hW_; have hcW_ := (bcellW hW_).1; go_simp; try exact rfl)
     intro K hK; go_simp; apply hK; clear hK K
     iterate 3 (apply wpY_seq 17 rfl (by kernel_rfl) s0 (by clear hS_; cases s0 <;> rfl); (case h => intro hc_; obtain rfl : s0 = true := hc_; intro W_ hW_; have hcW_ := (bcellW hW_).1; have hY_ := (HX4.out).below hW_ (HX4.out.lt); have y0_ := hY_.c 6 (.int .i64 x.d1) (rfl); have y1_ := hY_.c 7 (.int .i64 x.d2) (rfl); go_simp; try exact rfl); intro K hK; go_simp; apply hK; clear hK K)
     apply wpY_maybe (i := 13) rfl (by kernel_rfl) s0 (by clear hS_; cases s0 <;> rfl) (.bool s1)
     (case h => intro hc_; obtain rfl : s0 = true := hc_; intro W_ hW_; have hcW_ := (bcellW hW_).1; go_simp; rw [HHs1.out]; first | done | exact rfl | (by_cases q1_ : x.d1 = 0 <;> by_cases q2_ : x.d2 = 0 <;> simp [q1_, q2_]))
     intro K hK; go_simp; apply hK; clear hK K
     obtain ⟨d24_1, hd24_1⟩ : ∃ b_, b_ = (s0 && s1) := ⟨_, rfl⟩
     apply wpY_maybe (i := 14) rfl (by kernel_rfl) true (by exact rfl) (.bool d24_1) (by intro _ W_ hW_; rw [hd24_1]; cases s0 <;> (go_simp; try exact rfl))
     have Hd24_1 := hQ0 hd24_1; clear hd24_1
     intro K hK; go_simp; apply hK; clear hK K
     apply wpY_maybe (i := 15) rfl (by kernel_rfl) true (by exact rfl)
     (case h => intro _ W_ hW_; have hcW_ := (bcellW hW_).1; go_simp; try exact rfl)
     intro K hK; go_simp; apply hK; clear hK K
     obtain ⟨wf_, rfl⟩ : ∃ z, z = wd_ := ⟨_, rfl⟩
     apply wpY_freshm (i := 16) rfl (by kernel_rfl) true (by exact rfl)
     (case h => intro _; generalize hev_ : Act.eval _ = ev_; (have v220_ := evE hev_ 220; simp only [getL64, getL8, getL1, getL0, opt_true, Bool.not_false] at v220_); have vc_ := evC hev_; clear hev_; go_simp; first | done | exact rfl | exact ⟨rfl, rfl⟩); (case hS' => exact (hS_).alloc (hS_).size _)
     intro K hK w_ hS2_ hw0_; have hw_ := hQ0 hw0_; clear hw0_; go_simp; apply hK; clear hK K hS_; have hS_ := hS2_; clear hS2_
     refine wpY_nil (by kernel_rfl) ?_
     (try simp only [List.filterMap_cons, List.filterMap_nil, List.getElem?_cons_succ, List.getElem?_cons_zero])
     (try go_simp)
     have hE_ := hw_.out rfl
     have HEL : Hid (Ra.el x = ⟨x.nm, d_, d24_1⟩) := hQ0 (by
      have h1 : d_ = x.fB := HF.out
      have h2 : d24_1 = (Ra.el x).fm := by simp only [Hd24_1.out, HHs0.out, HHs1.out]; first | rfl | (simp only [Ra.sB]; first | rfl | ac_rfl | (simp; done))
      rw [h1, h2]
      rfl)
     have hR_ : BoxAt w_ wf_.heap.size [.string x.nm, .bool d_, .bool d24_1] := by rw [hE_]; exact BoxAt.new wf_ [.string x.nm, .bool d_, .bool d24_1] _
     have HJ5 : Hid (Below w.heap.size w w_ ∧ BoxAt w_ w.heap.size TC ∧ ElOwn w_ base A1 c1_ L) := hQ0 ⟨HJ4.out.1.trans (hS_.mono (by have := HJ4.out.1.size; omega)), HJ4.out.2.1.below hS_ HJ4.out.2.1.lt, own_below HJ4.out.2.2 hS_ (Nat.le_refl _)⟩
     have hbs5 : base ≤ w_.heap.size := by have := hS_.size; omega
     have HLL : Hid (L.length ≤ 1000000) := hQ0 (by rw [HL.out, List.length_append, List.length_map, List.length_take]; have := HLl.out; omega)
     refine wpList_append_one rfl (.tmp 205) (.tmp 221) 88 91 _ 3 _ rfl Tryz.underlying88 infEl rfl (by decide) (by decide) base (.slice A1 L.length c1_) L.length (L.flatMap El.cells) [.string x.nm, .bool d_, .bool d24_1] (by go_simp; try exact rfl) HJ5.out.2.2 wf_.heap.size 1 (by go_simp; try exact rfl) rfl hR_.c (by simp [Value.oneCell']) HLL.out hbs5 ?_
     intro v7 w7 ho7 hg7 _
     obtain ⟨A2, c2, rfl⟩ := own_sl ho7
     have hfr : ∀ j, (Value.slice A1 L.length c1_).ownBlock = some j → base ≤ j := fun j hj => (World.ownsRow.lt HJ5.out.2.2 j hj).1
     have hX7 : ElOwn w7 base A2 c2 (L ++ [Ra.el x]) := ElOwn.snoc (by rw [HEL.out]; exact ho7)
     have hE : L ++ [Ra.el x] = L0 ++ (l.take (k + 1)).map Ra.el := by rw [HL.out]; exact el_snoc Ra.el HXX.out L0
     rw [hE] at hX7
     have hn7 : L.length + 1 = (L0 ++ (l.take (k + 1)).map Ra.el).length := by rw [← hE]; simp
     have HN7 := hQ0 hn7
     have HJ7 : Hid (Below w.heap.size w w7 ∧ BoxAt w7 w.heap.size TC ∧ ElOwn w7 base A2 c2 (L0 ++ (l.take (k + 1)).map Ra.el)) := hQ0 ⟨HJ5.out.1.trans (below_grown hg7 (fun j hj => by have := hfr j hj; omega) HJ5.out.1.size), boxAt_grown HJ5.out.2.1 hg7 (fun j hj e => by have := hfr j hj; omega), hX7⟩
     have hbs7 : base ≤ w7.heap.size := Nat.le_trans hbs5 hg7.size
     clear hX7 hfr hE ho7 hg7 hn7 hR_ hE_ hS_
     go_simp
     refine wpList_plain rfl fun K hK => ?_; go_simp; apply hK; clear hK K
     refine wpList_nil ?_
     (try go_simp)
     go_wp2_with fail
     go_roundg (l.length - (k + 1) + 1)
     case measure => omega
     case rel => exact ⟨k + 1, A2, c2, by omega, by omega, by rw [← HN7.out], by go_num, hbs7, HJ7⟩)
  · obtain rfl : k = l.length := by omega
    go_wp2_with fail
    show R _ _
    have hj := HJ.out
    have hL2 : L = L0 ++ l.map Ra.el := by rw [HL.out, List.take_length]
    rw [hL2] at hj ⊢
    exact HR.out _ _ A1 c1_ rfl (congrArg some HE1.out.symm) rfl rfl hj.1 hbs hj.2.1 hj.2.2
attribute [local go_sem ↓] evalL getL64 setL64
attribute [local go_sem ↓] getL8 setL8
attribute [local go_sem ↓] getL1 getL0
set_option maxRecDepth 100000 in
set_option maxHeartbeats 8000000 in
theorem le_ds (w wr : World) (base : Nat) (A A0 : Option Addr) (c c0 : Nat) (l : List Dr) (L0 : List El) (TC : List Value) (df : List Deferred) (F : List Value) (hF : F.length = 291) (f1 : F[1]? = some (.pointer (some ⟨w.heap.size, 0, none⟩))) (f3 : F[3]? = some (.slice A0 L0.length c0)) (f15 : F[15]? = some (.int .i64 0))
  (hTC : TC[16]? = some (.slice A l.length c)) (hA : RowsAt 5 Dr.cells w A l) (hl : l.length ≤ 1000) (hL : L0.length ≤ 100000) (hwb : w.heap.size < base) (hb : Below w.heap.size w wr) (hbs : base ≤ wr.heap.size) (hT : BoxAt wr w.heap.size TC) (hX : ElOwn wr base A0 c0 L0) (R : Act → World → Prop)
  (hR : ∀ (F' : List Value) (w' : World) (A' : Option Addr) (c' : Nat), F'.length = 291 → F'[1]? = F[1]? → F'[2]? = F[2]? → F'[3]? = some (.slice A' (L0 ++ l.map Dr.el).length c') → Below w.heap.size w w' → base ≤ w'.heap.size → BoxAt w' w.heap.size TC → ElOwn w' base A' c' (L0 ++ l.map Dr.el) → R ⟨F'.toArray, df⟩ w') :
  (blkOf 8 Tryz.f86).wp Tryz.prog (AtEnd R) ⟨F.toArray, df⟩ wr := by
 obtain ⟨s, rfl⟩ := fr291_ex F hF
 have e1 : s 1 = .pointer (some ⟨w.heap.size, 0, none⟩) := Option.some.inj f1
 have e3 : s 3 = .slice A0 L0.length c0 := Option.some.inj f3
 have e15 : s 15 = .int .i64 0 := Option.some.inj f15
 unfold fr291
 rw [e1, e3, e15]
 have HE1 := hQ0 e1
 clear hF e1 f1 e3 f3 e15 f15
 have HA := hQ0 hA
 have HR := hQ0 hR
 have HLl := hQ0 hL
 have HT := hQ0 hT
 have HX := hQ0 hX
 have HB := hQ0 hb
 have HTC := hQ0 hTC
 clear hA hR hL hT hX hb hTC
 conv in (blkOf _ _) => whnf
 go_wp2_with fail
 go_loopg [3, 15] (l.length + 1) (fun gk t3 tt wr => ∃ (k : Nat) (A1 : Option Addr) (c1 : Nat), k ≤ l.length ∧ l.length - k < gk ∧ t3 = .slice A1 (L0 ++ (l.take k).map Dr.el).length c1 ∧ tt = .int .i64 k ∧ base ≤ wr.heap.size ∧ Hid (Below w.heap.size w wr ∧ BoxAt wr w.heap.size TC ∧ ElOwn wr base A1 c1 (L0 ++ (l.take k).map Dr.el)))
 case atStart => exact ⟨0, A0, c0, by omega, by omega, by simp, rfl, hbs, hQ0 ⟨HB.out, HT.out, by simpa using HX.out⟩⟩
 case round =>
  obtain ⟨wq, rfl⟩ : ∃ z, z = wr := ⟨_, rfl⟩
  clear HB HT HX hbs
  obtain ⟨k, A1, c1_, hk, hkk, rfl, rfl, hbs, HJ⟩ := hrel
  have hz_wq := HJ.out.1.size
  obtain ⟨L, hL⟩ : ∃ L : List El, L = L0 ++ (l.take k).map Dr.el := ⟨_, rfl⟩
  rw [← hL] at HJ ⊢
  have HL := hQ0 hL
  clear hL
  have tq := HJ.out.2.1.c 16 _ HTC.out
  have hltT := HJ.out.2.1.lt
  by_cases hlt : k < l.length
  · obtain ⟨x, hx⟩ : ∃ x, l[k]? = some x := ⟨l[k], by simp⟩
    obtain ⟨g, o, rfl, hg, c0, c1, c2, c3, c4⟩ := Dr.get (HA.out.below HJ.out.1 (Nat.le_refl _)) hx
    have i1 : (k : Int) < (l.length : Int) := by omega
    have HXX := hQ0 hx
    clear hx
    go_upto_region 29 with (fail)
    (refine pin_eqT (fun w3 hE_w3 => ?_))
    obtain ⟨gb, hgb⟩ : ∃ z, z = wq.heap.size := ⟨_, rfl⟩
    rw [← hgb]
    have HX3 : Hid (BoxAt w3 gb x.cells) := hQ0 (by rw [hE_w3, hgb]; exact BoxAt.new _ _ _)
    have HJ3 : Hid (Below w.heap.size w w3 ∧ BoxAt w3 w.heap.size TC ∧ ElOwn w3 base A1 c1_ L) := hQ0 (by
     rw [hE_w3]
     exact ⟨HJ.out.1.alloc hz_wq _, HJ.out.2.1.alloc _, own_below HJ.out.2.2 ((Below.refl _ _).alloc (Nat.le_refl _) _) (Nat.le_refl _)⟩)
    have hz3 : wq.heap.size < w3.heap.size := by rw [hE_w3]; simp
    clear hgb hE_w3 c0 c1 c2 c3 c4 hg tq hltT
    obtain ⟨p0, hp0⟩ : ∃ b, b = (in1 0 3 x.lv) := ⟨_, rfl⟩
    have HHp0 := hQ0 hp0
    clear hp0
    obtain ⟨p1, hp1⟩ : ∃ b, b = (nearV 1048576 ⟨x.c1, x.c2⟩) := ⟨_, rfl⟩
    have HHp1 := hQ0 hp1
    clear hp1
    obtain ⟨p2, hp2⟩ : ∃ b, b = (in1 1 262144 x.sz) := ⟨_, rfl⟩
    have HHp2 := hQ0 hp2
    clear hp2
    have hS_ : (Below w3.heap.size w3) w3.drew := (Below.refl _ _).drew
    refine wp_region_Y (Below w3.heap.size w3) 18 [18, 19] (by kernel_rfl) (by kernel_rfl) (by kernel_rfl) (by kernel_rfl) (fun _ _ _ _ _ h => h) hS_ ?_
    generalize w3.drew = wd_ at hS_  ⊢
    iterate 5 (apply wpY_seq 18 rfl (by kernel_rfl) true (by exact rfl); (case h => intro _ W_ hW_; have hcW_ := (bcellW hW_).1; have hY_ := (HX3.out).below hW_ (HX3.out.lt); have y0_ := hY_.c 0 (.string x.nm) (rfl); have y1_ := hY_.c 1 (.int .i64 x.lv) (rfl); go_simp; try exact rfl); intro K hK; go_simp; apply hK; clear hK K)
    refine wpY_callm (i := 5) rfl (by kernel_rfl) true (by exact rfl) (.bool p0) ?_ ?_
    · intro _; intro N_ hN_; generalize hA_ : Act.mk _ _ = A_ at hN_ ⊢; (have v239_ := evA hA_ 239; simp only [getL64, getL8, getL1, getL0, opt_true, Bool.not_false] at v239_); clear hA_; have vc_ := acC A_; have vf_ := acF A_; generalize Act.eval A_ = ev_ at vc_ vf_ v239_ ⊢; go_simp; go_at_call 34; refine (rin_any _ _ _ _).mono ?_; rintro e w9 ⟨rfl, hb9⟩; rw [← HHp0.out]; exact hN_ _ (hS_.trans (hb9.mono hS_.size))
    intro K hK w_ hS2_; go_simp; apply hK; clear hK K hS_; have hS_ := hS2_; clear hS2_
    apply wpY_maybe (i := 6) rfl (by kernel_rfl) true (by exact rfl)
    (case h => intro _ W_ hW_; have hcW_ := (bcellW hW_).1; go_simp; try exact rfl)
    intro K hK; go_simp; apply hK; clear hK K
    iterate 2 (apply wpY_seq 18 rfl (by kernel_rfl) p0 (by clear hS_; cases p0 <;> rfl); (case h => intro hc_; obtain rfl : p0 = true := hc_; intro W_ hW_; have hcW_ := (bcellW hW_).1; have hY_ := (HX3.out).below hW_ (HX3.out.lt); have y0_ := hY_.c 2 (.int .i64 x.c1) (rfl); have y1_ := hY_.c 3 (.int .i64 x.c2) (rfl); go_simp; try exact rfl); intro K hK; go_simp; apply hK; clear hK K)
    refine wpY_callm (i := 9) rfl (by kernel_rfl) p0 (by clear hS_; cases p0 <;> rfl) (.bool p1) ?_ ?_
    · intro hc_; obtain rfl : p0 = true := hc_; intro N_ hN_; generalize hA_ : Act.mk _ _ = A_ at hN_ ⊢; (have v243_ := evA hA_ 243; simp only [getL64, getL8, getL1, getL0, opt_true, Bool.not_false] at v243_); clear hA_; have vc_ := acC A_; have vf_ := acF A_; generalize Act.eval A_ = ev_ at vc_ vf_ v243_ ⊢; go_simp; go_at_call 35; refine (rnear_any _ _ _ _ (by decide) (by decide)).mono ?_; rintro e w9 ⟨rfl, hb9⟩; rw [← HHp1.out]; exact hN_ _ (hS_.trans (hb9.mono hS_.size))
    intro K hK w_ hS2_; go_simp; apply hK; clear hK K hS_; have hS_ := hS2_; clear hS2_
    obtain ⟨d29_1, hd29_1⟩ : ∃ b_, b_ = (p0 && p1) := ⟨_, rfl⟩
    apply wpY_maybe (i := 10) rfl (by kernel_rfl) true (by exact rfl) (.bool d29_1) (by intro _ W_ hW_; rw [hd29_1]; cases p0 <;> (go_simp; try exact rfl))
    have Hd29_1 := hQ0 hd29_1; clear hd29_1
    intro K hK; go_simp; apply hK; clear hK K
    apply wpY_maybe (i := 11) rfl (by kernel_rfl) true (by exact rfl)
    (case h => intro _ W_ hW_; have hcW_ := (bcellW hW_).1; go_simp; try exact rfl)
    intro K hK; go_simp; apply hK; clear hK K
    iterate 2 (apply wpY_seq 18 rfl (by kernel_rfl) d29_1 (by clear hS_; cases d29_1 <;> rfl); (case h => intro hc_; obtain rfl : d29_1 = true := hc_; intro W_ hW_; have hcW_ := (bcellW hW_).1; have hY_ := (HX3.out).below hW_ (HX3.out.lt); have y0_ := hY_.c 4 (.int .i64 x.sz) (rfl); go_simp; try exact rfl); intro K hK; go_simp; apply hK; clear hK K)
    refine wpY_callm (i := 14) rfl (by kernel_rfl) d29_1 (by clear hS_; cases d29_1 <;> rfl) (.bool p2) ?_ ?_
    · intro hc_; obtain rfl : d29_1 = true := hc_; intro N_ hN_; generalize hA_ : Act.mk _ _ = A_ at hN_ ⊢; (have v248_ := evA hA_ 248; simp only [getL64, getL8, getL1, getL0, opt_true, Bool.not_false] at v248_); clear hA_; have vc_ := acC A_; have vf_ := acF A_; generalize Act.eval A_ = ev_ at vc_ vf_ v248_ ⊢; go_simp; go_at_call 34; refine (rin_any _ _ _ _).mono ?_; rintro e w9 ⟨rfl, hb9⟩; rw [← HHp2.out]; exact hN_ _ (hS_.trans (hb9.mono hS_.size))
    intro K hK w_ hS2_; go_simp; apply hK; clear hK K hS_; have hS_ := hS2_; clear hS2_
    obtain ⟨d29_2, hd29_2⟩ : ∃ b_, b_ = (d29_1 && p2) := ⟨_, rfl⟩
    apply wpY_maybe (i := 15) rfl (by kernel_rfl) true (by exact rfl) (.bool d29_2) (by intro _ W_ hW_; rw [hd29_2]; cases d29_1 <;> (go_simp; try exact rfl))
    have Hd29_2 := hQ0 hd29_2; clear hd29_2
    intro K hK; go_simp; apply hK; clear hK K
    apply wpY_maybe (i := 16) rfl (by kernel_rfl) true (by exact rfl)
    (case h => intro _ W_ hW_; have hcW_ := (bcellW hW_).1; go_simp; try exact rfl)
    intro K hK; go_simp; apply hK; clear hK K
    obtain ⟨wf_, rfl⟩ : ∃ z, z = w_ := ⟨_, rfl⟩
    apply wpY_freshm (i := 17) rfl (by kernel_rfl) true (by exact rfl)
    (case h => intro _; generalize hev_ : Act.eval _ = ev_; (have v251_ := evE hev_ 251; simp only [getL64, getL8, getL1, getL0, opt_true, Bool.not_false] at v251_); have vc_ := evC hev_; clear hev_; go_simp; first | done | exact rfl | exact ⟨rfl, rfl⟩); (case hS' => exact (hS_).alloc (hS_).size _)
    intro K hK w_ hS2_ hw0_; have hw_ := hQ0 hw0_; clear hw0_; go_simp; apply hK; clear hK K hS_; have hS_ := hS2_; clear hS2_
    refine wpY_nil (by kernel_rfl) ?_
    (try simp only [List.filterMap_cons, List.filterMap_nil, List.getElem?_cons_succ, List.getElem?_cons_zero])
    (try go_simp)
    have hE_ := hw_.out rfl
    have HEL : Hid (Dr.el x = ⟨x.nm, d29_2, true⟩) := hQ0 (by
     have h1 : d29_2 = x.fB := (by simp only [Hd29_2.out, Hd29_1.out, HHp0.out, HHp1.out, HHp2.out]; first | rfl | (simp only [Dr.fB]; first | ac_rfl | (simp only [Bool.and_assoc]; done)))
     have h2 : true = (Dr.el x).fm := rfl
     rw [h1, h2]
     rfl)
    have hR_ : BoxAt w_ wf_.heap.size [.string x.nm, .bool d29_2, .bool true] := by rw [hE_]; exact BoxAt.new wf_ [.string x.nm, .bool d29_2, .bool true] _
    have HJ5 : Hid (Below w.heap.size w w_ ∧ BoxAt w_ w.heap.size TC ∧ ElOwn w_ base A1 c1_ L) := hQ0 ⟨HJ3.out.1.trans (hS_.mono (by have := HJ3.out.1.size; omega)), HJ3.out.2.1.below hS_ HJ3.out.2.1.lt, own_below HJ3.out.2.2 hS_ (Nat.le_refl _)⟩
    have hbs5 : base ≤ w_.heap.size := by have := hS_.size; omega
    have HLL : Hid (L.length ≤ 1000000) := hQ0 (by rw [HL.out, List.length_append, List.length_map, List.length_take]; have := HLl.out; omega)
    refine wpList_append_one rfl (.tmp 235) (.tmp 252) 88 91 _ 3 _ rfl Tryz.underlying88 infEl rfl (by decide) (by decide) base (.slice A1 L.length c1_) L.length (L.flatMap El.cells) [.string x.nm, .bool d29_2, .bool true] (by go_simp; try exact rfl) HJ5.out.2.2 wf_.heap.size 1 (by go_simp; try exact rfl) rfl hR_.c (by simp [Value.oneCell']) HLL.out hbs5 ?_
    intro v7 w7 ho7 hg7 _
    obtain ⟨A2, c2, rfl⟩ := own_sl ho7
    have hfr : ∀ j, (Value.slice A1 L.length c1_).ownBlock = some j → base ≤ j := fun j hj => (World.ownsRow.lt HJ5.out.2.2 j hj).1
    have hX7 : ElOwn w7 base A2 c2 (L ++ [Dr.el x]) := ElOwn.snoc (by rw [HEL.out]; exact ho7)
    have hE : L ++ [Dr.el x] = L0 ++ (l.take (k + 1)).map Dr.el := by rw [HL.out]; exact el_snoc Dr.el HXX.out L0
    rw [hE] at hX7
    have hn7 : L.length + 1 = (L0 ++ (l.take (k + 1)).map Dr.el).length := by rw [← hE]; simp
    have HN7 := hQ0 hn7
    have HJ7 : Hid (Below w.heap.size w w7 ∧ BoxAt w7 w.heap.size TC ∧ ElOwn w7 base A2 c2 (L0 ++ (l.take (k + 1)).map Dr.el)) := hQ0 ⟨HJ5.out.1.trans (below_grown hg7 (fun j hj => by have := hfr j hj; omega) HJ5.out.1.size), boxAt_grown HJ5.out.2.1 hg7 (fun j hj e => by have := hfr j hj; omega), hX7⟩
    have hbs7 : base ≤ w7.heap.size := Nat.le_trans hbs5 hg7.size
    clear hX7 hfr hE ho7 hg7 hn7 hR_ hE_ hS_
    go_simp
    refine wpList_plain rfl fun K hK => ?_; go_simp; apply hK; clear hK K
    refine wpList_nil ?_
    (try go_simp)
    go_wp2_with fail
    go_roundg (l.length - (k + 1) + 1)
    case measure => omega
    case rel => exact ⟨k + 1, A2, c2, by omega, by omega, by rw [← HN7.out], by go_num, hbs7, HJ7⟩
  · obtain rfl : k = l.length := by omega
    go_wp2_with fail
    show R _ _
    have hj := HJ.out
    have hL2 : L = L0 ++ l.map Dr.el := by rw [HL.out, List.take_length]
    rw [hL2] at hj ⊢
    exact HR.out _ _ A1 c1_ rfl (congrArg some HE1.out.symm) rfl rfl hj.1 hbs hj.2.1 hj.2.2
attribute [local go_sem ↓] evalL getL64 setL64
attribute [local go_sem ↓] getL8 setL8
attribute [local go_sem ↓] getL1 getL0
set_option maxRecDepth 100000 in
set_option maxHeartbeats 8000000 in
theorem le_lns (w wr : World) (base : Nat) (A A0 : Option Addr) (c c0 : Nat) (l : List Ln) (L0 : List El) (TC : List Value) (df : List Deferred) (F : List Value) (hF : F.length = 291) (f1 : F[1]? = some (.pointer (some ⟨w.heap.size, 0, none⟩))) (f3 : F[3]? = some (.slice A0 L0.length c0)) (f17 : F[17]? = some (.int .i64 0))
  (hTC : TC[17]? = some (.slice A l.length c)) (hA : RowsAt 7 Ln.cells w A l) (hl : l.length ≤ 1000) (hL : L0.length ≤ 100000) (hwb : w.heap.size < base) (hb : Below w.heap.size w wr) (hbs : base ≤ wr.heap.size) (hT : BoxAt wr w.heap.size TC) (hX : ElOwn wr base A0 c0 L0) (R : Act → World → Prop)
  (hR : ∀ (F' : List Value) (w' : World) (A' : Option Addr) (c' : Nat), F'.length = 291 → F'[1]? = F[1]? → F'[2]? = F[2]? → F'[3]? = some (.slice A' (L0 ++ l.map Ln.el).length c') → Below w.heap.size w w' → base ≤ w'.heap.size → BoxAt w' w.heap.size TC → ElOwn w' base A' c' (L0 ++ l.map Ln.el) → R ⟨F'.toArray, df⟩ w') :
  (blkOf 10 Tryz.f86).wp Tryz.prog (AtEnd R) ⟨F.toArray, df⟩ wr := by
 obtain ⟨s, rfl⟩ := fr291_ex F hF
 have e1 : s 1 = .pointer (some ⟨w.heap.size, 0, none⟩) := Option.some.inj f1
 have e3 : s 3 = .slice A0 L0.length c0 := Option.some.inj f3
 have e17 : s 17 = .int .i64 0 := Option.some.inj f17
 unfold fr291
 rw [e1, e3, e17]
 have HE1 := hQ0 e1
 clear hF e1 f1 e3 f3 e17 f17
 have HA := hQ0 hA
 have HR := hQ0 hR
 have HLl := hQ0 hL
 have HT := hQ0 hT
 have HX := hQ0 hX
 have HB := hQ0 hb
 have HTC := hQ0 hTC
 clear hA hR hL hT hX hb hTC
 conv in (blkOf _ _) => whnf
 go_wp2_with fail
 go_loopg [3, 17] (l.length + 1) (fun gk t3 tt wr => ∃ (k : Nat) (A1 : Option Addr) (c1 : Nat), k ≤ l.length ∧ l.length - k < gk ∧ t3 = .slice A1 (L0 ++ (l.take k).map Ln.el).length c1 ∧ tt = .int .i64 k ∧ base ≤ wr.heap.size ∧ Hid (Below w.heap.size w wr ∧ BoxAt wr w.heap.size TC ∧ ElOwn wr base A1 c1 (L0 ++ (l.take k).map Ln.el)))
 case atStart => exact ⟨0, A0, c0, by omega, by omega, by simp, rfl, hbs, hQ0 ⟨HB.out, HT.out, by simpa using HX.out⟩⟩
 case round =>
  obtain ⟨wq, rfl⟩ : ∃ z, z = wr := ⟨_, rfl⟩
  clear HB HT HX hbs
  obtain ⟨k, A1, c1_, hk, hkk, rfl, rfl, hbs, HJ⟩ := hrel
  have hz_wq := HJ.out.1.size
  obtain ⟨L, hL⟩ : ∃ L : List El, L = L0 ++ (l.take k).map Ln.el := ⟨_, rfl⟩
  rw [← hL] at HJ ⊢
  have HL := hQ0 hL
  clear hL
  have tq := HJ.out.2.1.c 17 _ HTC.out
  have hltT := HJ.out.2.1.lt
  by_cases hlt : k < l.length
  · obtain ⟨x, hx⟩ : ∃ x, l[k]? = some x := ⟨l[k], by simp⟩
    obtain ⟨g, o, rfl, hg, c0, c1, c2, c3, c4, c5, c6⟩ := Ln.get (HA.out.below HJ.out.1 (Nat.le_refl _)) hx
    have i1 : (k : Int) < (l.length : Int) := by omega
    have HXX := hQ0 hx
    clear hx
    go_upto_region 34 with (fail)
    (refine pin_eqT (fun w3 hE_w3 => ?_))
    obtain ⟨gb, hgb⟩ : ∃ z, z = wq.heap.size := ⟨_, rfl⟩
    rw [← hgb]
    have HX3 : Hid (BoxAt w3 gb x.cells) := hQ0 (by rw [hE_w3, hgb]; exact BoxAt.new _ _ _)
    have HJ3 : Hid (Below w.heap.size w w3 ∧ BoxAt w3 w.heap.size TC ∧ ElOwn w3 base A1 c1_ L) := hQ0 (by
     rw [hE_w3]
     exact ⟨HJ.out.1.alloc hz_wq _, HJ.out.2.1.alloc _, own_below HJ.out.2.2 ((Below.refl _ _).alloc (Nat.le_refl _) _) (Nat.le_refl _)⟩)
    have hz3 : wq.heap.size < w3.heap.size := by rw [hE_w3]; simp
    clear hgb hE_w3 c0 c1 c2 c3 c4 c5 c6 hg tq hltT
    obtain ⟨p0, hp0⟩ : ∃ b, b = (in1 0 3 x.lv) := ⟨_, rfl⟩
    have HHp0 := hQ0 hp0
    clear hp0
    obtain ⟨p1, hp1⟩ : ∃ b, b = (nearV 1048576 ⟨x.a1, x.a2⟩) := ⟨_, rfl⟩
    have HHp1 := hQ0 hp1
    clear hp1
    obtain ⟨p2, hp2⟩ : ∃ b, b = (nearV 16384 ⟨x.v1, x.v2⟩) := ⟨_, rfl⟩
    have HHp2 := hQ0 hp2
    clear hp2
    obtain ⟨p3, hp3⟩ : ∃ b, b = (in1 0 31 x.cl) := ⟨_, rfl⟩
    have HHp3 := hQ0 hp3
    clear hp3
    have hS_ : (Below w3.heap.size w3) w3.drew := (Below.refl _ _).drew
    refine wp_region_Y (Below w3.heap.size w3) 23 [23, 24] (by kernel_rfl) (by kernel_rfl) (by kernel_rfl) (by kernel_rfl) (fun _ _ _ _ _ h => h) hS_ ?_
    generalize w3.drew = wd_ at hS_  ⊢
    iterate 5 (apply wpY_seq 23 rfl (by kernel_rfl) true (by exact rfl); (case h => intro _ W_ hW_; have hcW_ := (bcellW hW_).1; have hY_ := (HX3.out).below hW_ (HX3.out.lt); have y0_ := hY_.c 0 (.string x.nm) (rfl); have y1_ := hY_.c 1 (.int .i64 x.lv) (rfl); go_simp; try exact rfl); intro K hK; go_simp; apply hK; clear hK K)
    refine wpY_callm (i := 5) rfl (by kernel_rfl) true (by exact rfl) (.bool p0) ?_ ?_
    · intro _; intro N_ hN_; generalize hA_ : Act.mk _ _ = A_ at hN_ ⊢; (have v270_ := evA hA_ 270; simp only [getL64, getL8, getL1, getL0, opt_true, Bool.not_false] at v270_); clear hA_; have vc_ := acC A_; have vf_ := acF A_; generalize Act.eval A_ = ev_ at vc_ vf_ v270_ ⊢; go_simp; go_at_call 34; refine (rin_any _ _ _ _).mono ?_; rintro e w9 ⟨rfl, hb9⟩; rw [← HHp0.out]; exact hN_ _ (hS_.trans (hb9.mono hS_.size))
    intro K hK w_ hS2_; go_simp; apply hK; clear hK K hS_; have hS_ := hS2_; clear hS2_
    apply wpY_maybe (i := 6) rfl (by kernel_rfl) true (by exact rfl)
    (case h => intro _ W_ hW_; have hcW_ := (bcellW hW_).1; go_simp; try exact rfl)
    intro K hK; go_simp; apply hK; clear hK K
    iterate 2 (apply wpY_seq 23 rfl (by kernel_rfl) p0 (by clear hS_; cases p0 <;> rfl); (case h => intro hc_; obtain rfl : p0 = true := hc_; intro W_ hW_; have hcW_ := (bcellW hW_).1; have hY_ := (HX3.out).below hW_ (HX3.out.lt); have y0_ := hY_.c 2 (.int .i64 x.a1) (rfl); have y1_ := hY_.c 3 (.int .i64 x.a2) (rfl); go_simp; try exact rfl); intro K hK; go_simp; apply hK; clear hK K)
    refine wpY_callm (i := 9) rfl (by kernel_rfl) p0 (by clear hS_; cases p0 <;> rfl) (.bool p1) ?_ ?_
    · intro hc_; obtain rfl : p0 = true := hc_; intro N_ hN_; generalize hA_ : Act.mk _ _ = A_ at hN_ ⊢; (have v274_ := evA hA_ 274; simp only [getL64, getL8, getL1, getL0, opt_true, Bool.not_false] at v274_); clear hA_; have vc_ := acC A_; have vf_ := acF A_; generalize Act.eval A_ = ev_ at vc_ vf_ v274_ ⊢; go_simp; go_at_call 35; refine (rnear_any _ _ _ _ (by decide) (by decide)).mono ?_; rintro e w9 ⟨rfl, hb9⟩; rw [← HHp1.out]; exact hN_ _ (hS_.trans (hb9.mono hS_.size))
    intro K hK w_ hS2_; go_simp; apply hK; clear hK K hS_; have hS_ := hS2_; clear hS2_
    obtain ⟨d34_1, hd34_1⟩ : ∃ b_, b_ = (p0 && p1) := ⟨_, rfl⟩
    apply wpY_maybe (i := 10) rfl (by kernel_rfl) true (by exact rfl) (.bool d34_1) (by intro _ W_ hW_; rw [hd34_1]; cases p0 <;> (go_simp; try exact rfl))
    have Hd34_1 := hQ0 hd34_1; clear hd34_1
    intro K hK; go_simp; apply hK; clear hK K
    apply wpY_maybe (i := 11) rfl (by kernel_rfl) true (by exact rfl)
    (case h => intro _ W_ hW_; have hcW_ := (bcellW hW_).1; go_simp; try exact rfl)
    intro K hK; go_simp; apply hK; clear hK K
    iterate 2 (apply wpY_seq 23 rfl (by kernel_rfl) d34_1 (by clear hS_; cases d34_1 <;> rfl); (case h => intro hc_; obtain rfl : d34_1 = true := hc_; intro W_ hW_; have hcW_ := (bcellW hW_).1; have hY_ := (HX3.out).below hW_ (HX3.out.lt); have y0_ := hY_.c 4 (.int .i64 x.v1) (rfl); have y1_ := hY_.c 5 (.int .i64 x.v2) (rfl); go_simp; try exact rfl); intro K hK; go_simp; apply hK; clear hK K)
    refine wpY_callm (i := 14) rfl (by kernel_rfl) d34_1 (by clear hS_; cases d34_1 <;> rfl) (.bool p2) ?_ ?_
    · intro hc_; obtain rfl : d34_1 = true := hc_; intro N_ hN_; generalize hA_ : Act.mk _ _ = A_ at hN_ ⊢; (have v279_ := evA hA_ 279; simp only [getL64, getL8, getL1, getL0, opt_true, Bool.not_false] at v279_); clear hA_; have vc_ := acC A_; have vf_ := acF A_; generalize Act.eval A_ = ev_ at vc_ vf_ v279_ ⊢; go_simp; go_at_call 35; refine (rnear_any _ _ _ _ (by decide) (by decide)).mono ?_; rintro e w9 ⟨rfl, hb9⟩; rw [← HHp2.out]; exact hN_ _ (hS_.trans (hb9.mono hS_.size))
    intro K hK w_ hS2_; go_simp; apply hK; clear hK K hS_; have hS_ := hS2_; clear hS2_
    obtain ⟨d34_2, hd34_2⟩ : ∃ b_, b_ = (d34_1 && p2) := ⟨_, rfl⟩
    apply wpY_maybe (i := 15) rfl (by kernel_rfl) true (by exact rfl) (.bool d34_2) (by intro _ W_ hW_; rw [hd34_2]; cases d34_1 <;> (go_simp; try exact rfl))
    have Hd34_2 := hQ0 hd34_2; clear hd34_2
    intro K hK; go_simp; apply hK; clear hK K
    apply wpY_maybe (i := 16) rfl (by kernel_rfl) true (by exact rfl)
    (case h => intro _ W_ hW_; have hcW_ := (bcellW hW_).1; go_simp; try exact rfl)
    intro K hK; go_simp; apply hK; clear hK K
    iterate 2 (apply wpY_seq 23 rfl (by kernel_rfl) d34_2 (by clear hS_; cases d34_2 <;> rfl); (case h => intro hc_; obtain rfl : d34_2 = true := hc_; intro W_ hW_; have hcW_ := (bcellW hW_).1; have hY_ := (HX3.out).below hW_ (HX3.out.lt); have y0_ := hY_.c 6 (.int .i64 x.cl) (rfl); go_simp; try exact rfl); intro K hK; go_simp; apply hK; clear hK K)
    refine wpY_callm (i := 19) rfl (by kernel_rfl) d34_2 (by clear hS_; cases d34_2 <;> rfl) (.bool p3) ?_ ?_
    · intro hc_; obtain rfl : d34_2 = true := hc_; intro N_ hN_; generalize hA_ : Act.mk _ _ = A_ at hN_ ⊢; (have v284_ := evA hA_ 284; simp only [getL64, getL8, getL1, getL0, opt_true, Bool.not_false] at v284_); clear hA_; have vc_ := acC A_; have vf_ := acF A_; generalize Act.eval A_ = ev_ at vc_ vf_ v284_ ⊢; go_simp; go_at_call 34; refine (rin_any _ _ _ _).mono ?_; rintro e w9 ⟨rfl, hb9⟩; rw [← HHp3.out]; exact hN_ _ (hS_.trans (hb9.mono hS_.size))
    intro K hK w_ hS2_; go_simp; apply hK; clear hK K hS_; have hS_ := hS2_; clear hS2_
    obtain ⟨d34_3, hd34_3⟩ : ∃ b_, b_ = (d34_2 && p3) := ⟨_, rfl⟩
    apply wpY_maybe (i := 20) rfl (by kernel_rfl) true (by exact rfl) (.bool d34_3) (by intro _ W_ hW_; rw [hd34_3]; cases d34_2 <;> (go_simp; try exact rfl))
    have Hd34_3 := hQ0 hd34_3; clear hd34_3
    intro K hK; go_simp; apply hK; clear hK K
    apply wpY_maybe (i := 21) rfl (by kernel_rfl) true (by exact rfl)
    (case h => intro _ W_ hW_; have hcW_ := (bcellW hW_).1; go_simp; try exact rfl)
    intro K hK; go_simp; apply hK; clear hK K
    obtain ⟨wf_, rfl⟩ : ∃ z, z = w_ := ⟨_, rfl⟩
    apply wpY_freshm (i := 22) rfl (by kernel_rfl) true (by exact rfl)
    (case h => intro _; generalize hev_ : Act.eval _ = ev_; (have v287_ := evE hev_ 287; simp only [getL64, getL8, getL1, getL0, opt_true, Bool.not_false] at v287_); have vc_ := evC hev_; clear hev_; go_simp; first | done | exact rfl | exact ⟨rfl, rfl⟩); (case hS' => exact (hS_).alloc (hS_).size _)
    intro K hK w_ hS2_ hw0_; have hw_ := hQ0 hw0_; clear hw0_; go_simp; apply hK; clear hK K hS_; have hS_ := hS2_; clear hS2_
    refine wpY_nil (by kernel_rfl) ?_
    (try simp only [List.filterMap_cons, List.filterMap_nil, List.getElem?_cons_succ, List.getElem?_cons_zero])
    (try go_simp)
    have hE_ := hw_.out rfl
    have HEL : Hid (Ln.el x = ⟨x.nm, d34_3, true⟩) := hQ0 (by
     have h1 : d34_3 = x.fB := (by simp only [Hd34_3.out, Hd34_2.out, Hd34_1.out, HHp0.out, HHp1.out, HHp2.out, HHp3.out]; first | rfl | (simp only [Ln.fB]; first | ac_rfl | (simp only [Bool.and_assoc]; done)))
     have h2 : true = (Ln.el x).fm := rfl
     rw [h1, h2]
     rfl)
    have hR_ : BoxAt w_ wf_.heap.size [.string x.nm, .bool d34_3, .bool true] := by rw [hE_]; exact BoxAt.new wf_ [.string x.nm, .bool d34_3, .bool true] _
    have HJ5 : Hid (Below w.heap.size w w_ ∧ BoxAt w_ w.heap.size TC ∧ ElOwn w_ base A1 c1_ L) := hQ0 ⟨HJ3.out.1.trans (hS_.mono (by have := HJ3.out.1.size; omega)), HJ3.out.2.1.below hS_ HJ3.out.2.1.lt, own_below HJ3.out.2.2 hS_ (Nat.le_refl _)⟩
    have hbs5 : base ≤ w_.heap.size := by have := hS_.size; omega
    have HLL : Hid (L.length ≤ 1000000) := hQ0 (by rw [HL.out, List.length_append, List.length_map, List.length_take]; have := HLl.out; omega)
    refine wpList_append_one rfl (.tmp 266) (.tmp 288) 88 91 _ 3 _ rfl Tryz.underlying88 infEl rfl (by decide) (by decide) base (.slice A1 L.length c1_) L.length (L.flatMap El.cells) [.string x.nm, .bool d34_3, .bool true] (by go_simp; try exact rfl) HJ5.out.2.2 wf_.heap.size 1 (by go_simp; try exact rfl) rfl hR_.c (by simp [Value.oneCell']) HLL.out hbs5 ?_
    intro v7 w7 ho7 hg7 _
    obtain ⟨A2, c2, rfl⟩ := own_sl ho7
    have hfr : ∀ j, (Value.slice A1 L.length c1_).ownBlock = some j → base ≤ j := fun j hj => (World.ownsRow.lt HJ5.out.2.2 j hj).1
    have hX7 : ElOwn w7 base A2 c2 (L ++ [Ln.el x]) := ElOwn.snoc (by rw [HEL.out]; exact ho7)
    have hE : L ++ [Ln.el x] = L0 ++ (l.take (k + 1)).map Ln.el := by rw [HL.out]; exact el_snoc Ln.el HXX.out L0
    rw [hE] at hX7
    have hn7 : L.length + 1 = (L0 ++ (l.take (k + 1)).map Ln.el).length := by rw [← hE]; simp
    have HN7 := hQ0 hn7
    have HJ7 : Hid (Below w.heap.size w w7 ∧ BoxAt w7 w.heap.size TC ∧ ElOwn w7 base A2 c2 (L0 ++ (l.take (k + 1)).map Ln.el)) := hQ0 ⟨HJ5.out.1.trans (below_grown hg7 (fun j hj => by have := hfr j hj; omega) HJ5.out.1.size), boxAt_grown HJ5.out.2.1 hg7 (fun j hj e => by have := hfr j hj; omega), hX7⟩
    have hbs7 : base ≤ w7.heap.size := Nat.le_trans hbs5 hg7.size
    clear hX7 hfr hE ho7 hg7 hn7 hR_ hE_ hS_
    go_simp
    refine wpList_plain rfl fun K hK => ?_; go_simp; apply hK; clear hK K
    refine wpList_nil ?_
    (try go_simp)
    go_wp2_with fail
    go_roundg (l.length - (k + 1) + 1)
    case measure => omega
    case rel => exact ⟨k + 1, A2, c2, by omega, by omega, by rw [← HN7.out], by go_num, hbs7, HJ7⟩
  · obtain rfl : k = l.length := by omega
    go_wp2_with fail
    show R _ _
    have hj := HJ.out
    have hL2 : L = L0 ++ l.map Ln.el := by rw [HL.out, List.take_length]
    rw [hL2] at hj ⊢
    exact HR.out _ _ A1 c1_ rfl (congrArg some HE1.out.symm) rfl rfl hj.1 hbs hj.2.1 hj.2.2
end Go.Proofs.YtbpcjpiaimdpnaaGreatDoor
