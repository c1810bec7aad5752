/- Merged texts: Rck. -/
import Derived.Test.YtbpcjpiaimdpnaaGreatDoorCk13
import Derived.Test.YtbpcjpiaimdpnaaGreatDoorCk21
import Derived.Laws.AppendOwnNone
import Derived.BigQuiet
import Derived.Deep.QuietTactic
import Derived.Deep.Cut
import Derived.BigRegion
set_option linter.unusedSimpArgs false
set_option linter.unusedVariables false
namespace Go.Proofs.YtbpcjpiaimdpnaaGreatDoor
open Go Go.RowKit
set_option linter.unusedVariables false
attribute [local go_sem ↓] evalL getL64 setL64
attribute [local go_sem ↓] getL8 setL8
attribute [local go_sem ↓] getL1 getL0
theorem El.get {w : World} {A : Option Addr} {l : List El} (h : RowsAt 3 El.cells w A l) {k : Nat} {x : El} (hx : l[k]? = some x) : ∃ g o, A = some ⟨g, o, none⟩ ∧ g < w.heap.size ∧ w.cell? ⟨g, o + k * 3, none⟩ = some (.string x.nm) ∧ w.cell? ⟨g, o + k * 3 + 1, none⟩ = some (.bool x.rg) ∧ w.cell? ⟨g, o + k * 3 + 2, none⟩ = some (.bool x.fm) := by
 obtain ⟨g, o, hA, hg, hc⟩ := h k x hx
 simp only [← Nat.add_assoc] at hc
 exact ⟨g, o, hA, hg, hc 0 _ rfl, hc 1 _ rfl, hc 2 _ rfl⟩
theorem elF_drop {l : List El} {k : Nat} {x : El} (hx : l[k]? = some x) : elF ((l.take k).map El.nm) (l.drop k) = if nameB x.nm = false then 6 else if (l.take k).any (fun y => decide (y.nm = x.nm)) = true then 7 else if x.rg = false then 5 else if x.fm = false then 10 else elF ((l.take (k + 1)).map El.nm) (l.drop (k + 1)) := by
 obtain ⟨h1, rfl⟩ := List.getElem?_eq_some_iff.1 hx
 rw [List.drop_eq_getElem_cons h1, List.take_succ_eq_append_getElem h1, List.map_append]
 have e : hasN ((l.take k).map El.nm) l[k].nm = (l.take k).any (fun y => decide (y.nm = l[k].nm)) := by
  unfold hasN
  rw [List.any_map]
  rfl
 rw [← e]
 rfl
theorem elF_end {l : List El} {k : Nat} (h : l.length ≤ k) (s : List ByteArray) : elF s (l.drop k) = 0 := by
 rw [List.drop_eq_nil_of_le h]
 rfl
theorem ovr_of (t : Tb) (h : elF [] t.elems = 0) (hr : in1 64 32768 t.rad = true) : OvR t := by
 have hr2 := elF_zero _ _ h
 have hr := in1_iff hr
 refine ⟨fun x hx => ?_, fun x hx => ?_, fun x hx => ?_, by omega, by omega⟩
 · have hf : x.fB = true := hr2 (x.el t.rad) (by unfold Tb.elems Tb.elems2; simp only [List.mem_append, List.mem_map]; exact .inr (.inl (.inl (.inl (.inl (.inr ⟨x, hx, rfl⟩))))))
   simp only [Sc.fB, Bool.and_eq_true] at hf
   have h2 := in1_iff hf.1.1.1.2
   exact ⟨hf.1.1.1.1.2, by omega, by omega⟩
 · have hf : x.fB = true := hr2 x.el (by unfold Tb.elems Tb.elems2; simp only [List.mem_append, List.mem_map]; exact .inr (.inl (.inl (.inr ⟨x, hx, rfl⟩))))
   simp only [Ra.fB, Bool.and_eq_true] at hf
   have h2 := in1_iff hf.1.2
   exact ⟨hf.1.1.2, by omega, by omega⟩
 · have hf : x.fB = true := hr2 x.el (by unfold Tb.elems Tb.elems2; simp only [List.mem_append, List.mem_map]; exact .inr (.inr ⟨x, hx, rfl⟩))
   simp only [Ln.fB, Bool.and_eq_true] at hf
   exact hf.1.1.2
theorem check_elF (t : Tb) (hm : ¬ t.many = true) (hh : t.headB = true) : checkR t = if elF [] t.elems ≠ 0 then elF [] t.elems else if t.over = true then 11 else 0 := by
 have hf : t.fold.1 = elF [] t.elems := by rw [fold_elems]; exact elF_fold _ _
 unfold checkR
 rw [if_neg hm, if_neg (by rw [hh]; simp), hf]
 by_cases h0 : elF [] t.elems = 0
 · rw [if_neg (show ¬ elF [] t.elems ≠ 0 by simpa using h0)]
   by_cases ho : t.over = true
   · rw [if_pos ho, if_pos ⟨h0, ho⟩]
   · rw [if_neg ho, if_neg (fun h => ho h.2), h0]
 · rw [if_pos h0, if_neg (fun h => h0 h.1)]
theorem len_of {t : Tb} (h : ¬ t.many = true) : (t.ws.length ≤ 64 ∧ t.ars.length ≤ 32 ∧ t.ps.length ≤ 32 ∧ t.fs.length ≤ 4 ∧ t.zs.length ≤ 16 ∧ t.ss.length ≤ 8 ∧ t.las.length ≤ 24 ∧ t.rs.length ≤ 8 ∧ t.ds.length ≤ 4 ∧ t.lns.length ≤ 4) ∧ (t.tr.length : Int) ≤ t.bal ∧ t.bal ≤ 6 := by
 rw [Bool.not_eq_true] at h
 simp only [Tb.many, in1, Bool.or_eq_false_iff, decide_eq_false_iff_not, Bool.not_eq_eq_eq_not, Bool.not_false, Bool.and_eq_true, decide_eq_true_eq] at h
 omega
theorem elems_len {t : Tb} (h : TbLen t 1000) : t.elems.length ≤ 10000 := by
 have h1 := h.ws
 have h2 := h.ars
 have h3 := h.ps
 have h4 := h.fs
 have h5 := h.zs
 have h6 := h.ss
 have h7 := h.las
 have h8 := h.rs
 have h9 := h.ds
 have h10 := h.lns
 unfold Tb.elems Tb.elems1 Tb.elems2
 simp only [List.length_append, List.length_map]
 omega
theorem elems_nm {t : Tb} (h : TbSmall t) : ∀ x ∈ t.elems, x.nm.size ≤ maxLen := by
 intro x hx
 unfold Tb.elems Tb.elems1 Tb.elems2 at hx
 simp only [List.mem_append, List.mem_map] at hx
 rcases hx with ((((⟨y, hy, rfl⟩ | ⟨y, hy, rfl⟩) | ⟨y, hy, rfl⟩) | ⟨y, hy, rfl⟩) | (((((⟨y, hy, rfl⟩ | ⟨y, hy, rfl⟩) | ⟨y, hy, rfl⟩) | ⟨y, hy, rfl⟩) | ⟨y, hy, rfl⟩) | ⟨y, hy, rfl⟩))
 · exact h.ws y hy
 · exact h.ars y hy
 · exact h.ps y hy
 · exact h.fs y hy
 · exact h.zs y hy
 · exact h.ss y hy
 · exact h.las y hy
 · exact h.rs y hy
 · exact h.ds y hy
 · exact h.lns y hy
set_option maxRecDepth 100000 in
set_option maxHeartbeats 8000000 in
theorem rcheck_any (t : Tb) (a : TbA) (w : World) (hA : TbAt w t a) (hs : TbSmall t) :
  Calls Tryz.prog 12 #[t.v a] w fun e w' => e = .returned (.int .i64 (checkR t)) ∧ Below w.heap.size w w' := by
 have HA := hQ0 hA
 have HS := hQ0 hs
 clear hA hs
 obtain ⟨R, hR⟩ : ∃ R, R = checkR t := ⟨_, rfl⟩
 have HRr := hQ0 hR
 rw [← hR]
 clear hR
 go_enter Tryz.func12, Tryz.ntmps12; (try simp only [List.append_eq, List.cons_append, List.nil_append])
 go_upto_region 1 with (fail)
 (refine pin_eqT (fun w1_ hE_w1 => ?_))
 have HT1 : Hid (BoxAt w1_ w.heap.size (t.cells a)) := hQ0 (by rw [hE_w1]; exact BoxAt.new _ _ _)
 have HBB : Hid (Below w.heap.size w w1_) := hQ0 (by rw [hE_w1]; ((with_reducible (repeat (first | exact bR _ _ | apply bS | apply bA | apply bD | refine bT ?_ (by assumption) ?_ | refine bO (by assumption) ?_ ?_))) <;> (first | omega | (simp <;> omega))))
 clear hE_w1
 have y1 := HT1.out.c 1 (.int .i64 t.bal) rfl
 have y7 := HT1.out.c 7 (.slice a.tr t.tr.length a.trc) rfl
 have y8 := HT1.out.c 8 (.slice a.ws t.ws.length a.wsc) rfl
 have y9 := HT1.out.c 9 (.slice a.ars t.ars.length a.arsc) rfl
 have y10 := HT1.out.c 10 (.slice a.ps t.ps.length a.psc) rfl
 have y11 := HT1.out.c 11 (.slice a.fs t.fs.length a.fsc) rfl
 have y12 := HT1.out.c 12 (.slice a.zs t.zs.length a.zsc) rfl
 have y13 := HT1.out.c 13 (.slice a.ss t.ss.length a.ssc) rfl
 have y14 := HT1.out.c 14 (.slice a.las t.las.length a.lasc) rfl
 have y15 := HT1.out.c 15 (.slice a.rs t.rs.length a.rsc) rfl
 have y16 := HT1.out.c 16 (.slice a.ds t.ds.length a.dsc) rfl
 have y17 := HT1.out.c 17 (.slice a.lns t.lns.length a.lnsc) rfl
 have lt_ := HT1.out.lt
 obtain ⟨M, hM⟩ : ∃ M, M = t.many := ⟨_, rfl⟩
 have HM := hQ0 hM
 unfold Tb.many at hM
 revert hM
 cases h0 : decide (64 < (t.ws.length : Int))
 cases h1 : decide (32 < (t.ars.length : Int))
 cases h2 : decide (32 < (t.ps.length : Int))
 cases h3 : decide (4 < (t.fs.length : Int))
 cases h4 : decide (16 < (t.zs.length : Int))
 cases h5 : decide (8 < (t.ss.length : Int))
 cases h6 : decide (24 < (t.las.length : Int))
 cases h7 : decide (8 < (t.rs.length : Int))
 cases h8 : decide (4 < (t.ds.length : Int))
 cases h9 : decide (4 < (t.lns.length : Int))
 cases h10 : in1 0 6 t.bal
 rotate_left
 cases h11 : decide (t.bal < (t.tr.length : Int))
 rotate_left
 iterate 12 (focus (
  intro hM
  simp only [Bool.true_or, Bool.or_true, Bool.false_or, Bool.or_false, Bool.not_true, Bool.not_false] at hM
  subst hM
  obtain rfl : R = 9 := HRr.out.trans (if_pos HM.out.symm)
  go_wp2_with (go_at_call 34; refine (rin_any _ _ _ _).mono ?_; rintro e w9 ⟨rfl, hb9⟩; replace HBB := hQ0 (HBB.out.trans (hb9.mono HBB.out.size)); replace HT1 := hQ0 (HT1.out.below hb9 HT1.out.lt); clear hb9 lt_ y1 y7; have y1 := HT1.out.c 1 (.int .i64 t.bal) rfl; have y7 := HT1.out.c 7 (.slice a.tr t.tr.length a.trc) rfl; have lt_ := HT1.out.lt)
  go_ret
  exact ⟨rfl, HBB.out⟩))
 intro hM
 simp only [Bool.true_or, Bool.or_true, Bool.false_or, Bool.or_false, Bool.not_true, Bool.not_false] at hM
 subst hM
 have HN : Hid (¬ t.many = true) := hQ0 (by rw [← HM.out]; simp)
 clear HM
 go_upto_region 3 with (go_at_call 34; refine (rin_any _ _ _ _).mono ?_; rintro e w9 ⟨rfl, hb9⟩; replace HBB := hQ0 (HBB.out.trans (hb9.mono HBB.out.size)); replace HT1 := hQ0 (HT1.out.below hb9 HT1.out.lt); clear hb9 lt_ y1 y7; have y1 := HT1.out.c 1 (.int .i64 t.bal) rfl; have y7 := HT1.out.c 7 (.slice a.tr t.tr.length a.trc) rfl; have lt_ := HT1.out.lt)
 obtain ⟨w2, rfl⟩ : ∃ z, z = w9 := ⟨_, rfl⟩
 have HT2 := HT1
 have HB2_ := HBB
 clear HT1 HBB lt_ y1 y7 y8 y9 y10 y11 y12 y13 y14 y15 y16 y17 h0 h1 h2 h3 h4 h5 h6 h7 h8 h9 h10 h11
 obtain ⟨p0, hp0⟩ : ∃ b, b = in1 64 32768 t.rad := ⟨_, rfl⟩
 have HP0 := hQ0 hp0
 clear hp0
 obtain ⟨p1, hp1⟩ : ∃ b, b = in1 0 15 t.rst := ⟨_, rfl⟩
 have HP1 := hQ0 hp1
 clear hp1
 obtain ⟨p2, hp2⟩ : ∃ b, b = nearV 256 ⟨t.gx, t.gy⟩ := ⟨_, rfl⟩
 have HP2 := hQ0 hp2
 clear hp2
 obtain ⟨p3, hp3⟩ : ∃ b, b = in1 0 1000 t.drg := ⟨_, rfl⟩
 have HP3 := hQ0 hp3
 clear hp3
 obtain ⟨p4, hp4⟩ : ∃ b, b = in1 0 14 t.shf := ⟨_, rfl⟩
 have HP4 := hQ0 hp4
 clear hp4
 refine wp_region_lit ?_
 have hS_ : Below w2.heap.size w2 w2 := Below.refl _ _
 iterate 2 (apply wpL_maybe true (by exact rfl); (case h => intro _; have hcW_ := (bcellW hS_).1; have hY_ := (HT2.out).below hS_ (HT2.out.lt); have y0_ := hY_.c 0 (.int .i64 t.rad) (rfl); go_simp; try exact rfl); intro K hK; go_simp; apply hK; clear hK K)
 refine wpL_callm (S := Below w2.heap.size w2)  true (by exact rfl) (.bool p0) ?_ hS_ ?_
 · intro _; intro N_ hN_; generalize hA_ : Act.mk _ _ = A_ at hN_ ⊢; (have v81_ := evA hA_ 81; simp only [getL64, getL8, getL1, getL0, opt_true, Bool.not_false] at v81_); clear hA_; have vc_ := acC A_; have vf_ := acF A_; generalize Act.eval A_ = ev_ at vc_ vf_ v81_ ⊢; go_simp; go_at_call 34; refine (rin_any _ _ _ _).mono ?_; rintro e w9 ⟨rfl, hb9⟩; rw [← HP0.out]; exact hN_ _ (hS_.trans (hb9.mono hS_.size))
 intro K hK w_ hS2_; go_simp; apply hK; clear hK K hS_; have hS_ := hS2_; clear hS2_
 apply wpL_maybe true (by exact rfl)
 (case h => intro _; have hcW_ := (bcellW hS_).1; go_simp; try exact rfl)
 intro K hK; go_simp; apply hK; clear hK K
 apply wpL_maybe p0 (by clear hS_; cases p0 <;> rfl)
 (case h => intro hc_; obtain rfl : p0 = true := hc_; (try simp only [opt_true]); have hcW_ := (bcellW hS_).1; go_simp; try exact rfl)
 intro K hK; go_simp; apply hK; clear hK K
 apply wpL_maybe p0 (by clear hS_; cases p0 <;> rfl)
 (case h => intro hc_; obtain rfl : p0 = true := hc_; (try simp only [opt_true]); have hY_ := (HT2.out).below hS_ (HT2.out.lt); have y0_ := hY_.c 2 (.int .i64 t.rst) (rfl); go_simp; try exact rfl)
 intro K hK; go_simp; apply hK; clear hK K
 refine wpL_callm (S := Below w2.heap.size w2)  p0 (by clear hS_; cases p0 <;> rfl) (.bool p1) ?_ hS_ ?_
 · intro hc_; obtain rfl : p0 = true := hc_; intro N_ hN_; generalize hA_ : Act.mk _ _ = A_ at hN_ ⊢; (have v85_ := evA hA_ 85; simp only [getL64, getL8, getL1, getL0, opt_true, Bool.not_false] at v85_); clear hA_; have vc_ := acC A_; have vf_ := acF A_; generalize Act.eval A_ = ev_ at vc_ vf_ v85_ ⊢; go_simp; go_at_call 34; refine (rin_any _ _ _ _).mono ?_; rintro e w9 ⟨rfl, hb9⟩; rw [← HP1.out]; exact hN_ _ (hS_.trans (hb9.mono hS_.size))
 intro K hK w_ hS2_; go_simp; apply hK; clear hK K hS_; have hS_ := hS2_; clear hS2_
 obtain ⟨d3_1, hd3_1⟩ : ∃ b_, b_ = (p0 && p1) := ⟨_, rfl⟩
 apply wpL_maybe true (by exact rfl) (.bool d3_1) (by intro _; rw [hd3_1]; cases p0 <;> (go_simp; try exact rfl))
 have Hd3_1 := hQ0 hd3_1; clear hd3_1
 intro K hK; go_simp; apply hK; clear hK K
 apply wpL_maybe true (by exact rfl)
 (case h => intro _; have hcW_ := (bcellW hS_).1; go_simp; try exact rfl)
 intro K hK; go_simp; apply hK; clear hK K
 apply wpL_maybe d3_1 (by clear hS_; cases d3_1 <;> rfl)
 (case h => intro hc_; obtain rfl : d3_1 = true := hc_; (try simp only [opt_true]); have hcW_ := (bcellW hS_).1; go_simp; try exact rfl)
 intro K hK; go_simp; apply hK; clear hK K
 apply wpL_maybe d3_1 (by clear hS_; cases d3_1 <;> rfl)
 (case h => intro hc_; obtain rfl : d3_1 = true := hc_; (try simp only [opt_true]); have hY_ := (HT2.out).below hS_ (HT2.out.lt); have y0_ := hY_.c 3 (.int .i64 t.gx) (rfl); have y1_ := hY_.c 4 (.int .i64 t.gy) (rfl); go_simp; try exact rfl)
 intro K hK; go_simp; apply hK; clear hK K
 refine wpL_callm (S := Below w2.heap.size w2)  d3_1 (by clear hS_; cases d3_1 <;> rfl) (.bool p2) ?_ hS_ ?_
 · intro hc_; obtain rfl : d3_1 = true := hc_; intro N_ hN_; generalize hA_ : Act.mk _ _ = A_ at hN_ ⊢; (have v90_ := evA hA_ 90; simp only [getL64, getL8, getL1, getL0, opt_true, Bool.not_false] at v90_); clear hA_; have vc_ := acC A_; have vf_ := acF A_; generalize Act.eval A_ = ev_ at vc_ vf_ v90_ ⊢; go_simp; go_at_call 35; refine (rnear_any _ _ _ _ (by decide) (by decide)).mono ?_; rintro e w9 ⟨rfl, hb9⟩; rw [← HP2.out]; exact hN_ _ (hS_.trans (hb9.mono hS_.size))
 intro K hK w_ hS2_; go_simp; apply hK; clear hK K hS_; have hS_ := hS2_; clear hS2_
 obtain ⟨d3_2, hd3_2⟩ : ∃ b_, b_ = (d3_1 && p2) := ⟨_, rfl⟩
 apply wpL_maybe true (by exact rfl) (.bool d3_2) (by intro _; rw [hd3_2]; cases d3_1 <;> (go_simp; try exact rfl))
 have Hd3_2 := hQ0 hd3_2; clear hd3_2
 intro K hK; go_simp; apply hK; clear hK K
 apply wpL_maybe true (by exact rfl)
 (case h => intro _; have hcW_ := (bcellW hS_).1; go_simp; try exact rfl)
 intro K hK; go_simp; apply hK; clear hK K
 apply wpL_maybe d3_2 (by clear hS_; cases d3_2 <;> rfl)
 (case h => intro hc_; obtain rfl : d3_2 = true := hc_; (try simp only [opt_true]); have hcW_ := (bcellW hS_).1; go_simp; try exact rfl)
 intro K hK; go_simp; apply hK; clear hK K
 apply wpL_maybe d3_2 (by clear hS_; cases d3_2 <;> rfl)
 (case h => intro hc_; obtain rfl : d3_2 = true := hc_; (try simp only [opt_true]); have hY_ := (HT2.out).below hS_ (HT2.out.lt); have y0_ := hY_.c 5 (.int .i64 t.drg) (rfl); go_simp; try exact rfl)
 intro K hK; go_simp; apply hK; clear hK K
 refine wpL_callm (S := Below w2.heap.size w2)  d3_2 (by clear hS_; cases d3_2 <;> rfl) (.bool p3) ?_ hS_ ?_
 · intro hc_; obtain rfl : d3_2 = true := hc_; intro N_ hN_; generalize hA_ : Act.mk _ _ = A_ at hN_ ⊢; (have v95_ := evA hA_ 95; simp only [getL64, getL8, getL1, getL0, opt_true, Bool.not_false] at v95_); clear hA_; have vc_ := acC A_; have vf_ := acF A_; generalize Act.eval A_ = ev_ at vc_ vf_ v95_ ⊢; go_simp; go_at_call 34; refine (rin_any _ _ _ _).mono ?_; rintro e w9 ⟨rfl, hb9⟩; rw [← HP3.out]; exact hN_ _ (hS_.trans (hb9.mono hS_.size))
 intro K hK w_ hS2_; go_simp; apply hK; clear hK K hS_; have hS_ := hS2_; clear hS2_
 obtain ⟨d3_3, hd3_3⟩ : ∃ b_, b_ = (d3_2 && p3) := ⟨_, rfl⟩
 apply wpL_maybe true (by exact rfl) (.bool d3_3) (by intro _; rw [hd3_3]; cases d3_2 <;> (go_simp; try exact rfl))
 have Hd3_3 := hQ0 hd3_3; clear hd3_3
 intro K hK; go_simp; apply hK; clear hK K
 apply wpL_maybe true (by exact rfl)
 (case h => intro _; have hcW_ := (bcellW hS_).1; go_simp; try exact rfl)
 intro K hK; go_simp; apply hK; clear hK K
 apply wpL_maybe d3_3 (by clear hS_; cases d3_3 <;> rfl)
 (case h => intro hc_; obtain rfl : d3_3 = true := hc_; (try simp only [opt_true]); have hcW_ := (bcellW hS_).1; go_simp; try exact rfl)
 intro K hK; go_simp; apply hK; clear hK K
 apply wpL_maybe d3_3 (by clear hS_; cases d3_3 <;> rfl)
 (case h => intro hc_; obtain rfl : d3_3 = true := hc_; (try simp only [opt_true]); have hY_ := (HT2.out).below hS_ (HT2.out.lt); have y0_ := hY_.c 6 (.int .i64 t.shf) (rfl); go_simp; try exact rfl)
 intro K hK; go_simp; apply hK; clear hK K
 refine wpL_callm (S := Below w2.heap.size w2)  d3_3 (by clear hS_; cases d3_3 <;> rfl) (.bool p4) ?_ hS_ ?_
 · intro hc_; obtain rfl : d3_3 = true := hc_; intro N_ hN_; generalize hA_ : Act.mk _ _ = A_ at hN_ ⊢; (have v100_ := evA hA_ 100; simp only [getL64, getL8, getL1, getL0, opt_true, Bool.not_false] at v100_); clear hA_; have vc_ := acC A_; have vf_ := acF A_; generalize Act.eval A_ = ev_ at vc_ vf_ v100_ ⊢; go_simp; go_at_call 34; refine (rin_any _ _ _ _).mono ?_; rintro e w9 ⟨rfl, hb9⟩; rw [← HP4.out]; exact hN_ _ (hS_.trans (hb9.mono hS_.size))
 intro K hK w_ hS2_; go_simp; apply hK; clear hK K hS_; have hS_ := hS2_; clear hS2_
 obtain ⟨d3_4, hd3_4⟩ : ∃ b_, b_ = (d3_3 && p4) := ⟨_, rfl⟩
 apply wpL_maybe true (by exact rfl) (.bool d3_4) (by intro _; rw [hd3_4]; cases d3_3 <;> (go_simp; try exact rfl))
 have Hd3_4 := hQ0 hd3_4; clear hd3_4
 intro K hK; go_simp; apply hK; clear hK K
 apply wpL_maybe true (by exact rfl)
 (case h => intro _; have hcW_ := (bcellW hS_).1; go_simp; try exact rfl)
 intro K hK; go_simp; apply hK; clear hK K
 refine wpList_nil ?_
 (try go_simp)
 have HQ : Hid ((d3_4 && inL (-1) 63 (t.tr.drop 0)) = t.headB) := hQ0 (by
  rw [Hd3_4.out, Hd3_3.out, Hd3_2.out, Hd3_1.out, HP0.out, HP1.out, HP2.out, HP3.out, HP4.out]
  rfl)
 have HT3 := hQ0 (HT2.out.below hS_ HT2.out.lt)
 have HB3_ := hQ0 (HB2_.out.trans (hS_.mono HB2_.out.size))
 obtain ⟨w3, rfl⟩ : ∃ z, z = w_ := ⟨_, rfl⟩
 clear hS_ HT2 HB2_ HP0 HP1 HP2 HP3 HP4 Hd3_1 Hd3_2 Hd3_3 Hd3_4
 as_aux_lemma =>
  have HLn := hQ0 (len_of HN.out)
  have hltr : t.tr.length ≤ 6 := by have := HLn.out.2; omega
  go_upto_region 4 with (fail)
  go_wp2_with fail
  go_loopg [3, 4] (t.tr.length + 1) (fun gk t3 t4 wr => ∃ (k : Nat) (q : Bool), k ≤ t.tr.length ∧ t.tr.length - k < gk ∧ t3 = .bool q ∧ t4 = .int .i64 k ∧ Below w.heap.size w wr ∧ BoxAt wr w.heap.size (t.cells a) ∧ Hid ((q && inL (-1) 63 (t.tr.drop k)) = t.headB))
  case atStart => exact ⟨0, _, by omega, by omega, rfl, rfl, HB3_.out, HT3.out, HQ⟩
  case round =>
   obtain ⟨wq, rfl⟩ : ∃ z, z = wr := ⟨_, rfl⟩
   clear HB3_ HT3 HQ
   obtain ⟨k, q, hk, hkk, rfl, rfl, hBq, hTq, HQ⟩ := hrel
   have HBq := hQ0 hBq
   have HTq := hQ0 hTq
   have tq := hTq.c 7 (.slice a.tr t.tr.length a.trc) rfl
   have hltT := hTq.lt
   clear hBq hTq
   by_cases hlt : k < t.tr.length
   · as_aux_lemma =>
      obtain ⟨x, hx⟩ : ∃ x, t.tr[k]? = some x := ⟨t.tr[k], by simp⟩
      obtain ⟨g, o, hAe, hg, hc⟩ := (HA.out.tr.below HBq.out (Nat.le_refl _)) k x hx
      have hc0 := hc 0 _ rfl
      simp only [Nat.mul_one, Nat.add_zero] at hc0
      clear hc
      have HX := hQ0 hx
      clear hx
      have i1 : (k : Int) < (t.tr.length : Int) := by omega
      rw [hAe] at tq
      have HAE := hQ0 hAe
      clear hAe
      obtain ⟨p0, hp0⟩ : ∃ b, b = in1 (-1) 63 x := ⟨_, rfl⟩
      have HP0 := hQ0 hp0
      clear hp0
      go_upto_region 7 with (fail)
      refine wp_region_lit ?_
      have hS_ : Below wq.heap.size wq wq := Below.refl _ _
      iterate 2 (apply wpL_maybe true (by exact rfl); (case h => intro _; have hcW_ := (bcellW hS_).1; go_simp; try exact rfl); intro K hK; go_simp; apply hK; clear hK K)
      apply wpL_maybe q (by clear hS_; cases q <;> rfl)
      (case h => intro hc_; obtain rfl : q = true := hc_; (try simp only [opt_true]); have hcW_ := (bcellW hS_).1; go_simp; try exact rfl)
      intro K hK; go_simp; apply hK; clear hK K
      apply wpL_maybe q (by clear hS_; cases q <;> rfl)
      (case h => intro hc_; obtain rfl : q = true := hc_; (try simp only [opt_true]); have hcW_ := (bcellW hS_).1; go_simp; try exact rfl)
      intro K hK; go_simp; apply hK; clear hK K
      apply wpL_maybe q (by clear hS_; cases q <;> rfl)
      (case h => intro hc_; obtain rfl : q = true := hc_; (try simp only [opt_true]); have hcW_ := (bcellW hS_).1; go_simp; try exact rfl)
      intro K hK; go_simp; apply hK; clear hK K
      apply wpL_maybe q (by clear hS_; cases q <;> rfl)
      (case h => intro hc_; obtain rfl : q = true := hc_; (try simp only [opt_true]); have hcW_ := (bcellW hS_).1; go_simp; try exact rfl)
      intro K hK; go_simp; apply hK; clear hK K
      apply wpL_maybe q (by clear hS_; cases q <;> rfl)
      (case h => intro hc_; obtain rfl : q = true := hc_; (try simp only [opt_true]); have hcW_ := (bcellW hS_).1; go_simp; try exact rfl)
      intro K hK; go_simp; apply hK; clear hK K
      refine wpL_callm (S := Below wq.heap.size wq)  q (by clear hS_; cases q <;> rfl) (.bool p0) ?_ hS_ ?_
      · intro hc_; obtain rfl : q = true := hc_; intro N_ hN_; generalize hA_ : Act.mk _ _ = A_ at hN_ ⊢; (have v116_ := evA hA_ 116; simp only [getL64, getL8, getL1, getL0, opt_true, Bool.not_false] at v116_); clear hA_; have vc_ := acC A_; have vf_ := acF A_; generalize Act.eval A_ = ev_ at vc_ vf_ v116_ ⊢; go_simp; go_at_call 34; refine (rin_any _ _ _ _).mono ?_; rintro e w9 ⟨rfl, hb9⟩; rw [← HP0.out]; exact hN_ _ (hS_.trans (hb9.mono hS_.size))
      intro K hK w_ hS2_; go_simp; apply hK; clear hK K hS_; have hS_ := hS2_; clear hS2_
      obtain ⟨d7_1, hd7_1⟩ : ∃ b_, b_ = (q && p0) := ⟨_, rfl⟩
      apply wpL_maybe true (by exact rfl) (.bool d7_1) (by intro _; rw [hd7_1]; cases q <;> (go_simp; try exact rfl))
      have Hd7_1 := hQ0 hd7_1; clear hd7_1
      intro K hK; go_simp; apply hK; clear hK K
      apply wpL_maybe true (by exact rfl)
      (case h => intro _; have hcW_ := (bcellW hS_).1; go_simp; try exact rfl)
      intro K hK; go_simp; apply hK; clear hK K
      refine wpList_nil ?_
      (try go_simp)
      have HQ2 : Hid ((d7_1 && inL (-1) 63 (t.tr.drop (k + 1))) = t.headB) := hQ0 (by
       rw [← HQ.out, inL_drop HX.out, Hd7_1.out, HP0.out, Bool.and_assoc])
      have hB5 : Below w.heap.size w w_ := HBq.out.trans (hS_.mono HBq.out.size)
      have hT5 := HTq.out.below hS_ HTq.out.lt
      clear hS_ HTq HBq HQ tq hltT hc0
      go_wp2_with fail
      go_roundg (t.tr.length - (k + 1) + 1)
      case measure => omega
      case rel => exact ⟨k + 1, _, by omega, by omega, rfl, by go_num, hB5, hT5, HQ2⟩
   · as_aux_lemma =>
      obtain rfl : k = t.tr.length := by omega
      have HH : Hid (t.headB = q) := hQ0 (by rw [← HQ.out, List.drop_length]; simp [inL])
      clear HQ
      cases q
      case false =>
       obtain rfl : R = 5 := HRr.out.trans ((if_neg HN.out).trans (if_pos HH.out))
       go_wp2_with fail
       clear tq hltT
       go_ret
       exact ⟨rfl, HBq.out⟩
      case true =>
       have HE : Hid (R = if elF [] t.elems ≠ 0 then elF [] t.elems else if t.over = true then 11 else 0) := hQ0 (HRr.out.trans (check_elF t HN.out HH.out))
       have hr : in1 64 32768 t.rad = true := by
        have := HH.out
        simp only [Tb.headB, Bool.and_eq_true] at this
        exact this.1.1.1.1.1
       have HRad := hQ0 hr
       have hr2 := in1_iff hr
       have hlen : TbLen t 1000 := by
        have := HLn.out.1
        exact ⟨by omega, by omega, by omega, by omega, by omega, by omega, by omega, by omega, by omega, by omega⟩
       have HEL := hQ0 (elems_len hlen)
       have hEl0 := elems_len hlen
       have HES := hQ0 (elems_nm HS.out)
       have KE := fun W (hb : Below w.heap.size w W) => relements_any t a W (HA.out.below hb (Nat.le_refl _)) hlen ⟨by omega, by omega⟩
       have HKE := hQ0 KE
       have HTT := HTq
       have HBT := HBq
       clear KE hr hr2 hlen HRr
       go_upto_region 10 with (fail)
       clear tq hltT
       refine wp_region_lit ?_
       apply wpL_maybe true (by exact rfl) (t.v a)
       (case h => intro _; exact load_tb _ _ 1 rfl w.heap.size (by first | rfl | (go_simp; done)) t a _ HTT.out)
       intro K hK; go_simp; apply hK; clear hK K
       refine wpList_plain rfl fun K hK => ?_
       go_simp
       go_at_call 36
       refine (HKE.out _ HBT.out).mono ?_
       rintro e v1 ⟨A5, c5, rfl, hb5, ho5⟩
       refine hK _ _ ?_
       clear hK K
       have HT6 := hQ0 (HTT.out.below hb5 HTT.out.lt)
       have HB6 := hQ0 (HBT.out.trans (hb5.mono HBT.out.size))
       obtain ⟨E, hEE⟩ : ∃ z, z = t.elems := ⟨_, rfl⟩
       rw [← hEE] at HE HEL HES hEl0 ho5 ⊢
       have HEE := hQ0 hEE
       have HO5 : Hid (RowsAt 3 El.cells v1 A5 E) := hQ0 (rows_own (n := 3) (f := El.cells) (by decide) (fun _ => rfl) ho5)
       clear hb5 ho5 hEE HTT HBT HTq HBq HKE HLn
       go_simp
       refine wpList_plain rfl fun K hK => ?_; go_simp; apply hK; clear hK K
       refine wpList_nil ?_
       (try go_simp)
       have HF0 : Hid (elF ((E.take 0).map El.nm) (E.drop 0) = elF [] E) := hQ0 rfl
       as_aux_lemma =>
        go_wp2_with fail
        go_loopg [6] (E.length + 1) (fun gk t6 wr => ∃ k : Nat, k ≤ E.length ∧ E.length - k < gk ∧ t6 = .int .i64 k ∧ Below w.heap.size w wr ∧ BoxAt wr w.heap.size (t.cells a) ∧ Below v1.heap.size v1 wr ∧ Hid (elF ((E.take k).map El.nm) (E.drop k) = elF [] E))
        case atStart => exact ⟨0, by omega, by omega, rfl, HB6.out, HT6.out, Below.refl _ _, HF0⟩
        case round =>
         obtain ⟨wq, rfl⟩ : ∃ z, z = wr := ⟨_, rfl⟩
         clear HB6 HT6 HF0
         obtain ⟨k, hk, hkk, rfl, hBq, hTq, hVq, HF⟩ := hrel
         have HBq := hQ0 hBq
         have HTq := hQ0 hTq
         have HVq := hQ0 hVq
         clear hBq hTq hVq
         by_cases hlt : k < E.length
         · as_aux_lemma =>
            obtain ⟨x, hx⟩ : ∃ x, E[k]? = some x := ⟨E[k], by simp⟩
            obtain ⟨g, o, rfl, hg, c0, c1, c2⟩ := El.get (HO5.out.below HVq.out (Nat.le_refl _)) hx
            have HNM := hQ0 (HES.out x (List.mem_of_getElem? hx))
            have HX := hQ0 hx
            clear hx
            have i1 : (k : Int) < (E.length : Int) := by omega
            have HS1 : Hid (elF [] E = if nameB x.nm = false then 6 else if (E.take k).any (fun y => decide (y.nm = x.nm)) = true then 7 else if x.rg = false then 5 else if x.fm = false then 10 else elF ((E.take (k + 1)).map El.nm) (E.drop (k + 1))) := hQ0 (by rw [← HF.out, elF_drop HX.out])
            clear HF
            have KN := fun W => rname_any x.nm W HNM.out
            cases hnb : nameB x.nm
            case false =>
             simp only [hnb] at KN
             have hz0 : elF [] E = 6 := by rw [HS1.out, if_pos hnb]
             obtain rfl : R = 6 := by rw [HE.out, hz0]; rfl
             go_wp2_with (go_at_call 37; refine (KN _).mono ?_; rintro e w4 ⟨rfl, hb4⟩)
             go_ret
             exact ⟨rfl, HBq.out.trans (hb4.mono HBq.out.size)⟩
            case true =>
             simp only [hnb] at KN
             have HNB := hQ0 hnb
             clear hnb
             obtain ⟨D, hD⟩ : ∃ b, b = (E.take k).any (fun y => decide (y.nm = x.nm)) := ⟨_, rfl⟩
             have HD0 : Hid (((E.take k).drop 0).any (fun y => decide (y.nm = x.nm)) = D) := hQ0 (by rw [hD]; rfl)
             have HS2 : Hid (elF [] E = if D = true then 7 else if x.rg = false then 5 else if x.fm = false then 10 else elF ((E.take (k + 1)).map El.nm) (E.drop (k + 1))) := hQ0 (by rw [HS1.out, if_neg (by rw [HNB.out]; simp), ← hD])
             clear hD HS1
             go_upto_region 16 with (go_at_call 37; refine (KN _).mono ?_; rintro e w4 ⟨rfl, hb4⟩)
             have HB7 := hQ0 (HBq.out.trans (hb4.mono HBq.out.size))
             have HT7 := hQ0 (HTq.out.below hb4 HTq.out.lt)
             have HV7 := hQ0 (HVq.out.trans (hb4.mono HVq.out.size))
             clear hb4 HBq HTq HVq c0 c1 c2 KN
             as_aux_lemma =>
              go_wp2_with fail
              go_loopg [7] (k + 1) (fun gj t7 wr => ∃ j : Nat, j ≤ k ∧ k - j < gj ∧ t7 = .int .i64 j ∧ Below w.heap.size w wr ∧ BoxAt wr w.heap.size (t.cells a) ∧ Below v1.heap.size v1 wr ∧ Hid (((E.take k).drop j).any (fun y => decide (y.nm = x.nm)) = D))
              case atStart => exact ⟨0, by omega, by omega, rfl, HB7.out, HT7.out, HV7.out, HD0⟩
              case round =>
               obtain ⟨wj, rfl⟩ : ∃ z, z = wr := ⟨_, rfl⟩
               clear HB7 HT7 HV7 HD0
               obtain ⟨j, hj, hjj, rfl, hBj, hTj, hVj, HDj⟩ := hrel
               have HBj := hQ0 hBj
               have HTj := hQ0 hTj
               have HVj := hQ0 hVj
               clear hBj hTj hVj
               obtain ⟨g', o', hAe, hg', c0, c1, c2⟩ := El.get (HO5.out.below HVj.out (Nat.le_refl _)) HX.out
               simp only [Option.some.injEq, Addr.mk.injEq, and_true] at hAe
               obtain ⟨rfl, rfl⟩ := hAe
               by_cases hjk : j < k
               · as_aux_lemma =>
                  obtain ⟨y, hy⟩ : ∃ y, E[j]? = some y := ⟨E[j]'(by omega), by simp⟩
                  obtain ⟨g', o', hAe, hg', d0, d1, d2⟩ := El.get (HO5.out.below HVj.out (Nat.le_refl _)) hy
                  simp only [Option.some.injEq, Addr.mk.injEq, and_true] at hAe
                  obtain ⟨rfl, rfl⟩ := hAe
                  have i3 : (j : Int) < (k : Int) := by omega
                  have i4 : (j : Int) < (E.length : Int) := by omega
                  have HDn := hQ0 (any_step (f := fun y => decide (y.nm = x.nm)) hjk hy)
                  clear hy d1 d2 c1 c2
                  go_upto_region 19 with (fail)
                  go_region
                  all_goals (
                   have hbq : (y.nm.toList == x.nm.toList) = decide (y.nm = x.nm) := by
                    by_cases h : y.nm = x.nm
                    · rw [h]; simp
                    · rw [txt_neT h]; simp [h]
                   by_cases hyx : y.nm = x.nm
                   · rw [decide_eq_true hyx] at hbq
                     rw [hbq]
                     have hD1 : D = true := by rw [← HDj.out, HDn.out, decide_eq_true hyx]; rfl
                     have hz0 : elF [] E = 7 := by rw [HS2.out, if_pos hD1]
                     obtain rfl : R = 7 := by rw [HE.out, hz0]; rfl
                     go_wp2_with fail
                     go_ret
                     exact ⟨rfl, HBj.out.drew⟩
                   · rw [decide_eq_false hyx] at hbq
                     rw [hbq]
                     have HD2 : Hid (((E.take k).drop (j + 1)).any (fun y => decide (y.nm = x.nm)) = D) := hQ0 (by rw [← HDj.out, HDn.out, decide_eq_false hyx]; rfl)
                     go_wp2_with fail
                     go_roundg (k - (j + 1) + 1)
                     case measure => omega
                     case rel => exact ⟨j + 1, by omega, by omega, by go_num, HBj.out.drew, HTj.out.drew, HVj.out.drew, HD2⟩)
               · as_aux_lemma =>
                  obtain rfl : j = k := by omega
                  obtain rfl : D = false := by rw [← HDj.out]; exact any_end (Nat.le_refl _)
                  have HS3 : Hid (elF [] E = if x.rg = false then 5 else if x.fm = false then 10 else elF ((E.take (j + 1)).map El.nm) (E.drop (j + 1))) := hQ0 HS2.out
                  cases hrg : x.rg
                  case false =>
                   have hz0 : elF [] E = 5 := by rw [HS3.out, if_pos hrg]
                   obtain rfl : R = 5 := by rw [HE.out, hz0]; rfl
                   rw [hrg] at c1
                   go_wp2_with fail
                   go_ret
                   exact ⟨rfl, HBj.out⟩
                  case true =>
                   cases hfm : x.fm
                   case false =>
                    have hz0 : elF [] E = 10 := by rw [HS3.out, if_neg (by rw [hrg]; simp), if_pos hfm]
                    obtain rfl : R = 10 := by rw [HE.out, hz0]; rfl
                    rw [hrg] at c1
                    rw [hfm] at c2
                    go_wp2_with fail
                    go_ret
                    exact ⟨rfl, HBj.out⟩
                   case true =>
                    have HF2 : Hid (elF ((E.take (j + 1)).map El.nm) (E.drop (j + 1)) = elF [] E) := hQ0 (by rw [HS3.out, if_neg (by rw [hrg]; simp), if_neg (by rw [hfm]; simp)])
                    rw [hrg] at c1
                    rw [hfm] at c2
                    go_wp2_with fail
                    go_roundg (E.length - (j + 1) + 1)
                    case measure => omega
                    case rel => exact ⟨j + 1, by omega, by omega, by go_num, HBj.out, HTj.out, HVj.out, HF2⟩
         · as_aux_lemma =>
            obtain rfl : k = E.length := by omega
            have hF0 : elF [] E = 0 := by rw [← HF.out]; exact elF_end (Nat.le_refl _) _
            have HE2 : Hid (R = if t.over = true then 11 else 0) := hQ0 (by rw [HE.out, hF0]; rfl)
            have hov : OvR t := ovr_of t (by rw [← HEE.out]; exact hF0) HRad.out
            have KO := fun W (hb : Below w.heap.size w W) => roverlap_any t a W (HA.out.below hb (Nat.le_refl _)) hov (by have := (len_of HN.out).1; omega)
            have HKO := hQ0 KO
            clear KO hov HF HE
            go_upto_region 25 with (fail)
            refine wp_region_lit ?_
            apply wpL_maybe true (by exact rfl) (t.v a)
            (case h => intro _; exact load_tb _ _ 1 rfl w.heap.size (by first | rfl | (go_simp; done)) t a _ HTq.out)
            intro K hK; go_simp; apply hK; clear hK K
            refine wpList_plain rfl fun K hK => ?_
            go_simp
            go_at_call 38
            refine (HKO.out _ HBq.out).mono ?_
            rintro e v5 ⟨rfl, hb5⟩
            refine hK _ _ ?_
            clear hK K
            have HB5 := hQ0 (HBq.out.trans (hb5.mono HBq.out.size))
            clear hb5
            cases hto : t.over
            case true =>
             obtain rfl : R = 11 := by rw [HE2.out, if_pos hto]
             go_simp
             refine wpList_nil ?_
             (try go_simp)
             go_wp2_with fail
             go_ret
             exact ⟨rfl, HB5.out⟩
            case false =>
             obtain rfl : R = 0 := by rw [HE2.out, if_neg (by rw [hto]; simp)]
             go_simp
             refine wpList_nil ?_
             (try go_simp)
             go_wp2_with fail
             go_ret
             exact ⟨rfl, HB5.out⟩
end Go.Proofs.YtbpcjpiaimdpnaaGreatDoor
