/- Merged texts: LcQw LtT1w LtTw. -/
import Derived.Test.YtbpcjpiaimdpnaaGreatDoorCk10
import Derived.Test.YtbpcjpiaimdpnaaGreatDoorCk13
import Derived.Deep.Cut
set_option linter.unusedSimpArgs false
set_option linter.unusedVariables false
namespace Go.Proofs.YtbpcjpiaimdpnaaGreatDoor
open Go Go.RowKit
set_option linter.unusedVariables false
attribute [local go_sem ↓] evalL getL64 setL64
attribute [local go_sem ↓] getL8 setL8
attribute [local go_sem ↓] getL1 getL0
theorem TbO.low_cells {W : World} {base tb q o : Nat} {vs : List Value} {t : Tb} {a : TbA} (h : TbO W base tb t a) (hq : q < base) (hn : tb ≠ q) : TbO (W.setCells q o vs) base tb t a := by
 have r : ∀ {e : TypeId} {size n : Nat} {v : Value} {xs : List Value}, W.ownsRow base e size v n xs → (W.setCells q o vs).ownsRow base e size v n xs := fun hr => ownsRow_block hr fun b hb => heap_setCells (by have := (World.ownsRow.lt hr b hb).1; omega) _ _ _
 exact ⟨h.bx.low_cells hn, r h.tr, r h.ws, r h.ars, r h.ps, r h.fs, r h.zs, r h.ss, r h.las, r h.rs, r h.ds, r h.lns⟩
theorem addAll_cons (x : IV) (l : List IV) (t : Tb) (had : Bool) : addAll (x :: l) t had = if x.word = t_table ∧ had = true then .inl (7, (x.at_ : Int)) else if missAll x = true then .inl (8, (x.at_ : Int)) else addAll l (putR t x) (had || decide (x.word = t_table)) := rfl
def afterR (s : ByteArray) (R : Sum (Int × Int) (Tb × Bool)) : Tb × Int × Int := match R with
  | .inl (e, at_) => (tb0, e, at_)
  | .inr (t, had) => if had = false then (tb0, 8, (s.size : Int)) else if checkR t ≠ 0 then (tb0, checkR t, 0) else (t, 0, 0)
set_option maxRecDepth 100000 in
set_option maxHeartbeats 8000000 in
theorem compile_any (s : ByteArray) (w : World) (hm : s.size ≤ maxLen) (ht : Tabs w) (hw0 : ∀ x ∈ (parseR s).1, x.word = t_table ∨ x.word = t_wall) : Calls Tryz.prog 13 #[.string s] w (CompOut (compileR s) w) := by
 have HT := hQ0 ht
 have h3 := ht.three
 have hit := parse_it s hw0
 clear hw0
 have KP := fun W (h : Tabs W) => parse_any s W hm h
 have hC : compileR s = if (parseR s).2.1 ≠ 0 then (tb0, (parseR s).2.1, ((parseR s).2.2 : Int)) else afterR s (addAll (parseR s).1 tb0 false) := rfl
 obtain ⟨R, hR⟩ : ∃ R, R = compileR s := ⟨_, rfl⟩
 rw [← hR] at hC ⊢
 obtain ⟨⟨L, er, pl⟩, hP⟩ : ∃ R, R = parseR s := ⟨_, rfl⟩
 rw [← hP] at hit KP hC
 simp only at hit hC
 obtain ⟨hl4, hok⟩ := hit
 have HOK := hQ0 hok
 have HL4 := hQ0 hl4
 clear ht hR hP hok hl4
 by_cases her : er = 0
 · subst her
   rw [if_neg (by simp)] at hC
   have HC : Hid (R = afterR s (addAll (L.drop 0) tb0 false)) := hQ0 hC
   clear hC
   go_enter Tryz.func13, Tryz.ntmps13; (try simp only [List.append_eq, List.cons_append, List.nil_append])
   go_upto_region 4 with (go_at_call 39; refine (KP _ (HT.out.alloc _)).mono ?_; rintro e w2 ⟨hb2, A, c, rfl, hx2⟩)
   have hz2 := hb2.size
   simp at hz2
   have HX2 := hQ0 hx2.at
   have HB2 : Hid (Below w.heap.size w w2) := hQ0 (((Below.refl w.heap.size w).alloc (Nat.le_refl _) (.cells #[.int .i64 0, .int .i64 0, .int .i64 0, .int .i64 0, .int .i64 0, .int .i64 0, .int .i64 0, .slice none 0 0, .slice none 0 0, .slice none 0 0, .slice none 0 0, .slice none 0 0, .slice none 0 0, .slice none 0 0, .slice none 0 0, .slice none 0 0, .slice none 0 0, .slice none 0 0] 36)).trans (hb2.mono (by simp)))
   have HR2 : Hid (BoxAt w2 w.heap.size (tb0.cells a0)) := hQ0 ((BoxAt.new w (tb0.cells a0) 36).below hb2 (by simp))
   clear hb2 hx2
   go_upto_region 6 with (fail)
   (refine pin_eqT (fun w3 hE_w3 => ?_))
   obtain ⟨tb, htb⟩ : ∃ z, z = w2.heap.size := ⟨_, rfl⟩
   have HO3 : Hid (TbO w3 (tb + 1) tb tb0 a0) := hQ0 (by rw [hE_w3]; exact tbo_new w2 tb htb)
   have HB3 : Hid (Below tb w2 w3) := hQ0 (by rw [hE_w3, htb]; exact (Below.refl _ _).alloc (Nat.le_refl _) _)
   rw [← htb]
   have HTB := hQ0 htb
   have htw : w.heap.size < tb := by omega
   clear hE_w3 htb
   have hLl := HL4.out
   go_wp2_with fail
   go_loopg [9, 26] (L.length + 1) (fun gk t9 t26 wr => ∃ (k : Nat) (t : Tb) (a : TbA) (had : Bool), k ≤ L.length ∧ L.length - k < gk ∧ t26 = .int .i64 k ∧ t9 = .int .i64 (if had = true then 1 else 0) ∧ Hid (Below tb w2 wr) ∧ Hid (TbO wr (tb + 1) tb t a) ∧ Hid (t.le k ∧ t.nms) ∧ Hid (R = afterR s (addAll (L.drop k) t had)))
   case atStart => exact ⟨0, tb0, a0, false, by omega, by omega, rfl, rfl, HB3, HO3, hQ0 ⟨tb0_le 0, tb0_nms⟩, HC⟩
   case round =>
    obtain ⟨wq, rfl⟩ : ∃ z, z = wr := ⟨_, rfl⟩
    clear HB3 HO3 HC
    obtain ⟨k, t, a, had, hk, hkk, rfl, rfl, HBq, HOq, HLe, HJ⟩ := hrel
    have hzq := HBq.out.size
    have htq := HOq.out.bx.lt
    have HRq : Hid (BoxAt wq w.heap.size (tb0.cells a0)) := hQ0 (HR2.out.below HBq.out htw)
    have HBw : Hid (Below w.heap.size w wq) := hQ0 (HB2.out.trans (HBq.out.mono (by omega)))
    by_cases hlt : k < L.length
    · obtain ⟨x, hx⟩ : ∃ x, L[k]? = some x := ⟨L[k], by simp⟩
      have hXq := HX2.out.below (HBq.out.mono (by have := HTB.out; omega)) (Nat.le_refl _)
      obtain ⟨g, o, B, d, rfl, hg, ⟨c0, c1, c2, c3⟩, hKs⟩ := hXq k x hx
      obtain ⟨g', o', B', d', hAe, hg', ⟨c0', c1', c2', c3'⟩, hKs2⟩ := HX2.out k x hx
      simp only [Option.some.injEq, Addr.mk.injEq, and_true] at hAe
      obtain ⟨rfl, rfl⟩ := hAe
      have hq2 := (HBq.out.cell (p := ⟨g, o + k * 4 + 2, none⟩) (by have := HTB.out; show g < tb; omega)).trans c2'
      rw [c2] at hq2
      simp only [Option.some.injEq, Value.slice.injEq, true_and] at hq2
      obtain ⟨rfl, rfl⟩ := hq2
      clear c0' c1' c2' c3' hg' hXq hKs
      have HKs : Hid (∃ w0 : World, KsAt w0 B x.keys ∧ Below w0.heap.size w0 wq ∧ w0.heap.size ≤ tb) := hQ0 ⟨w2, hKs2, HBq.out.mono (by have := HTB.out; omega), by have := HTB.out; omega⟩
      have HI := hQ0 (HOK.out x (List.mem_of_getElem? hx))
      have HS : Hid (L.drop k = x :: L.drop (k + 1)) := hQ0 (by
       obtain ⟨h1, rfl⟩ := List.getElem?_eq_some_iff.1 hx
       exact List.drop_eq_getElem_cons h1)
      have i1 : (k : Int) < (L.length : Int) := by omega
      clear hx hKs2
      go_upto_region 9 with (fail)
      (refine pin_eqT (fun w4 hE_w4 => ?_))
      obtain ⟨xb, hxb⟩ : ∃ z, z = wq.heap.size := ⟨_, rfl⟩
      have HX4 : Hid (BoxAt w4 xb [.string x.word, .string x.name, .slice B x.keys.length d, .int .i64 x.at_]) := hQ0 (by
       rw [hE_w4, hxb]
       exact BoxAt.new wq [.string x.word, .string x.name, .slice B x.keys.length d, .int .i64 x.at_] 97)
      have HB4 : Hid (Below xb wq w4) := hQ0 (by rw [hE_w4, hxb]; ((with_reducible (repeat (first | exact bR _ _ | apply bS | apply bA | apply bD | refine bT ?_ (by assumption) ?_ | refine bO (by assumption) ?_ ?_))) <;> (first | omega | (simp <;> omega))))
      have hz4 : xb < w4.heap.size := HX4.out.lt
      rw [← hxb]
      clear hE_w4 c0 c1 c2 c3
      have htx : tb < xb := by omega
      have HXB := hQ0 hxb
      have x0 := HX4.out.c 0 _ rfl
      have x1 := HX4.out.c 1 _ rfl
      have x2 := HX4.out.c 2 _ rfl
      have x3 := HX4.out.c 3 _ rfl
      have HO4 := hQ0 (HOq.out.below HB4.out (by omega))
      have HBw4 : Hid (Below w.heap.size w w4) := hQ0 (HBw.out.trans (HB4.out.mono (by omega)))
      have HBt4 : Hid (Below tb w2 w4) := hQ0 (HBq.out.trans (HB4.out.mono (by omega)))
      have HR4 : Hid (BoxAt w4 w.heap.size (tb0.cells a0)) := hQ0 (HRq.out.below HB4.out (by omega))
      have HK4 : Hid (∃ w0 : World, KsAt w0 B x.keys ∧ Below w0.heap.size w0 w4 ∧ w0.heap.size ≤ tb) := hQ0 (by
       obtain ⟨w0, q1, q2, q3⟩ := HKs.out
       exact ⟨w0, q1, q2.trans (HB4.out.mono (by omega)), q3⟩)
      have hadd := add_any w4 (tb + 1) tb k t a x B d HO4.out (Nat.lt_succ_self _) (by omega) HK4.out HI.out HLe.out.1 (by omega) xb wq HOq.out (by omega) hz4
      unfold vOfX at hadd
      have HADD := hQ0 hadd
      clear hadd hxb
      by_cases hw : x.word = t_table
      · have b1 : (x.word.toList == ([116, 97, 98, 108, 101] : List UInt8)) = true := by rw [hw]; kernel_rfl
        have HW := hQ0 hw
        clear hw
        cases had
        · by_cases hms : missAll x = true
          · have HE : Hid (R = (tb0, 8, (x.at_ : Int))) := hQ0 (by rw [HJ.out, HS.out, addAll_cons, if_neg (fun h => by cases h.2), if_pos hms]; rfl)
            rw [hms] at HADD
            go_upto_region 14 with (go_at_call 40; refine HADD.out.mono ?_; rintro e w5 ⟨rfl, hb5, a', hO5⟩)
            have HX5 := hQ0 (HX4.out.block hb5.b.size hb5.k)
            have HB5 : Hid (Below w.heap.size w w5) := hQ0 (HBw4.out.trans (hb5.b.mono (by omega)))
            have HR5 := hQ0 (HR4.out.below hb5.b htw)
            clear hb5 hO5 x0 x1 x2 x3
            have hR_ := (HR5.out).drew
            have hB_ : Below w.heap.size w w5.drew := (HB5.out).drew
            have hS_ : (fun W_ => BoxAt W_ xb [.string x.word, .string x.name, .slice B x.keys.length d, .int .i64 x.at_] ∧ True) w5.drew := ⟨HX5.out.drew, trivial⟩
            refine wp_region_Y (fun W_ => BoxAt W_ xb [.string x.word, .string x.name, .slice B x.keys.length d, .int .i64 x.at_] ∧ True) 5 [5] (by kernel_rfl) (by kernel_rfl) (tailBJ_of (nx := [3, 2, 5, 4, 5, 0]) (by kernel_rfl)) (by kernel_rfl) (fun _ _ _ _ _ h => h) hS_ ?_
            generalize w5.drew = wd_ at hS_ hR_ hB_ ⊢
            iterate 3 (apply wpY_seq 5 rfl (by kernel_rfl) true (by exact rfl); (case h => intro _ W_ hW_; have hY_ := hW_.1; have y0_ := hY_.c 3 (.int .i64 x.at_) (rfl); go_simp; try exact rfl); intro K hK; go_simp; apply hK; clear hK K)
            refine wpY_one (i := 3) rfl (by kernel_rfl) rfl ?_
            intro K hK
            refine upon_store_tb (.tmp 2) (.tmp 43) rfl w.heap.size _ (by go_simp) tb0 a0 (by go_simp; first | done | rfl) hR_ rfl ?_
            have hS2_ : (fun W_ => BoxAt W_ xb [.string x.word, .string x.name, .slice B x.keys.length d, .int .i64 x.at_] ∧ True) (wd_.setCells w.heap.size 0 (tb0.cells a0)) := ⟨hS_.1.low_cells (by omega), trivial⟩
            refine ⟨hS2_, ?_⟩
            clear hS_
            have hS_ := hS2_
            clear hS2_
            go_simp
            refine hK _ _ ?_
            clear hK K
            apply wpY_maybe (i := 4) rfl (by kernel_rfl) true (by exact rfl)
            (case h => intro _ W_ hW_; go_simp; try exact rfl)
            intro K hK; go_simp; apply hK; clear hK K
            refine wpY_nil (by kernel_rfl) ?_
            (try simp only [List.filterMap_cons, List.filterMap_nil, List.getElem?_cons_succ, List.getElem?_cons_zero])
            (try go_simp)
            clear hS_
            go_wp2_with fail
            have hlv := loadv_tb w.heap.size tb0 a0 _ (stored_tb w.heap.size _ tb0 a0 wd_ hR_ rfl)
            refine bodyPost_ret (v := .tuple #[Tb.v tb0 a0, .int .i64 8, .int .i64 x.at_]) (by simp only [results, Tryz.results13]; simp [hlv, asAddr]) rfl ?_
            rw [HE.out]
            refine comp_zero w _ _ _ ?_
            exact below_setCells (Nat.le_refl _) _ _ hB_
          · have hmf : missAll x = false := by simpa using hms
            have HN : Hid (R = afterR s (addAll (L.drop (k + 1)) (putR t x) true)) := hQ0 (by rw [HJ.out, HS.out, addAll_cons, if_neg (fun h => by cases h.2), if_neg hms, show (false || decide (x.word = t_table)) = true from by rw [decide_eq_true HW.out]; rfl])
            rw [hmf] at HADD
            clear hms hmf
            go_wp2_with (go_at_call 40; refine HADD.out.mono ?_; rintro e w5 ⟨rfl, hb5, a', hO5⟩)
            go_roundg (L.length - (k + 1) + 1)
            case measure => omega
            case rel => exact ⟨k + 1, putR t x, a', true, by omega, by omega, by go_num, by first | rfl | (simp; done) | go_num, hQ0 (HBt4.out.trans hb5.b), hQ0 hO5, hQ0 ⟨put_le HLe.out.1, put_nms HLe.out.2 HI.out.nm⟩, HN⟩
        · have HE : Hid (R = (tb0, 7, (x.at_ : Int))) := hQ0 (by rw [HJ.out, HS.out, addAll_cons, if_pos ⟨HW.out, rfl⟩]; rfl)
          go_upto_region 12 with (fail)
          have hR_ := (HR4.out).drew
          have hB_ : Below w.heap.size w w4.drew := (HBw4.out).drew
          have hS_ : (fun W_ => BoxAt W_ xb [.string x.word, .string x.name, .slice B x.keys.length d, .int .i64 x.at_] ∧ True) w4.drew := ⟨HX4.out.drew, trivial⟩
          refine wp_region_Y (fun W_ => BoxAt W_ xb [.string x.word, .string x.name, .slice B x.keys.length d, .int .i64 x.at_] ∧ True) 5 [5] (by kernel_rfl) (by kernel_rfl) (tailBJ_of (nx := [3, 2, 5, 4, 5, 0]) (by kernel_rfl)) (by kernel_rfl) (fun _ _ _ _ _ h => h) hS_ ?_
          generalize w4.drew = wd_ at hS_ hR_ hB_ ⊢
          iterate 3 (apply wpY_seq 5 rfl (by kernel_rfl) true (by exact rfl); (case h => intro _ W_ hW_; have hY_ := hW_.1; have y0_ := hY_.c 3 (.int .i64 x.at_) (rfl); go_simp; try exact rfl); intro K hK; go_simp; apply hK; clear hK K)
          refine wpY_one (i := 3) rfl (by kernel_rfl) rfl ?_
          intro K hK
          refine upon_store_tb (.tmp 2) (.tmp 37) rfl w.heap.size _ (by go_simp) tb0 a0 (by go_simp; first | done | rfl) hR_ rfl ?_
          have hS2_ : (fun W_ => BoxAt W_ xb [.string x.word, .string x.name, .slice B x.keys.length d, .int .i64 x.at_] ∧ True) (wd_.setCells w.heap.size 0 (tb0.cells a0)) := ⟨hS_.1.low_cells (by omega), trivial⟩
          refine ⟨hS2_, ?_⟩
          clear hS_
          have hS_ := hS2_
          clear hS2_
          go_simp
          refine hK _ _ ?_
          clear hK K
          apply wpY_maybe (i := 4) rfl (by kernel_rfl) true (by exact rfl)
          (case h => intro _ W_ hW_; go_simp; try exact rfl)
          intro K hK; go_simp; apply hK; clear hK K
          refine wpY_nil (by kernel_rfl) ?_
          (try simp only [List.filterMap_cons, List.filterMap_nil, List.getElem?_cons_succ, List.getElem?_cons_zero])
          (try go_simp)
          clear hS_
          go_wp2_with fail
          have hlv := loadv_tb w.heap.size tb0 a0 _ (stored_tb w.heap.size _ tb0 a0 wd_ hR_ rfl)
          refine bodyPost_ret (v := .tuple #[Tb.v tb0 a0, .int .i64 7, .int .i64 x.at_]) (by simp only [results, Tryz.results13]; simp [hlv, asAddr]) rfl ?_
          rw [HE.out]
          refine comp_zero w _ _ _ ?_
          exact below_setCells (Nat.le_refl _) _ _ hB_
      · have b1 : (x.word.toList == ([116, 97, 98, 108, 101] : List UInt8)) = false := by
         rw [show ([116, 97, 98, 108, 101] : List UInt8) = t_table.toList from by kernel_rfl]
         exact txt_neT hw
        have HW := hQ0 hw
        clear hw
        cases had
        · by_cases hms : missAll x = true
          · have HE : Hid (R = (tb0, 8, (x.at_ : Int))) := hQ0 (by rw [HJ.out, HS.out, addAll_cons, if_neg (fun h => HW.out h.1), if_pos hms]; rfl)
            rw [hms] at HADD
            go_upto_region 14 with (go_at_call 40; refine HADD.out.mono ?_; rintro e w5 ⟨rfl, hb5, a', hO5⟩)
            have HX5 := hQ0 (HX4.out.block hb5.b.size hb5.k)
            have HB5 : Hid (Below w.heap.size w w5) := hQ0 (HBw4.out.trans (hb5.b.mono (by omega)))
            have HR5 := hQ0 (HR4.out.below hb5.b htw)
            clear hb5 hO5 x0 x1 x2 x3
            have hR_ := (HR5.out).drew
            have hB_ : Below w.heap.size w w5.drew := (HB5.out).drew
            have hS_ : (fun W_ => BoxAt W_ xb [.string x.word, .string x.name, .slice B x.keys.length d, .int .i64 x.at_] ∧ True) w5.drew := ⟨HX5.out.drew, trivial⟩
            refine wp_region_Y (fun W_ => BoxAt W_ xb [.string x.word, .string x.name, .slice B x.keys.length d, .int .i64 x.at_] ∧ True) 5 [5] (by kernel_rfl) (by kernel_rfl) (tailBJ_of (nx := [3, 2, 5, 4, 5, 0]) (by kernel_rfl)) (by kernel_rfl) (fun _ _ _ _ _ h => h) hS_ ?_
            generalize w5.drew = wd_ at hS_ hR_ hB_ ⊢
            iterate 3 (apply wpY_seq 5 rfl (by kernel_rfl) true (by exact rfl); (case h => intro _ W_ hW_; have hY_ := hW_.1; have y0_ := hY_.c 3 (.int .i64 x.at_) (rfl); go_simp; try exact rfl); intro K hK; go_simp; apply hK; clear hK K)
            refine wpY_one (i := 3) rfl (by kernel_rfl) rfl ?_
            intro K hK
            refine upon_store_tb (.tmp 2) (.tmp 43) rfl w.heap.size _ (by go_simp) tb0 a0 (by go_simp; first | done | rfl) hR_ rfl ?_
            have hS2_ : (fun W_ => BoxAt W_ xb [.string x.word, .string x.name, .slice B x.keys.length d, .int .i64 x.at_] ∧ True) (wd_.setCells w.heap.size 0 (tb0.cells a0)) := ⟨hS_.1.low_cells (by omega), trivial⟩
            refine ⟨hS2_, ?_⟩
            clear hS_
            have hS_ := hS2_
            clear hS2_
            go_simp
            refine hK _ _ ?_
            clear hK K
            apply wpY_maybe (i := 4) rfl (by kernel_rfl) true (by exact rfl)
            (case h => intro _ W_ hW_; go_simp; try exact rfl)
            intro K hK; go_simp; apply hK; clear hK K
            refine wpY_nil (by kernel_rfl) ?_
            (try simp only [List.filterMap_cons, List.filterMap_nil, List.getElem?_cons_succ, List.getElem?_cons_zero])
            (try go_simp)
            clear hS_
            go_wp2_with fail
            have hlv := loadv_tb w.heap.size tb0 a0 _ (stored_tb w.heap.size _ tb0 a0 wd_ hR_ rfl)
            refine bodyPost_ret (v := .tuple #[Tb.v tb0 a0, .int .i64 8, .int .i64 x.at_]) (by simp only [results, Tryz.results13]; simp [hlv, asAddr]) rfl ?_
            rw [HE.out]
            refine comp_zero w _ _ _ ?_
            exact below_setCells (Nat.le_refl _) _ _ hB_
          · have hmf : missAll x = false := by simpa using hms
            have HN : Hid (R = afterR s (addAll (L.drop (k + 1)) (putR t x) false)) := hQ0 (by rw [HJ.out, HS.out, addAll_cons, if_neg (fun h => HW.out h.1), if_neg hms, show (false || decide (x.word = t_table)) = false from by rw [decide_eq_false HW.out]; rfl])
            rw [hmf] at HADD
            clear hms hmf
            go_wp2_with (go_at_call 40; refine HADD.out.mono ?_; rintro e w5 ⟨rfl, hb5, a', hO5⟩)
            go_roundg (L.length - (k + 1) + 1)
            case measure => omega
            case rel => exact ⟨k + 1, putR t x, a', false, by omega, by omega, by go_num, by first | rfl | (simp; done) | go_num, hQ0 (HBt4.out.trans hb5.b), hQ0 hO5, hQ0 ⟨put_le HLe.out.1, put_nms HLe.out.2 HI.out.nm⟩, HN⟩
        · by_cases hms : missAll x = true
          · have HE : Hid (R = (tb0, 8, (x.at_ : Int))) := hQ0 (by rw [HJ.out, HS.out, addAll_cons, if_neg (fun h => HW.out h.1), if_pos hms]; rfl)
            rw [hms] at HADD
            go_upto_region 14 with (go_at_call 40; refine HADD.out.mono ?_; rintro e w5 ⟨rfl, hb5, a', hO5⟩)
            have HX5 := hQ0 (HX4.out.block hb5.b.size hb5.k)
            have HB5 : Hid (Below w.heap.size w w5) := hQ0 (HBw4.out.trans (hb5.b.mono (by omega)))
            have HR5 := hQ0 (HR4.out.below hb5.b htw)
            clear hb5 hO5 x0 x1 x2 x3
            have hR_ := (HR5.out).drew
            have hB_ : Below w.heap.size w w5.drew := (HB5.out).drew
            have hS_ : (fun W_ => BoxAt W_ xb [.string x.word, .string x.name, .slice B x.keys.length d, .int .i64 x.at_] ∧ True) w5.drew := ⟨HX5.out.drew, trivial⟩
            refine wp_region_Y (fun W_ => BoxAt W_ xb [.string x.word, .string x.name, .slice B x.keys.length d, .int .i64 x.at_] ∧ True) 5 [5] (by kernel_rfl) (by kernel_rfl) (tailBJ_of (nx := [3, 2, 5, 4, 5, 0]) (by kernel_rfl)) (by kernel_rfl) (fun _ _ _ _ _ h => h) hS_ ?_
            generalize w5.drew = wd_ at hS_ hR_ hB_ ⊢
            iterate 3 (apply wpY_seq 5 rfl (by kernel_rfl) true (by exact rfl); (case h => intro _ W_ hW_; have hY_ := hW_.1; have y0_ := hY_.c 3 (.int .i64 x.at_) (rfl); go_simp; try exact rfl); intro K hK; go_simp; apply hK; clear hK K)
            refine wpY_one (i := 3) rfl (by kernel_rfl) rfl ?_
            intro K hK
            refine upon_store_tb (.tmp 2) (.tmp 43) rfl w.heap.size _ (by go_simp) tb0 a0 (by go_simp; first | done | rfl) hR_ rfl ?_
            have hS2_ : (fun W_ => BoxAt W_ xb [.string x.word, .string x.name, .slice B x.keys.length d, .int .i64 x.at_] ∧ True) (wd_.setCells w.heap.size 0 (tb0.cells a0)) := ⟨hS_.1.low_cells (by omega), trivial⟩
            refine ⟨hS2_, ?_⟩
            clear hS_
            have hS_ := hS2_
            clear hS2_
            go_simp
            refine hK _ _ ?_
            clear hK K
            apply wpY_maybe (i := 4) rfl (by kernel_rfl) true (by exact rfl)
            (case h => intro _ W_ hW_; go_simp; try exact rfl)
            intro K hK; go_simp; apply hK; clear hK K
            refine wpY_nil (by kernel_rfl) ?_
            (try simp only [List.filterMap_cons, List.filterMap_nil, List.getElem?_cons_succ, List.getElem?_cons_zero])
            (try go_simp)
            clear hS_
            go_wp2_with fail
            have hlv := loadv_tb w.heap.size tb0 a0 _ (stored_tb w.heap.size _ tb0 a0 wd_ hR_ rfl)
            refine bodyPost_ret (v := .tuple #[Tb.v tb0 a0, .int .i64 8, .int .i64 x.at_]) (by simp only [results, Tryz.results13]; simp [hlv, asAddr]) rfl ?_
            rw [HE.out]
            refine comp_zero w _ _ _ ?_
            exact below_setCells (Nat.le_refl _) _ _ hB_
          · have hmf : missAll x = false := by simpa using hms
            have HN : Hid (R = afterR s (addAll (L.drop (k + 1)) (putR t x) true)) := hQ0 (by rw [HJ.out, HS.out, addAll_cons, if_neg (fun h => HW.out h.1), if_neg hms, show (true || decide (x.word = t_table)) = true from by rw [decide_eq_false HW.out]; rfl])
            rw [hmf] at HADD
            clear hms hmf
            go_wp2_with (go_at_call 40; refine HADD.out.mono ?_; rintro e w5 ⟨rfl, hb5, a', hO5⟩)
            go_roundg (L.length - (k + 1) + 1)
            case measure => omega
            case rel => exact ⟨k + 1, putR t x, a', true, by omega, by omega, by go_num, by first | rfl | (simp; done) | go_num, hQ0 (HBt4.out.trans hb5.b), hQ0 hO5, hQ0 ⟨put_le HLe.out.1, put_nms HLe.out.2 HI.out.nm⟩, HN⟩
    · obtain rfl : k = L.length := by omega
      cases had
      · have HE : Hid (R = (tb0, 8, (s.size : Int))) := hQ0 (by rw [HJ.out, List.drop_length]; rfl)
        go_upto_region 17 with (fail)
        refine wp_region_lit ?_
        have hS_ : Below wq.heap.size wq wq := Below.refl _ _
        iterate 3 (apply wpL_maybe true (by exact rfl); (case h => intro _; have hcW_ := (bcellW hS_).1; go_simp; try exact rfl); intro K hK; go_simp; apply hK; clear hK K)
        (try go_simp)
        clear hS_
        refine wpList_store_tb rfl (.tmp 2) (.tmp 49) rfl w.heap.size _ (by go_simp) tb0 a0 (by go_simp; first | done | rfl) HRq.out rfl ?_
        go_simp
        go_wp2_with fail
        have hlv := loadv_tb w.heap.size tb0 a0 _ (stored_tb w.heap.size _ tb0 a0 wq HRq.out rfl)
        refine bodyPost_ret (v := .tuple #[Tb.v tb0 a0, .int .i64 8, .int .i64 s.size]) (by simp only [results, Tryz.results13]; simp [hlv, asAddr]) rfl ?_
        rw [HE.out]
        refine comp_zero w _ _ _ ?_
        exact below_setCells (Nat.le_refl _) _ _ (HBw.out)
      · have HE : Hid (R = if checkR t ≠ 0 then (tb0, checkR t, 0) else (t, 0, 0)) := hQ0 (by rw [HJ.out, List.drop_length]; rfl)
        obtain ⟨ce, hce⟩ : ∃ z, z = checkR t := ⟨_, rfl⟩
        rw [← hce] at HE
        have HCE := hQ0 hce
        clear hce
        go_upto_region 18 with (fail)
        refine wp_region_lit ?_
        have hS_ : Below wq.heap.size wq wq := Below.refl _ _
        apply wpL_maybe true (by exact rfl) (t.v a)
        (case h => intro _; exact load_tb _ _ 8 rfl tb (by first | rfl | (go_simp; done)) t a _ (HOq.out.bx.below hS_ htq))
        intro K hK; go_simp; apply hK; clear hK K
        refine wpL_callm (S := Below wq.heap.size wq)  true (by exact rfl) (.int .i64 ce) ?_ hS_ ?_
        · intro _; intro N_ hN_; generalize hA_ : Act.mk _ _ = A_ at hN_ ⊢; (have v52_ := evA hA_ 52; simp only [getL64, getL8, getL1, getL0, opt_true, Bool.not_false] at v52_); clear hA_; have vc_ := acC A_; have vf_ := acF A_; generalize Act.eval A_ = ev_ at vc_ vf_ v52_ ⊢; go_simp; go_at_call 11; refine (check_any t a _ (HOq.out.at.below hS_ (Nat.le_refl _)) HOq.out.cap.toTbCap0 (tsmall_of HLe.out.2 HLe.out.1 (by omega))).mono ?_; rintro e w9 ⟨rfl, hb9⟩; rw [← HCE.out]; exact hN_ _ (hS_.trans (hb9.mono hS_.size))
        intro K hK w_ hS2_; go_simp; apply hK; clear hK K hS_; have hS_ := hS2_; clear hS2_
        apply wpL_maybe true (by exact rfl)
        (case h => intro _; have hcW_ := (bcellW hS_).1; go_simp; try exact rfl)
        intro K hK; go_simp; apply hK; clear hK K
        refine wpList_nil ?_
        (try go_simp)
        obtain ⟨w6, hw6⟩ : ∃ z, z = w_ := ⟨_, rfl⟩
        rw [← hw6] at hS_ ⊢
        clear hw6
        have HB6 : Hid (Below w.heap.size w w6) := hQ0 (HBw.out.trans (hS_.mono (by omega)))
        have HR6 := hQ0 (HRq.out.below hS_ (by omega))
        have HO6 := hQ0 (HOq.out.below hS_ (Nat.le_refl _))
        clear hS_
        by_cases hce : ce = 0
        · have e0 : R = (t, 0, 0) := by rw [HE.out, if_neg (by simpa using hce)]
          subst hce
          have E0 := hQ0 e0
          clear e0
          go_upto_region 21 with (fail)
          refine wp_region_lit ?_
          have hS_ : Below w6.heap.size w6 w6 := Below.refl _ _
          apply wpL_maybe true (by exact rfl) (t.v a)
          (case h => intro _; exact load_tb _ _ 8 rfl tb (by first | rfl | (go_simp; done)) t a _ (HO6.out.bx.below hS_ HO6.out.bx.lt))
          intro K hK; go_simp; apply hK; clear hK K
          (try go_simp)
          clear hS_
          refine wpList_store_tb rfl (.tmp 2) (.tmp 58) rfl w.heap.size _ (by go_simp) t a (by go_simp; first | done | rfl) HR6.out rfl ?_
          go_simp
          go_wp2_with fail
          have hlv := loadv_tb w.heap.size t a _ (stored_tb w.heap.size _ t a w6 HR6.out rfl)
          refine bodyPost_ret (v := .tuple #[Tb.v t a, .int .i64 0, .int .i64 0]) (by simp only [results, Tryz.results13]; simp [hlv, asAddr]) rfl ?_
          have hO7 := HO6.out.low_cells (q := w.heap.size) (o := 0) (vs := t.cells a) (by omega) (by omega)
          rw [E0.out]
          exact ⟨a, rfl, below_setCells (Nat.le_refl _) _ _ HB6.out, hO7.at, HO6.out.cap, L.length, HLe.out.2, HLe.out.1, by omega⟩
        · have e0 : R = (tb0, ce, 0) := by rw [HE.out, if_pos hce]
          have e1 : (ce != 0) = true := by simpa using hce
          have E0 := hQ0 e0
          clear e0 hce
          go_upto_region 20 with (fail)
          refine wp_region_lit ?_
          have hS_ : Below w6.heap.size w6 w6 := Below.refl _ _
          iterate 2 (apply wpL_maybe true (by exact rfl); (case h => intro _; have hcW_ := (bcellW hS_).1; go_simp; try exact rfl); intro K hK; go_simp; apply hK; clear hK K)
          (try go_simp)
          clear hS_
          refine wpList_store_tb rfl (.tmp 2) (.tmp 56) rfl w.heap.size _ (by go_simp) tb0 a0 (by go_simp; first | done | rfl) HR6.out rfl ?_
          go_simp
          go_wp2_with fail
          have hlv := loadv_tb w.heap.size tb0 a0 _ (stored_tb w.heap.size _ tb0 a0 w6 HR6.out rfl)
          refine bodyPost_ret (v := .tuple #[Tb.v tb0 a0, .int .i64 ce, .int .i64 0]) (by simp only [results, Tryz.results13]; simp [hlv, asAddr]) rfl ?_
          rw [E0.out]
          refine comp_zero w _ _ _ ?_
          exact below_setCells (Nat.le_refl _) _ _ (HB6.out)
 · have e1 : (er != 0) = true := by simpa using her
   rw [if_pos her] at hC
   subst hC
   clear her
   go_enter Tryz.func13, Tryz.ntmps13; (try simp only [List.append_eq, List.cons_append, List.nil_append])
   go_upto_region 3 with (go_at_call 39; refine (KP _ (HT.out.alloc _)).mono ?_; rintro e w2 ⟨hb2, A, c, rfl, hx2⟩)
   have hz2 := hb2.size
   simp at hz2
   have HR0 := hQ0 ((BoxAt.new w (tb0.cells a0) 36).below hb2 (by simp))
   have HBZ := hQ0 hb2
   clear hb2
   refine wp_region_lit ?_
   have hS_ : Below w2.heap.size w2 w2 := Below.refl _ _
   iterate 3 (apply wpL_maybe true (by exact rfl); (case h => intro _; have hcW_ := (bcellW hS_).1; go_simp; try exact rfl); intro K hK; go_simp; apply hK; clear hK K)
   (try go_simp)
   clear hS_
   refine wpList_store_tb rfl (.tmp 2) (.tmp 21) rfl w.heap.size _ (by go_simp) tb0 a0 (by go_simp; first | done | rfl) HR0.out rfl ?_
   go_simp
   go_wp2_with fail
   have hlv := loadv_tb w.heap.size tb0 a0 _ (stored_tb w.heap.size _ tb0 a0 w2 HR0.out rfl)
   refine bodyPost_ret (v := .tuple #[Tb.v tb0 a0, .int .i64 er, .int .i64 (pl : Int)]) (by simp only [results, Tryz.results13]; simp [hlv, asAddr]) rfl ?_
   refine comp_zero w _ _ _ ?_
   exact below_setCells (Nat.le_refl _) _ _ (((Below.refl w.heap.size w).alloc (Nat.le_refl _) _).trans (HBZ.out.mono (by simp)))
attribute [local go_sem ↓] evalL getL64 setL64
attribute [local go_sem ↓] getL8 setL8
attribute [local go_sem ↓] getL1 getL0
set_option maxRecDepth 100000 in
set_option maxHeartbeats 8000000 in
theorem text_r64 (S : ByteArray) (w : World) (hm : S.size ≤ maxLen) (ht : Tabs w) (hw0 : ∀ x ∈ (parseR S).1, x.word = t_table ∨ x.word = t_wall) (df : List Deferred) (F : List Value) (hF : F.length = 501) (f28 : F[28]? = some (.string S)) (R : Act → World → Prop)
  (hR : ∀ (F' : List Value) (w' : World) (tb : Nat) (a : TbA), F'.length = 501 → F'[1]? = F[1]? → F'[2]? = F[2]? → F'[3]? = F[3]? → F'[28]? = F[28]? → F'[30]? = some (.pointer (some ⟨tb, 0, none⟩)) → F'[31]? = some (.int .i64 (compileR S).2.1) → Below w.heap.size w w' → BoxAt w' tb ((compileR S).1.cells a) → TbAt w' (compileR S).1 a → (∃ n, (compileR S).1.le n ∧ n ≤ 10000) → R ⟨F'.toArray, df⟩ w') :
  (regOf 64 Tryz.f17).wp Tryz.prog (AtEnd R) ⟨F.toArray, df⟩ w := by
 obtain ⟨s, rfl⟩ := fr501_ex F hF
 have e28 : s 28 = .string S := Option.some.inj f28
 unfold fr501
 rw [e28]
 have HE28 := hQ0 e28
 clear hF f28 e28
 have KC := compile_any S w hm ht hw0
 have HR := hQ0 hR
 clear hm ht hR hw0
 conv in (regOf _ _) => whnf
 refine wp_region_lit ?_
 refine wpList_plain rfl fun K hK => ?_
 go_simp
 refine hK _ _ ?_
 clear hK K
 refine wpList_plain rfl fun K hK => ?_
 go_simp
 (go_at_call 13; refine KC.mono ?_; rintro e w1 ⟨a3, rfl, hb1, hT1, hc1, n3, hn3⟩)
 go_simp
 refine hK _ _ ?_
 clear hK K KC
 obtain ⟨tc, htc⟩ : ∃ z, z = (compileR S).1 := ⟨_, rfl⟩
 obtain ⟨ec, hec⟩ : ∃ z, z = (compileR S).2.1 := ⟨_, rfl⟩
 obtain ⟨pc, hpc⟩ : ∃ z, z = (compileR S).2.2 := ⟨_, rfl⟩
 rw [← htc, ← hec, ← hpc]
 rw [← htc] at hT1 hn3
 have HB1 := hQ0 hb1
 have HT1 := hQ0 hT1
 have HN1 := hQ0 hn3
 have HTC := hQ0 htc
 have HEC := hQ0 hec
 clear hb1 hT1 hc1 hn3 htc hec hpc
 iterate 4 (refine wpList_plain rfl fun K hK => ?_; go_simp; apply hK; clear hK K)
 refine wpList_plain rfl fun K hK => ?_
 go_simp
 refine hK _ _ ?_
 clear hK K
 have HX2 : Hid (BoxAt (w1.alloc (.cells #[.int .i64 0, .int .i64 0, .int .i64 0, .int .i64 0, .int .i64 0, .int .i64 0, .int .i64 0, .slice none 0 0, .slice none 0 0, .slice none 0 0, .slice none 0 0, .slice none 0 0, .slice none 0 0, .slice none 0 0, .slice none 0 0, .slice none 0 0, .slice none 0 0, .slice none 0 0] 36)) w1.heap.size (tb0.cells a0)) := hQ0 (BoxAt.new w1 (tb0.cells a0) 36)
 have HB2 := hQ0 (HB1.out.alloc HB1.out.size (.cells #[.int .i64 0, .int .i64 0, .int .i64 0, .int .i64 0, .int .i64 0, .int .i64 0, .int .i64 0, .slice none 0 0, .slice none 0 0, .slice none 0 0, .slice none 0 0, .slice none 0 0, .slice none 0 0, .slice none 0 0, .slice none 0 0, .slice none 0 0, .slice none 0 0, .slice none 0 0] 36))
 have HW2 := hQ0 ((Below.refl w1.heap.size w1).alloc (Nat.le_refl _) (.cells #[.int .i64 0, .int .i64 0, .int .i64 0, .int .i64 0, .int .i64 0, .int .i64 0, .int .i64 0, .slice none 0 0, .slice none 0 0, .slice none 0 0, .slice none 0 0, .slice none 0 0, .slice none 0 0, .slice none 0 0, .slice none 0 0, .slice none 0 0, .slice none 0 0, .slice none 0 0] 36))
 generalize w1.alloc _ = w2 at HX2 HB2 HW2 ⊢
 obtain ⟨tb, htb⟩ : ∃ z, z = w1.heap.size := ⟨_, rfl⟩
 have htw : w.heap.size ≤ tb := by rw [htb]; exact HB1.out.size
 have htl : w1.heap.size ≤ tb := by omega
 rw [← htb] at HX2 ⊢
 refine wpList_store_tb rfl (.tmp 30) (.tmp 489) rfl tb _ (by go_simp) tc a3 (by go_simp) HX2.out rfl ?_
 have HX3 := hQ0 (stored_tb tb _ tc a3 w2 HX2.out rfl)
 have HB3 := hQ0 (below_setCells (b := tb) htw (tc.cells a3) 0 HB2.out)
 have HT3 : Hid (TbAt (w2.setCells tb 0 (tc.cells a3)) tc a3) := hQ0 (HT1.out.below (B := w1.heap.size) (below_setCells (b := tb) htl (tc.cells a3) 0 HW2.out) (Nat.le_refl _))
 generalize w2.setCells tb 0 (tc.cells a3) = w3 at HX3 HB3 HT3 ⊢
 go_simp
 iterate 2 (refine wpList_plain rfl fun K hK => ?_; go_simp; apply hK; clear hK K)
 refine wpList_nil ?_
 (try go_simp)
 exact HR.out _ w3 tb a3 rfl rfl rfl rfl (congrArg some HE28.out.symm) (by rw [htb]; rfl) (by rw [← HEC.out]; rfl) HB3.out (by rw [← HTC.out]; exact HX3.out) (by rw [← HTC.out]; exact HT3.out) (by rw [← HTC.out]; exact ⟨n3, HN1.out.2⟩)
set_option maxRecDepth 100000 in
set_option maxHeartbeats 8000000 in
theorem text_r65 (t u : Tb) (a b : TbA) (ec : Int) (n tb tb2 : Nat) (w : World) (hX : BoxAt w tb (t.cells a)) (hY : BoxAt w tb2 (u.cells b)) (hA : TbAt w t a) (hB : TbAt w u b) (h1 : t.le n) (h2 : u.le n) (hn : n ≤ 10000) (h9 : t.only9) (df : List Deferred) (F : List Value) (hF : F.length = 501) (f1 : F[1]? = some (.pointer (some ⟨tb, 0, none⟩))) (f30 : F[30]? = some (.pointer (some ⟨tb2, 0, none⟩))) (f31 : F[31]? = some (.int .i64 ec)) (R : Act → World → Prop)
  (hR : ∀ (F' : List Value) (w' : World) (d : Bool), F'.length = 501 → F'[2]? = F[2]? → F'[3]? = F[3]? → F'[28]? = F[28]? → F'[499]? = some (.bool d) → (d = true ↔ (ec ≠ 0 ∨ sameR u t = false)) → Below w.heap.size w w' → R ⟨F'.toArray, df⟩ w') :
  (regOf 65 Tryz.f17).wp Tryz.prog (AtEnd R) ⟨F.toArray, df⟩ w := by
 obtain ⟨s, rfl⟩ := fr501_ex F hF
 have e1 : s 1 = .pointer (some ⟨tb, 0, none⟩) := Option.some.inj f1
 have e30 : s 30 = .pointer (some ⟨tb2, 0, none⟩) := Option.some.inj f30
 have e31 : s 31 = .int .i64 ec := Option.some.inj f31
 unfold fr501
 rw [e1, e30, e31]
 clear hF f1 f30 f31 e1 e30 e31
 have KS := fun W (hb : Below w.heap.size w W) => same_any u t b a n W (hB.below hb (Nat.le_refl _)) (hA.below hb (Nat.le_refl _)) h2 h1 hn h9
 have HX := hQ0 hX
 have HY := hQ0 hY
 have HR := hQ0 hR
 obtain ⟨be, hbe⟩ : ∃ z, z = decide (ec = 0) := ⟨_, rfl⟩
 obtain ⟨sm, hsm⟩ : ∃ z, z = sameR u t := ⟨_, rfl⟩
 rw [← hsm] at KS
 have HBE := hQ0 hbe
 have HSM := hQ0 hsm
 clear hX hY hA hB hR h1 h2 hn hbe hsm
 conv in (regOf _ _) => whnf
 refine wp_region_lit ?_
 have hS_ : Below w.heap.size w w := Below.refl _ _
 iterate 1 (refine wpList_plain rfl fun K hK => ?_; go_simp; apply hK; clear hK K)
 apply wpL_maybe true (by exact rfl) (.bool (!be))
 (case h => intro _; go_simp; rw [HBE.out]; by_cases q1_ : ec = 0 <;> simp [q1_])
 intro K hK; go_simp; apply hK; clear hK K
 iterate 1 (refine wpList_plain rfl fun K hK => ?_; go_simp; apply hK; clear hK K)
 apply wpL_maybe be (by clear hS_; cases be <;> rfl) (u.v b)
 (case h => intro hc_; obtain rfl : be = true := hc_; (try simp only [opt_true]); exact load_tb _ _ 30 rfl tb2 (by first | rfl | (go_simp; done)) u b _ HY.out)
 intro K hK; go_simp; apply hK; clear hK K
 apply wpL_maybe be (by clear hS_; cases be <;> rfl) (t.v a)
 (case h => intro hc_; obtain rfl : be = true := hc_; (try simp only [opt_true]); exact load_tb _ _ 1 rfl tb (by first | rfl | (go_simp; done)) t a _ HX.out)
 intro K hK; go_simp; apply hK; clear hK K
 refine wpL_callm (S := Below w.heap.size w) be (by clear hS_; cases be <;> rfl) (.bool sm) ?_ hS_ ?_
 · intro hc_
   obtain rfl : be = true := hc_
   intro N_ hN_
   (try simp only [opt_true])
   go_simp
   (go_at_call 16; refine (KS _ hS_).mono ?_; rintro e w_ ⟨rfl, hb_⟩)
   go_simp
   exact hN_ _ (hS_.trans (hb_.mono hS_.size))
 intro K hK w_ hS2_; go_simp; apply hK; clear hK K hS_; have hS_ := hS2_; clear hS2_
 apply wpL_maybe be (by clear hS_; cases be <;> rfl) (.bool (!sm))
 (case h => intro hc_; obtain rfl : be = true := hc_; go_simp; try exact rfl)
 intro K hK; go_simp; apply hK; clear hK K
 apply wpL_maybe true (by exact rfl) (.bool (!be || !sm)) (by intro _; cases be <;> (go_simp; try exact rfl))
 intro K hK; go_simp; apply hK; clear hK K
 refine wpList_nil ?_
 (try go_simp)
 exact HR.out _ w_ (!be || !sm) rfl rfl rfl rfl rfl (by rw [HBE.out, HSM.out]; cases sameR u t <;> by_cases h : ec = 0 <;> simp [h]) hS_
attribute [local go_sem ↓] evalL getL64 setL64
attribute [local go_sem ↓] getL8 setL8
attribute [local go_sem ↓] getL1 getL0
set_option maxRecDepth 100000 in
set_option maxHeartbeats 8000000 in
theorem text_any (t : Tb) (a : TbA) (w : World) (hA : TbAt w t a) (hle : t.le 1000) (hok : ∀ x ∈ t.items, okF x) (hsz : (textB t.items).length ≤ 1000000000) (ht : Tabs w) (h9 : t.only9) (hw0 : ∀ x ∈ (parseR (fmtR t.items).1).1, x.word = t_table ∨ x.word = t_wall) :
  Calls Tryz.prog 17 #[t.v a] w fun e w' => e = .returned (.tuple #[.string (textR t).1, .bool (textR t).2]) ∧ Below w.heap.size w w' := by
 have HA := hQ0 hA
 have HL := hQ0 hle
 have HK := hQ0 hok
 have HSZ := hQ0 hsz
 have HTB := hQ0 ht
 have H9 := hQ0 h9
 have HW0 := hQ0 hw0
 clear hA hle hok hsz ht h9 hw0
 obtain ⟨R, hR⟩ : ∃ R, R = textR t := ⟨_, rfl⟩
 have HRr := hQ0 hR
 rw [← hR]
 clear hR
 obtain ⟨a2, ha2⟩ : ∃ z, z = a := ⟨_, rfl⟩
 have HA2 : Hid (TbAt w t a2) := hQ0 (by rw [ha2]; exact HA.out)
 obtain ⟨rad, bal, rst, gx, gy, drg, shf, tr, ws, ars, ps, fs, zs, ss, las, rs, ds, lns⟩ := t
 obtain ⟨Atr, ctr, Aws, cws, Aars, cars, Aps, cps, Afs, cfs, Azs, czs, Ass, css, Alas, clas, Ars, crs, Ads, cds, Alns, clns⟩ := a
 unfold Tb.v
 simp only
 obtain ⟨TC, hTC⟩ : ∃ z : List Value, z = [.int .i64 rad, .int .i64 bal, .int .i64 rst, .int .i64 gx, .int .i64 gy, .int .i64 drg, .int .i64 shf, .slice Atr tr.length ctr, .slice Aws ws.length cws, .slice Aars ars.length cars, .slice Aps ps.length cps, .slice Afs fs.length cfs, .slice Azs zs.length czs, .slice Ass ss.length css, .slice Alas las.length clas, .slice Ars rs.length crs, .slice Ads ds.length cds, .slice Alns lns.length clns] := ⟨_, rfl⟩
 have HTC2 : Hid (TC = Tb.cells ⟨rad, bal, rst, gx, gy, drg, shf, tr, ws, ars, ps, fs, zs, ss, las, rs, ds, lns⟩ a2) := hQ0 (by rw [hTC, ha2]; rfl)
 have HTC := hQ0 hTC
 clear hTC ha2
 go_enter Tryz.func17, Tryz.ntmps17; (try simp only [List.append_eq, List.cons_append, List.nil_append])
 go_upto_region 2 with (fail)
 (refine pin_eqT (fun w1 hE_w1 => ?_))
 have HT1 : Hid (BoxAt w1 w.heap.size TC) := hQ0 (by rw [hE_w1, HTC.out]; exact (BoxAt.new _ _ _).alloc _)
 have HM1 : Hid (BoxAt w1 (w.heap.size + 1) [.string ⟨#[]⟩, .slice none 0 0, .int .i64 0]) := hQ0 (by rw [hE_w1]; exact (by simpa using BoxAt.new (w.alloc _) [.string ⟨#[]⟩, .slice none 0 0, .int .i64 0] 120))
 have HB1 : Hid (Below w.heap.size w w1) := hQ0 (by rw [hE_w1]; ((with_reducible (repeat (first | exact bR _ _ | apply bS | apply bA | apply bD | refine bT ?_ (by assumption) ?_ | refine bO (by assumption) ?_ ?_))) <;> (first | omega | (simp <;> omega))))
 have hz1 : w1.heap.size = w.heap.size + 2 := by rw [hE_w1]; simp
 clear hE_w1
 obtain ⟨mb, hmb⟩ : ∃ z, z = w.heap.size + 1 := ⟨_, rfl⟩
 rw [← hmb] at HM1 ⊢
 obtain ⟨bs, hbs⟩ : ∃ z, z = w.heap.size + 2 := ⟨_, rfl⟩
 have hmm : mb < bs := by omega
 have hwm : w.heap.size < mb := by omega
 have HBS := hQ0 hbs
 have HMB := hQ0 hmb
 obtain ⟨tk, htk⟩ : ∃ k, k = (if 0 < tr.length then k_trough else ⟨#[]⟩) := ⟨_, rfl⟩
 obtain ⟨tvals, htv⟩ : ∃ k, k = tr.take 1 := ⟨_, rfl⟩
 have t7 := HT1.out.c 7 (.slice Atr tr.length ctr) (by rw [HTC.out]; rfl)
 have hltT := HT1.out.lt
 clear hbs hmb
 by_cases htr : 0 < tr.length
 case' neg =>
  have i1 : ¬ (0 : Int) < (tr.length : Int) := by omega
  go_upto_region 4 with (fail)
  (refine pin_eqT (fun w5 hE_w5 => ?_))
  have htr0 : tr = [] := List.eq_nil_of_length_eq_zero (by omega)
  obtain ⟨tA, htA⟩ : ∃ z : Option Addr, z = none := ⟨_, rfl⟩
  obtain ⟨tq, htq⟩ : ∃ z : Nat, z = 0 := ⟨_, rfl⟩
  have HM5 : Hid (BoxAt w5 mb [.string tk, .slice tA tvals.length tq, .int .i64 0]) := hQ0 (by rw [htk, htv, htA, htq, hE_w5, if_neg htr, htr0]; exact HM1.out)
  have HB5 : Hid (Below mb w1 w5) := hQ0 (by rw [hE_w5]; exact Below.refl _ _)
  have HTO : Hid (OwnI w5 bs tA tq tvals) := hQ0 (by rw [htv, htA, htq, htr0]; exact OwnI.nil _ _)
  clear htA htq i1 htr0
 case' pos =>
  have i1 : (0 : Int) < (tr.length : Int) := by omega
  obtain ⟨a1, htr1⟩ : ∃ a1, tr[0]? = some a1 := ⟨tr[0], by simp [htr]⟩
  obtain ⟨gt, ot, rfl, hgt, hct⟩ := (HA.out.tr.below (B := w.heap.size) HB1.out (Nat.le_refl _)) 0 a1 htr1
  have hc0 := hct 0 _ rfl
  simp only [Nat.add_zero, Nat.zero_mul] at hc0
  have htr2 : tr.take 1 = [a1] := by
   cases tr with
   | nil => simp at htr
   | cons q r => simpa using htr1
  clear htr1
  go_upto_region 4 with (go_at_call 56; refine (numA k_trough (some ⟨w.heap.size + 2, 0, none⟩) 1 1 _).mono ?_; rintro e wn ⟨rfl, hbn⟩; have HMn := hQ0 ((HM1.out.alloc _).below hbn (by have := HMB.out; simp; omega)); have m0 := HMn.out.c 0 _ rfl; have m1 := HMn.out.c 1 _ rfl; have m2 := HMn.out.c 2 _ rfl; have mz := HMn.out.fz; have ml := HMn.out.lt)
  (refine pin_eqT (fun w5 hE_w5 => ?_))
  obtain ⟨tA, htA⟩ : ∃ z : Option Addr, z = some ⟨w.heap.size + 2, 0, none⟩ := ⟨_, rfl⟩
  obtain ⟨tq, htq⟩ : ∃ z : Nat, z = 1 := ⟨_, rfl⟩
  have HM5 : Hid (BoxAt w5 mb [.string tk, .slice tA tvals.length tq, .int .i64 0]) := hQ0 (by
   rw [htk, htv, htA, htq, hE_w5, if_pos htr, htr2]
   exact ((HMn.out.set (.string k_trough) (j := 0) rfl).set (.slice (some ⟨w.heap.size + 2, 0, none⟩) 1 1) (j := 1) rfl).set (.int .i64 0) (j := 2) rfl)
  have hbn' : Below w1.heap.size w1 wn := ((Below.refl w1.heap.size w1).alloc (Nat.le_refl _) _).trans (hbn.mono (by simp))
  have HB5 : Hid (Below mb w1 w5) := hQ0 (by
   rw [hE_w5]
   exact ((((hbn'.mono (by have := HMB.out; omega) : Below mb w1 wn)).setCell (Nat.le_refl _) _).setCell (Nat.le_refl _) _).setCell (Nat.le_refl _) _)
  have hgw : (w1.alloc (.cells #[.int .i64 a1] 3)).heap[w.heap.size + 2]? = some (.cells #[.int .i64 a1] 3) := by
   rw [← hz1]
   show (w1.heap.push _)[w1.heap.size]? = some _
   simp
  have HTO : Hid (OwnI w5 bs tA tq tvals) := hQ0 (by
   have hg5 : w5.heap[w.heap.size + 2]? = some (.cells #[.int .i64 a1] 3) := by
    rw [hE_w5, Below.heap_setCell _ _ _ _ (by have := HMB.out; show _ ≠ mb; omega), Below.heap_setCell _ _ _ _ (by have := HMB.out; show _ ≠ mb; omega), Below.heap_setCell _ _ _ _ (by have := HMB.out; show _ ≠ mb; omega)]
    exact (hbn.block _ (by simp; omega)).trans hgw
   rw [htv, htA, htq, htr2]
   exact OwnI.blk1 hg5 (by have := HBS.out; omega))
  clear htA htq i1 htr2 hc0 hct hgt m0 m1 m2 mz ml hE_w5 hgw hbn hbn' HMn
 all_goals (
  have HTK := hQ0 htk
  have HTV := hQ0 htv
  have hbs5 : bs ≤ w5.heap.size := by have := HB5.out.size; have := HBS.out; omega
  clear t7 htr hltT HM1 hz1
  have hHB5 : Below w.heap.size w w5 := HB1.out.trans (HB5.out.mono (by omega))
  have HT5 : Hid (BoxAt w5 w.heap.size TC) := hQ0 (HT1.out.below HB5.out hwm)
  refine wp_of_end (stmt_tb w5 w.heap.size mb bs ⟨rad, bal, rst, gx, gy, drg, shf, tr, ws, ars, ps, fs, zs, ss, las, rs, ds, lns⟩ ⟨_, ctr, Aws, cws, Aars, cars, Aps, cps, Afs, cfs, Azs, czs, Ass, css, Alas, clas, Ars, crs, Ads, cds, Alns, clns⟩ TC tk tvals tA tq _ _ (by rfl) (by rfl) (by rfl) HTC.out HT5.out HM5.out HTO.out hbs5 htk htv _ ?_) (fun _ _ h => h)
  clear HTO HM5 htk htv
  intro F_ w6 A0 c0 hF_ h1_ h2_ h3_ h5_ hb_ hX_
  obtain ⟨sT, rfl⟩ := fr501_ex F_ hF_
  have e1_ : sT 1 = .pointer (some ⟨w.heap.size, 0, none⟩) := Option.some.inj h1_
  obtain ⟨L0, hL0⟩ : ∃ z : List IV, z = [itTb ⟨rad, bal, rst, gx, gy, drg, shf, tr, ws, ars, ps, fs, zs, ss, las, rs, ds, lns⟩] := ⟨_, rfl⟩
  rw [← hL0] at hX_ h5_
  have e5_ : sT 5 = .slice A0 L0.length c0 := Option.some.inj h5_
  have HX2 := hQ0 hX_
  have HB2 : Hid (Below w.heap.size w w6) := hQ0 (hHB5.trans (hb_.mono (by omega)))
  have HT2 := hQ0 (HT5.out.below hb_ HT5.out.lt)
  have hbw6 : bs ≤ w6.heap.size := Nat.le_trans hbs5 hb_.size
  have HL0 := hQ0 hL0
  have HLn0 : Hid (L0.length ≤ 1) := hQ0 (by rw [hL0]; exact Nat.le_refl _)
  clear hX_ hb_ HT5 HB5 hHB5 hL0 HT1 HB1 h1_ h2_ h3_ h5_ hF_ hbs5
  unfold fr501
  rw [e1_, e5_]
  clear e1_ e5_
  show _
  go_upto_region 5 with (fail)
  refine wp_region_lit ?_
  have hS_ : Below w6.heap.size w6 w6 := Below.refl _ _
  iterate 4 (apply wpL_maybe true (by exact rfl); (case h => intro _; have hcW_ := (bcellW hS_).1; have hY_ := (HT2.out).below hS_ (HT2.out.lt); have y0_ := hY_.c 8 (.slice Aws ws.length cws) ((by rw [HTC.out]; rfl)); go_simp; try exact rfl); intro K hK; go_simp; apply hK; clear hK K)
  refine wpList_nil ?_
  (try go_simp)
  go_step
  clear hS_
  refine lt_ws w w6 bs Aws A0 cws c0 ws L0 TC _ _ (by rfl) (by rfl) (by rfl) (by rfl) (by rfl) HA.out.ws HL.out.ws (by have := HLn0.out; omega) (by omega) HB2.out hbw6 HT2.out HX2.out _ ?_ ?_
  · intro hne F_ w9 hF_ h2_ h3_ hb_
    obtain rfl : R = (⟨#[]⟩, false) := HRr.out.trans (if_pos hne)
    obtain ⟨sE, rfl⟩ := fr501_ex F_ hF_
    have e2_ : sE 2 = .string ⟨#[]⟩ := Option.some.inj h2_
    have e3_ : sE 3 = .bool false := Option.some.inj h3_
    unfold fr501
    rw [e2_, e3_]
    clear HX2 HT2 HB2
    go_wp2_with fail
    refine bodyPost_ret (v := .tuple #[.string ⟨#[]⟩, .bool false]) (by simp only [results, Tryz.results17]; go_simp) rfl ?_
    exact ⟨rfl, hb_⟩
  intro hkd F_ wL0 A1 c1 hF_ h1_ h4_ h5_ hb_ hbw_ hT_ hX_
  have HKD := hQ0 hkd
  clear hkd
  clear HB2 HT2 HX2
  obtain ⟨s0, rfl⟩ := fr501_ex F_ hF_
  have e1_ : s0 1 = .pointer (some ⟨w.heap.size, 0, none⟩) := Option.some.inj h1_
  obtain ⟨L1, hL1⟩ : ∃ z : List IV, z = L0 ++ ws.map itWl := ⟨_, rfl⟩
  rw [← hL1] at hX_ h5_
  have e5_ : s0 5 = .slice A1 L1.length c1 := Option.some.inj h5_
  have HX2 := hQ0 hX_
  have HB2 := hQ0 hb_
  have HT2 := hQ0 hT_
  have hbwL0 := hbw_
  have HL1 := hQ0 hL1
  have HLn1 : Hid (L1.length ≤ 1001) := hQ0 (by rw [hL1, List.length_append, List.length_map]; have h1 := HLn0.out; have h2 := HL.out.ws; simp only at h2; omega)
  clear hX_ hb_ hT_ hL1 h5_ h1_ hF_
  unfold fr501
  rw [e1_, e5_]
  clear e1_ e5_
  show _
  obtain rfl : ars = [] := List.eq_nil_of_length_eq_zero (Nat.le_zero.1 H9.out.ars)
  obtain rfl : ps = [] := List.eq_nil_of_length_eq_zero (Nat.le_zero.1 H9.out.ps)
  obtain rfl : fs = [] := List.eq_nil_of_length_eq_zero (Nat.le_zero.1 H9.out.fs)
  obtain rfl : zs = [] := List.eq_nil_of_length_eq_zero (Nat.le_zero.1 H9.out.zs)
  obtain rfl : ss = [] := List.eq_nil_of_length_eq_zero (Nat.le_zero.1 H9.out.ss)
  obtain rfl : las = [] := List.eq_nil_of_length_eq_zero (Nat.le_zero.1 H9.out.las)
  obtain rfl : rs = [] := List.eq_nil_of_length_eq_zero (Nat.le_zero.1 H9.out.rs)
  obtain rfl : ds = [] := List.eq_nil_of_length_eq_zero (Nat.le_zero.1 H9.out.ds)
  obtain rfl : lns = [] := List.eq_nil_of_length_eq_zero (Nat.le_zero.1 H9.out.lns)
  have t9_ := HT2.out.c 9 (.slice Aars 0 cars) (by rw [HTC.out]; rfl)
  have t10_ := HT2.out.c 10 (.slice Aps 0 cps) (by rw [HTC.out]; rfl)
  have t11_ := HT2.out.c 11 (.slice Afs 0 cfs) (by rw [HTC.out]; rfl)
  have t12_ := HT2.out.c 12 (.slice Azs 0 czs) (by rw [HTC.out]; rfl)
  have t13_ := HT2.out.c 13 (.slice Ass 0 css) (by rw [HTC.out]; rfl)
  have t14_ := HT2.out.c 14 (.slice Alas 0 clas) (by rw [HTC.out]; rfl)
  have t15_ := HT2.out.c 15 (.slice Ars 0 crs) (by rw [HTC.out]; rfl)
  have t16_ := HT2.out.c 16 (.slice Ads 0 cds) (by rw [HTC.out]; rfl)
  have t17_ := HT2.out.c 17 (.slice Alns 0 clns) (by rw [HTC.out]; rfl)
  have hlt_ := HT2.out.lt
  go_upto_region 61 with (refine wp_loop_rounds 1 ?_; rw [rounds_succ])
  clear t9_ t10_ t11_ t12_ t13_ t14_ t15_ t16_ t17_ hlt_
  have hIt : L1 = Tb.items ⟨rad, bal, rst, gx, gy, drg, shf, tr, ws, [], [], [], [], [], [], [], [], []⟩ := by
   unfold Tb.items
   rw [HL1.out, HL0.out]
   simp only [List.map_nil, List.append_nil]
  have hTB10 := HTB.out.below HB2.out HTB.out.three
  have KF := format_any L1 A1 c1 wL0 HX2.out.at hTB10 (by have := HLn1.out; omega) (by rw [hIt]; exact HK.out) (by rw [hIt]; exact HSZ.out)
  have hFm : fmtR L1 = fmtR (Tb.items ⟨rad, bal, rst, gx, gy, drg, shf, tr, ws, [], [], [], [], [], [], [], [], []⟩) := by rw [hIt]
  obtain ⟨⟨S, ok⟩, hS⟩ : ∃ z, z = fmtR L1 := ⟨_, rfl⟩
  rw [← hS] at KF hFm
  have HF := hQ0 hFm
  have KF := hQ0 KF
  clear hIt hFm hS HX2 HLn0 HLn1 HL0 HL1
  have hzw : w.heap.size < wL0.heap.size := HT2.out.lt
  cases ok
  case false =>
   obtain rfl : R = (⟨#[]⟩, false) := HRr.out.trans (by unfold textR; rw [if_neg (fun h => h HKD.out), ← HF.out, if_pos rfl])
   go_wp2_with (go_at_call 59; refine KF.out.mono ?_; rintro e w10 ⟨rfl, hb10⟩)
   refine bodyPost_ret (v := .tuple #[.string ⟨#[]⟩, .bool false]) (by simp only [results, Tryz.results17]; go_simp) rfl ?_
   exact ⟨rfl, HB2.out.trans (hb10.mono (by omega))⟩
  case true =>
   go_upto_region 64 with (go_at_call 59; refine KF.out.mono ?_; rintro e w10 ⟨rfl, hb10⟩)
   have HB10 : Hid (Below w.heap.size w w10) := hQ0 (HB2.out.trans (hb10.mono (by omega)))
   have HT10 := hQ0 (HT2.out.below hb10 hzw)
   have hzw10 : w.heap.size < w10.heap.size := HT10.out.lt
   clear HB2 HT2 hb10 KF
   have HS : Hid (S.size ≤ maxLen) := hQ0 (by
    have hq := HF.out
    unfold fmtR at hq
    split at hq
    · cases hq
    · have h1 := congrArg Prod.fst hq
      simp only at h1
      rw [h1]
      have h2 := HSZ.out
      show (textB _).toArray.size ≤ maxLen
      rw [List.size_toArray]
      unfold maxLen
      omega)
   refine wp_of_end (text_r64 S w10 HS.out (HTB.out.below HB10.out HTB.out.three) (by have h := HW0.out; rw [← HF.out] at h; exact h) _ _ (by rfl) (by rfl) _ ?_) (fun _ _ h => h)
   intro F_ w11 tb2 a3 hF_ h1_ h2_ h3_ h28_ h30_ h31_ hb_ hX_ hT_ hn_
   obtain ⟨s11, rfl⟩ := fr501_ex F_ hF_
   have e1_ : s11 1 = .pointer (some ⟨w.heap.size, 0, none⟩) := Option.some.inj h1_
   have e28_ : s11 28 = .string S := Option.some.inj h28_
   have e30_ : s11 30 = .pointer (some ⟨tb2, 0, none⟩) := Option.some.inj h30_
   have e31_ : s11 31 = .int .i64 (compileR S).2.1 := Option.some.inj h31_
   have HB11 : Hid (Below w.heap.size w w11) := hQ0 (HB10.out.trans (hb_.mono (by omega)))
   have HX11 : Hid (BoxAt w11 w.heap.size (Tb.cells ⟨rad, bal, rst, gx, gy, drg, shf, tr, ws, [], [], [], [], [], [], [], [], []⟩ a2)) := hQ0 (by rw [← HTC2.out]; exact HT10.out.below hb_ hzw10)
   have HY11 := hQ0 hX_
   have HC11 := hQ0 hT_
   have HN11 := hQ0 hn_
   clear h1_ h2_ h3_ h28_ h30_ h31_ hb_ hX_ hT_ hn_ hF_ HB10 HT10
   unfold fr501
   rw [e1_, e28_, e30_, e31_]
   clear e1_ e28_ e30_ e31_
   show _
   go_upto_region 65 with (fail)
   obtain ⟨n3, hn3, hn3'⟩ := HN11.out
   have hle3 : Tb.le ⟨rad, bal, rst, gx, gy, drg, shf, tr, ws, [], [], [], [], [], [], [], [], []⟩ 10000 := by
    have h := HL.out
    exact ⟨Nat.le_trans h.tr (by decide), Nat.le_trans h.ws (by decide), Nat.le_trans h.ars (by decide), Nat.le_trans h.ps (by decide), Nat.le_trans h.fs (by decide), Nat.le_trans h.zs (by decide), Nat.le_trans h.ss (by decide), Nat.le_trans h.las (by decide), Nat.le_trans h.rs (by decide), Nat.le_trans h.ds (by decide), Nat.le_trans h.lns (by decide)⟩
   have hle4 : (compileR S).1.le 10000 := ⟨Nat.le_trans hn3.tr (Nat.mul_le_mul_left 7 hn3'), Nat.le_trans hn3.ws hn3', Nat.le_trans hn3.ars hn3', Nat.le_trans hn3.ps hn3', Nat.le_trans hn3.fs hn3', Nat.le_trans hn3.zs hn3', Nat.le_trans hn3.ss hn3', Nat.le_trans hn3.las hn3', Nat.le_trans hn3.rs hn3', Nat.le_trans hn3.ds hn3', Nat.le_trans hn3.lns hn3'⟩
   have KR := fun df F h0 h1 h2 h3 R => text_r65 ⟨rad, bal, rst, gx, gy, drg, shf, tr, ws, [], [], [], [], [], [], [], [], []⟩ (compileR S).1 a2 a3 (compileR S).2.1 10000 w.heap.size tb2 w11 HX11.out HY11.out (HA2.out.below HB11.out (Nat.le_refl _)) HC11.out hle3 hle4 (Nat.le_refl _) H9.out df F h0 h1 h2 h3 R
   clear hle3 hle4 hn3 hn3'
   refine wp_of_end (KR _ _ (by rfl) (by rfl) (by rfl) (by rfl) _ ?_) (fun _ _ h => h)
   clear KR
   intro F_ w12 d hF_ h2_ h3_ h28_ h499_ hd_ hb_
   obtain ⟨s12, rfl⟩ := fr501_ex F_ hF_
   have e28_ : s12 28 = .string S := Option.some.inj h28_
   have e499_ : s12 499 = .bool d := Option.some.inj h499_
   have HB12 : Hid (Below w.heap.size w w12) := hQ0 (HB11.out.trans (hb_.mono HB11.out.size))
   have HD := hQ0 hd_
   clear h2_ h3_ h28_ h499_ hb_ hd_ hF_ HX11 HY11 HC11 HN11 HB11
   unfold fr501
   rw [e28_, e499_]
   clear e28_ e499_
   show _
   cases d
   case true =>
    obtain rfl : R = (⟨#[]⟩, false) := HRr.out.trans (by unfold textR; rw [if_neg (fun h => h HKD.out), ← HF.out, if_neg (by simp), if_pos (HD.out.1 rfl)])
    go_wp2_with fail
    refine bodyPost_ret (v := .tuple #[.string ⟨#[]⟩, .bool false]) (by simp only [results, Tryz.results17]; go_simp) rfl ?_
    exact ⟨rfl, HB12.out⟩
   case false =>
    obtain rfl : R = (S, true) := HRr.out.trans (by unfold textR; rw [if_neg (fun h => h HKD.out), ← HF.out, if_neg (by simp), if_neg (fun h => by cases HD.out.2 h)])
    go_wp2_with fail
    refine bodyPost_ret (v := .tuple #[.string S, .bool true]) (by simp only [results, Tryz.results17]; go_simp) rfl ?_
    exact ⟨rfl, HB12.out⟩)
end Go.Proofs.YtbpcjpiaimdpnaaGreatDoor
