/- Merged texts: LcEw LcJ LcH LcI ScanC ScanG LcPw LcAwall. -/
import Derived.Test.YtbpcjpiaimdpnaaGreatDoorCk5
import Derived.Test.YtbpcjpiaimdpnaaGreatDoorCk6
import Derived.Deep.LoopGhost
import Derived.Deep.Cut
import Derived.Lib.Join
set_option linter.unusedSimpArgs false
set_option linter.unusedVariables false
namespace Go.Proofs.YtbpcjpiaimdpnaaGreatDoor
open Go Go.RowKit
set_option linter.unusedVariables false
theorem txt_inj {a b : ByteArray} (h : a.toList = b.toList) : a = b := by
 rw [ByteArray.toList_eq, ByteArray.toList_eq] at h
 exact ByteArray.ext (Array.ext' h)
def eqI (x y : Int) : Bool := decide (x = y)
theorem eqI_iff {x y : Int} : eqI x y = true ↔ x = y := by simp [eqI]
set_option maxRecDepth 100000 in
set_option maxHeartbeats 4000000 in
theorem eq_is (l m : List Int) (A B : Option Addr) (c d : Nat) (w : World) (hA : IsAt w A l) (hB : IsAt w B m) (h1 : l.length ≤ 1000000) (h2 : m.length ≤ 1000000) :
  Calls Tryz.prog 45 #[.slice A l.length c, .slice B m.length d] w fun e w' => e = .returned (.bool (eqL eqI l m)) ∧ Below w.heap.size w w' := by
 by_cases hlm : l.length = m.length
 · obtain ⟨R, hR⟩ : ∃ R, R = eqL eqI l m := ⟨_, rfl⟩
   rw [← hR]
   have HR : Hid (eqL eqI (l.drop 0) (m.drop 0) = R) := hQ0 (by rw [hR]; rfl)
   have HA := hQ0 hA
   have HB := hQ0 hB
   have HLM := hQ0 hlm
   rw [← hlm]
   clear hR hA hB hlm
   go_enter Tryz.func45, Tryz.ntmps45; (try simp only [List.append_eq, List.cons_append, List.nil_append])
   go_wp2_with fail
   go_loopw [13] (fun t wr => ∃ k : Nat, k ≤ l.length ∧ t = .int .i64 k ∧ Below w.heap.size w wr ∧ Hid (eqL eqI (l.drop k) (m.drop k) = R)) (fun t _ => l.length - (intOf t).toNat)
   case atStart => exact ⟨0, by omega, rfl, Below.refl _ _, HR⟩
   case round =>
    obtain ⟨k, hk, rfl, hb_wr, HJ⟩ := hrel
    have hz_wr := hb_wr.size
    by_cases hlt : k < l.length
    · obtain ⟨x, hx⟩ : ∃ x, l[k]? = some x := ⟨l[k], by simp⟩
      obtain ⟨y, hy⟩ : ∃ y, m[k]? = some y := ⟨m[k]'(by have := HLM.out; omega), by simp⟩
      obtain ⟨g, o, rfl, hg, c0⟩ := IsAt.get (HA.out.below hb_wr (Nat.le_refl _)) hx
      obtain ⟨g', o', rfl, hg', d0⟩ := IsAt.get (HB.out.below hb_wr (Nat.le_refl _)) hy
      have HST := hQ0 (eqL_drop (f := eqI) hx hy)
      have i1 : (k : Int) < (l.length : Int) := by omega
      have i2 : (k : Int) < (m.length : Int) := by have := HLM.out; omega
      have HBe := hQ0 hb_wr
      clear hb_wr hx hy
      by_cases hxy : x = y
      · subst hxy
        have hnx : Hid (eqL eqI (l.drop (k + 1)) (m.drop (k + 1)) = R) := hQ0 (by rw [← HJ.out, HST.out, eqI_iff.2 rfl, Bool.true_and])
        clear HJ HR HST
        go_upto_region 6 with (fail)
        have hS_ : Below wr.heap.size wr wr.drew := (Below.refl _ _).drew
        refine wp_region_Y (Below wr.heap.size wr) 9 [] (by kernel_rfl) (by kernel_rfl) (by kernel_rfl) (by kernel_rfl) (fun _ _ _ _ _ h => h) hS_ ?_
        generalize wr.drew = wd_ at hS_ ⊢
        iterate 8 (apply wpY_seq 9 rfl (by kernel_rfl) true (by exact rfl); (case h => intro _ W_ hW_; have hcW_ := (bcellW hW_).1; go_simp; try exact rfl); intro K hK; go_simp; apply hK; clear hK K)
        apply wpY_maybe (i := 8) rfl (by kernel_rfl) true (by exact rfl) (.bool false)
        (case h => intro _ W_ hW_; have hcW_ := (bcellW hW_).1; go_simp; first | done | exact rfl | simp)
        intro K hK; go_simp; apply hK; clear hK K
        refine wpY_nil (by kernel_rfl) ?_
        (try simp only [List.filterMap_nil])
        (try go_simp)
        go_wp2_with fail
        go_roundw
        case rel => exact ⟨k + 1, by omega, by go_num, HBe.out.trans (hS_.mono hz_wr), hnx⟩
        case measure => simp [intOf]; omega
      · obtain rfl : R = false := by rw [← HJ.out, HST.out, Bool.eq_false_iff.2 (fun h => hxy (eqI_iff.1 h))]; rfl
        have HNE := hQ0 hxy
        clear HJ HR HST hxy
        go_upto_region 6 with (fail)
        have hS_ : Below wr.heap.size wr wr.drew := (Below.refl _ _).drew
        refine wp_region_Y (Below wr.heap.size wr) 9 [] (by kernel_rfl) (by kernel_rfl) (by kernel_rfl) (by kernel_rfl) (fun _ _ _ _ _ h => h) hS_ ?_
        generalize wr.drew = wd_ at hS_ ⊢
        iterate 8 (apply wpY_seq 9 rfl (by kernel_rfl) true (by exact rfl); (case h => intro _ W_ hW_; have hcW_ := (bcellW hW_).1; go_simp; try exact rfl); intro K hK; go_simp; apply hK; clear hK K)
        apply wpY_maybe (i := 8) rfl (by kernel_rfl) true (by exact rfl) (.bool true)
        (case h => intro _ W_ hW_; have hcW_ := (bcellW hW_).1; go_simp; first | done | exact HNE.out | simp [HNE.out])
        intro K hK; go_simp; apply hK; clear hK K
        refine wpY_nil (by kernel_rfl) ?_
        (try simp only [List.filterMap_nil])
        (try go_simp)
        go_wp2_with fail
        go_ret
        exact ⟨rfl, HBe.out.trans (hS_.mono hz_wr)⟩
    · obtain rfl : k = l.length := by omega
      obtain rfl : R = true := by rw [← HJ.out]; exact eqL_end (Nat.le_refl _) (by have := HLM.out; omega)
      go_wp2_with fail
      go_ret
      exact ⟨rfl, hb_wr⟩
 · rw [eqL_len hlm]
   have i0 : ¬ (l.length : Int) = (m.length : Int) := by omega
   go_enter Tryz.func45, Tryz.ntmps45; (try simp only [List.append_eq, List.cons_append, List.nil_append])
   go_wp2_with fail
   go_ret
   exact ⟨rfl, Below.refl _ _⟩
def Wl.eqB (x y : Wl) : Bool := decide (x.nm = y.nm) && decide (x.kd = y.kd) && decide (x.lv = y.lv) && decide (x.a1 = y.a1) && decide (x.a2 = y.a2) && decide (x.b1 = y.b1) && decide (x.b2 = y.b2) && decide (x.rs = y.rs) && decide (x.gr = y.gr) && decide (x.kk = y.kk) && decide (x.mn = y.mn) && decide (x.cl = y.cl) && decide (x.sw = y.sw)
theorem Wl.eqB_iff {x y : Wl} : Wl.eqB x y = true ↔ x = y := by
 cases x; cases y
 simp [Wl.eqB, and_assoc]
set_option maxRecDepth 100000 in
set_option maxHeartbeats 4000000 in
theorem eq_ws (l m : List Wl) (A B : Option Addr) (c d : Nat) (w : World) (hA : RowsAt 13 Wl.cells w A l) (hB : RowsAt 13 Wl.cells w B m) (h1 : l.length ≤ 1000000) (h2 : m.length ≤ 1000000) :
  Calls Tryz.prog 46 #[.slice A l.length c, .slice B m.length d] w fun e w' => e = .returned (.bool (eqL Wl.eqB l m)) ∧ Below w.heap.size w w' := by
 by_cases hlm : l.length = m.length
 · obtain ⟨R, hR⟩ : ∃ R, R = eqL Wl.eqB l m := ⟨_, rfl⟩
   rw [← hR]
   have HR : Hid (eqL Wl.eqB (l.drop 0) (m.drop 0) = R) := hQ0 (by rw [hR]; rfl)
   have HA := hQ0 hA
   have HB := hQ0 hB
   have HLM := hQ0 hlm
   rw [← hlm]
   clear hR hA hB hlm
   go_enter Tryz.func46, Tryz.ntmps46; (try simp only [List.append_eq, List.cons_append, List.nil_append])
   go_wp2_with fail
   go_loopw [13] (fun t wr => ∃ k : Nat, k ≤ l.length ∧ t = .int .i64 k ∧ Below w.heap.size w wr ∧ Hid (eqL Wl.eqB (l.drop k) (m.drop k) = R)) (fun t _ => l.length - (intOf t).toNat)
   case atStart => exact ⟨0, by omega, rfl, Below.refl _ _, HR⟩
   case round =>
    obtain ⟨k, hk, rfl, hb_wr, HJ⟩ := hrel
    have hz_wr := hb_wr.size
    by_cases hlt : k < l.length
    · obtain ⟨x, hx⟩ : ∃ x, l[k]? = some x := ⟨l[k], by simp⟩
      obtain ⟨y, hy⟩ : ∃ y, m[k]? = some y := ⟨m[k]'(by have := HLM.out; omega), by simp⟩
      obtain ⟨g, o, rfl, hg, c0, c1, c2, c3, c4, c5, c6, c7, c8, c9, c10, c11, c12⟩ := Wl.get (HA.out.below hb_wr (Nat.le_refl _)) hx
      obtain ⟨g', o', rfl, hg', d0, d1, d2, d3, d4, d5, d6, d7, d8, d9, d10, d11, d12⟩ := Wl.get (HB.out.below hb_wr (Nat.le_refl _)) hy
      have HST := hQ0 (eqL_drop (f := Wl.eqB) hx hy)
      have i1 : (k : Int) < (l.length : Int) := by omega
      have i2 : (k : Int) < (m.length : Int) := by have := HLM.out; omega
      have HBe := hQ0 hb_wr
      clear hb_wr hx hy
      by_cases hxy : x = y
      · subst hxy
        have hnx : Hid (eqL Wl.eqB (l.drop (k + 1)) (m.drop (k + 1)) = R) := hQ0 (by rw [← HJ.out, HST.out, Wl.eqB_iff.2 rfl, Bool.true_and])
        clear HJ HR HST
        go_upto_region 6 with (fail)
        have hS_ : Below wr.heap.size wr wr.drew := (Below.refl _ _).drew
        refine wp_region_Y (Below wr.heap.size wr) 9 [] (by kernel_rfl) (by kernel_rfl) (by kernel_rfl) (by kernel_rfl) (fun _ _ _ _ _ h => h) hS_ ?_
        generalize wr.drew = wd_ at hS_ ⊢
        iterate 8 (apply wpY_seq 9 rfl (by kernel_rfl) true (by exact rfl); (case h => intro _ W_ hW_; have hcW_ := (bcellW hW_).1; go_simp; try exact rfl); intro K hK; go_simp; apply hK; clear hK K)
        apply wpY_maybe (i := 8) rfl (by kernel_rfl) true (by exact rfl) (.bool false)
        (case h => intro _ W_ hW_; have hcW_ := (bcellW hW_).1; go_simp; first | done | exact rfl | simp)
        intro K hK; go_simp; apply hK; clear hK K
        refine wpY_nil (by kernel_rfl) ?_
        (try simp only [List.filterMap_nil])
        (try go_simp)
        go_wp2_with fail
        go_roundw
        case rel => exact ⟨k + 1, by omega, by go_num, HBe.out.trans (hS_.mono hz_wr), hnx⟩
        case measure => simp [intOf]; omega
      · obtain rfl : R = false := by rw [← HJ.out, HST.out, Bool.eq_false_iff.2 (fun h => hxy (Wl.eqB_iff.1 h))]; rfl
        have HNE := hQ0 hxy
        clear HJ HR HST hxy
        go_upto_region 6 with (fail)
        have hS_ : Below wr.heap.size wr wr.drew := (Below.refl _ _).drew
        refine wp_region_Y (Below wr.heap.size wr) 9 [] (by kernel_rfl) (by kernel_rfl) (by kernel_rfl) (by kernel_rfl) (fun _ _ _ _ _ h => h) hS_ ?_
        generalize wr.drew = wd_ at hS_ ⊢
        iterate 8 (apply wpY_seq 9 rfl (by kernel_rfl) true (by exact rfl); (case h => intro _ W_ hW_; have hcW_ := (bcellW hW_).1; go_simp; try exact rfl); intro K hK; go_simp; apply hK; clear hK K)
        apply wpY_maybe (i := 8) rfl (by kernel_rfl) true (by exact rfl) (.bool true)
        (case h => intro _ W_ hW_; have hcW_ := (bcellW hW_).1; go_simp; first | done | (intro h_0 h_1 h_2 h_3 h_4 h_5 h_6 h_7 h_8 h_9 h_10 h_11 h_12; apply HNE.out; replace h_0 := txt_inj h_0; cases x; cases y; simp only at h_0 h_1 h_2 h_3 h_4 h_5 h_6 h_7 h_8 h_9 h_10 h_11 h_12; subst h_0 h_1 h_2 h_3 h_4 h_5 h_6 h_7 h_8 h_9 h_10 h_11 h_12; rfl))
        intro K hK; go_simp; apply hK; clear hK K
        refine wpY_nil (by kernel_rfl) ?_
        (try simp only [List.filterMap_nil])
        (try go_simp)
        go_wp2_with fail
        go_ret
        exact ⟨rfl, HBe.out.trans (hS_.mono hz_wr)⟩
    · obtain rfl : k = l.length := by omega
      obtain rfl : R = true := by rw [← HJ.out]; exact eqL_end (Nat.le_refl _) (by have := HLM.out; omega)
      go_wp2_with fail
      go_ret
      exact ⟨rfl, hb_wr⟩
 · rw [eqL_len hlm]
   have i0 : ¬ (l.length : Int) = (m.length : Int) := by omega
   go_enter Tryz.func46, Tryz.ntmps46; (try simp only [List.append_eq, List.cons_append, List.nil_append])
   go_wp2_with fail
   go_ret
   exact ⟨rfl, Below.refl _ _⟩
def Ac.eqB (x y : Ac) : Bool := decide (x.nm = y.nm) && decide (x.lv = y.lv) && decide (x.c1 = y.c1) && decide (x.c2 = y.c2) && decide (x.s1 = y.s1) && decide (x.s2 = y.s2) && decide (x.e1 = y.e1) && decide (x.e2 = y.e2) && decide (x.rs = y.rs) && decide (x.gr = y.gr) && decide (x.mn = y.mn) && decide (x.sw = y.sw)
theorem Ac.eqB_iff {x y : Ac} : Ac.eqB x y = true ↔ x = y := by
 cases x; cases y
 simp [Ac.eqB, and_assoc]
set_option maxRecDepth 100000 in
set_option maxHeartbeats 4000000 in
theorem eq_ars (l m : List Ac) (A B : Option Addr) (c d : Nat) (w : World) (h1 : l.length ≤ 1000000) (h2 : m.length ≤ 0) :
  Calls Tryz.prog 47 #[.slice A l.length c, .slice B m.length d] w fun e w' => e = .returned (.bool (eqL Ac.eqB l m)) ∧ Below w.heap.size w w' := by
 obtain rfl : m = [] := List.eq_nil_of_length_eq_zero (Nat.le_zero.1 h2)
 by_cases hlm : l.length = 0
 · obtain rfl : l = [] := List.eq_nil_of_length_eq_zero hlm
   go_enter Tryz.func47, Tryz.ntmps47; (try simp only [List.append_eq, List.cons_append, List.nil_append])
   go_wp2_with fail
   go_loopg [13] 1 (fun gk t wr => t = .int .i64 0 ∧ Below w.heap.size w wr)
   case atStart => exact ⟨rfl, Below.refl _ _⟩
   case round =>
    obtain ⟨rfl, hb⟩ := hrel
    go_wp2_with fail
    go_ret
    exact ⟨rfl, hb⟩
 · rw [eqL_len (m := []) hlm]
   have i0 : ¬ (l.length : Int) = 0 := by omega
   go_enter Tryz.func47, Tryz.ntmps47; (try simp only [List.append_eq, List.cons_append, List.nil_append])
   go_wp2_with fail
   go_ret
   exact ⟨rfl, Below.refl _ _⟩
def Ps.eqB (x y : Ps) : Bool := decide (x.nm = y.nm) && decide (x.lv = y.lv) && decide (x.c1 = y.c1) && decide (x.c2 = y.c2) && decide (x.sz = y.sz) && decide (x.rs = y.rs) && decide (x.gr = y.gr) && decide (x.kk = y.kk) && decide (x.mn = y.mn) && decide (x.cl = y.cl) && decide (x.sw = y.sw)
theorem Ps.eqB_iff {x y : Ps} : Ps.eqB x y = true ↔ x = y := by
 cases x; cases y
 simp [Ps.eqB, and_assoc]
set_option maxRecDepth 100000 in
set_option maxHeartbeats 4000000 in
theorem eq_ps (l m : List Ps) (A B : Option Addr) (c d : Nat) (w : World) (h1 : l.length ≤ 1000000) (h2 : m.length ≤ 0) :
  Calls Tryz.prog 48 #[.slice A l.length c, .slice B m.length d] w fun e w' => e = .returned (.bool (eqL Ps.eqB l m)) ∧ Below w.heap.size w w' := by
 obtain rfl : m = [] := List.eq_nil_of_length_eq_zero (Nat.le_zero.1 h2)
 by_cases hlm : l.length = 0
 · obtain rfl : l = [] := List.eq_nil_of_length_eq_zero hlm
   go_enter Tryz.func48, Tryz.ntmps48; (try simp only [List.append_eq, List.cons_append, List.nil_append])
   go_wp2_with fail
   go_loopg [13] 1 (fun gk t wr => t = .int .i64 0 ∧ Below w.heap.size w wr)
   case atStart => exact ⟨rfl, Below.refl _ _⟩
   case round =>
    obtain ⟨rfl, hb⟩ := hrel
    go_wp2_with fail
    go_ret
    exact ⟨rfl, hb⟩
 · rw [eqL_len (m := []) hlm]
   have i0 : ¬ (l.length : Int) = 0 := by omega
   go_enter Tryz.func48, Tryz.ntmps48; (try simp only [List.append_eq, List.cons_append, List.nil_append])
   go_wp2_with fail
   go_ret
   exact ⟨rfl, Below.refl _ _⟩
def Fl.eqB (x y : Fl) : Bool := decide (x.nm = y.nm) && decide (x.lv = y.lv) && decide (x.p1 = y.p1) && decide (x.p2 = y.p2) && decide (x.ln = y.ln) && decide (x.mi = y.mi) && decide (x.lo = y.lo) && decide (x.hi = y.hi) && decide (x.up = y.up) && decide (x.dn = y.dn) && decide (x.mx = y.mx) && decide (x.rs = y.rs) && decide (x.gr = y.gr) && decide (x.cl = y.cl) && decide (x.sw = y.sw)
theorem Fl.eqB_iff {x y : Fl} : Fl.eqB x y = true ↔ x = y := by
 cases x; cases y
 simp [Fl.eqB, and_assoc]
set_option maxRecDepth 100000 in
set_option maxHeartbeats 4000000 in
theorem eq_fs (l m : List Fl) (A B : Option Addr) (c d : Nat) (w : World) (h1 : l.length ≤ 1000000) (h2 : m.length ≤ 0) :
  Calls Tryz.prog 49 #[.slice A l.length c, .slice B m.length d] w fun e w' => e = .returned (.bool (eqL Fl.eqB l m)) ∧ Below w.heap.size w w' := by
 obtain rfl : m = [] := List.eq_nil_of_length_eq_zero (Nat.le_zero.1 h2)
 by_cases hlm : l.length = 0
 · obtain rfl : l = [] := List.eq_nil_of_length_eq_zero hlm
   go_enter Tryz.func49, Tryz.ntmps49; (try simp only [List.append_eq, List.cons_append, List.nil_append])
   go_wp2_with fail
   go_loopg [13] 1 (fun gk t wr => t = .int .i64 0 ∧ Below w.heap.size w wr)
   case atStart => exact ⟨rfl, Below.refl _ _⟩
   case round =>
    obtain ⟨rfl, hb⟩ := hrel
    go_wp2_with fail
    go_ret
    exact ⟨rfl, hb⟩
 · rw [eqL_len (m := []) hlm]
   have i0 : ¬ (l.length : Int) = 0 := by omega
   go_enter Tryz.func49, Tryz.ntmps49; (try simp only [List.append_eq, List.cons_append, List.nil_append])
   go_wp2_with fail
   go_ret
   exact ⟨rfl, Below.refl _ _⟩
def Zn.eqB (x y : Zn) : Bool := decide (x.nm = y.nm) && decide (x.lv = y.lv) && decide (x.l1 = y.l1) && decide (x.l2 = y.l2) && decide (x.h1 = y.h1) && decide (x.h2 = y.h2) && decide (x.f1 = y.f1) && decide (x.f2 = y.f2) && decide (x.cl = y.cl)
theorem Zn.eqB_iff {x y : Zn} : Zn.eqB x y = true ↔ x = y := by
 cases x; cases y
 simp [Zn.eqB, and_assoc]
set_option maxRecDepth 100000 in
set_option maxHeartbeats 4000000 in
theorem eq_zs (l m : List Zn) (A B : Option Addr) (c d : Nat) (w : World) (h1 : l.length ≤ 1000000) (h2 : m.length ≤ 0) :
  Calls Tryz.prog 50 #[.slice A l.length c, .slice B m.length d] w fun e w' => e = .returned (.bool (eqL Zn.eqB l m)) ∧ Below w.heap.size w w' := by
 obtain rfl : m = [] := List.eq_nil_of_length_eq_zero (Nat.le_zero.1 h2)
 by_cases hlm : l.length = 0
 · obtain rfl : l = [] := List.eq_nil_of_length_eq_zero hlm
   go_enter Tryz.func50, Tryz.ntmps50; (try simp only [List.append_eq, List.cons_append, List.nil_append])
   go_wp2_with fail
   go_loopg [13] 1 (fun gk t wr => t = .int .i64 0 ∧ Below w.heap.size w wr)
   case atStart => exact ⟨rfl, Below.refl _ _⟩
   case round =>
    obtain ⟨rfl, hb⟩ := hrel
    go_wp2_with fail
    go_ret
    exact ⟨rfl, hb⟩
 · rw [eqL_len (m := []) hlm]
   have i0 : ¬ (l.length : Int) = 0 := by omega
   go_enter Tryz.func50, Tryz.ntmps50; (try simp only [List.append_eq, List.cons_append, List.nil_append])
   go_wp2_with fail
   go_ret
   exact ⟨rfl, Below.refl _ _⟩
def Sc.eqB (x y : Sc) : Bool := decide (x.nm = y.nm) && decide (x.lv = y.lv) && decide (x.c1 = y.c1) && decide (x.c2 = y.c2) && decide (x.sz = y.sz) && decide (x.lm = y.lm) && decide (x.o1 = y.o1) && decide (x.o2 = y.o2) && decide (x.cl = y.cl) && decide (x.sw = y.sw)
theorem Sc.eqB_iff {x y : Sc} : Sc.eqB x y = true ↔ x = y := by
 cases x; cases y
 simp [Sc.eqB, and_assoc]
set_option maxRecDepth 100000 in
set_option maxHeartbeats 4000000 in
theorem eq_ss (l m : List Sc) (A B : Option Addr) (c d : Nat) (w : World) (h1 : l.length ≤ 1000000) (h2 : m.length ≤ 0) :
  Calls Tryz.prog 51 #[.slice A l.length c, .slice B m.length d] w fun e w' => e = .returned (.bool (eqL Sc.eqB l m)) ∧ Below w.heap.size w w' := by
 obtain rfl : m = [] := List.eq_nil_of_length_eq_zero (Nat.le_zero.1 h2)
 by_cases hlm : l.length = 0
 · obtain rfl : l = [] := List.eq_nil_of_length_eq_zero hlm
   go_enter Tryz.func51, Tryz.ntmps51; (try simp only [List.append_eq, List.cons_append, List.nil_append])
   go_wp2_with fail
   go_loopg [13] 1 (fun gk t wr => t = .int .i64 0 ∧ Below w.heap.size w wr)
   case atStart => exact ⟨rfl, Below.refl _ _⟩
   case round =>
    obtain ⟨rfl, hb⟩ := hrel
    go_wp2_with fail
    go_ret
    exact ⟨rfl, hb⟩
 · rw [eqL_len (m := []) hlm]
   have i0 : ¬ (l.length : Int) = 0 := by omega
   go_enter Tryz.func51, Tryz.ntmps51; (try simp only [List.append_eq, List.cons_append, List.nil_append])
   go_wp2_with fail
   go_ret
   exact ⟨rfl, Below.refl _ _⟩
def La.eqB (x y : La) : Bool := decide (x.nm = y.nm) && decide (x.lv = y.lv) && decide (x.c1 = y.c1) && decide (x.c2 = y.c2) && decide (x.sz = y.sz) && decide (x.sw = y.sw)
theorem La.eqB_iff {x y : La} : La.eqB x y = true ↔ x = y := by
 cases x; cases y
 simp [La.eqB, and_assoc]
set_option maxRecDepth 100000 in
set_option maxHeartbeats 4000000 in
theorem eq_las (l m : List La) (A B : Option Addr) (c d : Nat) (w : World) (h1 : l.length ≤ 1000000) (h2 : m.length ≤ 0) :
  Calls Tryz.prog 52 #[.slice A l.length c, .slice B m.length d] w fun e w' => e = .returned (.bool (eqL La.eqB l m)) ∧ Below w.heap.size w w' := by
 obtain rfl : m = [] := List.eq_nil_of_length_eq_zero (Nat.le_zero.1 h2)
 by_cases hlm : l.length = 0
 · obtain rfl : l = [] := List.eq_nil_of_length_eq_zero hlm
   go_enter Tryz.func52, Tryz.ntmps52; (try simp only [List.append_eq, List.cons_append, List.nil_append])
   go_wp2_with fail
   go_loopg [13] 1 (fun gk t wr => t = .int .i64 0 ∧ Below w.heap.size w wr)
   case atStart => exact ⟨rfl, Below.refl _ _⟩
   case round =>
    obtain ⟨rfl, hb⟩ := hrel
    go_wp2_with fail
    go_ret
    exact ⟨rfl, hb⟩
 · rw [eqL_len (m := []) hlm]
   have i0 : ¬ (l.length : Int) = 0 := by omega
   go_enter Tryz.func52, Tryz.ntmps52; (try simp only [List.append_eq, List.cons_append, List.nil_append])
   go_wp2_with fail
   go_ret
   exact ⟨rfl, Below.refl _ _⟩
def Ra.eqB (x y : Ra) : Bool := decide (x.nm = y.nm) && decide (x.fr = y.fr) && decide (x.to = y.to) && decide (x.c1 = y.c1) && decide (x.c2 = y.c2) && decide (x.sz = y.sz) && decide (x.d1 = y.d1) && decide (x.d2 = y.d2)
theorem Ra.eqB_iff {x y : Ra} : Ra.eqB x y = true ↔ x = y := by
 cases x; cases y
 simp [Ra.eqB, and_assoc]
set_option maxRecDepth 100000 in
set_option maxHeartbeats 4000000 in
theorem eq_rs (l m : List Ra) (A B : Option Addr) (c d : Nat) (w : World) (h1 : l.length ≤ 1000000) (h2 : m.length ≤ 0) :
  Calls Tryz.prog 53 #[.slice A l.length c, .slice B m.length d] w fun e w' => e = .returned (.bool (eqL Ra.eqB l m)) ∧ Below w.heap.size w w' := by
 obtain rfl : m = [] := List.eq_nil_of_length_eq_zero (Nat.le_zero.1 h2)
 by_cases hlm : l.length = 0
 · obtain rfl : l = [] := List.eq_nil_of_length_eq_zero hlm
   go_enter Tryz.func53, Tryz.ntmps53; (try simp only [List.append_eq, List.cons_append, List.nil_append])
   go_wp2_with fail
   go_loopg [13] 1 (fun gk t wr => t = .int .i64 0 ∧ Below w.heap.size w wr)
   case atStart => exact ⟨rfl, Below.refl _ _⟩
   case round =>
    obtain ⟨rfl, hb⟩ := hrel
    go_wp2_with fail
    go_ret
    exact ⟨rfl, hb⟩
 · rw [eqL_len (m := []) hlm]
   have i0 : ¬ (l.length : Int) = 0 := by omega
   go_enter Tryz.func53, Tryz.ntmps53; (try simp only [List.append_eq, List.cons_append, List.nil_append])
   go_wp2_with fail
   go_ret
   exact ⟨rfl, Below.refl _ _⟩
def Dr.eqB (x y : Dr) : Bool := decide (x.nm = y.nm) && decide (x.lv = y.lv) && decide (x.c1 = y.c1) && decide (x.c2 = y.c2) && decide (x.sz = y.sz)
theorem Dr.eqB_iff {x y : Dr} : Dr.eqB x y = true ↔ x = y := by
 cases x; cases y
 simp [Dr.eqB, and_assoc]
set_option maxRecDepth 100000 in
set_option maxHeartbeats 4000000 in
theorem eq_ds (l m : List Dr) (A B : Option Addr) (c d : Nat) (w : World) (h1 : l.length ≤ 1000000) (h2 : m.length ≤ 0) :
  Calls Tryz.prog 54 #[.slice A l.length c, .slice B m.length d] w fun e w' => e = .returned (.bool (eqL Dr.eqB l m)) ∧ Below w.heap.size w w' := by
 obtain rfl : m = [] := List.eq_nil_of_length_eq_zero (Nat.le_zero.1 h2)
 by_cases hlm : l.length = 0
 · obtain rfl : l = [] := List.eq_nil_of_length_eq_zero hlm
   go_enter Tryz.func54, Tryz.ntmps54; (try simp only [List.append_eq, List.cons_append, List.nil_append])
   go_wp2_with fail
   go_loopg [13] 1 (fun gk t wr => t = .int .i64 0 ∧ Below w.heap.size w wr)
   case atStart => exact ⟨rfl, Below.refl _ _⟩
   case round =>
    obtain ⟨rfl, hb⟩ := hrel
    go_wp2_with fail
    go_ret
    exact ⟨rfl, hb⟩
 · rw [eqL_len (m := []) hlm]
   have i0 : ¬ (l.length : Int) = 0 := by omega
   go_enter Tryz.func54, Tryz.ntmps54; (try simp only [List.append_eq, List.cons_append, List.nil_append])
   go_wp2_with fail
   go_ret
   exact ⟨rfl, Below.refl _ _⟩
def Ln.eqB (x y : Ln) : Bool := decide (x.nm = y.nm) && decide (x.lv = y.lv) && decide (x.a1 = y.a1) && decide (x.a2 = y.a2) && decide (x.v1 = y.v1) && decide (x.v2 = y.v2) && decide (x.cl = y.cl)
theorem Ln.eqB_iff {x y : Ln} : Ln.eqB x y = true ↔ x = y := by
 cases x; cases y
 simp [Ln.eqB, and_assoc]
set_option maxRecDepth 100000 in
set_option maxHeartbeats 4000000 in
theorem eq_lns (l m : List Ln) (A B : Option Addr) (c d : Nat) (w : World) (h1 : l.length ≤ 1000000) (h2 : m.length ≤ 0) :
  Calls Tryz.prog 55 #[.slice A l.length c, .slice B m.length d] w fun e w' => e = .returned (.bool (eqL Ln.eqB l m)) ∧ Below w.heap.size w w' := by
 obtain rfl : m = [] := List.eq_nil_of_length_eq_zero (Nat.le_zero.1 h2)
 by_cases hlm : l.length = 0
 · obtain rfl : l = [] := List.eq_nil_of_length_eq_zero hlm
   go_enter Tryz.func55, Tryz.ntmps55; (try simp only [List.append_eq, List.cons_append, List.nil_append])
   go_wp2_with fail
   go_loopg [13] 1 (fun gk t wr => t = .int .i64 0 ∧ Below w.heap.size w wr)
   case atStart => exact ⟨rfl, Below.refl _ _⟩
   case round =>
    obtain ⟨rfl, hb⟩ := hrel
    go_wp2_with fail
    go_ret
    exact ⟨rfl, hb⟩
 · rw [eqL_len (m := []) hlm]
   have i0 : ¬ (l.length : Int) = 0 := by omega
   go_enter Tryz.func55, Tryz.ntmps55; (try simp only [List.append_eq, List.cons_append, List.nil_append])
   go_wp2_with fail
   go_ret
   exact ⟨rfl, Below.refl _ _⟩
def ArK (word : ByteArray) (k : KV) : Prop := 0 ≤ arR word k.key ∧ (k.vals.length : Int) = arR word k.key
def ArOk (x : IV) : Prop := isWord x.word = true ∧ ∀ k ∈ x.keys, ArK x.word k
theorem restF_ar {e a : Nat} {word name : ByteArray} {l : List WV} {x : IV} {r : List WV} (hw : isWord word = true) (h : restF e word name a l = .ok x r) : ArOk x := by
 unfold restF at h
 cases hk : keysF e word (l.length + 1) [] l with
 | err c b => simp only [hk] at h; cases h
 | ok ks l' =>
  simp only [hk, PR.ok.injEq] at h
  obtain ⟨rfl, rfl⟩ := h
  refine ⟨hw, ?_⟩
  exact (keysF_mem (Q := ArK word) _ _ _ (by simp) (fun y vs h1 h2 h3 h4 h5 => ⟨by show 0 ≤ arR word y.text; omega, by show (vs.length : Int) = arR word y.text; omega⟩) hk).2
theorem itemF_ar {e : Nat} {l : List WV} {x : IV} {r : List WV} (h : itemF e l = .ok x r) : ArOk x := by
 cases l with
 | nil => cases h
 | cons y l =>
  simp only [itemF] at h
  split at h
  · cases h
  · split at h
    · cases h
    · rename_i hw
      have hw : isWord y.text = true := by simpa using hw
      split at h
      · exact restF_ar hw h
      · cases l with
        | nil => cases h
        | cons z l =>
         simp only at h
         split at h
         · cases h
         · exact restF_ar hw h
theorem has_of {x : IV} (h : ArOk x) {key : ByteArray} {n : Nat} (hk : arR x.word key = n ∨ arR x.word key < 0) : ∀ vs, getR x.keys key = some vs → vs.length = n := by
 intro vs hv
 unfold getR at hv
 cases hf : x.keys.find? (fun p => decide (p.key = key)) with
 | none => rw [hf] at hv; cases hv
 | some p =>
  rw [hf] at hv
  simp only [Option.map_some, Option.some.injEq] at hv
  subst hv
  have h1 := h.2 p (List.mem_of_find?_eq_some hf)
  have h2 : p.key = key := by have := List.find?_some hf; simpa using this
  unfold ArK at h1
  rw [h2] at h1
  rcases hk with hk | hk <;> omega
def arAll (w : ByteArray) (n : Nat) (l : List ByteArray) : Bool := l.all fun k => decide (arR w k = n) || decide (arR w k < 0)
theorem has_all {x : IV} (h : ArOk x) {n : Nat} {l : List ByteArray} (hl : arAll x.word n l = true) : ∀ k ∈ l, ∀ vs, getR x.keys k = some vs → vs.length = n := fun k hk => by
 simp only [arAll, List.all_eq_true, Bool.or_eq_true, decide_eq_true_eq] at hl
 exact has_of h (hl k hk)
def keys1 : List ByteArray := [k_level, k_rest, k_grip, k_coil, k_switch, k_min, k_kick, k_size, k_into, k_limit, k_length, k_up, k_down, k_max, k_radius, k_balls, k_trough]
def keys2 : List ByteArray := [k_center, k_from, k_to, k_half, k_out, k_dir, k_range, k_gravity, k_drag]
theorem ar_words : [t_table, t_wall, t_gate, t_target, t_sling, t_arc, t_post, t_flipper, t_zone, t_saucer, t_lane, t_ramp, t_drain, t_launcher].all (fun w => arAll w 1 keys1 && arAll w 2 keys2) = true := by kernel_rfl
theorem word_case14 {w : ByteArray} (h : isWord w = true) : w ∈ [t_table, t_wall, t_gate, t_target, t_sling, t_arc, t_post, t_flipper, t_zone, t_saucer, t_lane, t_ramp, t_drain, t_launcher] := by
 have key : keyTab.all (fun p => [t_table, t_wall, t_gate, t_target, t_sling, t_arc, t_post, t_flipper, t_zone, t_saucer, t_lane, t_ramp, t_drain, t_launcher].any fun q => decide (q = p.1)) = true := by kernel_rfl
 unfold isWord at h
 rw [List.any_eq_true] at h
 obtain ⟨p, hp, he⟩ := h
 rw [List.all_eq_true] at key
 have h1 := key p hp
 rw [List.any_eq_true] at h1
 obtain ⟨q, hq, e⟩ := h1
 rw [← of_decide_eq_true he, ← of_decide_eq_true e]
 exact hq
theorem ar_has {x : IV} (h : ArOk x) : (∀ k ∈ keys1, Has1 x k) ∧ ∀ k ∈ keys2, Has2 x k := by
 have h1 := List.all_eq_true.1 ar_words x.word (word_case14 h.1)
 rw [Bool.and_eq_true] at h1
 exact ⟨has_all h h1.1, has_all h h1.2⟩
attribute [local go_sem ↓] evalL getL64 setL64
attribute [local go_sem ↓] getL8 setL8
attribute [local go_sem ↓] getL1 getL0
theorem TbO.set0 {W : World} {base tb : Nat} {t t' : Tb} {a : TbA} {j : Nat} {u old : Value} (h : TbO W base tb t a) (hlt : tb < base) (hj : (t.cells a)[j]? = some old) (hc : t'.cells a = (t.cells a).set j u)
  (hr : t'.tr = t.tr ∧ t'.ws = t.ws ∧ t'.ars = t.ars ∧ t'.ps = t.ps ∧ t'.fs = t.fs ∧ t'.zs = t.zs ∧ t'.ss = t.ss ∧ t'.las = t.las ∧ t'.rs = t.rs ∧ t'.ds = t.ds ∧ t'.lns = t.lns) : TbO (W.setCell ⟨tb, j, none⟩ u) base tb t' a := by
 obtain ⟨r0, r1, r2, r3, r4, r5, r6, r7, r8, r9, r10⟩ := hr
 refine ⟨by rw [hc]; exact h.bx.set u hj, ?_, ?_, ?_, ?_, ?_, ?_, ?_, ?_, ?_, ?_, ?_⟩
 · rw [r0]; exact ownsRow_setCell_below h.tr hlt _
 · rw [r1]; exact ownsRow_setCell_below h.ws hlt _
 · rw [r2]; exact ownsRow_setCell_below h.ars hlt _
 · rw [r3]; exact ownsRow_setCell_below h.ps hlt _
 · rw [r4]; exact ownsRow_setCell_below h.fs hlt _
 · rw [r5]; exact ownsRow_setCell_below h.zs hlt _
 · rw [r6]; exact ownsRow_setCell_below h.ss hlt _
 · rw [r7]; exact ownsRow_setCell_below h.las hlt _
 · rw [r8]; exact ownsRow_setCell_below h.rs hlt _
 · rw [r9]; exact ownsRow_setCell_below h.ds hlt _
 · rw [r10]; exact ownsRow_setCell_below h.lns hlt _
theorem TbO.put_tr {W W' : World} {base tb : Nat} {t : Tb} {a : TbA} {v' : Value} (h : TbO W base tb t a) (hlt : tb < base) (y : Int) (hown : W'.ownsRow base 3 1 v' (t.tr.length + 1) (t.tr.map (Value.int .i64) ++ [.int .i64 y])) (hg : W.grownBy W' (Value.slice a.tr t.tr.length a.trc).ownBlock) :
  ∃ A' c', v' = .slice A' (t.tr.length + 1) c' ∧ TbO (W'.setCell ⟨tb, 7, none⟩ v') base tb { t with tr := t.tr ++ [y] } { a with tr := A', trc := c' } := by
 obtain ⟨A', c', rfl⟩ := own_sl hown
 refine ⟨A', c', rfl, ?_⟩
 have hr : ∀ k, (Value.slice a.tr t.tr.length a.trc).ownBlock = some k → base ≤ k := fun k hk => (World.ownsRow.lt h.tr k hk).1
 have hbx := (boxAt_grown h.bx hg (fun k hk e => by have := hr k hk; omega)).set (.slice A' (t.tr.length + 1) c') (j := 7) rfl
 refine ⟨?_, ?_, ?_, ?_, ?_, ?_, ?_, ?_, ?_, ?_, ?_, ?_⟩
 · have e : ({ t with tr := t.tr ++ [y] } : Tb).cells { a with tr := A', trc := c' } = (t.cells a).set 7 (.slice A' (t.tr.length + 1) c') := by simp [Tb.cells]
   rw [e]
   exact hbx
 · have e1 : (t.tr ++ [y]).length = t.tr.length + 1 := by simp
   have e2 : (t.tr ++ [y]).map (Value.int .i64) = t.tr.map (Value.int .i64) ++ [.int .i64 y] := by simp
   simp only [e1, e2]
   exact ownsRow_setCell_below hown (by simpa using hlt) _
 · exact ownsRow_setCell_below (own_kept h.ws h.tr (by decide) hg) (by simpa using hlt) _
 · exact ownsRow_setCell_below (own_kept h.ars h.tr (by decide) hg) (by simpa using hlt) _
 · exact ownsRow_setCell_below (own_kept h.ps h.tr (by decide) hg) (by simpa using hlt) _
 · exact ownsRow_setCell_below (own_kept h.fs h.tr (by decide) hg) (by simpa using hlt) _
 · exact ownsRow_setCell_below (own_kept h.zs h.tr (by decide) hg) (by simpa using hlt) _
 · exact ownsRow_setCell_below (own_kept h.ss h.tr (by decide) hg) (by simpa using hlt) _
 · exact ownsRow_setCell_below (own_kept h.las h.tr (by decide) hg) (by simpa using hlt) _
 · exact ownsRow_setCell_below (own_kept h.rs h.tr (by decide) hg) (by simpa using hlt) _
 · exact ownsRow_setCell_below (own_kept h.ds h.tr (by decide) hg) (by simpa using hlt) _
 · exact ownsRow_setCell_below (own_kept h.lns h.tr (by decide) hg) (by simpa using hlt) _
theorem troughF_snoc : ∀ (n : Nat) (a i : Int), troughF (n + 1) a i = troughF n a i ++ [if a = -1 then -1 else a + (i + n)]
 | 0, a, i => by simp [troughF]
 | n + 1, a, i => by
  have ih := troughF_snoc n a (i + 1)
  have e : i + 1 + (n : Int) = i + ((n + 1 : Nat) : Int) := by omega
  rw [e] at ih
  rw [show troughF (n + 1 + 1) a i = (if a = -1 then -1 else a + i) :: troughF (n + 1) a (i + 1) from rfl, ih]
  rfl
theorem troughF_len : ∀ (n : Nat) (a i : Int), (troughF n a i).length = n
 | 0, a, i => rfl
 | n + 1, a, i => by unfold troughF; rw [List.length_cons, troughF_len n]
attribute [local go_sem ↓] evalL getL64 setL64
attribute [local go_sem ↓] getL8 setL8
attribute [local go_sem ↓] getL1 getL0
theorem cells1L {w : World} {g : Nat} {x : Value} (h : w.cell? ⟨g, 0, none⟩ = some x) : ∀ j u, [x][j]? = some u → w.cell? ⟨g, j, none⟩ = some u := fun j u hu => by
 match j, hu with
 | 0, hu => cases hu; exact h
def HeadOut (T : Tb) (base tb vb q : Nat) (x : IV) (B : Option Addr) (d : Nat) (m : Bool) (w : World) (e : Ending) (w' : World) : Prop := e = .returned (.tuple #[]) ∧ BelQ tb q w w' ∧ VAt w' vb x B d m ∧ ∃ a', TbO w' base tb T a'
set_option maxRecDepth 100000 in
set_option maxHeartbeats 4000000 in
theorem head_any (w wa : World) (base tb vb : Nat) (t : Tb) (a : TbA) (x : IV) (B : Option Addr) (d : Nat) (m : Bool) (hO : TbO wa base tb t a) (hwa : Below wa.heap.size wa w) (hav : wa.heap.size ≤ vb) (hlt : tb < base) (hbw : base ≤ w.heap.size) (hV : VAt w vb x B d m) (hK : ∃ w0 : World, KsAt w0 B x.keys ∧ Below w0.heap.size w0 w ∧ w0.heap.size ≤ tb) (ho : IvOk x) (hr : ArOk x) (hsm : ∀ vs, getR x.keys k_trough = some vs → ∀ z ∈ vs, -1073741824 ≤ z ∧ z ≤ 1073741824) (hltr : t.tr.length ≤ 100000) (q : Nat) (wz : World) (hOz : TbO wz base tb t a) (hqz : wz.heap.size ≤ q) (hqa : q < wa.heap.size) :
  Calls Tryz.prog 97 #[.pointer (some ⟨tb, 0, none⟩), .pointer (some ⟨vb, 0, none⟩)] w (HeadOut (headR t x) base tb vb q x B d (missR x k_radius m) w) := by
 have H1 := hQ0 (ar_has hr).1
 have H2 := hQ0 (ar_has hr).2
 have hzt := hOz.bx.lt
 have HROW : Hid (∀ k, (Value.slice a.tr t.tr.length a.trc).ownBlock = some k → k < wa.heap.size ∧ k ≠ q) := hQ0 (fun k hk => by
  have r1 := (World.ownsRow.lt hO.tr k hk).2
  have r2 := (World.ownsRow.lt hOz.tr k hk).2
  omega)
 clear hOz
 have HSM := hQ0 hsm
 have HLTR := hQ0 hltr
 clear hsm hltr
 have HO := hQ0 hO
 have HV := hQ0 hV
 have HK := hQ0 hK
 have HA := hQ0 hwa
 have htl := hO.bx.lt
 have hzw := hwa.size
 obtain ⟨TC, hTC⟩ : ∃ z, z = t.cells a := ⟨_, rfl⟩
 have HTC := hQ0 hTC
 clear hO hV hK hwa hTC
 go_enter Tryz.func97, Tryz.ntmps97; (try simp only [List.append_eq, List.cons_append, List.nil_append])
 go_upto_region 1 with (first
  | (have hq := hb2; go_at_call 96; refine (or_any _ _ x B d _ k_rest 8 HV2.out ho (Has1.ne (H1.out _ (by simp [keys1])))).mono ?_; rintro e w3 ⟨rfl, hb3⟩; have HV3 := hQ0 (HV2.out.below hb3); have HO3 := hQ0 ((HO.out.below HA.out (Nat.le_refl _)).bx.lt); have HB3 : Hid (Below wa.heap.size wa w3) := hQ0 (HB2.out.trans (hb3.mono HB2.out.size)); have HT3 : Hid (BoxAt w3 tb TC) := hQ0 (by rw [HTC.out]; exact HO.out.bx.below HB3.out htl); have c0 := HT3.out.c 0 (.int .i64 t.rad) (by rw [HTC.out]; rfl); have c1 := HT3.out.c 1 (.int .i64 t.bal) (by rw [HTC.out]; rfl); have c2 := HT3.out.c 2 (.int .i64 t.rst) (by rw [HTC.out]; rfl); have cz := HT3.out.fz; have cl := HT3.out.lt)
  | (have hq := hbt1; go_at_call 96; refine (or_any _ _ x B d _ k_balls 1 HV1.out ho (Has1.ne (H1.out _ (by simp [keys1])))).mono ?_; rintro e w2 ⟨rfl, hb2⟩; have HV2 := hQ0 (HV1.out.below hb2); have HB2 : Hid (Below wa.heap.size wa w2) := hQ0 (HB1.out.trans (hb2.mono HB1.out.size)))
  | (go_at_call 101; refine (vone_any _ _ x B d _ k_radius HV.out ho (H1.out _ (by simp [keys1]))).mono ?_; rintro e w1 ⟨rfl, hbt1, hV1⟩; have HV1 := hQ0 hV1; have HB1 : Hid (Below wa.heap.size wa w1) := hQ0 (HA.out.trans (hbt1.toBelow hav hzw)); clear hV1))
 (refine pin_eqT (fun w4 hE_w4 => ?_))
 have HO4 : Hid (TbO w4 base tb { t with rad := oneR x k_radius, bal := orR x k_balls 1, rst := orR x k_rest 8 } a) := hQ0 (by
  rw [hE_w4]
  refine TbO.set0 (t := { t with rad := oneR x k_radius, bal := orR x k_balls 1 }) (old := .int .i64 t.rst) (TbO.set0 (t := { t with rad := oneR x k_radius }) (old := .int .i64 t.bal) (TbO.set0 (t := t) (old := .int .i64 t.rad) (HO.out.below HB3.out (Nat.le_refl _)) hlt rfl rfl ⟨rfl, rfl, rfl, rfl, rfl, rfl, rfl, rfl, rfl, rfl, rfl⟩) hlt rfl rfl ⟨rfl, rfl, rfl, rfl, rfl, rfl, rfl, rfl, rfl, rfl, rfl⟩) hlt rfl rfl ⟨rfl, rfl, rfl, rfl, rfl, rfl, rfl, rfl, rfl, rfl, rfl⟩)
 have htv : tb < vb := by omega
 have HV4 : Hid (VAt w4 vb x B d (missR x k_radius m)) := hQ0 (by
  obtain ⟨w0, q1, q2, q3⟩ := HK.out
  have z0 := q2.size
  have z1 := hbt1.size
  have z2 := hb2.size
  have z3 := hb3.size
  rw [hE_w4]
  refine ⟨((HV3.out.bx.low (by simp only; omega) _).low (by simp only; omega) _).low (by simp only; omega) _, w0, q1, ?_, by omega⟩
  exact ((((((q2.trans (hbt1.toBelow (by omega) z0)).trans (hb2.mono (by omega))).trans (hb3.mono (by omega))).setCell (by simpa using q3) _).setCell (by simpa using q3) _).setCell (by simpa using q3) _))
 have HBt4 : Hid (BelQ tb q w w4) := hQ0 (by
  have z1 := hbt1.size
  have z2 := hb2.size
  rw [hE_w4]
  exact (((((BelQ.of (tb := tb) (q := q) (hbt1.toBelow (B := wa.heap.size) hav hzw) (by omega) hqa).call hb2 (by omega) (by omega)).call hb3 (by omega) (by omega)).set (by simp) (by simp only; omega)).set (by simp) (by simp only; omega)).set (by simp) (by simp only; omega))
 have HK4 : Hid (∃ w0 : World, KsAt w0 B x.keys ∧ Below w0.heap.size w0 w4 ∧ w0.heap.size ≤ tb) := hQ0 (by
  obtain ⟨w0, q1, q2, q3⟩ := HK.out
  have z0 := q2.size
  have z1 := hbt1.size
  have z2 := hb2.size
  rw [hE_w4]
  exact ⟨w0, q1, ((((((q2.trans (hbt1.toBelow (by omega) z0)).trans (hb2.mono (by omega))).trans (hb3.mono (by omega))).setCell (by simpa using q3) _).setCell (by simpa using q3) _).setCell (by simpa using q3) _), q3⟩)
 clear hE_w4 hbt1 hb2 hb3 c0 c1 c2 cz cl HV3 HV2 HV1 HO3 HB3 HT3 HB2 HB1 HV HO HA HK
 obtain ⟨T4, hT4⟩ : ∃ T : Tb, T = { t with rad := oneR x k_radius, bal := orR x k_balls 1, rst := orR x k_rest 8 } := ⟨_, rfl⟩
 rw [← hT4] at HO4
 have HT4 := hQ0 hT4
 clear hT4
 go_upto_region 2 with (go_at_call 158; refine (vpair_any _ _ x B d _ k_gravity HV4.out ho (H2.out _ (by simp [keys2]))).mono ?_; rintro e w5 ⟨rfl, hb5⟩; have HO5 := hQ0 (HO4.out.below hb5 (Nat.le_refl _)); have HV5 := hQ0 (HV4.out.below hb5); have c1 := HO5.out.bx.c 3 (.int .i64 T4.gx) rfl; have c2 := HO5.out.bx.c 4 (.int .i64 T4.gy) rfl; have cz := HO5.out.bx.fz; have cl := HO5.out.bx.lt)
 (refine pin_eqT (fun w6 hE_w6 => ?_))
 have HO6 : Hid (TbO w6 base tb { T4 with gx := (pairR x k_gravity).1, gy := (pairR x k_gravity).2 } a) := hQ0 (by
  rw [hE_w6]
  exact TbO.set0 (t := { T4 with gx := (pairR x k_gravity).1 }) (old := .int .i64 T4.gy) (TbO.set0 (t := T4) (old := .int .i64 T4.gx) HO5.out hlt rfl rfl ⟨rfl, rfl, rfl, rfl, rfl, rfl, rfl, rfl, rfl, rfl, rfl⟩) hlt rfl rfl ⟨rfl, rfl, rfl, rfl, rfl, rfl, rfl, rfl, rfl, rfl, rfl⟩)
 have HV6 : Hid (VAt w6 vb x B d (missR x k_radius m)) := hQ0 (by
  obtain ⟨w0, q1, q2, q3⟩ := HK4.out
  have z0 := q2.size
  rw [hE_w6]
  exact ⟨(HV5.out.bx.low (by simp only; omega) _).low (by simp only; omega) _, w0, q1, ((q2.trans (hb5.mono (by omega))).setCell (by simpa using q3) _).setCell (by simpa using q3) _, by omega⟩)
 have HBt6 : Hid (BelQ tb q w w6) := hQ0 (by
  have z0 := HBt4.out.b.size
  have z1 := HO4.out.bx.lt
  rw [hE_w6]
  exact ((HBt4.out.call hb5 (by omega) (by omega)).set (by simp) (by simp only; omega)).set (by simp) (by simp only; omega))
 have HK6 : Hid (∃ w0 : World, KsAt w0 B x.keys ∧ Below w0.heap.size w0 w6 ∧ w0.heap.size ≤ tb) := hQ0 (by
  obtain ⟨w0, q1, q2, q3⟩ := HK4.out
  have z0 := q2.size
  rw [hE_w6]
  exact ⟨w0, q1, ((q2.trans (hb5.mono (by omega))).setCell (by simpa using q3) _).setCell (by simpa using q3) _, q3⟩)
 clear hE_w6 hb5 c1 c2 cz cl HV4 HV5 HO4 HO5 HK4 HBt4
 obtain ⟨T6, hT6⟩ : ∃ T : Tb, T = { T4 with gx := (pairR x k_gravity).1, gy := (pairR x k_gravity).2 } := ⟨_, rfl⟩
 rw [← hT6] at HO6
 have HT6 := hQ0 hT6
 clear hT6
 go_upto_region 3 with (go_at_call 158; refine (vpair_any _ _ x B d _ k_drag HV6.out ho (H2.out _ (by simp [keys2]))).mono ?_; rintro e w7 ⟨rfl, hb7⟩; have HO7 := hQ0 (HO6.out.below hb7 (Nat.le_refl _)); have HV7 := hQ0 (HV6.out.below hb7); have c1 := HO7.out.bx.c 5 (.int .i64 T6.drg) rfl; have c2 := HO7.out.bx.c 6 (.int .i64 T6.shf) rfl; have cz := HO7.out.bx.fz; have cl := HO7.out.bx.lt)
 (refine pin_eqT (fun w8 hE_w8 => ?_))
 have HO8 : Hid (TbO w8 base tb { T6 with drg := (pairR x k_drag).1, shf := (pairR x k_drag).2 } a) := hQ0 (by
  rw [hE_w8]
  exact TbO.set0 (t := { T6 with drg := (pairR x k_drag).1 }) (old := .int .i64 T6.shf) (TbO.set0 (t := T6) (old := .int .i64 T6.drg) HO7.out hlt rfl rfl ⟨rfl, rfl, rfl, rfl, rfl, rfl, rfl, rfl, rfl, rfl, rfl⟩) hlt rfl rfl ⟨rfl, rfl, rfl, rfl, rfl, rfl, rfl, rfl, rfl, rfl, rfl⟩)
 have HV8 : Hid (VAt w8 vb x B d (missR x k_radius m)) := hQ0 (by
  obtain ⟨w0, q1, q2, q3⟩ := HK6.out
  have z0 := q2.size
  rw [hE_w8]
  exact ⟨(HV7.out.bx.low (by simp only; omega) _).low (by simp only; omega) _, w0, q1, ((q2.trans (hb7.mono (by omega))).setCell (by simpa using q3) _).setCell (by simpa using q3) _, by omega⟩)
 have HBt8 : Hid (BelQ tb q w w8) := hQ0 (by
  have z0 := HBt6.out.b.size
  have z1 := HO6.out.bx.lt
  rw [hE_w8]
  exact ((HBt6.out.call hb7 (by omega) (by omega)).set (by simp) (by simp only; omega)).set (by simp) (by simp only; omega))
 have HK8 : Hid (∃ w0 : World, KsAt w0 B x.keys ∧ Below w0.heap.size w0 w8 ∧ w0.heap.size ≤ tb) := hQ0 (by
  obtain ⟨w0, q1, q2, q3⟩ := HK6.out
  have z0 := q2.size
  rw [hE_w8]
  exact ⟨w0, q1, ((q2.trans (hb7.mono (by omega))).setCell (by simpa using q3) _).setCell (by simpa using q3) _, q3⟩)
 clear hE_w8 hb7 c1 c2 cz cl HV6 HV7 HO6 HO7 HK6 HBt6
 obtain ⟨T8, hT8⟩ : ∃ T : Tb, T = { T6 with drg := (pairR x k_drag).1, shf := (pairR x k_drag).2 } := ⟨_, rfl⟩
 rw [← hT8] at HO8
 have HT8 := hQ0 hT8
 clear hT8
 have v0 := HV8.out.bx.c 0 (.string x.word) rfl
 have v1 := HV8.out.bx.c 1 (.string x.name) rfl
 have v2 := HV8.out.bx.c 2 (.slice B x.keys.length d) rfl
 have v3 := HV8.out.bx.c 3 (.int .i64 x.at_) rfl
 have KG := get_any x B d k_trough w8 HV8.out.kat ho.1 ho.2
 unfold vOfX at KG
 cases hG : getR x.keys k_trough with
 | none =>
  rw [hG] at KG
  have HKG := hQ0 KG
  clear KG
  have HE : Hid (headR t x = T8) := hQ0 (by unfold headR troughR; rw [hG, HT8.out, HT6.out, HT4.out]; simp)
  clear hG
  go_wp2_with (go_at_call 103; refine HKG.out.mono ?_; rintro e w9 ⟨hb9, rfl⟩)
  have z8 := HBt8.out.b.size
  have zl := HO8.out.bx.lt
  refine bodyPost_ret (v := .tuple #[]) (by simp only [results, Tryz.results97]; go_simp) rfl ⟨?_, ?_⟩
  · rfl
  · exact ⟨HBt8.out.call hb9 (by omega) (by omega), HV8.out.below hb9, a, by rw [HE.out]; exact HO8.out.below hb9 (Nat.le_refl _)⟩
 | some vs =>
  obtain ⟨s0, rfl⟩ : ∃ s, vs = [s] := by
   have h := H1.out k_trough (by simp [keys1]) vs hG
   match vs, h with
   | [s], _ => exact ⟨s, rfl⟩
  have hs0 := HSM.out _ hG s0 (by simp)
  rw [hG] at KG
  have HKG := hQ0 KG
  clear KG
  obtain ⟨N, hN⟩ : ∃ N, N = min T8.bal.toNat 7 := ⟨_, rfl⟩
  have HE : Hid (headR t x = { T8 with tr := t.tr ++ troughF N s0 0 }) := hQ0 (by unfold headR troughR; rw [hG, hN, HT8.out, HT6.out, HT4.out]; rfl)
  have HTR : Hid (T8.tr = t.tr) := hQ0 (by rw [HT8.out, HT6.out, HT4.out])
  have z8 := HBt8.out.b.size
  have zl := HO8.out.bx.lt
  have HN := hQ0 hN
  clear hG hN
  have HA8 := hQ0 z8
  have hva := HV8.out.bx.lt
  go_wp2_with fail
  (go_at_call 103; refine HKG.out.mono ?_; rintro e w9 ⟨hb9, A, c, rfl, hown⟩)
  obtain ⟨g, hA, hgl, hgb, hgc, hcc⟩ := own_cells hown (by simp)
  subst hA
  have cg0 := hcc 0 (.int .i64 s0) rfl
  clear hcc v0 v1 v2 v3
  go_wp2_with fail
  have HV9 := hQ0 (HV8.out.below hb9)
  have HO9 := hQ0 (HO8.out.below hb9 (Nat.le_refl _))
  have HB9 : Hid (BelQ tb q w w9) := hQ0 (HBt8.out.call hb9 (by omega) (by omega))
  have hvg : vb ≠ g := by omega
  have HR9 : Hid (∀ k, (Value.slice a.tr T8.tr.length a.trc).ownBlock = some k → k ≠ g ∧ k ≠ vb ∧ k ≠ q) := hQ0 (fun k hk => by
   rw [HTR.out] at hk
   have h1 := HROW.out k hk
   have h2 := z8
   have h3 : wa.heap.size ≤ w8.heap.size := Nat.le_trans hzw z8
   omega)
  have HO9' : Hid (TbO w9 base tb { T8 with tr := T8.tr ++ troughF 0 s0 0 } a) := hQ0 (by
   have e : ({ T8 with tr := T8.tr ++ troughF 0 s0 0 } : Tb) = T8 := by simp [troughF]
   rw [e]; exact HO9.out)
  have HKX : Hid (∃ w0 : World, KsAt w0 B x.keys ∧ Below w0.heap.size w0 w9 ∧ w0.heap.size ≤ tb) := hQ0 (by
   obtain ⟨w0, q1, q2, q3⟩ := HK8.out
   exact ⟨w0, q1, q2.trans (hb9.mono q2.size), q3⟩)
  clear HO8 HO9 HV8 HBt8 HK8 HKG hb9 hown HT8 HT6 HT4 H1 H2
  have Hs0 := hQ0 hs0
  clear hs0
  have HBase := hQ0 hbw
  go_loopg [6] 9 (fun gk tt wr => ∃ (k : Nat) (a' : TbA), k ≤ N ∧ 8 - k < gk ∧ tt = .int .i64 k ∧ Hid (BelQ tb q w wr) ∧ Hid (VAt wr vb x B d (missR x k_radius m)) ∧ Hid (wr.cell? ⟨g, 0, none⟩ = some (.int .i64 s0) ∧ g < wr.heap.size) ∧ Hid (∃ w0 : World, KsAt w0 B x.keys ∧ Below w0.heap.size w0 wr ∧ w0.heap.size ≤ tb) ∧ Hid (∀ y, (Value.slice a'.tr (T8.tr ++ troughF k s0 0).length a'.trc).ownBlock = some y → y ≠ g ∧ y ≠ vb ∧ y ≠ q) ∧ Hid (TbO wr base tb { T8 with tr := T8.tr ++ troughF k s0 0 } a'))
  case atStart => exact ⟨0, a, by omega, by omega, rfl, HB9, HV9, hQ0 ⟨cg0, hgl⟩, HKX, hQ0 (fun y hy => HR9.out y (by simpa [troughF] using hy)), HO9'⟩
  case round =>
   obtain ⟨wq, rfl⟩ : ∃ z, z = wr := ⟨_, rfl⟩
   clear HB9 HV9 HKX HR9 HO9' cg0 hgl
   obtain ⟨k, a', hk, hkk, rfl, HBq, HVq, HCq, HKq, HRq, HOq⟩ := hrel
   obtain ⟨L, hL⟩ : ∃ L : List Int, L = T8.tr ++ troughF k s0 0 := ⟨_, rfl⟩
   rw [← hL] at HRq HOq
   have HL := hQ0 hL
   clear hL
   have c1 := HOq.out.bx.c 1 (.int .i64 T8.bal) rfl
   have c7 := HOq.out.bx.c 7 (.slice a'.tr L.length a'.trc) rfl
   have cz := HOq.out.bx.fz
   have cl := HOq.out.bx.lt
   have cg := HCq.out.1
   have hgl := HCq.out.2
   have i6 : (k : Int) ≤ 9223372036854775807 := by have := HN.out; omega
   by_cases h1 : (k : Int) < T8.bal
   · by_cases h2 : (k : Int) ≤ 6
     · obtain ⟨y, hy⟩ : ∃ y : Int, y = if s0 = -1 then -1 else s0 + (0 + k) := ⟨_, rfl⟩
       have hk1 : k + 1 ≤ N := by have := HN.out; omega
       have HL1 : Hid (T8.tr ++ troughF (k + 1) s0 0 = L ++ [y]) := hQ0 (by rw [HL.out, hy, troughF_snoc, List.append_assoc])
       have HLl : Hid (L.length ≤ 1000000) := hQ0 (by rw [HL.out, List.length_append, troughF_len, HTR.out]; have := HLTR.out; omega)
       have hs0 := Hs0.out
       by_cases hm1 : s0 = -1
       · subst hm1
         obtain rfl : y = -1 := by rw [hy]; rfl
         clear hy
         have hzq := HBq.out.b.size
         have hwb : base ≤ wq.heap.size := by have h := HBase.out; omega
         have HOw := hQ0 (HOq.out.below ((Below.refl wq.heap.size wq).alloc (Nat.le_refl _) (.cells #[.int .i64 (-1)] 3)) (Nat.le_refl _))
         have hrow := HRq.out
         have hrb : ∀ u, (Value.slice a'.tr L.length a'.trc).ownBlock = some u → base ≤ u ∧ u < wq.heap.size := fun u hu => World.ownsRow.lt HOq.out.tr u hu
         have HRb := hQ0 hrb
         have HRo := hQ0 hrow
         clear hrb hrow
         go_wp2_with (at_builtin; go_must (refine wpList_append_one rfl _ _ 24 3 _ 1 8 rfl Tryz.underlying24 intInfo rfl (by decide) (by decide) base (.slice a'.tr L.length a'.trc) L.length (L.map (Value.int .i64)) [.int .i64 (-1)] rfl HOw.out.tr wq.heap.size 1 rfl rfl (cells1L (by go_simp)) (by simp [Value.oneCell']) HLl.out (by simp; omega) ?_))
         intro v' w' hown' hgr' hbk'
         obtain ⟨A', c', rfl, hput⟩ := HOw.out.put_tr hlt (-1) hown' hgr'
         have HP := hQ0 hput
         have hBw : Below wq.heap.size wq (wq.alloc (.cells #[.int .i64 (-1)] 3)) := (Below.refl wq.heap.size wq).alloc (Nat.le_refl _) _
         have hsz1 : (wq.alloc (.cells #[.int .i64 (-1)] 3)).heap.size = wq.heap.size + 1 := by simp
         have HB' : Hid (BelQ tb q w w') := hQ0 (((HBq.out.alloc (by omega) (by omega) _)).grown hgr' (fun u hu => by have := HRb.out u hu; omega) (by omega) (by omega) (fun u hu => by have := HRo.out u hu; omega))
         have HV' : Hid (VAt w' vb x B d (missR x k_radius m)) := hQ0 (by
          obtain ⟨w0, q1, q2, q3⟩ := HKq.out
          have z0 := q2.size
          exact ⟨boxAt_grown (HVq.out.bx.alloc _) hgr' (fun u hu e => by have := HRo.out u hu; omega), w0, q1, (q2.alloc z0 _).trans (below_grown hgr' (fun u hu => by have := HRb.out u hu; omega) (by omega)), by omega⟩)
         have HK' : Hid (∃ w0 : World, KsAt w0 B x.keys ∧ Below w0.heap.size w0 w' ∧ w0.heap.size ≤ tb) := hQ0 (by
          obtain ⟨w0, q1, q2, q3⟩ := HKq.out
          have z0 := q2.size
          exact ⟨w0, q1, (q2.alloc z0 _).trans (below_grown hgr' (fun u hu => by have := HRb.out u hu; omega) (by omega)), q3⟩)
         have hszw : wq.heap.size + 1 ≤ w'.heap.size := by have := hgr'.size; omega
         have HC' : Hid (w'.cell? ⟨g, 0, none⟩ = some (.int .i64 (-1)) ∧ g < w'.heap.size) := hQ0 ⟨(World.cell?_of_block (a := ⟨g, 0, none⟩) (hgr'.block g (by simp; omega) (fun e => by have := HRo.out g e.symm; omega))).trans ((World.cell?_of_block (a := ⟨g, 0, none⟩) (heap_alloc_old wq _ hgl)).trans cg), by omega⟩
         have HR' : Hid (∀ u, (Value.slice A' (L.length + 1) c').ownBlock = some u → u ≠ g ∧ u ≠ vb ∧ u ≠ q) := hQ0 (fun u hu => by
          rcases hbk' with e | e
          · rw [hu] at e
            exact HRo.out u e.symm
          · rw [hu] at e
            simp only [Option.some.injEq] at e
            have := HVq.out.bx.lt
            omega)
         have hT' := hput.bx
         have c7' : w'.cell? ⟨tb, 7, none⟩ = some (.slice a'.tr L.length a'.trc) := (World.cell?_of_block (a := ⟨tb, 7, none⟩) (hgr'.block tb (by simp; omega) (fun e => by have := HRb.out tb e.symm; omega))).trans ((World.cell?_of_block (a := ⟨tb, 7, none⟩) (heap_alloc_old wq _ cl)).trans c7)
         have cz' : ∀ o, w'.frozen? ⟨tb, o, none⟩ = false := fun o => (World.frozen?_of_block (a := ⟨tb, o, none⟩) (hgr'.block tb (by simp; omega) (fun e => by have := HRb.out tb e.symm; omega))).trans ((World.frozen?_of_block (a := ⟨tb, o, none⟩) (heap_alloc_old wq _ cl)).trans (cz o))
         have cl' : tb < w'.heap.size := by omega
         clear hput hT' hown' hgr' hbk' c1 c7 cz cl cg hgl HBq HVq HKq HOq HCq HOw hBw
         go_wp2_with fail
         go_roundg (8 - k)
         case measure => omega
         case rel => exact ⟨k + 1, { a' with tr := A', trc := c' }, hk1, by omega, by go_num, hQ0 (HB'.out.set (by simp) (by simp only; omega)), hQ0 (by
           obtain ⟨b, w0, r1, r2, r3⟩ := HV'.out
           obtain ⟨w0, q1, q2, q3⟩ := HK'.out
           exact ⟨b.low (by simp only; omega) _, w0, q1, q2.setCell (by simpa using q3) _, by omega⟩), hQ0 ⟨(World.cell?_setCell_other w' _ _ _ (fun e => by simp only [Addr.mk.injEq] at e; omega)).trans HC'.out.1, by simpa using HC'.out.2⟩, hQ0 (by
           obtain ⟨w0, q1, q2, q3⟩ := HK'.out
           exact ⟨w0, q1, q2.setCell (by simpa using q3) _, q3⟩), hQ0 (by
           have e : (T8.tr ++ troughF (k + 1) (-1) 0).length = L.length + 1 := by rw [HL1.out]; simp
           rw [e]; exact HR'.out), hQ0 (by rw [HL1.out]; exact HP.out)⟩
       · have hy2 : y = s0 + k := by rw [hy, if_neg hm1]; omega
         clear hy
         have hwr : IntKind.i64.wrap (s0 + (k : Int)) = y := by rw [hy2, IntKind.wrap_i64]; omega
         have hne : (s0 != -1) = true := by simpa using hm1
         clear hy2
         have hzq := HBq.out.b.size
         have hwb : base ≤ wq.heap.size := by have h := HBase.out; omega
         have HOw := hQ0 (HOq.out.below ((Below.refl wq.heap.size wq).alloc (Nat.le_refl _) (.cells #[.int .i64 y] 3)) (Nat.le_refl _))
         have hrow := HRq.out
         have hrb : ∀ u, (Value.slice a'.tr L.length a'.trc).ownBlock = some u → base ≤ u ∧ u < wq.heap.size := fun u hu => World.ownsRow.lt HOq.out.tr u hu
         have HRb := hQ0 hrb
         have HRo := hQ0 hrow
         clear hrb hrow
         go_wp2_with (at_builtin; go_must (refine wpList_append_one rfl _ _ 24 3 _ 1 8 rfl Tryz.underlying24 intInfo rfl (by decide) (by decide) base (.slice a'.tr L.length a'.trc) L.length (L.map (Value.int .i64)) [.int .i64 y] rfl HOw.out.tr wq.heap.size 1 rfl rfl (cells1L (by go_simp)) (by simp [Value.oneCell']) HLl.out (by simp; omega) ?_))
         intro v' w' hown' hgr' hbk'
         obtain ⟨A', c', rfl, hput⟩ := HOw.out.put_tr hlt y hown' hgr'
         have HP := hQ0 hput
         have hBw : Below wq.heap.size wq (wq.alloc (.cells #[.int .i64 y] 3)) := (Below.refl wq.heap.size wq).alloc (Nat.le_refl _) _
         have hsz1 : (wq.alloc (.cells #[.int .i64 y] 3)).heap.size = wq.heap.size + 1 := by simp
         have HB' : Hid (BelQ tb q w w') := hQ0 (((HBq.out.alloc (by omega) (by omega) _)).grown hgr' (fun u hu => by have := HRb.out u hu; omega) (by omega) (by omega) (fun u hu => by have := HRo.out u hu; omega))
         have HV' : Hid (VAt w' vb x B d (missR x k_radius m)) := hQ0 (by
          obtain ⟨w0, q1, q2, q3⟩ := HKq.out
          have z0 := q2.size
          exact ⟨boxAt_grown (HVq.out.bx.alloc _) hgr' (fun u hu e => by have := HRo.out u hu; omega), w0, q1, (q2.alloc z0 _).trans (below_grown hgr' (fun u hu => by have := HRb.out u hu; omega) (by omega)), by omega⟩)
         have HK' : Hid (∃ w0 : World, KsAt w0 B x.keys ∧ Below w0.heap.size w0 w' ∧ w0.heap.size ≤ tb) := hQ0 (by
          obtain ⟨w0, q1, q2, q3⟩ := HKq.out
          have z0 := q2.size
          exact ⟨w0, q1, (q2.alloc z0 _).trans (below_grown hgr' (fun u hu => by have := HRb.out u hu; omega) (by omega)), q3⟩)
         have hszw : wq.heap.size + 1 ≤ w'.heap.size := by have := hgr'.size; omega
         have HC' : Hid (w'.cell? ⟨g, 0, none⟩ = some (.int .i64 s0) ∧ g < w'.heap.size) := hQ0 ⟨(World.cell?_of_block (a := ⟨g, 0, none⟩) (hgr'.block g (by simp; omega) (fun e => by have := HRo.out g e.symm; omega))).trans ((World.cell?_of_block (a := ⟨g, 0, none⟩) (heap_alloc_old wq _ hgl)).trans cg), by omega⟩
         have HR' : Hid (∀ u, (Value.slice A' (L.length + 1) c').ownBlock = some u → u ≠ g ∧ u ≠ vb ∧ u ≠ q) := hQ0 (fun u hu => by
          rcases hbk' with e | e
          · rw [hu] at e
            exact HRo.out u e.symm
          · rw [hu] at e
            simp only [Option.some.injEq] at e
            have := HVq.out.bx.lt
            omega)
         have hT' := hput.bx
         have c7' : w'.cell? ⟨tb, 7, none⟩ = some (.slice a'.tr L.length a'.trc) := (World.cell?_of_block (a := ⟨tb, 7, none⟩) (hgr'.block tb (by simp; omega) (fun e => by have := HRb.out tb e.symm; omega))).trans ((World.cell?_of_block (a := ⟨tb, 7, none⟩) (heap_alloc_old wq _ cl)).trans c7)
         have cz' : ∀ o, w'.frozen? ⟨tb, o, none⟩ = false := fun o => (World.frozen?_of_block (a := ⟨tb, o, none⟩) (hgr'.block tb (by simp; omega) (fun e => by have := HRb.out tb e.symm; omega))).trans ((World.frozen?_of_block (a := ⟨tb, o, none⟩) (heap_alloc_old wq _ cl)).trans (cz o))
         have cl' : tb < w'.heap.size := by omega
         clear hput hT' hown' hgr' hbk' c1 c7 cz cl cg hgl HBq HVq HKq HOq HCq HOw hBw
         go_wp2_with fail
         go_roundg (8 - k)
         case measure => omega
         case rel => exact ⟨k + 1, { a' with tr := A', trc := c' }, hk1, by omega, by go_num, hQ0 (HB'.out.set (by simp) (by simp only; omega)), hQ0 (by
           obtain ⟨b, w0, r1, r2, r3⟩ := HV'.out
           obtain ⟨w0, q1, q2, q3⟩ := HK'.out
           exact ⟨b.low (by simp only; omega) _, w0, q1, q2.setCell (by simpa using q3) _, by omega⟩), hQ0 ⟨(World.cell?_setCell_other w' _ _ _ (fun e => by simp only [Addr.mk.injEq] at e; omega)).trans HC'.out.1, by simpa using HC'.out.2⟩, hQ0 (by
           obtain ⟨w0, q1, q2, q3⟩ := HK'.out
           exact ⟨w0, q1, q2.setCell (by simpa using q3) _, q3⟩), hQ0 (by
           have e : (T8.tr ++ troughF (k + 1) s0 0).length = L.length + 1 := by rw [HL1.out]; simp
           rw [e]; exact HR'.out), hQ0 (by rw [HL1.out]; exact HP.out)⟩
     · have hkN : k = N := by have := HN.out; omega
       have HF : Hid (TbO wq base tb (headR t x) a') := hQ0 (by rw [HE.out, ← hkN, ← HTR.out, ← HL.out]; exact HOq.out)
       clear hkk hgl i6 HRq HKq HOq
       go_wp2_with fail
       refine bodyPost_ret (v := .tuple #[]) (by simp only [results, Tryz.results97]; go_simp) rfl ⟨?_, ?_⟩
       · rfl
       · exact ⟨HBq.out, HVq.out, a', HF.out⟩
   · have hkN : k = N := by have := HN.out; omega
     have HF : Hid (TbO wq base tb (headR t x) a') := hQ0 (by rw [HE.out, ← hkN, ← HTR.out, ← HL.out]; exact HOq.out)
     clear hkk hgl i6 HRq HKq HOq
     go_wp2_with fail
     refine bodyPost_ret (v := .tuple #[]) (by simp only [results, Tryz.results97]; go_simp) rfl ⟨?_, ?_⟩
     · rfl
     · exact ⟨HBq.out, HVq.out, a', HF.out⟩
end Go.Proofs.YtbpcjpiaimdpnaaGreatDoor
namespace Go.Proofs.YtbpcjpiaimdpnaaGreatDoor
open Go
theorem size_app (h s : ByteArray) : (h ++ s).size = h.size + s.size := ByteArray.size_append
theorem byteAt_app (h s : ByteArray) (i : Nat) : byteAt (h ++ s) (h.size + i) = byteAt s i := by
 have e : (h ++ s).data.toList = h.data.toList ++ s.data.toList := by simp
 have l : h.data.toList.length = h.size := by simp
 simp only [byteAt, e, List.getD, ← l, List.getElem?_append_right (Nat.le_add_right _ _), Nat.add_sub_cancel_left]
theorem byteAt_app_left (h s : ByteArray) {i : Nat} (hi : i < h.size) : byteAt (h ++ s) i = byteAt h i := by
 have e : (h ++ s).data.toList = h.data.toList ++ s.data.toList := by simp
 have l : h.data.toList.length = h.size := by simp
 simp only [byteAt, e, List.getD]
 rw [List.getElem?_append_left (by rw [l]; exact hi)]
theorem cOf_app (h s : ByteArray) (i : Nat) : cOf (h ++ s) (h.size + i) = cOf s i := by unfold cOf; rw [byteAt_app]
theorem cOf_app_left (h s : ByteArray) {i : Nat} (hi : i < h.size) : cOf (h ++ s) i = cOf h i := by unfold cOf; rw [byteAt_app_left h s hi]
end Go.Proofs.YtbpcjpiaimdpnaaGreatDoor
namespace Go.Proofs.YtbpcjpiaimdpnaaGreatDoor
open Go
set_option linter.unusedVariables false
theorem run_uniq {p : Int → Bool} {u : ByteArray} {d m : Nat} (hd : d ≤ m) (hm : m ≤ u.size) (h1 : ∀ j, d ≤ j → j < m → p (cOf u j) = true) (h2 : m < u.size → p (cOf u m) = false) : run p u d = m := by
 have g := run_ge p u d
 have l := run_le p u (i := d) (by omega)
 rcases Nat.lt_trichotomy (run p u d) m with h | h | h
 · have := run_end (p := p) (s := u) (i := d) (by omega)
   rw [h1 _ g h] at this; cases this
 · exact h
 · have := run_mem (p := p) (s := u) hd h
   rw [h2 (by omega)] at this; cases this
theorem num_eq {M : Int} {u s : ByteArray} {i m : Nat} (hm : m ≤ u.size) (hs : i + m ≤ s.size) (hc : ∀ j, j < m → cOf u j = cOf s (i + j)) (h1 : m < u.size → digB (cOf u m) = false) (h2 : i + m < s.size → digB (cOf s (i + m)) = false) :
  ∀ k d n, d + k = m → (∀ j, d ≤ j → j < m → digB (cOf u j) = true) → num M u d n = num M s (i + d) n
 | 0, d, n, hk, ha => by
  obtain rfl : d = m := by omega
  rw [num_stop (fun h => by rw [h1 h.1] at h; exact absurd h.2 (by simp)), num_stop (fun h => by rw [h2 h.1] at h; exact absurd h.2 (by simp))]
 | k + 1, d, n, hk, ha => by
  have e := hc d (by omega)
  have hd := ha d (Nat.le_refl _) (by omega)
  rw [← num_step (s := u) (i := d) (by omega) hd, ← num_step (s := s) (i := i + d) (by omega) (by rw [← e]; exact hd), e, Nat.add_assoc i d 1]
  exact num_eq hm hs hc h1 h2 k (d + 1) _ (by omega) (fun j hj hj' => ha j (by omega) hj')
theorem byteAt_cut (s : ByteArray) {i e : Nat} (he : e ≤ s.size) {j : Nat} (hj : j < e - i) : byteAt (s.extract i e) j = byteAt s (i + j) := by
 simp only [byteAt, ByteArray.data_extract, Array.toList_extract, List.extract_eq_take_drop, List.getD]
 rw [List.getElem?_take_of_lt (by omega), List.getElem?_drop]
theorem cOf_cut (s : ByteArray) {i e : Nat} (he : e ≤ s.size) {j : Nat} (hj : j < e - i) : cOf (s.extract i e) j = cOf s (i + j) := by unfold cOf; rw [byteAt_cut s he hj]
theorem cut_head (t x : ByteArray) : (t ++ x).extract 0 t.size = t := by
 apply ByteArray.ext
 rw [ByteArray.data_extract, ByteArray.data_append]
 apply Array.ext'
 rw [Array.toList_extract, Array.toList_append, List.extract_eq_take_drop]
 have l' : t.data.toList.length = t.size := by simp
 rw [List.drop_zero, Nat.sub_zero, List.take_append_of_le_length (by omega), List.take_of_length_le (by omega)]
def IsW (k : Int) (t : ByteArray) (n : Int) : Prop :=
  0 < t.size ∧ ¬ (cOf t 0 = 32 ∨ cOf t 0 = 9 ∨ cOf t 0 = 10) ∧ cOf t 0 ≠ 35 ∧ ∀ x : ByteArray, (x.size = 0 ∨ cOf x 0 = 32) → wordR (t ++ x) 0 = .ok k t n t.size
theorem isW_of {s : ByteArray} {i : Nat} (hi : i < s.size) {k : Int} {t : ByteArray} {n : Int} {nx : Nat} (h : wordR s i = .ok k t n nx) (hb : ¬ (cOf s i = 32 ∨ cOf s i = 9 ∨ cOf s i = 10)) (hn : cOf s i ≠ 35) : IsW k t n := by
 obtain ⟨o1, o2, o3, -, -, -, -, o4⟩ := wordR_ok hi h
 have hc : ∀ j, j < t.size → cOf t j = cOf s (i + j) := by
  intro j hj
  rw [o4, cOf_cut s o2 (by omega)]
 have hc0 : cOf t 0 = cOf s i := hc 0 (by omega)
 refine ⟨by omega, by rw [hc0]; exact hb, by rw [hc0]; exact hn, ?_⟩
 intro x hx
 have hcx : ∀ j, j < t.size → cOf (t ++ x) j = cOf s (i + j) := by
  intro j hj
  rw [cOf_app_left t x hj, hc j hj]
 have hsz : (t ++ x).size = t.size + x.size := size_app t x
 have hend : t.size < (t ++ x).size → cOf (t ++ x) t.size = 32 := by
  intro hlt
  have := cOf_app t x 0
  rw [Nat.add_zero] at this
  rw [this]
  rcases hx with h | h
  · omega
  · exact h
 have hcx0 : cOf (t ++ x) 0 = cOf s i := hcx 0 (by omega)
 have hnx : nx = i + t.size := by omega
 subst hnx
 clear o3
 by_cases h0 : cOf s i = 59
 · unfold wordR at h ⊢
   rw [if_pos h0] at h
   rw [hcx0, if_pos h0]
   injection h with h1 h2 h3 h4
   rw [h1, h3, show t.size = 0 + 1 by omega, h2]
 · by_cases h1 : letB (cOf s i) = true
   · unfold wordR at h ⊢
     rw [if_neg h0, if_pos h1] at h
     rw [hcx0, if_neg h0, if_pos h1]
     split at h
     · cases h
     · rename_i hlen
       injection h with e1 e2 e3 e4
       have hr : run alnumB (t ++ x) 0 = t.size := run_uniq (by omega) (by omega)
        (fun j _ hj => by rw [hcx j hj]; exact run_mem (i := i) (by omega) (by omega))
        (fun hlt => by rw [hend hlt]; rfl)
       rw [hr, if_neg (by omega), cut_head, e1, e3]
   · have hl : letB (cOf s i) = false := by simpa using h1
     rw [wr_num0 h0 hl rfl] at h
     rw [wr_num0 (by rw [hcx0]; exact h0) (by rw [hcx0]; exact hl) rfl, hcx0]
     obtain ⟨d, hd⟩ : ∃ d, d = (if cOf s i = 45 then 1 else 0) := ⟨_, rfl⟩
     have hf1 : (if cOf s i = 45 then i + 1 else i) = i + d := by rw [hd]; split <;> rfl
     have hf2 : (if cOf s i = 45 then 0 + 1 else 0) = d := by rw [hd]
     rw [hf1] at h
     rw [hf2]
     split at h
     · cases h
     · rename_i g1
       split at h
       · cases h
       · rename_i g2
         split at h
         · cases h
         · rename_i g3
           injection h with e1 e2 e3 e4
           have hge := run_ge digB s (i + d)
           have hr : run digB (t ++ x) d = t.size := run_uniq (by omega) (by omega)
            (fun j hj hj' => by rw [hcx j hj']; exact run_mem (i := i + d) (by omega) (by omega))
            (fun hlt => by rw [hend hlt]; rfl)
           have hv : num 1073741825 (t ++ x) d 0 = num 1073741825 s (i + d) 0 :=
            num_eq (m := t.size) (by omega) o2 hcx (fun hlt => by rw [hend hlt]; rfl)
             (fun hlt => by have := run_end (p := digB) (s := s) (i := i + d) (by omega); rwa [e4] at this)
             (t.size - d) d 0 (by omega) (fun j hj hj' => by rw [hcx j hj']; exact run_mem (i := i + d) (by omega) (by omega))
           rw [hr, hv, if_neg (by omega), if_neg g2, if_neg (fun hh => by rw [hend hh.1] at hh; exact absurd hh.2 (by decide)), cut_head, e1, e3]
def sp : ByteArray := ⟨#[32]⟩
def Chain (s : ByteArray) : Nat → List WV → Prop
  | _, [] => True
  | i, x :: r => i ≤ x.at_ ∧ x.at_ + x.text.size ≤ s.size ∧ s.extract x.at_ (x.at_ + x.text.size) = x.text ∧ IsW x.kind x.text x.num ∧ Chain s (x.at_ + x.text.size) r
theorem chain_le {s : ByteArray} {i j : Nat} (h : j ≤ i) : ∀ {l}, Chain s i l → Chain s j l
 | [], _ => trivial
 | x :: r, hc => ⟨Nat.le_trans h hc.1, hc.2⟩
theorem scan_chain (s : ByteArray) : ∀ f i acc, s.size - i < f → (∃ m, scanF s f i acc = (acc ++ m, 0, 0) ∧ Chain s i m) ∨ ((scanF s f i acc).2.1 ≠ 0 ∧ (scanF s f i acc).1 = [])
 | 0, i, acc, hf => by omega
 | f + 1, i, acc, hf => by
  unfold scanF
  by_cases hlt : i < s.size
  · rw [if_pos hlt]
    by_cases h1 : cOf s i = 32 ∨ cOf s i = 9 ∨ cOf s i = 10
    · rw [if_pos h1]
      rcases scan_chain s f (i + 1) acc (by omega) with ⟨m, hm, hc⟩ | h
      · exact .inl ⟨m, hm, chain_le (by omega) hc⟩
      · exact .inr h
    · rw [if_neg h1]
      by_cases h2 : cOf s i = 35
      · rw [if_pos h2]
        have hge : i + 1 ≤ run notLf s i := by rw [← run_step hlt (p := notLf) (by simp [notLf]; omega)]; exact run_ge _ _ _
        rcases scan_chain s f (run notLf s i) acc (by omega) with ⟨m, hm, hc⟩ | h
        · exact .inl ⟨m, hm, chain_le (by omega) hc⟩
        · exact .inr h
      · rw [if_neg h2]
        cases hw : wordR s i with
        | err e a => exact .inr ⟨by have := wordR_err hw; simp only; omega, rfl⟩
        | ok k t n nx =>
         have hok := wordR_ok hlt hw
         have hnx : nx = i + t.size := by omega
         subst hnx
         have hl : ByteArray.size t = t.size := rfl
         rcases scan_chain s f (i + t.size) (acc ++ [⟨k, t, n, i⟩]) (by omega) with ⟨m, hm, hc⟩ | h
         · refine .inl ⟨⟨k, t, n, i⟩ :: m, ?_, Nat.le_refl _, hok.2.1, hok.2.2.2.2.2.2.2.symm, isW_of hlt hw h1 h2, hc⟩
           simp only
           rw [hm]
           simp
         · exact .inr h
  · rw [if_neg hlt]; exact .inl ⟨[], by simp, trivial⟩
theorem scanR_chain (s : ByteArray) : (∃ m, scanR s = (m, 0, 0) ∧ Chain s 0 m ∧ s.size ≤ 20000) ∨ ((scanR s).2.1 ≠ 0 ∧ (scanR s).1 = []) := by
 unfold scanR
 by_cases hs : 20000 < s.size
 · rw [if_pos hs]; exact .inr ⟨by simp, rfl⟩
 · rw [if_neg hs]
   rcases scan_chain s (s.size + 1) 0 [] (by omega) with ⟨m, hm, hc⟩ | h
   · exact .inl ⟨m, by rw [hm]; simp, hc, by omega⟩
   · exact .inr h
theorem chain_isW {s : ByteArray} : ∀ {l i}, Chain s i l → ∀ x ∈ l, IsW x.kind x.text x.num
 | [], _, _, x, hx => by cases hx
 | y :: r, i, hc, x, hx => by
  rcases List.mem_cons.1 hx with rfl | h
  · exact hc.2.2.2.1
  · exact chain_isW hc.2.2.2.2 x h
theorem chain_get {s : ByteArray} : ∀ {l : List WV} {i k : Nat} {x : WV}, Chain s i l → l[k]? = some x → x.at_ + x.text.size ≤ s.size ∧ s.extract x.at_ (x.at_ + x.text.size) = x.text ∧ (k = 0 → i ≤ x.at_) ∧ (∀ y, l[k + 1]? = some y → x.at_ + x.text.size ≤ y.at_)
 | [], i, k, x, _, h => by simp at h
 | y :: r, i, 0, x, hc, h => by
  simp only [List.getElem?_cons_zero, Option.some.injEq] at h
  subst h
  obtain ⟨h1, h2, h3, h4, h5⟩ := hc
  refine ⟨h2, h3, fun _ => h1, fun z hz => ?_⟩
  simp only [List.getElem?_cons_succ] at hz
  exact (chain_get h5 hz).2.2.1 rfl
 | y :: r, i, k + 1, x, hc, h => by
  simp only [List.getElem?_cons_succ] at h
  obtain ⟨a, b, c, d⟩ := chain_get hc.2.2.2.2 h
  exact ⟨a, b, fun hk => absurd hk (by omega), fun z hz => d z (by simpa using hz)⟩
end Go.Proofs.YtbpcjpiaimdpnaaGreatDoor
namespace Go.Proofs.YtbpcjpiaimdpnaaGreatDoor
open Go Go.RowKit
set_option linter.unusedVariables false
theorem words_bd (s : ByteArray) : ∀ y ∈ (scanR s).1, y.text.size ≤ 20000 ∧ -1073741824 ≤ y.num ∧ y.num ≤ 1073741824 := by
 intro y hy
 rcases scanR_chain s with ⟨m, hm, hc, hs⟩ | ⟨_, hb⟩
 · rw [hm] at hy
   obtain ⟨k, hk⟩ := List.getElem?_of_mem hy
   have h1 := chain_get hc hk
   have h2 := chain_isW hc y hy
   have e : y.text ++ (⟨#[]⟩ : ByteArray) = y.text := by apply ByteArray.ext; rw [ByteArray.data_append]; simp
   have h3 := wordR_ok (s := y.text ++ ⟨#[]⟩) (i := 0) (by rw [e]; exact h2.1) (h2.2.2.2 ⟨#[]⟩ (.inl rfl))
   exact ⟨by omega, h3.2.2.2.1, h3.2.2.2.2.1⟩
 · rw [hb] at hy
   simp at hy
structure ItOk0 (x : IV) : Prop where
  iv : IvOk x
  ar : ArOk x
  nm : x.name.size ≤ 20000
  num : ∀ k ∈ x.keys, ∀ n ∈ k.vals, -1073741824 ≤ n ∧ n ≤ 1073741824
theorem itemF_name {e : Nat} {l : List WV} {x : IV} {r : List WV} (h : itemF e l = .ok x r) : x.name = ⟨#[]⟩ ∨ ∃ y ∈ l, x.name = y.text := by
 cases l with
 | nil => cases h
 | cons y l =>
  simp only [itemF] at h
  split at h
  · cases h
  · split at h
    · cases h
    · split at h
      · exact .inl (restF_two h).2.1
      · cases l with
        | nil => cases h
        | cons z l =>
         simp only at h
         split at h
         · cases h
         · exact .inr ⟨z, by simp, (restF_two h).2.1⟩
theorem parse_it0 (s : ByteArray) : (parseR s).1.length ≤ 400 ∧ ∀ x ∈ (parseR s).1, ItOk0 x := parseR_ok s ItOk0 fun l x r hl hm h => by
 have h2 := itemF_two h
 have h3 := itemF_len h
 have h4 := scanR_len s
 refine ⟨⟨by omega, fun k hk => by have := h2 k hk; omega⟩, itemF_ar h, ?_, ?_⟩
 · rcases itemF_name h with e | ⟨y, hy, e⟩
   · rw [e]; decide
   · rw [e]; exact (words_bd s y (hm y hy)).1
 · exact (itemF_mem (Q := fun k => ∀ n ∈ k.vals, -1073741824 ≤ n ∧ n ≤ 1073741824) (fun word y vs _ _ _ _ hv n hn => by
    obtain ⟨w, hw, e⟩ := hv n hn
    have := words_bd s w (hm w hw)
    omega) h).2
structure ItOk (x : IV) : Prop extends ItOk0 x where
  ww : x.word = t_table ∨ x.word = t_wall
theorem parse_it (s : ByteArray) (hw : ∀ x ∈ (parseR s).1, x.word = t_table ∨ x.word = t_wall) : (parseR s).1.length ≤ 400 ∧ ∀ x ∈ (parseR s).1, ItOk x := ⟨(parse_it0 s).1, fun x hx => ⟨(parse_it0 s).2 x hx, hw x hx⟩⟩
theorem ItOk.tr {x : IV} (h : ItOk x) : ∀ vs, getR x.keys k_trough = some vs → ∀ z ∈ vs, -1073741824 ≤ z ∧ z ≤ 1073741824 := fun vs hv z hz => by
 unfold getR at hv
 cases hf : x.keys.find? (fun p => decide (p.key = k_trough)) with
 | none => rw [hf] at hv; cases hv
 | some p =>
  rw [hf] at hv
  simp only [Option.map_some, Option.some.injEq] at hv
  subst hv
  exact h.num p (List.mem_of_find?_eq_some hf) z hz
attribute [local go_sem ↓] evalL getL64 setL64
attribute [local go_sem ↓] getL8 setL8
attribute [local go_sem ↓] getL1 getL0
theorem infWl : (Tryz.prog.info? 53).map (fun i => (i.zero, i.size, i.bytes)) = some (some (.agg #[.string ⟨#[]⟩, .int .i64 0, .int .i64 0, .int .i64 0, .int .i64 0, .int .i64 0, .int .i64 0, .int .i64 0, .int .i64 0, .int .i64 0, .int .i64 0, .int .i64 0, .int .i64 0]), 13, 112) := by kernel_rfl
set_option maxRecDepth 100000 in
set_option maxHeartbeats 8000000 in
theorem add_wall (w : World) (base tb : Nat) (t : Tb) (a : TbA) (x : IV) (B : Option Addr) (d : Nat) (hO : TbO w base tb t a) (hlt : tb < base) (hbw : base ≤ w.heap.size) (hK : ∃ w0 : World, KsAt w0 B x.keys ∧ Below w0.heap.size w0 w ∧ w0.heap.size ≤ tb) (ho : IvOk x) (hw : x.word = t_wall) (q : Nat) (wz : World) (hOz : TbO wz base tb t a) (hqz : wz.heap.size ≤ q) (hq : q < w.heap.size)
  (h1 : ∀ k ∈ [k_level, k_rest, k_grip, k_coil, k_switch, k_min, k_kick, k_size, k_into, k_limit], Has1 x k) (h2 : ∀ k ∈ [k_center, k_from, k_to, k_half, k_out, k_dir], Has2 x k) (hl : t.ws.length ≤ 1000000) :
  Calls Tryz.prog 40 #[.pointer (some ⟨tb, 0, none⟩), vOfX x B d] w (AddOut (putR t x) (!missAll x) base tb q w) := by
 have hzt := hOz.bx.lt
 have HOZ := hQ0 hOz
 clear hOz
 have HO := hQ0 hO
 have HK := hQ0 hK
 have H1 := hQ0 h1
 have H2 := hQ0 h2
 have HW := hQ0 hw
 clear hO hK h1 h2
 unfold vOfX
 have b_table : (x.word.toList == ([116, 97, 98, 108, 101] : List UInt8)) = false := by rw [hw]; kernel_rfl
 have b_wall : (x.word.toList == ([119, 97, 108, 108] : List UInt8)) = true := by rw [hw]; kernel_rfl
 have b_gate : (x.word.toList == ([103, 97, 116, 101] : List UInt8)) = false := by rw [hw]; kernel_rfl
 have b_target : (x.word.toList == ([116, 97, 114, 103, 101, 116] : List UInt8)) = false := by rw [hw]; kernel_rfl
 have b_sling : (x.word.toList == ([115, 108, 105, 110, 103] : List UInt8)) = false := by rw [hw]; kernel_rfl
 have b_arc : (x.word.toList == ([97, 114, 99] : List UInt8)) = false := by rw [hw]; kernel_rfl
 have b_post : (x.word.toList == ([112, 111, 115, 116] : List UInt8)) = false := by rw [hw]; kernel_rfl
 have b_flipper : (x.word.toList == ([102, 108, 105, 112, 112, 101, 114] : List UInt8)) = false := by rw [hw]; kernel_rfl
 have b_zone : (x.word.toList == ([122, 111, 110, 101] : List UInt8)) = false := by rw [hw]; kernel_rfl
 have b_saucer : (x.word.toList == ([115, 97, 117, 99, 101, 114] : List UInt8)) = false := by rw [hw]; kernel_rfl
 have b_lane : (x.word.toList == ([108, 97, 110, 101] : List UInt8)) = false := by rw [hw]; kernel_rfl
 have b_ramp : (x.word.toList == ([114, 97, 109, 112] : List UInt8)) = false := by rw [hw]; kernel_rfl
 have b_drain : (x.word.toList == ([100, 114, 97, 105, 110] : List UInt8)) = false := by rw [hw]; kernel_rfl
 have b_launcher : (x.word.toList == ([108, 97, 117, 110, 99, 104, 101, 114] : List UInt8)) = false := by rw [hw]; kernel_rfl
 clear hw
 go_enter Tryz.func40, Tryz.ntmps40; (try simp only [List.append_eq, List.cons_append, List.nil_append])
 go_upto_region 2 with (fail)
 (refine pin_eqT (fun w1 hE_w1 => ?_))
 obtain ⟨TC, hTC⟩ : ∃ z : List Value, z = t.cells a := ⟨_, rfl⟩
 have HTC := hQ0 hTC
 have HX1 : Hid (BoxAt w1 w.heap.size [.string x.word, .string x.name, .slice B x.keys.length d, .int .i64 x.at_]) := hQ0 (by rw [hE_w1]; exact (BoxAt.new _ _ _).alloc _)
 have HT1 : Hid (BoxAt w1 tb TC) := hQ0 (by rw [hE_w1, hTC]; exact (HO.out.bx.alloc _).alloc _)
 have HB1 : Hid (Below w.heap.size w w1) := hQ0 (by rw [hE_w1]; ((with_reducible (repeat (first | exact bR _ _ | apply bS | apply bA | apply bD | refine bT ?_ (by assumption) ?_ | refine bO (by assumption) ?_ ?_))) <;> (first | omega | (simp <;> omega))))
 obtain ⟨vb, hvb⟩ : ∃ z, z = w.heap.size + 1 := ⟨_, rfl⟩
 have HV1 : Hid (VAt w1 vb x B d false) := hQ0 (by
  obtain ⟨w0, q1, q2, q3⟩ := HK.out
  rw [hE_w1, hvb]
  refine ⟨?_, w0, q1, (q2.alloc (by have := q2.size; omega) _).alloc (by have := q2.size; simp; omega) _, by have := q2.size; omega⟩
  have := BoxAt.new (w.alloc (.cells #[.string x.word, .string x.name, .slice B x.keys.length d, .int .i64 x.at_] 97)) [.string x.word, .string x.name, .slice B x.keys.length d, .int .i64 x.at_, .bool false] 163
  have hsz : (w.alloc (.cells #[.string x.word, .string x.name, .slice B x.keys.length d, .int .i64 x.at_] 97)).heap.size = w.heap.size + 1 := by simp
  rw [hsz] at this
  exact this)
 have hvw : w.heap.size < vb := by omega
 rw [← hvb]
 clear hE_w1 hTC hvb
 have x0 := HX1.out.c 0 (.string x.word) rfl
 have hltX := HX1.out.lt
 go_upto_region 12 with (first | (go_at_call 94; refine (vbounce_any _ _ x B d _ HV1.out ho (H1.out _ (by simp)) (H1.out _ (by simp))).mono ?_; rintro e w2 ⟨rfl, hb2⟩; have HV2 := hQ0 (HV1.out.below hb2); have HX2 := hQ0 (HX1.out.below hb2 HX1.out.lt)) | (go_at_call 95; refine (vports_any _ _ x B d _ HV2.out ho (H1.out _ (by simp)) (H1.out _ (by simp))).mono ?_; rintro e w3 ⟨rfl, hb3⟩; have HV3 := hQ0 (HV2.out.below hb3); have HX3 := hQ0 (HX2.out.below hb3 HX2.out.lt)) | (go_at_call 96; refine (or_any _ _ x B d _ k_min 0 HV3.out ho (H1.out _ (by simp)).ne).mono ?_; rintro e w4 ⟨rfl, hb4⟩; have HV4 := hQ0 (HV3.out.below hb4); have HX4 := hQ0 (HX3.out.below hb4 HX3.out.lt); have x04 := HX4.out.c 0 (.string x.word) rfl))
 have hS4 : Below w.heap.size w w4 ∧ BoxAt w4 w.heap.size [.string x.word, .string x.name, .slice B x.keys.length d, .int .i64 x.at_] ∧ BoxAt w4 tb TC := ⟨((HB1.out.trans (hb2.mono HB1.out.size)).trans (hb3.mono (by have := HB1.out.size; have := hb2.size; omega))).trans (hb4.mono (by have := HB1.out.size; have := hb2.size; have := hb3.size; omega)), HX4.out, ((HT1.out.below hb2 HT1.out.lt).below hb3 (by have := HT1.out.lt; have := hb2.size; omega)).below hb4 (by have := HT1.out.lt; have := hb2.size; have := hb3.size; omega)⟩
 have hV_ := HV4.out
 have hBw_ : Below w.heap.size w w4 := hS4.1
 have hS4 := And.intro (BelQ.of (tb := tb) (q := q) hS4.1 (by omega) hq) hS4.2
 clear HV1 HV2 HV3 HV4 HX1 HX2 HX3 HX4 HT1 hb2 hb3 hb4 x0 x04 hltX HB1
 have HS4 := hQ0 hS4
 clear hS4
 have hVd_ := hV_.below ((Below.refl w4.heap.size w4).drew)
 clear hV_
 have hV_ := hVd_
 clear hVd_
 have hBd_ := hBw_.drew
 clear hBw_
 have hBw_ := hBd_
 clear hBd_
 have hS_ : (fun W_ => BelQ tb q w W_ ∧ BoxAt W_ w.heap.size [.string x.word, .string x.name, .slice B x.keys.length d, .int .i64 x.at_] ∧ BoxAt W_ tb TC) w4.drew := ⟨HS4.out.1.drew, HS4.out.2.1.drew, HS4.out.2.2.drew⟩
 refine wp_region_Y (fun W_ => BelQ tb q w W_ ∧ BoxAt W_ w.heap.size [.string x.word, .string x.name, .slice B x.keys.length d, .int .i64 x.at_] ∧ BoxAt W_ tb TC) 26 [26, 27, 28] (by kernel_rfl) (by kernel_rfl) (by kernel_rfl) (by kernel_rfl) (fun _ _ _ _ _ h => h) hS_ ?_
 generalize w4.drew = wd_ at hS_ hV_ hBw_ ⊢
 iterate 9 (apply wpY_seq 26 rfl (by kernel_rfl) true (by exact rfl); (case h => intro _ W_ hW_; have hcW_ := (bcellW hW_.1.b).1; have hY_ := hW_.2.2; have y0_ := hY_.c 8 (.slice a.ws t.ws.length a.wsc) ((by rw [HTC.out]; rfl)); have hY1_ := hW_.2.1; have ya0_ := hY1_.c 0 (.string x.word) (rfl); have ya1_ := hY1_.c 1 (.string x.name) (rfl); go_simp; try exact rfl); intro K hK; go_simp; apply hK; clear hK K)
 apply wpY_maybe (i := 10) rfl (by kernel_rfl) true (by exact rfl)
 (case h => intro _ W_ hW_; have hcW_ := (bcellW hW_.1.b).1; go_simp; try exact rfl)
 intro K hK; go_simp; apply hK; clear hK K
 apply wpY_maybe (i := 12) rfl (by kernel_rfl) true (by exact rfl)
 (case h => intro _ W_ hW_; have hcW_ := (bcellW hW_.1.b).1; go_simp; try exact rfl)
 intro K hK; go_simp; apply hK; clear hK K
 apply wpY_maybe (i := 14) rfl (by kernel_rfl) true (by exact rfl)
 (case h => intro _ W_ hW_; have hcW_ := (bcellW hW_.1.b).1; go_simp; try exact rfl)
 intro K hK; go_simp; apply hK; clear hK K
 apply wpY_maybe (i := 16) rfl (by kernel_rfl) true (by exact rfl)
 (case h => intro _ W_ hW_; have hcW_ := (bcellW hW_.1.b).1; go_simp; try exact rfl)
 intro K hK; go_simp; apply hK; clear hK K
 apply wpY_maybe (i := 17) rfl (by kernel_rfl) true (by exact rfl)
 (case h => intro _ W_ hW_; have hcW_ := (bcellW hW_.1.b).1; go_simp; try exact rfl)
 intro K hK; go_simp; apply hK; clear hK K
 apply wpY_maybe (i := 18) rfl (by kernel_rfl) true (by exact rfl)
 (case h => intro _ W_ hW_; have hcW_ := (bcellW hW_.1.b).1; go_simp; try exact rfl)
 intro K hK; go_simp; apply hK; clear hK K
 apply wpY_maybe (i := 20) rfl (by kernel_rfl) true (by exact rfl)
 (case h => intro _ W_ hW_; have hcW_ := (bcellW hW_.1.b).1; go_simp; try exact rfl)
 intro K hK; go_simp; apply hK; clear hK K
 apply wpY_maybe (i := 21) rfl (by kernel_rfl) true (by exact rfl)
 (case h => intro _ W_ hW_; have hcW_ := (bcellW hW_.1.b).1; go_simp; try exact rfl)
 intro K hK; go_simp; apply hK; clear hK K
 apply wpY_maybe (i := 22) rfl (by kernel_rfl) true (by exact rfl)
 (case h => intro _ W_ hW_; have hcW_ := (bcellW hW_.1.b).1; go_simp; try exact rfl)
 intro K hK; go_simp; apply hK; clear hK K
 refine wpY_one (i := 9) rfl (by kernel_rfl) rfl ?_
 intro K hK; generalize hA_ : Act.mk _ _ = A_; (have v49_ := evA hA_ 49; simp only [getL64, getL8, getL1, getL0, opt_true, Bool.not_false] at v49_); have HA_ := hQ0 hA_; clear hA_; have vc_ := acC A_; have vf_ := acF A_; generalize Act.eval A_ = ev_ at vc_ vf_ v49_ ⊢; go_simp
 go_at_call 98; refine (kind_any x.word _).mono ?_; rintro e w_ ⟨rfl, hb_⟩; clear vc_ vf_ v49_; have hS2_ : (fun W_ => BelQ tb q w W_ ∧ BoxAt W_ w.heap.size [.string x.word, .string x.name, .slice B x.keys.length d, .int .i64 x.at_] ∧ BoxAt W_ tb TC) w_ := ⟨hS_.1.call hb_ (by have := hBw_.size; omega) (by have := hBw_.size; omega), hS_.2.1.below hb_ hS_.2.1.lt, hS_.2.2.below hb_ hS_.2.2.lt⟩; have hB2_ := hBw_.trans (hb_.mono hBw_.size); clear hBw_; have hBw_ := hB2_; clear hB2_; have hV2_ := hV_.below hb_; clear hV_; have hV_ := hV2_; clear hV2_ hb_; refine ⟨hS2_, ?_⟩; clear hS_; have hS_ := hS2_; clear hS2_
 have hA2_ := HA_.out; clear HA_; subst hA2_; go_simp; apply hK; clear hK K
 refine wpY_one (i := 11) rfl (by kernel_rfl) rfl ?_
 intro K hK; generalize hA_ : Act.mk _ _ = A_; (have v51_ := evA hA_ 51; simp only [getL64, getL8, getL1, getL0, opt_true, Bool.not_false] at v51_); have HA_ := hQ0 hA_; clear hA_; have vc_ := acC A_; have vf_ := acF A_; generalize Act.eval A_ = ev_ at vc_ vf_ v51_ ⊢; go_simp
 go_at_call 99; refine (vlevel_any _ _ x B d _ hV_ ho (H1.out _ (by simp))).mono ?_; rintro e w_ ⟨rfl, hb_⟩; clear vc_ vf_ v51_; have hS2_ : (fun W_ => BelQ tb q w W_ ∧ BoxAt W_ w.heap.size [.string x.word, .string x.name, .slice B x.keys.length d, .int .i64 x.at_] ∧ BoxAt W_ tb TC) w_ := ⟨hS_.1.call hb_ (by have := hBw_.size; omega) (by have := hBw_.size; omega), hS_.2.1.below hb_ hS_.2.1.lt, hS_.2.2.below hb_ hS_.2.2.lt⟩; have hB2_ := hBw_.trans (hb_.mono hBw_.size); clear hBw_; have hBw_ := hB2_; clear hB2_; have hV2_ := hV_.below hb_; clear hV_; have hV_ := hV2_; clear hV2_ hb_; refine ⟨hS2_, ?_⟩; clear hS_; have hS_ := hS2_; clear hS2_
 have hA2_ := HA_.out; clear HA_; subst hA2_; go_simp; apply hK; clear hK K
 refine wpY_one (i := 13) rfl (by kernel_rfl) rfl ?_
 intro K hK; generalize hA_ : Act.mk _ _ = A_; (have v53_ := evA hA_ 53; simp only [getL64, getL8, getL1, getL0, opt_true, Bool.not_false] at v53_); have HA_ := hQ0 hA_; clear hA_; have vc_ := acC A_; have vf_ := acF A_; generalize Act.eval A_ = ev_ at vc_ vf_ v53_ ⊢; go_simp
 go_at_call 100; refine (vec_any _ _ x B d _ k_from hV_ ho (H2.out _ (by simp))).mono ?_; rintro e w_ ⟨rfl, hbt_, hV2_⟩; clear vc_ vf_ v53_; have hS2_ : (fun W_ => BelQ tb q w W_ ∧ BoxAt W_ w.heap.size [.string x.word, .string x.name, .slice B x.keys.length d, .int .i64 x.at_] ∧ BoxAt W_ tb TC) w_ := ⟨hS_.1.call (hbt_.toBelow (B := w.heap.size) (by omega) hBw_.size) (by omega) hq, hS_.2.1.block hbt_.size (hbt_.block _ hS_.2.1.lt (by omega)), hS_.2.2.block hbt_.size (hbt_.block _ hS_.2.2.lt (by omega))⟩; have hB2_ := hBw_.trans (hbt_.toBelow (by omega) hBw_.size); clear hBw_; have hBw_ := hB2_; clear hB2_; clear hV_; have hV_ := hV2_; clear hV2_ hbt_; refine ⟨hS2_, ?_⟩; clear hS_; have hS_ := hS2_; clear hS2_
 have hA2_ := HA_.out; clear HA_; subst hA2_; go_simp; apply hK; clear hK K
 refine wpY_one (i := 15) rfl (by kernel_rfl) rfl ?_
 intro K hK; generalize hA_ : Act.mk _ _ = A_; (have v55_ := evA hA_ 55; simp only [getL64, getL8, getL1, getL0, opt_true, Bool.not_false] at v55_); have HA_ := hQ0 hA_; clear hA_; have vc_ := acC A_; have vf_ := acF A_; generalize Act.eval A_ = ev_ at vc_ vf_ v55_ ⊢; go_simp
 go_at_call 100; refine (vec_any _ _ x B d _ k_to hV_ ho (H2.out _ (by simp))).mono ?_; rintro e w_ ⟨rfl, hbt_, hV2_⟩; clear vc_ vf_ v55_; have hS2_ : (fun W_ => BelQ tb q w W_ ∧ BoxAt W_ w.heap.size [.string x.word, .string x.name, .slice B x.keys.length d, .int .i64 x.at_] ∧ BoxAt W_ tb TC) w_ := ⟨hS_.1.call (hbt_.toBelow (B := w.heap.size) (by omega) hBw_.size) (by omega) hq, hS_.2.1.block hbt_.size (hbt_.block _ hS_.2.1.lt (by omega)), hS_.2.2.block hbt_.size (hbt_.block _ hS_.2.2.lt (by omega))⟩; have hB2_ := hBw_.trans (hbt_.toBelow (by omega) hBw_.size); clear hBw_; have hBw_ := hB2_; clear hB2_; clear hV_; have hV_ := hV2_; clear hV2_ hbt_; refine ⟨hS2_, ?_⟩; clear hS_; have hS_ := hS2_; clear hS2_
 have hA2_ := HA_.out; clear HA_; subst hA2_; go_simp; apply hK; clear hK K
 refine wpY_one (i := 19) rfl (by kernel_rfl) rfl ?_
 intro K hK; generalize hA_ : Act.mk _ _ = A_; (have v59_ := evA hA_ 59; simp only [getL64, getL8, getL1, getL0, opt_true, Bool.not_false] at v59_); have HA_ := hQ0 hA_; clear hA_; have vc_ := acC A_; have vf_ := acF A_; generalize Act.eval A_ = ev_ at vc_ vf_ v59_ ⊢; go_simp
 go_at_call 96; refine (or_any _ _ x B d _ k_kick 0 hV_ ho (H1.out _ (by simp)).ne).mono ?_; rintro e w_ ⟨rfl, hb_⟩; clear vc_ vf_ v59_; have hS2_ : (fun W_ => BelQ tb q w W_ ∧ BoxAt W_ w.heap.size [.string x.word, .string x.name, .slice B x.keys.length d, .int .i64 x.at_] ∧ BoxAt W_ tb TC) w_ := ⟨hS_.1.call hb_ (by have := hBw_.size; omega) (by have := hBw_.size; omega), hS_.2.1.below hb_ hS_.2.1.lt, hS_.2.2.below hb_ hS_.2.2.lt⟩; have hB2_ := hBw_.trans (hb_.mono hBw_.size); clear hBw_; have hBw_ := hB2_; clear hB2_; have hV2_ := hV_.below hb_; clear hV_; have hV_ := hV2_; clear hV2_ hb_; refine ⟨hS2_, ?_⟩; clear hS_; have hS_ := hS2_; clear hS2_
 have hA2_ := HA_.out; clear HA_; subst hA2_; go_simp; apply hK; clear hK K
 apply wpY_maybe (i := 23) rfl (by kernel_rfl) true (by exact rfl)
 (case h => intro _ W_ hW_; have hcW_ := (bcellW hW_.1.b).1; go_simp; try exact rfl)
 intro K hK; go_simp; apply hK; clear hK K
 obtain ⟨wq, rfl⟩ : ∃ z, z = w_ := ⟨_, rfl⟩
 apply wpY_freshm (i := 24) rfl (by kernel_rfl) true (by exact rfl)
 (case h => intro _; generalize hev_ : Act.eval _ = ev_; (have v64_ := evE hev_ 64; simp only [getL64, getL8, getL1, getL0, opt_true, Bool.not_false] at v64_); have vc_ := evC hev_; clear hev_; go_simp; first | done | exact rfl | exact ⟨rfl, rfl⟩); (case hS' => exact ⟨hS_.1.alloc (by have := hBw_.size; omega) (by have := hBw_.size; omega) _, hS_.2.1.alloc _, hS_.2.2.alloc _⟩)
 intro K hK w_ hS2_ hw0_; have hw_ := hQ0 hw0_; clear hw0_; go_simp; apply hK; clear hK K hS_; have hS_ := hS2_; clear hS2_
 have hE_ := hw_.out rfl
 have hR_ : BoxAt w_ wq.heap.size (mkWl x).cells := by rw [hE_]; exact BoxAt.new wq (mkWl x).cells _
 have hBq : Below w.heap.size w w_ := by rw [hE_]; exact hBw_.alloc hBw_.size _
 have hVq := hV_.below (w' := w_) (by rw [hE_]; exact (Below.refl _ _).alloc (Nat.le_refl _) _)
 clear hE_ hw_ hBw_ hV_
 refine wpY_one (i := 25) rfl (by kernel_rfl) rfl ?_
 intro K hK
 have HOq := HO.out.below hBq (Nat.le_refl _)
 have hrow : ∀ k, (Value.slice a.ws t.ws.length a.wsc).ownBlock = some k → base ≤ k ∧ k < w.heap.size ∧ q ≠ k := fun k hk => by
  have r1 := World.ownsRow.lt HO.out.ws k hk
  have r2 := World.ownsRow.lt HOZ.out.ws k hk
  omega
 refine upon_append_one (.tmp 45) (.tmp 65) 25 53 _ 13 _ rfl Tryz.underlying25 infWl rfl (by decide) (by decide) base (.slice a.ws t.ws.length a.wsc) t.ws.length (t.ws.flatMap Wl.cells) (mkWl x).cells ((evalL _ _ 45).trans (by simp only [getL64, getL8, getL1, getL0, opt_true])) HOq.ws wq.heap.size 1 ((evalL _ _ 65).trans (by simp only [getL64, getL8, getL1, getL0, opt_true])) rfl hR_.c (by simp [mkWl, Wl.cells, Value.oneCell']) hl (by have := hBq.size; omega) ?_
 intro v' w' hown' hgr' hbk'
 obtain ⟨A', c', rfl, hput⟩ := HOq.put_ws hlt (mkWl x) hown' hgr'
 have hS2_ : (fun W_ => BelQ tb q w W_ ∧ BoxAt W_ w.heap.size [.string x.word, .string x.name, .slice B x.keys.length d, .int .i64 x.at_] ∧ BoxAt W_ tb TC) w' := ⟨hS_.1.grown hgr' (fun k hk => by have := hrow k hk; omega) (by have := hBq.size; omega) (by have := hBq.size; omega) (fun k hk => by have := hrow k hk; omega), boxAt_grown hS_.2.1 hgr' (fun k hk e => by have := hrow k hk; omega), boxAt_grown hS_.2.2 hgr' (fun k hk e => by have := hrow k hk; omega)⟩
 have hV2_ : VAt w' vb x B d (missR x k_to (missR x k_from false)) := by
  obtain ⟨w0, q1, q2, q3⟩ := HK.out
  have hz0 := q2.size
  have hzq := hBq.size
  exact ⟨boxAt_grown hVq.bx hgr' (fun k hk e => by have := hrow k hk; omega), w0, q1, (q2.trans (hBq.mono (by omega))).trans (below_grown hgr' (fun k hk => by have := hrow k hk; omega) (by omega)), by omega⟩
 refine ⟨hS2_, ?_⟩
 clear hS_ hVq hR_ hown' hbk'
 have hS_ := hS2_
 clear hS2_
 go_simp
 refine hK _ _ ?_
 clear hK K
 refine wpY_nil (by kernel_rfl) ?_
 (try simp only [List.filterMap_cons, List.filterMap_nil, List.getElem?_cons_succ, List.getElem?_cons_zero])
 (try go_simp)
 have hS9 := hS_
 have hT9 := hS9.2.2
 have hc9 := hT9.c 8 (.slice a.ws t.ws.length a.wsc) (by rw [HTC.out]; rfl)
 have hz9 := hT9.fz 8
 have hlt9 := hT9.lt
 have v9 := hV2_.bx.c 4 (.bool (missR x k_to (missR x k_from false))) rfl
 have hltV := hV2_.bx.lt
 have hne9 : tb ≠ vb := by omega
 obtain ⟨M, hM⟩ : ∃ z, z = (missR x k_to (missR x k_from false)) := ⟨_, rfl⟩
 rw [← hM] at v9
 have HM : Hid (missAll x = M) := hQ0 (by rw [hM]; unfold missAll missR; rw [HW.out, show reqR t_wall = [k_from, k_to] from by kernel_rfl]; simp [Bool.or_assoc, Bool.or_comm, Bool.or_left_comm])
 have HP := hQ0 hput
 have HB9 : Hid (BelQ tb q w w') := hQ0 hS9.1
 clear hM hput hS_ hS9
 have HT9 := hQ0 hT9
 clear hT9
 go_wp2_with fail
 go_ret
 refine ⟨(show _ = Ending.returned (.bool (!M)) from rfl).trans (by rw [HM.out]), HB9.out.set (by simp) (by simp only; omega), { a with ws := A', wsc := c' }, ?_⟩
 have e : putR t x = { t with ws := t.ws ++ [mkWl x] } := by unfold putR; rw [HW.out]; kernel_rfl
 rw [e]
 exact HP.out
end Go.Proofs.YtbpcjpiaimdpnaaGreatDoor
