/- Merged texts: MpLw MpMw SrcL LnEw DrawT LtT0w LtT1w Ltwsw Lt0w LtTw Aw9w Aw9Ww (what no proof of the claim needs is left out). -/
import Derived.Test.YtbpcjpiaimdpnaaGreatDoorLk5
import Derived.BigRegion
import Derived.Deep.Cut
set_option linter.unusedSimpArgs false
set_option linter.unusedVariables false
namespace Go.Proofs.YtbpcjpiaimdpnaaGreatDoor
open Go Go.RowKit
set_option linter.unusedVariables false
theorem BoxAt.mid {W : World} {q n : Nat} {A B C : List Value} (h : BoxAt W q (A ++ (B ++ C))) (hn : A.length = n) (j : Nat) (u : Value) (hj : j < B.length) : BoxAt (W.setCell ⟨q, n + j, none⟩ u) q (A ++ (B.set j u ++ C)) := by
 have h1 := h.set u (j := n + j) (old := B[j]) (by subst hn; exact get_mid A B C j _ (List.getElem?_eq_getElem hj))
 rwa [set_mid A B C n j u hn hj] at h1
theorem BoxAt.at_mid {W : World} {q n : Nat} {A B C : List Value} (h : BoxAt W q (A ++ (B ++ C))) (hn : A.length = n) (j : Nat) (u : Value) (hj : B[j]? = some u) : W.cell? ⟨q, n + j, none⟩ = some u := h.c _ _ (by subst hn; exact get_mid A B C j _ hj)
theorem box_midn {W : World} {q j n : Nat} {A B C : List Value} {u v : Value} (hn : A.length = n) (h : BoxAt W q (((A ++ (B ++ C)).set (n + j) u).set (n + j + 1) v)) (hj : j + 1 < B.length) : BoxAt W q (A ++ (((B.set j u).set (j + 1) v) ++ C)) := by
 subst hn
 exact box_mid h hj
attribute [local go_sem ↓] evalL getL64 setL64
attribute [local go_sem ↓] getL8 setL8
attribute [local go_sem ↓] getL1 getL0
set_option maxRecDepth 100000 in
set_option maxHeartbeats 8000000 in
theorem lm_ws (w wr : World) (lo hi : Nat) (A : Option Addr) (c : Nat) (l : List Wl) (TC : List Value) (df : List Deferred) (F : List Value) (hF : F.length = 166) (f1 : F[1]? = some (.pointer (some ⟨w.heap.size, 0, none⟩))) (f22 : F[22]? = some (.int .i64 (l.length : Int))) (f23 : F[23]? = some (.int .i64 0)) (hTC : TC[8]? = some (.slice A l.length c)) (hT : BoxAt wr w.heap.size TC) (hR0 : RowIn Wl.cells wr lo hi A l) (hlo : w.heap.size < lo) (hl : l.length ≤ 10000) (R : Act → World → Prop)
  (hR : ∀ (F' : List Value) (w' : World), F'.length = 166 → F'[1]? = F[1]? → F'[2]? = F[2]? → F'[3]? = F[3]? → OutOf lo hi wr w' → RowIn Wl.cells w' lo hi A (l.map Wl.tn) → R ⟨F'.toArray, df⟩ w') :
  (blkOf 0 Tryz.f22).wp Tryz.prog (AtEnd R) ⟨F.toArray, df⟩ wr := by
 obtain ⟨s, rfl⟩ := fr166_ex F hF
 have e1 : s 1 = .pointer (some ⟨w.heap.size, 0, none⟩) := Option.some.inj f1
 have e22 : s 22 = .int .i64 (l.length : Int) := Option.some.inj f22
 have e23 : s 23 = .int .i64 0 := Option.some.inj f23
 unfold fr166
 rw [e1, e22, e23]
 have HR := hQ0 hR
 have HT := hQ0 hT
 have HTC := hQ0 hTC
 have HE1 := hQ0 e1
 have H0 := hQ0 hR0
 clear hF f1 f22 f23 e1 e22 e23 hR hT hTC hR0
 conv in (blkOf _ _) => whnf
 go_wp2_with fail
 go_loopg [23] (l.length + 1) (fun gk tt wr_ => ∃ k : Nat, k ≤ l.length ∧ l.length - k < gk ∧ tt = .int .i64 k ∧ Hid (OutOf lo hi wr wr_) ∧ Hid (RowIn Wl.cells wr_ lo hi A ((l.take k).map Wl.tn ++ l.drop k)))
 case atStart => exact ⟨0, by omega, by omega, rfl, hQ0 (OutOf.refl _ _ _), hQ0 (by simpa using H0.out)⟩
 case round =>
  obtain ⟨wq, rfl⟩ : ∃ z, z = wr := ⟨_, rfl⟩
  obtain ⟨k, hkl, hkk, rfl, HO, HX⟩ := hrel
  by_cases hlt : k < l.length
  · obtain ⟨x, hx⟩ : ∃ x, l[k]? = some x := ⟨l[k], by simp⟩
    obtain ⟨q, rfl, hq1, hq2, hbx⟩ : ∃ q, A = some ⟨q, 0, none⟩ ∧ lo ≤ q ∧ q < hi ∧ BoxAt wq q (((l.take k).map Wl.tn ++ l.drop k).flatMap Wl.cells) := by
     rcases HX.out with h | h
     · have := congrArg List.length h
       simp at this
       omega
     · exact h
    rw [flat_mid Wl.cells Wl.tn hx] at hbx
    have hpl : (((l.take k).map Wl.tn).flatMap Wl.cells).length = k * 13 := by rw [flat_len Wl.cells 13 (fun _ => rfl), List.length_map, List.length_take, Nat.min_eq_left hkl]
    have HN : Hid (((l.take (k + 1)).map Wl.tn ++ l.drop (k + 1)).flatMap Wl.cells = ((l.take k).map Wl.tn).flatMap Wl.cells ++ (Wl.cells (Wl.tn x) ++ (l.drop (k + 1)).flatMap Wl.cells)) := hQ0 (flat_mid2 Wl.cells Wl.tn hx)
    have HXM := hQ0 (List.mem_of_getElem? hx)
    generalize ((l.take k).map Wl.tn).flatMap Wl.cells = pre at hbx hpl HN
    generalize (l.drop (k + 1)).flatMap Wl.cells = post at hbx HN
    have i1 : (k : Int) < (l.length : Int) := by omega
    have hTb := HO.out.box HT.out (.inl hlo)
    have t8 := hTb.c 8 _ HTC.out
    have hqw : q ≠ w.heap.size := by omega
    have HP := hQ0 hpl
    have HBX := hQ0 hbx
    have hqlt := hbx.lt
    have hqfz := hbx.fz
    have c3 : wq.cell? ⟨q, k * 13 + 3, none⟩ = some (.int .i64 x.a1) := hbx.at_mid hpl 3 _ rfl
    have c4 : wq.cell? ⟨q, k * 13 + 3 + 1, none⟩ = some (.int .i64 x.a2) := hbx.at_mid hpl 4 _ rfl
    have c5 : wq.cell? ⟨q, k * 13 + 5, none⟩ = some (.int .i64 x.b1) := hbx.at_mid hpl 5 _ rfl
    have c6 : wq.cell? ⟨q, k * 13 + 5 + 1, none⟩ = some (.int .i64 x.b2) := hbx.at_mid hpl 6 _ rfl
    clear hbx hpl hx hTb
    go_upto_region 8 with (fail)
    go_region
    go_wp2_with fail
    go_roundg (l.length - (k + 1) + 1)
    case measure => omega
    case rel => exact ⟨k + 1, by omega, by omega, by go_num, hQ0 (HO.out.trans (OutOf.of_but (q := q) (((((But.refl q wq).set (p := ⟨q, _, none⟩) _ (.inl rfl)).set (p := ⟨q, _, none⟩) _ (.inl rfl)).set (p := ⟨q, _, none⟩) _ (.inl rfl)).set (p := ⟨q, _, none⟩) _ (.inl rfl)).drew hq1 hq2)), hQ0 (.inr ⟨q, rfl, hq1, hq2, by rw [HN.out]; exact (((((HBX.out).mid HP.out 3 _ (by show 3 < 13; decide)).mid HP.out 4 _ (by show 4 < 13; decide)).mid HP.out 5 _ (by show 5 < 13; decide)).mid HP.out 6 _ (by show 6 < 13; decide)).drew⟩)⟩
  · obtain rfl : k = l.length := by omega
    go_wp2_with fail
    refine HR.out _ wq rfl (congrArg some HE1.out.symm) rfl rfl HO.out ?_
    have h := HX.out
    rw [List.take_length, List.drop_length, List.append_nil] at h
    exact h
set_option maxRecDepth 100000 in
set_option maxHeartbeats 8000000 in
theorem lm_ars (w wr : World) (lo hi : Nat) (A : Option Addr) (c : Nat) (l : List Ac) (TC : List Value) (df : List Deferred) (F : List Value) (hF : F.length = 166) (f1 : F[1]? = some (.pointer (some ⟨w.heap.size, 0, none⟩))) (f47 : F[47]? = some (.int .i64 (l.length : Int))) (f48 : F[48]? = some (.int .i64 0)) (hTC : TC[9]? = some (.slice A l.length c)) (hT : BoxAt wr w.heap.size TC) (hR0 : RowIn Ac.cells wr lo hi A l) (hlo : w.heap.size < lo) (hl : l.length ≤ 10000) (R : Act → World → Prop)
  (hR : ∀ (F' : List Value) (w' : World), F'.length = 166 → F'[1]? = F[1]? → F'[2]? = F[2]? → F'[3]? = F[3]? → OutOf lo hi wr w' → RowIn Ac.cells w' lo hi A (l.map Ac.tr) → R ⟨F'.toArray, df⟩ w') :
  (blkOf 2 Tryz.f22).wp Tryz.prog (AtEnd R) ⟨F.toArray, df⟩ wr := by
 obtain ⟨s, rfl⟩ := fr166_ex F hF
 have e1 : s 1 = .pointer (some ⟨w.heap.size, 0, none⟩) := Option.some.inj f1
 have e47 : s 47 = .int .i64 (l.length : Int) := Option.some.inj f47
 have e48 : s 48 = .int .i64 0 := Option.some.inj f48
 unfold fr166
 rw [e1, e47, e48]
 have HR := hQ0 hR
 have HT := hQ0 hT
 have HTC := hQ0 hTC
 have HE1 := hQ0 e1
 have H0 := hQ0 hR0
 clear hF f1 f47 f48 e1 e47 e48 hR hT hTC hR0
 conv in (blkOf _ _) => whnf
 go_wp2_with fail
 go_loopg [48] (l.length + 1) (fun gk tt wr_ => ∃ k : Nat, k ≤ l.length ∧ l.length - k < gk ∧ tt = .int .i64 k ∧ Hid (OutOf lo hi wr wr_) ∧ Hid (RowIn Ac.cells wr_ lo hi A ((l.take k).map Ac.tr ++ l.drop k)))
 case atStart => exact ⟨0, by omega, by omega, rfl, hQ0 (OutOf.refl _ _ _), hQ0 (by simpa using H0.out)⟩
 case round =>
  obtain ⟨wq, rfl⟩ : ∃ z, z = wr := ⟨_, rfl⟩
  obtain ⟨k, hkl, hkk, rfl, HO, HX⟩ := hrel
  by_cases hlt : k < l.length
  · obtain ⟨x, hx⟩ : ∃ x, l[k]? = some x := ⟨l[k], by simp⟩
    obtain ⟨q, rfl, hq1, hq2, hbx⟩ : ∃ q, A = some ⟨q, 0, none⟩ ∧ lo ≤ q ∧ q < hi ∧ BoxAt wq q (((l.take k).map Ac.tr ++ l.drop k).flatMap Ac.cells) := by
     rcases HX.out with h | h
     · have := congrArg List.length h
       simp at this
       omega
     · exact h
    rw [flat_mid Ac.cells Ac.tr hx] at hbx
    have hpl : (((l.take k).map Ac.tr).flatMap Ac.cells).length = k * 12 := by rw [flat_len Ac.cells 12 (fun _ => rfl), List.length_map, List.length_take, Nat.min_eq_left hkl]
    have HN : Hid (((l.take (k + 1)).map Ac.tr ++ l.drop (k + 1)).flatMap Ac.cells = ((l.take k).map Ac.tr).flatMap Ac.cells ++ (Ac.cells (Ac.tr x) ++ (l.drop (k + 1)).flatMap Ac.cells)) := hQ0 (flat_mid2 Ac.cells Ac.tr hx)
    have HXM := hQ0 (List.mem_of_getElem? hx)
    generalize ((l.take k).map Ac.tr).flatMap Ac.cells = pre at hbx hpl HN
    generalize (l.drop (k + 1)).flatMap Ac.cells = post at hbx HN
    have i1 : (k : Int) < (l.length : Int) := by omega
    have hTb := HO.out.box HT.out (.inl hlo)
    have t9 := hTb.c 9 _ HTC.out
    have hqw : q ≠ w.heap.size := by omega
    have HP := hQ0 hpl
    have HBX := hQ0 hbx
    have hqlt := hbx.lt
    have hqfz := hbx.fz
    have c4 : wq.cell? ⟨q, k * 12 + 4, none⟩ = some (.int .i64 x.s1) := hbx.at_mid hpl 4 _ rfl
    have c5 : wq.cell? ⟨q, k * 12 + 4 + 1, none⟩ = some (.int .i64 x.s2) := hbx.at_mid hpl 5 _ rfl
    have c6 : wq.cell? ⟨q, k * 12 + 6, none⟩ = some (.int .i64 x.e1) := hbx.at_mid hpl 6 _ rfl
    have c7 : wq.cell? ⟨q, k * 12 + 6 + 1, none⟩ = some (.int .i64 x.e2) := hbx.at_mid hpl 7 _ rfl
    clear hbx hpl hx hTb
    go_upto_region 14 with (fail)
    go_region
    go_wp2_with fail
    go_roundg (l.length - (k + 1) + 1)
    case measure => omega
    case rel => exact ⟨k + 1, by omega, by omega, by go_num, hQ0 (HO.out.trans (OutOf.of_but (q := q) (((((But.refl q wq).set (p := ⟨q, _, none⟩) _ (.inl rfl)).set (p := ⟨q, _, none⟩) _ (.inl rfl)).set (p := ⟨q, _, none⟩) _ (.inl rfl)).set (p := ⟨q, _, none⟩) _ (.inl rfl)).drew hq1 hq2)), hQ0 (.inr ⟨q, rfl, hq1, hq2, by rw [HN.out]; exact (((((HBX.out).mid HP.out 4 _ (by show 4 < 12; decide)).mid HP.out 5 _ (by show 5 < 12; decide)).mid HP.out 6 _ (by show 6 < 12; decide)).mid HP.out 7 _ (by show 7 < 12; decide)).drew⟩)⟩
  · obtain rfl : k = l.length := by omega
    go_wp2_with fail
    refine HR.out _ wq rfl (congrArg some HE1.out.symm) rfl rfl HO.out ?_
    have h := HX.out
    rw [List.take_length, List.drop_length, List.append_nil] at h
    exact h
set_option maxRecDepth 100000 in
set_option maxHeartbeats 8000000 in
theorem lm_fs (w wr : World) (lo hi : Nat) (A : Option Addr) (c : Nat) (l : List Fl) (TC : List Value) (df : List Deferred) (F : List Value) (hF : F.length = 166) (f1 : F[1]? = some (.pointer (some ⟨w.heap.size, 0, none⟩))) (f72 : F[72]? = some (.int .i64 (l.length : Int))) (f73 : F[73]? = some (.int .i64 0)) (hTC : TC[11]? = some (.slice A l.length c)) (hT : BoxAt wr w.heap.size TC) (hR0 : RowIn Fl.cells wr lo hi A l) (hlo : w.heap.size < lo) (hl : l.length ≤ 10000) (R : Act → World → Prop)
  (hR : ∀ (F' : List Value) (w' : World), F'.length = 166 → F'[1]? = F[1]? → F'[2]? = F[2]? → F'[3]? = F[3]? → OutOf lo hi wr w' → RowIn Fl.cells w' lo hi A (l.map Fl.tn) → R ⟨F'.toArray, df⟩ w') :
  (blkOf 4 Tryz.f22).wp Tryz.prog (AtEnd R) ⟨F.toArray, df⟩ wr := by
 obtain ⟨s, rfl⟩ := fr166_ex F hF
 have e1 : s 1 = .pointer (some ⟨w.heap.size, 0, none⟩) := Option.some.inj f1
 have e72 : s 72 = .int .i64 (l.length : Int) := Option.some.inj f72
 have e73 : s 73 = .int .i64 0 := Option.some.inj f73
 unfold fr166
 rw [e1, e72, e73]
 have HR := hQ0 hR
 have HT := hQ0 hT
 have HTC := hQ0 hTC
 have HE1 := hQ0 e1
 have H0 := hQ0 hR0
 clear hF f1 f72 f73 e1 e72 e73 hR hT hTC hR0
 conv in (blkOf _ _) => whnf
 go_wp2_with fail
 go_loopg [73] (l.length + 1) (fun gk tt wr_ => ∃ k : Nat, k ≤ l.length ∧ l.length - k < gk ∧ tt = .int .i64 k ∧ Hid (OutOf lo hi wr wr_) ∧ Hid (RowIn Fl.cells wr_ lo hi A ((l.take k).map Fl.tn ++ l.drop k)))
 case atStart => exact ⟨0, by omega, by omega, rfl, hQ0 (OutOf.refl _ _ _), hQ0 (by simpa using H0.out)⟩
 case round =>
  obtain ⟨wq, rfl⟩ : ∃ z, z = wr := ⟨_, rfl⟩
  obtain ⟨k, hkl, hkk, rfl, HO, HX⟩ := hrel
  by_cases hlt : k < l.length
  · obtain ⟨x, hx⟩ : ∃ x, l[k]? = some x := ⟨l[k], by simp⟩
    obtain ⟨q, rfl, hq1, hq2, hbx⟩ : ∃ q, A = some ⟨q, 0, none⟩ ∧ lo ≤ q ∧ q < hi ∧ BoxAt wq q (((l.take k).map Fl.tn ++ l.drop k).flatMap Fl.cells) := by
     rcases HX.out with h | h
     · have := congrArg List.length h
       simp at this
       omega
     · exact h
    rw [flat_mid Fl.cells Fl.tn hx] at hbx
    have hpl : (((l.take k).map Fl.tn).flatMap Fl.cells).length = k * 15 := by rw [flat_len Fl.cells 15 (fun _ => rfl), List.length_map, List.length_take, Nat.min_eq_left hkl]
    have HN : Hid (((l.take (k + 1)).map Fl.tn ++ l.drop (k + 1)).flatMap Fl.cells = ((l.take k).map Fl.tn).flatMap Fl.cells ++ (Fl.cells (Fl.tn x) ++ (l.drop (k + 1)).flatMap Fl.cells)) := hQ0 (flat_mid2 Fl.cells Fl.tn hx)
    have HXM := hQ0 (List.mem_of_getElem? hx)
    generalize ((l.take k).map Fl.tn).flatMap Fl.cells = pre at hbx hpl HN
    generalize (l.drop (k + 1)).flatMap Fl.cells = post at hbx HN
    have i1 : (k : Int) < (l.length : Int) := by omega
    have hTb := HO.out.box HT.out (.inl hlo)
    have t11 := hTb.c 11 _ HTC.out
    have hqw : q ≠ w.heap.size := by omega
    have HP := hQ0 hpl
    have HBX := hQ0 hbx
    have hqlt := hbx.lt
    have hqfz := hbx.fz
    have c5 : wq.cell? ⟨q, k * 15 + 5, none⟩ = some (.bool x.mi) := hbx.at_mid hpl 5 _ rfl
    clear hbx hpl hx hTb
    go_upto_region 19 with (fail)
    go_region
    go_wp2_with fail
    go_roundg (l.length - (k + 1) + 1)
    case measure => omega
    case rel => exact ⟨k + 1, by omega, by omega, by go_num, hQ0 (HO.out.trans (OutOf.of_but (q := q) ((But.refl q wq).set (p := ⟨q, _, none⟩) _ (.inl rfl)).drew hq1 hq2)), hQ0 (.inr ⟨q, rfl, hq1, hq2, by rw [HN.out]; exact ((HBX.out).mid HP.out 5 _ (by show 5 < 15; decide)).drew⟩)⟩
  · obtain rfl : k = l.length := by omega
    go_wp2_with fail
    refine HR.out _ wq rfl (congrArg some HE1.out.symm) rfl rfl HO.out ?_
    have h := HX.out
    rw [List.take_length, List.drop_length, List.append_nil] at h
    exact h
set_option maxRecDepth 100000 in
set_option maxHeartbeats 8000000 in
theorem lm_zs (w wr : World) (lo hi : Nat) (A : Option Addr) (c : Nat) (l : List Zn) (TC : List Value) (df : List Deferred) (F : List Value) (hF : F.length = 166) (f1 : F[1]? = some (.pointer (some ⟨w.heap.size, 0, none⟩))) (f91 : F[91]? = some (.int .i64 (l.length : Int))) (f92 : F[92]? = some (.int .i64 0)) (hTC : TC[12]? = some (.slice A l.length c)) (hT : BoxAt wr w.heap.size TC) (hR0 : RowIn Zn.cells wr lo hi A l) (hlo : w.heap.size < lo) (hl : l.length ≤ 10000) (hb : Below w.heap.size w wr) (f3 : F[3]? = some (.func (.func 74) #[] #[])) (hm : ∀ x ∈ l, mild x.f1 ∧ mild x.f2) (R : Act → World → Prop)
  (hR : ∀ (F' : List Value) (w' : World), F'.length = 166 → F'[1]? = F[1]? → F'[2]? = F[2]? → F'[3]? = F[3]? → OutOf lo hi wr w' → RowIn Zn.cells w' lo hi A (l.map Zn.tn) → R ⟨F'.toArray, df⟩ w') :
  (blkOf 6 Tryz.f22).wp Tryz.prog (AtEnd R) ⟨F.toArray, df⟩ wr := by
 obtain ⟨s, rfl⟩ := fr166_ex F hF
 have e1 : s 1 = .pointer (some ⟨w.heap.size, 0, none⟩) := Option.some.inj f1
 have e91 : s 91 = .int .i64 (l.length : Int) := Option.some.inj f91
 have e92 : s 92 = .int .i64 0 := Option.some.inj f92
 have e3 : s 3 = .func (.func 74) #[] #[] := Option.some.inj f3
 unfold fr166
 rw [e1, e91, e92, e3]
 have HR := hQ0 hR
 have HT := hQ0 hT
 have HTC := hQ0 hTC
 have HE1 := hQ0 e1
 have H0 := hQ0 hR0
 have HE3 := hQ0 e3
 clear hF f1 f91 f92 e1 e91 e92 hR hT hTC hR0 f3 e3
 have HB := hQ0 hb
 have HM := hQ0 hm
 clear hb hm
 conv in (blkOf _ _) => whnf
 go_wp2_with fail
 go_loopg [92] (l.length + 1) (fun gk tt wr_ => ∃ k : Nat, k ≤ l.length ∧ l.length - k < gk ∧ tt = .int .i64 k ∧ Hid (OutOf lo hi wr wr_) ∧ Hid (RowIn Zn.cells wr_ lo hi A ((l.take k).map Zn.tn ++ l.drop k)))
 case atStart => exact ⟨0, by omega, by omega, rfl, hQ0 (OutOf.refl _ _ _), hQ0 (by simpa using H0.out)⟩
 case round =>
  obtain ⟨wq, rfl⟩ : ∃ z, z = wr := ⟨_, rfl⟩
  obtain ⟨k, hkl, hkk, rfl, HO, HX⟩ := hrel
  by_cases hlt : k < l.length
  · obtain ⟨x, hx⟩ : ∃ x, l[k]? = some x := ⟨l[k], by simp⟩
    obtain ⟨q, rfl, hq1, hq2, hbx⟩ : ∃ q, A = some ⟨q, 0, none⟩ ∧ lo ≤ q ∧ q < hi ∧ BoxAt wq q (((l.take k).map Zn.tn ++ l.drop k).flatMap Zn.cells) := by
     rcases HX.out with h | h
     · have := congrArg List.length h
       simp at this
       omega
     · exact h
    rw [flat_mid Zn.cells Zn.tn hx] at hbx
    have hpl : (((l.take k).map Zn.tn).flatMap Zn.cells).length = k * 9 := by rw [flat_len Zn.cells 9 (fun _ => rfl), List.length_map, List.length_take, Nat.min_eq_left hkl]
    have HN : Hid (((l.take (k + 1)).map Zn.tn ++ l.drop (k + 1)).flatMap Zn.cells = ((l.take k).map Zn.tn).flatMap Zn.cells ++ (Zn.cells (Zn.tn x) ++ (l.drop (k + 1)).flatMap Zn.cells)) := hQ0 (flat_mid2 Zn.cells Zn.tn hx)
    have HXM := hQ0 (List.mem_of_getElem? hx)
    generalize ((l.take k).map Zn.tn).flatMap Zn.cells = pre at hbx hpl HN
    generalize (l.drop (k + 1)).flatMap Zn.cells = post at hbx HN
    have i1 : (k : Int) < (l.length : Int) := by omega
    have hTb := HO.out.box HT.out (.inl hlo)
    have t12 := hTb.c 12 _ HTC.out
    have hqw : q ≠ w.heap.size := by omega
    have HP := hQ0 hpl
    have HBX := hQ0 hbx
    have hqlt := hbx.lt
    have hqfz := hbx.fz
    have c2 : wq.cell? ⟨q, k * 9 + 2, none⟩ = some (.int .i64 x.l1) := hbx.at_mid hpl 2 _ rfl
    have c4 : wq.cell? ⟨q, k * 9 + 4, none⟩ = some (.int .i64 x.h1) := hbx.at_mid hpl 4 _ rfl
    clear hbx hpl hx hTb
    go_upto_region 25 with (fail)
    go_region
    go_upto_region 26 with (fail)
    (refine pin_eqT (fun w5 hE_ => ?_))
    obtain ⟨y, hy⟩ : ∃ y : Zn, y = { x with l1 := x.h1, h1 := x.l1 } := ⟨_, rfl⟩
    have HB5 : Hid (But q wq w5) := hQ0 (by rw [hE_]; exact (((But.refl q wq).set (p := ⟨q, _, none⟩) _ (.inl rfl)).set (p := ⟨q, _, none⟩) _ (.inl rfl)).drew)
    have HX5 : Hid (BoxAt w5 q (pre ++ (y.cells ++ post))) := hQ0 (by rw [hE_, hy]; exact (((HBX.out).mid HP.out 2 _ (by show 2 < 9; decide)).mid HP.out 4 _ (by show 4 < 9; decide)).drew)
    have HY := hQ0 hy
    clear hE_ hy
    have KC : Calls Tryz.prog 74 #[.pointer (some ⟨q, k * 9 + 6, none⟩)] w5 _ := flip_any w q (k * 9 + 6) x.f1 x.f2 _ w5 (by omega) (HB.out.trans ((HO.out.trans (OutOf.of_but (q := q) HB5.out hq1 hq2)).toBelow (by omega) HB.out.size)) HX5.out (by rw [← HP.out, HY.out]; exact get_mid _ _ _ 6 _ rfl) (by rw [← HP.out, HY.out, Nat.add_assoc]; exact get_mid _ _ _ 7 _ rfl) (HM.out x HXM.out).1 (HM.out x HXM.out).2
    go_wp2_with (go_at_call 74; refine KC.mono ?_; rintro e w2 ⟨rfl, hb2, hx2⟩)
    go_roundg (l.length - (k + 1) + 1)
    case measure => omega
    case rel =>
     refine ⟨k + 1, by omega, by omega, by go_num, hQ0 (HO.out.trans ((OutOf.of_but (q := q) (HB5.out.trans hb2) hq1 hq2))), hQ0 (.inr ⟨q, rfl, hq1, hq2, ?_⟩)⟩
     rw [HN.out]
     have h := box_midn HP.out hx2 (by show 7 < 9; decide)
     rw [HY.out] at h
     exact h
  · obtain rfl : k = l.length := by omega
    go_wp2_with fail
    refine HR.out _ wq rfl (congrArg some HE1.out.symm) rfl (congrArg some HE3.out.symm) HO.out ?_
    have h := HX.out
    rw [List.take_length, List.drop_length, List.append_nil] at h
    exact h
set_option maxRecDepth 100000 in
set_option maxHeartbeats 8000000 in
theorem lm_ss (w wr : World) (lo hi : Nat) (A : Option Addr) (c : Nat) (l : List Sc) (TC : List Value) (df : List Deferred) (F : List Value) (hF : F.length = 166) (f1 : F[1]? = some (.pointer (some ⟨w.heap.size, 0, none⟩))) (f125 : F[125]? = some (.int .i64 (l.length : Int))) (f126 : F[126]? = some (.int .i64 0)) (hTC : TC[13]? = some (.slice A l.length c)) (hT : BoxAt wr w.heap.size TC) (hR0 : RowIn Sc.cells wr lo hi A l) (hlo : w.heap.size < lo) (hl : l.length ≤ 10000) (hb : Below w.heap.size w wr) (f3 : F[3]? = some (.func (.func 74) #[] #[])) (hm : ∀ x ∈ l, mild x.o1 ∧ mild x.o2) (R : Act → World → Prop)
  (hR : ∀ (F' : List Value) (w' : World), F'.length = 166 → F'[1]? = F[1]? → F'[2]? = F[2]? → F'[3]? = F[3]? → OutOf lo hi wr w' → RowIn Sc.cells w' lo hi A (l.map Sc.tn) → R ⟨F'.toArray, df⟩ w') :
  (blkOf 8 Tryz.f22).wp Tryz.prog (AtEnd R) ⟨F.toArray, df⟩ wr := by
 obtain ⟨s, rfl⟩ := fr166_ex F hF
 have e1 : s 1 = .pointer (some ⟨w.heap.size, 0, none⟩) := Option.some.inj f1
 have e125 : s 125 = .int .i64 (l.length : Int) := Option.some.inj f125
 have e126 : s 126 = .int .i64 0 := Option.some.inj f126
 have e3 : s 3 = .func (.func 74) #[] #[] := Option.some.inj f3
 unfold fr166
 rw [e1, e125, e126, e3]
 have HR := hQ0 hR
 have HT := hQ0 hT
 have HTC := hQ0 hTC
 have HE1 := hQ0 e1
 have H0 := hQ0 hR0
 have HE3 := hQ0 e3
 clear hF f1 f125 f126 e1 e125 e126 hR hT hTC hR0 f3 e3
 have HB := hQ0 hb
 have HM := hQ0 hm
 clear hb hm
 conv in (blkOf _ _) => whnf
 go_wp2_with fail
 go_loopg [126] (l.length + 1) (fun gk tt wr_ => ∃ k : Nat, k ≤ l.length ∧ l.length - k < gk ∧ tt = .int .i64 k ∧ Hid (OutOf lo hi wr wr_) ∧ Hid (RowIn Sc.cells wr_ lo hi A ((l.take k).map Sc.tn ++ l.drop k)))
 case atStart => exact ⟨0, by omega, by omega, rfl, hQ0 (OutOf.refl _ _ _), hQ0 (by simpa using H0.out)⟩
 case round =>
  obtain ⟨wq, rfl⟩ : ∃ z, z = wr := ⟨_, rfl⟩
  obtain ⟨k, hkl, hkk, rfl, HO, HX⟩ := hrel
  by_cases hlt : k < l.length
  · obtain ⟨x, hx⟩ : ∃ x, l[k]? = some x := ⟨l[k], by simp⟩
    obtain ⟨q, rfl, hq1, hq2, hbx⟩ : ∃ q, A = some ⟨q, 0, none⟩ ∧ lo ≤ q ∧ q < hi ∧ BoxAt wq q (((l.take k).map Sc.tn ++ l.drop k).flatMap Sc.cells) := by
     rcases HX.out with h | h
     · have := congrArg List.length h
       simp at this
       omega
     · exact h
    rw [flat_mid Sc.cells Sc.tn hx] at hbx
    have hpl : (((l.take k).map Sc.tn).flatMap Sc.cells).length = k * 10 := by rw [flat_len Sc.cells 10 (fun _ => rfl), List.length_map, List.length_take, Nat.min_eq_left hkl]
    have HN : Hid (((l.take (k + 1)).map Sc.tn ++ l.drop (k + 1)).flatMap Sc.cells = ((l.take k).map Sc.tn).flatMap Sc.cells ++ (Sc.cells (Sc.tn x) ++ (l.drop (k + 1)).flatMap Sc.cells)) := hQ0 (flat_mid2 Sc.cells Sc.tn hx)
    have HXM := hQ0 (List.mem_of_getElem? hx)
    generalize ((l.take k).map Sc.tn).flatMap Sc.cells = pre at hbx hpl HN
    generalize (l.drop (k + 1)).flatMap Sc.cells = post at hbx HN
    have i1 : (k : Int) < (l.length : Int) := by omega
    have hTb := HO.out.box HT.out (.inl hlo)
    have t13 := hTb.c 13 _ HTC.out
    have hqw : q ≠ w.heap.size := by omega
    have HP := hQ0 hpl
    have HBX := hQ0 hbx
    have hqlt := hbx.lt
    have hqfz := hbx.fz
    clear hbx hpl hx hTb
    obtain ⟨w5, hw5⟩ : ∃ z, z = wq := ⟨_, rfl⟩
    obtain ⟨y, hy⟩ : ∃ z, z = x := ⟨_, rfl⟩
    have HB5 : Hid (But q wq w5) := hQ0 (by rw [hw5]; exact But.refl _ _)
    have HX5 : Hid (BoxAt w5 q (pre ++ (y.cells ++ post))) := hQ0 (by rw [hw5, hy]; exact HBX.out)
    have HY := hQ0 hy
    rw [← hw5] at t13 ⊢
    clear hy hw5
    have KC : Calls Tryz.prog 74 #[.pointer (some ⟨q, k * 10 + 6, none⟩)] w5 _ := flip_any w q (k * 10 + 6) x.o1 x.o2 _ w5 (by omega) (HB.out.trans ((HO.out.trans (OutOf.of_but (q := q) HB5.out hq1 hq2)).toBelow (by omega) HB.out.size)) HX5.out (by rw [← HP.out, HY.out]; exact get_mid _ _ _ 6 _ rfl) (by rw [← HP.out, HY.out, Nat.add_assoc]; exact get_mid _ _ _ 7 _ rfl) (HM.out x HXM.out).1 (HM.out x HXM.out).2
    go_wp2_with (go_at_call 74; refine KC.mono ?_; rintro e w2 ⟨rfl, hb2, hx2⟩)
    go_roundg (l.length - (k + 1) + 1)
    case measure => omega
    case rel =>
     refine ⟨k + 1, by omega, by omega, by go_num, hQ0 (HO.out.trans ((OutOf.of_but (q := q) (HB5.out.trans hb2) hq1 hq2))), hQ0 (.inr ⟨q, rfl, hq1, hq2, ?_⟩)⟩
     rw [HN.out]
     have h := box_midn HP.out hx2 (by show 7 < 10; decide)
     rw [HY.out] at h
     exact h
  · obtain rfl : k = l.length := by omega
    go_wp2_with fail
    refine HR.out _ wq rfl (congrArg some HE1.out.symm) rfl (congrArg some HE3.out.symm) HO.out ?_
    have h := HX.out
    rw [List.take_length, List.drop_length, List.append_nil] at h
    exact h
set_option maxRecDepth 100000 in
set_option maxHeartbeats 8000000 in
theorem lm_rs (w wr : World) (lo hi : Nat) (A : Option Addr) (c : Nat) (l : List Ra) (TC : List Value) (df : List Deferred) (F : List Value) (hF : F.length = 166) (f1 : F[1]? = some (.pointer (some ⟨w.heap.size, 0, none⟩))) (f139 : F[139]? = some (.int .i64 (l.length : Int))) (f140 : F[140]? = some (.int .i64 0)) (hTC : TC[15]? = some (.slice A l.length c)) (hT : BoxAt wr w.heap.size TC) (hR0 : RowIn Ra.cells wr lo hi A l) (hlo : w.heap.size < lo) (hl : l.length ≤ 10000) (hb : Below w.heap.size w wr) (f3 : F[3]? = some (.func (.func 74) #[] #[])) (hm : ∀ x ∈ l, mild x.d1 ∧ mild x.d2) (R : Act → World → Prop)
  (hR : ∀ (F' : List Value) (w' : World), F'.length = 166 → F'[1]? = F[1]? → F'[2]? = F[2]? → F'[3]? = F[3]? → OutOf lo hi wr w' → RowIn Ra.cells w' lo hi A (l.map Ra.tn) → R ⟨F'.toArray, df⟩ w') :
  (blkOf 10 Tryz.f22).wp Tryz.prog (AtEnd R) ⟨F.toArray, df⟩ wr := by
 obtain ⟨s, rfl⟩ := fr166_ex F hF
 have e1 : s 1 = .pointer (some ⟨w.heap.size, 0, none⟩) := Option.some.inj f1
 have e139 : s 139 = .int .i64 (l.length : Int) := Option.some.inj f139
 have e140 : s 140 = .int .i64 0 := Option.some.inj f140
 have e3 : s 3 = .func (.func 74) #[] #[] := Option.some.inj f3
 unfold fr166
 rw [e1, e139, e140, e3]
 have HR := hQ0 hR
 have HT := hQ0 hT
 have HTC := hQ0 hTC
 have HE1 := hQ0 e1
 have H0 := hQ0 hR0
 have HE3 := hQ0 e3
 clear hF f1 f139 f140 e1 e139 e140 hR hT hTC hR0 f3 e3
 have HB := hQ0 hb
 have HM := hQ0 hm
 clear hb hm
 conv in (blkOf _ _) => whnf
 go_wp2_with fail
 go_loopg [140] (l.length + 1) (fun gk tt wr_ => ∃ k : Nat, k ≤ l.length ∧ l.length - k < gk ∧ tt = .int .i64 k ∧ Hid (OutOf lo hi wr wr_) ∧ Hid (RowIn Ra.cells wr_ lo hi A ((l.take k).map Ra.tn ++ l.drop k)))
 case atStart => exact ⟨0, by omega, by omega, rfl, hQ0 (OutOf.refl _ _ _), hQ0 (by simpa using H0.out)⟩
 case round =>
  obtain ⟨wq, rfl⟩ : ∃ z, z = wr := ⟨_, rfl⟩
  obtain ⟨k, hkl, hkk, rfl, HO, HX⟩ := hrel
  by_cases hlt : k < l.length
  · obtain ⟨x, hx⟩ : ∃ x, l[k]? = some x := ⟨l[k], by simp⟩
    obtain ⟨q, rfl, hq1, hq2, hbx⟩ : ∃ q, A = some ⟨q, 0, none⟩ ∧ lo ≤ q ∧ q < hi ∧ BoxAt wq q (((l.take k).map Ra.tn ++ l.drop k).flatMap Ra.cells) := by
     rcases HX.out with h | h
     · have := congrArg List.length h
       simp at this
       omega
     · exact h
    rw [flat_mid Ra.cells Ra.tn hx] at hbx
    have hpl : (((l.take k).map Ra.tn).flatMap Ra.cells).length = k * 8 := by rw [flat_len Ra.cells 8 (fun _ => rfl), List.length_map, List.length_take, Nat.min_eq_left hkl]
    have HN : Hid (((l.take (k + 1)).map Ra.tn ++ l.drop (k + 1)).flatMap Ra.cells = ((l.take k).map Ra.tn).flatMap Ra.cells ++ (Ra.cells (Ra.tn x) ++ (l.drop (k + 1)).flatMap Ra.cells)) := hQ0 (flat_mid2 Ra.cells Ra.tn hx)
    have HXM := hQ0 (List.mem_of_getElem? hx)
    generalize ((l.take k).map Ra.tn).flatMap Ra.cells = pre at hbx hpl HN
    generalize (l.drop (k + 1)).flatMap Ra.cells = post at hbx HN
    have i1 : (k : Int) < (l.length : Int) := by omega
    have hTb := HO.out.box HT.out (.inl hlo)
    have t15 := hTb.c 15 _ HTC.out
    have hqw : q ≠ w.heap.size := by omega
    have HP := hQ0 hpl
    have HBX := hQ0 hbx
    have hqlt := hbx.lt
    have hqfz := hbx.fz
    clear hbx hpl hx hTb
    obtain ⟨w5, hw5⟩ : ∃ z, z = wq := ⟨_, rfl⟩
    obtain ⟨y, hy⟩ : ∃ z, z = x := ⟨_, rfl⟩
    have HB5 : Hid (But q wq w5) := hQ0 (by rw [hw5]; exact But.refl _ _)
    have HX5 : Hid (BoxAt w5 q (pre ++ (y.cells ++ post))) := hQ0 (by rw [hw5, hy]; exact HBX.out)
    have HY := hQ0 hy
    rw [← hw5] at t15 ⊢
    clear hy hw5
    have KC : Calls Tryz.prog 74 #[.pointer (some ⟨q, k * 8 + 6, none⟩)] w5 _ := flip_any w q (k * 8 + 6) x.d1 x.d2 _ w5 (by omega) (HB.out.trans ((HO.out.trans (OutOf.of_but (q := q) HB5.out hq1 hq2)).toBelow (by omega) HB.out.size)) HX5.out (by rw [← HP.out, HY.out]; exact get_mid _ _ _ 6 _ rfl) (by rw [← HP.out, HY.out, Nat.add_assoc]; exact get_mid _ _ _ 7 _ rfl) (HM.out x HXM.out).1 (HM.out x HXM.out).2
    go_wp2_with (go_at_call 74; refine KC.mono ?_; rintro e w2 ⟨rfl, hb2, hx2⟩)
    go_roundg (l.length - (k + 1) + 1)
    case measure => omega
    case rel =>
     refine ⟨k + 1, by omega, by omega, by go_num, hQ0 (HO.out.trans ((OutOf.of_but (q := q) (HB5.out.trans hb2) hq1 hq2))), hQ0 (.inr ⟨q, rfl, hq1, hq2, ?_⟩)⟩
     rw [HN.out]
     have h := box_midn HP.out hx2 (by show 7 < 8; decide)
     rw [HY.out] at h
     exact h
  · obtain rfl : k = l.length := by omega
    go_wp2_with fail
    refine HR.out _ wq rfl (congrArg some HE1.out.symm) rfl (congrArg some HE3.out.symm) HO.out ?_
    have h := HX.out
    rw [List.take_length, List.drop_length, List.append_nil] at h
    exact h
set_option maxRecDepth 100000 in
set_option maxHeartbeats 8000000 in
theorem lm_lns (w wr : World) (lo hi : Nat) (A : Option Addr) (c : Nat) (l : List Ln) (TC : List Value) (df : List Deferred) (F : List Value) (hF : F.length = 166) (f1 : F[1]? = some (.pointer (some ⟨w.heap.size, 0, none⟩))) (f153 : F[153]? = some (.int .i64 (l.length : Int))) (f154 : F[154]? = some (.int .i64 0)) (hTC : TC[17]? = some (.slice A l.length c)) (hT : BoxAt wr w.heap.size TC) (hR0 : RowIn Ln.cells wr lo hi A l) (hlo : w.heap.size < lo) (hl : l.length ≤ 10000) (hb : Below w.heap.size w wr) (f3 : F[3]? = some (.func (.func 74) #[] #[])) (hm : ∀ x ∈ l, mild x.v1 ∧ mild x.v2) (R : Act → World → Prop)
  (hR : ∀ (F' : List Value) (w' : World), F'.length = 166 → F'[1]? = F[1]? → F'[2]? = F[2]? → F'[3]? = F[3]? → OutOf lo hi wr w' → RowIn Ln.cells w' lo hi A (l.map Ln.tn) → R ⟨F'.toArray, df⟩ w') :
  (blkOf 12 Tryz.f22).wp Tryz.prog (AtEnd R) ⟨F.toArray, df⟩ wr := by
 obtain ⟨s, rfl⟩ := fr166_ex F hF
 have e1 : s 1 = .pointer (some ⟨w.heap.size, 0, none⟩) := Option.some.inj f1
 have e153 : s 153 = .int .i64 (l.length : Int) := Option.some.inj f153
 have e154 : s 154 = .int .i64 0 := Option.some.inj f154
 have e3 : s 3 = .func (.func 74) #[] #[] := Option.some.inj f3
 unfold fr166
 rw [e1, e153, e154, e3]
 have HR := hQ0 hR
 have HT := hQ0 hT
 have HTC := hQ0 hTC
 have HE1 := hQ0 e1
 have H0 := hQ0 hR0
 have HE3 := hQ0 e3
 clear hF f1 f153 f154 e1 e153 e154 hR hT hTC hR0 f3 e3
 have HB := hQ0 hb
 have HM := hQ0 hm
 clear hb hm
 conv in (blkOf _ _) => whnf
 go_wp2_with fail
 go_loopg [154] (l.length + 1) (fun gk tt wr_ => ∃ k : Nat, k ≤ l.length ∧ l.length - k < gk ∧ tt = .int .i64 k ∧ Hid (OutOf lo hi wr wr_) ∧ Hid (RowIn Ln.cells wr_ lo hi A ((l.take k).map Ln.tn ++ l.drop k)))
 case atStart => exact ⟨0, by omega, by omega, rfl, hQ0 (OutOf.refl _ _ _), hQ0 (by simpa using H0.out)⟩
 case round =>
  obtain ⟨wq, rfl⟩ : ∃ z, z = wr := ⟨_, rfl⟩
  obtain ⟨k, hkl, hkk, rfl, HO, HX⟩ := hrel
  by_cases hlt : k < l.length
  · obtain ⟨x, hx⟩ : ∃ x, l[k]? = some x := ⟨l[k], by simp⟩
    obtain ⟨q, rfl, hq1, hq2, hbx⟩ : ∃ q, A = some ⟨q, 0, none⟩ ∧ lo ≤ q ∧ q < hi ∧ BoxAt wq q (((l.take k).map Ln.tn ++ l.drop k).flatMap Ln.cells) := by
     rcases HX.out with h | h
     · have := congrArg List.length h
       simp at this
       omega
     · exact h
    rw [flat_mid Ln.cells Ln.tn hx] at hbx
    have hpl : (((l.take k).map Ln.tn).flatMap Ln.cells).length = k * 7 := by rw [flat_len Ln.cells 7 (fun _ => rfl), List.length_map, List.length_take, Nat.min_eq_left hkl]
    have HN : Hid (((l.take (k + 1)).map Ln.tn ++ l.drop (k + 1)).flatMap Ln.cells = ((l.take k).map Ln.tn).flatMap Ln.cells ++ (Ln.cells (Ln.tn x) ++ (l.drop (k + 1)).flatMap Ln.cells)) := hQ0 (flat_mid2 Ln.cells Ln.tn hx)
    have HXM := hQ0 (List.mem_of_getElem? hx)
    generalize ((l.take k).map Ln.tn).flatMap Ln.cells = pre at hbx hpl HN
    generalize (l.drop (k + 1)).flatMap Ln.cells = post at hbx HN
    have i1 : (k : Int) < (l.length : Int) := by omega
    have hTb := HO.out.box HT.out (.inl hlo)
    have t17 := hTb.c 17 _ HTC.out
    have hqw : q ≠ w.heap.size := by omega
    have HP := hQ0 hpl
    have HBX := hQ0 hbx
    have hqlt := hbx.lt
    have hqfz := hbx.fz
    clear hbx hpl hx hTb
    obtain ⟨w5, hw5⟩ : ∃ z, z = wq := ⟨_, rfl⟩
    obtain ⟨y, hy⟩ : ∃ z, z = x := ⟨_, rfl⟩
    have HB5 : Hid (But q wq w5) := hQ0 (by rw [hw5]; exact But.refl _ _)
    have HX5 : Hid (BoxAt w5 q (pre ++ (y.cells ++ post))) := hQ0 (by rw [hw5, hy]; exact HBX.out)
    have HY := hQ0 hy
    rw [← hw5] at t17 ⊢
    clear hy hw5
    have KC : Calls Tryz.prog 74 #[.pointer (some ⟨q, k * 7 + 4, none⟩)] w5 _ := flip_any w q (k * 7 + 4) x.v1 x.v2 _ w5 (by omega) (HB.out.trans ((HO.out.trans (OutOf.of_but (q := q) HB5.out hq1 hq2)).toBelow (by omega) HB.out.size)) HX5.out (by rw [← HP.out, HY.out]; exact get_mid _ _ _ 4 _ rfl) (by rw [← HP.out, HY.out, Nat.add_assoc]; exact get_mid _ _ _ 5 _ rfl) (HM.out x HXM.out).1 (HM.out x HXM.out).2
    go_wp2_with (go_at_call 74; refine KC.mono ?_; rintro e w2 ⟨rfl, hb2, hx2⟩)
    go_roundg (l.length - (k + 1) + 1)
    case measure => omega
    case rel =>
     refine ⟨k + 1, by omega, by omega, by go_num, hQ0 (HO.out.trans ((OutOf.of_but (q := q) (HB5.out.trans hb2) hq1 hq2))), hQ0 (.inr ⟨q, rfl, hq1, hq2, ?_⟩)⟩
     rw [HN.out]
     have h := box_midn HP.out hx2 (by show 5 < 7; decide)
     rw [HY.out] at h
     exact h
  · obtain rfl : k = l.length := by omega
    go_wp2_with fail
    refine HR.out _ wq rfl (congrArg some HE1.out.symm) rfl (congrArg some HE3.out.symm) HO.out ?_
    have h := HX.out
    rw [List.take_length, List.drop_length, List.append_nil] at h
    exact h
def softT (t : Tb) : Prop := mild t.gx ∧ mild t.gy ∧ (∀ x ∈ t.zs, mild x.f1 ∧ mild x.f2) ∧ (∀ x ∈ t.ss, mild x.o1 ∧ mild x.o2) ∧ (∀ x ∈ t.rs, mild x.d1 ∧ mild x.d2) ∧ (∀ x ∈ t.lns, mild x.v1 ∧ mild x.v2)
theorem mem_mv {α : Type} {U : α → α} {P : α → Prop} {l : List α} (h : ∀ x ∈ l, P (U x)) : ∀ x ∈ l.map U, P x := fun x hx => by
 obtain ⟨y, hy, rfl⟩ := List.mem_map.1 hx
 exact h y hy
theorem eg_flip : ∀ args w, (callFunc 74 args).run Tryz.prog w = .ok (.enter 74 args) w := by
 intro args w
 go_simp
attribute [local go_sem ↓] evalL getL64 setL64
attribute [local go_sem ↓] getL8 setL8
attribute [local go_sem ↓] getL1 getL0
set_option maxRecDepth 100000 in
set_option maxHeartbeats 8000000 in
theorem mirror_any (t : Tb) (a : TbA) (w : World) (hA : TbAt w t a) (hok : a.ok) (hle : t.le 10000) (hm : t.mild) (hs : softT t) :
  Calls Tryz.prog 22 #[t.v a] w (MvOut (mirrorR t) w) := by
 have HA := hQ0 hA
 have HL := hQ0 hle
 have HM := hQ0 hm
 have HS := hQ0 hs
 have HK := hQ0 hok
 clear hA hle hm hs hok
 obtain ⟨TC0, hTC0⟩ : ∃ z : List Value, z = t.cells a := ⟨_, rfl⟩
 have HTC0 := hQ0 hTC0
 have hv : t.v a = .agg TC0.toArray := by rw [hTC0]; rfl
 rw [hTC0] at hv
 clear hTC0
 unfold Tb.v
 go_enter Tryz.func22, Tryz.ntmps22; (try simp only [List.append_eq, List.cons_append, List.nil_append])
 go_upto_region 2 with (fail)
 (refine pin_eqT (fun V0 hV => ?_))
 have HB0 : Hid (Below w.heap.size w V0) := hQ0 (by rw [hV]; ((with_reducible (repeat (first | exact bR _ _ | apply bS | apply bA | apply bD | refine bT ?_ (by assumption) ?_ | refine bO (by assumption) ?_ ?_))) <;> (first | omega | (simp <;> omega))))
 have HX0 : Hid (BoxAt V0 w.heap.size (t.cells a)) := hQ0 (by rw [hV]; exact (BoxAt.new w (t.cells a) 36).alloc _)
 have HR0 : Hid (BoxAt V0 (w.heap.size + 1) (tb0.cells a0)) := hQ0 (by rw [hV]; exact bx_new _ (tb0.cells a0) 36 (by simp))
 clear hV hv
 obtain ⟨sb, hsb⟩ : ∃ z, z = w.heap.size + 1 := ⟨_, rfl⟩
 rw [← hsb] at HR0 ⊢
 have HSB := hQ0 hsb
 clear hsb
 refine wp_region_lit ?_
 apply wpL_maybe true (by exact rfl) (t.v a)
 (case h => intro _; exact load_tb _ _ 1 rfl w.heap.size (by first | rfl | (go_simp; done)) t a _ HX0.out)
 intro K hK; (try simp only [opt_true]); go_simp; refine hK _ _ ?_; clear hK K
 refine wpList_plain rfl fun K hK => ?_
 go_simp
 refine hK _ _ ?_
 clear hK K
 have KP := places_any t a V0 74 #[] (fun x => -x) (fun y => y) (flip_any V0) eg_flip (HA.out.below HB0.out (Nat.le_refl _)) HK.out HL.out HM.out
 refine wpList_plain rfl fun K hK => ?_
 go_simp
 (refine KP.mono ?_; rintro e w1 ⟨a1, rfl, hb1, ⟨bb, hbb, hS1⟩, hC1⟩)
 go_simp
 refine hK _ _ ?_
 clear hK K KP
 obtain ⟨t1, ht1⟩ : ∃ z, z = t.mv (fun x => -x) (fun y => y) := ⟨_, rfl⟩
 rw [← ht1] at hS1 hC1 ⊢
 have HC1 := hQ0 hC1
 have hwb : w.heap.size + 1 < bb 0 := by have := HR0.out.lt; have := HSB.out; omega
 have HT1 := hQ0 ht1
 have HX1 := hQ0 (HX0.out.below hb1 HX0.out.lt)
 have HR1 := hQ0 (HR0.out.below hb1 HR0.out.lt)
 have HB1 := hQ0 (HB0.out.trans (hb1.mono HB0.out.size))
 have HS1 := hQ0 hS1
 clear hb1 hS1 hC1 hbb ht1 HX0 HR0 HB0
 refine wpList_store_tb rfl (.tmp 1) (.tmp 16) rfl w.heap.size _ (by go_simp) t1 a1 (by go_simp; first | done | rfl) HX1.out rfl ?_
 have HX2 := hQ0 (stored_tb w.heap.size _ t1 a1 w1 HX1.out rfl)
 have HR2 := hQ0 (HR1.out.low_cells (q := w.heap.size) (o := 0) (vs := t1.cells a1) (by have := HSB.out; omega))
 have HB2 := hQ0 (below_setCells (b := w.heap.size) (Nat.le_refl _) (t1.cells a1) 0 HB1.out)
 have HS2 := hQ0 (HS1.out.but (but_setCells w.heap.size 0 (t1.cells a1) w1) (by omega))
 generalize w1.setCells w.heap.size 0 (t1.cells a1) = w2 at HX2 HR2 HB2 HS2 ⊢
 clear HX1 HR1 HB1 HS1
 have hsg : mild t1.gx ∧ mild t1.gy := by rw [HT1.out]; exact ⟨HS.out.1, HS.out.2.1⟩
 have KG : Calls Tryz.prog 74 #[.pointer (some ⟨w.heap.size, 3, none⟩)] w2 _ := flip_any w w.heap.size 3 t1.gx t1.gy (t1.cells a1) w2 (Nat.le_refl _) HB2.out HX2.out rfl rfl hsg.1 hsg.2
 clear hsg
 go_simp
 go_upto_region 4 with (go_at_call 74; refine KG.mono ?_; rintro e w3 ⟨rfl, hb3, hx3⟩)
 obtain ⟨TC, hTC⟩ : ∃ z, z = ((t1.cells a1).set 3 (.int .i64 (-t1.gx))).set (3 + 1) (.int .i64 t1.gy) := ⟨_, rfl⟩
 rw [← hTC] at hx3
 have HTC := hQ0 hTC
 have HX3 := hQ0 hx3
 have HB3 := hQ0 (HB2.out.trans (hb3.toBelow (Nat.le_refl _) HB2.out.size))
 have HR3 := hQ0 (HR2.out.block hb3.size (hb3.block sb HR2.out.lt (by have := HSB.out; omega)))
 have HS3 := HS2.out.but hb3 (by omega)
 have hord := HS3.ord
 have HR_tr := hQ0 HS3.tr
 have HR_ws := hQ0 HS3.ws
 have HR_ars := hQ0 HS3.ars
 have HR_ps := hQ0 HS3.ps
 have HR_fs := hQ0 HS3.fs
 have HR_zs := hQ0 HS3.zs
 have HR_ss := hQ0 HS3.ss
 have HR_las := hQ0 HS3.las
 have HR_rs := hQ0 HS3.rs
 have HR_ds := hQ0 HS3.ds
 have HR_lns := hQ0 HS3.lns
 have hl1 : t1.le 10000 := by
  have h := HL.out
  rw [HT1.out]
  exact ⟨h.tr, by simpa [Tb.mv] using h.ws, by simpa [Tb.mv] using h.ars, by simpa [Tb.mv] using h.ps, by simpa [Tb.mv] using h.fs, by simpa [Tb.mv] using h.zs, by simpa [Tb.mv] using h.ss, by simpa [Tb.mv] using h.las, by simpa [Tb.mv] using h.rs, by simpa [Tb.mv] using h.ds, by simpa [Tb.mv] using h.lns⟩
 have HL1 := hQ0 hl1
 have HS1 : Hid (softT t1) := hQ0 (by
  have h := HS.out
  rw [HT1.out]
  exact ⟨h.1, h.2.1, mem_mv h.2.2.1, mem_mv h.2.2.2.1, mem_mv h.2.2.2.2.1, mem_mv h.2.2.2.2.2⟩)
 clear hTC hx3 hb3 HX2 HR2 HB2 HS2 HS3 hl1 KG HS HL
 as_aux_lemma =>
  have t_ := HX3.out.c 8 (.slice a1.ws t1.ws.length a1.wsc) (by rw [HTC.out]; rfl)
  refine wp_region_lit ?_
  iterate 4 (refine wpList_plain rfl fun K hK => ?_; go_simp; refine hK _ _ ?_; clear hK K)
  refine wpList_nil ?_
  (try go_simp)
  go_step
  clear t_
  refine wp_of_end (lm_ws w w3 (bb 1) (bb 2) a1.ws a1.wsc t1.ws TC _ _ (by rfl) (by rfl) (by rfl) (by rfl) (by rw [HTC.out]; rfl) HX3.out HR_ws.out (by omega) HL1.out.ws _ ?_) (fun _ _ h => h)
  intro F_ v0 hF_ h1_ h2_ h3_ hO_ hR_
  obtain ⟨s0, rfl⟩ := fr166_ex F_ hF_
  have e1_ : s0 1 = .pointer (some ⟨w.heap.size, 0, none⟩) := Option.some.inj h1_
  have e2_ : s0 2 = .pointer (some ⟨sb, 0, none⟩) := Option.some.inj h2_
  have e3_ : s0 3 = .func (.func 74) #[] #[] := Option.some.inj h3_
  have HR_tr := hQ0 (HR_tr.out.out hO_ (by omega))
  have HR_ws := hQ0 hR_
  have HR_ars := hQ0 (HR_ars.out.out hO_ (by omega))
  have HR_ps := hQ0 (HR_ps.out.out hO_ (by omega))
  have HR_fs := hQ0 (HR_fs.out.out hO_ (by omega))
  have HR_zs := hQ0 (HR_zs.out.out hO_ (by omega))
  have HR_ss := hQ0 (HR_ss.out.out hO_ (by omega))
  have HR_las := hQ0 (HR_las.out.out hO_ (by omega))
  have HR_rs := hQ0 (HR_rs.out.out hO_ (by omega))
  have HR_ds := hQ0 (HR_ds.out.out hO_ (by omega))
  have HR_lns := hQ0 (HR_lns.out.out hO_ (by omega))
  have HX3 := hQ0 (hO_.box HX3.out (.inl (by omega)))
  have HR3 := hQ0 (hO_.box HR3.out (.inl (by have := HSB.out; omega)))
  have HB3 := hQ0 (HB3.out.trans (hO_.toBelow (by omega) HB3.out.size))
  clear hO_ hR_ h1_ h2_ h3_ hF_
  unfold fr166
  rw [e1_, e2_, e3_]
  clear e1_ e2_ e3_
  show _
  as_aux_lemma =>
   have t_ := HX3.out.c 9 (.slice a1.ars t1.ars.length a1.arsc) (by rw [HTC.out]; rfl)
   go_upto_region 10 with (fail)
   refine wp_region_lit ?_
   iterate 4 (refine wpList_plain rfl fun K hK => ?_; go_simp; refine hK _ _ ?_; clear hK K)
   refine wpList_nil ?_
   (try go_simp)
   go_step
   clear t_
   refine wp_of_end (lm_ars w v0 (bb 2) (bb 3) a1.ars a1.arsc t1.ars TC _ _ (by rfl) (by rfl) (by rfl) (by rfl) (by rw [HTC.out]; rfl) HX3.out HR_ars.out (by omega) HL1.out.ars _ ?_) (fun _ _ h => h)
   intro F_ v1 hF_ h1_ h2_ h3_ hO_ hR_
   obtain ⟨s1, rfl⟩ := fr166_ex F_ hF_
   have e1_ : s1 1 = .pointer (some ⟨w.heap.size, 0, none⟩) := Option.some.inj h1_
   have e2_ : s1 2 = .pointer (some ⟨sb, 0, none⟩) := Option.some.inj h2_
   have e3_ : s1 3 = .func (.func 74) #[] #[] := Option.some.inj h3_
   have HR_tr := hQ0 (HR_tr.out.out hO_ (by omega))
   have HR_ws := hQ0 (HR_ws.out.out hO_ (by omega))
   have HR_ars := hQ0 hR_
   have HR_ps := hQ0 (HR_ps.out.out hO_ (by omega))
   have HR_fs := hQ0 (HR_fs.out.out hO_ (by omega))
   have HR_zs := hQ0 (HR_zs.out.out hO_ (by omega))
   have HR_ss := hQ0 (HR_ss.out.out hO_ (by omega))
   have HR_las := hQ0 (HR_las.out.out hO_ (by omega))
   have HR_rs := hQ0 (HR_rs.out.out hO_ (by omega))
   have HR_ds := hQ0 (HR_ds.out.out hO_ (by omega))
   have HR_lns := hQ0 (HR_lns.out.out hO_ (by omega))
   have HX3 := hQ0 (hO_.box HX3.out (.inl (by omega)))
   have HR3 := hQ0 (hO_.box HR3.out (.inl (by have := HSB.out; omega)))
   have HB3 := hQ0 (HB3.out.trans (hO_.toBelow (by omega) HB3.out.size))
   clear hO_ hR_ h1_ h2_ h3_ hF_
   unfold fr166
   rw [e1_, e2_, e3_]
   clear e1_ e2_ e3_
   show _
   as_aux_lemma =>
    have t_ := HX3.out.c 11 (.slice a1.fs t1.fs.length a1.fsc) (by rw [HTC.out]; rfl)
    go_upto_region 16 with (fail)
    refine wp_region_lit ?_
    iterate 4 (refine wpList_plain rfl fun K hK => ?_; go_simp; refine hK _ _ ?_; clear hK K)
    refine wpList_nil ?_
    (try go_simp)
    go_step
    clear t_
    refine wp_of_end (lm_fs w v1 (bb 4) (bb 5) a1.fs a1.fsc t1.fs TC _ _ (by rfl) (by rfl) (by rfl) (by rfl) (by rw [HTC.out]; rfl) HX3.out HR_fs.out (by omega) HL1.out.fs _ ?_) (fun _ _ h => h)
    intro F_ v2 hF_ h1_ h2_ h3_ hO_ hR_
    obtain ⟨s2, rfl⟩ := fr166_ex F_ hF_
    have e1_ : s2 1 = .pointer (some ⟨w.heap.size, 0, none⟩) := Option.some.inj h1_
    have e2_ : s2 2 = .pointer (some ⟨sb, 0, none⟩) := Option.some.inj h2_
    have e3_ : s2 3 = .func (.func 74) #[] #[] := Option.some.inj h3_
    have HR_tr := hQ0 (HR_tr.out.out hO_ (by omega))
    have HR_ws := hQ0 (HR_ws.out.out hO_ (by omega))
    have HR_ars := hQ0 (HR_ars.out.out hO_ (by omega))
    have HR_ps := hQ0 (HR_ps.out.out hO_ (by omega))
    have HR_fs := hQ0 hR_
    have HR_zs := hQ0 (HR_zs.out.out hO_ (by omega))
    have HR_ss := hQ0 (HR_ss.out.out hO_ (by omega))
    have HR_las := hQ0 (HR_las.out.out hO_ (by omega))
    have HR_rs := hQ0 (HR_rs.out.out hO_ (by omega))
    have HR_ds := hQ0 (HR_ds.out.out hO_ (by omega))
    have HR_lns := hQ0 (HR_lns.out.out hO_ (by omega))
    have HX3 := hQ0 (hO_.box HX3.out (.inl (by omega)))
    have HR3 := hQ0 (hO_.box HR3.out (.inl (by have := HSB.out; omega)))
    have HB3 := hQ0 (HB3.out.trans (hO_.toBelow (by omega) HB3.out.size))
    clear hO_ hR_ h1_ h2_ h3_ hF_
    unfold fr166
    rw [e1_, e2_, e3_]
    clear e1_ e2_ e3_
    show _
    as_aux_lemma =>
     have t_ := HX3.out.c 12 (.slice a1.zs t1.zs.length a1.zsc) (by rw [HTC.out]; rfl)
     go_upto_region 21 with (fail)
     refine wp_region_lit ?_
     iterate 4 (refine wpList_plain rfl fun K hK => ?_; go_simp; refine hK _ _ ?_; clear hK K)
     refine wpList_nil ?_
     (try go_simp)
     go_step
     clear t_
     refine wp_of_end (lm_zs w v2 (bb 5) (bb 6) a1.zs a1.zsc t1.zs TC _ _ (by rfl) (by rfl) (by rfl) (by rfl) (by rw [HTC.out]; rfl) HX3.out HR_zs.out (by omega) HL1.out.zs HB3.out (by rfl) HS1.out.2.2.1 _ ?_) (fun _ _ h => h)
     intro F_ v3 hF_ h1_ h2_ h3_ hO_ hR_
     obtain ⟨s3, rfl⟩ := fr166_ex F_ hF_
     have e1_ : s3 1 = .pointer (some ⟨w.heap.size, 0, none⟩) := Option.some.inj h1_
     have e2_ : s3 2 = .pointer (some ⟨sb, 0, none⟩) := Option.some.inj h2_
     have e3_ : s3 3 = .func (.func 74) #[] #[] := Option.some.inj h3_
     have HR_tr := hQ0 (HR_tr.out.out hO_ (by omega))
     have HR_ws := hQ0 (HR_ws.out.out hO_ (by omega))
     have HR_ars := hQ0 (HR_ars.out.out hO_ (by omega))
     have HR_ps := hQ0 (HR_ps.out.out hO_ (by omega))
     have HR_fs := hQ0 (HR_fs.out.out hO_ (by omega))
     have HR_zs := hQ0 hR_
     have HR_ss := hQ0 (HR_ss.out.out hO_ (by omega))
     have HR_las := hQ0 (HR_las.out.out hO_ (by omega))
     have HR_rs := hQ0 (HR_rs.out.out hO_ (by omega))
     have HR_ds := hQ0 (HR_ds.out.out hO_ (by omega))
     have HR_lns := hQ0 (HR_lns.out.out hO_ (by omega))
     have HX3 := hQ0 (hO_.box HX3.out (.inl (by omega)))
     have HR3 := hQ0 (hO_.box HR3.out (.inl (by have := HSB.out; omega)))
     have HB3 := hQ0 (HB3.out.trans (hO_.toBelow (by omega) HB3.out.size))
     clear hO_ hR_ h1_ h2_ h3_ hF_
     unfold fr166
     rw [e1_, e2_, e3_]
     clear e1_ e2_ e3_
     show _
     as_aux_lemma =>
      have t_ := HX3.out.c 13 (.slice a1.ss t1.ss.length a1.ssc) (by rw [HTC.out]; rfl)
      go_upto_region 28 with (fail)
      refine wp_region_lit ?_
      iterate 4 (refine wpList_plain rfl fun K hK => ?_; go_simp; refine hK _ _ ?_; clear hK K)
      refine wpList_nil ?_
      (try go_simp)
      go_step
      clear t_
      refine wp_of_end (lm_ss w v3 (bb 6) (bb 7) a1.ss a1.ssc t1.ss TC _ _ (by rfl) (by rfl) (by rfl) (by rfl) (by rw [HTC.out]; rfl) HX3.out HR_ss.out (by omega) HL1.out.ss HB3.out (by rfl) HS1.out.2.2.2.1 _ ?_) (fun _ _ h => h)
      intro F_ v4 hF_ h1_ h2_ h3_ hO_ hR_
      obtain ⟨s4, rfl⟩ := fr166_ex F_ hF_
      have e1_ : s4 1 = .pointer (some ⟨w.heap.size, 0, none⟩) := Option.some.inj h1_
      have e2_ : s4 2 = .pointer (some ⟨sb, 0, none⟩) := Option.some.inj h2_
      have e3_ : s4 3 = .func (.func 74) #[] #[] := Option.some.inj h3_
      have HR_tr := hQ0 (HR_tr.out.out hO_ (by omega))
      have HR_ws := hQ0 (HR_ws.out.out hO_ (by omega))
      have HR_ars := hQ0 (HR_ars.out.out hO_ (by omega))
      have HR_ps := hQ0 (HR_ps.out.out hO_ (by omega))
      have HR_fs := hQ0 (HR_fs.out.out hO_ (by omega))
      have HR_zs := hQ0 (HR_zs.out.out hO_ (by omega))
      have HR_ss := hQ0 hR_
      have HR_las := hQ0 (HR_las.out.out hO_ (by omega))
      have HR_rs := hQ0 (HR_rs.out.out hO_ (by omega))
      have HR_ds := hQ0 (HR_ds.out.out hO_ (by omega))
      have HR_lns := hQ0 (HR_lns.out.out hO_ (by omega))
      have HX3 := hQ0 (hO_.box HX3.out (.inl (by omega)))
      have HR3 := hQ0 (hO_.box HR3.out (.inl (by have := HSB.out; omega)))
      have HB3 := hQ0 (HB3.out.trans (hO_.toBelow (by omega) HB3.out.size))
      clear hO_ hR_ h1_ h2_ h3_ hF_
      unfold fr166
      rw [e1_, e2_, e3_]
      clear e1_ e2_ e3_
      show _
      as_aux_lemma =>
       have t_ := HX3.out.c 15 (.slice a1.rs t1.rs.length a1.rsc) (by rw [HTC.out]; rfl)
       go_upto_region 33 with (fail)
       refine wp_region_lit ?_
       iterate 4 (refine wpList_plain rfl fun K hK => ?_; go_simp; refine hK _ _ ?_; clear hK K)
       refine wpList_nil ?_
       (try go_simp)
       go_step
       clear t_
       refine wp_of_end (lm_rs w v4 (bb 8) (bb 9) a1.rs a1.rsc t1.rs TC _ _ (by rfl) (by rfl) (by rfl) (by rfl) (by rw [HTC.out]; rfl) HX3.out HR_rs.out (by omega) HL1.out.rs HB3.out (by rfl) HS1.out.2.2.2.2.1 _ ?_) (fun _ _ h => h)
       intro F_ v5 hF_ h1_ h2_ h3_ hO_ hR_
       obtain ⟨s5, rfl⟩ := fr166_ex F_ hF_
       have e1_ : s5 1 = .pointer (some ⟨w.heap.size, 0, none⟩) := Option.some.inj h1_
       have e2_ : s5 2 = .pointer (some ⟨sb, 0, none⟩) := Option.some.inj h2_
       have e3_ : s5 3 = .func (.func 74) #[] #[] := Option.some.inj h3_
       have HR_tr := hQ0 (HR_tr.out.out hO_ (by omega))
       have HR_ws := hQ0 (HR_ws.out.out hO_ (by omega))
       have HR_ars := hQ0 (HR_ars.out.out hO_ (by omega))
       have HR_ps := hQ0 (HR_ps.out.out hO_ (by omega))
       have HR_fs := hQ0 (HR_fs.out.out hO_ (by omega))
       have HR_zs := hQ0 (HR_zs.out.out hO_ (by omega))
       have HR_ss := hQ0 (HR_ss.out.out hO_ (by omega))
       have HR_las := hQ0 (HR_las.out.out hO_ (by omega))
       have HR_rs := hQ0 hR_
       have HR_ds := hQ0 (HR_ds.out.out hO_ (by omega))
       have HR_lns := hQ0 (HR_lns.out.out hO_ (by omega))
       have HX3 := hQ0 (hO_.box HX3.out (.inl (by omega)))
       have HR3 := hQ0 (hO_.box HR3.out (.inl (by have := HSB.out; omega)))
       have HB3 := hQ0 (HB3.out.trans (hO_.toBelow (by omega) HB3.out.size))
       clear hO_ hR_ h1_ h2_ h3_ hF_
       unfold fr166
       rw [e1_, e2_, e3_]
       clear e1_ e2_ e3_
       show _
       as_aux_lemma =>
        have t_ := HX3.out.c 17 (.slice a1.lns t1.lns.length a1.lnsc) (by rw [HTC.out]; rfl)
        go_upto_region 38 with (fail)
        refine wp_region_lit ?_
        iterate 4 (refine wpList_plain rfl fun K hK => ?_; go_simp; refine hK _ _ ?_; clear hK K)
        refine wpList_nil ?_
        (try go_simp)
        go_step
        clear t_
        refine wp_of_end (lm_lns w v5 (bb 10) (bb 11) a1.lns a1.lnsc t1.lns TC _ _ (by rfl) (by rfl) (by rfl) (by rfl) (by rw [HTC.out]; rfl) HX3.out HR_lns.out (by omega) HL1.out.lns HB3.out (by rfl) HS1.out.2.2.2.2.2 _ ?_) (fun _ _ h => h)
        intro F_ v6 hF_ h1_ h2_ h3_ hO_ hR_
        obtain ⟨s6, rfl⟩ := fr166_ex F_ hF_
        have e1_ : s6 1 = .pointer (some ⟨w.heap.size, 0, none⟩) := Option.some.inj h1_
        have e2_ : s6 2 = .pointer (some ⟨sb, 0, none⟩) := Option.some.inj h2_
        have e3_ : s6 3 = .func (.func 74) #[] #[] := Option.some.inj h3_
        have HR_tr := hQ0 (HR_tr.out.out hO_ (by omega))
        have HR_ws := hQ0 (HR_ws.out.out hO_ (by omega))
        have HR_ars := hQ0 (HR_ars.out.out hO_ (by omega))
        have HR_ps := hQ0 (HR_ps.out.out hO_ (by omega))
        have HR_fs := hQ0 (HR_fs.out.out hO_ (by omega))
        have HR_zs := hQ0 (HR_zs.out.out hO_ (by omega))
        have HR_ss := hQ0 (HR_ss.out.out hO_ (by omega))
        have HR_las := hQ0 (HR_las.out.out hO_ (by omega))
        have HR_rs := hQ0 (HR_rs.out.out hO_ (by omega))
        have HR_ds := hQ0 (HR_ds.out.out hO_ (by omega))
        have HR_lns := hQ0 hR_
        have HX3 := hQ0 (hO_.box HX3.out (.inl (by omega)))
        have HR3 := hQ0 (hO_.box HR3.out (.inl (by have := HSB.out; omega)))
        have HB3 := hQ0 (HB3.out.trans (hO_.toBelow (by omega) HB3.out.size))
        clear hO_ hR_ h1_ h2_ h3_ hF_
        unfold fr166
        rw [e1_, e2_, e3_]
        clear e1_ e2_ e3_
        show _
        go_upto_region 43 with (fail)
        have hTE : TC = (mirrorR t).cells a1 := by
         rw [HTC.out]
         show _ = Tb.cells (Tb.tn (t.mv (fun x => -x) (fun y => y))) a1
         rw [← HT1.out]
         simp only [Tb.cells, Tb.tn, List.length_map]
         rfl
        have HSE : Hid (TbSep v6 bb (mirrorR t) a1) := hQ0 (by
         show TbSep _ bb (Tb.tn (t.mv (fun x => -x) (fun y => y))) a1
         rw [← HT1.out]
         exact ⟨HR_tr.out, HR_ws.out, HR_ars.out, HR_ps.out, HR_fs.out, HR_zs.out, HR_ss.out, HR_las.out, HR_rs.out, HR_ds.out, HR_lns.out, hord⟩)
        have HCE : Hid (TbCap (mirrorR t) a1) := hQ0 (by
         show TbCap (Tb.tn (t.mv (fun x => -x) (fun y => y))) a1
         rw [← HT1.out]
         have h := HC1.out
         exact ⟨by simpa [Tb.tn] using h.ss, by simpa [Tb.tn] using h.rs, by simpa [Tb.tn] using h.lns, h.ok⟩)
        rw [hTE] at HX3
        obtain ⟨t2, ht2⟩ : ∃ z, z = mirrorR t := ⟨_, rfl⟩
        rw [← ht2] at HX3 HSE HCE
        have HT2 := hQ0 ht2
        clear ht2
        refine wp_region_lit ?_
        apply wpL_maybe true (by exact rfl) (t2.v a1)
        (case h => intro _; exact load_tb _ _ 1 rfl w.heap.size (by first | rfl | (go_simp; done)) t2 a1 _ HX3.out)
        intro K hK; (try simp only [opt_true]); go_simp; refine hK _ _ ?_; clear hK K
        (try go_simp)
        refine wpList_store_tb rfl (.tmp 2) (.tmp 165) rfl sb _ (by go_simp) t2 a1 (by go_simp; first | done | rfl) HR3.out rfl ?_
        go_simp
        go_wp2_with fail
        have hlv := loadv_tb sb t2 a1 _ (stored_tb sb _ t2 a1 v6 HR3.out rfl)
        refine bodyPost_ret (v := t2.v a1) (by simp only [results, Tryz.results22]; simp [hlv, asAddr]) rfl ?_
        rw [← HT2.out]
        refine ⟨a1, rfl, below_setCells (by have := HSB.out; omega) _ _ HB3.out, ⟨bb, by omega, ?_⟩, HCE.out⟩
        exact HSE.out.but (but_setCells sb 0 _ v6) (by have := HSB.out; omega)
theorem ownF_below {w w1 : World} {base B : Nat} {e : TypeId} {size n : Nat} {v : Value} {xs : List Value} (h : w.ownsRowF base e size v n xs) (hb : Below B w w1) (hB : w.heap.size ≤ B) : w1.ownsRowF base e size v n xs := by
 obtain ⟨h1, h2⟩ := h
 refine ⟨h1, ?_⟩
 rcases h2 with h2 | ⟨g, cap, cur, fz, hv, hg, hh, r⟩
 · exact .inl h2
 · exact .inr ⟨g, cap, cur, fz, hv, hg, by rw [hb.block g (by have := (Array.getElem?_eq_some_iff.1 hh).1; omega)]; exact hh, r⟩
theorem isbF_below {T e : TypeId} {B b N : Nat} {bs : List Value} {w w' : World} (h : Lib.IsBuilderF T e B b bs w) (hb : Below N w w') (hN : w.heap.size ≤ N) : Lib.IsBuilderF T e B b bs w' := by
 have go : ∀ p, Lib.BuilderAtF T e B b p bs w → Lib.BuilderAtF T e B b p bs w' := fun p h => by
  obtain ⟨hB, v, hbk, hown, hne⟩ := h
  have hlt := (Array.getElem?_eq_some_iff.1 hbk).1
  exact ⟨hB, v, (hb.block b (Nat.lt_of_lt_of_le hlt hN)).trans hbk, ownF_below hown hb hN, hne⟩
 exact h.elim (fun h => .inl (go _ h)) (fun h => .inr (go _ h))
abbrev WB (b : Nat) (bs : List UInt8) (w : World) : Prop := Lib.IsBuilder 191 5 b b (Lib.byteCells bs) w
theorem wr_any (b : Nat) (bs : List UInt8) (s : ByteArray) (w : World) (h : WB b bs w) (hlen : bs.length + s.size ≤ 2000000000) (hBw : b ≤ w.heap.size) :
  Calls Tryz.prog 114 #[.pointer (some ⟨b, 0, none⟩), .string s] w fun e w' => e = .returned (.tuple #[.int .i64 s.size, .nilIface]) ∧ WB b (bs ++ s.data.toList) w' ∧ Below b w w' ∧ Kept b w w' := by
 refine (writes_any b b (Lib.byteCells bs) s w h (by rw [Lib.byteCells_length]; omega) hBw).mono ?_
 rintro e w' ⟨he, h1, h2, h3⟩
 refine ⟨he, ?_, h2, h3⟩
 show Lib.IsBuilder _ _ _ _ (Lib.byteCells (bs ++ s.data.toList)) w'
 rw [Lib.byteCells_append, ← Lib.strCells_eq]
 exact h1
def okF (x : IV) : Prop := okX x ∧ ∀ k ∈ x.keys, ∀ n ∈ k.vals, -9223372036854775808 ≤ n ∧ n ≤ 9223372036854775807
theorem flat_take {α : Type} (f : α → List UInt8) {l : List α} {k : Nat} {x : α} (h : l[k]? = some x) : (l.take (k + 1)).flatMap f = (l.take k).flatMap f ++ f x := by
 rw [List.take_add_one, h]
 simp
theorem flat_le {α : Type} (f : α → List UInt8) (l : List α) (k : Nat) : ((l.take k).flatMap f).length ≤ (l.flatMap f).length := by
 conv => rhs; rw [← List.take_append_drop k l]
 rw [List.flatMap_append, List.length_append]
 omega
theorem flat_le1 {α : Type} (f : α → List UInt8) {l : List α} {k : Nat} {x : α} (h : l[k]? = some x) : ((l.take k).flatMap f).length + (f x).length ≤ (l.flatMap f).length := by
 have := flat_le f l (k + 1)
 rw [flat_take f h, List.length_append] at this
 exact this
theorem str_add (b : ByteArray) : ((⟨#[32]⟩ : ByteArray) ++ b).data.toList = 32 :: b.data.toList := by
 rw [ByteArray.data_append, Array.toList_append]; rfl
theorem str_addsize (b : ByteArray) : ((⟨#[32]⟩ : ByteArray) ++ b).size = b.size + 1 := by
 rw [ByteArray.size_append]; show 1 + b.size = _; omega
def FmtOut (R : ByteArray × Bool) (w : World) (e : Ending) (w' : World) : Prop := e = .returned (.tuple #[.string R.1, .bool R.2]) ∧ Below w.heap.size w w'
set_option maxRecDepth 100000 in
set_option maxHeartbeats 8000000 in
theorem format_any (l : List IV) (A : Option Addr) (c : Nat) (w : World) (hA : XsAt w A l) (ht : Tabs w) (hl : l.length ≤ 1000000) (hok : ∀ x ∈ l, okF x) (hsz : (textB l).length ≤ 1000000000) :
  Calls Tryz.prog 59 #[.slice A l.length c] w (FmtOut (fmtR l) w) := by
 have h3 := ht.three
 have HA := hQ0 hA
 have HK := hQ0 hok
 have HT := hQ0 ht
 have HS := hQ0 hsz
 have hwb0 : WB w.heap.size (textB (l.take 0)) (w.alloc (.cells #[.pointer none, .slice none 0 0] 191)) := Lib.fresh_isBuilder _ _ _
 have HW0 := hQ0 hwb0
 clear hA hok ht hsz hwb0
 go_enter Tryz.func59, Tryz.ntmps59; (try simp only [List.append_eq, List.cons_append, List.nil_append])
 go_wp2_with fail
 go_loopw [16] (fun t wr => ∃ k : Nat, k ≤ l.length ∧ t = .int .i64 k ∧ w.heap.size + 1 ≤ wr.heap.size ∧ Below w.heap.size w wr ∧ Hid (WB w.heap.size (textB (l.take k)) wr)) (fun t _ => l.length - (intOf t).toNat)
 case atStart => exact ⟨0, by omega, rfl, by simp, (by ((with_reducible (repeat (first | exact bR _ _ | apply bS | apply bA | apply bD | refine bT ?_ (by assumption) ?_ | refine bO (by assumption) ?_ ?_))) <;> (first | omega | (simp <;> omega)))), HW0⟩
 case round =>
  obtain ⟨k, hk, rfl, hs_wr, hb_wr, HW⟩ := hrel
  have hz_wr := hb_wr.size
  by_cases hlt : k < l.length
  · obtain ⟨x, hx⟩ : ∃ x, l[k]? = some x := ⟨l[k], by simp⟩
    obtain ⟨g, o, C, q, rfl, hg, ⟨c0, c1, c2, c3⟩, hI⟩ := HA.out k x hx
    replace c0 := (hb_wr.cell (p := ⟨g, o + k * 4, none⟩) hg).trans c0
    replace c1 := (hb_wr.cell (p := ⟨g, o + k * 4 + 1, none⟩) hg).trans c1
    replace c2 := (hb_wr.cell (p := ⟨g, o + k * 4 + 2, none⟩) hg).trans c2
    replace c3 := (hb_wr.cell (p := ⟨g, o + k * 4 + 3, none⟩) hg).trans c3
    have hg' : g < wr.heap.size := by omega
    have hokx := HK.out x (List.mem_of_getElem? hx)
    have hxl : (textB (l.take k)).length + (itemB x).length ≤ 1000000000 := Nat.le_trans (flat_le1 itemB hx) HS.out
    have hxe : (itemB x).length = (headB x).length + (x.keys.flatMap keyB).length + 2 := by unfold itemB; simp only [List.length_append, List.length_cons, List.length_nil]
    have i1 : (k : Int) < (l.length : Int) := by omega
    obtain ⟨⟨hkl, hvl⟩, hrg⟩ := hokx
    have HI := hQ0 hI
    have HB := hQ0 hb_wr
    have HWa : Hid (WB w.heap.size (textB (l.take k)) (wr.alloc (.cells #[.string x.word, .string x.name, .slice C x.keys.length q, .int .i64 x.at_] 97))) := hQ0 (isb_below HW.out ((Below.refl wr.heap.size wr).alloc (Nat.le_refl _) _) (Nat.le_refl _))
    have HX := hQ0 (CX.new wr #[.string x.word, .string x.name, .slice C x.keys.length q, .int .i64 x.at_] 97)
    clear hI hb_wr
    by_cases hn : x.name = ⟨#[]⟩
    · have b1 : (x.name.toList == []) = true := txt_eqL hn
      have hh : headB x = x.word.data.toList := by unfold headB; rw [if_pos hn, List.append_nil]
      have hhl : (headB x).length = x.word.size := by rw [hh, Array.length_toList]; rfl
      clear hn
      go_wp2_with (go_at_call 114; refine (wr_any _ _ x.word _ HWa.out (by omega) (by simp; omega)).mono ?_; rintro e w1 ⟨rfl, hw1, hb1, hk1⟩; obtain ⟨d0, d1, d2, d3, dz, dl⟩ := (HX.out.kept hk1 (by omega) (by decide)).c4)
      rw [← hh] at hw1
      have hbm : Below w.heap.size w w1 := (HB.out.alloc hz_wr _).trans hb1
      have hsm : w.heap.size + 1 ≤ w1.heap.size := by have := hb1.size; simp at this; omega
      have HM := hQ0 hw1
      clear hw1 hb1 hk1 HX HWa
      have hz_m := hbm.size
      go_loopw [33] (fun t wr => ∃ j : Nat, j ≤ x.keys.length ∧ t = .int .i64 j ∧ w.heap.size + 1 ≤ wr.heap.size ∧ Below w.heap.size w wr ∧ Hid (WB w.heap.size (textB (l.take k) ++ headB x ++ (x.keys.take j).flatMap keyB) wr)) (fun t _ => x.keys.length - (intOf t).toNat)
      case atStart => exact ⟨0, by omega, rfl, hsm, hbm, hQ0 (by simpa using HM.out)⟩
      case round =>
       obtain ⟨j, hj, rfl, hs2, hb2, HW2⟩ := hrel
       have hz2 := hb2.size
       by_cases hjl : j < x.keys.length
       · obtain ⟨y, hy⟩ : ∃ y, x.keys[j]? = some y := ⟨x.keys[j], by simp⟩
         obtain ⟨g2, o2, C2, q2, rfl, hg2, ⟨e0, e1, e2⟩, hI2⟩ := HI.out j y hy
         replace e0 := (hb2.cell (p := ⟨g2, o2 + j * 3, none⟩) hg2).trans e0
         replace e1 := (hb2.cell (p := ⟨g2, o2 + j * 3 + 1, none⟩) hg2).trans e1
         replace e2 := (hb2.cell (p := ⟨g2, o2 + j * 3 + 2, none⟩) hg2).trans e2
         have hg2' : g2 < wr.heap.size := by omega
         have hyl := flat_le1 keyB hy
         have hye : (keyB y).length = y.key.size + 1 + (valsB y.vals).length := by
          unfold keyB
          simp only [List.length_append, List.length_cons, Array.length_toList]
          show y.key.size + 1 + _ = _
          omega
         have i2 : (j : Int) < (x.keys.length : Int) := by omega
         have i3 : ¬ 9223372036854775807 < 1 + y.key.size := by omega
         have i3' : ¬ 9223372036854775807 < y.key.size + 1 := by omega
         have HI2 := hQ0 hI2
         have HB2 := hQ0 hb2
         have hvy := hvl y (List.mem_of_getElem? hy)
         have HRG := hQ0 (hrg y (List.mem_of_getElem? hy))
         have HWb : Hid (WB w.heap.size (textB (l.take k) ++ headB x ++ (x.keys.take j).flatMap keyB) (wr.alloc (.cells #[.string y.key, .slice C2 y.vals.length q2, .int .i64 y.at_] 120))) := hQ0 (isb_below HW2.out ((Below.refl wr.heap.size wr).alloc (Nat.le_refl _) _) (Nat.le_refl _))
         have HK2 := hQ0 (CX.new wr #[.string y.key, .slice C2 y.vals.length q2, .int .i64 y.at_] 120)
         clear hI2 hb2
         go_wp2_with (go_at_call 114; refine (wr_any _ _ ((⟨#[32]⟩ : ByteArray) ++ y.key) _ HWb.out (by rw [str_addsize]; simp only [List.length_append]; omega) (by simp; omega)).mono ?_; rintro e w4 ⟨rfl, hw4, hb4, hk4⟩; obtain ⟨f0, f1, f2, fz, fl⟩ := (HK2.out.kept hk4 (by omega) (by decide)).c3)
         rw [str_add] at hw4
         have hb5 : Below w.heap.size w w4 := (HB2.out.alloc hz2 _).trans hb4
         have hs5 : w.heap.size + 1 ≤ w4.heap.size := by have := hb4.size; simp at this; omega
         have HW5 := hQ0 hw4
         clear hw4 hb4 hk4 HK2 HWb
         go_loopw [44] (fun t wr => ∃ i : Nat, i ≤ y.vals.length ∧ t = .int .i64 i ∧ w.heap.size + 1 ≤ wr.heap.size ∧ Below w.heap.size w wr ∧ Hid (WB w.heap.size (textB (l.take k) ++ headB x ++ (x.keys.take j).flatMap keyB ++ 32 :: y.key.data.toList ++ valsB (y.vals.take i)) wr)) (fun t _ => y.vals.length - (intOf t).toNat)
         case atStart => exact ⟨0, by omega, rfl, hs5, hb5, hQ0 (by simpa [valsB] using HW5.out)⟩
         case round =>
          obtain ⟨i, hi, rfl, hs6, hb6, HW6⟩ := hrel
          have hz6 := hb6.size
          by_cases hil : i < y.vals.length
          · obtain ⟨n, hn⟩ : ∃ n, y.vals[i]? = some n := ⟨y.vals[i], by simp⟩
            obtain ⟨g3, o3, rfl, hg3, r0⟩ := HI2.out i n hn
            replace r0 := (hb6.cell (p := ⟨g3, o3 + i, none⟩) hg3).trans r0
            have hg3' : g3 < wr.heap.size := by omega
            have i4 : (i : Int) < (y.vals.length : Int) := by omega
            have hnl := flat_le1 (fun n => 32 :: Lib.itoa n) hn
            simp only [List.length_cons] at hnl
            have hvb : (valsB y.vals).length = (y.vals.flatMap fun n => 32 :: Lib.itoa n).length := rfl
            have hvb2 : (valsB (y.vals.take i)).length = ((y.vals.take i).flatMap fun n => 32 :: Lib.itoa n).length := rfl
            obtain ⟨n0, n1⟩ := HRG.out n (List.mem_of_getElem? hn)
            obtain ⟨N, hN⟩ : ∃ N : ByteArray, N = ⟨(Lib.itoa n).toArray⟩ := ⟨_, rfl⟩
            have hNs : N.size = (Lib.itoa n).length := by rw [hN]; simp [ByteArray.size]
            have HNe := hQ0 hN
            have i5 : ¬ 9223372036854775807 < 1 + N.size := by omega
            have i5' : ¬ 9223372036854775807 < N.size + 1 := by omega
            have KI := fun (W : World) (h : Tabs W) => itoa_any n n0 n1 W h
            rw [← hN] at KI
            have HB6 := hQ0 hb6
            clear hN hb6 n0 n1
            go_wp2_with (first | (go_at_call 115; refine (KI _ (HT.out.below HB6.out h3)).mono ?_; rintro e w7 ⟨rfl, hb7⟩) | (go_at_call 114; refine (wr_any _ _ ((⟨#[32]⟩ : ByteArray) ++ N) _ (isb_below HW6.out hb7 (Nat.le_refl _)) (by rw [str_addsize]; simp only [List.length_append, List.length_cons, Array.length_toList]; show _ + (y.key.size + 1) + _ + _ ≤ _; omega) (by have := hb7.size; omega)).mono ?_; rintro e w8 ⟨rfl, hw8, hb8, hk8⟩))
            have hNd : N.data.toList = Lib.itoa n := by rw [HNe.out]
            have hva : valsB (y.vals.take (i + 1)) = valsB (y.vals.take i) ++ 32 :: Lib.itoa n := flat_take (fun n => 32 :: Lib.itoa n) hn
            rw [str_add, hNd] at hw8
            have hb9 := (HB6.out.trans (hb7.mono hz6)).trans hb8
            have hs9 : w.heap.size + 1 ≤ w8.heap.size := by have := hb7.size; have := hb8.size; omega
            go_roundw
            case rel => exact ⟨i + 1, by omega, by go_num, hs9, hb9, hQ0 (by rw [hva, ← List.append_assoc]; exact hw8)⟩
            case measure => simp [intOf]; omega
          · obtain rfl : i = y.vals.length := by omega
            rw [List.take_length] at HW6
            go_wp2_with fail
            go_roundw
            case rel => exact ⟨j + 1, by omega, by go_num, hs6, hb6, hQ0 (by rw [flat_take keyB hy, show keyB y = 32 :: y.key.data.toList ++ valsB y.vals from rfl, ← List.append_assoc, ← List.append_assoc]; exact HW6.out)⟩
            case measure => simp [intOf]; omega
       · obtain rfl : j = x.keys.length := by omega
         rw [List.take_length] at HW2
         have HB2 := hQ0 hb2
         clear hb2
         go_wp2_with (go_at_call 114; refine (wr_any _ _ _ _ HW2.out (by simp only [List.length_append]; show _ + 2 ≤ _; omega) (by omega)).mono ?_; rintro e w4 ⟨rfl, hw4, hb4, hk4⟩)
         have hb5 := HB2.out.trans hb4
         have hs5 : w.heap.size + 1 ≤ w4.heap.size := by have := hb4.size; omega
         go_roundw
         case rel => exact ⟨k + 1, by omega, by go_num, hs5, hb5, hQ0 (by show WB _ ((l.take (k + 1)).flatMap itemB) w4; rw [flat_take itemB hx, show itemB x = headB x ++ x.keys.flatMap keyB ++ [59, 10] from rfl, ← List.append_assoc, ← List.append_assoc]; exact hw4)⟩
         case measure => simp [intOf]; omega
    · have b1 : (x.name.toList == []) = false := txt_neL hn
      have hh : headB x = x.word.data.toList ++ 32 :: x.name.data.toList := by unfold headB; rw [if_neg hn]
      have hhl : (headB x).length = x.word.size + (x.name.size + 1) := by
       have e1 : x.word.data.toList.length = x.word.size := Array.length_toList
       have e2 : x.name.data.toList.length = x.name.size := Array.length_toList
       rw [hh, List.length_append, List.length_cons, e1, e2]
      have i9 : ¬ 9223372036854775807 < 1 + x.name.size := by omega
      have i9' : ¬ 9223372036854775807 < x.name.size + 1 := by omega
      clear hn
      go_wp2_with (first | (go_at_call 114; have hq := hw1; refine (wr_any _ _ ((⟨#[32]⟩ : ByteArray) ++ x.name) _ hw1 (by have e1 : x.word.data.toList.length = x.word.size := Array.length_toList; rw [str_addsize, List.length_append, e1]; omega) (by have := hb1.size; simp at this; omega)).mono ?_; rintro e w2 ⟨rfl, hw2, hb2, hk2⟩; obtain ⟨s0, s1, s2, s3, sz, sl⟩ := ((HX.out.kept hk1 (by omega) (by decide)).kept hk2 (by omega) (by decide)).c4) | (go_at_call 114; refine (wr_any _ _ x.word _ HWa.out (by omega) (by simp; omega)).mono ?_; rintro e w1 ⟨rfl, hw1, hb1, hk1⟩; obtain ⟨d0, d1, d2, d3, dz, dl⟩ := (HX.out.kept hk1 (by omega) (by decide)).c4))
      rw [str_add, List.append_assoc, ← hh] at hw2
      have hbm : Below w.heap.size w w2 := ((HB.out.alloc hz_wr _).trans hb1).trans hb2
      have hsm : w.heap.size + 1 ≤ w2.heap.size := by have := hb1.size; have := hb2.size; simp at *; omega
      have HM := hQ0 hw2
      clear hw1 hb1 hk1 hw2 hb2 hk2 HX HWa d0 d1 d2 d3 dz dl s0 s1 s2 s3 sz sl
      have hz_m := hbm.size
      go_loopw [33] (fun t wr => ∃ j : Nat, j ≤ x.keys.length ∧ t = .int .i64 j ∧ w.heap.size + 1 ≤ wr.heap.size ∧ Below w.heap.size w wr ∧ Hid (WB w.heap.size (textB (l.take k) ++ headB x ++ (x.keys.take j).flatMap keyB) wr)) (fun t _ => x.keys.length - (intOf t).toNat)
      case atStart => exact ⟨0, by omega, rfl, hsm, hbm, hQ0 (by simpa using HM.out)⟩
      case round =>
       obtain ⟨j, hj, rfl, hs2, hb2, HW2⟩ := hrel
       have hz2 := hb2.size
       by_cases hjl : j < x.keys.length
       · obtain ⟨y, hy⟩ : ∃ y, x.keys[j]? = some y := ⟨x.keys[j], by simp⟩
         obtain ⟨g2, o2, C2, q2, rfl, hg2, ⟨e0, e1, e2⟩, hI2⟩ := HI.out j y hy
         replace e0 := (hb2.cell (p := ⟨g2, o2 + j * 3, none⟩) hg2).trans e0
         replace e1 := (hb2.cell (p := ⟨g2, o2 + j * 3 + 1, none⟩) hg2).trans e1
         replace e2 := (hb2.cell (p := ⟨g2, o2 + j * 3 + 2, none⟩) hg2).trans e2
         have hg2' : g2 < wr.heap.size := by omega
         have hyl := flat_le1 keyB hy
         have hye : (keyB y).length = y.key.size + 1 + (valsB y.vals).length := by
          unfold keyB
          simp only [List.length_append, List.length_cons, Array.length_toList]
          show y.key.size + 1 + _ = _
          omega
         have i2 : (j : Int) < (x.keys.length : Int) := by omega
         have i3 : ¬ 9223372036854775807 < 1 + y.key.size := by omega
         have i3' : ¬ 9223372036854775807 < y.key.size + 1 := by omega
         have HI2 := hQ0 hI2
         have HB2 := hQ0 hb2
         have hvy := hvl y (List.mem_of_getElem? hy)
         have HRG := hQ0 (hrg y (List.mem_of_getElem? hy))
         have HWb : Hid (WB w.heap.size (textB (l.take k) ++ headB x ++ (x.keys.take j).flatMap keyB) (wr.alloc (.cells #[.string y.key, .slice C2 y.vals.length q2, .int .i64 y.at_] 120))) := hQ0 (isb_below HW2.out ((Below.refl wr.heap.size wr).alloc (Nat.le_refl _) _) (Nat.le_refl _))
         have HK2 := hQ0 (CX.new wr #[.string y.key, .slice C2 y.vals.length q2, .int .i64 y.at_] 120)
         clear hI2 hb2
         go_wp2_with (go_at_call 114; refine (wr_any _ _ ((⟨#[32]⟩ : ByteArray) ++ y.key) _ HWb.out (by rw [str_addsize]; simp only [List.length_append]; omega) (by simp; omega)).mono ?_; rintro e w4 ⟨rfl, hw4, hb4, hk4⟩; obtain ⟨f0, f1, f2, fz, fl⟩ := (HK2.out.kept hk4 (by omega) (by decide)).c3)
         rw [str_add] at hw4
         have hb5 : Below w.heap.size w w4 := (HB2.out.alloc hz2 _).trans hb4
         have hs5 : w.heap.size + 1 ≤ w4.heap.size := by have := hb4.size; simp at this; omega
         have HW5 := hQ0 hw4
         clear hw4 hb4 hk4 HK2 HWb
         go_loopw [44] (fun t wr => ∃ i : Nat, i ≤ y.vals.length ∧ t = .int .i64 i ∧ w.heap.size + 1 ≤ wr.heap.size ∧ Below w.heap.size w wr ∧ Hid (WB w.heap.size (textB (l.take k) ++ headB x ++ (x.keys.take j).flatMap keyB ++ 32 :: y.key.data.toList ++ valsB (y.vals.take i)) wr)) (fun t _ => y.vals.length - (intOf t).toNat)
         case atStart => exact ⟨0, by omega, rfl, hs5, hb5, hQ0 (by simpa [valsB] using HW5.out)⟩
         case round =>
          obtain ⟨i, hi, rfl, hs6, hb6, HW6⟩ := hrel
          have hz6 := hb6.size
          by_cases hil : i < y.vals.length
          · obtain ⟨n, hn⟩ : ∃ n, y.vals[i]? = some n := ⟨y.vals[i], by simp⟩
            obtain ⟨g3, o3, rfl, hg3, r0⟩ := HI2.out i n hn
            replace r0 := (hb6.cell (p := ⟨g3, o3 + i, none⟩) hg3).trans r0
            have hg3' : g3 < wr.heap.size := by omega
            have i4 : (i : Int) < (y.vals.length : Int) := by omega
            have hnl := flat_le1 (fun n => 32 :: Lib.itoa n) hn
            simp only [List.length_cons] at hnl
            have hvb : (valsB y.vals).length = (y.vals.flatMap fun n => 32 :: Lib.itoa n).length := rfl
            have hvb2 : (valsB (y.vals.take i)).length = ((y.vals.take i).flatMap fun n => 32 :: Lib.itoa n).length := rfl
            obtain ⟨n0, n1⟩ := HRG.out n (List.mem_of_getElem? hn)
            obtain ⟨N, hN⟩ : ∃ N : ByteArray, N = ⟨(Lib.itoa n).toArray⟩ := ⟨_, rfl⟩
            have hNs : N.size = (Lib.itoa n).length := by rw [hN]; simp [ByteArray.size]
            have HNe := hQ0 hN
            have i5 : ¬ 9223372036854775807 < 1 + N.size := by omega
            have i5' : ¬ 9223372036854775807 < N.size + 1 := by omega
            have KI := fun (W : World) (h : Tabs W) => itoa_any n n0 n1 W h
            rw [← hN] at KI
            have HB6 := hQ0 hb6
            clear hN hb6 n0 n1
            go_wp2_with (first | (go_at_call 115; refine (KI _ (HT.out.below HB6.out h3)).mono ?_; rintro e w7 ⟨rfl, hb7⟩) | (go_at_call 114; refine (wr_any _ _ ((⟨#[32]⟩ : ByteArray) ++ N) _ (isb_below HW6.out hb7 (Nat.le_refl _)) (by rw [str_addsize]; simp only [List.length_append, List.length_cons, Array.length_toList]; show _ + (y.key.size + 1) + _ + _ ≤ _; omega) (by have := hb7.size; omega)).mono ?_; rintro e w8 ⟨rfl, hw8, hb8, hk8⟩))
            have hNd : N.data.toList = Lib.itoa n := by rw [HNe.out]
            have hva : valsB (y.vals.take (i + 1)) = valsB (y.vals.take i) ++ 32 :: Lib.itoa n := flat_take (fun n => 32 :: Lib.itoa n) hn
            rw [str_add, hNd] at hw8
            have hb9 := (HB6.out.trans (hb7.mono hz6)).trans hb8
            have hs9 : w.heap.size + 1 ≤ w8.heap.size := by have := hb7.size; have := hb8.size; omega
            go_roundw
            case rel => exact ⟨i + 1, by omega, by go_num, hs9, hb9, hQ0 (by rw [hva, ← List.append_assoc]; exact hw8)⟩
            case measure => simp [intOf]; omega
          · obtain rfl : i = y.vals.length := by omega
            rw [List.take_length] at HW6
            go_wp2_with fail
            go_roundw
            case rel => exact ⟨j + 1, by omega, by go_num, hs6, hb6, hQ0 (by rw [flat_take keyB hy, show keyB y = 32 :: y.key.data.toList ++ valsB y.vals from rfl, ← List.append_assoc, ← List.append_assoc]; exact HW6.out)⟩
            case measure => simp [intOf]; omega
       · obtain rfl : j = x.keys.length := by omega
         rw [List.take_length] at HW2
         have HB2 := hQ0 hb2
         clear hb2
         go_wp2_with (go_at_call 114; refine (wr_any _ _ _ _ HW2.out (by simp only [List.length_append]; show _ + 2 ≤ _; omega) (by omega)).mono ?_; rintro e w4 ⟨rfl, hw4, hb4, hk4⟩)
         have hb5 := HB2.out.trans hb4
         have hs5 : w.heap.size + 1 ≤ w4.heap.size := by have := hb4.size; omega
         go_roundw
         case rel => exact ⟨k + 1, by omega, by go_num, hs5, hb5, hQ0 (by show WB _ ((l.take (k + 1)).flatMap itemB) w4; rw [flat_take itemB hx, show itemB x = headB x ++ x.keys.flatMap keyB ++ [59, 10] from rfl, ← List.append_assoc, ← List.append_assoc]; exact hw4)⟩
         case measure => simp [intOf]; omega
  · obtain rfl : k = l.length := by omega
    rw [List.take_length] at HW
    have HB := hQ0 hb_wr
    have hsz := HS.out
    obtain ⟨Tx, hTx⟩ : ∃ Tx : ByteArray, Tx = ⟨(textB l).toArray⟩ := ⟨_, rfl⟩
    have hTs : Tx.size ≤ 1000000000 := by rw [hTx]; exact hsz
    have KP := fun (W : World) (h : Tabs W) => parse_any Tx W (by unfold maxLen; omega) h
    obtain ⟨hP1, hP2⟩ := parseR_ok Tx okX (fun l' x r h1 h2 h3 => by
     have := scanR_len Tx
     have h4 := (itemF_len h3).2
     refine ⟨by omega, fun k hk => ?_⟩
     have := itemF_two h3 k hk
     omega)
    have hR : fmtR l = if (parseR Tx).2.1 ≠ 0 ∨ eqL eqX (parseR Tx).1 l = false then (⟨#[]⟩, false) else (Tx, true) := by rw [hTx]; rfl
    obtain ⟨⟨Lp, er, pp⟩, hPR⟩ : ∃ R, R = parseR Tx := ⟨_, rfl⟩
    rw [← hPR] at KP hP1 hP2 hR
    simp only at hP1 hP2 hR KP
    have HP2 := hQ0 hP2
    have HTX := hQ0 hTx
    have HRf := hQ0 hR
    clear hP2 hPR hsz hR hb_wr hTx
    by_cases her : er = 0
    · subst her
      cases hEQ : eqL eqX Lp l
      · have hres := hQ0 (HRf.out.trans (if_pos (.inr hEQ)))
        go_wp2_with (first | (go_at_call 116; refine (Tryz.Builder_String_any_f w.heap.size w.heap.size (textB l) _ (Lib.IsBuilderF.of HW.out) (by omega)).mono ?_; rintro e w1 ⟨rfl, hf1, hb1⟩; have hz1 := hb1.size; rw [← HTX.out]) | (go_at_call 39; refine (KP _ (HT.out.below (HB.out.trans hb1) h3)).mono ?_; rintro e w2 ⟨hb2, A2, c2, rfl, hx2⟩; have hz2 := hb2.size) | (go_at_call 117; refine (eqfx_any Lp l A2 A c2 c _ hx2.at (HA.out.below (HB.out.trans hb1 |>.trans (hb2.mono (by omega))) (Nat.le_refl _)) (by omega) (by omega) HP2.out (fun x hx => (HK.out x hx).1)).mono ?_; rintro e w3 ⟨rfl, hb3⟩; have hz3 := hb3.size; rw [hEQ]))
        go_ret2
        exact ⟨by rw [hres.out]; rfl, ((HB.out.trans hb1).trans (hb2.mono (by omega))).trans (hb3.mono (by omega))⟩
      · have hres := hQ0 (HRf.out.trans (if_neg (by simp [hEQ])))
        go_wp2_with (first | (go_at_call 116; refine (Tryz.Builder_String_any_f w.heap.size w.heap.size (textB l) _ (Lib.IsBuilderF.of HW.out) (by omega)).mono ?_; rintro e w1 ⟨rfl, hf1, hb1⟩; have hz1 := hb1.size; rw [← HTX.out]) | (go_at_call 39; refine (KP _ (HT.out.below (HB.out.trans hb1) h3)).mono ?_; rintro e w2 ⟨hb2, A2, c2, rfl, hx2⟩; have hz2 := hb2.size) | (go_at_call 117; refine (eqfx_any Lp l A2 A c2 c _ hx2.at (HA.out.below (HB.out.trans hb1 |>.trans (hb2.mono (by omega))) (Nat.le_refl _)) (by omega) (by omega) HP2.out (fun x hx => (HK.out x hx).1)).mono ?_; rintro e w3 ⟨rfl, hb3⟩; have hz3 := hb3.size; rw [hEQ]) | (go_at_call 116; refine (Tryz.Builder_String_any_f w.heap.size w.heap.size (textB l) _ (isbF_below (isbF_below hf1 hb2 (Nat.le_refl _)) hb3 (Nat.le_refl _)) (by omega)).mono ?_; rintro e w4 ⟨rfl, hf4, hb4⟩; rw [← HTX.out]))
        go_ret2
        exact ⟨by rw [hres.out]; rfl, (((HB.out.trans hb1).trans (hb2.mono (by omega))).trans (hb3.mono (by omega))).trans hb4⟩
    · have hres := hQ0 (HRf.out.trans (if_pos (.inl her)))
      go_wp2_with (first | (go_at_call 116; refine (Tryz.Builder_String_any_f w.heap.size w.heap.size (textB l) _ (Lib.IsBuilderF.of HW.out) (by omega)).mono ?_; rintro e w1 ⟨rfl, hf1, hb1⟩; have hz1 := hb1.size; rw [← HTX.out]) | (go_at_call 39; refine (KP _ (HT.out.below (HB.out.trans hb1) h3)).mono ?_; rintro e w2 ⟨hb2, A2, c2, rfl, hx2⟩; have hz2 := hb2.size))
      go_ret2
      exact ⟨by rw [hres.out]; rfl, (HB.out.trans hb1).trans (hb2.mono (by omega))⟩
theorem own_shrink {w : World} {base g c n m size : Nat} {e : TypeId} {xs ys : List Value} (h : w.ownsRow base e size (.slice (some ⟨g, 0, none⟩) n c) n (xs ++ ys)) (hx : xs.length = m * size) (hm : m ≤ n) : w.ownsRow base e size (.slice (some ⟨g, 0, none⟩) m c) m xs := by
 obtain ⟨h1, h2⟩ := h
 rcases h2 with ⟨hv, _⟩ | ⟨g', cap, cur, hv, hb, hh, hc, hcm, hcs, ht⟩
 · cases hv
 · simp only [Value.slice.injEq, Option.some.injEq, Addr.mk.injEq, and_true, true_and] at hv
   obtain ⟨rfl, rfl⟩ := hv
   refine ⟨hx, .inr ⟨g, c, cur, rfl, hb, hh, by omega, hcm, hcs, ?_⟩⟩
   have e2 : (cur.toList.take (n * size)).take (m * size) = xs := by rw [ht, List.take_append_of_le_length (by omega), List.take_of_length_le (by omega)]
   rw [List.take_take, Nat.min_eq_left (Nat.mul_le_mul_right _ hm)] at e2
   exact e2
def StAny (word name : ByteArray) (l : List KP) (g base : Nat) (w : World) (e : Ending) (w' : World) : Prop := ∃ c, e = .returned (.agg #[.string word, .string name, .slice (some ⟨g, 0, none⟩) l.length c, .int .i64 0]) ∧ But g w w' ∧ w'.ownsRow base 120 3 (.slice (some ⟨g, 0, none⟩) l.length c) l.length (l.flatMap kpC)
set_option maxRecDepth 100000 in
set_option maxHeartbeats 2000000 in
theorem st_oneO (word name : ByteArray) (pre post : List KP) (p0 : KP) (g cap base N : Nat) (w : World) (hN : N = pre.length + (post.length + 1)) (hR : w.ownsRow base 120 3 (.slice (some ⟨g, 0, none⟩) N cap) N ((pre ++ p0 :: post).flatMap kpC)) (hl : N ≤ 1000) (hne : ∀ p ∈ pre, ¬ p.1.key = ⟨#[]⟩) (hne2 : ∀ p ∈ post, ¬ p.1.key = ⟨#[]⟩) (h0 : p0.1.key = ⟨#[]⟩) :
  Calls Tryz.prog 57 #[.string word, .string name, .slice (some ⟨g, 0, none⟩) N cap] w (StAny word name (pre ++ post) g base w) := by
 have hg : g < w.heap.size := (World.ownsRow.lt hR g rfl).2
 have hbg : base ≤ g := (World.ownsRow.lt hR g rfl).1
 have K := del_one pre post p0 g cap base N _ hN (own_below hR ((Below.refl w.heap.size w).alloc (Nat.le_refl _) (.cells #[.string ⟨#[]⟩, .string ⟨#[]⟩, .slice none 0 0, .int .i64 0] 97)) (Nat.le_refl _)) hl hne hne2 h0
 have HK := hQ0 K
 have HN := hQ0 hN
 clear K hne hne2 h0 hN hR
 go_enter Tryz.func57, Tryz.ntmps57; (try simp only [List.append_eq, List.cons_append, List.nil_append])
 go_wp2_with fail
 (go_at_call 112; refine HK.out.mono ?_; rintro e w1 ⟨rfl, hb1, hR1⟩)
 have hX := (BoxAt.new w [.string ⟨#[]⟩, .string ⟨#[]⟩, .slice none 0 0, .int .i64 0] 97).block hb1.size (hb1.block _ (by simp) (by omega))
 have x0 := hX.c 0 _ rfl
 have x1 := hX.c 1 _ rfl
 have x2 := hX.c 2 _ rfl
 have x3 := hX.c 3 _ rfl
 have xz := hX.fz
 have xl := hX.lt
 have hz1 := hb1.size
 simp at hz1
 have HB1 : Hid (But g w w1) := hQ0 (((But.refl g w).alloc _).trans hb1)
 have HR1 := hQ0 hR1
 clear hX HK hb1 hR1
 go_wp2_with fail
 refine bodyPost_ret (v := .agg #[.string word, .string name, .slice (some ⟨g, 0, none⟩) (pre.length + post.length) cap, .int .i64 0]) (by simp only [results, Tryz.results57]; go_simp) rfl ?_
 have hb : But g w ((((w1.setCell ⟨w.heap.size, 0, none⟩ (.string word)).setCell ⟨w.heap.size, 1, none⟩ (.string name)).setCell ⟨w.heap.size, 2, none⟩ (.slice (some ⟨g, 0, none⟩) (pre.length + post.length) cap)).setCell ⟨w.heap.size, 3, none⟩ (.int .i64 0)) := (((HB1.out.set (p := ⟨w.heap.size, 0, none⟩) _ (.inr (Nat.le_refl _))).set (p := ⟨w.heap.size, 1, none⟩) _ (.inr (Nat.le_refl _))).set (p := ⟨w.heap.size, 2, none⟩) _ (.inr (Nat.le_refl _))).set (p := ⟨w.heap.size, 3, none⟩) _ (.inr (Nat.le_refl _))
 refine ⟨cap, by rw [List.length_append], hb, ?_⟩
 have hrow := ownsRow_block (w' := ((((w1.setCell ⟨w.heap.size, 0, none⟩ (.string word)).setCell ⟨w.heap.size, 1, none⟩ (.string name)).setCell ⟨w.heap.size, 2, none⟩ (.slice (some ⟨g, 0, none⟩) (pre.length + post.length) cap)).setCell ⟨w.heap.size, 3, none⟩ (.int .i64 0))) HR1.out (fun b hb => by
  simp only [Value.ownBlock, Option.some.injEq] at hb
  subst hb
  rw [Below.heap_setCell _ _ _ _ (by simp only; omega), Below.heap_setCell _ _ _ _ (by simp only; omega), Below.heap_setCell _ _ _ _ (by simp only; omega), Below.heap_setCell _ _ _ _ (by simp only; omega)])
 have e : (pre ++ (post ++ [zKP])).flatMap kpC = (pre ++ post).flatMap kpC ++ kpC zKP := by simp
 rw [e] at hrow
 exact own_shrink hrow (flatK _) (by have := HN.out; simp; omega)
theorem st_any (word name : ByteArray) (pre post : List KP) (p0 : KP) (g base N : Nat) (w : World) (hN : N = pre.length + (post.length + 1)) (hR : w.ownsRow base 120 3 (.slice (some ⟨g, 0, none⟩) N N) N ((pre ++ p0 :: post).flatMap kpC)) (hl : N ≤ 1000) (hne : ∀ p ∈ pre, ¬ p.1.key = ⟨#[]⟩) (hne2 : ∀ p ∈ post, ¬ p.1.key = ⟨#[]⟩) :
  Calls Tryz.prog 57 #[.string word, .string name, .slice (some ⟨g, 0, none⟩) N N] w (StAny word name (pre ++ (if p0.1.key = ⟨#[]⟩ then post else p0 :: post)) g base w) := by
 by_cases h0 : p0.1.key = ⟨#[]⟩
 · rw [if_pos h0]
   exact st_oneO word name pre post p0 g N base N w hN hR hl hne hne2 h0
 · rw [if_neg h0]
   have hlen : (pre ++ p0 :: post).length = N := by rw [hN]; simp
   have hA : RowsAt 3 kpC w (some ⟨g, 0, none⟩) (pre ++ p0 :: post) := rows_own (n := 3) (f := kpC) (by decide) (fun _ => rfl) (by rw [hlen]; exact hR)
   have K := st_noneB word name (pre ++ p0 :: post) g N w hA (by omega) (fun p hp => by
    rcases List.mem_append.1 hp with h | h
    · exact hne p h
    · rcases List.mem_cons.1 h with rfl | h
      · exact h0
      · exact hne2 p h)
   rw [hlen] at K
   refine K.mono ?_
   rintro e w' ⟨rfl, hb⟩
   refine ⟨N, by rw [hlen], But.of_below hb (Nat.le_refl _), ?_⟩
   rw [hlen]
   exact own_below hR hb (Nat.le_refl _)
theorem own_but_ty {W W' : World} {base size n g : Nat} {e e2 : TypeId} {v : Value} {xs : List Value} {cs : Array Value} (h : W.ownsRow base e size v n xs) (hg : W.heap[g]? = some (.cells cs e2)) (hne : e ≠ e2) (hb : But g W W') : W'.ownsRow base e size v n xs := by
 refine ownsRow_block h fun b hv => hb.block b (h.lt b hv).2 (fun eb => ?_)
 subst eb
 rcases h.2 with ⟨rfl, _⟩ | ⟨g', cap, cur, rfl, _, hh, _⟩
 · cases hv
 · simp only [Value.ownBlock, Option.some.injEq] at hv
   subst hv
   rw [hg] at hh
   simp only [Option.some.injEq, Obj.cells.injEq] at hh
   exact hne hh.2.1.symm
theorem SG.but {N : Nat} {W0 W W' : World} {G : List (Nat × Obj)} {g : Nat} {ob : Obj} (h : SG N W0 ((g, ob) :: G) W) (hb : But g W W') (hG : ∀ p ∈ G, p.1 ≠ g) : SG N W0 G W' := by
 have hg := (h.2 _ (List.mem_cons_self ..)).1
 refine ⟨⟨Nat.le_trans h.1.1 hb.size, h.1.2.trans (hb.toBelow hg h.1.1)⟩, fun p hp => ?_⟩
 have hp2 := h.2 p (List.mem_cons_of_mem _ hp)
 exact ⟨hp2.1, (hb.block p.1 (Array.getElem?_eq_some_iff.1 hp2.2).1 (hG p hp)).trans hp2.2⟩
theorem cl_ksown (N : Nat) (A : Option Addr) (c : Nat) (l : List KV) : Cl (fun W => KsOwn W N 120 A c l) := fun _ _ h hb => h.below hb (Nat.le_refl _)
theorem ksown_any {W W' : World} {base g : Nat} {word name : ByteArray} {pre post : List KP} {p0 : KP} {cs : Array Value} {e : Ending} (hs : StAny word name (pre ++ (if p0.1.key = ⟨#[]⟩ then post else p0 :: post)) g base W e W') (hg : W.heap[g]? = some (.cells cs 120)) (hv : ∀ p ∈ pre ++ p0 :: post, OwnI W base p.2.1 p.2.2 p.1.vals) :
  ∃ c m, m = (pre ++ (if p0.1.key = ⟨#[]⟩ then post else p0 :: post)).length ∧ e = .returned (.agg #[.string word, .string name, .slice (some ⟨g, 0, none⟩) m c, .int .i64 0]) ∧ But g W W' ∧ KsOwn W' base 120 (some ⟨g, 0, none⟩) c ((pre ++ (if p0.1.key = ⟨#[]⟩ then post else p0 :: post)).map (·.1)) := by
 obtain ⟨c, h1, h2, h3⟩ := hs
 refine ⟨c, _, rfl, h1, h2, _, rfl, by rw [List.length_map]; exact h3, fun p hp => ?_⟩
 have hp2 : p ∈ pre ++ p0 :: post := by
  rcases List.mem_append.1 hp with h | h
  · exact List.mem_append.2 (.inl h)
  · split at h
    · exact List.mem_append.2 (.inr (List.mem_cons_of_mem _ h))
    · exact List.mem_append.2 (.inr h)
 exact own_but_ty (hv p hp2) hg (by decide) h2
section
variable {P : Program} {ops : Array Oper} {md : Region.Mode} {N : Nat} {W0 : World}
structure OnlyI (md : Region.Mode) (ops : Array Oper) (n : List Nat) (i f : Nat) (oi : Oper) (listed : Array Bool) : Prop where
  dc : DC md ops listed
  rd : i ∈ Region.ready md ops listed
  cnt : ((List.range ops.size).filter fun j => !n.contains j && !(listed.getD j true)).length = f + 1
  dep : ∀ j oj, ops[j]? = some oj → listed.getD j true = false → j ≠ i → (n.contains j = false ∧ isFresh oj = true ∧ oi.apart ops oj = true) ∨ waitsJ md ops ops.size j i = true
theorem onlyI_ready {n : List Nat} {i f j : Nat} {oi : Oper} {listed : Array Bool} (h : OnlyI md ops n i f oi listed) (hj : j ∈ Region.ready md ops listed) (hji : j ≠ i) : ∃ oj, ops[j]? = some oj ∧ n.contains j = false ∧ isFresh oj = true ∧ oi.apart ops oj = true := by
 obtain ⟨hjun, oj, hoj, hw⟩ := mem_ready.1 hj
 obtain ⟨hiun, oi', hoi, _⟩ := mem_ready.1 h.rd
 rcases h.dep j oj hoj hjun hji with ⟨h1, h2, h3⟩ | h1
 · exact ⟨oj, hoj, h1, h2, h3⟩
 · exfalso
   have := waits_spec h.dc _ j i h1 (fun o ho e he hb => by
    rw [hoj] at ho
    cases ho
    exact hw e he hb)
   have hlt : i < listed.size ∨ listed.size ≤ i := by omega
   rcases hlt with hlt | hlt
   · simp [Array.getD_eq_getD_getElem?, Array.getElem?_eq_getElem hlt] at this hiun
     rw [this] at hiun
     cases hiun
   · simp [Array.getD_eq_getD_getElem?, Array.getElem?_eq_none hlt] at hiun
theorem onlyI_set {n : List Nat} {i f j : Nat} {oi : Oper} {listed : Array Bool} (h : OnlyI md ops n i (f + 1) oi listed) (hj : j ∈ Region.ready md ops listed) (hji : j ≠ i) (hn : n.contains j = false) : OnlyI md ops n i f oi (listed.setIfInBounds j true) := by
 obtain ⟨hjun, oj, hoj, hw⟩ := mem_ready.1 hj
 have hjs : j < ops.size := (Array.getElem?_eq_some_iff.1 hoj).1
 have hjl : j < listed.size := by
  rcases Nat.lt_or_ge j listed.size with h | h
  · exact h
  · simp [Array.getD_eq_getD_getElem?, Array.getElem?_eq_none h] at hjun
 have hg : ∀ k, (listed.setIfInBounds j true).getD k true = if k = j then true else listed.getD k true := fun k => by
  simp only [Array.getD_eq_getD_getElem?, Array.getElem?_setIfInBounds]
  by_cases e : j = k
  · subst e; simp [hjl]
  · rw [if_neg e, if_neg (fun q => e q.symm)]
 refine ⟨h.dc.set hj, ready_mono h.rd (fun e => hji e.symm), ?_, fun k ok hok hkun hki => ?_⟩
 · have e1 : (List.range ops.size).filter (fun k => !n.contains k && !((listed.setIfInBounds j true).getD k true)) = ((List.range ops.size).filter (fun k => !n.contains k && !(listed.getD k true))).filter (fun k => k != j) := by
    rw [List.filter_filter]
    apply List.filter_congr
    intro k _
    rw [hg]
    by_cases e : k = j
    · simp [e]
    · simp [e]
   have hnd : ((List.range ops.size).filter (fun k => !n.contains k && !(listed.getD k true))).Nodup := List.nodup_range.filter _
   have hm : j ∈ (List.range ops.size).filter (fun k => !n.contains k && !(listed.getD k true)) := by
    rw [List.mem_filter, hn, hjun]
    exact ⟨List.mem_range.2 hjs, rfl⟩
   rw [e1, ← hnd.erase_eq_filter, List.length_erase_of_mem hm, h.cnt]
   omega
 · rw [hg] at hkun
   by_cases e : k = j
   · simp [e] at hkun
   · rw [if_neg e] at hkun
     exact h.dep k ok hok hkun hki
theorem onlyQ_of {n : List Nat} {i : Nat} {oi : Oper} (hi : ops[i]? = some oi) (hin : n.contains i = false) : ∀ (f : Nat) (listed : Array Bool), OnlyI md ops n i f oi listed → onlyQ md ops i f listed = true
 | 0, listed, h => by
  unfold onlyQ
  rw [decide_eq_true_eq]
  have hall : ∀ j ∈ Region.ready md ops listed, j = i := fun j hj => by
   rcases Decidable.em (j = i) with e | e
   · exact e
   · exfalso
     obtain ⟨oj, hoj, h1, _, _⟩ := onlyI_ready h hj e
     obtain ⟨hjun, _, _, _⟩ := mem_ready.1 hj
     obtain ⟨hiun, _, _, _⟩ := mem_ready.1 h.rd
     have m1 : j ∈ (List.range ops.size).filter (fun k => !n.contains k && !(listed.getD k true)) := by
      rw [List.mem_filter, h1, hjun]
      exact ⟨List.mem_range.2 (Array.getElem?_eq_some_iff.1 hoj).1, rfl⟩
     have m2 : i ∈ (List.range ops.size).filter (fun k => !n.contains k && !(listed.getD k true)) := by
      rw [List.mem_filter, hin, hiun]
      exact ⟨List.mem_range.2 (Array.getElem?_eq_some_iff.1 hi).1, rfl⟩
     have hc := h.cnt
     match hl : (List.range ops.size).filter (fun k => !n.contains k && !(listed.getD k true)), hc with
     | [a], _ =>
      rw [hl] at m1 m2
      simp only [List.mem_singleton] at m1 m2
      exact e (m1.trans m2.symm)
  have hnd : (Region.ready md ops listed).Nodup := by unfold Region.ready; exact List.nodup_range.filter _
  match hl : Region.ready md ops listed with
  | [] => have := h.rd; rw [hl] at this; cases this
  | [a] => rw [hl] at hall; rw [hall a (List.mem_singleton.2 rfl)]
  | a :: b :: r =>
   rw [hl] at hall hnd
   have ha := hall a (List.mem_cons_self ..)
   have hb := hall b (List.mem_cons_of_mem _ (List.mem_cons_self ..))
   rw [ha, hb] at hnd
   simp at hnd
 | f + 1, listed, h => by
  unfold onlyQ
  rw [Bool.and_eq_true, List.all_eq_true]
  refine ⟨by simpa using h.rd, fun j hj => ?_⟩
  by_cases e : j = i
  · simp [e]
  · obtain ⟨oj, hoj, h1, h2, h3⟩ := onlyI_ready h hj e
    rw [Bool.or_eq_true]
    right
    simp only [hi, hoj, h2, h3, Bool.true_and]
    exact onlyQ_of hi hin f _ (onlyI_set h hj e h1)
def depD (md : Region.Mode) (i : Nat) : List Oper → List Bool → List Bool
  | [], acc => acc
  | o :: l, acc => depD md i l (acc ++ [o.after.any fun e => Region.binds md e && (e.on == i || acc.getD e.on false)])
theorem depD_spec (i : Nat) : ∀ (l : List Oper) (acc : List Bool) (L : List Oper), L.length = acc.length → ops.toList = L ++ l → (∀ k, acc.getD k false = true → waitsJ md ops (k + 1) k i = true) → ∀ k, (depD md i l acc).getD k false = true → waitsJ md ops (k + 1) k i = true
 | [], acc, L, h1, h2, h3 => h3
 | o :: l, acc, L, h1, h2, h3 => by
  refine depD_spec i l _ (L ++ [o]) (by simp [h1]) (by simp [h2]) fun k hk => ?_
  rcases Nat.lt_trichotomy k acc.length with hlt | heq | hgt
  · rw [List.getD_eq_getElem?_getD, List.getElem?_append_left hlt, ← List.getD_eq_getElem?_getD] at hk
    exact h3 k hk
  · subst heq
    rw [List.getD_eq_getElem?_getD, List.getElem?_append_right (Nat.le_refl _), Nat.sub_self] at hk
    simp only [List.getElem?_cons_zero, Option.getD_some] at hk
    have ho : ops[acc.length]? = some o := by
     rw [← Array.getElem?_toList, h2, List.getElem?_append_right (by omega), h1, Nat.sub_self]
     rfl
    obtain ⟨e, he, hb⟩ := Array.any_eq_true'.1 hk
    simp only [Bool.and_eq_true, Bool.or_eq_true, beq_iff_eq] at hb
    unfold waitsJ
    simp only [ho, Bool.or_eq_true]
    rcases hb.2 with h | h
    · left
      exact Array.any_eq_true'.2 ⟨e, he, by simp [hb.1, h]⟩
    · right
      have hlt : e.on < acc.length := by
       rcases Nat.lt_or_ge e.on acc.length with q | q
       · exact q
       · rw [List.getD_eq_getElem?_getD, List.getElem?_eq_none q] at h
         cases h
      exact Array.any_eq_true'.2 ⟨e, he, by rw [Bool.and_eq_true]; exact ⟨hb.1, waits_le (h3 _ h) (by omega)⟩⟩
  · rw [List.getD_eq_getElem?_getD, List.getElem?_eq_none (by simp; omega)] at hk
    cases hk
def onlyB (md : Region.Mode) (ops : Array Oper) (n : List Nat) (i f : Nat) (listed : Array Bool) (D : List Bool) : Bool :=
  (Region.ready md ops listed).contains i && decide (((List.range ops.size).filter fun j => !n.contains j && !(listed.getD j true)).length = f + 1) && (!n.contains i) &&
  match ops[i]? with
  | some oi => (List.range ops.size).all fun j => listed.getD j true || j == i || match ops[j]? with
    | some oj => (!n.contains j && isFresh oj && oi.apart ops oj) || D.getD j false
    | none => false
  | none => false
theorem onlyB_spec {n : List Nat} {i f : Nat} {listed : Array Bool} (hd : DC md ops listed) (h : onlyB md ops n i f listed (depD md i ops.toList []) = true) : onlyQ md ops i f listed = true := by
 unfold onlyB at h
 rw [Bool.and_eq_true, Bool.and_eq_true, Bool.and_eq_true, decide_eq_true_eq] at h
 obtain ⟨⟨⟨h1, h2⟩, h3⟩, h4⟩ := h
 cases hi : ops[i]? with
 | none => rw [hi] at h4; cases h4
 | some oi =>
  rw [hi] at h4
  simp only [List.all_eq_true, List.mem_range] at h4
  refine onlyQ_of hi (by simpa using h3) f listed ⟨hd, by simpa using h1, h2, fun j oj hoj hun hji => ?_⟩
  have h5 := h4 j (Array.getElem?_eq_some_iff.1 hoj).1
  rw [hun, hoj] at h5
  simp only [Bool.false_or, Bool.or_eq_true, beq_iff_eq, hji, false_or, Bool.and_eq_true, Bool.not_eq_true'] at h5
  rcases h5 with h5 | h5
  · exact .inl ⟨h5.1.1, h5.1.2, h5.2⟩
  · refine .inr (waits_le (depD_spec i ops.toList [] [] rfl (by simp) (fun k hk => by simp at hk) j h5) ?_)
    exact (Array.getElem?_eq_some_iff.1 hoj).1
def chainL (md : Region.Mode) (ops : Array Oper) (t : Nat) (nx : List Nat) : Bool :=
  (List.range t).all fun i => hopB md ops (nx.getD i 0) i && decide (i < nx.getD i 0) && decide (nx.getD i 0 ≤ t)
theorem chainL_waits {t : Nat} {nx : List Nat} (h : chainL md ops t nx = true) : ∀ (d i : Nat), t - i ≤ d → i < t → waitsJ md ops (t - i) t i = true
 | 0, i, hd, hi => by omega
 | d + 1, i, hd, hi => by
  have h0 := h
  simp only [chainL, List.all_eq_true, List.mem_range] at h
  have h1 := h i hi
  simp only [Bool.and_eq_true, decide_eq_true_eq] at h1
  obtain ⟨⟨h1, h2⟩, h3⟩ := h1
  by_cases hm : nx.getD i 0 = t
  · rw [hm] at h1
    refine waits_le (f := 1) ?_ (by omega)
    unfold hopB at h1
    unfold waitsJ
    cases ho : ops[t]? with
    | none => rw [ho] at h1; simp at h1
    | some o => rw [ho] at h1; simp only [Bool.or_eq_true]; exact .inl h1
  · have ih := chainL_waits h0 d (nx.getD i 0) (by omega) (by omega)
    exact waits_le (waits_hop h1 _ _ ih) (by omega)
theorem tailBJ_of2 {t : Nat} {nx : List Nat} (h : (Region.noSelect ops && (decide (t + 2 = ops.size) && (chainL md ops t nx && hopB md ops (t + 1) t))) = true) : tailBJ md ops [t, t + 1] = true := by
 simp only [Bool.and_eq_true, decide_eq_true_eq] at h
 obtain ⟨hn, ht, hc, hp⟩ := h
 have h1 : ∀ i, i < t → waitsJ md ops ops.size t i = true := fun i hi => waits_le (chainL_waits hc _ i (Nat.le_refl _) hi) (by omega)
 have hp1 : waitsJ md ops 1 (t + 1) t = true := by
  unfold hopB at hp
  unfold waitsJ
  cases ho : ops[t + 1]? with
  | none => rw [ho] at hp; simp at hp
  | some o => rw [ho] at hp; simp only [Bool.or_eq_true]; exact .inl hp
 have trans : ∀ (f : Nat) (i : Nat), waitsJ md ops f t i = true → waitsJ md ops (f + 1) (t + 1) i = true := fun f i hf => by
  unfold hopB at hp
  unfold waitsJ
  cases ho : ops[t + 1]? with
  | none => rw [ho] at hp; simp at hp
  | some o =>
   rw [ho] at hp
   simp only [Bool.or_eq_true]
   right
   obtain ⟨e, he, hb⟩ := Array.any_eq_true'.1 hp
   simp only [Bool.and_eq_true, beq_iff_eq] at hb
   refine Array.any_eq_true'.2 ⟨e, he, ?_⟩
   rw [Bool.and_eq_true, hb.2]
   exact ⟨hb.1, hf⟩
 have h2 : ∀ i, i < t → waitsJ md ops ops.size (t + 1) i = true := fun i hi => waits_le (trans _ _ (chainL_waits hc _ i (Nat.le_refl _) hi)) (by omega)
 unfold tailBJ
 rw [hn, Bool.true_and]
 simp only [List.all_eq_true, List.mem_range]
 intro u hu
 rcases Nat.lt_trichotomy u t with q | q | q
 · have : ([t, t + 1].contains u) = false := by
    simp only [List.contains_cons, List.contains_nil, Bool.or_false, Bool.or_eq_false_iff, beq_eq_false_iff_ne]
    omega
   rw [this]
   rfl
 · subst q
   simp only [List.contains_cons, beq_self_eq_true, Bool.true_or, Bool.not_true, Bool.false_or]
   cases ho : ops[u]? with
   | none => rfl
   | some o =>
    simp only [List.all_eq_true, List.mem_range, Bool.or_eq_true]
    intro i hi
    rcases Nat.lt_or_ge i u with hh | hh
    · exact .inr (h1 i hh)
    · left
      rcases Nat.eq_or_lt_of_le hh with e | e
      · simp [e]
      · simp; omega
 · obtain rfl : u = t + 1 := by omega
   have : ([t, t + 1].contains (t + 1)) = true := by simp
   rw [this]
   simp only [Bool.not_true, Bool.false_or]
   cases ho : ops[t + 1]? with
   | none => rfl
   | some o =>
    simp only [List.all_eq_true, List.mem_range, Bool.or_eq_true]
    intro i hi
    rcases Nat.lt_or_ge i t with hh | hh
    · exact .inr (h2 i hh)
    · left
      rcases Nat.eq_or_lt_of_le hh with e | e
      · simp [e]
      · have : i = t + 1 := by omega
        simp [this]
theorem wp_region_floatT {id : Nat} {Q : Exit → Act → World → Prop} {a : Act} {l : List Oper} {W0 : World} (N m : Nat) (n : List Nat) (hN : N ≤ W0.heap.size) (hm : P.follows .mixedOrders = true) (hn : (decide (m + n.length = l.length) && n.all (fun j => decide (j < l.length))) = true) (hT : tailBJ .any l.toArray n = true) (hD : dcB .any l.toArray (Array.replicate l.length false) = true)
  (h : Hid (tailBJ .any l.toArray n = true) → Hid (DC .any l.toArray (Array.replicate l.length false)) → wpQ P .any l.toArray N W0 n (fun F G a' => ∀ w', F w' → SG N W0 G w' → wpList P l.toArray Q (n.filterMap (fun i => l[i]?)) a' w') m (Array.replicate l.length false) (fun _ => True) [] a) : (Code.region id l.toArray true).wp P Q a W0 :=
 wp_region_floatQ N m n hN (fun _ => True) trivial Cl.tt hm hn (h (hQ0 hT) (hQ0 (dcB_spec hD)))
def stepTB (md : Region.Mode) (ops : Array Oper) (n : List Nat) (i : Nat) (listed : Array Bool) : Bool :=
  (!n.contains i) && (Region.ready md ops listed).contains i && Region.free md ops listed i && match ops[i]? with | some o => !isFresh o | none => false
def wpT (P : Program) (md : Region.Mode) (ops : Array Oper) (N : Nat) (W0 : World) (n : List Nat) (L : GK) (is : List Nat) (m : Nat) (listed : Array Bool) (F : World → Prop) (G : List (Nat × Obj)) (a : Act) : Prop :=
  tailBJ md ops n = true → DC md ops listed → wpQ P md ops N W0 n L m listed F G a
theorem wpT_start {m : Nat} {n : List Nat} {L : GK} {listed : Array Bool} {F : World → Prop} {G : List (Nat × Obj)} {a : Act} (hT : Hid (tailBJ md ops n = true)) (hD : Hid (DC md ops listed)) (is : List Nat) (h : wpT P md ops N W0 n L is m listed F G a) : wpQ P md ops N W0 n L m listed F G a := h hT.out hD.out
theorem wpT_step {i f : Nat} {is n : List Nat} {o : Oper} {L : GK} {listed : Array Bool} {F : World → Prop} {G : List (Nat × Obj)} {a : Act} (hi : ops[i]? = some o) (hB : stepTB md ops n i listed = true) (hg : o.guard = none) (v : Value)
  (h : GivesH P N W0 o a v) (hk : ∀ K : Act → Prop, (∀ a, wpT P md ops N W0 n L is f (listed.setIfInBounds i true) F G a → K a) → K (a.put o.dst v)) : wpT P md ops N W0 n L (i :: is) (f + 1) listed F G a := fun hT hD => by
 simp only [stepTB, hi, Bool.and_eq_true, Bool.not_eq_true'] at hB
 obtain ⟨⟨⟨b, c⟩, d⟩, e⟩ := hB
 have hr : i ∈ Region.ready md ops listed := by simpa using c
 exact wpQ_first hT b hi e f listed F G a hD (Region.free_spec hi d) hr (.inl ⟨by simp [Region.wanted, hg], h⟩) (hk _ fun _ h => h hT (hD.set hr))
theorem wpT_fresh {i f : Nat} {is n : List Nat} {o : Oper} {L : GK} {listed : Array Bool} {F : World → Prop} {G : List (Nat × Obj)} {a : Act} (hL : LInv L) (hi : ops[i]? = some o) (hB : (Region.noSelect ops && isFresh o && onlyB md ops n i f listed (depD md i ops.toList [])) = true) (mk : Nat → Value) (hmk : freshV o = mk) (ob : Obj)
  (h : ∀ W, (execOp a.eval o).run P W = .ok (.value (mk W.heap.size)) (W.alloc ob))
  (hk : ∀ g, N ≤ g → (∀ p ∈ G, p.1 ≠ g) → ∀ K : Act → Prop, (∀ a, wpT P md ops N W0 n L is f (listed.setIfInBounds i true) F ((g, ob) :: G) a → K a) → K (a.put o.dst (mk g))) : wpT P md ops N W0 n L (i :: is) (f + 1) listed F G a := fun hT hD => by
 subst hmk
 simp only [Bool.and_eq_true] at hB
 obtain ⟨⟨hs, ha⟩, hon⟩ := hB
 have hgd : o.guard = none := by
  unfold isFresh at ha
  split at ha
  · simpa using ha
  · simpa using ha
  · cases ha
 have hr : i ∈ Region.ready md ops listed := by
  unfold onlyB at hon
  rw [Bool.and_eq_true, Bool.and_eq_true, Bool.and_eq_true] at hon
  simpa using hon.1.1.1
 exact wpQ_freshfirst hL (Region.noSelect_spec hs) hi ha ob f listed F G a (onlyB_spec hD hon) ⟨by simp [Region.wanted, hgd], h⟩ (fun g hN hg => hk g hN hg _ fun _ h => h hT (hD.set hr))
theorem wpT_call {i f : Nat} {is n : List Nat} {o : Oper} {L : GK} {listed : Array Bool} {F : World → Prop} {G : List (Nat × Obj)} {a : Act} (hi : ops[i]? = some o) (hB : (Region.noSelect ops && (o.guard.isNone && !isFresh o) && onlyB md ops n i f listed (depD md i ops.toList [])) = true)
  (hk : ∀ W, F W → SG N W0 G W → givesX P W (fun v F' => ∀ K : Act → Prop, (∀ a, wpT P md ops N W0 n L is f (listed.setIfInBounds i true) (fun W => F W ∧ F' W) G a → K a) → K (a.put o.dst v)) ((execOp a.eval o).run P W)) : wpT P md ops N W0 n L (i :: is) (f + 1) listed F G a := fun hT hD => by
 simp only [Bool.and_eq_true, Bool.not_eq_true'] at hB
 obtain ⟨⟨hs, hgd, hna⟩, hon⟩ := hB
 have hr : i ∈ Region.ready md ops listed := by
  unfold onlyB at hon
  rw [Bool.and_eq_true, Bool.and_eq_true, Bool.and_eq_true] at hon
  simpa using hon.1.1.1
 have hgn : o.guard = none := by simpa using hgd
 exact wpQ_callfirst (Region.noSelect_spec hs) hi hna f listed F G a (onlyB_spec hD hon) ⟨by simp [Region.wanted, hgn], fun W hF hS => givesX_mono (fun v F' hk => hk _ fun _ h => h hT (hD.set hr)) _ (hk W hF hS)⟩
theorem wpT_wild {i f : Nat} {is n : List Nat} {o : Oper} {L : GK} {listed : Array Bool} {F : World → Prop} {G : List (Nat × Obj)} {a : Act} (hi : ops[i]? = some o) (hB : decide (Region.ready md ops listed = [i]) = true) (hg : (o.guard.isNone && !isFresh o) = true)
  (hk : ∀ W, F W → SG N W0 G W → givesW P N W0 (fun v F' G' => ∀ K : Act → Prop, (∀ a, wpT P md ops N W0 n L is f (listed.setIfInBounds i true) F' G' a → K a) → K (a.put o.dst v)) ((execOp a.eval o).run P W)) : wpT P md ops N W0 n L (i :: is) (f + 1) listed F G a := fun hT hD => by
 have hr : i ∈ Region.ready md ops listed := by rw [of_decide_eq_true hB]; exact List.mem_singleton.2 rfl
 exact wpQ_wild hi hB hg fun W hF hS => givesW_mono (fun v F' G' hk K hK => hk K fun a h => hK a (h hT (hD.set hr))) _ (hk W hF hS)
theorem wpT_done {is n : List Nat} {L : GK} {listed : Array Bool} {F : World → Prop} {G : List (Nat × Obj)} {a : Act} (hB : seqJ md ops n listed = true) (h : L F G a) : wpT P md ops N W0 n L is 0 listed F G a := fun _ _ => wpQ_done hB h
end
def reg? (n : Nat) : Code → Option Code
  | .region k o b => if k = n then some (.region k o b) else none
  | .seq a b => match reg? n a with
    | some c => some c
    | none => reg? n b
  | .cond _ a b => match reg? n a with
    | some c => some c
    | none => reg? n b
  | .block _ b => reg? n b
  | .loop b => reg? n b
  | .scope b => reg? n b
  | _ => none
def regOf (n : Nat) (f : Func) : Code := match f.body with
  | some c => (match reg? n c with
    | some x => x
    | none => .skip)
  | none => .skip
attribute [local go_sem ↓] evalL getL64 setL64
attribute [local go_sem ↓] getL8 setL8
attribute [local go_sem ↓] getL1 getL0
set_option maxRecDepth 100000 in
set_option maxHeartbeats 8000000 in
theorem stmt_tb (w5 : World) (tb mb bs : Nat) (t : Tb) (a : TbA) (TC : List Value) (tk : ByteArray) (tvals : List Int) (tA : Option Addr) (tq : Nat) (df : List Deferred) (F : List Value) (hF : F.length = 501) (f1 : F[1]? = some (.pointer (some ⟨tb, 0, none⟩))) (f4 : F[4]? = some (.pointer (some ⟨mb, 0, none⟩)))
  (hTC : TC = t.cells a) (hT : BoxAt w5 tb TC) (hM : BoxAt w5 mb [.string tk, .slice tA tvals.length tq, .int .i64 0]) (hTO : OwnI w5 bs tA tq tvals) (hbs5 : bs ≤ w5.heap.size) (htk : tk = if 0 < t.tr.length then k_trough else ⟨#[]⟩) (htv : tvals = t.tr.take 1) (R : Act → World → Prop)
  (hR : ∀ (F' : List Value) (w' : World) (A' : Option Addr) (c' : Nat), F'.length = 501 → F'[1]? = some (.pointer (some ⟨tb, 0, none⟩)) → F'[2]? = F[2]? → F'[3]? = F[3]? → F'[5]? = some (.slice A' [itTb t].length c') → Below w5.heap.size w5 w' → XsOwn w' bs 97 120 A' c' [itTb t] → R ⟨F'.toArray, df⟩ w') :
  (regOf 4 Tryz.f17).wp Tryz.prog (AtEnd R) ⟨F.toArray, df⟩ w5 := by
 obtain ⟨s, rfl⟩ := fr501_ex F hF
 have e1 : s 1 = .pointer (some ⟨tb, 0, none⟩) := Option.some.inj f1
 have e4 : s 4 = .pointer (some ⟨mb, 0, none⟩) := Option.some.inj f4
 unfold fr501
 rw [e1, e4]
 clear hF e1 f1 e4 f4
 have hIT : itTb t = ⟨t_table, ⟨#[]⟩, [kv1 k_radius t.rad, kv1 k_balls t.bal, kv2 k_gravity t.gx t.gy, kv2 k_drag t.drg t.shf, kv1 k_rest t.rst] ++ (if tk = ⟨#[]⟩ then [] else [⟨tk, tvals, 0⟩]), 0⟩ := by
  rw [htk, htv]
  unfold itTb
  cases t.tr with
  | nil => rfl
  | cons a1 r => rfl
 clear htk htv
 have HIT := hQ0 hIT
 have HR := hQ0 hR
 clear hIT hR
 obtain ⟨rad, bal, rst, gx, gy, drg, shf, tr, ws, ars, ps, fs, zs, ss, las, rs, ds, lns⟩ := t
 obtain ⟨Atr, ctr, Aws, cws, Aars, cars, Aps, cps, Afs, cfs, Azs, czs, Ass, css, Alas, clas, Ars, crs, Ads, cds, Alns, clns⟩ := a
 rw [hTC] at hT
 have hTO' : ∀ W : World, Below w5.heap.size w5 W → OwnI W bs tA tq tvals := fun W hb => own_below hTO hb (Nat.le_refl _)
 clear hTO hTC
 have hTO := hTO'
 clear hTO'
 have t0 := hT.c 0 (.int .i64 rad) rfl
 have t1 := hT.c 1 (.int .i64 bal) rfl
 have t2 := hT.c 2 (.int .i64 rst) rfl
 have t3 := hT.c 3 (.int .i64 gx) rfl
 have t4 := hT.c 4 (.int .i64 gy) rfl
 have t5 := hT.c 5 (.int .i64 drg) rfl
 have t6 := hT.c 6 (.int .i64 shf) rfl
 have t7 := hT.c 7 (.slice Atr tr.length ctr) rfl
 have t8 := hT.c 8 (.slice Aws ws.length cws) rfl
 have t9 := hT.c 9 (.slice Aars ars.length cars) rfl
 have t10 := hT.c 10 (.slice Aps ps.length cps) rfl
 have t11 := hT.c 11 (.slice Afs fs.length cfs) rfl
 have t12 := hT.c 12 (.slice Azs zs.length czs) rfl
 have t13 := hT.c 13 (.slice Ass ss.length css) rfl
 have t14 := hT.c 14 (.slice Alas las.length clas) rfl
 have t15 := hT.c 15 (.slice Ars rs.length crs) rfl
 have t16 := hT.c 16 (.slice Ads ds.length cds) rfl
 have t17 := hT.c 17 (.slice Alns lns.length clns) rfl
 have hltT := hT.lt
 have z0 := hM.c 0 _ rfl
 have z1 := hM.c 1 _ rfl
 have z2 := hM.c 2 _ rfl
 have hltm := hM.lt
 clear hT hM
 conv in (regOf _ _) => whnf
 refine wp_region_floatT w5.heap.size 25 [25] (Nat.le_refl _) (by kernel_rfl) (by kernel_rfl) (tailBJ_of (nx := [1, 2, 3, 7, 5, 6, 7, 10, 9, 10, 16, 12, 15, 14, 15, 16, 20, 18, 19, 20, 22, 22, 23, 24, 25, 0]) (by kernel_rfl)) (by kernel_rfl) ?_; intro hT_ hD_; refine wpT_start hT_ hD_ [0, 1, 4, 5, 8, 9, 11, 12, 13, 14, 17, 18, 21, 2, 3, 6, 7, 10, 15, 16, 19, 20, 22, 23, 24] ?_; clear hT_ hD_
 iterate 13 (apply wpT_step (zA rfl) (by kernel_rfl) rfl; (focus (intro W' hS; have hcS := hS.cells; go_simp; first | done | exact rfl | exact ⟨rfl, Below.refl _ _⟩)); intro K hK; go_simp; refine hK _ ?_; clear hK K)
 apply wpT_fresh LInv.std (zA rfl) (by kernel_rfl) (fun g => Value.slice (some ⟨g, 0, none⟩) 1 1) (by exact rfl); (focus (intro W; go_simp; first | done | exact rfl | exact ⟨rfl, rfl⟩)); intro g_2 hN_2 hG_2; intro K hK; go_simp; refine hK _ ?_; clear hK K
 apply wpT_step (zA rfl) (by kernel_rfl) rfl; (focus (intro W' hS; go_simp; go_at_call 56; exact (numA _ _ _ _ _).mono (fun _ _ h => ⟨h.1, h.2⟩))); intro K hK; go_simp; refine hK _ ?_; clear hK K
 apply wpT_fresh LInv.std (zA rfl) (by kernel_rfl) (fun g => Value.slice (some ⟨g, 0, none⟩) 1 1) (by exact rfl); (focus (intro W; go_simp; first | done | exact rfl | exact ⟨rfl, rfl⟩)); intro g_6 hN_6 hG_6; intro K hK; go_simp; refine hK _ ?_; clear hK K
 apply wpT_step (zA rfl) (by kernel_rfl) rfl; (focus (intro W' hS; go_simp; go_at_call 56; exact (numA _ _ _ _ _).mono (fun _ _ h => ⟨h.1, h.2⟩))); intro K hK; go_simp; refine hK _ ?_; clear hK K
 apply wpT_call (zA rfl) (by kernel_rfl); intro W hF hS; have hcS := hS.1.cells; go_simp; (go_at_call 58; refine (vecA _ gx gy w5.heap.size W hS.1.1).mono ?_; rintro e wv0 ⟨AV0, q0, rfl, hb_wv0, hV0⟩; refine XPost.mk _ (fun W => OwnI W w5.heap.size AV0 q0 [gx, gy]) hb_wv0 (hV0) (cl_owni _ _ _ _) ?_); clear hb_wv0 hcS hS hF; intro K hK; go_simp; refine hK _ ?_; clear hK K
 apply wpT_fresh LInv.std (zA rfl) (by kernel_rfl) (fun g => Value.slice (some ⟨g, 0, none⟩) 2 2) (by exact rfl); (focus (intro W; go_simp; first | done | exact rfl | exact ⟨rfl, rfl⟩)); intro g_15 hN_15 hG_15; intro K hK; go_simp; refine hK _ ?_; clear hK K
 apply wpT_step (zA rfl) (by kernel_rfl) rfl; (focus (intro W' hS; go_simp; go_at_call 56; exact (numA _ _ _ _ _).mono (fun _ _ h => ⟨h.1, h.2⟩))); intro K hK; go_simp; refine hK _ ?_; clear hK K
 apply wpT_fresh LInv.std (zA rfl) (by kernel_rfl) (fun g => Value.slice (some ⟨g, 0, none⟩) 1 1) (by exact rfl); (focus (intro W; go_simp; first | done | exact rfl | exact ⟨rfl, rfl⟩)); intro g_19 hN_19 hG_19; intro K hK; go_simp; refine hK _ ?_; clear hK K
 apply wpT_step (zA rfl) (by kernel_rfl) rfl; (focus (intro W' hS; go_simp; go_at_call 56; exact (numA _ _ _ _ _).mono (fun _ _ h => ⟨h.1, h.2⟩))); intro K hK; go_simp; refine hK _ ?_; clear hK K
 apply wpT_fresh LInv.std (zA rfl) (by kernel_rfl) (fun g => Value.slice (some ⟨g, 0, none⟩) 6 6) (by exact rfl); (focus (intro W; go_simp; first | done | exact rfl | exact ⟨rfl, rfl⟩)); intro g_22 hN_22 hG_22; intro K hK; go_simp; refine hK _ ?_; clear hK K
 apply wpT_wild (zA rfl) (by kernel_rfl) (by kernel_rfl); intro W hF hS; have hcS := hS.1.cells; go_simp; (go_at_call 57; refine (st_any t_table (⟨#[]⟩ : ByteArray) [(kv1 k_radius rad, some ⟨g_2, 0, none⟩, 1), (kv1 k_balls bal, some ⟨g_6, 0, none⟩, 1), (kv2 k_gravity gx gy, AV0, q0), (kv2 k_drag drg shf, some ⟨g_15, 0, none⟩, 2), (kv1 k_rest rst, some ⟨g_19, 0, none⟩, 1)] [] (⟨tk, tvals, 0⟩, tA, tq) g_22 bs 6 W rfl (own_blk (n := 6) (size := 3) (hS.2 _ (List.mem_cons_self ..)).2 (Nat.le_trans hbs5 (hS.2 _ (List.mem_cons_self ..)).1) (by omega) rfl) (by omega) (nk (by kernel_rfl)) (nk (by kernel_rfl))).mono ?_; rintro e ws_ hs_; have hF2 := hF; obtain ⟨hw0, -⟩ : _ ∧ True := ⟨hF2, trivial⟩; obtain ⟨cS, mS, hmS_, rfl, hbt_, hK_⟩ := ksown_any hs_ (hS.2 _ (List.mem_cons_self ..)).2 (List.forall_mem_cons.2 ⟨OwnI.blk1 (hS.2 _ (List.mem_cons_of_mem _ (List.mem_cons_of_mem _ (List.mem_cons_of_mem _ (List.mem_cons_of_mem _ (List.mem_cons_self ..)))))).2 (Nat.le_trans hbs5 (hS.2 _ (List.mem_cons_of_mem _ (List.mem_cons_of_mem _ (List.mem_cons_of_mem _ (List.mem_cons_of_mem _ (List.mem_cons_self ..)))))).1), List.forall_mem_cons.2 ⟨OwnI.blk1 (hS.2 _ (List.mem_cons_of_mem _ (List.mem_cons_of_mem _ (List.mem_cons_of_mem _ (List.mem_cons_self ..))))).2 (Nat.le_trans hbs5 (hS.2 _ (List.mem_cons_of_mem _ (List.mem_cons_of_mem _ (List.mem_cons_of_mem _ (List.mem_cons_self ..))))).1), List.forall_mem_cons.2 ⟨hw0.weaker hbs5, List.forall_mem_cons.2 ⟨OwnI.blk2 (hS.2 _ (List.mem_cons_of_mem _ (List.mem_cons_of_mem _ (List.mem_cons_self ..)))).2 (Nat.le_trans hbs5 (hS.2 _ (List.mem_cons_of_mem _ (List.mem_cons_of_mem _ (List.mem_cons_self ..)))).1), List.forall_mem_cons.2 ⟨OwnI.blk1 (hS.2 _ (List.mem_cons_of_mem _ (List.mem_cons_self ..))).2 (Nat.le_trans hbs5 (hS.2 _ (List.mem_cons_of_mem _ (List.mem_cons_self ..))).1), List.forall_mem_cons.2 ⟨hTO W hS.1.2, List.forall_mem_nil _⟩⟩⟩⟩⟩⟩); refine WPost.mk _ (fun W => KsOwn W bs 120 (some ⟨g_22, 0, none⟩) cS _) _ hK_ (cl_ksown _ _ _ _) (hS.but hbt_ hG_22) ?_); have HmS := hQ0 hmS_; clear hbt_ hK_ hs_ hcS hS hmS_; intro K hK; go_simp; refine hK _ ?_; clear hK K
 apply wpT_fresh LInv.std (zA rfl) (by kernel_rfl) (fun g => Value.slice (some ⟨g, 0, none⟩) 1 1) (by exact rfl); (focus (intro W; go_simp; first | done | exact rfl | exact ⟨rfl, rfl⟩)); intro g_24 hN_24 hG_24; intro K hK; go_simp; refine hK _ ?_; clear hK K
 refine wpT_done (by kernel_rfl) ?_; intro w4 hF_w4 hSG; have hz_w4 := hSG.1.1; have hb_w4 := hSG.1.2
 have HH_24 := hQ0 (hSG.2 _ (List.mem_cons_self ..)).2; have hl_24 := hSG.size (List.mem_cons_self ..)
 have HH_19 := hQ0 (hSG.2 _ (List.mem_cons_of_mem _ (List.mem_cons_self ..))).2; have hl_19 := hSG.size (List.mem_cons_of_mem _ (List.mem_cons_self ..))
 have HH_15 := hQ0 (hSG.2 _ (List.mem_cons_of_mem _ (List.mem_cons_of_mem _ (List.mem_cons_self ..)))).2; have hl_15 := hSG.size (List.mem_cons_of_mem _ (List.mem_cons_of_mem _ (List.mem_cons_self ..)))
 have HH_6 := hQ0 (hSG.2 _ (List.mem_cons_of_mem _ (List.mem_cons_of_mem _ (List.mem_cons_of_mem _ (List.mem_cons_self ..))))).2; have hl_6 := hSG.size (List.mem_cons_of_mem _ (List.mem_cons_of_mem _ (List.mem_cons_of_mem _ (List.mem_cons_self ..))))
 have HH_2 := hQ0 (hSG.2 _ (List.mem_cons_of_mem _ (List.mem_cons_of_mem _ (List.mem_cons_of_mem _ (List.mem_cons_of_mem _ (List.mem_cons_self ..)))))).2; have hl_2 := hSG.size (List.mem_cons_of_mem _ (List.mem_cons_of_mem _ (List.mem_cons_of_mem _ (List.mem_cons_of_mem _ (List.mem_cons_self ..)))))
 clear hSG; (try simp only [List.filterMap_cons, List.filterMap_nil, List.getElem?_cons_succ, List.getElem?_cons_zero])
 have hIL : (itTb ⟨rad, bal, rst, gx, gy, drg, shf, tr, ws, ars, ps, fs, zs, ss, las, rs, ds, lns⟩).keys = (([(kv1 k_radius rad, some ⟨g_2, 0, none⟩, 1), (kv1 k_balls bal, some ⟨g_6, 0, none⟩, 1), (kv2 k_gravity gx gy, AV0, q0), (kv2 k_drag drg shf, some ⟨g_15, 0, none⟩, 2), (kv1 k_rest rst, some ⟨g_19, 0, none⟩, 1)] ++ (if tk = ⟨#[]⟩ then [] else [(⟨tk, tvals, 0⟩, tA, tq)]) : List KP).map (·.1)) := by
  rw [HIT.out]
  by_cases h0 : tk = ⟨#[]⟩
  · rw [if_pos h0, if_pos h0]; rfl
  · rw [if_neg h0, if_neg h0]; rfl
 have hIX : itTb ⟨rad, bal, rst, gx, gy, drg, shf, tr, ws, ars, ps, fs, zs, ss, las, rs, ds, lns⟩ = ⟨t_table, ⟨#[]⟩, (itTb ⟨rad, bal, rst, gx, gy, drg, shf, tr, ws, ars, ps, fs, zs, ss, las, rs, ds, lns⟩).keys, 0⟩ := by rw [HIT.out]
 have HIL := hQ0 hIL
 have HIX := hQ0 hIX
 have hk5 : KsOwn w4 bs 120 (some ⟨g_22, 0, none⟩) cS (([(kv1 k_radius rad, some ⟨g_2, 0, none⟩, 1), (kv1 k_balls bal, some ⟨g_6, 0, none⟩, 1), (kv2 k_gravity gx gy, AV0, q0), (kv2 k_drag drg shf, some ⟨g_15, 0, none⟩, 2), (kv1 k_rest rst, some ⟨g_19, 0, none⟩, 1)] ++ (if tk = ⟨#[]⟩ then [] else [(⟨tk, tvals, 0⟩, tA, tq)]) : List KP).map (·.1)) := hF_w4
 have hg5 := HH_24.out
 simp only at hg5
 rw [HmS.out, ← List.length_map (·.1)] at hg5
 rw [← hIL] at hk5
 have hg6 : w4.heap[g_24]? = some (.cells #[.string t_table, .string ⟨#[]⟩, .slice (some ⟨g_22, 0, none⟩) (itTb ⟨rad, bal, rst, gx, gy, drg, shf, tr, ws, ars, ps, fs, zs, ss, las, rs, ds, lns⟩).keys.length cS, .int .i64 0] 97) := by rw [hIL]; exact hg5
 have hx5 : XsOwn w4 bs 97 120 (some ⟨g_24, 0, none⟩) 1 [itTb ⟨rad, bal, rst, gx, gy, drg, shf, tr, ws, ars, ps, fs, zs, ss, las, rs, ds, lns⟩] := by
  refine ⟨[(itTb ⟨rad, bal, rst, gx, gy, drg, shf, tr, ws, ars, ps, fs, zs, ss, las, rs, ds, lns⟩, some ⟨g_22, 0, none⟩, cS)], rfl, ?_, ?_⟩
  · have h := own_blk (base := bs) (n := 1) (size := 4) hg6 (by omega) (by omega) rfl
    have hc : cellsOfX (itTb ⟨rad, bal, rst, gx, gy, drg, shf, tr, ws, ars, ps, fs, zs, ss, las, rs, ds, lns⟩) (some ⟨g_22, 0, none⟩) cS = [.string t_table, .string ⟨#[]⟩, .slice (some ⟨g_22, 0, none⟩) (itTb ⟨rad, bal, rst, gx, gy, drg, shf, tr, ws, ars, ps, fs, zs, ss, las, rs, ds, lns⟩).keys.length cS, .int .i64 0] := by
     unfold cellsOfX
     rw [HIX.out]
    show w4.ownsRow bs 97 4 (.slice (some ⟨g_24, 0, none⟩) 1 1) 1 (cellsOfX (itTb ⟨rad, bal, rst, gx, gy, drg, shf, tr, ws, ars, ps, fs, zs, ss, las, rs, ds, lns⟩) (some ⟨g_22, 0, none⟩) cS ++ [])
    rw [List.append_nil, hc]
    exact h
  · intro p hp
    rw [List.mem_singleton.1 hp]
    exact hk5
 have HX5 := hQ0 hx5
 have HB4 := hQ0 hb_w4
 clear hx5 hk5 hg5 hg6 hF_w4 hIL hIX hb_w4
 go_wp2_with fail
 show R _ _
 exact HR.out _ _ (some ⟨g_24, 0, none⟩) 1 rfl rfl rfl rfl rfl HB4.out HX5.out
attribute [local go_sem ↓] evalL getL64 setL64
attribute [local go_sem ↓] getL8 setL8
attribute [local go_sem ↓] getL1 getL0
set_option maxRecDepth 100000 in
set_option maxHeartbeats 8000000 in
theorem text_r64 (S : ByteArray) (w : World) (hm : S.size ≤ maxLen) (ht : Tabs w) (hw0 : ∀ x ∈ (parseR S).1, x.word = t_table ∨ x.word = t_wall) (df : List Deferred) (F : List Value) (hF : F.length = 501) (f28 : F[28]? = some (.string S)) (R : Act → World → Prop)
  (hR : ∀ (F' : List Value) (w' : World) (tb : Nat) (a : TbA), F'.length = 501 → F'[1]? = F[1]? → F'[2]? = F[2]? → F'[3]? = F[3]? → F'[28]? = F[28]? → F'[30]? = some (.pointer (some ⟨tb, 0, none⟩)) → F'[31]? = some (.int .i64 (compileR S).2.1) → Below w.heap.size w w' → BoxAt w' tb ((compileR S).1.cells a) → TbAt w' (compileR S).1 a → (∃ n, (compileR S).1.le n ∧ n ≤ 10000) → R ⟨F'.toArray, df⟩ w') :
  (regOf 64 Tryz.f17).wp Tryz.prog (AtEnd R) ⟨F.toArray, df⟩ w := by
 obtain ⟨s, rfl⟩ := fr501_ex F hF
 have e28 : s 28 = .string S := Option.some.inj f28
 unfold fr501
 rw [e28]
 have HE28 := hQ0 e28
 clear hF f28 e28
 have KC := compile_any S w hm ht hw0
 have HR := hQ0 hR
 clear hm ht hR hw0
 conv in (regOf _ _) => whnf
 refine wp_region_lit ?_
 refine wpList_plain rfl fun K hK => ?_
 go_simp
 refine hK _ _ ?_
 clear hK K
 refine wpList_plain rfl fun K hK => ?_
 go_simp
 (go_at_call 13; refine KC.mono ?_; rintro e w1 ⟨a3, rfl, hb1, hT1, hc1, n3, hn3⟩)
 go_simp
 refine hK _ _ ?_
 clear hK K KC
 obtain ⟨tc, htc⟩ : ∃ z, z = (compileR S).1 := ⟨_, rfl⟩
 obtain ⟨ec, hec⟩ : ∃ z, z = (compileR S).2.1 := ⟨_, rfl⟩
 obtain ⟨pc, hpc⟩ : ∃ z, z = (compileR S).2.2 := ⟨_, rfl⟩
 rw [← htc, ← hec, ← hpc]
 rw [← htc] at hT1 hn3
 have HB1 := hQ0 hb1
 have HT1 := hQ0 hT1
 have HN1 := hQ0 hn3
 have HTC := hQ0 htc
 have HEC := hQ0 hec
 clear hb1 hT1 hc1 hn3 htc hec hpc
 iterate 4 (refine wpList_plain rfl fun K hK => ?_; go_simp; refine hK _ _ ?_; clear hK K)
 refine wpList_plain rfl fun K hK => ?_
 go_simp
 refine hK _ _ ?_
 clear hK K
 have HX2 : Hid (BoxAt (w1.alloc (.cells #[.int .i64 0, .int .i64 0, .int .i64 0, .int .i64 0, .int .i64 0, .int .i64 0, .int .i64 0, .slice none 0 0, .slice none 0 0, .slice none 0 0, .slice none 0 0, .slice none 0 0, .slice none 0 0, .slice none 0 0, .slice none 0 0, .slice none 0 0, .slice none 0 0, .slice none 0 0] 36)) w1.heap.size (tb0.cells a0)) := hQ0 (BoxAt.new w1 (tb0.cells a0) 36)
 have HB2 := hQ0 (HB1.out.alloc HB1.out.size (.cells #[.int .i64 0, .int .i64 0, .int .i64 0, .int .i64 0, .int .i64 0, .int .i64 0, .int .i64 0, .slice none 0 0, .slice none 0 0, .slice none 0 0, .slice none 0 0, .slice none 0 0, .slice none 0 0, .slice none 0 0, .slice none 0 0, .slice none 0 0, .slice none 0 0, .slice none 0 0] 36))
 have HW2 := hQ0 ((Below.refl w1.heap.size w1).alloc (Nat.le_refl _) (.cells #[.int .i64 0, .int .i64 0, .int .i64 0, .int .i64 0, .int .i64 0, .int .i64 0, .int .i64 0, .slice none 0 0, .slice none 0 0, .slice none 0 0, .slice none 0 0, .slice none 0 0, .slice none 0 0, .slice none 0 0, .slice none 0 0, .slice none 0 0, .slice none 0 0, .slice none 0 0] 36))
 generalize w1.alloc _ = w2 at HX2 HB2 HW2 ⊢
 obtain ⟨tb, htb⟩ : ∃ z, z = w1.heap.size := ⟨_, rfl⟩
 have htw : w.heap.size ≤ tb := by rw [htb]; exact HB1.out.size
 have htl : w1.heap.size ≤ tb := by omega
 rw [← htb] at HX2 ⊢
 refine wpList_store_tb rfl (.tmp 30) (.tmp 489) rfl tb _ (by go_simp) tc a3 (by go_simp) HX2.out rfl ?_
 have HX3 := hQ0 (stored_tb tb _ tc a3 w2 HX2.out rfl)
 have HB3 := hQ0 (below_setCells (b := tb) htw (tc.cells a3) 0 HB2.out)
 have HT3 : Hid (TbAt (w2.setCells tb 0 (tc.cells a3)) tc a3) := hQ0 (HT1.out.below (B := w1.heap.size) (below_setCells (b := tb) htl (tc.cells a3) 0 HW2.out) (Nat.le_refl _))
 generalize w2.setCells tb 0 (tc.cells a3) = w3 at HX3 HB3 HT3 ⊢
 go_simp
 iterate 2 (refine wpList_plain rfl fun K hK => ?_; go_simp; refine hK _ _ ?_; clear hK K)
 refine wpList_nil ?_
 (try go_simp)
 exact HR.out _ w3 tb a3 rfl rfl rfl rfl (congrArg some HE28.out.symm) (by rw [htb]; rfl) (by rw [← HEC.out]; rfl) HB3.out (by rw [← HTC.out]; exact HX3.out) (by rw [← HTC.out]; exact HT3.out) (by rw [← HTC.out]; exact ⟨n3, HN1.out.2⟩)
set_option maxRecDepth 100000 in
set_option maxHeartbeats 8000000 in
theorem text_r65 (t u : Tb) (a b : TbA) (ec : Int) (n tb tb2 : Nat) (w : World) (hX : BoxAt w tb (t.cells a)) (hY : BoxAt w tb2 (u.cells b)) (hA : TbAt w t a) (hB : TbAt w u b) (h1 : t.le n) (h2 : u.le n) (hn : n ≤ 10000) (df : List Deferred) (F : List Value) (hF : F.length = 501) (f1 : F[1]? = some (.pointer (some ⟨tb, 0, none⟩))) (f30 : F[30]? = some (.pointer (some ⟨tb2, 0, none⟩))) (f31 : F[31]? = some (.int .i64 ec)) (R : Act → World → Prop)
  (hR : ∀ (F' : List Value) (w' : World) (d : Bool), F'.length = 501 → F'[2]? = F[2]? → F'[3]? = F[3]? → F'[28]? = F[28]? → F'[499]? = some (.bool d) → (d = true ↔ (ec ≠ 0 ∨ sameR u t = false)) → Below w.heap.size w w' → R ⟨F'.toArray, df⟩ w') :
  (regOf 65 Tryz.f17).wp Tryz.prog (AtEnd R) ⟨F.toArray, df⟩ w := by
 obtain ⟨s, rfl⟩ := fr501_ex F hF
 have e1 : s 1 = .pointer (some ⟨tb, 0, none⟩) := Option.some.inj f1
 have e30 : s 30 = .pointer (some ⟨tb2, 0, none⟩) := Option.some.inj f30
 have e31 : s 31 = .int .i64 ec := Option.some.inj f31
 unfold fr501
 rw [e1, e30, e31]
 clear hF f1 f30 f31 e1 e30 e31
 have KS := fun W (hb : Below w.heap.size w W) => same_any u t b a n W (hB.below hb (Nat.le_refl _)) (hA.below hb (Nat.le_refl _)) h2 h1 hn
 have HX := hQ0 hX
 have HY := hQ0 hY
 have HR := hQ0 hR
 obtain ⟨be, hbe⟩ : ∃ z, z = decide (ec = 0) := ⟨_, rfl⟩
 obtain ⟨sm, hsm⟩ : ∃ z, z = sameR u t := ⟨_, rfl⟩
 rw [← hsm] at KS
 have HBE := hQ0 hbe
 have HSM := hQ0 hsm
 clear hX hY hA hB hR h1 h2 hn hbe hsm
 conv in (regOf _ _) => whnf
 refine wp_region_lit ?_
 have hS_ : Below w.heap.size w w := Below.refl _ _
 iterate 1 (refine wpList_plain rfl fun K hK => ?_; go_simp; refine hK _ _ ?_; clear hK K)
 apply wpL_maybe true (by exact rfl) (.bool (!be))
 (case h => intro _; go_simp; rw [HBE.out]; by_cases q1_ : ec = 0 <;> simp [q1_])
 intro K hK; (try simp only [opt_true]); go_simp; refine hK _ _ ?_; clear hK K
 iterate 1 (refine wpList_plain rfl fun K hK => ?_; go_simp; refine hK _ _ ?_; clear hK K)
 apply wpL_maybe be (by clear hS_; cases be <;> rfl) (u.v b)
 (case h => intro hc_; obtain rfl : be = true := hc_; (try simp only [opt_true]); exact load_tb _ _ 30 rfl tb2 (by first | rfl | (go_simp; done)) u b _ HY.out)
 intro K hK; (try simp only [opt_true]); go_simp; refine hK _ _ ?_; clear hK K
 apply wpL_maybe be (by clear hS_; cases be <;> rfl) (t.v a)
 (case h => intro hc_; obtain rfl : be = true := hc_; (try simp only [opt_true]); exact load_tb _ _ 1 rfl tb (by first | rfl | (go_simp; done)) t a _ HX.out)
 intro K hK; (try simp only [opt_true]); go_simp; refine hK _ _ ?_; clear hK K
 refine wpL_callm (S := Below w.heap.size w) be (by clear hS_; cases be <;> rfl) (.bool sm) ?_ hS_ ?_
 · intro hc_
   obtain rfl : be = true := hc_
   intro N_ hN_
   (try simp only [opt_true])
   go_simp
   (go_at_call 16; refine (KS _ hS_).mono ?_; rintro e w_ ⟨rfl, hb_⟩)
   go_simp
   exact hN_ _ (hS_.trans (hb_.mono hS_.size))
 intro K hK w_ hS2_; go_simp; refine hK _ _ ?_; clear hK K hS_; have hS_ := hS2_; clear hS2_
 apply wpL_maybe be (by clear hS_; cases be <;> rfl) (.bool (!sm))
 (case h => intro hc_; obtain rfl : be = true := hc_; (try simp only [opt_true]); go_simp; first | done | exact rfl)
 intro K hK; (try simp only [opt_true]); go_simp; refine hK _ _ ?_; clear hK K
 apply wpL_maybe true (by exact rfl) (.bool (!be || !sm)) (by intro _; cases be <;> (go_simp; try exact rfl))
 intro K hK; (try simp only [opt_true]); go_simp; refine hK _ _ ?_; clear hK K
 refine wpList_nil ?_
 (try go_simp)
 exact HR.out _ w_ (!be || !sm) rfl rfl rfl rfl rfl (by rw [HBE.out, HSM.out]; cases sameR u t <;> by_cases h : ec = 0 <;> simp [h]) hS_
attribute [local go_sem ↓] evalL getL64 setL64
attribute [local go_sem ↓] getL8 setL8
attribute [local go_sem ↓] getL1 getL0
set_option maxRecDepth 100000 in
set_option maxHeartbeats 8000000 in
theorem lt_ws (w wr : World) (base : Nat) (A A0 : Option Addr) (c c0 : Nat) (l : List Wl) (L0 : List IV) (TC : List Value) (df : List Deferred) (F : List Value) (hF : F.length = 501) (f5 : F[5]? = some (.slice A0 L0.length c0)) (f70 : F[70]? = some (.slice A l.length c)) (f71 : F[71]? = some (.int .i64 (l.length : Int))) (f72 : F[72]? = some (.int .i64 0))
  (hA : RowsAt 13 Wl.cells w A l) (hl : l.length ≤ 1000) (hL : L0.length ≤ 100000) (hwb : w.heap.size < base) (hb : Below w.heap.size w wr) (hbs : base ≤ wr.heap.size) (hT : BoxAt wr w.heap.size TC) (hX : XsOwn wr base 97 120 A0 c0 L0) (Q : Exit → Act → World → Prop)
  (hE : (¬ ∀ x ∈ l, in1 1 4 x.kd = true) → ∀ (F' : List Value) (w' : World), F'.length = 501 → F'[2]? = some (.string ⟨#[]⟩) → F'[3]? = some (.bool false) → Below w.heap.size w w' → Q .ret ⟨F'.toArray, df⟩ w')
  (hR : (∀ x ∈ l, in1 1 4 x.kd = true) → ∀ (F' : List Value) (w' : World) (A' : Option Addr) (c' : Nat), F'.length = 501 → F'[1]? = F[1]? → F'[4]? = F[4]? → F'[5]? = some (.slice A' (L0 ++ l.map itWl).length c') → Below w.heap.size w w' → base ≤ w'.heap.size → BoxAt w' w.heap.size TC → XsOwn w' base 97 120 A' c' (L0 ++ l.map itWl) → Q .normal ⟨F'.toArray, df⟩ w') :
  (blkOf 0 Tryz.f17).wp Tryz.prog Q ⟨F.toArray, df⟩ wr := by
 obtain ⟨s, rfl⟩ := fr501_ex F hF
 have e5 : s 5 = .slice A0 L0.length c0 := Option.some.inj f5
 have e70 : s 70 = .slice A l.length c := Option.some.inj f70
 have e71 : s 71 = .int .i64 (l.length : Int) := Option.some.inj f71
 have e72 : s 72 = .int .i64 0 := Option.some.inj f72
 unfold fr501
 rw [e5, e70, e71, e72]
 clear hF e5 f5 e70 f70 e71 f71 e72 f72
 have HA := hQ0 hA
 have HR := hQ0 hR
 have HQE := hQ0 hE
 clear hE
 have HLl := hQ0 hL
 have HT := hQ0 hT
 have HX := hQ0 hX
 have HB := hQ0 hb
 clear hA hR hL hT hX hb
 conv in (blkOf _ _) => whnf
 go_wp2_with fail
 go_loopg [5, 72] (l.length + 1) (fun gk t5 tt wr => ∃ (k : Nat) (A1 : Option Addr) (c1 : Nat), k ≤ l.length ∧ l.length - k < gk ∧ t5 = .slice A1 (L0 ++ (l.take k).map itWl).length c1 ∧ tt = .int .i64 k ∧ Hid (∀ x ∈ l.take k, in1 1 4 x.kd = true) ∧ base ≤ wr.heap.size ∧ Hid (Below w.heap.size w wr ∧ BoxAt wr w.heap.size TC ∧ XsOwn wr base 97 120 A1 c1 (L0 ++ (l.take k).map itWl)))
 case atStart => exact ⟨0, A0, c0, by omega, by omega, by simp, rfl, hQ0 (fun x hx => by simp at hx), hbs, hQ0 ⟨HB.out, HT.out, by simpa using HX.out⟩⟩
 case round =>
  obtain ⟨wq, rfl⟩ : ∃ z, z = wr := ⟨_, rfl⟩
  clear HB HT HX hbs
  obtain ⟨k, A1, c1_, hk, hkk, rfl, rfl, HKD, hbs, HJ⟩ := hrel
  have hz_wq := HJ.out.1.size
  obtain ⟨L, hL⟩ : ∃ L : List IV, L = L0 ++ (l.take k).map itWl := ⟨_, rfl⟩
  rw [← hL] at HJ ⊢
  have HL := hQ0 hL
  clear hL
  by_cases hlt : k < l.length
  · obtain ⟨x, hx⟩ : ∃ x, l[k]? = some x := ⟨l[k], by simp⟩
    obtain ⟨g, o, rfl, hg, c0, c1, c2, c3, c4, c5, c6, c7, c8, c9, c10, c11, c12⟩ := Wl.get (HA.out.below HJ.out.1 (Nat.le_refl _)) hx
    have i1 : (k : Int) < (l.length : Int) := by omega
    have HXX := hQ0 hx
    clear hx
    go_upto_region 8 with (fail)
    (refine pin_eqT (fun w3 hE_w3 => ?_))
    obtain ⟨gb, hgb⟩ : ∃ z, z = wq.heap.size := ⟨_, rfl⟩
    rw [← hgb]
    have hX3 : BoxAt w3 gb x.cells := by rw [hE_w3, hgb]; exact BoxAt.new _ _ _
    have HJ3 : Hid (Below w.heap.size w w3 ∧ BoxAt w3 w.heap.size TC ∧ XsOwn w3 base 97 120 A1 c1_ L) := hQ0 (by
     rw [hE_w3]
     exact ⟨HJ.out.1.alloc hz_wq _, HJ.out.2.1.alloc _, HJ.out.2.2.below ((Below.refl _ _).alloc (Nat.le_refl _) _) (Nat.le_refl _)⟩)
    have hz3 : wq.heap.size < w3.heap.size := by rw [hE_w3]; simp
    clear hgb hE_w3 c0 c1 c2 c3 c4 c5 c6 c7 c8 c9 c10 c11 c12 hg
    have x0 := hX3.c 0 (.string x.nm) rfl
    have x1 := hX3.c 1 (.int .i64 x.kd) rfl
    have x2 := hX3.c 2 (.int .i64 x.lv) rfl
    have x3 := hX3.c 3 (.int .i64 x.a1) rfl
    have x4 := hX3.c 4 (.int .i64 x.a2) rfl
    have x5 := hX3.c 5 (.int .i64 x.b1) rfl
    have x6 := hX3.c 6 (.int .i64 x.b2) rfl
    have x7 := hX3.c 7 (.int .i64 x.rs) rfl
    have x8 := hX3.c 8 (.int .i64 x.gr) rfl
    have x9 := hX3.c 9 (.int .i64 x.kk) rfl
    have x10 := hX3.c 10 (.int .i64 x.mn) rfl
    have x11 := hX3.c 11 (.int .i64 x.cl) rfl
    have x12 := hX3.c 12 (.int .i64 x.sw) rfl
    have hltx := hX3.lt
    have HX3_ := hQ0 hX3
    clear hX3
    obtain ⟨bk, hbk⟩ : ∃ b, b = in1 1 4 x.kd := ⟨_, rfl⟩
    have HBK := hQ0 hbk
    clear hbk
    cases bk
    · go_wp2_with (go_at_call 25; refine (in_new1' 1 4 x.kd _ _ false HBK.out (by simp)).mono ?_; rintro e w5 ⟨rfl, rfl⟩)
      show Q .ret _ _
      exact HQE.out (fun h => by have := HBK.out; rw [h x (List.mem_of_getElem? HXX.out)] at this; cases this) _ _ rfl rfl rfl (HJ3.out.1.alloc (by omega) _)
    · go_upto_region 10 with (go_at_call 25; refine (in_new1' 1 4 x.kd _ _ true HBK.out (by simp)).mono ?_; rintro e w5 ⟨rfl, rfl⟩)
      (refine pin_eqT (fun w6 hE_w6 => ?_))
      have hk14 : in1 1 4 x.kd = true := HBK.out.symm
      simp only [in1, Bool.and_eq_true, decide_eq_true_eq] at hk14
      obtain ⟨kn, hkn⟩ : ∃ n : Nat, x.kd = (n : Int) := ⟨x.kd.toNat, by omega⟩
      have hn14 : 1 ≤ kn ∧ kn ≤ 4 := by omega
      have HKN : Hid ((kn : Int) = x.kd) := hQ0 hkn.symm
      obtain ⟨wd, hwd⟩ : ∃ z, z = wlW x.kd := ⟨_, rfl⟩
      have HWD := hQ0 hwd
      have hB6 : Below w3.heap.size w3 w6 := by rw [hE_w6]; exact (Below.refl _ _).alloc (Nat.le_refl _) _
      have HX6 : Hid (BoxAt w6 gb [.string x.nm, .int .i64 (kn : Int), .int .i64 x.lv, .int .i64 x.a1, .int .i64 x.a2, .int .i64 x.b1, .int .i64 x.b2, .int .i64 x.rs, .int .i64 x.gr, .int .i64 x.kk, .int .i64 x.mn, .int .i64 x.cl, .int .i64 x.sw]) := hQ0 (by rw [HKN.out]; exact HX3_.out.below hB6 hltx)
      have hz6 : w3.heap.size ≤ w6.heap.size := hB6.size
      have HB6 := hQ0 hB6
      have hn5 : (kn : Int) < 5 := by omega
      clear hE_w6 hwd hkn hk14 hB6 x0 x1 x2 x3 x4 x5 x6 x7 x8 x9 x10 x11 x12
      refine wp_region_lit ?_
      have hS_ : Below w6.heap.size w6 w6 := Below.refl _ _
      apply wpL_freshm (S := Below w6.heap.size w6)  true (by exact rfl)
      (case h => intro _; generalize hev_ : Act.eval _ = ev_; have vc_ : ∀ v_, ev_ (.const v_) = v_ := (fun _ => by rw [← hev_]; rfl); clear hev_; go_simp; first | done | exact rfl | exact ⟨rfl, rfl⟩); (case hS => exact hS_); (case hS' => exact (hS_).alloc (hS_).size _)
      intro K hK w_ hS2_ hw0_; have hw_ := hQ0 hw0_; clear hw0_; go_simp; refine hK _ _ ?_; clear hK K hS_; have hS_ := hS2_; clear hS2_
      have hE_ := hw_.out rfl
      have hcw_ : w_.cell? ⟨w6.heap.size, kn, none⟩ = some (.string wd) := by
       rw [hE_, World.cell?_alloc_new, HWD.out, ← HKN.out]
       have h14 := hn14
       match kn, h14 with
       | 1, _ => rfl
       | 2, _ => rfl
       | 3, _ => rfl
       | 4, _ => rfl
      clear hE_ hw_
      apply wpL_maybe true (by exact rfl)
      (case h => intro _; have hcW_ := (bcellW hS_).1; go_simp; first | done | exact rfl)
      intro K hK; (try simp only [opt_true]); go_simp; refine hK _ _ ?_; clear hK K
      apply wpL_maybe true (by exact rfl)
      (case h => intro _; have hY_ := (HX6.out).below hS_ (HX6.out.lt); have y0_ := hY_.c 1 (.int .i64 (kn : Int)) (rfl); go_simp; first | done | exact rfl)
      intro K hK; (try simp only [opt_true]); go_simp; refine hK _ _ ?_; clear hK K
      apply wpL_maybe true (by exact rfl)
      (case h => intro _; have hcW_ := (bcellW hS_).1; go_simp; first | done | exact rfl)
      intro K hK; (try simp only [opt_true]); go_simp; refine hK _ _ ?_; clear hK K
      apply wpL_maybe true (by exact rfl)
      (case h => intro _; have hcW_ := (bcellW hS_).1; go_simp; first | done | exact rfl)
      intro K hK; (try simp only [opt_true]); go_simp; refine hK _ _ ?_; clear hK K
      apply wpL_maybe true (by exact rfl)
      (case h => intro _; have hcW_ := (bcellW hS_).1; go_simp; first | done | exact rfl)
      intro K hK; (try simp only [opt_true]); go_simp; refine hK _ _ ?_; clear hK K
      refine wpList_nil ?_
      (try go_simp)
      have hS6 := hS_
      clear hS_
      (try go_step)
      obtain ⟨w8, hw8⟩ : ∃ z, z = w_ := ⟨_, rfl⟩
      rw [← hw8] at hS6 ⊢
      clear hw8
      have hX8 := HX6.out.below hS6 HX6.out.lt
      have hz8 : w3.heap.size ≤ w8.heap.size := Nat.le_trans hz6 hS6.size
      have HJ8 : Hid (Below w.heap.size w w8 ∧ BoxAt w8 w.heap.size TC ∧ XsOwn w8 base 97 120 A1 c1_ L) := hQ0 (by
       have h3 := HB6.out.trans (hS6.mono hz6)
       exact ⟨HJ3.out.1.trans (h3.mono (by omega)), HJ3.out.2.1.below h3 (by omega), HJ3.out.2.2.below h3 (Nat.le_refl _)⟩)
      have x0 := hX8.c 0 (.string x.nm) rfl
      have x1 := hX8.c 1 (.int .i64 (kn : Int)) rfl
      have x2 := hX8.c 2 (.int .i64 x.lv) rfl
      have x3 := hX8.c 3 (.int .i64 x.a1) rfl
      have x4 := hX8.c 4 (.int .i64 x.a2) rfl
      have x5 := hX8.c 5 (.int .i64 x.b1) rfl
      have x6 := hX8.c 6 (.int .i64 x.b2) rfl
      have x7 := hX8.c 7 (.int .i64 x.rs) rfl
      have x8 := hX8.c 8 (.int .i64 x.gr) rfl
      have x9 := hX8.c 9 (.int .i64 x.kk) rfl
      have x10 := hX8.c 10 (.int .i64 x.mn) rfl
      have x11 := hX8.c 11 (.int .i64 x.cl) rfl
      have x12 := hX8.c 12 (.int .i64 x.sw) rfl
      have hltx8 := hX8.lt
      clear hX8 hS6
      refine wp_region_floatT w8.heap.size 41 [41, 42] (Nat.le_refl _) (by kernel_rfl) (by kernel_rfl) (tailBJ_of2 (t := 41) (nx := [41, 39, 3, 39, 5, 6, 7, 10, 9, 10, 13, 12, 13, 17, 15, 16, 17, 21, 19, 20, 21, 25, 23, 24, 25, 29, 27, 28, 29, 33, 31, 32, 33, 37, 35, 36, 37, 38, 39, 40, 41]) (by kernel_rfl)) (by kernel_rfl) ?_; intro hT_ hD_; refine wpT_start hT_ hD_ [0, 1, 2, 3, 4, 5, 8, 9, 11, 12, 14, 15, 18, 19, 22, 23, 26, 27, 30, 31, 34, 35, 6, 7, 10, 13, 16, 17, 20, 21, 24, 25, 28, 29, 32, 33, 36, 37, 38, 39, 40] ?_; clear hT_ hD_
      iterate 22 (apply wpT_step (zA rfl) (by kernel_rfl) rfl; (focus (intro W' hS; have hcS := hS.cells; go_simp; first | done | exact rfl | exact ⟨rfl, Below.refl _ _⟩)); intro K hK; go_simp; refine hK _ ?_; clear hK K)
      apply wpT_fresh LInv.std (zA rfl) (by kernel_rfl) (fun g => Value.slice (some ⟨g, 0, none⟩) 1 1) (by exact rfl); (focus (intro W; go_simp; first | done | exact rfl | exact ⟨rfl, rfl⟩)); intro g_6 hN_6 hG_6; intro K hK; go_simp; refine hK _ ?_; clear hK K
      apply wpT_step (zA rfl) (by kernel_rfl) rfl; (focus (intro W' hS; go_simp; go_at_call 56; exact (numA _ _ _ _ _).mono (fun _ _ h => ⟨h.1, h.2⟩))); intro K hK; go_simp; refine hK _ ?_; clear hK K
      apply wpT_call (zA rfl) (by kernel_rfl); intro W hF hS; have hcS := hS.1.cells; go_simp; (go_at_call 58; refine (vecA _ x.a1 x.a2 w8.heap.size W hS.1.1).mono ?_; rintro e wv0 ⟨AV0, q0, rfl, hb_wv0, hV0⟩; refine XPost.mk _ (fun W => OwnI W w8.heap.size AV0 q0 [x.a1, x.a2]) hb_wv0 (hV0) (cl_owni _ _ _ _) ?_); clear hb_wv0 hcS hS hF; intro K hK; go_simp; refine hK _ ?_; clear hK K
      apply wpT_call (zA rfl) (by kernel_rfl); intro W hF hS; have hcS := hS.1.cells; go_simp; (go_at_call 58; refine (vecA _ x.b1 x.b2 w8.heap.size W hS.1.1).mono ?_; rintro e wv1 ⟨AV1, q1, rfl, hb_wv1, hV1⟩; refine XPost.mk _ (fun W => OwnI W w8.heap.size AV1 q1 [x.b1, x.b2]) hb_wv1 (hV1) (cl_owni _ _ _ _) ?_); clear hb_wv1 hcS hS hF; intro K hK; go_simp; refine hK _ ?_; clear hK K
      apply wpT_fresh LInv.std (zA rfl) (by kernel_rfl) (fun g => Value.slice (some ⟨g, 0, none⟩) 1 1) (by exact rfl); (focus (intro W; go_simp; first | done | exact rfl | exact ⟨rfl, rfl⟩)); intro g_16 hN_16 hG_16; intro K hK; go_simp; refine hK _ ?_; clear hK K
      apply wpT_step (zA rfl) (by kernel_rfl) rfl; (focus (intro W' hS; go_simp; go_at_call 56; exact (numA _ _ _ _ _).mono (fun _ _ h => ⟨h.1, h.2⟩))); intro K hK; go_simp; refine hK _ ?_; clear hK K
      apply wpT_fresh LInv.std (zA rfl) (by kernel_rfl) (fun g => Value.slice (some ⟨g, 0, none⟩) 1 1) (by exact rfl); (focus (intro W; go_simp; first | done | exact rfl | exact ⟨rfl, rfl⟩)); intro g_20 hN_20 hG_20; intro K hK; go_simp; refine hK _ ?_; clear hK K
      apply wpT_step (zA rfl) (by kernel_rfl) rfl; (focus (intro W' hS; go_simp; go_at_call 56; exact (numA _ _ _ _ _).mono (fun _ _ h => ⟨h.1, h.2⟩))); intro K hK; go_simp; refine hK _ ?_; clear hK K
      apply wpT_fresh LInv.std (zA rfl) (by kernel_rfl) (fun g => Value.slice (some ⟨g, 0, none⟩) 1 1) (by exact rfl); (focus (intro W; go_simp; first | done | exact rfl | exact ⟨rfl, rfl⟩)); intro g_24 hN_24 hG_24; intro K hK; go_simp; refine hK _ ?_; clear hK K
      apply wpT_step (zA rfl) (by kernel_rfl) rfl; (focus (intro W' hS; go_simp; go_at_call 56; exact (numA _ _ _ _ _).mono (fun _ _ h => ⟨h.1, h.2⟩))); intro K hK; go_simp; refine hK _ ?_; clear hK K
      apply wpT_fresh LInv.std (zA rfl) (by kernel_rfl) (fun g => Value.slice (some ⟨g, 0, none⟩) 1 1) (by exact rfl); (focus (intro W; go_simp; first | done | exact rfl | exact ⟨rfl, rfl⟩)); intro g_28 hN_28 hG_28; intro K hK; go_simp; refine hK _ ?_; clear hK K
      apply wpT_step (zA rfl) (by kernel_rfl) rfl; (focus (intro W' hS; go_simp; go_at_call 56; exact (numA _ _ _ _ _).mono (fun _ _ h => ⟨h.1, h.2⟩))); intro K hK; go_simp; refine hK _ ?_; clear hK K
      apply wpT_fresh LInv.std (zA rfl) (by kernel_rfl) (fun g => Value.slice (some ⟨g, 0, none⟩) 1 1) (by exact rfl); (focus (intro W; go_simp; first | done | exact rfl | exact ⟨rfl, rfl⟩)); intro g_32 hN_32 hG_32; intro K hK; go_simp; refine hK _ ?_; clear hK K
      apply wpT_step (zA rfl) (by kernel_rfl) rfl; (focus (intro W' hS; go_simp; go_at_call 56; exact (numA _ _ _ _ _).mono (fun _ _ h => ⟨h.1, h.2⟩))); intro K hK; go_simp; refine hK _ ?_; clear hK K
      apply wpT_fresh LInv.std (zA rfl) (by kernel_rfl) (fun g => Value.slice (some ⟨g, 0, none⟩) 1 1) (by exact rfl); (focus (intro W; go_simp; first | done | exact rfl | exact ⟨rfl, rfl⟩)); intro g_36 hN_36 hG_36; intro K hK; go_simp; refine hK _ ?_; clear hK K
      apply wpT_step (zA rfl) (by kernel_rfl) rfl; (focus (intro W' hS; go_simp; go_at_call 56; exact (numA _ _ _ _ _).mono (fun _ _ h => ⟨h.1, h.2⟩))); intro K hK; go_simp; refine hK _ ?_; clear hK K
      apply wpT_fresh LInv.std (zA rfl) (by kernel_rfl) (fun g => Value.slice (some ⟨g, 0, none⟩) 9 9) (by exact rfl); (focus (intro W; go_simp; first | done | exact rfl | exact ⟨rfl, rfl⟩)); intro g_38 hN_38 hG_38; intro K hK; go_simp; refine hK _ ?_; clear hK K
      apply wpT_call (zA rfl) (by kernel_rfl); intro W hF hS; have hcS := hS.1.cells; go_simp; (go_at_call 57; refine (st_noneB wd x.nm [(kv1 k_level x.lv, some ⟨g_6, 0, none⟩, 1), (kv2 k_from x.a1 x.a2, AV0, q0), (kv2 k_to x.b1 x.b2, AV1, q1), (kv1 k_rest x.rs, some ⟨g_16, 0, none⟩, 1), (kv1 k_grip x.gr, some ⟨g_20, 0, none⟩, 1), (kv1 k_kick x.kk, some ⟨g_24, 0, none⟩, 1), (kv1 k_min x.mn, some ⟨g_28, 0, none⟩, 1), (kv1 k_coil x.cl, some ⟨g_32, 0, none⟩, 1), (kv1 k_switch x.sw, some ⟨g_36, 0, none⟩, 1)] g_38 9 W (rows_blk _ (hS.2 _ (List.mem_cons_self ..)).2 rfl) (by show _ ≤ 1000; simp) (nk (by kernel_rfl))).mono ?_; rintro e ws_ ⟨rfl, hb_ws_⟩; refine XPost.mk _ (fun W => True) hb_ws_ (trivial) (Cl.tt) ?_); clear hb_ws_ hcS hS hF; intro K hK; go_simp; refine hK _ ?_; clear hK K
      apply wpT_fresh LInv.std (zA rfl) (by kernel_rfl) (fun g => Value.slice (some ⟨g, 0, none⟩) 1 1) (by exact rfl); (focus (intro W; go_simp; first | done | exact rfl | exact ⟨rfl, rfl⟩)); intro g_40 hN_40 hG_40; intro K hK; go_simp; refine hK _ ?_; clear hK K
      refine wpT_done (by kernel_rfl) ?_; intro w4 hF_w4 hSG; have hz_w4 := hSG.1.1; have hb_w4 := hSG.1.2
      have HH_40 := hQ0 (hSG.2 _ (List.mem_cons_self ..)).2; have hl_40 := hSG.size (List.mem_cons_self ..)
      have HH_38 := hQ0 (hSG.2 _ (List.mem_cons_of_mem _ (List.mem_cons_self ..))).2; have hl_38 := hSG.size (List.mem_cons_of_mem _ (List.mem_cons_self ..))
      have HH_36 := hQ0 (hSG.2 _ (List.mem_cons_of_mem _ (List.mem_cons_of_mem _ (List.mem_cons_self ..)))).2; have hl_36 := hSG.size (List.mem_cons_of_mem _ (List.mem_cons_of_mem _ (List.mem_cons_self ..)))
      have HH_32 := hQ0 (hSG.2 _ (List.mem_cons_of_mem _ (List.mem_cons_of_mem _ (List.mem_cons_of_mem _ (List.mem_cons_self ..))))).2; have hl_32 := hSG.size (List.mem_cons_of_mem _ (List.mem_cons_of_mem _ (List.mem_cons_of_mem _ (List.mem_cons_self ..))))
      have HH_28 := hQ0 (hSG.2 _ (List.mem_cons_of_mem _ (List.mem_cons_of_mem _ (List.mem_cons_of_mem _ (List.mem_cons_of_mem _ (List.mem_cons_self ..)))))).2; have hl_28 := hSG.size (List.mem_cons_of_mem _ (List.mem_cons_of_mem _ (List.mem_cons_of_mem _ (List.mem_cons_of_mem _ (List.mem_cons_self ..)))))
      have HH_24 := hQ0 (hSG.2 _ (List.mem_cons_of_mem _ (List.mem_cons_of_mem _ (List.mem_cons_of_mem _ (List.mem_cons_of_mem _ (List.mem_cons_of_mem _ (List.mem_cons_self ..))))))).2; have hl_24 := hSG.size (List.mem_cons_of_mem _ (List.mem_cons_of_mem _ (List.mem_cons_of_mem _ (List.mem_cons_of_mem _ (List.mem_cons_of_mem _ (List.mem_cons_self ..))))))
      have HH_20 := hQ0 (hSG.2 _ (List.mem_cons_of_mem _ (List.mem_cons_of_mem _ (List.mem_cons_of_mem _ (List.mem_cons_of_mem _ (List.mem_cons_of_mem _ (List.mem_cons_of_mem _ (List.mem_cons_self ..)))))))).2; have hl_20 := hSG.size (List.mem_cons_of_mem _ (List.mem_cons_of_mem _ (List.mem_cons_of_mem _ (List.mem_cons_of_mem _ (List.mem_cons_of_mem _ (List.mem_cons_of_mem _ (List.mem_cons_self ..)))))))
      have HH_16 := hQ0 (hSG.2 _ (List.mem_cons_of_mem _ (List.mem_cons_of_mem _ (List.mem_cons_of_mem _ (List.mem_cons_of_mem _ (List.mem_cons_of_mem _ (List.mem_cons_of_mem _ (List.mem_cons_of_mem _ (List.mem_cons_self ..))))))))).2; have hl_16 := hSG.size (List.mem_cons_of_mem _ (List.mem_cons_of_mem _ (List.mem_cons_of_mem _ (List.mem_cons_of_mem _ (List.mem_cons_of_mem _ (List.mem_cons_of_mem _ (List.mem_cons_of_mem _ (List.mem_cons_self ..))))))))
      have HH_6 := hQ0 (hSG.2 _ (List.mem_cons_of_mem _ (List.mem_cons_of_mem _ (List.mem_cons_of_mem _ (List.mem_cons_of_mem _ (List.mem_cons_of_mem _ (List.mem_cons_of_mem _ (List.mem_cons_of_mem _ (List.mem_cons_of_mem _ (List.mem_cons_self ..)))))))))).2; have hl_6 := hSG.size (List.mem_cons_of_mem _ (List.mem_cons_of_mem _ (List.mem_cons_of_mem _ (List.mem_cons_of_mem _ (List.mem_cons_of_mem _ (List.mem_cons_of_mem _ (List.mem_cons_of_mem _ (List.mem_cons_of_mem _ (List.mem_cons_self ..)))))))))
      clear hSG; (try simp only [List.filterMap_cons, List.filterMap_nil, List.getElem?_cons_succ, List.getElem?_cons_zero])
      obtain ⟨⟨hv0, hv1⟩, _⟩ := hF_w4
      have HK4 : Hid (KsOwn w4 base 120 (some ⟨g_38, 0, none⟩) 9 (itWl x).keys) := hQ0 (KsOwn.blk [(kv1 k_level x.lv, some ⟨g_6, 0, none⟩, 1), (kv2 k_from x.a1 x.a2, AV0, q0), (kv2 k_to x.b1 x.b2, AV1, q1), (kv1 k_rest x.rs, some ⟨g_16, 0, none⟩, 1), (kv1 k_grip x.gr, some ⟨g_20, 0, none⟩, 1), (kv1 k_kick x.kk, some ⟨g_24, 0, none⟩, 1), (kv1 k_min x.mn, some ⟨g_28, 0, none⟩, 1), (kv1 k_coil x.cl, some ⟨g_32, 0, none⟩, 1), (kv1 k_switch x.sw, some ⟨g_36, 0, none⟩, 1)] HH_38.out rfl (by omega) (by show _ ≤ 1000; simp) (List.forall_mem_cons.2 ⟨OwnI.blk1 HH_6.out (by omega), List.forall_mem_cons.2 ⟨hv0.weaker (by omega), List.forall_mem_cons.2 ⟨hv1.weaker (by omega), List.forall_mem_cons.2 ⟨OwnI.blk1 HH_16.out (by omega), List.forall_mem_cons.2 ⟨OwnI.blk1 HH_20.out (by omega), List.forall_mem_cons.2 ⟨OwnI.blk1 HH_24.out (by omega), List.forall_mem_cons.2 ⟨OwnI.blk1 HH_28.out (by omega), List.forall_mem_cons.2 ⟨OwnI.blk1 HH_32.out (by omega), List.forall_mem_cons.2 ⟨OwnI.blk1 HH_36.out (by omega), List.forall_mem_nil _⟩⟩⟩⟩⟩⟩⟩⟩⟩))
      have hg5 := HH_40.out
      rw [HWD.out] at hg5
      have HJ4 : Hid (Below w.heap.size w w4 ∧ BoxAt w4 w.heap.size TC ∧ XsOwn w4 base 97 120 A1 c1_ L) := hQ0 ⟨HJ8.out.1.trans (hb_w4.mono (by omega)), HJ8.out.2.1.below hb_w4 (by omega), HJ8.out.2.2.below hb_w4 (Nat.le_refl _)⟩
      have HLL : Hid (L.length ≤ 1000000) := hQ0 (by rw [HL.out, List.length_append, List.length_map, List.length_take]; have := HLl.out; omega)
      obtain ⟨xs, hxs, hmore⟩ := HJ4.out.2.2.more (by decide) (by decide)
      have HM := hQ0 hmore
      have HXS := hQ0 hxs
      have HBS : Hid (base ≤ w4.heap.size) := hQ0 (by omega)
      have HG := hQ0 hg5
      clear hmore hxs hb_w4 hg5 hv0 hv1
      go_wp2_with (at_builtin; go_must (refine wpList_append_one rfl _ _ 92 97 _ 4 64 rfl Tryz.underlying92 itemInfo rfl (by decide) (by decide) base (.slice A1 L.length c1_) L.length xs (cellsOfX (itWl x) (some ⟨g_38, 0, none⟩) 9) rfl HXS.out g_40 1 rfl rfl (fun j u hu => (cell_of_row w4 g_40 j _ _ (0, 0) HG.out).trans (by rw [← Array.getElem?_toList]; exact hu)) (by simp [cellsOfX, Value.oneCell']) HLL.out HBS.out ?_))
      intro v7 w7 ho7 hg7 _
      obtain ⟨A2, c2, rfl, hX7⟩ := HM.out (itWl x) _ _ v7 w7 HK4.out ho7 hg7
      have hfr := own_fresh HXS.out
      have hE : L ++ [itWl x] = L0 ++ (l.take (k + 1)).map itWl := by rw [HL.out, map_snoc itWl HXX.out, List.append_assoc]
      rw [hE] at hX7 ⊢
      have HJ7 : Hid (Below w.heap.size w w7 ∧ BoxAt w7 w.heap.size TC ∧ XsOwn w7 base 97 120 A2 c2 (L0 ++ (l.take (k + 1)).map itWl)) := hQ0 ⟨HJ4.out.1.trans (below_grown hg7 (fun k hk => by have := hfr k hk; omega) HJ4.out.1.size), boxAt_grown HJ4.out.2.1 hg7 (fun k hk e => by have := hfr k hk; omega), hX7⟩
      have hbs7 : base ≤ w7.heap.size := Nat.le_trans HBS.out hg7.size
      obtain ⟨n7, hn7⟩ : ∃ n, n = (L0 ++ (l.take (k + 1)).map itWl).length := ⟨_, rfl⟩
      rw [← hn7]
      have HN7 := hQ0 hn7
      clear hX7 hfr hE ho7 hg7 hn7
      go_wp2_with fail
      go_roundg (l.length - (k + 1) + 1)
      case measure => omega
      case rel => exact ⟨k + 1, A2, c2, by omega, by omega, by rw [HN7.out], by go_num, hQ0 (fun z hz => by
        obtain ⟨h1, h2⟩ := List.getElem?_eq_some_iff.1 HXX.out
        rw [List.take_succ_eq_append_getElem h1] at hz
        rcases List.mem_append.1 hz with h | h
        · exact HKD.out z h
        · rw [List.mem_singleton.1 h, h2]; exact HBK.out.symm), hbs7, HJ7⟩
  · obtain rfl : k = l.length := by omega
    go_wp2_with fail
    show Q .normal _ _
    have hj := HJ.out
    have hL2 : L = L0 ++ l.map itWl := by rw [HL.out, List.take_length]
    rw [hL2] at hj ⊢
    exact HR.out (by have := HKD.out; rwa [List.take_length] at this) _ _ A1 c1_ rfl rfl rfl rfl hj.1 hbs hj.2.1 hj.2.2
attribute [local go_sem ↓] evalL getL64 setL64
attribute [local go_sem ↓] getL8 setL8
attribute [local go_sem ↓] getL1 getL0
set_option maxRecDepth 100000 in
set_option maxHeartbeats 8000000 in
theorem lt_ars (w wr : World) (base : Nat) (A A0 : Option Addr) (c c0 : Nat) (l : List Ac) (L0 : List IV) (TC : List Value) (df : List Deferred) (F : List Value) (hF : F.length = 501) (f5 : F[5]? = some (.slice A0 L0.length c0)) (f130 : F[130]? = some (.slice A l.length c)) (f131 : F[131]? = some (.int .i64 (l.length : Int))) (f132 : F[132]? = some (.int .i64 0))
  (hA : RowsAt 12 Ac.cells w A l) (hl : l.length ≤ 0) (hL : L0.length ≤ 100000) (hwb : w.heap.size < base) (hb : Below w.heap.size w wr) (hbs : base ≤ wr.heap.size) (hT : BoxAt wr w.heap.size TC) (hX : XsOwn wr base 97 120 A0 c0 L0) (R : Act → World → Prop)
  (hR : ∀ (F' : List Value) (w' : World) (A' : Option Addr) (c' : Nat), F'.length = 501 → F'[1]? = F[1]? → F'[2]? = F[2]? → F'[3]? = F[3]? → F'[4]? = F[4]? → F'[5]? = some (.slice A' (L0 ++ l.map itAc).length c') → Below w.heap.size w w' → base ≤ w'.heap.size → BoxAt w' w.heap.size TC → XsOwn w' base 97 120 A' c' (L0 ++ l.map itAc) → R ⟨F'.toArray, df⟩ w') :
  (blkOf 2 Tryz.f17).wp Tryz.prog (AtEnd R) ⟨F.toArray, df⟩ wr := by
 obtain rfl : l = [] := List.eq_nil_of_length_eq_zero (by omega)
 obtain ⟨s, rfl⟩ := fr501_ex F hF
 have e5 : s 5 = .slice A0 L0.length c0 := Option.some.inj f5
 have e130 : s 130 = .slice A 0 c := Option.some.inj f130
 have e131 : s 131 = .int .i64 (0 : Int) := Option.some.inj f131
 have e132 : s 132 = .int .i64 0 := Option.some.inj f132
 unfold fr501
 rw [e5, e130, e131, e132]
 have HR := hQ0 hR
 clear hF hR f5 e5 f130 e130 f131 e131 f132 e132
 conv in (blkOf _ _) => whnf
 go_wp2_with fail
 go_loopg [5, 132] 1 (fun gk t5 tt wx => t5 = .slice A0 L0.length c0 ∧ tt = .int .i64 0 ∧ Hid (wx = wr))
 case atStart => exact ⟨rfl, rfl, hQ0 rfl⟩
 case round =>
  obtain ⟨wq, rfl⟩ : ∃ z, z = wr := ⟨_, rfl⟩
  obtain ⟨rfl, rfl, HE⟩ := hrel
  obtain rfl := HE.out
  go_wp2_with fail
  show R _ _
  exact HR.out _ _ A0 c0 rfl rfl rfl rfl rfl (by first | rfl | (rw [List.map_nil, List.append_nil]; rfl)) hb hbs hT (by rw [List.map_nil, List.append_nil]; exact hX)
set_option maxRecDepth 100000 in
set_option maxHeartbeats 8000000 in
theorem lt_ps (w wr : World) (base : Nat) (A A0 : Option Addr) (c c0 : Nat) (l : List Ps) (L0 : List IV) (TC : List Value) (df : List Deferred) (F : List Value) (hF : F.length = 501) (f5 : F[5]? = some (.slice A0 L0.length c0)) (f174 : F[174]? = some (.slice A l.length c)) (f175 : F[175]? = some (.int .i64 (l.length : Int))) (f176 : F[176]? = some (.int .i64 0))
  (hA : RowsAt 11 Ps.cells w A l) (hl : l.length ≤ 0) (hL : L0.length ≤ 100000) (hwb : w.heap.size < base) (hb : Below w.heap.size w wr) (hbs : base ≤ wr.heap.size) (hT : BoxAt wr w.heap.size TC) (hX : XsOwn wr base 97 120 A0 c0 L0) (R : Act → World → Prop)
  (hR : ∀ (F' : List Value) (w' : World) (A' : Option Addr) (c' : Nat), F'.length = 501 → F'[1]? = F[1]? → F'[2]? = F[2]? → F'[3]? = F[3]? → F'[4]? = F[4]? → F'[5]? = some (.slice A' (L0 ++ l.map itPs).length c') → Below w.heap.size w w' → base ≤ w'.heap.size → BoxAt w' w.heap.size TC → XsOwn w' base 97 120 A' c' (L0 ++ l.map itPs) → R ⟨F'.toArray, df⟩ w') :
  (blkOf 4 Tryz.f17).wp Tryz.prog (AtEnd R) ⟨F.toArray, df⟩ wr := by
 obtain rfl : l = [] := List.eq_nil_of_length_eq_zero (by omega)
 obtain ⟨s, rfl⟩ := fr501_ex F hF
 have e5 : s 5 = .slice A0 L0.length c0 := Option.some.inj f5
 have e174 : s 174 = .slice A 0 c := Option.some.inj f174
 have e175 : s 175 = .int .i64 (0 : Int) := Option.some.inj f175
 have e176 : s 176 = .int .i64 0 := Option.some.inj f176
 unfold fr501
 rw [e5, e174, e175, e176]
 have HR := hQ0 hR
 clear hF hR f5 e5 f174 e174 f175 e175 f176 e176
 conv in (blkOf _ _) => whnf
 go_wp2_with fail
 go_loopg [5, 176] 1 (fun gk t5 tt wx => t5 = .slice A0 L0.length c0 ∧ tt = .int .i64 0 ∧ Hid (wx = wr))
 case atStart => exact ⟨rfl, rfl, hQ0 rfl⟩
 case round =>
  obtain ⟨wq, rfl⟩ : ∃ z, z = wr := ⟨_, rfl⟩
  obtain ⟨rfl, rfl, HE⟩ := hrel
  obtain rfl := HE.out
  go_wp2_with fail
  show R _ _
  exact HR.out _ _ A0 c0 rfl rfl rfl rfl rfl (by first | rfl | (rw [List.map_nil, List.append_nil]; rfl)) hb hbs hT (by rw [List.map_nil, List.append_nil]; exact hX)
set_option maxRecDepth 100000 in
set_option maxHeartbeats 8000000 in
theorem lt_fs (w wr : World) (base : Nat) (A A0 : Option Addr) (c c0 : Nat) (l : List Fl) (L0 : List IV) (TC : List Value) (df : List Deferred) (F : List Value) (hF : F.length = 501) (f5 : F[5]? = some (.slice A0 L0.length c0)) (f224 : F[224]? = some (.slice A l.length c)) (f225 : F[225]? = some (.int .i64 (l.length : Int))) (f226 : F[226]? = some (.int .i64 0))
  (hA : RowsAt 15 Fl.cells w A l) (hl : l.length ≤ 0) (hL : L0.length ≤ 100000) (hwb : w.heap.size < base) (hb : Below w.heap.size w wr) (hbs : base ≤ wr.heap.size) (hT : BoxAt wr w.heap.size TC) (hX : XsOwn wr base 97 120 A0 c0 L0) (R : Act → World → Prop)
  (hR : ∀ (F' : List Value) (w' : World) (A' : Option Addr) (c' : Nat), F'.length = 501 → F'[1]? = F[1]? → F'[2]? = F[2]? → F'[3]? = F[3]? → F'[4]? = F[4]? → F'[5]? = some (.slice A' (L0 ++ l.map itFl).length c') → Below w.heap.size w w' → base ≤ w'.heap.size → BoxAt w' w.heap.size TC → XsOwn w' base 97 120 A' c' (L0 ++ l.map itFl) → R ⟨F'.toArray, df⟩ w') :
  (blkOf 6 Tryz.f17).wp Tryz.prog (AtEnd R) ⟨F.toArray, df⟩ wr := by
 obtain rfl : l = [] := List.eq_nil_of_length_eq_zero (by omega)
 obtain ⟨s, rfl⟩ := fr501_ex F hF
 have e5 : s 5 = .slice A0 L0.length c0 := Option.some.inj f5
 have e224 : s 224 = .slice A 0 c := Option.some.inj f224
 have e225 : s 225 = .int .i64 (0 : Int) := Option.some.inj f225
 have e226 : s 226 = .int .i64 0 := Option.some.inj f226
 unfold fr501
 rw [e5, e224, e225, e226]
 have HR := hQ0 hR
 clear hF hR f5 e5 f224 e224 f225 e225 f226 e226
 conv in (blkOf _ _) => whnf
 go_wp2_with fail
 go_loopg [5, 226] 1 (fun gk t5 tt wx => t5 = .slice A0 L0.length c0 ∧ tt = .int .i64 0 ∧ Hid (wx = wr))
 case atStart => exact ⟨rfl, rfl, hQ0 rfl⟩
 case round =>
  obtain ⟨wq, rfl⟩ : ∃ z, z = wr := ⟨_, rfl⟩
  obtain ⟨rfl, rfl, HE⟩ := hrel
  obtain rfl := HE.out
  go_wp2_with fail
  show R _ _
  exact HR.out _ _ A0 c0 rfl rfl rfl rfl rfl (by first | rfl | (rw [List.map_nil, List.append_nil]; rfl)) hb hbs hT (by rw [List.map_nil, List.append_nil]; exact hX)
set_option maxRecDepth 100000 in
set_option maxHeartbeats 8000000 in
theorem lt_zs (w wr : World) (base : Nat) (A A0 : Option Addr) (c c0 : Nat) (l : List Zn) (L0 : List IV) (TC : List Value) (df : List Deferred) (F : List Value) (hF : F.length = 501) (f5 : F[5]? = some (.slice A0 L0.length c0)) (f289 : F[289]? = some (.slice A l.length c)) (f290 : F[290]? = some (.int .i64 (l.length : Int))) (f291 : F[291]? = some (.int .i64 0))
  (hA : RowsAt 9 Zn.cells w A l) (hl : l.length ≤ 0) (hL : L0.length ≤ 100000) (hwb : w.heap.size < base) (hb : Below w.heap.size w wr) (hbs : base ≤ wr.heap.size) (hT : BoxAt wr w.heap.size TC) (hX : XsOwn wr base 97 120 A0 c0 L0) (R : Act → World → Prop)
  (hR : ∀ (F' : List Value) (w' : World) (A' : Option Addr) (c' : Nat), F'.length = 501 → F'[1]? = F[1]? → F'[2]? = F[2]? → F'[3]? = F[3]? → F'[4]? = F[4]? → F'[5]? = some (.slice A' (L0 ++ l.map itZn).length c') → Below w.heap.size w w' → base ≤ w'.heap.size → BoxAt w' w.heap.size TC → XsOwn w' base 97 120 A' c' (L0 ++ l.map itZn) → R ⟨F'.toArray, df⟩ w') :
  (blkOf 8 Tryz.f17).wp Tryz.prog (AtEnd R) ⟨F.toArray, df⟩ wr := by
 obtain rfl : l = [] := List.eq_nil_of_length_eq_zero (by omega)
 obtain ⟨s, rfl⟩ := fr501_ex F hF
 have e5 : s 5 = .slice A0 L0.length c0 := Option.some.inj f5
 have e289 : s 289 = .slice A 0 c := Option.some.inj f289
 have e290 : s 290 = .int .i64 (0 : Int) := Option.some.inj f290
 have e291 : s 291 = .int .i64 0 := Option.some.inj f291
 unfold fr501
 rw [e5, e289, e290, e291]
 have HR := hQ0 hR
 clear hF hR f5 e5 f289 e289 f290 e290 f291 e291
 conv in (blkOf _ _) => whnf
 go_wp2_with fail
 go_loopg [5, 291] 1 (fun gk t5 tt wx => t5 = .slice A0 L0.length c0 ∧ tt = .int .i64 0 ∧ Hid (wx = wr))
 case atStart => exact ⟨rfl, rfl, hQ0 rfl⟩
 case round =>
  obtain ⟨wq, rfl⟩ : ∃ z, z = wr := ⟨_, rfl⟩
  obtain ⟨rfl, rfl, HE⟩ := hrel
  obtain rfl := HE.out
  go_wp2_with fail
  show R _ _
  exact HR.out _ _ A0 c0 rfl rfl rfl rfl rfl (by first | rfl | (rw [List.map_nil, List.append_nil]; rfl)) hb hbs hT (by rw [List.map_nil, List.append_nil]; exact hX)
set_option maxRecDepth 100000 in
set_option maxHeartbeats 8000000 in
theorem lt_ss (w wr : World) (base : Nat) (A A0 : Option Addr) (c c0 : Nat) (l : List Sc) (L0 : List IV) (TC : List Value) (df : List Deferred) (F : List Value) (hF : F.length = 501) (f5 : F[5]? = some (.slice A0 L0.length c0)) (f321 : F[321]? = some (.slice A l.length c)) (f322 : F[322]? = some (.int .i64 (l.length : Int))) (f323 : F[323]? = some (.int .i64 0))
  (hA : RowsAt 10 Sc.cells w A l) (hl : l.length ≤ 0) (hL : L0.length ≤ 100000) (hwb : w.heap.size < base) (hb : Below w.heap.size w wr) (hbs : base ≤ wr.heap.size) (hT : BoxAt wr w.heap.size TC) (hX : XsOwn wr base 97 120 A0 c0 L0) (R : Act → World → Prop)
  (hR : ∀ (F' : List Value) (w' : World) (A' : Option Addr) (c' : Nat), F'.length = 501 → F'[1]? = F[1]? → F'[2]? = F[2]? → F'[3]? = F[3]? → F'[4]? = F[4]? → F'[5]? = some (.slice A' (L0 ++ l.map itSc).length c') → Below w.heap.size w w' → base ≤ w'.heap.size → BoxAt w' w.heap.size TC → XsOwn w' base 97 120 A' c' (L0 ++ l.map itSc) → R ⟨F'.toArray, df⟩ w') :
  (blkOf 10 Tryz.f17).wp Tryz.prog (AtEnd R) ⟨F.toArray, df⟩ wr := by
 obtain rfl : l = [] := List.eq_nil_of_length_eq_zero (by omega)
 obtain ⟨s, rfl⟩ := fr501_ex F hF
 have e5 : s 5 = .slice A0 L0.length c0 := Option.some.inj f5
 have e321 : s 321 = .slice A 0 c := Option.some.inj f321
 have e322 : s 322 = .int .i64 (0 : Int) := Option.some.inj f322
 have e323 : s 323 = .int .i64 0 := Option.some.inj f323
 unfold fr501
 rw [e5, e321, e322, e323]
 have HR := hQ0 hR
 clear hF hR f5 e5 f321 e321 f322 e322 f323 e323
 conv in (blkOf _ _) => whnf
 go_wp2_with fail
 go_loopg [5, 323] 1 (fun gk t5 tt wx => t5 = .slice A0 L0.length c0 ∧ tt = .int .i64 0 ∧ Hid (wx = wr))
 case atStart => exact ⟨rfl, rfl, hQ0 rfl⟩
 case round =>
  obtain ⟨wq, rfl⟩ : ∃ z, z = wr := ⟨_, rfl⟩
  obtain ⟨rfl, rfl, HE⟩ := hrel
  obtain rfl := HE.out
  go_wp2_with fail
  show R _ _
  exact HR.out _ _ A0 c0 rfl rfl rfl rfl rfl (by first | rfl | (rw [List.map_nil, List.append_nil]; rfl)) hb hbs hT (by rw [List.map_nil, List.append_nil]; exact hX)
set_option maxRecDepth 100000 in
set_option maxHeartbeats 8000000 in
theorem lt_las (w wr : World) (base : Nat) (A A0 : Option Addr) (c c0 : Nat) (l : List La) (L0 : List IV) (TC : List Value) (df : List Deferred) (F : List Value) (hF : F.length = 501) (f5 : F[5]? = some (.slice A0 L0.length c0)) (f362 : F[362]? = some (.slice A l.length c)) (f363 : F[363]? = some (.int .i64 (l.length : Int))) (f364 : F[364]? = some (.int .i64 0))
  (hA : RowsAt 6 La.cells w A l) (hl : l.length ≤ 0) (hL : L0.length ≤ 100000) (hwb : w.heap.size < base) (hb : Below w.heap.size w wr) (hbs : base ≤ wr.heap.size) (hT : BoxAt wr w.heap.size TC) (hX : XsOwn wr base 97 120 A0 c0 L0) (R : Act → World → Prop)
  (hR : ∀ (F' : List Value) (w' : World) (A' : Option Addr) (c' : Nat), F'.length = 501 → F'[1]? = F[1]? → F'[2]? = F[2]? → F'[3]? = F[3]? → F'[4]? = F[4]? → F'[5]? = some (.slice A' (L0 ++ l.map itLa).length c') → Below w.heap.size w w' → base ≤ w'.heap.size → BoxAt w' w.heap.size TC → XsOwn w' base 97 120 A' c' (L0 ++ l.map itLa) → R ⟨F'.toArray, df⟩ w') :
  (blkOf 12 Tryz.f17).wp Tryz.prog (AtEnd R) ⟨F.toArray, df⟩ wr := by
 obtain rfl : l = [] := List.eq_nil_of_length_eq_zero (by omega)
 obtain ⟨s, rfl⟩ := fr501_ex F hF
 have e5 : s 5 = .slice A0 L0.length c0 := Option.some.inj f5
 have e362 : s 362 = .slice A 0 c := Option.some.inj f362
 have e363 : s 363 = .int .i64 (0 : Int) := Option.some.inj f363
 have e364 : s 364 = .int .i64 0 := Option.some.inj f364
 unfold fr501
 rw [e5, e362, e363, e364]
 have HR := hQ0 hR
 clear hF hR f5 e5 f362 e362 f363 e363 f364 e364
 conv in (blkOf _ _) => whnf
 go_wp2_with fail
 go_loopg [5, 364] 1 (fun gk t5 tt wx => t5 = .slice A0 L0.length c0 ∧ tt = .int .i64 0 ∧ Hid (wx = wr))
 case atStart => exact ⟨rfl, rfl, hQ0 rfl⟩
 case round =>
  obtain ⟨wq, rfl⟩ : ∃ z, z = wr := ⟨_, rfl⟩
  obtain ⟨rfl, rfl, HE⟩ := hrel
  obtain rfl := HE.out
  go_wp2_with fail
  show R _ _
  exact HR.out _ _ A0 c0 rfl rfl rfl rfl rfl (by first | rfl | (rw [List.map_nil, List.append_nil]; rfl)) hb hbs hT (by rw [List.map_nil, List.append_nil]; exact hX)
set_option maxRecDepth 100000 in
set_option maxHeartbeats 8000000 in
theorem lt_rs (w wr : World) (base : Nat) (A A0 : Option Addr) (c c0 : Nat) (l : List Ra) (L0 : List IV) (TC : List Value) (df : List Deferred) (F : List Value) (hF : F.length = 501) (f5 : F[5]? = some (.slice A0 L0.length c0)) (f392 : F[392]? = some (.slice A l.length c)) (f393 : F[393]? = some (.int .i64 (l.length : Int))) (f394 : F[394]? = some (.int .i64 0))
  (hA : RowsAt 8 Ra.cells w A l) (hl : l.length ≤ 0) (hL : L0.length ≤ 100000) (hwb : w.heap.size < base) (hb : Below w.heap.size w wr) (hbs : base ≤ wr.heap.size) (hT : BoxAt wr w.heap.size TC) (hX : XsOwn wr base 97 120 A0 c0 L0) (R : Act → World → Prop)
  (hR : ∀ (F' : List Value) (w' : World) (A' : Option Addr) (c' : Nat), F'.length = 501 → F'[1]? = F[1]? → F'[2]? = F[2]? → F'[3]? = F[3]? → F'[4]? = F[4]? → F'[5]? = some (.slice A' (L0 ++ l.map itRa).length c') → Below w.heap.size w w' → base ≤ w'.heap.size → BoxAt w' w.heap.size TC → XsOwn w' base 97 120 A' c' (L0 ++ l.map itRa) → R ⟨F'.toArray, df⟩ w') :
  (blkOf 14 Tryz.f17).wp Tryz.prog (AtEnd R) ⟨F.toArray, df⟩ wr := by
 obtain rfl : l = [] := List.eq_nil_of_length_eq_zero (by omega)
 obtain ⟨s, rfl⟩ := fr501_ex F hF
 have e5 : s 5 = .slice A0 L0.length c0 := Option.some.inj f5
 have e392 : s 392 = .slice A 0 c := Option.some.inj f392
 have e393 : s 393 = .int .i64 (0 : Int) := Option.some.inj f393
 have e394 : s 394 = .int .i64 0 := Option.some.inj f394
 unfold fr501
 rw [e5, e392, e393, e394]
 have HR := hQ0 hR
 clear hF hR f5 e5 f392 e392 f393 e393 f394 e394
 conv in (blkOf _ _) => whnf
 go_wp2_with fail
 go_loopg [5, 394] 1 (fun gk t5 tt wx => t5 = .slice A0 L0.length c0 ∧ tt = .int .i64 0 ∧ Hid (wx = wr))
 case atStart => exact ⟨rfl, rfl, hQ0 rfl⟩
 case round =>
  obtain ⟨wq, rfl⟩ : ∃ z, z = wr := ⟨_, rfl⟩
  obtain ⟨rfl, rfl, HE⟩ := hrel
  obtain rfl := HE.out
  go_wp2_with fail
  show R _ _
  exact HR.out _ _ A0 c0 rfl rfl rfl rfl rfl (by first | rfl | (rw [List.map_nil, List.append_nil]; rfl)) hb hbs hT (by rw [List.map_nil, List.append_nil]; exact hX)
set_option maxRecDepth 100000 in
set_option maxHeartbeats 8000000 in
theorem lt_ds (w wr : World) (base : Nat) (A A0 : Option Addr) (c c0 : Nat) (l : List Dr) (L0 : List IV) (TC : List Value) (df : List Deferred) (F : List Value) (hF : F.length = 501) (f5 : F[5]? = some (.slice A0 L0.length c0)) (f425 : F[425]? = some (.slice A l.length c)) (f426 : F[426]? = some (.int .i64 (l.length : Int))) (f427 : F[427]? = some (.int .i64 0))
  (hA : RowsAt 5 Dr.cells w A l) (hl : l.length ≤ 0) (hL : L0.length ≤ 100000) (hwb : w.heap.size < base) (hb : Below w.heap.size w wr) (hbs : base ≤ wr.heap.size) (hT : BoxAt wr w.heap.size TC) (hX : XsOwn wr base 97 120 A0 c0 L0) (R : Act → World → Prop)
  (hR : ∀ (F' : List Value) (w' : World) (A' : Option Addr) (c' : Nat), F'.length = 501 → F'[1]? = F[1]? → F'[2]? = F[2]? → F'[3]? = F[3]? → F'[4]? = F[4]? → F'[5]? = some (.slice A' (L0 ++ l.map itDr).length c') → Below w.heap.size w w' → base ≤ w'.heap.size → BoxAt w' w.heap.size TC → XsOwn w' base 97 120 A' c' (L0 ++ l.map itDr) → R ⟨F'.toArray, df⟩ w') :
  (blkOf 16 Tryz.f17).wp Tryz.prog (AtEnd R) ⟨F.toArray, df⟩ wr := by
 obtain rfl : l = [] := List.eq_nil_of_length_eq_zero (by omega)
 obtain ⟨s, rfl⟩ := fr501_ex F hF
 have e5 : s 5 = .slice A0 L0.length c0 := Option.some.inj f5
 have e425 : s 425 = .slice A 0 c := Option.some.inj f425
 have e426 : s 426 = .int .i64 (0 : Int) := Option.some.inj f426
 have e427 : s 427 = .int .i64 0 := Option.some.inj f427
 unfold fr501
 rw [e5, e425, e426, e427]
 have HR := hQ0 hR
 clear hF hR f5 e5 f425 e425 f426 e426 f427 e427
 conv in (blkOf _ _) => whnf
 go_wp2_with fail
 go_loopg [5, 427] 1 (fun gk t5 tt wx => t5 = .slice A0 L0.length c0 ∧ tt = .int .i64 0 ∧ Hid (wx = wr))
 case atStart => exact ⟨rfl, rfl, hQ0 rfl⟩
 case round =>
  obtain ⟨wq, rfl⟩ : ∃ z, z = wr := ⟨_, rfl⟩
  obtain ⟨rfl, rfl, HE⟩ := hrel
  obtain rfl := HE.out
  go_wp2_with fail
  show R _ _
  exact HR.out _ _ A0 c0 rfl rfl rfl rfl rfl (by first | rfl | (rw [List.map_nil, List.append_nil]; rfl)) hb hbs hT (by rw [List.map_nil, List.append_nil]; exact hX)
set_option maxRecDepth 100000 in
set_option maxHeartbeats 8000000 in
theorem lt_lns (w wr : World) (base : Nat) (A A0 : Option Addr) (c c0 : Nat) (l : List Ln) (L0 : List IV) (TC : List Value) (df : List Deferred) (F : List Value) (hF : F.length = 501) (f5 : F[5]? = some (.slice A0 L0.length c0)) (f451 : F[451]? = some (.slice A l.length c)) (f452 : F[452]? = some (.int .i64 (l.length : Int))) (f453 : F[453]? = some (.int .i64 0))
  (hA : RowsAt 7 Ln.cells w A l) (hl : l.length ≤ 0) (hL : L0.length ≤ 100000) (hwb : w.heap.size < base) (hb : Below w.heap.size w wr) (hbs : base ≤ wr.heap.size) (hT : BoxAt wr w.heap.size TC) (hX : XsOwn wr base 97 120 A0 c0 L0) (R : Act → World → Prop)
  (hR : ∀ (F' : List Value) (w' : World) (A' : Option Addr) (c' : Nat), F'.length = 501 → F'[1]? = F[1]? → F'[2]? = F[2]? → F'[3]? = F[3]? → F'[4]? = F[4]? → F'[5]? = some (.slice A' (L0 ++ l.map itLn).length c') → Below w.heap.size w w' → base ≤ w'.heap.size → BoxAt w' w.heap.size TC → XsOwn w' base 97 120 A' c' (L0 ++ l.map itLn) → R ⟨F'.toArray, df⟩ w') :
  (blkOf 18 Tryz.f17).wp Tryz.prog (AtEnd R) ⟨F.toArray, df⟩ wr := by
 obtain rfl : l = [] := List.eq_nil_of_length_eq_zero (by omega)
 obtain ⟨s, rfl⟩ := fr501_ex F hF
 have e5 : s 5 = .slice A0 L0.length c0 := Option.some.inj f5
 have e451 : s 451 = .slice A 0 c := Option.some.inj f451
 have e452 : s 452 = .int .i64 (0 : Int) := Option.some.inj f452
 have e453 : s 453 = .int .i64 0 := Option.some.inj f453
 unfold fr501
 rw [e5, e451, e452, e453]
 have HR := hQ0 hR
 clear hF hR f5 e5 f451 e451 f452 e452 f453 e453
 conv in (blkOf _ _) => whnf
 go_wp2_with fail
 go_loopg [5, 453] 1 (fun gk t5 tt wx => t5 = .slice A0 L0.length c0 ∧ tt = .int .i64 0 ∧ Hid (wx = wr))
 case atStart => exact ⟨rfl, rfl, hQ0 rfl⟩
 case round =>
  obtain ⟨wq, rfl⟩ : ∃ z, z = wr := ⟨_, rfl⟩
  obtain ⟨rfl, rfl, HE⟩ := hrel
  obtain rfl := HE.out
  go_wp2_with fail
  show R _ _
  exact HR.out _ _ A0 c0 rfl rfl rfl rfl rfl (by first | rfl | (rw [List.map_nil, List.append_nil]; rfl)) hb hbs hT (by rw [List.map_nil, List.append_nil]; exact hX)
attribute [local go_sem ↓] evalL getL64 setL64
attribute [local go_sem ↓] getL8 setL8
attribute [local go_sem ↓] getL1 getL0
structure Tb.only9 (t : Tb) : Prop where
  ars : t.ars.length ≤ 0
  ps : t.ps.length ≤ 0
  fs : t.fs.length ≤ 0
  zs : t.zs.length ≤ 0
  ss : t.ss.length ≤ 0
  las : t.las.length ≤ 0
  rs : t.rs.length ≤ 0
  ds : t.ds.length ≤ 0
  lns : t.lns.length ≤ 0
set_option maxRecDepth 100000 in
set_option maxHeartbeats 8000000 in
theorem text_any (t : Tb) (a : TbA) (w : World) (hA : TbAt w t a) (hle : t.le 1000) (hok : ∀ x ∈ t.items, okF x) (hsz : (textB t.items).length ≤ 1000000000) (ht : Tabs w) (h9 : t.only9) (hw0 : ∀ x ∈ (parseR (fmtR t.items).1).1, x.word = t_table ∨ x.word = t_wall) :
  Calls Tryz.prog 17 #[t.v a] w fun e w' => e = .returned (.tuple #[.string (textR t).1, .bool (textR t).2]) ∧ Below w.heap.size w w' := by
 have HA := hQ0 hA
 have HL := hQ0 hle
 have HK := hQ0 hok
 have HSZ := hQ0 hsz
 have HTB := hQ0 ht
 have H9 := hQ0 h9
 have HW0 := hQ0 hw0
 clear hA hle hok hsz ht h9 hw0
 obtain ⟨R, hR⟩ : ∃ R, R = textR t := ⟨_, rfl⟩
 have HRr := hQ0 hR
 rw [← hR]
 clear hR
 obtain ⟨a2, ha2⟩ : ∃ z, z = a := ⟨_, rfl⟩
 have HA2 : Hid (TbAt w t a2) := hQ0 (by rw [ha2]; exact HA.out)
 obtain ⟨rad, bal, rst, gx, gy, drg, shf, tr, ws, ars, ps, fs, zs, ss, las, rs, ds, lns⟩ := t
 obtain ⟨Atr, ctr, Aws, cws, Aars, cars, Aps, cps, Afs, cfs, Azs, czs, Ass, css, Alas, clas, Ars, crs, Ads, cds, Alns, clns⟩ := a
 unfold Tb.v
 simp only
 obtain ⟨TC, hTC⟩ : ∃ z : List Value, z = [.int .i64 rad, .int .i64 bal, .int .i64 rst, .int .i64 gx, .int .i64 gy, .int .i64 drg, .int .i64 shf, .slice Atr tr.length ctr, .slice Aws ws.length cws, .slice Aars ars.length cars, .slice Aps ps.length cps, .slice Afs fs.length cfs, .slice Azs zs.length czs, .slice Ass ss.length css, .slice Alas las.length clas, .slice Ars rs.length crs, .slice Ads ds.length cds, .slice Alns lns.length clns] := ⟨_, rfl⟩
 have HTC2 : Hid (TC = Tb.cells ⟨rad, bal, rst, gx, gy, drg, shf, tr, ws, ars, ps, fs, zs, ss, las, rs, ds, lns⟩ a2) := hQ0 (by rw [hTC, ha2]; rfl)
 have HTC := hQ0 hTC
 clear hTC ha2
 go_enter Tryz.func17, Tryz.ntmps17; (try simp only [List.append_eq, List.cons_append, List.nil_append])
 go_upto_region 2 with (fail)
 (refine pin_eqT (fun w1 hE_w1 => ?_))
 have HT1 : Hid (BoxAt w1 w.heap.size TC) := hQ0 (by rw [hE_w1, HTC.out]; exact (BoxAt.new _ _ _).alloc _)
 have HM1 : Hid (BoxAt w1 (w.heap.size + 1) [.string ⟨#[]⟩, .slice none 0 0, .int .i64 0]) := hQ0 (by rw [hE_w1]; exact (by simpa using BoxAt.new (w.alloc _) [.string ⟨#[]⟩, .slice none 0 0, .int .i64 0] 120))
 have HB1 : Hid (Below w.heap.size w w1) := hQ0 (by rw [hE_w1]; ((with_reducible (repeat (first | exact bR _ _ | apply bS | apply bA | apply bD | refine bT ?_ (by assumption) ?_ | refine bO (by assumption) ?_ ?_))) <;> (first | omega | (simp <;> omega))))
 have hz1 : w1.heap.size = w.heap.size + 2 := by rw [hE_w1]; simp
 clear hE_w1
 obtain ⟨mb, hmb⟩ : ∃ z, z = w.heap.size + 1 := ⟨_, rfl⟩
 rw [← hmb] at HM1 ⊢
 obtain ⟨bs, hbs⟩ : ∃ z, z = w.heap.size + 2 := ⟨_, rfl⟩
 have hmm : mb < bs := by omega
 have hwm : w.heap.size < mb := by omega
 have HBS := hQ0 hbs
 have HMB := hQ0 hmb
 obtain ⟨tk, htk⟩ : ∃ k, k = (if 0 < tr.length then k_trough else ⟨#[]⟩) := ⟨_, rfl⟩
 obtain ⟨tvals, htv⟩ : ∃ k, k = tr.take 1 := ⟨_, rfl⟩
 have t7 := HT1.out.c 7 (.slice Atr tr.length ctr) (by rw [HTC.out]; rfl)
 have hltT := HT1.out.lt
 clear hbs hmb
 by_cases htr : 0 < tr.length
 case' neg =>
  have i1 : ¬ (0 : Int) < (tr.length : Int) := by omega
  go_upto_region 4 with (fail)
  (refine pin_eqT (fun w5 hE_w5 => ?_))
  have htr0 : tr = [] := List.eq_nil_of_length_eq_zero (by omega)
  obtain ⟨tA, htA⟩ : ∃ z : Option Addr, z = none := ⟨_, rfl⟩
  obtain ⟨tq, htq⟩ : ∃ z : Nat, z = 0 := ⟨_, rfl⟩
  have HM5 : Hid (BoxAt w5 mb [.string tk, .slice tA tvals.length tq, .int .i64 0]) := hQ0 (by rw [htk, htv, htA, htq, hE_w5, if_neg htr, htr0]; exact HM1.out)
  have HB5 : Hid (Below mb w1 w5) := hQ0 (by rw [hE_w5]; exact Below.refl _ _)
  have HTO : Hid (OwnI w5 bs tA tq tvals) := hQ0 (by rw [htv, htA, htq, htr0]; exact OwnI.nil _ _)
  clear htA htq i1 htr0
 case' pos =>
  have i1 : (0 : Int) < (tr.length : Int) := by omega
  obtain ⟨a1, htr1⟩ : ∃ a1, tr[0]? = some a1 := ⟨tr[0], by simp [htr]⟩
  obtain ⟨gt, ot, rfl, hgt, hct⟩ := (HA.out.tr.below (B := w.heap.size) HB1.out (Nat.le_refl _)) 0 a1 htr1
  have hc0 := hct 0 _ rfl
  simp only [Nat.add_zero, Nat.zero_mul] at hc0
  have htr2 : tr.take 1 = [a1] := by
   cases tr with
   | nil => simp at htr
   | cons q r => simpa using htr1
  clear htr1
  go_upto_region 4 with (go_at_call 56; refine (numA k_trough (some ⟨w.heap.size + 2, 0, none⟩) 1 1 _).mono ?_; rintro e wn ⟨rfl, hbn⟩; have HMn := hQ0 ((HM1.out.alloc _).below hbn (by have := HMB.out; simp; omega)); have m0 := HMn.out.c 0 _ rfl; have m1 := HMn.out.c 1 _ rfl; have m2 := HMn.out.c 2 _ rfl; have mz := HMn.out.fz; have ml := HMn.out.lt)
  (refine pin_eqT (fun w5 hE_w5 => ?_))
  obtain ⟨tA, htA⟩ : ∃ z : Option Addr, z = some ⟨w.heap.size + 2, 0, none⟩ := ⟨_, rfl⟩
  obtain ⟨tq, htq⟩ : ∃ z : Nat, z = 1 := ⟨_, rfl⟩
  have HM5 : Hid (BoxAt w5 mb [.string tk, .slice tA tvals.length tq, .int .i64 0]) := hQ0 (by
   rw [htk, htv, htA, htq, hE_w5, if_pos htr, htr2]
   exact ((HMn.out.set (.string k_trough) (j := 0) rfl).set (.slice (some ⟨w.heap.size + 2, 0, none⟩) 1 1) (j := 1) rfl).set (.int .i64 0) (j := 2) rfl)
  have hbn' : Below w1.heap.size w1 wn := ((Below.refl w1.heap.size w1).alloc (Nat.le_refl _) _).trans (hbn.mono (by simp))
  have HB5 : Hid (Below mb w1 w5) := hQ0 (by
   rw [hE_w5]
   exact ((((hbn'.mono (by have := HMB.out; omega) : Below mb w1 wn)).setCell (Nat.le_refl _) _).setCell (Nat.le_refl _) _).setCell (Nat.le_refl _) _)
  have hgw : (w1.alloc (.cells #[.int .i64 a1] 3)).heap[w.heap.size + 2]? = some (.cells #[.int .i64 a1] 3) := by
   rw [← hz1]
   show (w1.heap.push _)[w1.heap.size]? = some _
   simp
  have HTO : Hid (OwnI w5 bs tA tq tvals) := hQ0 (by
   have hg5 : w5.heap[w.heap.size + 2]? = some (.cells #[.int .i64 a1] 3) := by
    rw [hE_w5, Below.heap_setCell _ _ _ _ (by have := HMB.out; show _ ≠ mb; omega), Below.heap_setCell _ _ _ _ (by have := HMB.out; show _ ≠ mb; omega), Below.heap_setCell _ _ _ _ (by have := HMB.out; show _ ≠ mb; omega)]
    exact (hbn.block _ (by simp; omega)).trans hgw
   rw [htv, htA, htq, htr2]
   exact OwnI.blk1 hg5 (by have := HBS.out; omega))
  clear htA htq i1 htr2 hc0 hct hgt m0 m1 m2 mz ml hE_w5 hgw hbn hbn' HMn
 all_goals (
  have HTK := hQ0 htk
  have HTV := hQ0 htv
  have hbs5 : bs ≤ w5.heap.size := by have := HB5.out.size; have := HBS.out; omega
  clear t7 htr hltT HM1 hz1
  have hHB5 : Below w.heap.size w w5 := HB1.out.trans (HB5.out.mono (by omega))
  have HT5 : Hid (BoxAt w5 w.heap.size TC) := hQ0 (HT1.out.below HB5.out hwm)
  refine wp_of_end (stmt_tb w5 w.heap.size mb bs ⟨rad, bal, rst, gx, gy, drg, shf, tr, ws, ars, ps, fs, zs, ss, las, rs, ds, lns⟩ ⟨_, ctr, Aws, cws, Aars, cars, Aps, cps, Afs, cfs, Azs, czs, Ass, css, Alas, clas, Ars, crs, Ads, cds, Alns, clns⟩ TC tk tvals tA tq _ _ (by rfl) (by rfl) (by rfl) HTC.out HT5.out HM5.out HTO.out hbs5 htk htv _ ?_) (fun _ _ h => h)
  clear HTO HM5 htk htv
  intro F_ w6 A0 c0 hF_ h1_ h2_ h3_ h5_ hb_ hX_
  obtain ⟨sT, rfl⟩ := fr501_ex F_ hF_
  have e1_ : sT 1 = .pointer (some ⟨w.heap.size, 0, none⟩) := Option.some.inj h1_
  obtain ⟨L0, hL0⟩ : ∃ z : List IV, z = [itTb ⟨rad, bal, rst, gx, gy, drg, shf, tr, ws, ars, ps, fs, zs, ss, las, rs, ds, lns⟩] := ⟨_, rfl⟩
  rw [← hL0] at hX_ h5_
  have e5_ : sT 5 = .slice A0 L0.length c0 := Option.some.inj h5_
  have HX2 := hQ0 hX_
  have HB2 : Hid (Below w.heap.size w w6) := hQ0 (hHB5.trans (hb_.mono (by omega)))
  have HT2 := hQ0 (HT5.out.below hb_ HT5.out.lt)
  have hbw6 : bs ≤ w6.heap.size := Nat.le_trans hbs5 hb_.size
  have HL0 := hQ0 hL0
  have HLn0 : Hid (L0.length ≤ 1) := hQ0 (by rw [hL0]; exact Nat.le_refl _)
  clear hX_ hb_ HT5 HB5 hHB5 hL0 HT1 HB1 h1_ h2_ h3_ h5_ hF_ hbs5
  unfold fr501
  rw [e1_, e5_]
  clear e1_ e5_
  show _
  go_upto_region 5 with (fail)
  refine wp_region_lit ?_
  have hS_ : Below w6.heap.size w6 w6 := Below.refl _ _
  apply wpL_maybe true (by exact rfl)
  (case h => intro _; have hcW_ := (bcellW hS_).1; go_simp; first | done | exact rfl)
  intro K hK; (try simp only [opt_true]); go_simp; refine hK _ _ ?_; clear hK K
  apply wpL_maybe true (by exact rfl)
  (case h => intro _; have hY_ := (HT2.out).below hS_ (HT2.out.lt); have y0_ := hY_.c 8 (.slice Aws ws.length cws) ((by rw [HTC.out]; rfl)); go_simp; first | done | exact rfl)
  intro K hK; (try simp only [opt_true]); go_simp; refine hK _ _ ?_; clear hK K
  apply wpL_maybe true (by exact rfl)
  (case h => intro _; have hcW_ := (bcellW hS_).1; go_simp; first | done | exact rfl)
  intro K hK; (try simp only [opt_true]); go_simp; refine hK _ _ ?_; clear hK K
  apply wpL_maybe true (by exact rfl)
  (case h => intro _; have hcW_ := (bcellW hS_).1; go_simp; first | done | exact rfl)
  intro K hK; (try simp only [opt_true]); go_simp; refine hK _ _ ?_; clear hK K
  refine wpList_nil ?_
  (try go_simp)
  go_step
  clear hS_
  refine lt_ws w w6 bs Aws A0 cws c0 ws L0 TC _ _ (by rfl) (by rfl) (by rfl) (by rfl) (by rfl) HA.out.ws HL.out.ws (by have := HLn0.out; omega) (by omega) HB2.out hbw6 HT2.out HX2.out _ ?_ ?_
  · intro hne F_ w9 hF_ h2_ h3_ hb_
    obtain rfl : R = (⟨#[]⟩, false) := HRr.out.trans (if_pos hne)
    obtain ⟨sE, rfl⟩ := fr501_ex F_ hF_
    have e2_ : sE 2 = .string ⟨#[]⟩ := Option.some.inj h2_
    have e3_ : sE 3 = .bool false := Option.some.inj h3_
    unfold fr501
    rw [e2_, e3_]
    clear HX2 HT2 HB2
    go_wp2_with fail
    refine bodyPost_ret (v := .tuple #[.string ⟨#[]⟩, .bool false]) (by simp only [results, Tryz.results17]; go_simp) rfl ?_
    exact ⟨rfl, hb_⟩
  intro hkd F_ wL0 A1 c1 hF_ h1_ h4_ h5_ hb_ hbw_ hT_ hX_
  have HKD := hQ0 hkd
  clear hkd
  clear HB2 HT2 HX2
  obtain ⟨s0, rfl⟩ := fr501_ex F_ hF_
  have e1_ : s0 1 = .pointer (some ⟨w.heap.size, 0, none⟩) := Option.some.inj h1_
  obtain ⟨L1, hL1⟩ : ∃ z : List IV, z = L0 ++ ws.map itWl := ⟨_, rfl⟩
  rw [← hL1] at hX_ h5_
  have e5_ : s0 5 = .slice A1 L1.length c1 := Option.some.inj h5_
  have HX2 := hQ0 hX_
  have HB2 := hQ0 hb_
  have HT2 := hQ0 hT_
  have hbwL0 := hbw_
  have HL1 := hQ0 hL1
  have HLn1 : Hid (L1.length ≤ 1001) := hQ0 (by rw [hL1, List.length_append, List.length_map]; have h1 := HLn0.out; have h2 := HL.out.ws; simp only at h2; omega)
  clear hX_ hb_ hT_ hL1 h5_ h1_ hF_
  unfold fr501
  rw [e1_, e5_]
  clear e1_ e5_
  show _
  go_upto_region 13 with (fail)
  refine wp_region_lit ?_
  have hS_ : Below wL0.heap.size wL0 wL0 := Below.refl _ _
  apply wpL_maybe true (by exact rfl)
  (case h => intro _; have hcW_ := (bcellW hS_).1; go_simp; first | done | exact rfl)
  intro K hK; (try simp only [opt_true]); go_simp; refine hK _ _ ?_; clear hK K
  apply wpL_maybe true (by exact rfl)
  (case h => intro _; have hY_ := (HT2.out).below hS_ (HT2.out.lt); have y0_ := hY_.c 9 (.slice Aars ars.length cars) ((by rw [HTC.out]; rfl)); go_simp; first | done | exact rfl)
  intro K hK; (try simp only [opt_true]); go_simp; refine hK _ _ ?_; clear hK K
  apply wpL_maybe true (by exact rfl)
  (case h => intro _; have hcW_ := (bcellW hS_).1; go_simp; first | done | exact rfl)
  intro K hK; (try simp only [opt_true]); go_simp; refine hK _ _ ?_; clear hK K
  apply wpL_maybe true (by exact rfl)
  (case h => intro _; have hcW_ := (bcellW hS_).1; go_simp; first | done | exact rfl)
  intro K hK; (try simp only [opt_true]); go_simp; refine hK _ _ ?_; clear hK K
  refine wpList_nil ?_
  (try go_simp)
  go_step
  clear hS_
  refine wp_of_end (lt_ars w wL0 bs Aars A1 cars c1 ars L1 TC _ _ (by rfl) (by rfl) (by rfl) (by rfl) (by rfl) HA.out.ars H9.out.ars (by have := HLn1.out; omega) (by omega) HB2.out hbwL0 HT2.out HX2.out _ ?_) (fun _ _ h => h)
  intro F_ wL1 A2 c2 hF_ h1_ h2_ h3_ h4_ h5_ hb_ hbw_ hT_ hX_
  clear HB2 HT2 HX2
  obtain ⟨s1, rfl⟩ := fr501_ex F_ hF_
  have e1_ : s1 1 = .pointer (some ⟨w.heap.size, 0, none⟩) := Option.some.inj h1_
  obtain ⟨L2, hL2⟩ : ∃ z : List IV, z = L1 ++ ars.map itAc := ⟨_, rfl⟩
  rw [← hL2] at hX_ h5_
  have e5_ : s1 5 = .slice A2 L2.length c2 := Option.some.inj h5_
  have HX2 := hQ0 hX_
  have HB2 := hQ0 hb_
  have HT2 := hQ0 hT_
  have hbwL1 := hbw_
  have HL2 := hQ0 hL2
  have HLn2 : Hid (L2.length ≤ 2001) := hQ0 (by rw [hL2, List.length_append, List.length_map]; have h1 := HLn1.out; have h2 := HL.out.ars; simp only at h2; omega)
  clear hX_ hb_ hT_ hL2 h5_ h1_ hF_
  unfold fr501
  rw [e1_, e5_]
  clear e1_ e5_
  show _
  as_aux_lemma =>
   go_upto_region 18 with (fail)
   refine wp_region_lit ?_
   have hS_ : Below wL1.heap.size wL1 wL1 := Below.refl _ _
   apply wpL_maybe true (by exact rfl)
   (case h => intro _; have hcW_ := (bcellW hS_).1; go_simp; first | done | exact rfl)
   intro K hK; (try simp only [opt_true]); go_simp; refine hK _ _ ?_; clear hK K
   apply wpL_maybe true (by exact rfl)
   (case h => intro _; have hY_ := (HT2.out).below hS_ (HT2.out.lt); have y0_ := hY_.c 10 (.slice Aps ps.length cps) ((by rw [HTC.out]; rfl)); go_simp; first | done | exact rfl)
   intro K hK; (try simp only [opt_true]); go_simp; refine hK _ _ ?_; clear hK K
   apply wpL_maybe true (by exact rfl)
   (case h => intro _; have hcW_ := (bcellW hS_).1; go_simp; first | done | exact rfl)
   intro K hK; (try simp only [opt_true]); go_simp; refine hK _ _ ?_; clear hK K
   apply wpL_maybe true (by exact rfl)
   (case h => intro _; have hcW_ := (bcellW hS_).1; go_simp; first | done | exact rfl)
   intro K hK; (try simp only [opt_true]); go_simp; refine hK _ _ ?_; clear hK K
   refine wpList_nil ?_
   (try go_simp)
   go_step
   clear hS_
   refine wp_of_end (lt_ps w wL1 bs Aps A2 cps c2 ps L2 TC _ _ (by rfl) (by rfl) (by rfl) (by rfl) (by rfl) HA.out.ps H9.out.ps (by have := HLn2.out; omega) (by omega) HB2.out hbwL1 HT2.out HX2.out _ ?_) (fun _ _ h => h)
   intro F_ wL2 A3 c3 hF_ h1_ h2_ h3_ h4_ h5_ hb_ hbw_ hT_ hX_
   clear HB2 HT2 HX2
   obtain ⟨s2, rfl⟩ := fr501_ex F_ hF_
   have e1_ : s2 1 = .pointer (some ⟨w.heap.size, 0, none⟩) := Option.some.inj h1_
   obtain ⟨L3, hL3⟩ : ∃ z : List IV, z = L2 ++ ps.map itPs := ⟨_, rfl⟩
   rw [← hL3] at hX_ h5_
   have e5_ : s2 5 = .slice A3 L3.length c3 := Option.some.inj h5_
   have HX2 := hQ0 hX_
   have HB2 := hQ0 hb_
   have HT2 := hQ0 hT_
   have hbwL2 := hbw_
   have HL3 := hQ0 hL3
   have HLn3 : Hid (L3.length ≤ 3001) := hQ0 (by rw [hL3, List.length_append, List.length_map]; have h1 := HLn2.out; have h2 := HL.out.ps; simp only at h2; omega)
   clear hX_ hb_ hT_ hL3 h5_ h1_ hF_
   unfold fr501
   rw [e1_, e5_]
   clear e1_ e5_
   show _
   go_upto_region 23 with (fail)
   refine wp_region_lit ?_
   have hS_ : Below wL2.heap.size wL2 wL2 := Below.refl _ _
   apply wpL_maybe true (by exact rfl)
   (case h => intro _; have hcW_ := (bcellW hS_).1; go_simp; first | done | exact rfl)
   intro K hK; (try simp only [opt_true]); go_simp; refine hK _ _ ?_; clear hK K
   apply wpL_maybe true (by exact rfl)
   (case h => intro _; have hY_ := (HT2.out).below hS_ (HT2.out.lt); have y0_ := hY_.c 11 (.slice Afs fs.length cfs) ((by rw [HTC.out]; rfl)); go_simp; first | done | exact rfl)
   intro K hK; (try simp only [opt_true]); go_simp; refine hK _ _ ?_; clear hK K
   apply wpL_maybe true (by exact rfl)
   (case h => intro _; have hcW_ := (bcellW hS_).1; go_simp; first | done | exact rfl)
   intro K hK; (try simp only [opt_true]); go_simp; refine hK _ _ ?_; clear hK K
   apply wpL_maybe true (by exact rfl)
   (case h => intro _; have hcW_ := (bcellW hS_).1; go_simp; first | done | exact rfl)
   intro K hK; (try simp only [opt_true]); go_simp; refine hK _ _ ?_; clear hK K
   refine wpList_nil ?_
   (try go_simp)
   go_step
   clear hS_
   refine wp_of_end (lt_fs w wL2 bs Afs A3 cfs c3 fs L3 TC _ _ (by rfl) (by rfl) (by rfl) (by rfl) (by rfl) HA.out.fs H9.out.fs (by have := HLn3.out; omega) (by omega) HB2.out hbwL2 HT2.out HX2.out _ ?_) (fun _ _ h => h)
   intro F_ wL3 A4 c4 hF_ h1_ h2_ h3_ h4_ h5_ hb_ hbw_ hT_ hX_
   clear HB2 HT2 HX2
   obtain ⟨s3, rfl⟩ := fr501_ex F_ hF_
   have e1_ : s3 1 = .pointer (some ⟨w.heap.size, 0, none⟩) := Option.some.inj h1_
   obtain ⟨L4, hL4⟩ : ∃ z : List IV, z = L3 ++ fs.map itFl := ⟨_, rfl⟩
   rw [← hL4] at hX_ h5_
   have e5_ : s3 5 = .slice A4 L4.length c4 := Option.some.inj h5_
   have HX2 := hQ0 hX_
   have HB2 := hQ0 hb_
   have HT2 := hQ0 hT_
   have hbwL3 := hbw_
   have HL4 := hQ0 hL4
   have HLn4 : Hid (L4.length ≤ 4001) := hQ0 (by rw [hL4, List.length_append, List.length_map]; have h1 := HLn3.out; have h2 := HL.out.fs; simp only at h2; omega)
   clear hX_ hb_ hT_ hL4 h5_ h1_ hF_
   unfold fr501
   rw [e1_, e5_]
   clear e1_ e5_
   show _
   as_aux_lemma =>
    go_upto_region 31 with (fail)
    refine wp_region_lit ?_
    have hS_ : Below wL3.heap.size wL3 wL3 := Below.refl _ _
    apply wpL_maybe true (by exact rfl)
    (case h => intro _; have hcW_ := (bcellW hS_).1; go_simp; first | done | exact rfl)
    intro K hK; (try simp only [opt_true]); go_simp; refine hK _ _ ?_; clear hK K
    apply wpL_maybe true (by exact rfl)
    (case h => intro _; have hY_ := (HT2.out).below hS_ (HT2.out.lt); have y0_ := hY_.c 12 (.slice Azs zs.length czs) ((by rw [HTC.out]; rfl)); go_simp; first | done | exact rfl)
    intro K hK; (try simp only [opt_true]); go_simp; refine hK _ _ ?_; clear hK K
    apply wpL_maybe true (by exact rfl)
    (case h => intro _; have hcW_ := (bcellW hS_).1; go_simp; first | done | exact rfl)
    intro K hK; (try simp only [opt_true]); go_simp; refine hK _ _ ?_; clear hK K
    apply wpL_maybe true (by exact rfl)
    (case h => intro _; have hcW_ := (bcellW hS_).1; go_simp; first | done | exact rfl)
    intro K hK; (try simp only [opt_true]); go_simp; refine hK _ _ ?_; clear hK K
    refine wpList_nil ?_
    (try go_simp)
    go_step
    clear hS_
    refine wp_of_end (lt_zs w wL3 bs Azs A4 czs c4 zs L4 TC _ _ (by rfl) (by rfl) (by rfl) (by rfl) (by rfl) HA.out.zs H9.out.zs (by have := HLn4.out; omega) (by omega) HB2.out hbwL3 HT2.out HX2.out _ ?_) (fun _ _ h => h)
    intro F_ wL4 A5 c5 hF_ h1_ h2_ h3_ h4_ h5_ hb_ hbw_ hT_ hX_
    clear HB2 HT2 HX2
    obtain ⟨s4, rfl⟩ := fr501_ex F_ hF_
    have e1_ : s4 1 = .pointer (some ⟨w.heap.size, 0, none⟩) := Option.some.inj h1_
    obtain ⟨L5, hL5⟩ : ∃ z : List IV, z = L4 ++ zs.map itZn := ⟨_, rfl⟩
    rw [← hL5] at hX_ h5_
    have e5_ : s4 5 = .slice A5 L5.length c5 := Option.some.inj h5_
    have HX2 := hQ0 hX_
    have HB2 := hQ0 hb_
    have HT2 := hQ0 hT_
    have hbwL4 := hbw_
    have HL5 := hQ0 hL5
    have HLn5 : Hid (L5.length ≤ 5001) := hQ0 (by rw [hL5, List.length_append, List.length_map]; have h1 := HLn4.out; have h2 := HL.out.zs; simp only at h2; omega)
    clear hX_ hb_ hT_ hL5 h5_ h1_ hF_
    unfold fr501
    rw [e1_, e5_]
    clear e1_ e5_
    show _
    go_upto_region 36 with (fail)
    refine wp_region_lit ?_
    have hS_ : Below wL4.heap.size wL4 wL4 := Below.refl _ _
    apply wpL_maybe true (by exact rfl)
    (case h => intro _; have hcW_ := (bcellW hS_).1; go_simp; first | done | exact rfl)
    intro K hK; (try simp only [opt_true]); go_simp; refine hK _ _ ?_; clear hK K
    apply wpL_maybe true (by exact rfl)
    (case h => intro _; have hY_ := (HT2.out).below hS_ (HT2.out.lt); have y0_ := hY_.c 13 (.slice Ass ss.length css) ((by rw [HTC.out]; rfl)); go_simp; first | done | exact rfl)
    intro K hK; (try simp only [opt_true]); go_simp; refine hK _ _ ?_; clear hK K
    apply wpL_maybe true (by exact rfl)
    (case h => intro _; have hcW_ := (bcellW hS_).1; go_simp; first | done | exact rfl)
    intro K hK; (try simp only [opt_true]); go_simp; refine hK _ _ ?_; clear hK K
    apply wpL_maybe true (by exact rfl)
    (case h => intro _; have hcW_ := (bcellW hS_).1; go_simp; first | done | exact rfl)
    intro K hK; (try simp only [opt_true]); go_simp; refine hK _ _ ?_; clear hK K
    refine wpList_nil ?_
    (try go_simp)
    go_step
    clear hS_
    refine wp_of_end (lt_ss w wL4 bs Ass A5 css c5 ss L5 TC _ _ (by rfl) (by rfl) (by rfl) (by rfl) (by rfl) HA.out.ss H9.out.ss (by have := HLn5.out; omega) (by omega) HB2.out hbwL4 HT2.out HX2.out _ ?_) (fun _ _ h => h)
    intro F_ wL5 A6 c6 hF_ h1_ h2_ h3_ h4_ h5_ hb_ hbw_ hT_ hX_
    clear HB2 HT2 HX2
    obtain ⟨s5, rfl⟩ := fr501_ex F_ hF_
    have e1_ : s5 1 = .pointer (some ⟨w.heap.size, 0, none⟩) := Option.some.inj h1_
    obtain ⟨L6, hL6⟩ : ∃ z : List IV, z = L5 ++ ss.map itSc := ⟨_, rfl⟩
    rw [← hL6] at hX_ h5_
    have e5_ : s5 5 = .slice A6 L6.length c6 := Option.some.inj h5_
    have HX2 := hQ0 hX_
    have HB2 := hQ0 hb_
    have HT2 := hQ0 hT_
    have hbwL5 := hbw_
    have HL6 := hQ0 hL6
    have HLn6 : Hid (L6.length ≤ 6001) := hQ0 (by rw [hL6, List.length_append, List.length_map]; have h1 := HLn5.out; have h2 := HL.out.ss; simp only at h2; omega)
    clear hX_ hb_ hT_ hL6 h5_ h1_ hF_
    unfold fr501
    rw [e1_, e5_]
    clear e1_ e5_
    show _
    as_aux_lemma =>
     go_upto_region 41 with (fail)
     refine wp_region_lit ?_
     have hS_ : Below wL5.heap.size wL5 wL5 := Below.refl _ _
     apply wpL_maybe true (by exact rfl)
     (case h => intro _; have hcW_ := (bcellW hS_).1; go_simp; first | done | exact rfl)
     intro K hK; (try simp only [opt_true]); go_simp; refine hK _ _ ?_; clear hK K
     apply wpL_maybe true (by exact rfl)
     (case h => intro _; have hY_ := (HT2.out).below hS_ (HT2.out.lt); have y0_ := hY_.c 14 (.slice Alas las.length clas) ((by rw [HTC.out]; rfl)); go_simp; first | done | exact rfl)
     intro K hK; (try simp only [opt_true]); go_simp; refine hK _ _ ?_; clear hK K
     apply wpL_maybe true (by exact rfl)
     (case h => intro _; have hcW_ := (bcellW hS_).1; go_simp; first | done | exact rfl)
     intro K hK; (try simp only [opt_true]); go_simp; refine hK _ _ ?_; clear hK K
     apply wpL_maybe true (by exact rfl)
     (case h => intro _; have hcW_ := (bcellW hS_).1; go_simp; first | done | exact rfl)
     intro K hK; (try simp only [opt_true]); go_simp; refine hK _ _ ?_; clear hK K
     refine wpList_nil ?_
     (try go_simp)
     go_step
     clear hS_
     refine wp_of_end (lt_las w wL5 bs Alas A6 clas c6 las L6 TC _ _ (by rfl) (by rfl) (by rfl) (by rfl) (by rfl) HA.out.las H9.out.las (by have := HLn6.out; omega) (by omega) HB2.out hbwL5 HT2.out HX2.out _ ?_) (fun _ _ h => h)
     intro F_ wL6 A7 c7 hF_ h1_ h2_ h3_ h4_ h5_ hb_ hbw_ hT_ hX_
     clear HB2 HT2 HX2
     obtain ⟨s6, rfl⟩ := fr501_ex F_ hF_
     have e1_ : s6 1 = .pointer (some ⟨w.heap.size, 0, none⟩) := Option.some.inj h1_
     obtain ⟨L7, hL7⟩ : ∃ z : List IV, z = L6 ++ las.map itLa := ⟨_, rfl⟩
     rw [← hL7] at hX_ h5_
     have e5_ : s6 5 = .slice A7 L7.length c7 := Option.some.inj h5_
     have HX2 := hQ0 hX_
     have HB2 := hQ0 hb_
     have HT2 := hQ0 hT_
     have hbwL6 := hbw_
     have HL7 := hQ0 hL7
     have HLn7 : Hid (L7.length ≤ 7001) := hQ0 (by rw [hL7, List.length_append, List.length_map]; have h1 := HLn6.out; have h2 := HL.out.las; simp only at h2; omega)
     clear hX_ hb_ hT_ hL7 h5_ h1_ hF_
     unfold fr501
     rw [e1_, e5_]
     clear e1_ e5_
     show _
     go_upto_region 46 with (fail)
     refine wp_region_lit ?_
     have hS_ : Below wL6.heap.size wL6 wL6 := Below.refl _ _
     apply wpL_maybe true (by exact rfl)
     (case h => intro _; have hcW_ := (bcellW hS_).1; go_simp; first | done | exact rfl)
     intro K hK; (try simp only [opt_true]); go_simp; refine hK _ _ ?_; clear hK K
     apply wpL_maybe true (by exact rfl)
     (case h => intro _; have hY_ := (HT2.out).below hS_ (HT2.out.lt); have y0_ := hY_.c 15 (.slice Ars rs.length crs) ((by rw [HTC.out]; rfl)); go_simp; first | done | exact rfl)
     intro K hK; (try simp only [opt_true]); go_simp; refine hK _ _ ?_; clear hK K
     apply wpL_maybe true (by exact rfl)
     (case h => intro _; have hcW_ := (bcellW hS_).1; go_simp; first | done | exact rfl)
     intro K hK; (try simp only [opt_true]); go_simp; refine hK _ _ ?_; clear hK K
     apply wpL_maybe true (by exact rfl)
     (case h => intro _; have hcW_ := (bcellW hS_).1; go_simp; first | done | exact rfl)
     intro K hK; (try simp only [opt_true]); go_simp; refine hK _ _ ?_; clear hK K
     refine wpList_nil ?_
     (try go_simp)
     go_step
     clear hS_
     refine wp_of_end (lt_rs w wL6 bs Ars A7 crs c7 rs L7 TC _ _ (by rfl) (by rfl) (by rfl) (by rfl) (by rfl) HA.out.rs H9.out.rs (by have := HLn7.out; omega) (by omega) HB2.out hbwL6 HT2.out HX2.out _ ?_) (fun _ _ h => h)
     intro F_ wL7 A8 c8 hF_ h1_ h2_ h3_ h4_ h5_ hb_ hbw_ hT_ hX_
     clear HB2 HT2 HX2
     obtain ⟨s7, rfl⟩ := fr501_ex F_ hF_
     have e1_ : s7 1 = .pointer (some ⟨w.heap.size, 0, none⟩) := Option.some.inj h1_
     obtain ⟨L8, hL8⟩ : ∃ z : List IV, z = L7 ++ rs.map itRa := ⟨_, rfl⟩
     rw [← hL8] at hX_ h5_
     have e5_ : s7 5 = .slice A8 L8.length c8 := Option.some.inj h5_
     have HX2 := hQ0 hX_
     have HB2 := hQ0 hb_
     have HT2 := hQ0 hT_
     have hbwL7 := hbw_
     have HL8 := hQ0 hL8
     have HLn8 : Hid (L8.length ≤ 8001) := hQ0 (by rw [hL8, List.length_append, List.length_map]; have h1 := HLn7.out; have h2 := HL.out.rs; simp only at h2; omega)
     clear hX_ hb_ hT_ hL8 h5_ h1_ hF_
     unfold fr501
     rw [e1_, e5_]
     clear e1_ e5_
     show _
     as_aux_lemma =>
      go_upto_region 51 with (fail)
      refine wp_region_lit ?_
      have hS_ : Below wL7.heap.size wL7 wL7 := Below.refl _ _
      apply wpL_maybe true (by exact rfl)
      (case h => intro _; have hcW_ := (bcellW hS_).1; go_simp; first | done | exact rfl)
      intro K hK; (try simp only [opt_true]); go_simp; refine hK _ _ ?_; clear hK K
      apply wpL_maybe true (by exact rfl)
      (case h => intro _; have hY_ := (HT2.out).below hS_ (HT2.out.lt); have y0_ := hY_.c 16 (.slice Ads ds.length cds) ((by rw [HTC.out]; rfl)); go_simp; first | done | exact rfl)
      intro K hK; (try simp only [opt_true]); go_simp; refine hK _ _ ?_; clear hK K
      apply wpL_maybe true (by exact rfl)
      (case h => intro _; have hcW_ := (bcellW hS_).1; go_simp; first | done | exact rfl)
      intro K hK; (try simp only [opt_true]); go_simp; refine hK _ _ ?_; clear hK K
      apply wpL_maybe true (by exact rfl)
      (case h => intro _; have hcW_ := (bcellW hS_).1; go_simp; first | done | exact rfl)
      intro K hK; (try simp only [opt_true]); go_simp; refine hK _ _ ?_; clear hK K
      refine wpList_nil ?_
      (try go_simp)
      go_step
      clear hS_
      refine wp_of_end (lt_ds w wL7 bs Ads A8 cds c8 ds L8 TC _ _ (by rfl) (by rfl) (by rfl) (by rfl) (by rfl) HA.out.ds H9.out.ds (by have := HLn8.out; omega) (by omega) HB2.out hbwL7 HT2.out HX2.out _ ?_) (fun _ _ h => h)
      intro F_ wL8 A9 c9 hF_ h1_ h2_ h3_ h4_ h5_ hb_ hbw_ hT_ hX_
      clear HB2 HT2 HX2
      obtain ⟨s8, rfl⟩ := fr501_ex F_ hF_
      have e1_ : s8 1 = .pointer (some ⟨w.heap.size, 0, none⟩) := Option.some.inj h1_
      obtain ⟨L9, hL9⟩ : ∃ z : List IV, z = L8 ++ ds.map itDr := ⟨_, rfl⟩
      rw [← hL9] at hX_ h5_
      have e5_ : s8 5 = .slice A9 L9.length c9 := Option.some.inj h5_
      have HX2 := hQ0 hX_
      have HB2 := hQ0 hb_
      have HT2 := hQ0 hT_
      have hbwL8 := hbw_
      have HL9 := hQ0 hL9
      have HLn9 : Hid (L9.length ≤ 9001) := hQ0 (by rw [hL9, List.length_append, List.length_map]; have h1 := HLn8.out; have h2 := HL.out.ds; simp only at h2; omega)
      clear hX_ hb_ hT_ hL9 h5_ h1_ hF_
      unfold fr501
      rw [e1_, e5_]
      clear e1_ e5_
      show _
      go_upto_region 56 with (fail)
      refine wp_region_lit ?_
      have hS_ : Below wL8.heap.size wL8 wL8 := Below.refl _ _
      apply wpL_maybe true (by exact rfl)
      (case h => intro _; have hcW_ := (bcellW hS_).1; go_simp; first | done | exact rfl)
      intro K hK; (try simp only [opt_true]); go_simp; refine hK _ _ ?_; clear hK K
      apply wpL_maybe true (by exact rfl)
      (case h => intro _; have hY_ := (HT2.out).below hS_ (HT2.out.lt); have y0_ := hY_.c 17 (.slice Alns lns.length clns) ((by rw [HTC.out]; rfl)); go_simp; first | done | exact rfl)
      intro K hK; (try simp only [opt_true]); go_simp; refine hK _ _ ?_; clear hK K
      apply wpL_maybe true (by exact rfl)
      (case h => intro _; have hcW_ := (bcellW hS_).1; go_simp; first | done | exact rfl)
      intro K hK; (try simp only [opt_true]); go_simp; refine hK _ _ ?_; clear hK K
      apply wpL_maybe true (by exact rfl)
      (case h => intro _; have hcW_ := (bcellW hS_).1; go_simp; first | done | exact rfl)
      intro K hK; (try simp only [opt_true]); go_simp; refine hK _ _ ?_; clear hK K
      refine wpList_nil ?_
      (try go_simp)
      go_step
      clear hS_
      refine wp_of_end (lt_lns w wL8 bs Alns A9 clns c9 lns L9 TC _ _ (by rfl) (by rfl) (by rfl) (by rfl) (by rfl) HA.out.lns H9.out.lns (by have := HLn9.out; omega) (by omega) HB2.out hbwL8 HT2.out HX2.out _ ?_) (fun _ _ h => h)
      intro F_ wL9 A10 c10 hF_ h1_ h2_ h3_ h4_ h5_ hb_ hbw_ hT_ hX_
      clear HB2 HT2 HX2
      obtain ⟨s9, rfl⟩ := fr501_ex F_ hF_
      have e1_ : s9 1 = .pointer (some ⟨w.heap.size, 0, none⟩) := Option.some.inj h1_
      obtain ⟨L10, hL10⟩ : ∃ z : List IV, z = L9 ++ lns.map itLn := ⟨_, rfl⟩
      rw [← hL10] at hX_ h5_
      have e5_ : s9 5 = .slice A10 L10.length c10 := Option.some.inj h5_
      have HX2 := hQ0 hX_
      have HB2 := hQ0 hb_
      have HT2 := hQ0 hT_
      have hbwL9 := hbw_
      have HL10 := hQ0 hL10
      have HLn10 : Hid (L10.length ≤ 10001) := hQ0 (by rw [hL10, List.length_append, List.length_map]; have h1 := HLn9.out; have h2 := HL.out.lns; simp only at h2; omega)
      clear hX_ hb_ hT_ hL10 h5_ h1_ hF_
      unfold fr501
      rw [e1_, e5_]
      clear e1_ e5_
      show _
      as_aux_lemma =>
       have hIt : L10 = Tb.items ⟨rad, bal, rst, gx, gy, drg, shf, tr, ws, ars, ps, fs, zs, ss, las, rs, ds, lns⟩ := by
        unfold Tb.items
        rw [HL10.out, HL9.out, HL8.out, HL7.out, HL6.out, HL5.out, HL4.out, HL3.out, HL2.out, HL1.out, HL0.out]
       have hTB10 := HTB.out.below HB2.out HTB.out.three
       have KF := format_any L10 A10 c10 wL9 HX2.out.at hTB10 (by have := HLn10.out; omega) (by rw [hIt]; exact HK.out) (by rw [hIt]; exact HSZ.out)
       have hFm : fmtR L10 = fmtR (Tb.items ⟨rad, bal, rst, gx, gy, drg, shf, tr, ws, ars, ps, fs, zs, ss, las, rs, ds, lns⟩) := by rw [hIt]
       obtain ⟨⟨S, ok⟩, hS⟩ : ∃ z, z = fmtR L10 := ⟨_, rfl⟩
       rw [← hS] at KF hFm
       have HF := hQ0 hFm
       have KF := hQ0 KF
       clear hIt hFm hS HX2 HLn0 HLn1 HLn2 HLn3 HLn4 HLn5 HLn6 HLn7 HLn8 HLn9 HLn10 HL0 HL1 HL2 HL3 HL4 HL5 HL6 HL7 HL8 HL9 HL10
       have hzw : w.heap.size < wL9.heap.size := HT2.out.lt
       cases ok
       case false =>
        obtain rfl : R = (⟨#[]⟩, false) := HRr.out.trans (by unfold textR; rw [if_neg (fun h => h HKD.out), ← HF.out, if_pos rfl])
        go_wp2_with (go_at_call 59; refine KF.out.mono ?_; rintro e w10 ⟨rfl, hb10⟩)
        refine bodyPost_ret (v := .tuple #[.string ⟨#[]⟩, .bool false]) (by simp only [results, Tryz.results17]; go_simp) rfl ?_
        exact ⟨rfl, HB2.out.trans (hb10.mono (by omega))⟩
       case true =>
        go_upto_region 64 with (go_at_call 59; refine KF.out.mono ?_; rintro e w10 ⟨rfl, hb10⟩)
        have HB10 : Hid (Below w.heap.size w w10) := hQ0 (HB2.out.trans (hb10.mono (by omega)))
        have HT10 := hQ0 (HT2.out.below hb10 hzw)
        have hzw10 : w.heap.size < w10.heap.size := HT10.out.lt
        clear HB2 HT2 hb10 KF
        have HS : Hid (S.size ≤ maxLen) := hQ0 (by
         have hq := HF.out
         unfold fmtR at hq
         split at hq
         · cases hq
         · have h1 := congrArg Prod.fst hq
           simp only at h1
           rw [h1]
           have h2 := HSZ.out
           show (textB _).toArray.size ≤ maxLen
           rw [List.size_toArray]
           unfold maxLen
           omega)
        refine wp_of_end (text_r64 S w10 HS.out (HTB.out.below HB10.out HTB.out.three) (by have h := HW0.out; rw [← HF.out] at h; exact h) _ _ (by rfl) (by rfl) _ ?_) (fun _ _ h => h)
        intro F_ w11 tb2 a3 hF_ h1_ h2_ h3_ h28_ h30_ h31_ hb_ hX_ hT_ hn_
        obtain ⟨s11, rfl⟩ := fr501_ex F_ hF_
        have e1_ : s11 1 = .pointer (some ⟨w.heap.size, 0, none⟩) := Option.some.inj h1_
        have e28_ : s11 28 = .string S := Option.some.inj h28_
        have e30_ : s11 30 = .pointer (some ⟨tb2, 0, none⟩) := Option.some.inj h30_
        have e31_ : s11 31 = .int .i64 (compileR S).2.1 := Option.some.inj h31_
        have HB11 : Hid (Below w.heap.size w w11) := hQ0 (HB10.out.trans (hb_.mono (by omega)))
        have HX11 : Hid (BoxAt w11 w.heap.size (Tb.cells ⟨rad, bal, rst, gx, gy, drg, shf, tr, ws, ars, ps, fs, zs, ss, las, rs, ds, lns⟩ a2)) := hQ0 (by rw [← HTC2.out]; exact HT10.out.below hb_ hzw10)
        have HY11 := hQ0 hX_
        have HC11 := hQ0 hT_
        have HN11 := hQ0 hn_
        clear h1_ h2_ h3_ h28_ h30_ h31_ hb_ hX_ hT_ hn_ hF_ HB10 HT10
        unfold fr501
        rw [e1_, e28_, e30_, e31_]
        clear e1_ e28_ e30_ e31_
        show _
        go_upto_region 65 with (fail)
        obtain ⟨n3, hn3, hn3'⟩ := HN11.out
        have hle3 : Tb.le ⟨rad, bal, rst, gx, gy, drg, shf, tr, ws, ars, ps, fs, zs, ss, las, rs, ds, lns⟩ 10000 := by
         have h := HL.out
         exact ⟨Nat.le_trans h.tr (by decide), Nat.le_trans h.ws (by decide), Nat.le_trans h.ars (by decide), Nat.le_trans h.ps (by decide), Nat.le_trans h.fs (by decide), Nat.le_trans h.zs (by decide), Nat.le_trans h.ss (by decide), Nat.le_trans h.las (by decide), Nat.le_trans h.rs (by decide), Nat.le_trans h.ds (by decide), Nat.le_trans h.lns (by decide)⟩
        have hle4 : (compileR S).1.le 10000 := ⟨Nat.le_trans hn3.tr (Nat.mul_le_mul_left 7 hn3'), Nat.le_trans hn3.ws hn3', Nat.le_trans hn3.ars hn3', Nat.le_trans hn3.ps hn3', Nat.le_trans hn3.fs hn3', Nat.le_trans hn3.zs hn3', Nat.le_trans hn3.ss hn3', Nat.le_trans hn3.las hn3', Nat.le_trans hn3.rs hn3', Nat.le_trans hn3.ds hn3', Nat.le_trans hn3.lns hn3'⟩
        have KR := fun df F h0 h1 h2 h3 R => text_r65 ⟨rad, bal, rst, gx, gy, drg, shf, tr, ws, ars, ps, fs, zs, ss, las, rs, ds, lns⟩ (compileR S).1 a2 a3 (compileR S).2.1 10000 w.heap.size tb2 w11 HX11.out HY11.out (HA2.out.below HB11.out (Nat.le_refl _)) HC11.out hle3 hle4 (Nat.le_refl _) df F h0 h1 h2 h3 R
        clear hle3 hle4 hn3 hn3'
        refine wp_of_end (KR _ _ (by rfl) (by rfl) (by rfl) (by rfl) _ ?_) (fun _ _ h => h)
        clear KR
        intro F_ w12 d hF_ h2_ h3_ h28_ h499_ hd_ hb_
        obtain ⟨s12, rfl⟩ := fr501_ex F_ hF_
        have e28_ : s12 28 = .string S := Option.some.inj h28_
        have e499_ : s12 499 = .bool d := Option.some.inj h499_
        have HB12 : Hid (Below w.heap.size w w12) := hQ0 (HB11.out.trans (hb_.mono HB11.out.size))
        have HD := hQ0 hd_
        clear h2_ h3_ h28_ h499_ hb_ hd_ hF_ HX11 HY11 HC11 HN11 HB11
        unfold fr501
        rw [e28_, e499_]
        clear e28_ e499_
        show _
        cases d
        case true =>
         obtain rfl : R = (⟨#[]⟩, false) := HRr.out.trans (by unfold textR; rw [if_neg (fun h => h HKD.out), ← HF.out, if_neg (by simp), if_pos (HD.out.1 rfl)])
         go_wp2_with fail
         refine bodyPost_ret (v := .tuple #[.string ⟨#[]⟩, .bool false]) (by simp only [results, Tryz.results17]; go_simp) rfl ?_
         exact ⟨rfl, HB12.out⟩
        case false =>
         obtain rfl : R = (S, true) := HRr.out.trans (by unfold textR; rw [if_neg (fun h => h HKD.out), ← HF.out, if_neg (by simp), if_neg (fun h => by cases HD.out.2 h)])
         go_wp2_with fail
         refine bodyPost_ret (v := .tuple #[.string S, .bool true]) (by simp only [results, Tryz.results17]; go_simp) rfl ?_
         exact ⟨rfl, HB12.out⟩)
def awS1 : ByteArray := ⟨#[116, 97, 98, 108, 101, 32, 114, 97, 100, 105, 117, 115, 32, 49, 48, 48, 32, 98, 97, 108, 108, 115, 32, 50, 32, 116, 114, 111, 117, 103, 104, 32, 53, 59, 32, 119, 97, 108, 108, 32, 119, 32, 102, 114, 111, 109, 32, 48, 32, 48, 32, 116, 111, 32, 57, 48, 48, 32, 48, 59]⟩
def awS2 : ByteArray := ⟨#[119, 97, 108, 108, 32, 119, 32, 102, 114, 111, 109, 32, 48, 32, 48, 32, 116, 111, 32, 57, 48, 48, 32, 48, 59]⟩
def awT : Tb := ⟨100, 2, 8, 0, 0, 0, 0, [5, 6], [⟨⟨#[119]⟩, 1, 0, 0, 0, 900, 0, 8, 0, 0, 0, -1, -1⟩], [], [], [], [], [], [], [], [], []⟩
set_option maxRecDepth 100000 in
theorem aw_c1 : compileR awS1 = (awT, 0, 0) := by kernel_rfl
set_option maxRecDepth 100000 in
theorem aw_c2 : (compileR awS2).2 = (8, 25) := by kernel_rfl
set_option maxRecDepth 100000 in
theorem aw_t : (textR awT).2 = true := by kernel_rfl
set_option maxRecDepth 100000 in
theorem aw_sz : (textR awT).1.size ≤ 1000 := of_decide_eq_true (by kernel_rfl)
set_option maxRecDepth 100000 in
theorem aw_k : checkR awT = 0 := by kernel_rfl
theorem aw_m : sameR awT (mirrorR awT) = false := by kernel_rfl
theorem aw_s : sameR awT awT = true := sameR_iff.2 rfl
set_option maxRecDepth 100000 in
theorem aw_len : (textB awT.items).length ≤ 1000000000 := of_decide_eq_true (by kernel_rfl)
theorem aw_ok : ∀ x ∈ awT.items, okF x := by
 have h : awT.items = [itTb awT, itWl ⟨⟨#[119]⟩, 1, 0, 0, 0, 900, 0, 8, 0, 0, 0, -1, -1⟩] := rfl
 rw [h]
 intro x hx
 simp only [List.mem_cons, List.not_mem_nil, or_false] at hx
 rcases hx with rfl | rfl
 · refine ⟨⟨by decide, ?_⟩, ?_⟩ <;> decide
 · refine ⟨⟨by decide, ?_⟩, ?_⟩ <;> decide
theorem aw_le (n : Nat) (h : 2 ≤ n) : awT.le n := ⟨by show 2 ≤ 7 * n; omega, by show 1 ≤ n; omega, Nat.zero_le _, Nat.zero_le _, Nat.zero_le _, Nat.zero_le _, Nat.zero_le _, Nat.zero_le _, Nat.zero_le _, Nat.zero_le _, Nat.zero_le _⟩
theorem mild_of {x : Int} (h : decide (-2305843009213693952 ≤ x ∧ x ≤ 2305843009213693952) = true) : mild x := by
 unfold mild
 exact of_decide_eq_true h
theorem aw_mild : awT.mild := by
 refine ⟨?_, ?_, ?_, ?_, ?_, ?_, ?_, ?_, ?_, ?_⟩
 · intro x hx
   have h : x = ⟨⟨#[119]⟩, 1, 0, 0, 0, 900, 0, 8, 0, 0, 0, -1, -1⟩ := List.mem_singleton.1 hx
   rw [h]
   exact ⟨mild_of rfl, mild_of rfl, mild_of rfl, mild_of rfl⟩
 all_goals (intro x hx; cases hx)
theorem aw_soft : softT awT := ⟨mild_of rfl, mild_of rfl, fun x hx => (by cases hx), fun x hx => (by cases hx), fun x hx => (by cases hx), fun x hx => (by cases hx)⟩
theorem aw_small : TbSmall awT := tsmall_of (n := 2) ⟨by decide, fun x hx => (by cases hx), fun x hx => (by cases hx), fun x hx => (by cases hx), fun x hx => (by cases hx), fun x hx => (by cases hx), fun x hx => (by cases hx), fun x hx => (by cases hx), fun x hx => (by cases hx), fun x hx => (by cases hx), ⟨Nat.le_refl _, Nat.le_refl _, Nat.le_refl _, Nat.le_refl _, Nat.le_refl _⟩⟩ (aw_le 2 (by decide)) (by decide)
theorem aw_o5 : awT.only5 := ⟨Nat.le_refl _, Nat.le_refl _, Nat.le_refl _, Nat.le_refl _, Nat.le_refl _⟩
theorem aw_o9 : awT.only9 := ⟨Nat.le_refl _, Nat.le_refl _, Nat.le_refl _, Nat.le_refl _, Nat.le_refl _, Nat.le_refl _, Nat.le_refl _, Nat.le_refl _, Nat.le_refl _⟩
def wordsB (s : ByteArray) : Bool := (parseR s).1.all fun x => decide (x.word = t_table ∨ x.word = t_wall)
theorem words_of {s : ByteArray} (h : wordsB s = true) : ∀ x ∈ (parseR s).1, x.word = t_table ∨ x.word = t_wall := fun x hx => of_decide_eq_true (List.all_eq_true.1 h x hx)
set_option maxRecDepth 100000 in
theorem aw_w1 : wordsB awS1 = true := by kernel_rfl
set_option maxRecDepth 100000 in
theorem aw_w2 : wordsB awS2 = true := by kernel_rfl
set_option maxRecDepth 100000 in
theorem aw_w3 : wordsB (textR awT).1 = true := by kernel_rfl
set_option maxRecDepth 100000 in
theorem aw_w4 : wordsB (fmtR awT.items).1 = true := by kernel_rfl
attribute [local go_sem ↓] evalL getL64 setL64
attribute [local go_sem ↓] getL8 setL8
attribute [local go_sem ↓] getL1 getL0
set_option maxRecDepth 100000 in
set_option maxHeartbeats 8000000 in
theorem awake09_any (w : World) (ht : Tabs w) : Calls Tryz.prog 9 #[] w fun e w' => e = .returned (.bool true) ∧ Below w.heap.size w w' := by
 have HTB := hQ0 ht
 clear ht
 have HBw : Hid (Below w.heap.size w w) := hQ0 (Below.refl _ _)
 go_enter Tryz.func9, Tryz.ntmps9; (try simp only [List.append_eq, List.cons_append, List.nil_append])
 go_upto_region 1 with (fail)
 have KC := compile_any awS1 w (by decide) HTB.out (words_of aw_w1)
 refine wp_region_lit ?_
 refine wpList_plain rfl fun K hK => ?_
 go_simp
 (go_at_call 13; refine KC.mono ?_; rintro e u1 ⟨a1, rfl, hb_, hT_, hc_, n_, hm_, hn_⟩)
 go_simp
 refine hK _ _ ?_
 clear hK K KC hm_
 rw [aw_c1] at hT_ hc_ ⊢
 dsimp only at hT_ hc_ ⊢
 have HC1 := hQ0 hc_
 have HBu : Hid (Below w.heap.size w u1) := hQ0 (HBw.out.trans (hb_.mono HBw.out.size))
 have HTu := hQ0 hT_
 clear hb_ hT_ hc_ hn_
 iterate 4 (refine wpList_plain rfl fun K hK => ?_; go_simp; refine hK _ _ ?_; clear hK K)
 refine wpList_plain rfl fun K hK => ?_; go_simp; refine hK _ _ ?_; clear hK K
 have HW := hQ0 ((Below.refl u1.heap.size u1).alloc (Nat.le_refl _) (.cells #[.int .i64 0, .int .i64 0, .int .i64 0, .int .i64 0, .int .i64 0, .int .i64 0, .int .i64 0, .slice none 0 0, .slice none 0 0, .slice none 0 0, .slice none 0 0, .slice none 0 0, .slice none 0 0, .slice none 0 0, .slice none 0 0, .slice none 0 0, .slice none 0 0, .slice none 0 0] 36))
 have HX1 : Hid (BoxAt (u1.alloc (.cells #[.int .i64 0, .int .i64 0, .int .i64 0, .int .i64 0, .int .i64 0, .int .i64 0, .int .i64 0, .slice none 0 0, .slice none 0 0, .slice none 0 0, .slice none 0 0, .slice none 0 0, .slice none 0 0, .slice none 0 0, .slice none 0 0, .slice none 0 0, .slice none 0 0, .slice none 0 0] 36)) u1.heap.size (tb0.cells a0)) := hQ0 (BoxAt.new u1 (tb0.cells a0) 36)
 generalize u1.alloc _ = v1 at HW HX1 ⊢
 obtain ⟨b1, hbq⟩ : ∃ z, z = u1.heap.size := ⟨_, rfl⟩
 rw [← hbq] at HX1 ⊢
 have HQ1 := hQ0 hbq
 clear hbq
 refine wpList_store_tb rfl (.tmp 1) (.tmp 14) rfl b1 _ (by go_simp) awT a1 (by go_simp; first | done | rfl) HX1.out rfl ?_
 have hlow := below_setCells (b := b1) (B := u1.heap.size) (by have := HQ1.out; omega) (Tb.cells awT a1) 0 HW.out
 have HX1 := hQ0 (stored_tb b1 _ awT a1 v1 HX1.out rfl)
 have HT1 := hQ0 (HTu.out.below hlow (Nat.le_refl _))
 have HBw1 := hQ0 (HBu.out.trans (hlow.mono HBu.out.size))
 clear hlow HW HTu HBu HQ1
 generalize v1.setCells b1 0 (Tb.cells awT a1) = w1 at HX1 HT1 HBw1 ⊢
 go_simp
 iterate 2 (refine wpList_plain rfl fun K hK => ?_; go_simp; refine hK _ _ ?_; clear hK K)
 refine wpList_nil ?_
 (try go_simp)
 go_upto_region 2 with (fail)
 have KC := compile_any awS2 w1 (by decide) (HTB.out.below HBw1.out HTB.out.three) (words_of aw_w2)
 refine wp_region_lit ?_
 refine wpList_plain rfl fun K hK => ?_
 go_simp
 (go_at_call 13; refine KC.mono ?_; rintro e u2 ⟨a2, rfl, hb_, hT_, hc_, n_, hm_, hn_⟩)
 go_simp
 refine hK _ _ ?_
 clear hK K KC hm_
 obtain ⟨U2, hU2⟩ : ∃ z, z = (compileR awS2).1 := ⟨_, rfl⟩
 rw [show (compileR awS2).2.1 = 8 from congrArg Prod.fst aw_c2, show (compileR awS2).2.2 = 25 from congrArg Prod.snd aw_c2]
 rw [← hU2] at hT_ hc_ ⊢
 clear hU2
 have HC2 := hQ0 hc_
 have HBu : Hid (Below w.heap.size w u2) := hQ0 (HBw1.out.trans (hb_.mono HBw1.out.size))
 have HTu := hQ0 hT_
 have HX1 := hQ0 (HX1.out.below hb_ HX1.out.lt)
 have HT1 := hQ0 (HT1.out.below hb_ (Nat.le_refl _))
 clear hb_ hT_ hc_ hn_
 iterate 4 (refine wpList_plain rfl fun K hK => ?_; go_simp; refine hK _ _ ?_; clear hK K)
 refine wpList_plain rfl fun K hK => ?_; go_simp; refine hK _ _ ?_; clear hK K
 have HW := hQ0 ((Below.refl u2.heap.size u2).alloc (Nat.le_refl _) (.cells #[.int .i64 0, .int .i64 0, .int .i64 0, .int .i64 0, .int .i64 0, .int .i64 0, .int .i64 0, .slice none 0 0, .slice none 0 0, .slice none 0 0, .slice none 0 0, .slice none 0 0, .slice none 0 0, .slice none 0 0, .slice none 0 0, .slice none 0 0, .slice none 0 0, .slice none 0 0] 36))
 have HX2 : Hid (BoxAt (u2.alloc (.cells #[.int .i64 0, .int .i64 0, .int .i64 0, .int .i64 0, .int .i64 0, .int .i64 0, .int .i64 0, .slice none 0 0, .slice none 0 0, .slice none 0 0, .slice none 0 0, .slice none 0 0, .slice none 0 0, .slice none 0 0, .slice none 0 0, .slice none 0 0, .slice none 0 0, .slice none 0 0] 36)) u2.heap.size (tb0.cells a0)) := hQ0 (BoxAt.new u2 (tb0.cells a0) 36)
 generalize u2.alloc _ = v2 at HW HX2 ⊢
 obtain ⟨b2, hbq⟩ : ∃ z, z = u2.heap.size := ⟨_, rfl⟩
 rw [← hbq] at HX2 ⊢
 have HQ2 := hQ0 hbq
 clear hbq
 refine wpList_store_tb rfl (.tmp 4) (.tmp 19) rfl b2 _ (by go_simp) U2 a2 (by go_simp; first | done | rfl) HX2.out rfl ?_
 have hlow := below_setCells (b := b2) (B := u2.heap.size) (by have := HQ2.out; omega) (Tb.cells U2 a2) 0 HW.out
 have HX2 := hQ0 (stored_tb b2 _ U2 a2 v2 HX2.out rfl)
 have HT2 := hQ0 (HTu.out.below hlow (Nat.le_refl _))
 have HBw2 := hQ0 (HBu.out.trans (hlow.mono HBu.out.size))
 have HX1 := hQ0 (HX1.out.below hlow HX1.out.lt)
 have HT1 := hQ0 (HT1.out.below hlow (Nat.le_refl _))
 clear hlow HW HTu HBu HQ2
 generalize v2.setCells b2 0 (Tb.cells U2 a2) = w2 at HX2 HT2 HBw2 HX1 HT1 ⊢
 go_simp
 iterate 2 (refine wpList_plain rfl fun K hK => ?_; go_simp; refine hK _ _ ?_; clear hK K)
 refine wpList_nil ?_
 (try go_simp)
 have k1 := HX1.out.c 1 (.int .i64 2) rfl
 obtain ⟨g5, o5, hA5, hg5, hc5⟩ := HT1.out.tr 1 6 rfl
 have k7 : w2.cell? ⟨b1, 7, none⟩ = some (.slice (some ⟨g5, o5, none⟩) 2 a1.trc) := by rw [← hA5]; exact HX1.out.c 7 _ rfl
 have k5 : w2.cell? ⟨g5, o5 + 1, none⟩ = some (.int .i64 6) := hc5 0 _ rfl
 obtain ⟨g6, o6, hA6, hg6, hc6⟩ := HT1.out.ws 0 ⟨⟨#[119]⟩, 1, 0, 0, 0, 900, 0, 8, 0, 0, 0, -1, -1⟩ rfl
 have k8 : w2.cell? ⟨b1, 8, none⟩ = some (.slice (some ⟨g6, o6, none⟩) 1 a1.wsc) := by rw [← hA6]; exact HX1.out.c 8 _ rfl
 have k6 : w2.cell? ⟨g6, o6 + 7, none⟩ = some (.int .i64 8) := by
  have h := hc6 7 _ rfl
  simpa using h
 clear hA5 hc5 hA6 hc6
 go_upto_region 5 with (fail)
 clear k1 k7 k5 k8 k6 hg5 hg6
 refine wp_region_lit ?_
 apply wpL_maybe true (by exact rfl) (awT.v a1)
 (case h => intro _; exact load_tb _ _ 1 rfl b1 (by first | rfl | (go_simp; done)) awT a1 _ HX1.out)
 intro K hK; (try simp only [opt_true]); go_simp; refine hK _ _ ?_; clear hK K
 have KT := text_any awT a1 w2 HT1.out (aw_le 1000 (by decide)) aw_ok aw_len (HTB.out.below HBw2.out HTB.out.three) aw_o9 (words_of aw_w4)
 refine wpList_plain rfl fun K hK => ?_
 go_simp
 (go_at_call 17; refine KT.mono ?_; rintro e w3 ⟨rfl, hb_⟩)
 go_simp
 refine hK _ _ ?_
 clear hK K KT
 obtain ⟨S3, hS3⟩ : ∃ z, z = (textR awT).1 := ⟨_, rfl⟩
 rw [aw_t, ← hS3]
 have HS3 : Hid (∃ p, compileR S3 = (awT, 0, p)) := hQ0 (by rw [hS3]; exact ⟨_, text_back aw_t⟩)
 have HW3 : Hid (∀ x ∈ (parseR S3).1, x.word = t_table ∨ x.word = t_wall) := hQ0 (by rw [hS3]; exact words_of aw_w3)
 have HZ3 : Hid (S3.size ≤ maxLen) := hQ0 (by rw [hS3]; exact Nat.le_trans aw_sz (by decide))
 have HX1 := hQ0 (HX1.out.below hb_ HX1.out.lt)
 have HT1 := hQ0 (HT1.out.below hb_ (Nat.le_refl _))
 have HBw3 := hQ0 (HBw2.out.trans (hb_.mono HBw2.out.size))
 clear hb_ hS3 HX2 HT2 HC2
 iterate 5 (refine wpList_plain rfl fun K hK => ?_; go_simp; refine hK _ _ ?_; clear hK K)
 refine wpList_nil ?_
 (try go_simp)
 go_upto_region 6 with (fail)
 obtain ⟨p3, hq_⟩ := HS3.out
 have KC := compile_any S3 w3 HZ3.out (HTB.out.below HBw3.out HTB.out.three) HW3.out
 refine wp_region_lit ?_
 refine wpList_plain rfl fun K hK => ?_; go_simp; refine hK _ _ ?_; clear hK K
 refine wpList_plain rfl fun K hK => ?_
 go_simp
 (go_at_call 13; refine KC.mono ?_; rintro e u9 ⟨a9, rfl, hb_, hT_, hc_, n_, hm_, hn_⟩)
 go_simp
 refine hK _ _ ?_
 clear hK K KC hm_
 rw [hq_] at hT_ hc_
 (try rw [hq_])
 dsimp only at hT_ hc_
 (try dsimp only)
 clear hq_
 have HC9 := hQ0 hc_
 have HBu : Hid (Below w.heap.size w u9) := hQ0 (HBw3.out.trans (hb_.mono HBw3.out.size))
 have HTu := hQ0 hT_
 have HX1 := hQ0 (HX1.out.below hb_ HX1.out.lt)
 have HT1 := hQ0 (HT1.out.below hb_ (Nat.le_refl _))
 clear hb_ hT_ hc_ hn_
 iterate 4 (refine wpList_plain rfl fun K hK => ?_; go_simp; refine hK _ _ ?_; clear hK K)
 refine wpList_plain rfl fun K hK => ?_; go_simp; refine hK _ _ ?_; clear hK K
 have HW := hQ0 ((Below.refl u9.heap.size u9).alloc (Nat.le_refl _) (.cells #[.int .i64 0, .int .i64 0, .int .i64 0, .int .i64 0, .int .i64 0, .int .i64 0, .int .i64 0, .slice none 0 0, .slice none 0 0, .slice none 0 0, .slice none 0 0, .slice none 0 0, .slice none 0 0, .slice none 0 0, .slice none 0 0, .slice none 0 0, .slice none 0 0, .slice none 0 0] 36))
 have HX9 : Hid (BoxAt (u9.alloc (.cells #[.int .i64 0, .int .i64 0, .int .i64 0, .int .i64 0, .int .i64 0, .int .i64 0, .int .i64 0, .slice none 0 0, .slice none 0 0, .slice none 0 0, .slice none 0 0, .slice none 0 0, .slice none 0 0, .slice none 0 0, .slice none 0 0, .slice none 0 0, .slice none 0 0, .slice none 0 0] 36)) u9.heap.size (tb0.cells a0)) := hQ0 (BoxAt.new u9 (tb0.cells a0) 36)
 generalize u9.alloc _ = v9 at HW HX9 ⊢
 obtain ⟨b9, hbq⟩ : ∃ z, z = u9.heap.size := ⟨_, rfl⟩
 rw [← hbq] at HX9 ⊢
 have HQ9 := hQ0 hbq
 clear hbq
 refine wpList_store_tb rfl (.tmp 9) (.tmp 72) rfl b9 _ (by go_simp) awT a9 (by go_simp; first | done | rfl) HX9.out rfl ?_
 have hlow := below_setCells (b := b9) (B := u9.heap.size) (by have := HQ9.out; omega) (Tb.cells awT a9) 0 HW.out
 have HX9 := hQ0 (stored_tb b9 _ awT a9 v9 HX9.out rfl)
 have HT9 := hQ0 (HTu.out.below hlow (Nat.le_refl _))
 have HBw9 := hQ0 (HBu.out.trans (hlow.mono HBu.out.size))
 have HX1 := hQ0 (HX1.out.below hlow HX1.out.lt)
 have HT1 := hQ0 (HT1.out.below hlow (Nat.le_refl _))
 clear hlow HW HTu HBu HQ9
 generalize v9.setCells b9 0 (Tb.cells awT a9) = w9 at HX9 HT9 HBw9 HX1 HT1 ⊢
 go_simp
 iterate 2 (refine wpList_plain rfl fun K hK => ?_; go_simp; refine hK _ _ ?_; clear hK K)
 refine wpList_nil ?_
 (try go_simp)
 go_upto_region 7 with (fail)
 have KS := fun W (hb : Below w9.heap.size w9 W) => same_any awT awT a1 a9 10 W (HT1.out.below hb (Nat.le_refl _)) (HT9.out.below hb (Nat.le_refl _)) (aw_le 10 (by decide)) (aw_le 10 (by decide)) (by decide)
 rw [aw_s] at KS
 have KK := fun W (hb : Below w9.heap.size w9 W) => check_any awT a1 W (HT1.out.below hb (Nat.le_refl _)) HC1.out aw_small aw_o5
 rw [aw_k] at KK
 have KM := fun W (hb : Below w9.heap.size w9 W) => mirror_any awT a1 W (HT1.out.below hb (Nat.le_refl _)) HC1.out.ok (aw_le 10000 (by decide)) aw_mild aw_soft
 have hS_ : Below w9.heap.size w9 w9.drew := (Below.refl _ _).drew
 refine wp_region_N (Below w9.heap.size w9) 22 [22] (by kernel_rfl) (by kernel_rfl) (tailBJ_of (nx := [22, 22, 22, 22, 22, 22, 22, 22, 22, 22, 22, 22, 22, 22, 22, 22, 22, 22, 22, 22, 22, 22, 0]) (by kernel_rfl)) (by kernel_rfl) ?_
 intro hT_ hD_
 generalize w9.drew = wd_ at hS_ ⊢
 apply wpN_maybe (i := 0) hT_ hD_ rfl (by kernel_rfl) true (by exact rfl)
 (case h => intro _; intro W_ hW_; go_simp; first | done | exact rfl); (case hQ => exact fun _ _ _ h => h); (case hS => exact hS_)
 intro hD2_; clear hD_; have hD_ := hD2_; clear hD2_; intro K hK; (try simp only [opt_true]); go_simp; refine hK _ _ ?_; clear hK K
 apply wpN_maybe (i := 1) hT_ hD_ rfl (by kernel_rfl) true (by exact rfl)
 (case h => intro _; intro W_ hW_; go_simp; first | done | exact rfl); (case hQ => exact fun _ _ _ h => h); (case hS => exact hS_)
 intro hD2_; clear hD_; have hD_ := hD2_; clear hD2_; intro K hK; (try simp only [opt_true]); go_simp; refine hK _ _ ?_; clear hK K
 apply wpN_maybe (i := 2) hT_ hD_ rfl (by kernel_rfl) true (by exact rfl)
 (case h => intro _; intro W_ hW_; go_simp; first | done | exact rfl); (case hQ => exact fun _ _ _ h => h); (case hS => exact hS_)
 intro hD2_; clear hD_; have hD_ := hD2_; clear hD2_; intro K hK; (try simp only [opt_true]); go_simp; refine hK _ _ ?_; clear hK K
 apply wpN_maybe (i := 3) hT_ hD_ rfl (by kernel_rfl) true (by exact rfl)
 (case h => intro _; intro W_ hW_; go_simp; first | done | exact rfl); (case hQ => exact fun _ _ _ h => h); (case hS => exact hS_)
 intro hD2_; clear hD_; have hD_ := hD2_; clear hD2_; intro K hK; (try simp only [opt_true]); go_simp; refine hK _ _ ?_; clear hK K
 apply wpN_maybe (i := 4) hT_ hD_ rfl (by kernel_rfl) true (by exact rfl)
 (case h => intro _; intro W_ hW_; go_simp; first | done | exact rfl); (case hQ => exact fun _ _ _ h => h); (case hS => exact hS_)
 intro hD2_; clear hD_; have hD_ := hD2_; clear hD2_; intro K hK; (try simp only [opt_true]); go_simp; refine hK _ _ ?_; clear hK K
 apply wpN_maybe (i := 5) hT_ hD_ rfl (by kernel_rfl) true (by exact rfl)
 (case h => intro _; intro W_ hW_; go_simp; first | done | exact rfl); (case hQ => exact fun _ _ _ h => h); (case hS => exact hS_)
 intro hD2_; clear hD_; have hD_ := hD2_; clear hD2_; intro K hK; (try simp only [opt_true]); go_simp; refine hK _ _ ?_; clear hK K
 apply wpN_maybe (i := 6) hT_ hD_ rfl (by kernel_rfl) true (by exact rfl) (awT.v a1)
 (case h => intro _; intro W_ hW_; exact load_tb _ _ 1 rfl b1 (by first | rfl | (go_simp; done)) awT a1 W_ (HX1.out.below hW_ HX1.out.lt)); (case hQ => exact fun _ _ _ h => h); (case hS => exact hS_)
 intro hD2_; clear hD_; have hD_ := hD2_; clear hD2_; intro K hK; (try simp only [opt_true]); go_simp; refine hK _ _ ?_; clear hK K
 apply wpN_maybe (i := 7) hT_ hD_ rfl (by kernel_rfl) true (by exact rfl) (awT.v a9)
 (case h => intro _; intro W_ hW_; exact load_tb _ _ 9 rfl b9 (by first | rfl | (go_simp; done)) awT a9 W_ (HX9.out.below hW_ HX9.out.lt)); (case hQ => exact fun _ _ _ h => h); (case hS => exact hS_)
 intro hD2_; clear hD_; have hD_ := hD2_; clear hD2_; intro K hK; (try simp only [opt_true]); go_simp; refine hK _ _ ?_; clear hK K
 refine wpN_callm (S := Below w9.heap.size w9) (i := 8) hD_ rfl (by kernel_rfl) true (by exact rfl) (.bool true) ?_ hS_ ?_
 · intro _; intro N_ hN_; go_simp; (go_at_call 16; refine (KS _ hS_).mono ?_; rintro e w_ ⟨rfl, hb_⟩); go_simp; exact hN_ _ (hS_.trans (hb_.mono hS_.size))
 intro hD2_; clear hD_; have hD_ := hD2_; clear hD2_; intro K hK w_ hS2_; (try simp only [opt_true]); go_simp; refine hK _ _ ?_; clear hK K hS_; have hS_ := hS2_; clear hS2_
 apply wpN_maybe (i := 9) hT_ hD_ rfl (by kernel_rfl) true (by exact rfl)
 (case h => intro _; intro W_ hW_; go_simp; first | done | exact rfl); (case hQ => exact fun _ _ _ h => h); (case hS => exact hS_)
 intro hD2_; clear hD_; have hD_ := hD2_; clear hD2_; intro K hK; (try simp only [opt_true]); go_simp; refine hK _ _ ?_; clear hK K
 apply wpN_maybe (i := 10) hT_ hD_ rfl (by kernel_rfl) true (by exact rfl)
 (case h => intro _; intro W_ hW_; go_simp; first | done | exact rfl); (case hQ => exact fun _ _ _ h => h); (case hS => exact hS_)
 intro hD2_; clear hD_; have hD_ := hD2_; clear hD2_; intro K hK; (try simp only [opt_true]); go_simp; refine hK _ _ ?_; clear hK K
 apply wpN_maybe (i := 11) hT_ hD_ rfl (by kernel_rfl) true (by exact rfl) (awT.v a1)
 (case h => intro _; intro W_ hW_; exact load_tb _ _ 1 rfl b1 (by first | rfl | (go_simp; done)) awT a1 W_ (HX1.out.below hW_ HX1.out.lt)); (case hQ => exact fun _ _ _ h => h); (case hS => exact hS_)
 intro hD2_; clear hD_; have hD_ := hD2_; clear hD2_; intro K hK; (try simp only [opt_true]); go_simp; refine hK _ _ ?_; clear hK K
 refine wpN_callm (S := Below w9.heap.size w9) (i := 12) hD_ rfl (by kernel_rfl) true (by exact rfl) (.int .i64 0) ?_ hS_ ?_
 · intro _; intro N_ hN_; go_simp; (go_at_call 11; refine (KK _ hS_).mono ?_; rintro e w_ ⟨rfl, hb_⟩); go_simp; exact hN_ _ (hS_.trans (hb_.mono hS_.size))
 intro hD2_; clear hD_; have hD_ := hD2_; clear hD2_; intro K hK w_ hS2_; (try simp only [opt_true]); go_simp; refine hK _ _ ?_; clear hK K hS_; have hS_ := hS2_; clear hS2_
 apply wpN_maybe (i := 13) hT_ hD_ rfl (by kernel_rfl) true (by exact rfl)
 (case h => intro _; intro W_ hW_; go_simp; first | done | exact rfl); (case hQ => exact fun _ _ _ h => h); (case hS => exact hS_)
 intro hD2_; clear hD_; have hD_ := hD2_; clear hD2_; intro K hK; (try simp only [opt_true]); go_simp; refine hK _ _ ?_; clear hK K
 apply wpN_maybe (i := 14) hT_ hD_ rfl (by kernel_rfl) true (by exact rfl)
 (case h => intro _; intro W_ hW_; go_simp; first | done | exact rfl); (case hQ => exact fun _ _ _ h => h); (case hS => exact hS_)
 intro hD2_; clear hD_; have hD_ := hD2_; clear hD2_; intro K hK; (try simp only [opt_true]); go_simp; refine hK _ _ ?_; clear hK K
 apply wpN_maybe (i := 15) hT_ hD_ rfl (by kernel_rfl) true (by exact rfl)
 (case h => intro _; intro W_ hW_; go_simp; first | done | exact rfl); (case hQ => exact fun _ _ _ h => h); (case hS => exact hS_)
 intro hD2_; clear hD_; have hD_ := hD2_; clear hD2_; intro K hK; (try simp only [opt_true]); go_simp; refine hK _ _ ?_; clear hK K
 apply wpN_maybe (i := 16) hT_ hD_ rfl (by kernel_rfl) true (by exact rfl) (awT.v a1)
 (case h => intro _; intro W_ hW_; exact load_tb _ _ 1 rfl b1 (by first | rfl | (go_simp; done)) awT a1 W_ (HX1.out.below hW_ HX1.out.lt)); (case hQ => exact fun _ _ _ h => h); (case hS => exact hS_)
 intro hD2_; clear hD_; have hD_ := hD2_; clear hD2_; intro K hK; (try simp only [opt_true]); go_simp; refine hK _ _ ?_; clear hK K
 apply wpN_maybe (i := 17) hT_ hD_ rfl (by kernel_rfl) true (by exact rfl) (awT.v a1)
 (case h => intro _; intro W_ hW_; exact load_tb _ _ 1 rfl b1 (by first | rfl | (go_simp; done)) awT a1 W_ (HX1.out.below hW_ HX1.out.lt)); (case hQ => exact fun _ _ _ h => h); (case hS => exact hS_)
 intro hD2_; clear hD_; have hD_ := hD2_; clear hD2_; intro K hK; (try simp only [opt_true]); go_simp; refine hK _ _ ?_; clear hK K
 refine wpN_onew (i := 18) hD_ rfl (by kernel_rfl) (by exact rfl) ?_
 intro hD2_; clear hD_; have hD_ := hD2_; clear hD2_; intro K hK
 go_simp
 (go_at_call 22; refine (KM _ hS_).mono ?_; rintro e wm_ ⟨am, rfl, hbm, ⟨bb, hbb, hsep⟩, hcap⟩)
 go_simp
 have hS2_ := hS_.trans (hbm.mono hS_.size)
 refine ⟨hS2_, hK _ _ ?_⟩
 clear hK K hS_ hbb hcap
 have hS_ := hS2_
 clear hS2_ hbm
 have hlm : (mirrorR awT).le 10 := ⟨by decide, by decide, by decide, by decide, by decide, by decide, by decide, by decide, by decide, by decide, by decide⟩
 have KZ := same_any awT (mirrorR awT) a1 am 10 wm_ (HT1.out.below hS_ (Nat.le_refl _)) hsep.at (aw_le 10 (by decide)) hlm (by decide)
 rw [aw_m] at KZ
 clear hsep hlm
 refine wpN_callm (S := Below w9.heap.size w9) (i := 19) hD_ rfl (by kernel_rfl) true (by exact rfl) (.bool false) ?_ hS_ ?_
 · intro _; intro N_ hN_; go_simp; (go_at_call 16; refine (KZ).mono ?_; rintro e w_ ⟨rfl, hb_⟩); go_simp; exact hN_ _ (hS_.trans (hb_.mono hS_.size))
 intro hD2_; clear hD_; have hD_ := hD2_; clear hD2_; intro K hK w_ hS2_; (try simp only [opt_true]); go_simp; refine hK _ _ ?_; clear hK K hS_; have hS_ := hS2_; clear hS2_
 apply wpN_maybe (i := 20) hT_ hD_ rfl (by kernel_rfl) true (by exact rfl)
 (case h => intro _; intro W_ hW_; go_simp; first | done | exact rfl); (case hQ => exact fun _ _ _ h => h); (case hS => exact hS_)
 intro hD2_; clear hD_; have hD_ := hD2_; clear hD2_; intro K hK; (try simp only [opt_true]); go_simp; refine hK _ _ ?_; clear hK K
 apply wpN_maybe (i := 21) hT_ hD_ rfl (by kernel_rfl) true (by exact rfl)
 (case h => intro _; intro W_ hW_; go_simp; first | done | exact rfl); (case hQ => exact fun _ _ _ h => h); (case hS => exact hS_)
 intro hD2_; clear hD_; have hD_ := hD2_; clear hD2_; intro K hK; (try simp only [opt_true]); go_simp; refine hK _ _ ?_; clear hK K
 refine wpZ_nil (by kernel_rfl) ?_
 (try simp only [List.filterMap_nil, List.filterMap_cons, List.getElem?_cons_succ, List.getElem?_cons_zero])
 (try go_simp)
 go_wp2_with fail
 go_ret
 exact ⟨rfl, HBw9.out.trans (hS_.mono HBw9.out.size)⟩
end Go.Proofs.YtbpcjpiaimdpnaaGreatDoor
