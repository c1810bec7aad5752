/- The reference's Arity; the walk of SourceArities. -/
import Derived.Test.YteondblmcooklaaDoorSrcY
namespace Go.Proofs.YteondblmcooklaaDoor
open Go Go.RowKit
set_option linter.unusedVariables false
theorem ks_none {word : ByteArray} (h : isWord word = false) : ksOf word = [] := by
  rcases word_cases word with ⟨p, hp, rfl⟩ | h'
  · rw [(tab_of hp).2] at h; cases h
  · exact h'.2.1
set_option maxRecDepth 100000 in
set_option maxHeartbeats 2000000 in
theorem rarity_any (word key : ByteArray) (w : World) : Calls Tryd.prog 18 #[.string word, .string key] w fun e w' => e = .returned (.int .i64 (arR word key)) ∧ Below w.heap.size w w' := by
  obtain ⟨R, hR⟩ : ∃ R, R = arR word key := ⟨_, rfl⟩
  rw [← hR]
  have HR : Hid (arL ((ksOf word).drop 0) key = R) := Lib.hid (by rw [hR]; rfl)
  have KK := Lib.hid (rkeys_any word)
  have hkl := (txt_ok word).2.2.1
  clear hR
  cases hw : isWord word
  · obtain rfl : R = -1 := by rw [← HR.out, ks_none hw]; rfl
    have HW := Lib.hid hw
    clear hw HR
    go_enter Tryd.func18, Tryd.ntmps18; (try simp only [List.append_eq, List.cons_append, List.nil_append])
    go_wp2_with (go_at_call 32; refine (KK.out _).mono ?_; rintro e w1 ⟨hb1, _, h2⟩; obtain rfl := h2 HW.out)
    go_loop [8] (fun t => t = .int .i64 0) (fun t => 0)
    case atStart => rfl
    case round =>
      obtain rfl := hrel
      go_wp2_with fail
      go_ret
      exact ⟨rfl, hb1⟩
  · have HW := Lib.hid hw
    clear hw
    obtain ⟨ks, hks⟩ : ∃ ks, ks = ksOf word := ⟨_, rfl⟩
    rw [← hks] at HR hkl
    have HKS := Lib.hid hks
    clear hks
    go_enter Tryd.func18, Tryd.ntmps18; (try simp only [List.append_eq, List.cons_append, List.nil_append])
    go_wp2_with (go_at_call 32; refine (KK.out _).mono ?_; rintro e w1 ⟨hb1, h2, _⟩; obtain ⟨A, c, B, d, rfl, hA, hB⟩ := h2 HW.out; rw [← HKS.out] at hA hB ⊢)
    have HA := Lib.hid hA
    have HB := Lib.hid hB
    clear hA hB
    go_loop [8] (fun t => ∃ k : Nat, k ≤ ks.length ∧ t = .int .i64 k ∧ Hid (arL (ks.drop k) key = R)) (fun t => ks.length - (intOf t).toNat)
    case atStart => exact ⟨0, by omega, rfl, HR⟩
    case round =>
      obtain ⟨k, hk, rfl, HJ⟩ := hrel
      by_cases hlt : k < ks.length
      · obtain ⟨q, hq⟩ : ∃ q, ks[k]? = some q := ⟨ks[k], by simp⟩
        obtain ⟨g, o, rfl, hg, c0⟩ := HA.out k q.1 (by rw [List.getElem?_map, hq]; rfl)
        obtain ⟨g', o', rfl, hg', c1⟩ := HB.out k (q.2 : Int) (by rw [List.getElem?_map, hq]; rfl)
        have hst := arL_step (key := key) hq
        have i1 : (k : Int) < (ks.length : Int) := by omega
        by_cases he : q.1 = key
        · rw [if_pos he] at hst
          have b1 : (q.1.toList == key.toList) = true := by rw [he]; exact beq_self_eq_true _
          obtain rfl : R = (q.2 : Int) := by rw [← HJ.out]; exact hst
          clear hst he
          go_wp2_with fail
          go_ret
          exact ⟨rfl, hb1⟩
        · rw [if_neg he] at hst
          have b1 : (q.1.toList == key.toList) = false := txt_neT he
          have hnx := Lib.hid (hst.symm.trans HJ.out)
          clear hst he
          go_wp2_with fail
          go_round
          case rel => exact ⟨k + 1, by omega, by go_num, hnx⟩
          case measure => simp [intOf]; omega
      · obtain rfl : k = ks.length := by omega
        obtain rfl : R = -1 := by rw [← HJ.out, List.drop_length]; rfl
        go_wp2_with fail
        go_ret
        exact ⟨rfl, hb1⟩
theorem fewB_one (x : IV) : fewB [x] = fewX x := by unfold fewB; simp
theorem fewX_ok {x : IV} (h : fewX x = true) : x.keys.length ≤ 30 ∧ ∀ k ∈ x.keys, k.vals.length ≤ 30 := by
  unfold fewX at h
  simp only [Bool.and_eq_true, decide_eq_true_eq, List.all_eq_true] at h
  refine ⟨h.1.1.1, fun k hk => ?_⟩
  have := h.2 k hk
  unfold fewK at this
  simp only [Bool.and_eq_true, decide_eq_true_eq] at this
  exact this.1
theorem getR_mem {l : List KV} {key : ByteArray} {vs : List Int} (h : getR l key = some vs) : ∃ k ∈ l, k.vals = vs := by
  unfold getR at h
  obtain ⟨k, hk, e⟩ := Option.map_eq_some_iff.1 h
  exact ⟨k, List.mem_of_find?_eq_some hk, e⟩
theorem xs_of_c4 {w : World} {g c : Nat} {x : IV} {B : Option Addr} {d : Nat} (h : C4 w g (.string x.word) (.string x.name) (.slice B x.keys.length d) (.int .i64 x.at_)) (hk : KsAt w B x.keys) : XsAt w (some ⟨g, 0, none⟩) [x] := fun k y hy => by
  rcases k with _ | k
  · simp only [List.getElem?_cons_zero, Option.some.injEq] at hy
    subst hy
    exact ⟨g, 0, B, d, rfl, h.lt, ⟨h.c0, h.c1, h.c2, h.c3⟩, hk⟩
  · simp at hy
set_option maxRecDepth 100000 in
set_option maxHeartbeats 8000000 in
theorem arities_walk (word key : ByteArray) (x : IV) (B : Option Addr) (d : Nat) (w : World) (hK : KsAt w B x.keys) (ht : Tabs w) :
    Calls Tryd.prog 4 #[.string word, .string key, vOfX x B d] w fun e w' => e = .returned (.bool true) ∧ Below w.heap.size w w' := by
  have h3 := ht.three
  have HT := Lib.hid ht
  have HK := Lib.hid hK
  have hbx := (Below.refl w.heap.size w).alloc (Nat.le_refl _) (.cells #[.string x.word, .string x.name, .slice B x.keys.length d, .int .i64 x.at_] 35)
  have hcx := C4.new w (.string x.word) (.string x.name) (.slice B x.keys.length d) (.int .i64 x.at_) 35
  have HBX := Lib.hid hbx
  have HCX := Lib.hid hcx
  unfold vOfX
  clear ht hK hbx hcx
  cases hf : fewX x
  · have KF := fun (W : World) (c : Nat) (g : Nat) (h : XsAt W (some ⟨g, 0, none⟩) [x]) => by have := few_any [x] (some ⟨g, 0, none⟩) c W h (by unfold maxLen; simp); rw [fewB_one, hf] at this; exact this
    have KKF := Lib.hid KF
    clear KF hf
    go_enter Tryd.func4, Tryd.ntmps4; (try simp only [List.append_eq, List.cons_append, List.nil_append])
    go_wp2_with (first | (go_at_call 8; have hq := hb1; refine (awake08_any _ ((HT.out.below HBX.out h3).below hb1 (by simp; omega) |>.alloc _)).mono ?_; rintro e w3 ⟨rfl, hb3⟩) | (go_at_call 8; refine (awake08_any _ (HT.out.below HBX.out h3)).mono ?_; rintro e w1 ⟨rfl, hb1⟩; obtain ⟨d0, d1, d2, d3, dz, dl⟩ := HCX.out.below hb1 (by simp)) | (go_at_call 14; refine (KKF.out _ 1 _ (xs_of_c4 (c := 1) (C4.new w1 (.string x.word) (.string x.name) (.slice B x.keys.length d) (.int .i64 x.at_) 35) ((HK.out.below HBX.out (Nat.le_refl _)).below hb1 (by simp) |>.below ((Below.refl w1.heap.size w1).alloc (Nat.le_refl _) _) (Nat.le_refl _)))).mono ?_; rintro e w2 ⟨rfl, rfl⟩))
    go_ret
    have hz1 := hb1.size
    simp at hz1
    refine ⟨rfl, ?_⟩
    exact (((HBX.out.trans (hb1.mono (by simp))).alloc (by omega) _).trans (hb3.mono (by simp; omega)))
  · obtain ⟨hk30, hv30⟩ := fewX_ok hf
    have KF := fun (W : World) (c : Nat) (g : Nat) (h : XsAt W (some ⟨g, 0, none⟩) [x]) => by have := few_any [x] (some ⟨g, 0, none⟩) c W h (by unfold maxLen; simp); rw [fewB_one, hf] at this; exact this
    have KKF := Lib.hid KF
    have KG := fun (W : World) (h : KsAt W B x.keys) => get_any x B d key W h (by omega) (fun k hk => by have := hv30 k hk; omega)
    have KKG := Lib.hid KG
    have KI := fun (W : World) (c : Nat) (g : Nat) (h : XsAt W (some ⟨g, 0, none⟩) [x]) => items_any [x] (some ⟨g, 0, none⟩) c W h (by simp) (fun y hy => by rw [List.mem_singleton] at hy; subst hy; exact ⟨by omega, fun k hk => by have := hv30 k hk; omega⟩)
    have KKI := Lib.hid KI
    clear KF KG KI hf
    cases hG : getR x.keys key with
    | none =>
      go_enter Tryd.func4, Tryd.ntmps4; (try simp only [List.append_eq, List.cons_append, List.nil_append])
      go_wp2_with (first | (go_at_call 8; refine (awake08_any _ (HT.out.below HBX.out h3)).mono ?_; rintro e w1 ⟨rfl, hb1⟩; have hb1' := HBX.out.trans (hb1.mono (by simp)); have hz1 := hb1'.size; have hC1 := HCX.out.below hb1 (by simp); obtain ⟨d0, d1, d2, d3, dz, dl⟩ := hC1) | (go_at_call 14; refine (KKF.out _ 1 _ (xs_of_c4 (c := 1) (C4.new w1 (.string x.word) (.string x.name) (.slice B x.keys.length d) (.int .i64 x.at_) 35) (HK.out.below (hb1'.alloc hz1 _) (Nat.le_refl _)))).mono ?_; rintro e w2 ⟨rfl, rfl⟩) | (go_at_call 15; refine (KKG.out _ (HK.out.below (hb1'.alloc hz1 _) (Nat.le_refl _))).mono ?_; rintro e w3 ⟨hb3, hg3⟩; rw [hG] at hg3; obtain rfl := hg3; have hb3' := (hb1'.alloc hz1 (.cells #[.string x.word, .string x.name, .slice B x.keys.length d, .int .i64 x.at_] 35)).trans (hb3.mono (by simp; omega)); have hz3 := hb3'.size; obtain ⟨y0, y1, y2, y3, yz, yl⟩ := ((C4.mk d0 d1 d2 d3 dz dl).alloc (.cells #[.string x.word, .string x.name, .slice B x.keys.length d, .int .i64 x.at_] 35)).below hb3 (by simp; omega)) | (go_at_call 11; refine (KKI.out _ 1 _ (xs_of_c4 (c := 1) (C4.new w3 (.string x.word) (.string x.name) (.slice B x.keys.length d) (.int .i64 x.at_) 35) (HK.out.below (hb3'.alloc hz3 _) (Nat.le_refl _)))).mono ?_; rintro e w4 ⟨hb4, A4, c4, rfl, hx4⟩; have hb4' := (hb3'.alloc hz3 (.cells #[.string x.word, .string x.name, .slice B x.keys.length d, .int .i64 x.at_] 35)).trans (hb4.mono (by simp; omega)); have hz4 := hb4'.size; obtain ⟨g4, o4, B4, e4, rfl, hg4, ⟨r0, r1, r2, r3⟩, hk4⟩ := xs_one hx4.at) | (go_at_call 16; refine (rget_any x B4 e4 key _ hk4 (by omega) (fun k hk => by have := hv30 k hk; omega)).mono ?_; rintro e w5 ⟨hb5, hg5⟩; rw [hG] at hg5; obtain rfl := hg5; have hb5' := hb4'.trans (hb5.mono hz4); have hz5 := hb5'.size) | (go_at_call 17; refine (arity_any word key _ (HT.out.below hb5' h3)).mono ?_; rintro e w6 ⟨rfl, hb6⟩; have hb6' := hb5'.trans (hb6.mono hz5); have hz6 := hb6'.size) | (go_at_call 18; refine (rarity_any word key _).mono ?_; rintro e w7 ⟨rfl, hb7⟩; have hb7' := hb6'.trans (hb7.mono hz6)))
      go_loop [11] (fun t => t = .int .i64 0) (fun t => 0)
      case atStart => rfl
      case round =>
        obtain rfl := hrel
        go_wp2_with fail
        go_ret
        exact ⟨rfl, hb7'⟩
    | some vs =>
      have hvl : vs.length ≤ 30 := by obtain ⟨k, hk, e⟩ := getR_mem hG; rw [← e]; exact hv30 k hk
      go_enter Tryd.func4, Tryd.ntmps4; (try simp only [List.append_eq, List.cons_append, List.nil_append])
      go_wp2_with (first | (go_at_call 8; refine (awake08_any _ (HT.out.below HBX.out h3)).mono ?_; rintro e w1 ⟨rfl, hb1⟩; have hb1' := HBX.out.trans (hb1.mono (by simp)); have hz1 := hb1'.size; have hC1 := HCX.out.below hb1 (by simp); obtain ⟨d0, d1, d2, d3, dz, dl⟩ := hC1) | (go_at_call 14; refine (KKF.out _ 1 _ (xs_of_c4 (c := 1) (C4.new w1 (.string x.word) (.string x.name) (.slice B x.keys.length d) (.int .i64 x.at_) 35) (HK.out.below (hb1'.alloc hz1 _) (Nat.le_refl _)))).mono ?_; rintro e w2 ⟨rfl, rfl⟩) | (go_at_call 15; refine (KKG.out _ (HK.out.below (hb1'.alloc hz1 _) (Nat.le_refl _))).mono ?_; rintro e w3 ⟨hb3, hg3⟩; rw [hG] at hg3; obtain ⟨A3, c3, rfl, ho3⟩ := hg3; have hb3' := (hb1'.alloc hz1 (.cells #[.string x.word, .string x.name, .slice B x.keys.length d, .int .i64 x.at_] 35)).trans (hb3.mono (by simp; omega)); have hz3 := hb3'.size; obtain ⟨y0, y1, y2, y3, yz, yl⟩ := ((C4.mk d0 d1 d2 d3 dz dl).alloc (.cells #[.string x.word, .string x.name, .slice B x.keys.length d, .int .i64 x.at_] 35)).below hb3 (by simp; omega)) | (go_at_call 11; refine (KKI.out _ 1 _ (xs_of_c4 (c := 1) (C4.new w3 (.string x.word) (.string x.name) (.slice B x.keys.length d) (.int .i64 x.at_) 35) (HK.out.below (hb3'.alloc hz3 _) (Nat.le_refl _)))).mono ?_; rintro e w4 ⟨hb4, A4, c4, rfl, hx4⟩; have hb4' := (hb3'.alloc hz3 (.cells #[.string x.word, .string x.name, .slice B x.keys.length d, .int .i64 x.at_] 35)).trans (hb4.mono (by simp; omega)); have hz4 := hb4'.size; obtain ⟨g4, o4, B4, e4, rfl, hg4, ⟨r0, r1, r2, r3⟩, hk4⟩ := xs_one hx4.at) | (go_at_call 16; refine (rget_any x B4 e4 key _ hk4 (by omega) (fun k hk => by have := hv30 k hk; omega)).mono ?_; rintro e w5 ⟨hb5, hg5⟩; rw [hG] at hg5; obtain ⟨A5, c5, rfl, ho5⟩ := hg5; have hb4x := ((Below.refl w3.heap.size w3).alloc (Nat.le_refl _) (.cells #[.string x.word, .string x.name, .slice B x.keys.length d, .int .i64 x.at_] 35)).trans (hb4.mono (by simp)); have hb5' := hb4'.trans (hb5.mono hz4); have hz5 := hb5'.size) | (go_at_call 17; refine (arity_any word key _ (HT.out.below hb5' h3)).mono ?_; rintro e w6 ⟨rfl, hb6⟩; have hb6' := hb5'.trans (hb6.mono hz5); have hz6 := hb6'.size) | (go_at_call 18; refine (rarity_any word key _).mono ?_; rintro e w7 ⟨rfl, hb7⟩; have hb7' := hb6'.trans (hb7.mono hz6)))
      have hi3 := ((ho3.iat.below hb4x (Nat.le_refl _)).below hb5 (Nat.le_refl _)).below (hb6.trans (hb7.mono hb6.size)) (Nat.le_refl _)
      have hi5 := ho5.iat.below (hb6.trans (hb7.mono hb6.size)) (Nat.le_refl _)
      have HI3 := Lib.hid hi3
      have HI5 := Lib.hid hi5
      have HB7 := Lib.hid hb7'
      clear hi3 hi5
      go_loopw [11] (fun t wr => ∃ k : Nat, k ≤ vs.length ∧ t = .int .i64 k ∧ Below w7.heap.size w7 wr) (fun t _ => vs.length - (intOf t).toNat)
      case atStart => exact ⟨0, by omega, rfl, Below.refl _ _⟩
      case round =>
        obtain ⟨k, hk, rfl, hbr⟩ := hrel
        have hzr := hbr.size
        by_cases hlt : k < vs.length
        · obtain ⟨z, hz⟩ : ∃ z, vs[k]? = some z := ⟨vs[k], by simp⟩
          obtain ⟨g, o, rfl, hg, q0⟩ := HI3.out k z hz
          obtain ⟨g', o', rfl, hg', q1⟩ := HI5.out k z hz
          replace q0 := (hbr.cell (p := ⟨g, o + k, none⟩) hg).trans q0
          replace q1 := (hbr.cell (p := ⟨g', o' + k, none⟩) hg').trans q1
          have i1 : (k : Int) < (vs.length : Int) := by omega
          have HBR := Lib.hid hbr
          clear hbr
          go_wp2_with fail
          have hS0 : wr.drew.cell? ⟨g, o + k, none⟩ = some (.int .i64 z) ∧ wr.drew.cell? ⟨g', o' + k, none⟩ = some (.int .i64 z) := ⟨q0, q1⟩
          refine wp_region_Z (fun W => W.cell? ⟨g, o + k, none⟩ = some (.int .i64 z) ∧ W.cell? ⟨g', o' + k, none⟩ = some (.int .i64 z)) 9 [] (by kernel_rfl) (by kernel_rfl) ?_
          (apply wpZ_step (i := 0) rfl (by kernel_rfl) rfl; (case h => (intro W hW; obtain ⟨s0, s1⟩ := hW; go_simp; first | done | exact rfl)); (case hQ => (exact fun _ _ _ h => h)); (case hS => assumption); intro K hK; go_simp; refine hK _ _ ?_; clear hK K)
          (apply wpZ_step (i := 1) rfl (by kernel_rfl) rfl; (case h => (intro W hW; obtain ⟨s0, s1⟩ := hW; go_simp; first | done | exact rfl)); (case hQ => (exact fun _ _ _ h => h)); (case hS => assumption); intro K hK; go_simp; refine hK _ _ ?_; clear hK K)
          (apply wpZ_step (i := 2) rfl (by kernel_rfl) rfl; (case h => (intro W hW; obtain ⟨s0, s1⟩ := hW; go_simp; first | done | exact rfl)); (case hQ => (exact fun _ _ _ h => h)); (case hS => assumption); intro K hK; go_simp; refine hK _ _ ?_; clear hK K)
          (apply wpZ_step (i := 3) rfl (by kernel_rfl) rfl; (case h => (intro W hW; obtain ⟨s0, s1⟩ := hW; go_simp; first | done | exact rfl)); (case hQ => (exact fun _ _ _ h => h)); (case hS => assumption); intro K hK; go_simp; refine hK _ _ ?_; clear hK K)
          (apply wpZ_step (i := 4) rfl (by kernel_rfl) rfl; (case h => (intro W hW; obtain ⟨s0, s1⟩ := hW; go_simp; first | done | exact rfl)); (case hQ => (exact fun _ _ _ h => h)); (case hS => assumption); intro K hK; go_simp; refine hK _ _ ?_; clear hK K)
          (apply wpZ_step (i := 5) rfl (by kernel_rfl) rfl; (case h => (intro W hW; obtain ⟨s0, s1⟩ := hW; go_simp; first | done | exact rfl)); (case hQ => (exact fun _ _ _ h => h)); (case hS => assumption); intro K hK; go_simp; refine hK _ _ ?_; clear hK K)
          (apply wpZ_step (i := 6) rfl (by kernel_rfl) rfl; (case h => (intro W hW; obtain ⟨s0, s1⟩ := hW; go_simp; first | done | exact rfl)); (case hQ => (exact fun _ _ _ h => h)); (case hS => assumption); intro K hK; go_simp; refine hK _ _ ?_; clear hK K)
          (apply wpZ_step (i := 7) rfl (by kernel_rfl) rfl; (case h => (intro W hW; obtain ⟨s0, s1⟩ := hW; go_simp; first | done | exact rfl)); (case hQ => (exact fun _ _ _ h => h)); (case hS => assumption); intro K hK; go_simp; refine hK _ _ ?_; clear hK K)
          (apply wpZ_step (i := 8) rfl (by kernel_rfl) rfl; (case h => (intro W hW; obtain ⟨s0, s1⟩ := hW; go_simp; first | done | exact rfl)); (case hQ => (exact fun _ _ _ h => h)); (case hS => assumption); intro K hK; go_simp; refine hK _ _ ?_; clear hK K)
          refine wpZ_nil (by kernel_rfl) ?_
          (try simp only [List.filterMap_nil])
          go_simp
          go_wp2_with fail
          go_roundw
          case rel => exact ⟨k + 1, by omega, by go_num, HBR.out.drew⟩
          case measure => simp [intOf]; omega
        · obtain rfl : k = vs.length := by omega
          go_wp2_with fail
          go_ret
          exact ⟨rfl, HB7.out.trans (hbr.mono (by have := HB7.out.size; omega))⟩
end Go.Proofs.YteondblmcooklaaDoor
