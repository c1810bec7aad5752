/- The contract of source's item. -/
import Derived.Test.YteondblmcooklaaDoorSrcE
namespace Go.Proofs.YteondblmcooklaaDoor
open Go Go.RowKit
set_option linter.unusedVariables false
set_option maxHeartbeats 4000000 in
theorem item_any (w : World) (rb N e c : Nat) (A : Option Addr) (l : List WV) (h : RdAt w rb N A l e c) (ht : Tabs w) (h3 : 3 ≤ rb) (hl : l.length ≤ 20000) :
    Calls Tryd.prog 25 #[.pointer (some ⟨rb, 0, none⟩)] w (ItemOut rb N e (itemF e l) w) := by
  have hrb := h.lt
  have h1 := h.alloc (.cells #[.string ⟨#[]⟩, .string ⟨#[]⟩, .slice none 0 0, .int .i64 0] 35)
  have hb0 := (But.refl rb w).alloc (.cells #[.string ⟨#[]⟩, .string ⟨#[]⟩, .slice none 0 0, .int .i64 0] 35)
  have hX0 := C4.new w (.string ⟨#[]⟩) (.string ⟨#[]⟩) (.slice none 0 0) (.int .i64 0) 35
  have HT := Lib.hid (ht.alloc (.cells #[.string ⟨#[]⟩, .string ⟨#[]⟩, .slice none 0 0, .int .i64 0] 35))
  clear ht
  by_cases k1 : isK l 1 = true
  · obtain ⟨⟨kd, tx, nm, pl⟩, l1, rfl, hx⟩ := isK_cons k1
    simp only at hx
    subst hx
    cases hw : isWord tx
    · have hR : itemF e (⟨1, tx, nm, pl⟩ :: l1) = .err 4 pl := by simp [itemF, hw]
      have b1 : ((txtOf tx).toList == []) = true := by rw [txt_word, hw]; rfl
      rw [hR]
      go_enter Tryd.func25, Tryd.ntmps25; (try simp only [List.append_eq, List.cons_append, List.nil_append])
      go_wp2_with (first | (go_at_call 40; refine (take_ok _ _ _ _ _ _ _ _ h1 _ rfl).mono ?_; rintro e w1 ⟨rfl, hb1, A1, c1, h2⟩; simp only [vOfW]) | (go_at_call 31; refine (keys_any _ _).mono ?_; rintro e w2 ⟨rfl, hb2⟩; obtain ⟨d0, d1, d2, d3, dz, dl⟩ := (C4.new w1 (.int .i64 1) (.string tx) (.int .i64 nm) (.int .i64 pl) 92).below hb2 (by simp)))
      exact ⟨rfl, ((hb0.trans hb1).alloc _).below hb2 (by have := hb1.size; simp at this ⊢; omega), rfl⟩
    · have b1 : ((txtOf tx).toList == []) = false := by rw [txt_word, hw]; rfl
      by_cases htab : tx = tTable
      · have b2 : (tx.toList == [116, 97, 98, 108, 101]) = true := txt_eqL htab
        have hR : itemF e (⟨1, tx, nm, pl⟩ :: l1) = mkI tx ⟨#[]⟩ pl (keysF e tx (l1.length + 1) [] l1) := by simp only [itemF]; rw [if_neg (by simp), if_neg (by simp [hw]), if_pos htab, restF_eq]
        obtain ⟨R, hRe⟩ : ∃ R, R = mkI tx ⟨#[]⟩ pl (keysF e tx (l1.length + 1) [] l1) := ⟨_, rfl⟩
        have HR := Lib.hid hRe
        simp only [List.length_cons] at hl
        rw [hR, ← hRe]
        clear hR hRe htab
        go_enter Tryd.func25, Tryd.ntmps25; (try simp only [List.append_eq, List.cons_append, List.nil_append])
        go_wp2_with (first | (go_at_call 40; refine (take_ok _ _ _ _ _ _ _ _ h1 _ rfl).mono ?_; rintro e w1 ⟨rfl, hb1, A1, c1, h2⟩; simp only [vOfW]) | (go_at_call 31; refine (keys_any _ _).mono ?_; rintro e w2 ⟨rfl, hb2⟩; obtain ⟨d0, d1, d2, d3, dz, dl⟩ := (C4.new w1 (.int .i64 1) (.string tx) (.int .i64 nm) (.int .i64 pl) 92).below hb2 (by simp)))
        have hz1 := hb1.size
        simp at hz1
        have hz2 := hb2.size
        simp at hz2
        obtain ⟨XB, hXe⟩ : ∃ XB, XB = w2.heap.size := ⟨_, rfl⟩
        have hX0' := (((hX0.but hb1 (by omega)).alloc (.cells #[.int .i64 1, .string tx, .int .i64 nm, .int .i64 pl] 92)).below hb2 (by simp; omega)).alloc (.cells #[.string tx, .string ⟨#[]⟩, .slice none 0 0, .int .i64 pl] 35)
        have hXB := C4.new w2 (.string tx) (.string ⟨#[]⟩) (.slice none 0 0) (.int .i64 pl) 35
        have hrd := ((h2.alloc (.cells #[.int .i64 1, .string tx, .int .i64 nm, .int .i64 pl] 92)).below hb2 (Nat.le_refl _)).alloc (.cells #[.string tx, .string ⟨#[]⟩, .slice none 0 0, .int .i64 pl] 35)
        have hbut := (((hb0.trans hb1).alloc (.cells #[.int .i64 1, .string tx, .int .i64 nm, .int .i64 pl] 92)).below hb2 (by simp; omega)).alloc (.cells #[.string tx, .string ⟨#[]⟩, .slice none 0 0, .int .i64 pl] 35)
        have HT0 := Lib.hid ((((HT.out.but hb1 h3).alloc (.cells #[.int .i64 1, .string tx, .int .i64 nm, .int .i64 pl] 92)).below hb2 (by simp; omega)).alloc (.cells #[.string tx, .string ⟨#[]⟩, .slice none 0 0, .int .i64 pl] 35))
        rw [← hXe] at hXB ⊢
        have hXw : w.heap.size + 1 ≤ XB := by omega
        clear hXe h h1 hb0 hX0 HT hb1 hb2 h2 b1 b2 d0 d1 d2 d3 dz dl
        go_loopg [] (l1.length + 1) (fun gk wr => ∃ (l : List WV) (A : Option Addr) (c : Nat) (ks : List KV) (B : Option Addr) (d f : Nat), l.length < gk ∧ l.length < f ∧ ks.length + l.length ≤ 20000 ∧ Hid (∀ k ∈ ks, k.vals.length ≤ 2) ∧ But rb w wr ∧ C4 wr w.heap.size (.string ⟨#[]⟩) (.string ⟨#[]⟩) (.slice none 0 0) (.int .i64 0) ∧ C4 wr XB (.string tx) (.string ⟨#[]⟩) (.slice B ks.length d) (.int .i64 pl) ∧ Hid (KsOwn wr (XB + 1) 71 B d ks) ∧ RdAt wr rb N A l e c ∧ Hid (R = mkI tx ⟨#[]⟩ pl (keysF e tx f ks l)) ∧ Hid (Tabs wr))
        case atStart => exact ⟨l1, A1, c1, [], none, 0, l1.length + 1, by omega, by omega, by simp; omega, Lib.hid (by simp), hbut, hX0', hXB, Lib.hid (KsOwn.nil _ _ _), hrd, HR, HT0⟩
        case round =>
          obtain ⟨l, A, c, ks, B, d, f, hlk, hlf, hkl, HV, hbr, x4, b4, HO, hr, HJ, HTr⟩ := hrel
          have hr0 := hr.lt
          have hne : XB ≠ rb := by omega
          have hne0 : w.heap.size ≠ rb := by omega
          obtain ⟨f, rfl⟩ : ∃ g, f = g + 1 := ⟨f - 1, by omega⟩
          have hlK := b4.lt
          obtain ⟨y0, y1, y2, y3, yz, yl⟩ := b4
          by_cases k3 : isK l 3 = true
          · obtain ⟨⟨kd, t3, n3, p3⟩, lr, rfl, hx3⟩ := isK_cons k3
            simp only at hx3
            subst hx3
            obtain rfl : R = .ok ⟨tx, ⟨#[]⟩, ks, pl⟩ lr := HJ.out
            go_wp2_with (first | (go_at_call 41; refine (is_any _ _ _ _ _ _ _ hr _).mono ?_; rintro e w3 ⟨rfl, rfl⟩; rw [k3]) | (go_at_call 40; refine (take_ok _ _ _ _ _ _ _ _ hr _ rfl).mono ?_; rintro e w3 ⟨rfl, hb3, A3, c3, h3'⟩; obtain ⟨u0, u1, u2, u3, uz, ul⟩ := x4.but hb3 hne0; obtain ⟨z0, z1, z2, z3, zz, zl⟩ := (C4.mk y0 y1 y2 y3 yz yl).but hb3 hne))

            refine bodyPost_ret (v := .agg #[.string tx, .string ⟨#[]⟩, .slice B ks.length d, .int .i64 pl]) (by simp only [results, Tryd.results25]; go_simp) rfl ⟨?_, ?_⟩
            · exact ((((hbr.trans hb3).set _ (.inr (Nat.le_refl _))).set _ (.inr (Nat.le_refl _))).set _ (.inr (Nat.le_refl _))).set _ (.inr (Nat.le_refl _))
            · refine ⟨B, d, A3, c3, rfl, ?_, ?_⟩
              · exact ((((HO.out.but hb3 (by omega)).low (p := ⟨w.heap.size, 0, none⟩) (by show w.heap.size < _; omega) _).low (p := ⟨w.heap.size, 1, none⟩) (by show w.heap.size < _; omega) _).low (p := ⟨w.heap.size, 2, none⟩) (by show w.heap.size < _; omega) _).low (p := ⟨w.heap.size, 3, none⟩) (by show w.heap.size < _; omega) _ |>.weaker (by omega)
              · exact (((h3'.set _ (by show rb < w.heap.size; omega)).set _ (by show rb < w.heap.size; omega)).set _ (by show rb < w.heap.size; omega)).set _ (by show rb < w.heap.size; omega)
          · have k3' : isK l 3 = false := by simpa using k3
            by_cases k1 : isK l 1 = true
            · obtain ⟨⟨kd, kt, kn, kp⟩, lr, rfl, hx1⟩ := isK_cons k1
              simp only at hx1
              subst hx1
              by_cases ha : arR tx kt < 0
              · obtain rfl : R = .err 4 kp := by rw [HJ.out]; simp only [keysF]; rw [if_neg (by simp), if_neg (by simp), if_pos ha]; rfl
                go_wp2_with (first | (go_at_call 41; refine (is_any _ _ _ _ _ _ _ hr _).mono ?_; rintro e w3 ⟨rfl, rfl⟩; rw [k3']) | (go_at_call 40; refine (take_ok _ _ _ _ _ _ _ _ hr _ rfl).mono ?_; rintro e w3 ⟨rfl, hb3, A3, c3, h3'⟩; simp only [vOfW]; obtain ⟨z0, z1, z2, z3, zz, zl⟩ := (C4.mk y0 y1 y2 y3 yz yl).but hb3 hne) | (go_at_call 17; refine (arity_any _ _ _ ((HTr.out.but hb3 h3).alloc _)).mono ?_; rintro e w4 ⟨rfl, hb4⟩; obtain ⟨q0, q1, q2, q3, qz, ql⟩ := (C4.new w3 (.int .i64 1) (.string kt) (.int .i64 kn) (.int .i64 kp) 92).below hb4 (by simp)))
                exact ⟨rfl, ((hbr.trans hb3).alloc _).below hb4 (by have := hb3.size; have := hbr.size; simp; omega), rfl⟩
              · have hge : 0 ≤ arR tx kt := by omega
                have hle := (arR_bd tx kt).2
                cases hG : getR ks kt with
                | some vs =>
                  have hh : hasK ks kt = true := by rw [hasK_get, hG]; rfl
                  obtain rfl : R = .err 7 kp := by rw [HJ.out]; simp only [keysF]; rw [if_neg (by simp), if_neg (by simp), if_neg ha, if_pos hh]; rfl
                  go_wp2_with (first | (go_at_call 41; refine (is_any _ _ _ _ _ _ _ hr _).mono ?_; rintro e w3 ⟨rfl, rfl⟩; rw [k3']) | (go_at_call 40; refine (take_ok _ _ _ _ _ _ _ _ hr _ rfl).mono ?_; rintro e w3 ⟨rfl, hb3, A3, c3, h3'⟩; simp only [vOfW]; obtain ⟨z0, z1, z2, z3, zz, zl⟩ := (C4.mk y0 y1 y2 y3 yz yl).but hb3 hne) | (go_at_call 17; refine (arity_any _ _ _ ((HTr.out.but hb3 h3).alloc _)).mono ?_; rintro e w4 ⟨rfl, hb4⟩; obtain ⟨q0, q1, q2, q3, qz, ql⟩ := (C4.new w3 (.int .i64 1) (.string kt) (.int .i64 kn) (.int .i64 kp) 92).below hb4 (by simp); obtain ⟨m0, m1, m2, m3, mz, ml⟩ := ((C4.mk z0 z1 z2 z3 zz zl).alloc _).below hb4 (by simp; omega)) | (go_at_call 15; refine (get_any ⟨tx, ⟨#[]⟩, ks, pl⟩ B d kt _ (((HO.out.but hb3 (by omega)).at.below ((Below.refl w3.heap.size w3).alloc (Nat.le_refl _) _) (Nat.le_refl _)).below hb4 (Nat.le_refl _)) (by simp at hkl; show ks.length ≤ _; omega) (fun k hk => by have := HV.out k hk; omega)).mono ?_; rintro e w5 ⟨hb5, hg⟩; rw [hG] at hg; obtain ⟨A5, c5, rfl, _⟩ := hg; obtain ⟨r0, r1, r2, r3, rz, rl⟩ := (C4.mk q0 q1 q2 q3 qz ql).below hb5 (by omega)))
                  exact ⟨rfl, (((hbr.trans hb3).alloc _).below hb4 (by have := hb3.size; have := hbr.size; simp; omega)).below hb5 (by have := hb3.size; have := hbr.size; have := hb4.size; simp at *; omega), rfl⟩
                | none =>
                  have hh : hasK ks kt = false := by rw [hasK_get, hG]; rfl
                  obtain ⟨n, hn⟩ : ∃ n : Nat, arR tx kt = n := ⟨(arR tx kt).toNat, by omega⟩
                  have HJ2 : Hid (R = mkI tx ⟨#[]⟩ pl (numK e tx f ks kt kp (numsF e (n - 0) [] lr))) := Lib.hid (by rw [HJ.out, keysF_key rfl ha hh, hn]; rfl)
                  rw [hn] at ha hge hle
                  have HN := Lib.hid hn
                  clear hn
                  go_wp2_with (first | (go_at_call 41; refine (is_any _ _ _ _ _ _ _ hr _).mono ?_; rintro e w3 ⟨rfl, rfl⟩; rw [k3']) | (go_at_call 40; refine (take_ok _ _ _ _ _ _ _ _ hr _ rfl).mono ?_; rintro e w3 ⟨rfl, hb3, A3, c3, h3'⟩; simp only [vOfW]; obtain ⟨z0, z1, z2, z3, zz, zl⟩ := (C4.mk y0 y1 y2 y3 yz yl).but hb3 hne) | (go_at_call 17; refine (arity_any _ _ _ ((HTr.out.but hb3 h3).alloc _)).mono ?_; rintro e w4 ⟨rfl, hb4⟩; rw [HN.out]; obtain ⟨q0, q1, q2, q3, qz, ql⟩ := (C4.new w3 (.int .i64 1) (.string kt) (.int .i64 kn) (.int .i64 kp) 92).below hb4 (by simp); obtain ⟨m0, m1, m2, m3, mz, ml⟩ := ((C4.mk z0 z1 z2 z3 zz zl).alloc _).below hb4 (by simp; omega)) | (go_at_call 15; refine (get_any ⟨tx, ⟨#[]⟩, ks, pl⟩ B d kt _ (((HO.out.but hb3 (by omega)).at.below ((Below.refl w3.heap.size w3).alloc (Nat.le_refl _) _) (Nat.le_refl _)).below hb4 (Nat.le_refl _)) (by simp at hkl; show ks.length ≤ _; omega) (fun k hk => by have := HV.out k hk; omega)).mono ?_; rintro e w5 ⟨hb5, hg⟩; rw [hG] at hg; obtain rfl := hg; obtain ⟨r0, r1, r2, r3, rz, rl⟩ := (C4.mk q0 q1 q2 q3 qz ql).below hb5 (by omega)))
                  have hz3 := hb3.size
                  have hz4 := hb4.size
                  have hz5 := hb5.size
                  simp at hz4
                  simp only [List.length_cons] at hkl hlk hlf
                  obtain ⟨KB, hKe⟩ : ∃ KB, KB = w5.heap.size := ⟨_, rfl⟩
                  have hbk : But rb wr w5 := ((hb3.alloc (.cells #[.int .i64 1, .string kt, .int .i64 kn, .int .i64 kp] 92)).below hb4 (by simp; omega)).below hb5 (by omega)
                  have HO5 := Lib.hid (HO.out.but hbk (by omega))
                  have x5 := x4.but hbk hne0
                  have b5 := (C4.mk y0 y1 y2 y3 yz yl).but hbk hne
                  have HT5 := Lib.hid (HTr.out.but hbk h3)
                  have hr5 := (((h3'.alloc (.cells #[.int .i64 1, .string kt, .int .i64 kn, .int .i64 kp] 92)).below hb4 (Nat.le_refl _)).below hb5 (Nat.le_refl _)).alloc (.cells #[.string kt, .slice none 0 0, .int .i64 kp] 71)
                  have k5 := C3.new w5 (.string kt) (.slice none 0 0) (.int .i64 kp) 71
                  have hbw5 := hbr.trans hbk
                  have hbi0 := (But.refl rb w5).alloc (.cells #[.string kt, .slice none 0 0, .int .i64 kp] 71)
                  rw [← hKe] at k5 ⊢
                  have hKx : XB < KB := by omega
                  have HKe := Lib.hid hKe
                  clear hKe hb3 hb4 hb5 hbk HO x4 HTr h3' hbr hr y0 y1 y2 y3 yz yl z0 z1 z2 z3 zz zl q0 q1 q2 q3 qz ql m0 m1 m2 m3 mz ml r0 r1 r2 r3 rz rl HJ k1 k3 k3' hG hh hz3 hz4 hz5
                  go_loopg [66] (n + 1) (fun gk t wi => ∃ (l : List WV) (A : Option Addr) (c : Nat) (vs : List Int) (V : Option Addr) (q : Nat), vs.length ≤ n ∧ n - vs.length < gk ∧ t = .int .i64 vs.length ∧ l.length ≤ lr.length ∧ But rb w5 wi ∧ RdAt wi rb N A l e c ∧ C3 wi KB (.string kt) (.slice V vs.length q) (.int .i64 kp) ∧ Hid (OwnI wi (KB + 1) V q vs) ∧ Hid (R = mkI tx ⟨#[]⟩ pl (numK e tx f ks kt kp (numsF e (n - vs.length) vs l))))
                  case atStart => exact ⟨lr, A3, c3, [], none, 0, by simp, by simp, rfl, Nat.le_refl _, hbi0, hr5, k5, Lib.hid (OwnI.nil _ _), HJ2⟩
                  case round =>
                    obtain ⟨l, A, c, vs, V, q, hi, hik, rfl, hll, hbi, hri, k3i, HVs, HJ3⟩ := hrel
                    have hri0 := hri.lt
                    by_cases hin : vs.length < n
                    · obtain ⟨m, hm⟩ : ∃ m, n - vs.length = m + 1 := ⟨n - vs.length - 1, by omega⟩
                      rw [hm] at HJ3
                      have i1 : (vs.length : Int) < (n : Int) := by omega
                      by_cases k2 : isK l 2 = true
                      · obtain ⟨⟨kd, vt, vn, vp⟩, l', rfl, hx2⟩ := isK_cons k2
                        simp only at hx2
                        subst hx2
                        have HJ4 : Hid (R = mkI tx ⟨#[]⟩ pl (numK e tx f ks kt kp (numsF e m (vs ++ [vn]) l'))) := Lib.hid (by rw [HJ3.out]; rfl)
                        go_wp2_with fail
                        have hS0 : C3 wr.drew KB (.string kt) (.slice V vs.length q) (.int .i64 kp) := k3i.block (Nat.le_refl _) rfl
                        refine wp_region_Z (fun W => C3 W KB (.string kt) (.slice V vs.length q) (.int .i64 kp)) 6 [6, 7, 8] (by kernel_rfl) (by kernel_rfl) ?_
                        refine wpZ_step (i := 0) rfl (by kernel_rfl) rfl (.pointer (some ⟨KB, 1, none⟩)) (fun _ _ _ h => h) (by assumption) (fun W hW => by obtain ⟨s0, s1, s2, sz, sl⟩ := hW; go_simp) (fun K hK => ?_); go_simp; refine hK _ _ ?_; clear hK K
                        refine wpZ_step (i := 1) rfl (by kernel_rfl) rfl (.slice V vs.length q) (fun _ _ _ h => h) (by assumption) (fun W hW => by obtain ⟨s0, s1, s2, sz, sl⟩ := hW; go_simp) (fun K hK => ?_); go_simp; refine hK _ _ ?_; clear hK K
                        refine wpZ_step (i := 2) rfl (by kernel_rfl) rfl (.pointer (some ⟨rb, 0, none⟩)) (fun _ _ _ h => h) (by assumption) (fun W hW => by obtain ⟨s0, s1, s2, sz, sl⟩ := hW; go_simp) (fun K hK => ?_); go_simp; refine hK _ _ ?_; clear hK K
                        refine wpZ_one (i := 3) rfl (by kernel_rfl) rfl (fun K hK => ?_)
                        go_simp
                        (go_at_call 40; refine (take_ok _ _ _ _ _ _ _ _ hri.drew _ rfl).mono ?_; rintro e w6 ⟨rfl, hb6, A6, c6, h6⟩; simp only [vOfW])
                        replace hb6 := hb6.of_drew
                        have k6 := k3i.but hb6 (by omega)
                        refine ⟨k6, hK _ _ ?_⟩
                        clear hK K hS0
                        refine wpZ_step (i := 4) rfl (by kernel_rfl) rfl (.int .i64 vn) (fun _ _ _ h => h) (by assumption) (fun W hW => by obtain ⟨s0, s1, s2, sz, sl⟩ := hW; go_simp) (fun K hK => ?_); go_simp; refine hK _ _ ?_; clear hK K
                        refine wpZ_one (i := 5) rfl (by kernel_rfl) rfl (fun K hK => ?_)
                        go_simp
                        refine ⟨k6.alloc _, hK _ _ ?_⟩
                        clear hK K
                        refine wpZ_nil (by kernel_rfl) ?_
                        simp only [List.filterMap_cons, List.filterMap_nil, List.getElem?_cons_succ, List.getElem?_cons_zero]
                        have hfr := own_fresh (own_below (OwnI.but HVs.out hb6 (by omega)) ((Below.refl w6.heap.size w6).alloc (Nat.le_refl _) (.cells #[.int .i64 vn] 3)) (Nat.le_refl _))
                        refine wpList_append_one rfl _ _ 37 3 _ 1 8 rfl Tryd.underlying37 intInfo rfl (by decide) (by decide) (KB + 1) (.slice V vs.length q) vs.length (vs.map (Value.int .i64)) [.int .i64 vn] rfl (own_below (OwnI.but HVs.out hb6 (by omega)) ((Below.refl w6.heap.size w6).alloc (Nat.le_refl _) _) (Nat.le_refl _)) w6.heap.size 1 rfl rfl (cells1 (by go_simp)) (by simp [Value.oneCell']) (by omega) (by have := k6.lt; simp; omega) ?_
                        intro v7 w7 ho7 hg7 _
                        obtain ⟨V', q', rfl⟩ := own_sl ho7
                        have ho7' : OwnI w7 (KB + 1) V' q' (vs ++ [vn]) := by
                          unfold OwnI
                          rw [List.map_append, List.length_append]
                          exact ho7
                        have k7 := (k6.alloc (.cells #[.int .i64 vn] 3)).grown hg7 hfr (Nat.lt_succ_self _)
                        have h7 := (h6.alloc (.cells #[.int .i64 vn] 3)).grown hg7 (fun k hk => by have := hfr k hk; omega)
                        have hb7 := ((hbi.trans hb6).alloc (.cells #[.int .i64 vn] 3)).grown hg7 (fun k hk => by have := hfr k hk; have := HKe.out; omega)
                        obtain ⟨s0, s1, s2, sz, sl⟩ := k7
                        go_simp
                        go_wp2_with fail
                        go_roundg (n - vs.length)
                        case measure => omega
                        case rel => exact ⟨l', A6, c6, vs ++ [vn], V', q', by simp only [List.length_append, List.length_cons, List.length_nil]; omega, by simp only [List.length_append, List.length_cons, List.length_nil]; omega, by simp, by simp only [List.length_cons] at hll; omega, hb7.set _ (.inr (by show w5.heap.size ≤ KB; have := HKe.out; omega)), h7.set _ (by show rb < KB; omega), by simpa using (C3.mk s0 s1 s2 sz sl).set1 _, Lib.hid (ho7'.low (by show KB < KB + 1; omega) _), Lib.hid (by rw [HJ4.out, show n - (vs ++ [vn]).length = m by simp only [List.length_append, List.length_cons, List.length_nil]; omega])⟩
                      · have k2' : isK l 2 = false := by simpa using k2
                        obtain rfl : R = .err 4 (atR l e) := by
                          rw [HJ3.out]
                          cases l with
                          | nil => rfl
                          | cons y l => simp only [numsF]; rw [if_neg (isK_not k2')]; rfl
                        go_wp2_with fail
                        have hS0 : C3 wr.drew KB (.string kt) (.slice V vs.length q) (.int .i64 kp) := k3i.block (Nat.le_refl _) rfl
                        refine wp_region_Z (fun W => C3 W KB (.string kt) (.slice V vs.length q) (.int .i64 kp)) 6 [6, 7, 8] (by kernel_rfl) (by kernel_rfl) ?_
                        refine wpZ_step (i := 0) rfl (by kernel_rfl) rfl (.pointer (some ⟨KB, 1, none⟩)) (fun _ _ _ h => h) (by assumption) (fun W hW => by obtain ⟨s0, s1, s2, sz, sl⟩ := hW; go_simp) (fun K hK => ?_); go_simp; refine hK _ _ ?_; clear hK K
                        refine wpZ_step (i := 1) rfl (by kernel_rfl) rfl (.slice V vs.length q) (fun _ _ _ h => h) (by assumption) (fun W hW => by obtain ⟨s0, s1, s2, sz, sl⟩ := hW; go_simp) (fun K hK => ?_); go_simp; refine hK _ _ ?_; clear hK K
                        refine wpZ_step (i := 2) rfl (by kernel_rfl) rfl (.pointer (some ⟨rb, 0, none⟩)) (fun _ _ _ h => h) (by assumption) (fun W hW => by obtain ⟨s0, s1, s2, sz, sl⟩ := hW; go_simp) (fun K hK => ?_); go_simp; refine hK _ _ ?_; clear hK K
                        refine wpZ_one (i := 3) rfl (by kernel_rfl) rfl (fun K hK => ?_)
                        go_simp
                        (go_at_call 40; refine (take_bad _ _ _ _ _ _ _ hri.drew _ k2').mono ?_; rintro e w6 ⟨rfl, hb6⟩)
                        exact ⟨rfl, (hbw5.trans hbi).below (below_drew hb6) (Nat.le_trans hbw5.size hbi.size), rfl⟩
                    · obtain rfl : n = vs.length := by omega
                      have i1 : ¬ (vs.length : Int) < (vs.length : Int) := by omega
                      have HJ4 : Hid (R = mkI tx ⟨#[]⟩ pl (keysF e tx f (ks ++ [⟨kt, vs, kp⟩]) l)) := Lib.hid (by rw [HJ3.out, Nat.sub_self]; rfl)
                      obtain ⟨y0, y1, y2, y3, yz, yl⟩ := b5.but hbi hne
                      have HO6 := HO5.out.but hbi (by omega)
                      have hkq : KsOwn (wr.alloc (.cells #[.string kt, .slice V vs.length q, .int .i64 kp] 71)) (XB + 1) 71 B d ks := HO6.below ((Below.refl wr.heap.size wr).alloc (Nat.le_refl _) _) (Nat.le_refl _)
                      have hvq : OwnI (wr.alloc (.cells #[.string kt, .slice V vs.length q, .int .i64 kp] 71)) (XB + 1) V q vs := (OwnI.weaker HVs.out (by omega : XB + 1 ≤ KB + 1)) |> fun h => own_below h ((Below.refl wr.heap.size wr).alloc (Nat.le_refl _) _) (Nat.le_refl _)
                      obtain ⟨xs, hxs, hmore⟩ := hkq.more (by decide)
                      have HM := Lib.hid hmore
                      have HXS := Lib.hid hxs
                      have K3 := Lib.hid k3i
                      obtain ⟨s0, s1, s2, sz, sl⟩ := k3i
                      have hfr := own_fresh hxs
                      have HFR := Lib.hid hfr
                      have hVQ := Lib.hid hvq
                      clear hmore hxs hfr hvq hkq HO6
                      go_wp2_with (at_builtin; go_must (refine wpList_append_one rfl _ _ 33 71 _ 3 48 rfl Tryd.underlying33 keyInfo rfl (by decide) (by decide) (XB + 1) (.slice B ks.length d) ks.length xs (cellsOfK ⟨kt, vs, kp⟩ V q) rfl HXS.out wr.heap.size 1 rfl rfl (C3.new wr _ _ _ _).cells (by simp [cellsOfK, Value.oneCell']) (by omega) (by simp; omega) ?_))
                      intro v7 w7 ho7 hg7 _
                      obtain ⟨B', d', rfl, hk7⟩ := HM.out ⟨kt, vs, kp⟩ V q v7 w7 hVQ.out ho7 hg7
                      have b7 := ((C4.mk y0 y1 y2 y3 yz yl).alloc (.cells #[.string kt, .slice V vs.length q, .int .i64 kp] 71)).grown hg7 HFR.out (Nat.lt_succ_self _)
                      have x7 := ((x5.but hbi hne0).alloc (.cells #[.string kt, .slice V vs.length q, .int .i64 kp] 71)).grown hg7 HFR.out (by omega)
                      have h7 := (hri.alloc (.cells #[.string kt, .slice V vs.length q, .int .i64 kp] 71)).grown hg7 (fun k hk => by have := HFR.out k hk; omega)
                      have hb7 := ((hbw5.trans hbi).alloc (.cells #[.string kt, .slice V vs.length q, .int .i64 kp] 71)).grown hg7 (fun k hk => by have := HFR.out k hk; omega)
                      have HT7 := Lib.hid (((HT5.out.but hbi h3).alloc (.cells #[.string kt, .slice V vs.length q, .int .i64 kp] 71)).grown hg7 (fun k hk => by have := HFR.out k hk; omega))
                      have HV7 : Hid (∀ k ∈ ks ++ [(⟨kt, vs, kp⟩ : KV)], k.vals.length ≤ 2) := Lib.hid (by
                        intro k hk
                        rcases List.mem_append.1 hk with h | h
                        · exact HV.out k h
                        · rw [List.mem_singleton] at h
                          rw [h]
                          show vs.length ≤ 2
                          omega)
                      clear y0 y1 y2 y3 yz yl s0 s1 s2 sz sl
                      obtain ⟨y0, y1, y2, y3, yz, yl⟩ := b7
                      go_wp2_with fail
                      go_roundg (l.length + 1)
                      case measure => omega
                      case rel => exact ⟨l, A, c, ks ++ [⟨kt, vs, kp⟩], B', d', f, by omega, by omega, by simp only [List.length_append, List.length_cons, List.length_nil]; omega, HV7, hb7.set _ (.inr (by show w.heap.size ≤ XB; omega)), x7.low (by show XB ≠ w.heap.size; omega) _, by simpa using (C4.mk y0 y1 y2 y3 yz yl).set2 _, Lib.hid (hk7.low (by show XB < XB + 1; omega) _), h7.set _ (by show rb < XB; omega), HJ4, Lib.hid (HT7.out.set (by show 3 ≤ XB; omega) _)⟩
            · have k1' : isK l 1 = false := by simpa using k1
              obtain rfl : R = .err 4 (atR l e) := by
                rw [HJ.out]
                cases l with
                | nil => rfl
                | cons y l => simp only [keysF]; rw [if_neg (isK_not k3'), if_pos (isK_not k1')]; rfl
              go_wp2_with (first | (go_at_call 41; refine (is_any _ _ _ _ _ _ _ hr _).mono ?_; rintro e w3 ⟨rfl, rfl⟩; rw [k3']) | (go_at_call 40; refine (take_bad _ _ _ _ _ _ _ hr _ k1').mono ?_; rintro e w3 ⟨rfl, hb3⟩))
              exact ⟨rfl, hbr.below hb3 hbr.size, rfl⟩
      · have b2 : (tx.toList == [116, 97, 98, 108, 101]) = false := txt_neL htab
        have hR0 : itemF e (⟨1, tx, nm, pl⟩ :: l1) = (match l1 with
            | [] => .err 4 e
            | y :: l' => if y.kind ≠ 1 then .err 4 y.at_ else restF e tx y.text pl l') := by simp only [itemF]; rw [if_neg (by simp), if_neg (by simp [hw]), if_neg htab]; cases l1 <;> rfl
        clear htab
        simp only [List.length_cons] at hl
        by_cases k2 : isK l1 1 = true
        · obtain ⟨⟨kd, yt, yn, yp⟩, l2, rfl, hy⟩ := isK_cons k2
          simp only at hy
          subst hy
          have hR : itemF e (⟨1, tx, nm, pl⟩ :: ⟨1, yt, yn, yp⟩ :: l2) = mkI tx yt pl (keysF e tx (l2.length + 1) [] l2) := by rw [hR0]; simp only; rw [if_neg (by simp), restF_eq]
          obtain ⟨R, hRe⟩ : ∃ R, R = mkI tx yt pl (keysF e tx (l2.length + 1) [] l2) := ⟨_, rfl⟩
          have HR := Lib.hid hRe
          rw [hR, ← hRe]
          clear hR hRe hR0 k2
          simp only [List.length_cons] at hl
          go_enter Tryd.func25, Tryd.ntmps25; (try simp only [List.append_eq, List.cons_append, List.nil_append])
          go_wp2_with (first | (go_at_call 40; refine (take_ok _ _ _ _ _ _ _ _ h1 _ rfl).mono ?_; rintro e w1 ⟨rfl, hb1, A1, c1, h2⟩; simp only [vOfW]) | (go_at_call 31; refine (keys_any _ _).mono ?_; rintro e w2 ⟨rfl, hb2⟩; obtain ⟨d0, d1, d2, d3, dz, dl⟩ := (C4.new w1 (.int .i64 1) (.string tx) (.int .i64 nm) (.int .i64 pl) 92).below hb2 (by simp)) | (go_at_call 40; refine (take_ok _ _ _ _ _ _ _ _ ((h2.alloc (.cells #[.int .i64 1, .string tx, .int .i64 nm, .int .i64 pl] 92)).below hb2 (Nat.le_refl _) |>.alloc (.cells #[.string tx, .string ⟨#[]⟩, .slice none 0 0, .int .i64 pl] 35)) _ rfl).mono ?_; rintro e w3 ⟨rfl, hb3, A2, c2, h3'⟩; simp only [vOfW]; obtain ⟨z0, z1, z2, z3, zz, zl⟩ := (C4.new w2 (.string tx) (.string ⟨#[]⟩) (.slice none 0 0) (.int .i64 pl) 35).but hb3 (by have := hb1.size; have := hb2.size; simp at *; omega)))
          have hz1 := hb1.size
          simp at hz1
          have hz2 := hb2.size
          simp at hz2
          obtain ⟨XB, hXe⟩ : ∃ XB, XB = w2.heap.size := ⟨_, rfl⟩
          have hX0' := (((((hX0.but hb1 (by omega)).alloc (.cells #[.int .i64 1, .string tx, .int .i64 nm, .int .i64 pl] 92)).below hb2 (by simp; omega)).alloc (.cells #[.string tx, .string ⟨#[]⟩, .slice none 0 0, .int .i64 pl] 35)).but hb3 (by omega)).low (p := ⟨w2.heap.size, 1, none⟩) (by show w2.heap.size ≠ _; omega) (.string yt)
          have hXB := (C4.mk z0 z1 z2 z3 zz zl).set1 (.string yt)
          have hrd := h3'.set (p := ⟨w2.heap.size, 1, none⟩) (.string yt) (by show rb < w2.heap.size; omega)
          have hbut := (((((hb0.trans hb1).alloc (.cells #[.int .i64 1, .string tx, .int .i64 nm, .int .i64 pl] 92)).below hb2 (by simp; omega)).alloc (.cells #[.string tx, .string ⟨#[]⟩, .slice none 0 0, .int .i64 pl] 35)).trans hb3).set (p := ⟨w2.heap.size, 1, none⟩) (.string yt) (.inr (by show w.heap.size ≤ w2.heap.size; omega))
          have HT0 := Lib.hid ((((((HT.out.but hb1 h3).alloc (.cells #[.int .i64 1, .string tx, .int .i64 nm, .int .i64 pl] 92)).below hb2 (by simp; omega)).alloc (.cells #[.string tx, .string ⟨#[]⟩, .slice none 0 0, .int .i64 pl] 35)).but hb3 h3).set (p := ⟨w2.heap.size, 1, none⟩) (by show 3 ≤ w2.heap.size; omega) (.string yt))
          rw [← hXe] at hX0' hXB hrd hbut HT0 ⊢
          have hXw : w.heap.size + 1 ≤ XB := by omega
          clear hXe h h1 hb0 hX0 HT hb1 hb2 h2 b1 b2 d0 d1 d2 d3 dz dl z0 z1 z2 z3 zz zl hb3 h3'
          go_loopg [] (l2.length + 1) (fun gk wr => ∃ (l : List WV) (A : Option Addr) (c : Nat) (ks : List KV) (B : Option Addr) (d f : Nat), l.length < gk ∧ l.length < f ∧ ks.length + l.length ≤ 20000 ∧ Hid (∀ k ∈ ks, k.vals.length ≤ 2) ∧ But rb w wr ∧ C4 wr w.heap.size (.string ⟨#[]⟩) (.string ⟨#[]⟩) (.slice none 0 0) (.int .i64 0) ∧ C4 wr XB (.string tx) (.string yt) (.slice B ks.length d) (.int .i64 pl) ∧ Hid (KsOwn wr (XB + 1) 71 B d ks) ∧ RdAt wr rb N A l e c ∧ Hid (R = mkI tx yt pl (keysF e tx f ks l)) ∧ Hid (Tabs wr))
          case atStart => exact ⟨l2, A2, c2, [], none, 0, l2.length + 1, by omega, by omega, by simp; omega, Lib.hid (by simp), hbut, hX0', hXB, Lib.hid (KsOwn.nil _ _ _), hrd, HR, HT0⟩
          case round =>
            obtain ⟨l, A, c, ks, B, d, f, hlk, hlf, hkl, HV, hbr, x4, b4, HO, hr, HJ, HTr⟩ := hrel
            have hr0 := hr.lt
            have hne : XB ≠ rb := by omega
            have hne0 : w.heap.size ≠ rb := by omega
            obtain ⟨f, rfl⟩ : ∃ g, f = g + 1 := ⟨f - 1, by omega⟩
            have hlK := b4.lt
            obtain ⟨y0, y1, y2, y3, yz, yl⟩ := b4
            by_cases k3 : isK l 3 = true
            · obtain ⟨⟨kd, t3, n3, p3⟩, lr, rfl, hx3⟩ := isK_cons k3
              simp only at hx3
              subst hx3
              obtain rfl : R = .ok ⟨tx, yt, ks, pl⟩ lr := HJ.out
              go_wp2_with (first | (go_at_call 41; refine (is_any _ _ _ _ _ _ _ hr _).mono ?_; rintro e w3 ⟨rfl, rfl⟩; rw [k3]) | (go_at_call 40; refine (take_ok _ _ _ _ _ _ _ _ hr _ rfl).mono ?_; rintro e w3 ⟨rfl, hb3, A3, c3, h3'⟩; obtain ⟨u0, u1, u2, u3, uz, ul⟩ := x4.but hb3 hne0; obtain ⟨z0, z1, z2, z3, zz, zl⟩ := (C4.mk y0 y1 y2 y3 yz yl).but hb3 hne))

              refine bodyPost_ret (v := .agg #[.string tx, .string yt, .slice B ks.length d, .int .i64 pl]) (by simp only [results, Tryd.results25]; go_simp) rfl ⟨?_, ?_⟩
              · exact ((((hbr.trans hb3).set _ (.inr (Nat.le_refl _))).set _ (.inr (Nat.le_refl _))).set _ (.inr (Nat.le_refl _))).set _ (.inr (Nat.le_refl _))
              · refine ⟨B, d, A3, c3, rfl, ?_, ?_⟩
                · exact ((((HO.out.but hb3 (by omega)).low (p := ⟨w.heap.size, 0, none⟩) (by show w.heap.size < _; omega) _).low (p := ⟨w.heap.size, 1, none⟩) (by show w.heap.size < _; omega) _).low (p := ⟨w.heap.size, 2, none⟩) (by show w.heap.size < _; omega) _).low (p := ⟨w.heap.size, 3, none⟩) (by show w.heap.size < _; omega) _ |>.weaker (by omega)
                · exact (((h3'.set _ (by show rb < w.heap.size; omega)).set _ (by show rb < w.heap.size; omega)).set _ (by show rb < w.heap.size; omega)).set _ (by show rb < w.heap.size; omega)
            · have k3' : isK l 3 = false := by simpa using k3
              by_cases k1 : isK l 1 = true
              · obtain ⟨⟨kd, kt, kn, kp⟩, lr, rfl, hx1⟩ := isK_cons k1
                simp only at hx1
                subst hx1
                by_cases ha : arR tx kt < 0
                · obtain rfl : R = .err 4 kp := by rw [HJ.out]; simp only [keysF]; rw [if_neg (by simp), if_neg (by simp), if_pos ha]; rfl
                  go_wp2_with (first | (go_at_call 41; refine (is_any _ _ _ _ _ _ _ hr _).mono ?_; rintro e w3 ⟨rfl, rfl⟩; rw [k3']) | (go_at_call 40; refine (take_ok _ _ _ _ _ _ _ _ hr _ rfl).mono ?_; rintro e w3 ⟨rfl, hb3, A3, c3, h3'⟩; simp only [vOfW]; obtain ⟨z0, z1, z2, z3, zz, zl⟩ := (C4.mk y0 y1 y2 y3 yz yl).but hb3 hne) | (go_at_call 17; refine (arity_any _ _ _ ((HTr.out.but hb3 h3).alloc _)).mono ?_; rintro e w4 ⟨rfl, hb4⟩; obtain ⟨q0, q1, q2, q3, qz, ql⟩ := (C4.new w3 (.int .i64 1) (.string kt) (.int .i64 kn) (.int .i64 kp) 92).below hb4 (by simp)))
                  exact ⟨rfl, ((hbr.trans hb3).alloc _).below hb4 (by have := hb3.size; have := hbr.size; simp; omega), rfl⟩
                · have hge : 0 ≤ arR tx kt := by omega
                  have hle := (arR_bd tx kt).2
                  cases hG : getR ks kt with
                  | some vs =>
                    have hh : hasK ks kt = true := by rw [hasK_get, hG]; rfl
                    obtain rfl : R = .err 7 kp := by rw [HJ.out]; simp only [keysF]; rw [if_neg (by simp), if_neg (by simp), if_neg ha, if_pos hh]; rfl
                    go_wp2_with (first | (go_at_call 41; refine (is_any _ _ _ _ _ _ _ hr _).mono ?_; rintro e w3 ⟨rfl, rfl⟩; rw [k3']) | (go_at_call 40; refine (take_ok _ _ _ _ _ _ _ _ hr _ rfl).mono ?_; rintro e w3 ⟨rfl, hb3, A3, c3, h3'⟩; simp only [vOfW]; obtain ⟨z0, z1, z2, z3, zz, zl⟩ := (C4.mk y0 y1 y2 y3 yz yl).but hb3 hne) | (go_at_call 17; refine (arity_any _ _ _ ((HTr.out.but hb3 h3).alloc _)).mono ?_; rintro e w4 ⟨rfl, hb4⟩; obtain ⟨q0, q1, q2, q3, qz, ql⟩ := (C4.new w3 (.int .i64 1) (.string kt) (.int .i64 kn) (.int .i64 kp) 92).below hb4 (by simp); obtain ⟨m0, m1, m2, m3, mz, ml⟩ := ((C4.mk z0 z1 z2 z3 zz zl).alloc _).below hb4 (by simp; omega)) | (go_at_call 15; refine (get_any ⟨tx, yt, ks, pl⟩ B d kt _ (((HO.out.but hb3 (by omega)).at.below ((Below.refl w3.heap.size w3).alloc (Nat.le_refl _) _) (Nat.le_refl _)).below hb4 (Nat.le_refl _)) (by simp at hkl; show ks.length ≤ _; omega) (fun k hk => by have := HV.out k hk; omega)).mono ?_; rintro e w5 ⟨hb5, hg⟩; rw [hG] at hg; obtain ⟨A5, c5, rfl, _⟩ := hg; obtain ⟨r0, r1, r2, r3, rz, rl⟩ := (C4.mk q0 q1 q2 q3 qz ql).below hb5 (by omega)))
                    exact ⟨rfl, (((hbr.trans hb3).alloc _).below hb4 (by have := hb3.size; have := hbr.size; simp; omega)).below hb5 (by have := hb3.size; have := hbr.size; have := hb4.size; simp at *; omega), rfl⟩
                  | none =>
                    have hh : hasK ks kt = false := by rw [hasK_get, hG]; rfl
                    obtain ⟨n, hn⟩ : ∃ n : Nat, arR tx kt = n := ⟨(arR tx kt).toNat, by omega⟩
                    have HJ2 : Hid (R = mkI tx yt pl (numK e tx f ks kt kp (numsF e (n - 0) [] lr))) := Lib.hid (by rw [HJ.out, keysF_key rfl ha hh, hn]; rfl)
                    rw [hn] at ha hge hle
                    have HN := Lib.hid hn
                    clear hn
                    go_wp2_with (first | (go_at_call 41; refine (is_any _ _ _ _ _ _ _ hr _).mono ?_; rintro e w3 ⟨rfl, rfl⟩; rw [k3']) | (go_at_call 40; refine (take_ok _ _ _ _ _ _ _ _ hr _ rfl).mono ?_; rintro e w3 ⟨rfl, hb3, A3, c3, h3'⟩; simp only [vOfW]; obtain ⟨z0, z1, z2, z3, zz, zl⟩ := (C4.mk y0 y1 y2 y3 yz yl).but hb3 hne) | (go_at_call 17; refine (arity_any _ _ _ ((HTr.out.but hb3 h3).alloc _)).mono ?_; rintro e w4 ⟨rfl, hb4⟩; rw [HN.out]; obtain ⟨q0, q1, q2, q3, qz, ql⟩ := (C4.new w3 (.int .i64 1) (.string kt) (.int .i64 kn) (.int .i64 kp) 92).below hb4 (by simp); obtain ⟨m0, m1, m2, m3, mz, ml⟩ := ((C4.mk z0 z1 z2 z3 zz zl).alloc _).below hb4 (by simp; omega)) | (go_at_call 15; refine (get_any ⟨tx, yt, ks, pl⟩ B d kt _ (((HO.out.but hb3 (by omega)).at.below ((Below.refl w3.heap.size w3).alloc (Nat.le_refl _) _) (Nat.le_refl _)).below hb4 (Nat.le_refl _)) (by simp at hkl; show ks.length ≤ _; omega) (fun k hk => by have := HV.out k hk; omega)).mono ?_; rintro e w5 ⟨hb5, hg⟩; rw [hG] at hg; obtain rfl := hg; obtain ⟨r0, r1, r2, r3, rz, rl⟩ := (C4.mk q0 q1 q2 q3 qz ql).below hb5 (by omega)))
                    have hz3 := hb3.size
                    have hz4 := hb4.size
                    have hz5 := hb5.size
                    simp at hz4
                    simp only [List.length_cons] at hkl hlk hlf
                    obtain ⟨KB, hKe⟩ : ∃ KB, KB = w5.heap.size := ⟨_, rfl⟩
                    have hbk : But rb wr w5 := ((hb3.alloc (.cells #[.int .i64 1, .string kt, .int .i64 kn, .int .i64 kp] 92)).below hb4 (by simp; omega)).below hb5 (by omega)
                    have HO5 := Lib.hid (HO.out.but hbk (by omega))
                    have x5 := x4.but hbk hne0
                    have b5 := (C4.mk y0 y1 y2 y3 yz yl).but hbk hne
                    have HT5 := Lib.hid (HTr.out.but hbk h3)
                    have hr5 := (((h3'.alloc (.cells #[.int .i64 1, .string kt, .int .i64 kn, .int .i64 kp] 92)).below hb4 (Nat.le_refl _)).below hb5 (Nat.le_refl _)).alloc (.cells #[.string kt, .slice none 0 0, .int .i64 kp] 71)
                    have k5 := C3.new w5 (.string kt) (.slice none 0 0) (.int .i64 kp) 71
                    have hbw5 := hbr.trans hbk
                    have hbi0 := (But.refl rb w5).alloc (.cells #[.string kt, .slice none 0 0, .int .i64 kp] 71)
                    rw [← hKe] at k5 ⊢
                    have hKx : XB < KB := by omega
                    have HKe := Lib.hid hKe
                    clear hKe hb3 hb4 hb5 hbk HO x4 HTr h3' hbr hr y0 y1 y2 y3 yz yl z0 z1 z2 z3 zz zl q0 q1 q2 q3 qz ql m0 m1 m2 m3 mz ml r0 r1 r2 r3 rz rl HJ k1 k3 k3' hG hh hz3 hz4 hz5
                    go_loopg [66] (n + 1) (fun gk t wi => ∃ (l : List WV) (A : Option Addr) (c : Nat) (vs : List Int) (V : Option Addr) (q : Nat), vs.length ≤ n ∧ n - vs.length < gk ∧ t = .int .i64 vs.length ∧ l.length ≤ lr.length ∧ But rb w5 wi ∧ RdAt wi rb N A l e c ∧ C3 wi KB (.string kt) (.slice V vs.length q) (.int .i64 kp) ∧ Hid (OwnI wi (KB + 1) V q vs) ∧ Hid (R = mkI tx yt pl (numK e tx f ks kt kp (numsF e (n - vs.length) vs l))))
                    case atStart => exact ⟨lr, A3, c3, [], none, 0, by simp, by simp, rfl, Nat.le_refl _, hbi0, hr5, k5, Lib.hid (OwnI.nil _ _), HJ2⟩
                    case round =>
                      obtain ⟨l, A, c, vs, V, q, hi, hik, rfl, hll, hbi, hri, k3i, HVs, HJ3⟩ := hrel
                      have hri0 := hri.lt
                      by_cases hin : vs.length < n
                      · obtain ⟨m, hm⟩ : ∃ m, n - vs.length = m + 1 := ⟨n - vs.length - 1, by omega⟩
                        rw [hm] at HJ3
                        have i1 : (vs.length : Int) < (n : Int) := by omega
                        by_cases k2 : isK l 2 = true
                        · obtain ⟨⟨kd, vt, vn, vp⟩, l', rfl, hx2⟩ := isK_cons k2
                          simp only at hx2
                          subst hx2
                          have HJ4 : Hid (R = mkI tx yt pl (numK e tx f ks kt kp (numsF e m (vs ++ [vn]) l'))) := Lib.hid (by rw [HJ3.out]; rfl)
                          go_wp2_with fail
                          have hS0 : C3 wr.drew KB (.string kt) (.slice V vs.length q) (.int .i64 kp) := k3i.block (Nat.le_refl _) rfl
                          refine wp_region_Z (fun W => C3 W KB (.string kt) (.slice V vs.length q) (.int .i64 kp)) 6 [6, 7, 8] (by kernel_rfl) (by kernel_rfl) ?_
                          refine wpZ_step (i := 0) rfl (by kernel_rfl) rfl (.pointer (some ⟨KB, 1, none⟩)) (fun _ _ _ h => h) (by assumption) (fun W hW => by obtain ⟨s0, s1, s2, sz, sl⟩ := hW; go_simp) (fun K hK => ?_); go_simp; refine hK _ _ ?_; clear hK K
                          refine wpZ_step (i := 1) rfl (by kernel_rfl) rfl (.slice V vs.length q) (fun _ _ _ h => h) (by assumption) (fun W hW => by obtain ⟨s0, s1, s2, sz, sl⟩ := hW; go_simp) (fun K hK => ?_); go_simp; refine hK _ _ ?_; clear hK K
                          refine wpZ_step (i := 2) rfl (by kernel_rfl) rfl (.pointer (some ⟨rb, 0, none⟩)) (fun _ _ _ h => h) (by assumption) (fun W hW => by obtain ⟨s0, s1, s2, sz, sl⟩ := hW; go_simp) (fun K hK => ?_); go_simp; refine hK _ _ ?_; clear hK K
                          refine wpZ_one (i := 3) rfl (by kernel_rfl) rfl (fun K hK => ?_)
                          go_simp
                          (go_at_call 40; refine (take_ok _ _ _ _ _ _ _ _ hri.drew _ rfl).mono ?_; rintro e w6 ⟨rfl, hb6, A6, c6, h6⟩; simp only [vOfW])
                          replace hb6 := hb6.of_drew
                          have k6 := k3i.but hb6 (by omega)
                          refine ⟨k6, hK _ _ ?_⟩
                          clear hK K hS0
                          refine wpZ_step (i := 4) rfl (by kernel_rfl) rfl (.int .i64 vn) (fun _ _ _ h => h) (by assumption) (fun W hW => by obtain ⟨s0, s1, s2, sz, sl⟩ := hW; go_simp) (fun K hK => ?_); go_simp; refine hK _ _ ?_; clear hK K
                          refine wpZ_one (i := 5) rfl (by kernel_rfl) rfl (fun K hK => ?_)
                          go_simp
                          refine ⟨k6.alloc _, hK _ _ ?_⟩
                          clear hK K
                          refine wpZ_nil (by kernel_rfl) ?_
                          simp only [List.filterMap_cons, List.filterMap_nil, List.getElem?_cons_succ, List.getElem?_cons_zero]
                          have hfr := own_fresh (own_below (OwnI.but HVs.out hb6 (by omega)) ((Below.refl w6.heap.size w6).alloc (Nat.le_refl _) (.cells #[.int .i64 vn] 3)) (Nat.le_refl _))
                          refine wpList_append_one rfl _ _ 37 3 _ 1 8 rfl Tryd.underlying37 intInfo rfl (by decide) (by decide) (KB + 1) (.slice V vs.length q) vs.length (vs.map (Value.int .i64)) [.int .i64 vn] rfl (own_below (OwnI.but HVs.out hb6 (by omega)) ((Below.refl w6.heap.size w6).alloc (Nat.le_refl _) _) (Nat.le_refl _)) w6.heap.size 1 rfl rfl (cells1 (by go_simp)) (by simp [Value.oneCell']) (by omega) (by have := k6.lt; simp; omega) ?_
                          intro v7 w7 ho7 hg7 _
                          obtain ⟨V', q', rfl⟩ := own_sl ho7
                          have ho7' : OwnI w7 (KB + 1) V' q' (vs ++ [vn]) := by
                            unfold OwnI
                            rw [List.map_append, List.length_append]
                            exact ho7
                          have k7 := (k6.alloc (.cells #[.int .i64 vn] 3)).grown hg7 hfr (Nat.lt_succ_self _)
                          have h7 := (h6.alloc (.cells #[.int .i64 vn] 3)).grown hg7 (fun k hk => by have := hfr k hk; omega)
                          have hb7 := ((hbi.trans hb6).alloc (.cells #[.int .i64 vn] 3)).grown hg7 (fun k hk => by have := hfr k hk; have := HKe.out; omega)
                          obtain ⟨s0, s1, s2, sz, sl⟩ := k7
                          go_simp
                          go_wp2_with fail
                          go_roundg (n - vs.length)
                          case measure => omega
                          case rel => exact ⟨l', A6, c6, vs ++ [vn], V', q', by simp only [List.length_append, List.length_cons, List.length_nil]; omega, by simp only [List.length_append, List.length_cons, List.length_nil]; omega, by simp, by simp only [List.length_cons] at hll; omega, hb7.set _ (.inr (by show w5.heap.size ≤ KB; have := HKe.out; omega)), h7.set _ (by show rb < KB; omega), by simpa using (C3.mk s0 s1 s2 sz sl).set1 _, Lib.hid (ho7'.low (by show KB < KB + 1; omega) _), Lib.hid (by rw [HJ4.out, show n - (vs ++ [vn]).length = m by simp only [List.length_append, List.length_cons, List.length_nil]; omega])⟩
                        · have k2' : isK l 2 = false := by simpa using k2
                          obtain rfl : R = .err 4 (atR l e) := by
                            rw [HJ3.out]
                            cases l with
                            | nil => rfl
                            | cons y l => simp only [numsF]; rw [if_neg (isK_not k2')]; rfl
                          go_wp2_with fail
                          have hS0 : C3 wr.drew KB (.string kt) (.slice V vs.length q) (.int .i64 kp) := k3i.block (Nat.le_refl _) rfl
                          refine wp_region_Z (fun W => C3 W KB (.string kt) (.slice V vs.length q) (.int .i64 kp)) 6 [6, 7, 8] (by kernel_rfl) (by kernel_rfl) ?_
                          refine wpZ_step (i := 0) rfl (by kernel_rfl) rfl (.pointer (some ⟨KB, 1, none⟩)) (fun _ _ _ h => h) (by assumption) (fun W hW => by obtain ⟨s0, s1, s2, sz, sl⟩ := hW; go_simp) (fun K hK => ?_); go_simp; refine hK _ _ ?_; clear hK K
                          refine wpZ_step (i := 1) rfl (by kernel_rfl) rfl (.slice V vs.length q) (fun _ _ _ h => h) (by assumption) (fun W hW => by obtain ⟨s0, s1, s2, sz, sl⟩ := hW; go_simp) (fun K hK => ?_); go_simp; refine hK _ _ ?_; clear hK K
                          refine wpZ_step (i := 2) rfl (by kernel_rfl) rfl (.pointer (some ⟨rb, 0, none⟩)) (fun _ _ _ h => h) (by assumption) (fun W hW => by obtain ⟨s0, s1, s2, sz, sl⟩ := hW; go_simp) (fun K hK => ?_); go_simp; refine hK _ _ ?_; clear hK K
                          refine wpZ_one (i := 3) rfl (by kernel_rfl) rfl (fun K hK => ?_)
                          go_simp
                          (go_at_call 40; refine (take_bad _ _ _ _ _ _ _ hri.drew _ k2').mono ?_; rintro e w6 ⟨rfl, hb6⟩)
                          exact ⟨rfl, (hbw5.trans hbi).below (below_drew hb6) (Nat.le_trans hbw5.size hbi.size), rfl⟩
                      · obtain rfl : n = vs.length := by omega
                        have i1 : ¬ (vs.length : Int) < (vs.length : Int) := by omega
                        have HJ4 : Hid (R = mkI tx yt pl (keysF e tx f (ks ++ [⟨kt, vs, kp⟩]) l)) := Lib.hid (by rw [HJ3.out, Nat.sub_self]; rfl)
                        obtain ⟨y0, y1, y2, y3, yz, yl⟩ := b5.but hbi hne
                        have HO6 := HO5.out.but hbi (by omega)
                        have hkq : KsOwn (wr.alloc (.cells #[.string kt, .slice V vs.length q, .int .i64 kp] 71)) (XB + 1) 71 B d ks := HO6.below ((Below.refl wr.heap.size wr).alloc (Nat.le_refl _) _) (Nat.le_refl _)
                        have hvq : OwnI (wr.alloc (.cells #[.string kt, .slice V vs.length q, .int .i64 kp] 71)) (XB + 1) V q vs := (OwnI.weaker HVs.out (by omega : XB + 1 ≤ KB + 1)) |> fun h => own_below h ((Below.refl wr.heap.size wr).alloc (Nat.le_refl _) _) (Nat.le_refl _)
                        obtain ⟨xs, hxs, hmore⟩ := hkq.more (by decide)
                        have HM := Lib.hid hmore
                        have HXS := Lib.hid hxs
                        have K3 := Lib.hid k3i
                        obtain ⟨s0, s1, s2, sz, sl⟩ := k3i
                        have hfr := own_fresh hxs
                        have HFR := Lib.hid hfr
                        have hVQ := Lib.hid hvq
                        clear hmore hxs hfr hvq hkq HO6
                        go_wp2_with (at_builtin; go_must (refine wpList_append_one rfl _ _ 33 71 _ 3 48 rfl Tryd.underlying33 keyInfo rfl (by decide) (by decide) (XB + 1) (.slice B ks.length d) ks.length xs (cellsOfK ⟨kt, vs, kp⟩ V q) rfl HXS.out wr.heap.size 1 rfl rfl (C3.new wr _ _ _ _).cells (by simp [cellsOfK, Value.oneCell']) (by omega) (by simp; omega) ?_))
                        intro v7 w7 ho7 hg7 _
                        obtain ⟨B', d', rfl, hk7⟩ := HM.out ⟨kt, vs, kp⟩ V q v7 w7 hVQ.out ho7 hg7
                        have b7 := ((C4.mk y0 y1 y2 y3 yz yl).alloc (.cells #[.string kt, .slice V vs.length q, .int .i64 kp] 71)).grown hg7 HFR.out (Nat.lt_succ_self _)
                        have x7 := ((x5.but hbi hne0).alloc (.cells #[.string kt, .slice V vs.length q, .int .i64 kp] 71)).grown hg7 HFR.out (by omega)
                        have h7 := (hri.alloc (.cells #[.string kt, .slice V vs.length q, .int .i64 kp] 71)).grown hg7 (fun k hk => by have := HFR.out k hk; omega)
                        have hb7 := ((hbw5.trans hbi).alloc (.cells #[.string kt, .slice V vs.length q, .int .i64 kp] 71)).grown hg7 (fun k hk => by have := HFR.out k hk; omega)
                        have HT7 := Lib.hid (((HT5.out.but hbi h3).alloc (.cells #[.string kt, .slice V vs.length q, .int .i64 kp] 71)).grown hg7 (fun k hk => by have := HFR.out k hk; omega))
                        have HV7 : Hid (∀ k ∈ ks ++ [(⟨kt, vs, kp⟩ : KV)], k.vals.length ≤ 2) := Lib.hid (by
                          intro k hk
                          rcases List.mem_append.1 hk with h | h
                          · exact HV.out k h
                          · rw [List.mem_singleton] at h
                            rw [h]
                            show vs.length ≤ 2
                            omega)
                        clear y0 y1 y2 y3 yz yl s0 s1 s2 sz sl
                        obtain ⟨y0, y1, y2, y3, yz, yl⟩ := b7
                        go_wp2_with fail
                        go_roundg (l.length + 1)
                        case measure => omega
                        case rel => exact ⟨l, A, c, ks ++ [⟨kt, vs, kp⟩], B', d', f, by omega, by omega, by simp only [List.length_append, List.length_cons, List.length_nil]; omega, HV7, hb7.set _ (.inr (by show w.heap.size ≤ XB; omega)), x7.low (by show XB ≠ w.heap.size; omega) _, by simpa using (C4.mk y0 y1 y2 y3 yz yl).set2 _, Lib.hid (hk7.low (by show XB < XB + 1; omega) _), h7.set _ (by show rb < XB; omega), HJ4, Lib.hid (HT7.out.set (by show 3 ≤ XB; omega) _)⟩
              · have k1' : isK l 1 = false := by simpa using k1
                obtain rfl : R = .err 4 (atR l e) := by
                  rw [HJ.out]
                  cases l with
                  | nil => rfl
                  | cons y l => simp only [keysF]; rw [if_neg (isK_not k3'), if_pos (isK_not k1')]; rfl
                go_wp2_with (first | (go_at_call 41; refine (is_any _ _ _ _ _ _ _ hr _).mono ?_; rintro e w3 ⟨rfl, rfl⟩; rw [k3']) | (go_at_call 40; refine (take_bad _ _ _ _ _ _ _ hr _ k1').mono ?_; rintro e w3 ⟨rfl, hb3⟩))
                exact ⟨rfl, hbr.below hb3 hbr.size, rfl⟩
        · have k2' : isK l1 1 = false := by simpa using k2
          have hR : itemF e (⟨1, tx, nm, pl⟩ :: l1) = .err 4 (atR l1 e) := by
            rw [hR0]
            cases l1 with
            | nil => rfl
            | cons y l => simp only; rw [if_pos (isK_not k2')]; rfl
          rw [hR]
          clear hR hR0
          go_enter Tryd.func25, Tryd.ntmps25; (try simp only [List.append_eq, List.cons_append, List.nil_append])
          go_wp2_with (first | (go_at_call 40; refine (take_ok _ _ _ _ _ _ _ _ h1 _ rfl).mono ?_; rintro e w1 ⟨rfl, hb1, A1, c1, h2⟩; simp only [vOfW]) | (go_at_call 31; refine (keys_any _ _).mono ?_; rintro e w2 ⟨rfl, hb2⟩; obtain ⟨d0, d1, d2, d3, dz, dl⟩ := (C4.new w1 (.int .i64 1) (.string tx) (.int .i64 nm) (.int .i64 pl) 92).below hb2 (by simp)) | (go_at_call 40; refine (take_bad _ _ _ _ _ _ _ ((h2.alloc (.cells #[.int .i64 1, .string tx, .int .i64 nm, .int .i64 pl] 92)).below hb2 (Nat.le_refl _) |>.alloc (.cells #[.string tx, .string ⟨#[]⟩, .slice none 0 0, .int .i64 pl] 35)) _ k2').mono ?_; rintro e w3 ⟨rfl, hb3⟩))
          have hz1 := hb1.size
          simp at hz1
          have hz2 := hb2.size
          simp at hz2
          exact ⟨rfl, ((((hb0.trans hb1).alloc (.cells #[.int .i64 1, .string tx, .int .i64 nm, .int .i64 pl] 92)).below hb2 (by simp; omega)).alloc (.cells #[.string tx, .string ⟨#[]⟩, .slice none 0 0, .int .i64 pl] 35)).below hb3 (by simp; omega), rfl⟩
  · have hR : itemF e l = .err 4 (atR l e) := by
      cases l with
      | nil => rfl
      | cons x l => have := isK_not (by simpa using k1); simp [itemF, this, atR]
    have k1' : isK l 1 = false := by simpa using k1
    rw [hR]
    go_enter Tryd.func25, Tryd.ntmps25; (try simp only [List.append_eq, List.cons_append, List.nil_append])
    go_wp2_with (go_at_call 40; refine (take_bad _ _ _ _ _ _ _ h1 _ k1').mono ?_; rintro e w1 ⟨rfl, hb1⟩)
    exact ⟨rfl, hb0.below hb1 (by simp), rfl⟩
end Go.Proofs.YteondblmcooklaaDoor
