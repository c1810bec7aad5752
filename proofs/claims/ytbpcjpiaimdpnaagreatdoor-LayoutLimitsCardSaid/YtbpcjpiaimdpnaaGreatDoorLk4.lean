/- Merged texts: SrcF SrcG SrcH SrcI SrcJ LcE (what no proof of the claim needs is left out). -/
import Derived.Test.YtbpcjpiaimdpnaaGreatDoorLk3
import Derived.Recover
import Derived.Defers
import Derived.Deep.Cut
set_option linter.unusedSimpArgs false
set_option linter.unusedVariables false
namespace Go.Proofs.YtbpcjpiaimdpnaaGreatDoor
open Go Go.RowKit
set_option linter.unusedVariables false
set_option maxHeartbeats 4000000 in
theorem item_any (w : World) (rb N e c : Nat) (A : Option Addr) (l : List WV) (h : RdAt w rb N A l e c) (ht : Tabs w) (h3 : 3 ≤ rb) (hl : l.length ≤ 20000) :
  Calls Tryz.prog 93 #[.pointer (some ⟨rb, 0, none⟩)] w (ItemOut rb N e (itemF e l) w) := by
 have hrb := h.lt
 have h1 := h.alloc (.cells #[.string ⟨#[]⟩, .string ⟨#[]⟩, .slice none 0 0, .int .i64 0] 97)
 have hb0 := (But.refl rb w).alloc (.cells #[.string ⟨#[]⟩, .string ⟨#[]⟩, .slice none 0 0, .int .i64 0] 97)
 have hX0 := C4.new w (.string ⟨#[]⟩) (.string ⟨#[]⟩) (.slice none 0 0) (.int .i64 0) 97
 have HT := hQ0 (ht.alloc (.cells #[.string ⟨#[]⟩, .string ⟨#[]⟩, .slice none 0 0, .int .i64 0] 97))
 clear ht
 by_cases k1 : isK l 1 = true
 · obtain ⟨⟨kd, tx, nm, pl⟩, l1, rfl, hx⟩ := isK_cons k1
   simp only at hx
   subst hx
   cases hw : isWord tx
   · have hR : itemF e (⟨1, tx, nm, pl⟩ :: l1) = .err 4 pl := by simp [itemF, hw]
     have b1 : ((txtOf tx).toList == []) = true := by rw [txt_word, hw]; rfl
     rw [hR]
     go_enter Tryz.func93, Tryz.ntmps93; (try simp only [List.append_eq, List.cons_append, List.nil_append])
     go_wp2_with (first | (go_at_call 154; refine (take_ok _ _ _ _ _ _ _ _ h1 _ rfl).mono ?_; rintro e w1 ⟨rfl, hb1, A1, c1, h2⟩; simp only [vOfW]) | (go_at_call 155; refine (keys_any _ _).mono ?_; rintro e w2 ⟨rfl, hb2⟩; obtain ⟨d0, d1, d2, d3, dz, dl⟩ := (C4.new w1 (.int .i64 1) (.string tx) (.int .i64 nm) (.int .i64 pl) 239).below hb2 (by simp)))
     exact ⟨rfl, ((hb0.trans hb1).alloc _).below hb2 (by have := hb1.size; simp at this ⊢; omega), rfl⟩
   · have b1 : ((txtOf tx).toList == []) = false := by rw [txt_word, hw]; rfl
     by_cases htab : tx = tTable
     · have b2 : (tx.toList == [116, 97, 98, 108, 101]) = true := txt_eqL htab
       have hR : itemF e (⟨1, tx, nm, pl⟩ :: l1) = mkI tx ⟨#[]⟩ pl (keysF e tx (l1.length + 1) [] l1) := by simp only [itemF]; rw [if_neg (by simp), if_neg (by simp [hw]), if_pos htab, restF_eq]
       obtain ⟨R, hRe⟩ : ∃ R, R = mkI tx ⟨#[]⟩ pl (keysF e tx (l1.length + 1) [] l1) := ⟨_, rfl⟩
       have HR := hQ0 hRe
       simp only [List.length_cons] at hl
       rw [hR, ← hRe]
       clear hR hRe htab
       go_enter Tryz.func93, Tryz.ntmps93; (try simp only [List.append_eq, List.cons_append, List.nil_append])
       go_wp2_with (first | (go_at_call 154; refine (take_ok _ _ _ _ _ _ _ _ h1 _ rfl).mono ?_; rintro e w1 ⟨rfl, hb1, A1, c1, h2⟩; simp only [vOfW]) | (go_at_call 155; refine (keys_any _ _).mono ?_; rintro e w2 ⟨rfl, hb2⟩; obtain ⟨d0, d1, d2, d3, dz, dl⟩ := (C4.new w1 (.int .i64 1) (.string tx) (.int .i64 nm) (.int .i64 pl) 239).below hb2 (by simp)))
       have hz1 := hb1.size
       simp at hz1
       have hz2 := hb2.size
       simp at hz2
       obtain ⟨XB, hXe⟩ : ∃ XB, XB = w2.heap.size := ⟨_, rfl⟩
       have hX0' := (((hX0.but hb1 (by omega)).alloc (.cells #[.int .i64 1, .string tx, .int .i64 nm, .int .i64 pl] 239)).below hb2 (by simp; omega)).alloc (.cells #[.string tx, .string ⟨#[]⟩, .slice none 0 0, .int .i64 pl] 97)
       have hXB := C4.new w2 (.string tx) (.string ⟨#[]⟩) (.slice none 0 0) (.int .i64 pl) 97
       have hrd := ((h2.alloc (.cells #[.int .i64 1, .string tx, .int .i64 nm, .int .i64 pl] 239)).below hb2 (Nat.le_refl _)).alloc (.cells #[.string tx, .string ⟨#[]⟩, .slice none 0 0, .int .i64 pl] 97)
       have hbut := (((hb0.trans hb1).alloc (.cells #[.int .i64 1, .string tx, .int .i64 nm, .int .i64 pl] 239)).below hb2 (by simp; omega)).alloc (.cells #[.string tx, .string ⟨#[]⟩, .slice none 0 0, .int .i64 pl] 97)
       have HT0 := hQ0 ((((HT.out.but hb1 h3).alloc (.cells #[.int .i64 1, .string tx, .int .i64 nm, .int .i64 pl] 239)).below hb2 (by simp; omega)).alloc (.cells #[.string tx, .string ⟨#[]⟩, .slice none 0 0, .int .i64 pl] 97))
       rw [← hXe] at hXB ⊢
       have hXw : w.heap.size + 1 ≤ XB := by omega
       clear hXe h h1 hb0 hX0 HT hb1 hb2 h2 b1 b2 d0 d1 d2 d3 dz dl
       go_loopg [] (l1.length + 1) (fun gk wr => ∃ (l : List WV) (A : Option Addr) (c : Nat) (ks : List KV) (B : Option Addr) (d f : Nat), l.length < gk ∧ l.length < f ∧ ks.length + l.length ≤ 20000 ∧ Hid (∀ k ∈ ks, k.vals.length ≤ 2) ∧ But rb w wr ∧ C4 wr w.heap.size (.string ⟨#[]⟩) (.string ⟨#[]⟩) (.slice none 0 0) (.int .i64 0) ∧ C4 wr XB (.string tx) (.string ⟨#[]⟩) (.slice B ks.length d) (.int .i64 pl) ∧ Hid (KsOwn wr (XB + 1) 120 B d ks) ∧ RdAt wr rb N A l e c ∧ Hid (R = mkI tx ⟨#[]⟩ pl (keysF e tx f ks l)) ∧ Hid (Tabs wr))
       case atStart => exact ⟨l1, A1, c1, [], none, 0, l1.length + 1, by omega, by omega, by simp; omega, hQ0 (by simp), hbut, hX0', hXB, hQ0 (KsOwn.nil _ _ _), hrd, HR, HT0⟩
       case round =>
        obtain ⟨l, A, c, ks, B, d, f, hlk, hlf, hkl, HV, hbr, x4, b4, HO, hr, HJ, HTr⟩ := hrel
        have hr0 := hr.lt
        have hne : XB ≠ rb := by omega
        have hne0 : w.heap.size ≠ rb := by omega
        obtain ⟨f, rfl⟩ : ∃ g, f = g + 1 := ⟨f - 1, by omega⟩
        have hlK := b4.lt
        obtain ⟨y0, y1, y2, y3, yz, yl⟩ := b4
        by_cases k3 : isK l 3 = true
        · obtain ⟨⟨kd, t3, n3, p3⟩, lr, rfl, hx3⟩ := isK_cons k3
          simp only at hx3
          subst hx3
          obtain rfl : R = .ok ⟨tx, ⟨#[]⟩, ks, pl⟩ lr := HJ.out
          go_wp2_with (first | (go_at_call 156; refine (is_any _ _ _ _ _ _ _ hr _).mono ?_; rintro e w3 ⟨rfl, rfl⟩; rw [k3]) | (go_at_call 154; refine (take_ok _ _ _ _ _ _ _ _ hr _ rfl).mono ?_; rintro e w3 ⟨rfl, hb3, A3, c3, h3'⟩; obtain ⟨u0, u1, u2, u3, uz, ul⟩ := x4.but hb3 hne0; obtain ⟨z0, z1, z2, z3, zz, zl⟩ := (C4.mk y0 y1 y2 y3 yz yl).but hb3 hne))

          refine bodyPost_ret (v := .agg #[.string tx, .string ⟨#[]⟩, .slice B ks.length d, .int .i64 pl]) (by simp only [results, Tryz.results93]; go_simp) rfl ⟨?_, ?_⟩
          · exact ((((hbr.trans hb3).set _ (.inr (Nat.le_refl _))).set _ (.inr (Nat.le_refl _))).set _ (.inr (Nat.le_refl _))).set _ (.inr (Nat.le_refl _))
          · refine ⟨B, d, A3, c3, rfl, ?_, ?_⟩
            · exact ((((HO.out.but hb3 (by omega)).low (p := ⟨w.heap.size, 0, none⟩) (by show w.heap.size < _; omega) _).low (p := ⟨w.heap.size, 1, none⟩) (by show w.heap.size < _; omega) _).low (p := ⟨w.heap.size, 2, none⟩) (by show w.heap.size < _; omega) _).low (p := ⟨w.heap.size, 3, none⟩) (by show w.heap.size < _; omega) _ |>.weaker (by omega)
            · exact (((h3'.set _ (by show rb < w.heap.size; omega)).set _ (by show rb < w.heap.size; omega)).set _ (by show rb < w.heap.size; omega)).set _ (by show rb < w.heap.size; omega)
        · have k3' : isK l 3 = false := by simpa using k3
          by_cases k1 : isK l 1 = true
          · obtain ⟨⟨kd, kt, kn, kp⟩, lr, rfl, hx1⟩ := isK_cons k1
            simp only at hx1
            subst hx1
            by_cases ha : arR tx kt < 0
            · obtain rfl : R = .err 4 kp := by rw [HJ.out]; simp only [keysF]; rw [if_neg (by simp), if_neg (by simp), if_pos ha]; rfl
              go_wp2_with (first | (go_at_call 156; refine (is_any _ _ _ _ _ _ _ hr _).mono ?_; rintro e w3 ⟨rfl, rfl⟩; rw [k3']) | (go_at_call 154; refine (take_ok _ _ _ _ _ _ _ _ hr _ rfl).mono ?_; rintro e w3 ⟨rfl, hb3, A3, c3, h3'⟩; simp only [vOfW]; obtain ⟨z0, z1, z2, z3, zz, zl⟩ := (C4.mk y0 y1 y2 y3 yz yl).but hb3 hne) | (go_at_call 157; refine (arity_any _ _ _ ((HTr.out.but hb3 h3).alloc _)).mono ?_; rintro e w4 ⟨rfl, hb4⟩; obtain ⟨q0, q1, q2, q3, qz, ql⟩ := (C4.new w3 (.int .i64 1) (.string kt) (.int .i64 kn) (.int .i64 kp) 239).below hb4 (by simp)))
              exact ⟨rfl, ((hbr.trans hb3).alloc _).below hb4 (by have := hb3.size; have := hbr.size; simp; omega), rfl⟩
            · have hge : 0 ≤ arR tx kt := by omega
              have hle := (arR_bd tx kt).2
              cases hG : getR ks kt with
              | some vs =>
               have hh : hasK ks kt = true := by rw [hasK_get, hG]; rfl
               obtain rfl : R = .err 7 kp := by rw [HJ.out]; simp only [keysF]; rw [if_neg (by simp), if_neg (by simp), if_neg ha, if_pos hh]; rfl
               go_wp2_with (first | (go_at_call 156; refine (is_any _ _ _ _ _ _ _ hr _).mono ?_; rintro e w3 ⟨rfl, rfl⟩; rw [k3']) | (go_at_call 154; refine (take_ok _ _ _ _ _ _ _ _ hr _ rfl).mono ?_; rintro e w3 ⟨rfl, hb3, A3, c3, h3'⟩; simp only [vOfW]; obtain ⟨z0, z1, z2, z3, zz, zl⟩ := (C4.mk y0 y1 y2 y3 yz yl).but hb3 hne) | (go_at_call 157; refine (arity_any _ _ _ ((HTr.out.but hb3 h3).alloc _)).mono ?_; rintro e w4 ⟨rfl, hb4⟩; obtain ⟨q0, q1, q2, q3, qz, ql⟩ := (C4.new w3 (.int .i64 1) (.string kt) (.int .i64 kn) (.int .i64 kp) 239).below hb4 (by simp); obtain ⟨m0, m1, m2, m3, mz, ml⟩ := ((C4.mk z0 z1 z2 z3 zz zl).alloc _).below hb4 (by simp; omega)) | (go_at_call 103; refine (get_any ⟨tx, ⟨#[]⟩, ks, pl⟩ B d kt _ (((HO.out.but hb3 (by omega)).at.below ((Below.refl w3.heap.size w3).alloc (Nat.le_refl _) _) (Nat.le_refl _)).below hb4 (Nat.le_refl _)) (by simp at hkl; show ks.length ≤ _; omega) (fun k hk => by have := HV.out k hk; omega)).mono ?_; rintro e w5 ⟨hb5, hg⟩; rw [hG] at hg; obtain ⟨A5, c5, rfl, _⟩ := hg; obtain ⟨r0, r1, r2, r3, rz, rl⟩ := (C4.mk q0 q1 q2 q3 qz ql).below hb5 (by omega)))
               exact ⟨rfl, (((hbr.trans hb3).alloc _).below hb4 (by have := hb3.size; have := hbr.size; simp; omega)).below hb5 (by have := hb3.size; have := hbr.size; have := hb4.size; simp at *; omega), rfl⟩
              | none =>
               have hh : hasK ks kt = false := by rw [hasK_get, hG]; rfl
               obtain ⟨n, hn⟩ : ∃ n : Nat, arR tx kt = n := ⟨(arR tx kt).toNat, by omega⟩
               have HJ2 : Hid (R = mkI tx ⟨#[]⟩ pl (numK e tx f ks kt kp (numsF e (n - 0) [] lr))) := hQ0 (by rw [HJ.out, keysF_key rfl ha hh, hn]; rfl)
               rw [hn] at ha hge hle
               have HN := hQ0 hn
               clear hn
               go_wp2_with (first | (go_at_call 156; refine (is_any _ _ _ _ _ _ _ hr _).mono ?_; rintro e w3 ⟨rfl, rfl⟩; rw [k3']) | (go_at_call 154; refine (take_ok _ _ _ _ _ _ _ _ hr _ rfl).mono ?_; rintro e w3 ⟨rfl, hb3, A3, c3, h3'⟩; simp only [vOfW]; obtain ⟨z0, z1, z2, z3, zz, zl⟩ := (C4.mk y0 y1 y2 y3 yz yl).but hb3 hne) | (go_at_call 157; refine (arity_any _ _ _ ((HTr.out.but hb3 h3).alloc _)).mono ?_; rintro e w4 ⟨rfl, hb4⟩; rw [HN.out]; obtain ⟨q0, q1, q2, q3, qz, ql⟩ := (C4.new w3 (.int .i64 1) (.string kt) (.int .i64 kn) (.int .i64 kp) 239).below hb4 (by simp); obtain ⟨m0, m1, m2, m3, mz, ml⟩ := ((C4.mk z0 z1 z2 z3 zz zl).alloc _).below hb4 (by simp; omega)) | (go_at_call 103; refine (get_any ⟨tx, ⟨#[]⟩, ks, pl⟩ B d kt _ (((HO.out.but hb3 (by omega)).at.below ((Below.refl w3.heap.size w3).alloc (Nat.le_refl _) _) (Nat.le_refl _)).below hb4 (Nat.le_refl _)) (by simp at hkl; show ks.length ≤ _; omega) (fun k hk => by have := HV.out k hk; omega)).mono ?_; rintro e w5 ⟨hb5, hg⟩; rw [hG] at hg; obtain rfl := hg; obtain ⟨r0, r1, r2, r3, rz, rl⟩ := (C4.mk q0 q1 q2 q3 qz ql).below hb5 (by omega)))
               have hz3 := hb3.size
               have hz4 := hb4.size
               have hz5 := hb5.size
               simp at hz4
               simp only [List.length_cons] at hkl hlk hlf
               obtain ⟨KB, hKe⟩ : ∃ KB, KB = w5.heap.size := ⟨_, rfl⟩
               have hbk : But rb wr w5 := ((hb3.alloc (.cells #[.int .i64 1, .string kt, .int .i64 kn, .int .i64 kp] 239)).below hb4 (by simp; omega)).below hb5 (by omega)
               have HO5 := hQ0 (HO.out.but hbk (by omega))
               have x5 := x4.but hbk hne0
               have b5 := (C4.mk y0 y1 y2 y3 yz yl).but hbk hne
               have HT5 := hQ0 (HTr.out.but hbk h3)
               have hr5 := (((h3'.alloc (.cells #[.int .i64 1, .string kt, .int .i64 kn, .int .i64 kp] 239)).below hb4 (Nat.le_refl _)).below hb5 (Nat.le_refl _)).alloc (.cells #[.string kt, .slice none 0 0, .int .i64 kp] 120)
               have k5 := C3.new w5 (.string kt) (.slice none 0 0) (.int .i64 kp) 120
               have hbw5 := hbr.trans hbk
               have hbi0 := (But.refl rb w5).alloc (.cells #[.string kt, .slice none 0 0, .int .i64 kp] 120)
               rw [← hKe] at k5 ⊢
               have hKx : XB < KB := by omega
               have HKe := hQ0 hKe
               clear hKe hb3 hb4 hb5 hbk HO x4 HTr h3' hbr hr y0 y1 y2 y3 yz yl z0 z1 z2 z3 zz zl q0 q1 q2 q3 qz ql m0 m1 m2 m3 mz ml r0 r1 r2 r3 rz rl HJ k1 k3 k3' hG hh hz3 hz4 hz5
               go_loopg [66] (n + 1) (fun gk t wi => ∃ (l : List WV) (A : Option Addr) (c : Nat) (vs : List Int) (V : Option Addr) (q : Nat), vs.length ≤ n ∧ n - vs.length < gk ∧ t = .int .i64 vs.length ∧ l.length ≤ lr.length ∧ But rb w5 wi ∧ RdAt wi rb N A l e c ∧ C3 wi KB (.string kt) (.slice V vs.length q) (.int .i64 kp) ∧ Hid (OwnI wi (KB + 1) V q vs) ∧ Hid (R = mkI tx ⟨#[]⟩ pl (numK e tx f ks kt kp (numsF e (n - vs.length) vs l))))
               case atStart => exact ⟨lr, A3, c3, [], none, 0, by simp, by simp, rfl, Nat.le_refl _, hbi0, hr5, k5, hQ0 (OwnI.nil _ _), HJ2⟩
               case round =>
                obtain ⟨l, A, c, vs, V, q, hi, hik, rfl, hll, hbi, hri, k3i, HVs, HJ3⟩ := hrel
                have hri0 := hri.lt
                by_cases hin : vs.length < n
                · obtain ⟨m, hm⟩ : ∃ m, n - vs.length = m + 1 := ⟨n - vs.length - 1, by omega⟩
                  rw [hm] at HJ3
                  have i1 : (vs.length : Int) < (n : Int) := by omega
                  by_cases k2 : isK l 2 = true
                  · obtain ⟨⟨kd, vt, vn, vp⟩, l', rfl, hx2⟩ := isK_cons k2
                    simp only at hx2
                    subst hx2
                    have HJ4 : Hid (R = mkI tx ⟨#[]⟩ pl (numK e tx f ks kt kp (numsF e m (vs ++ [vn]) l'))) := hQ0 (by rw [HJ3.out]; rfl)
                    go_wp2_with fail
                    have hS0 : C3 wr.drew KB (.string kt) (.slice V vs.length q) (.int .i64 kp) := k3i.block (Nat.le_refl _) rfl
                    refine wp_region_Z (fun W => C3 W KB (.string kt) (.slice V vs.length q) (.int .i64 kp)) 6 [6, 7, 8] (by kernel_rfl) (by kernel_rfl) ?_
                    refine wpZ_step (i := 0) rfl (by kernel_rfl) rfl (.pointer (some ⟨KB, 1, none⟩)) (fun _ _ _ h => h) (by assumption) (fun W hW => by obtain ⟨s0, s1, s2, sz, sl⟩ := hW; go_simp) (fun K hK => ?_); go_simp; refine hK _ _ ?_; clear hK K
                    refine wpZ_step (i := 1) rfl (by kernel_rfl) rfl (.slice V vs.length q) (fun _ _ _ h => h) (by assumption) (fun W hW => by obtain ⟨s0, s1, s2, sz, sl⟩ := hW; go_simp) (fun K hK => ?_); go_simp; refine hK _ _ ?_; clear hK K
                    refine wpZ_step (i := 2) rfl (by kernel_rfl) rfl (.pointer (some ⟨rb, 0, none⟩)) (fun _ _ _ h => h) (by assumption) (fun W hW => by obtain ⟨s0, s1, s2, sz, sl⟩ := hW; go_simp) (fun K hK => ?_); go_simp; refine hK _ _ ?_; clear hK K
                    refine wpZ_one (i := 3) rfl (by kernel_rfl) rfl (fun K hK => ?_)
                    go_simp
                    (go_at_call 154; refine (take_ok _ _ _ _ _ _ _ _ hri.drew _ rfl).mono ?_; rintro e w6 ⟨rfl, hb6, A6, c6, h6⟩; simp only [vOfW])
                    replace hb6 := hb6.of_drew
                    have k6 := k3i.but hb6 (by omega)
                    refine ⟨k6, hK _ _ ?_⟩
                    clear hK K hS0
                    refine wpZ_step (i := 4) rfl (by kernel_rfl) rfl (.int .i64 vn) (fun _ _ _ h => h) (by assumption) (fun W hW => by obtain ⟨s0, s1, s2, sz, sl⟩ := hW; go_simp) (fun K hK => ?_); go_simp; refine hK _ _ ?_; clear hK K
                    refine wpZ_one (i := 5) rfl (by kernel_rfl) rfl (fun K hK => ?_)
                    go_simp
                    refine ⟨k6.alloc _, hK _ _ ?_⟩
                    clear hK K
                    refine wpZ_nil (by kernel_rfl) ?_
                    simp only [List.filterMap_cons, List.filterMap_nil, List.getElem?_cons_succ, List.getElem?_cons_zero]
                    have hfr := own_fresh (own_below (OwnI.but HVs.out hb6 (by omega)) ((Below.refl w6.heap.size w6).alloc (Nat.le_refl _) (.cells #[.int .i64 vn] 3)) (Nat.le_refl _))
                    refine wpList_append_one rfl _ _ 24 3 _ 1 8 rfl Tryz.underlying24 intInfo rfl (by decide) (by decide) (KB + 1) (.slice V vs.length q) vs.length (vs.map (Value.int .i64)) [.int .i64 vn] rfl (own_below (OwnI.but HVs.out hb6 (by omega)) ((Below.refl w6.heap.size w6).alloc (Nat.le_refl _) _) (Nat.le_refl _)) w6.heap.size 1 rfl rfl (cells1 (by go_simp)) (by simp [Value.oneCell']) (by omega) (by have := k6.lt; simp; omega) ?_
                    intro v7 w7 ho7 hg7 _
                    obtain ⟨V', q', rfl⟩ := own_sl ho7
                    have ho7' : OwnI w7 (KB + 1) V' q' (vs ++ [vn]) := by
                     unfold OwnI
                     rw [List.map_append, List.length_append]
                     exact ho7
                    have k7 := (k6.alloc (.cells #[.int .i64 vn] 3)).grown hg7 hfr (Nat.lt_succ_self _)
                    have h7 := (h6.alloc (.cells #[.int .i64 vn] 3)).grown hg7 (fun k hk => by have := hfr k hk; omega)
                    have hb7 := ((hbi.trans hb6).alloc (.cells #[.int .i64 vn] 3)).grown hg7 (fun k hk => by have := hfr k hk; have := HKe.out; omega)
                    obtain ⟨s0, s1, s2, sz, sl⟩ := k7
                    go_simp
                    go_wp2_with fail
                    go_roundg (n - vs.length)
                    case measure => omega
                    case rel => exact ⟨l', A6, c6, vs ++ [vn], V', q', by simp only [List.length_append, List.length_cons, List.length_nil]; omega, by simp only [List.length_append, List.length_cons, List.length_nil]; omega, by simp, by simp only [List.length_cons] at hll; omega, hb7.set _ (.inr (by show w5.heap.size ≤ KB; have := HKe.out; omega)), h7.set _ (by show rb < KB; omega), by simpa using (C3.mk s0 s1 s2 sz sl).set1 _, hQ0 (ho7'.low (by show KB < KB + 1; omega) _), hQ0 (by rw [HJ4.out, show n - (vs ++ [vn]).length = m by simp only [List.length_append, List.length_cons, List.length_nil]; omega])⟩
                  · have k2' : isK l 2 = false := by simpa using k2
                    obtain rfl : R = .err 4 (atR l e) := by
                     rw [HJ3.out]
                     cases l with
                     | nil => rfl
                     | cons y l => simp only [numsF]; rw [if_neg (isK_not k2')]; rfl
                    go_wp2_with fail
                    have hS0 : C3 wr.drew KB (.string kt) (.slice V vs.length q) (.int .i64 kp) := k3i.block (Nat.le_refl _) rfl
                    refine wp_region_Z (fun W => C3 W KB (.string kt) (.slice V vs.length q) (.int .i64 kp)) 6 [6, 7, 8] (by kernel_rfl) (by kernel_rfl) ?_
                    refine wpZ_step (i := 0) rfl (by kernel_rfl) rfl (.pointer (some ⟨KB, 1, none⟩)) (fun _ _ _ h => h) (by assumption) (fun W hW => by obtain ⟨s0, s1, s2, sz, sl⟩ := hW; go_simp) (fun K hK => ?_); go_simp; refine hK _ _ ?_; clear hK K
                    refine wpZ_step (i := 1) rfl (by kernel_rfl) rfl (.slice V vs.length q) (fun _ _ _ h => h) (by assumption) (fun W hW => by obtain ⟨s0, s1, s2, sz, sl⟩ := hW; go_simp) (fun K hK => ?_); go_simp; refine hK _ _ ?_; clear hK K
                    refine wpZ_step (i := 2) rfl (by kernel_rfl) rfl (.pointer (some ⟨rb, 0, none⟩)) (fun _ _ _ h => h) (by assumption) (fun W hW => by obtain ⟨s0, s1, s2, sz, sl⟩ := hW; go_simp) (fun K hK => ?_); go_simp; refine hK _ _ ?_; clear hK K
                    refine wpZ_one (i := 3) rfl (by kernel_rfl) rfl (fun K hK => ?_)
                    go_simp
                    (go_at_call 154; refine (take_bad _ _ _ _ _ _ _ hri.drew _ k2').mono ?_; rintro e w6 ⟨rfl, hb6⟩)
                    exact ⟨rfl, (hbw5.trans hbi).below (below_drew hb6) (Nat.le_trans hbw5.size hbi.size), rfl⟩
                · obtain rfl : n = vs.length := by omega
                  have i1 : ¬ (vs.length : Int) < (vs.length : Int) := by omega
                  have HJ4 : Hid (R = mkI tx ⟨#[]⟩ pl (keysF e tx f (ks ++ [⟨kt, vs, kp⟩]) l)) := hQ0 (by rw [HJ3.out, Nat.sub_self]; rfl)
                  obtain ⟨y0, y1, y2, y3, yz, yl⟩ := b5.but hbi hne
                  have HO6 := HO5.out.but hbi (by omega)
                  have hkq : KsOwn (wr.alloc (.cells #[.string kt, .slice V vs.length q, .int .i64 kp] 120)) (XB + 1) 120 B d ks := HO6.below ((Below.refl wr.heap.size wr).alloc (Nat.le_refl _) _) (Nat.le_refl _)
                  have hvq : OwnI (wr.alloc (.cells #[.string kt, .slice V vs.length q, .int .i64 kp] 120)) (XB + 1) V q vs := (OwnI.weaker HVs.out (by omega : XB + 1 ≤ KB + 1)) |> fun h => own_below h ((Below.refl wr.heap.size wr).alloc (Nat.le_refl _) _) (Nat.le_refl _)
                  obtain ⟨xs, hxs, hmore⟩ := hkq.more (by decide)
                  have HM := hQ0 hmore
                  have HXS := hQ0 hxs
                  have K3 := hQ0 k3i
                  obtain ⟨s0, s1, s2, sz, sl⟩ := k3i
                  have hfr := own_fresh hxs
                  have HFR := hQ0 hfr
                  have hVQ := hQ0 hvq
                  clear hmore hxs hfr hvq hkq HO6
                  go_wp2_with (at_builtin; go_must (refine wpList_append_one rfl _ _ 95 120 _ 3 48 rfl Tryz.underlying95 keyInfo rfl (by decide) (by decide) (XB + 1) (.slice B ks.length d) ks.length xs (cellsOfK ⟨kt, vs, kp⟩ V q) rfl HXS.out wr.heap.size 1 rfl rfl (C3.new wr _ _ _ _).cells (by simp [cellsOfK, Value.oneCell']) (by omega) (by simp; omega) ?_))
                  intro v7 w7 ho7 hg7 _
                  obtain ⟨B', d', rfl, hk7⟩ := HM.out ⟨kt, vs, kp⟩ V q v7 w7 hVQ.out ho7 hg7
                  have b7 := ((C4.mk y0 y1 y2 y3 yz yl).alloc (.cells #[.string kt, .slice V vs.length q, .int .i64 kp] 120)).grown hg7 HFR.out (Nat.lt_succ_self _)
                  have x7 := ((x5.but hbi hne0).alloc (.cells #[.string kt, .slice V vs.length q, .int .i64 kp] 120)).grown hg7 HFR.out (by omega)
                  have h7 := (hri.alloc (.cells #[.string kt, .slice V vs.length q, .int .i64 kp] 120)).grown hg7 (fun k hk => by have := HFR.out k hk; omega)
                  have hb7 := ((hbw5.trans hbi).alloc (.cells #[.string kt, .slice V vs.length q, .int .i64 kp] 120)).grown hg7 (fun k hk => by have := HFR.out k hk; omega)
                  have HT7 := hQ0 (((HT5.out.but hbi h3).alloc (.cells #[.string kt, .slice V vs.length q, .int .i64 kp] 120)).grown hg7 (fun k hk => by have := HFR.out k hk; omega))
                  have HV7 : Hid (∀ k ∈ ks ++ [(⟨kt, vs, kp⟩ : KV)], k.vals.length ≤ 2) := hQ0 (by
                   intro k hk
                   rcases List.mem_append.1 hk with h | h
                   · exact HV.out k h
                   · rw [List.mem_singleton] at h
                     rw [h]
                     show vs.length ≤ 2
                     omega)
                  clear y0 y1 y2 y3 yz yl s0 s1 s2 sz sl
                  obtain ⟨y0, y1, y2, y3, yz, yl⟩ := b7
                  go_wp2_with fail
                  go_roundg (l.length + 1)
                  case measure => omega
                  case rel => exact ⟨l, A, c, ks ++ [⟨kt, vs, kp⟩], B', d', f, by omega, by omega, by simp only [List.length_append, List.length_cons, List.length_nil]; omega, HV7, hb7.set _ (.inr (by show w.heap.size ≤ XB; omega)), x7.low (by show XB ≠ w.heap.size; omega) _, by simpa using (C4.mk y0 y1 y2 y3 yz yl).set2 _, hQ0 (hk7.low (by show XB < XB + 1; omega) _), h7.set _ (by show rb < XB; omega), HJ4, hQ0 (HT7.out.set (by show 3 ≤ XB; omega) _)⟩
          · have k1' : isK l 1 = false := by simpa using k1
            obtain rfl : R = .err 4 (atR l e) := by
             rw [HJ.out]
             cases l with
             | nil => rfl
             | cons y l => simp only [keysF]; rw [if_neg (isK_not k3'), if_pos (isK_not k1')]; rfl
            go_wp2_with (first | (go_at_call 156; refine (is_any _ _ _ _ _ _ _ hr _).mono ?_; rintro e w3 ⟨rfl, rfl⟩; rw [k3']) | (go_at_call 154; refine (take_bad _ _ _ _ _ _ _ hr _ k1').mono ?_; rintro e w3 ⟨rfl, hb3⟩))
            exact ⟨rfl, hbr.below hb3 hbr.size, rfl⟩
     · have b2 : (tx.toList == [116, 97, 98, 108, 101]) = false := txt_neL htab
       have hR0 : itemF e (⟨1, tx, nm, pl⟩ :: l1) = (match l1 with
         | [] => .err 4 e
         | y :: l' => if y.kind ≠ 1 then .err 4 y.at_ else restF e tx y.text pl l') := by simp only [itemF]; rw [if_neg (by simp), if_neg (by simp [hw]), if_neg htab]; cases l1 <;> rfl
       clear htab
       simp only [List.length_cons] at hl
       by_cases k2 : isK l1 1 = true
       · obtain ⟨⟨kd, yt, yn, yp⟩, l2, rfl, hy⟩ := isK_cons k2
         simp only at hy
         subst hy
         have hR : itemF e (⟨1, tx, nm, pl⟩ :: ⟨1, yt, yn, yp⟩ :: l2) = mkI tx yt pl (keysF e tx (l2.length + 1) [] l2) := by rw [hR0]; simp only; rw [if_neg (by simp), restF_eq]
         obtain ⟨R, hRe⟩ : ∃ R, R = mkI tx yt pl (keysF e tx (l2.length + 1) [] l2) := ⟨_, rfl⟩
         have HR := hQ0 hRe
         rw [hR, ← hRe]
         clear hR hRe hR0 k2
         simp only [List.length_cons] at hl
         go_enter Tryz.func93, Tryz.ntmps93; (try simp only [List.append_eq, List.cons_append, List.nil_append])
         go_wp2_with (first | (go_at_call 154; refine (take_ok _ _ _ _ _ _ _ _ h1 _ rfl).mono ?_; rintro e w1 ⟨rfl, hb1, A1, c1, h2⟩; simp only [vOfW]) | (go_at_call 155; refine (keys_any _ _).mono ?_; rintro e w2 ⟨rfl, hb2⟩; obtain ⟨d0, d1, d2, d3, dz, dl⟩ := (C4.new w1 (.int .i64 1) (.string tx) (.int .i64 nm) (.int .i64 pl) 239).below hb2 (by simp)) | (go_at_call 154; refine (take_ok _ _ _ _ _ _ _ _ ((h2.alloc (.cells #[.int .i64 1, .string tx, .int .i64 nm, .int .i64 pl] 239)).below hb2 (Nat.le_refl _) |>.alloc (.cells #[.string tx, .string ⟨#[]⟩, .slice none 0 0, .int .i64 pl] 97)) _ rfl).mono ?_; rintro e w3 ⟨rfl, hb3, A2, c2, h3'⟩; simp only [vOfW]; obtain ⟨z0, z1, z2, z3, zz, zl⟩ := (C4.new w2 (.string tx) (.string ⟨#[]⟩) (.slice none 0 0) (.int .i64 pl) 97).but hb3 (by have := hb1.size; have := hb2.size; simp at *; omega)))
         have hz1 := hb1.size
         simp at hz1
         have hz2 := hb2.size
         simp at hz2
         obtain ⟨XB, hXe⟩ : ∃ XB, XB = w2.heap.size := ⟨_, rfl⟩
         have hX0' := (((((hX0.but hb1 (by omega)).alloc (.cells #[.int .i64 1, .string tx, .int .i64 nm, .int .i64 pl] 239)).below hb2 (by simp; omega)).alloc (.cells #[.string tx, .string ⟨#[]⟩, .slice none 0 0, .int .i64 pl] 97)).but hb3 (by omega)).low (p := ⟨w2.heap.size, 1, none⟩) (by show w2.heap.size ≠ _; omega) (.string yt)
         have hXB := (C4.mk z0 z1 z2 z3 zz zl).set1 (.string yt)
         have hrd := h3'.set (p := ⟨w2.heap.size, 1, none⟩) (.string yt) (by show rb < w2.heap.size; omega)
         have hbut := (((((hb0.trans hb1).alloc (.cells #[.int .i64 1, .string tx, .int .i64 nm, .int .i64 pl] 239)).below hb2 (by simp; omega)).alloc (.cells #[.string tx, .string ⟨#[]⟩, .slice none 0 0, .int .i64 pl] 97)).trans hb3).set (p := ⟨w2.heap.size, 1, none⟩) (.string yt) (.inr (by show w.heap.size ≤ w2.heap.size; omega))
         have HT0 := hQ0 ((((((HT.out.but hb1 h3).alloc (.cells #[.int .i64 1, .string tx, .int .i64 nm, .int .i64 pl] 239)).below hb2 (by simp; omega)).alloc (.cells #[.string tx, .string ⟨#[]⟩, .slice none 0 0, .int .i64 pl] 97)).but hb3 h3).set (p := ⟨w2.heap.size, 1, none⟩) (by show 3 ≤ w2.heap.size; omega) (.string yt))
         rw [← hXe] at hX0' hXB hrd hbut HT0 ⊢
         have hXw : w.heap.size + 1 ≤ XB := by omega
         clear hXe h h1 hb0 hX0 HT hb1 hb2 h2 b1 b2 d0 d1 d2 d3 dz dl z0 z1 z2 z3 zz zl hb3 h3'
         go_loopg [] (l2.length + 1) (fun gk wr => ∃ (l : List WV) (A : Option Addr) (c : Nat) (ks : List KV) (B : Option Addr) (d f : Nat), l.length < gk ∧ l.length < f ∧ ks.length + l.length ≤ 20000 ∧ Hid (∀ k ∈ ks, k.vals.length ≤ 2) ∧ But rb w wr ∧ C4 wr w.heap.size (.string ⟨#[]⟩) (.string ⟨#[]⟩) (.slice none 0 0) (.int .i64 0) ∧ C4 wr XB (.string tx) (.string yt) (.slice B ks.length d) (.int .i64 pl) ∧ Hid (KsOwn wr (XB + 1) 120 B d ks) ∧ RdAt wr rb N A l e c ∧ Hid (R = mkI tx yt pl (keysF e tx f ks l)) ∧ Hid (Tabs wr))
         case atStart => exact ⟨l2, A2, c2, [], none, 0, l2.length + 1, by omega, by omega, by simp; omega, hQ0 (by simp), hbut, hX0', hXB, hQ0 (KsOwn.nil _ _ _), hrd, HR, HT0⟩
         case round =>
          obtain ⟨l, A, c, ks, B, d, f, hlk, hlf, hkl, HV, hbr, x4, b4, HO, hr, HJ, HTr⟩ := hrel
          have hr0 := hr.lt
          have hne : XB ≠ rb := by omega
          have hne0 : w.heap.size ≠ rb := by omega
          obtain ⟨f, rfl⟩ : ∃ g, f = g + 1 := ⟨f - 1, by omega⟩
          have hlK := b4.lt
          obtain ⟨y0, y1, y2, y3, yz, yl⟩ := b4
          by_cases k3 : isK l 3 = true
          · obtain ⟨⟨kd, t3, n3, p3⟩, lr, rfl, hx3⟩ := isK_cons k3
            simp only at hx3
            subst hx3
            obtain rfl : R = .ok ⟨tx, yt, ks, pl⟩ lr := HJ.out
            go_wp2_with (first | (go_at_call 156; refine (is_any _ _ _ _ _ _ _ hr _).mono ?_; rintro e w3 ⟨rfl, rfl⟩; rw [k3]) | (go_at_call 154; refine (take_ok _ _ _ _ _ _ _ _ hr _ rfl).mono ?_; rintro e w3 ⟨rfl, hb3, A3, c3, h3'⟩; obtain ⟨u0, u1, u2, u3, uz, ul⟩ := x4.but hb3 hne0; obtain ⟨z0, z1, z2, z3, zz, zl⟩ := (C4.mk y0 y1 y2 y3 yz yl).but hb3 hne))

            refine bodyPost_ret (v := .agg #[.string tx, .string yt, .slice B ks.length d, .int .i64 pl]) (by simp only [results, Tryz.results93]; go_simp) rfl ⟨?_, ?_⟩
            · exact ((((hbr.trans hb3).set _ (.inr (Nat.le_refl _))).set _ (.inr (Nat.le_refl _))).set _ (.inr (Nat.le_refl _))).set _ (.inr (Nat.le_refl _))
            · refine ⟨B, d, A3, c3, rfl, ?_, ?_⟩
              · exact ((((HO.out.but hb3 (by omega)).low (p := ⟨w.heap.size, 0, none⟩) (by show w.heap.size < _; omega) _).low (p := ⟨w.heap.size, 1, none⟩) (by show w.heap.size < _; omega) _).low (p := ⟨w.heap.size, 2, none⟩) (by show w.heap.size < _; omega) _).low (p := ⟨w.heap.size, 3, none⟩) (by show w.heap.size < _; omega) _ |>.weaker (by omega)
              · exact (((h3'.set _ (by show rb < w.heap.size; omega)).set _ (by show rb < w.heap.size; omega)).set _ (by show rb < w.heap.size; omega)).set _ (by show rb < w.heap.size; omega)
          · have k3' : isK l 3 = false := by simpa using k3
            by_cases k1 : isK l 1 = true
            · obtain ⟨⟨kd, kt, kn, kp⟩, lr, rfl, hx1⟩ := isK_cons k1
              simp only at hx1
              subst hx1
              by_cases ha : arR tx kt < 0
              · obtain rfl : R = .err 4 kp := by rw [HJ.out]; simp only [keysF]; rw [if_neg (by simp), if_neg (by simp), if_pos ha]; rfl
                go_wp2_with (first | (go_at_call 156; refine (is_any _ _ _ _ _ _ _ hr _).mono ?_; rintro e w3 ⟨rfl, rfl⟩; rw [k3']) | (go_at_call 154; refine (take_ok _ _ _ _ _ _ _ _ hr _ rfl).mono ?_; rintro e w3 ⟨rfl, hb3, A3, c3, h3'⟩; simp only [vOfW]; obtain ⟨z0, z1, z2, z3, zz, zl⟩ := (C4.mk y0 y1 y2 y3 yz yl).but hb3 hne) | (go_at_call 157; refine (arity_any _ _ _ ((HTr.out.but hb3 h3).alloc _)).mono ?_; rintro e w4 ⟨rfl, hb4⟩; obtain ⟨q0, q1, q2, q3, qz, ql⟩ := (C4.new w3 (.int .i64 1) (.string kt) (.int .i64 kn) (.int .i64 kp) 239).below hb4 (by simp)))
                exact ⟨rfl, ((hbr.trans hb3).alloc _).below hb4 (by have := hb3.size; have := hbr.size; simp; omega), rfl⟩
              · have hge : 0 ≤ arR tx kt := by omega
                have hle := (arR_bd tx kt).2
                cases hG : getR ks kt with
                | some vs =>
                 have hh : hasK ks kt = true := by rw [hasK_get, hG]; rfl
                 obtain rfl : R = .err 7 kp := by rw [HJ.out]; simp only [keysF]; rw [if_neg (by simp), if_neg (by simp), if_neg ha, if_pos hh]; rfl
                 go_wp2_with (first | (go_at_call 156; refine (is_any _ _ _ _ _ _ _ hr _).mono ?_; rintro e w3 ⟨rfl, rfl⟩; rw [k3']) | (go_at_call 154; refine (take_ok _ _ _ _ _ _ _ _ hr _ rfl).mono ?_; rintro e w3 ⟨rfl, hb3, A3, c3, h3'⟩; simp only [vOfW]; obtain ⟨z0, z1, z2, z3, zz, zl⟩ := (C4.mk y0 y1 y2 y3 yz yl).but hb3 hne) | (go_at_call 157; refine (arity_any _ _ _ ((HTr.out.but hb3 h3).alloc _)).mono ?_; rintro e w4 ⟨rfl, hb4⟩; obtain ⟨q0, q1, q2, q3, qz, ql⟩ := (C4.new w3 (.int .i64 1) (.string kt) (.int .i64 kn) (.int .i64 kp) 239).below hb4 (by simp); obtain ⟨m0, m1, m2, m3, mz, ml⟩ := ((C4.mk z0 z1 z2 z3 zz zl).alloc _).below hb4 (by simp; omega)) | (go_at_call 103; refine (get_any ⟨tx, yt, ks, pl⟩ B d kt _ (((HO.out.but hb3 (by omega)).at.below ((Below.refl w3.heap.size w3).alloc (Nat.le_refl _) _) (Nat.le_refl _)).below hb4 (Nat.le_refl _)) (by simp at hkl; show ks.length ≤ _; omega) (fun k hk => by have := HV.out k hk; omega)).mono ?_; rintro e w5 ⟨hb5, hg⟩; rw [hG] at hg; obtain ⟨A5, c5, rfl, _⟩ := hg; obtain ⟨r0, r1, r2, r3, rz, rl⟩ := (C4.mk q0 q1 q2 q3 qz ql).below hb5 (by omega)))
                 exact ⟨rfl, (((hbr.trans hb3).alloc _).below hb4 (by have := hb3.size; have := hbr.size; simp; omega)).below hb5 (by have := hb3.size; have := hbr.size; have := hb4.size; simp at *; omega), rfl⟩
                | none =>
                 have hh : hasK ks kt = false := by rw [hasK_get, hG]; rfl
                 obtain ⟨n, hn⟩ : ∃ n : Nat, arR tx kt = n := ⟨(arR tx kt).toNat, by omega⟩
                 have HJ2 : Hid (R = mkI tx yt pl (numK e tx f ks kt kp (numsF e (n - 0) [] lr))) := hQ0 (by rw [HJ.out, keysF_key rfl ha hh, hn]; rfl)
                 rw [hn] at ha hge hle
                 have HN := hQ0 hn
                 clear hn
                 go_wp2_with (first | (go_at_call 156; refine (is_any _ _ _ _ _ _ _ hr _).mono ?_; rintro e w3 ⟨rfl, rfl⟩; rw [k3']) | (go_at_call 154; refine (take_ok _ _ _ _ _ _ _ _ hr _ rfl).mono ?_; rintro e w3 ⟨rfl, hb3, A3, c3, h3'⟩; simp only [vOfW]; obtain ⟨z0, z1, z2, z3, zz, zl⟩ := (C4.mk y0 y1 y2 y3 yz yl).but hb3 hne) | (go_at_call 157; refine (arity_any _ _ _ ((HTr.out.but hb3 h3).alloc _)).mono ?_; rintro e w4 ⟨rfl, hb4⟩; rw [HN.out]; obtain ⟨q0, q1, q2, q3, qz, ql⟩ := (C4.new w3 (.int .i64 1) (.string kt) (.int .i64 kn) (.int .i64 kp) 239).below hb4 (by simp); obtain ⟨m0, m1, m2, m3, mz, ml⟩ := ((C4.mk z0 z1 z2 z3 zz zl).alloc _).below hb4 (by simp; omega)) | (go_at_call 103; refine (get_any ⟨tx, yt, ks, pl⟩ B d kt _ (((HO.out.but hb3 (by omega)).at.below ((Below.refl w3.heap.size w3).alloc (Nat.le_refl _) _) (Nat.le_refl _)).below hb4 (Nat.le_refl _)) (by simp at hkl; show ks.length ≤ _; omega) (fun k hk => by have := HV.out k hk; omega)).mono ?_; rintro e w5 ⟨hb5, hg⟩; rw [hG] at hg; obtain rfl := hg; obtain ⟨r0, r1, r2, r3, rz, rl⟩ := (C4.mk q0 q1 q2 q3 qz ql).below hb5 (by omega)))
                 have hz3 := hb3.size
                 have hz4 := hb4.size
                 have hz5 := hb5.size
                 simp at hz4
                 simp only [List.length_cons] at hkl hlk hlf
                 obtain ⟨KB, hKe⟩ : ∃ KB, KB = w5.heap.size := ⟨_, rfl⟩
                 have hbk : But rb wr w5 := ((hb3.alloc (.cells #[.int .i64 1, .string kt, .int .i64 kn, .int .i64 kp] 239)).below hb4 (by simp; omega)).below hb5 (by omega)
                 have HO5 := hQ0 (HO.out.but hbk (by omega))
                 have x5 := x4.but hbk hne0
                 have b5 := (C4.mk y0 y1 y2 y3 yz yl).but hbk hne
                 have HT5 := hQ0 (HTr.out.but hbk h3)
                 have hr5 := (((h3'.alloc (.cells #[.int .i64 1, .string kt, .int .i64 kn, .int .i64 kp] 239)).below hb4 (Nat.le_refl _)).below hb5 (Nat.le_refl _)).alloc (.cells #[.string kt, .slice none 0 0, .int .i64 kp] 120)
                 have k5 := C3.new w5 (.string kt) (.slice none 0 0) (.int .i64 kp) 120
                 have hbw5 := hbr.trans hbk
                 have hbi0 := (But.refl rb w5).alloc (.cells #[.string kt, .slice none 0 0, .int .i64 kp] 120)
                 rw [← hKe] at k5 ⊢
                 have hKx : XB < KB := by omega
                 have HKe := hQ0 hKe
                 clear hKe hb3 hb4 hb5 hbk HO x4 HTr h3' hbr hr y0 y1 y2 y3 yz yl z0 z1 z2 z3 zz zl q0 q1 q2 q3 qz ql m0 m1 m2 m3 mz ml r0 r1 r2 r3 rz rl HJ k1 k3 k3' hG hh hz3 hz4 hz5
                 go_loopg [66] (n + 1) (fun gk t wi => ∃ (l : List WV) (A : Option Addr) (c : Nat) (vs : List Int) (V : Option Addr) (q : Nat), vs.length ≤ n ∧ n - vs.length < gk ∧ t = .int .i64 vs.length ∧ l.length ≤ lr.length ∧ But rb w5 wi ∧ RdAt wi rb N A l e c ∧ C3 wi KB (.string kt) (.slice V vs.length q) (.int .i64 kp) ∧ Hid (OwnI wi (KB + 1) V q vs) ∧ Hid (R = mkI tx yt pl (numK e tx f ks kt kp (numsF e (n - vs.length) vs l))))
                 case atStart => exact ⟨lr, A3, c3, [], none, 0, by simp, by simp, rfl, Nat.le_refl _, hbi0, hr5, k5, hQ0 (OwnI.nil _ _), HJ2⟩
                 case round =>
                  obtain ⟨l, A, c, vs, V, q, hi, hik, rfl, hll, hbi, hri, k3i, HVs, HJ3⟩ := hrel
                  have hri0 := hri.lt
                  by_cases hin : vs.length < n
                  · obtain ⟨m, hm⟩ : ∃ m, n - vs.length = m + 1 := ⟨n - vs.length - 1, by omega⟩
                    rw [hm] at HJ3
                    have i1 : (vs.length : Int) < (n : Int) := by omega
                    by_cases k2 : isK l 2 = true
                    · obtain ⟨⟨kd, vt, vn, vp⟩, l', rfl, hx2⟩ := isK_cons k2
                      simp only at hx2
                      subst hx2
                      have HJ4 : Hid (R = mkI tx yt pl (numK e tx f ks kt kp (numsF e m (vs ++ [vn]) l'))) := hQ0 (by rw [HJ3.out]; rfl)
                      go_wp2_with fail
                      have hS0 : C3 wr.drew KB (.string kt) (.slice V vs.length q) (.int .i64 kp) := k3i.block (Nat.le_refl _) rfl
                      refine wp_region_Z (fun W => C3 W KB (.string kt) (.slice V vs.length q) (.int .i64 kp)) 6 [6, 7, 8] (by kernel_rfl) (by kernel_rfl) ?_
                      refine wpZ_step (i := 0) rfl (by kernel_rfl) rfl (.pointer (some ⟨KB, 1, none⟩)) (fun _ _ _ h => h) (by assumption) (fun W hW => by obtain ⟨s0, s1, s2, sz, sl⟩ := hW; go_simp) (fun K hK => ?_); go_simp; refine hK _ _ ?_; clear hK K
                      refine wpZ_step (i := 1) rfl (by kernel_rfl) rfl (.slice V vs.length q) (fun _ _ _ h => h) (by assumption) (fun W hW => by obtain ⟨s0, s1, s2, sz, sl⟩ := hW; go_simp) (fun K hK => ?_); go_simp; refine hK _ _ ?_; clear hK K
                      refine wpZ_step (i := 2) rfl (by kernel_rfl) rfl (.pointer (some ⟨rb, 0, none⟩)) (fun _ _ _ h => h) (by assumption) (fun W hW => by obtain ⟨s0, s1, s2, sz, sl⟩ := hW; go_simp) (fun K hK => ?_); go_simp; refine hK _ _ ?_; clear hK K
                      refine wpZ_one (i := 3) rfl (by kernel_rfl) rfl (fun K hK => ?_)
                      go_simp
                      (go_at_call 154; refine (take_ok _ _ _ _ _ _ _ _ hri.drew _ rfl).mono ?_; rintro e w6 ⟨rfl, hb6, A6, c6, h6⟩; simp only [vOfW])
                      replace hb6 := hb6.of_drew
                      have k6 := k3i.but hb6 (by omega)
                      refine ⟨k6, hK _ _ ?_⟩
                      clear hK K hS0
                      refine wpZ_step (i := 4) rfl (by kernel_rfl) rfl (.int .i64 vn) (fun _ _ _ h => h) (by assumption) (fun W hW => by obtain ⟨s0, s1, s2, sz, sl⟩ := hW; go_simp) (fun K hK => ?_); go_simp; refine hK _ _ ?_; clear hK K
                      refine wpZ_one (i := 5) rfl (by kernel_rfl) rfl (fun K hK => ?_)
                      go_simp
                      refine ⟨k6.alloc _, hK _ _ ?_⟩
                      clear hK K
                      refine wpZ_nil (by kernel_rfl) ?_
                      simp only [List.filterMap_cons, List.filterMap_nil, List.getElem?_cons_succ, List.getElem?_cons_zero]
                      have hfr := own_fresh (own_below (OwnI.but HVs.out hb6 (by omega)) ((Below.refl w6.heap.size w6).alloc (Nat.le_refl _) (.cells #[.int .i64 vn] 3)) (Nat.le_refl _))
                      refine wpList_append_one rfl _ _ 24 3 _ 1 8 rfl Tryz.underlying24 intInfo rfl (by decide) (by decide) (KB + 1) (.slice V vs.length q) vs.length (vs.map (Value.int .i64)) [.int .i64 vn] rfl (own_below (OwnI.but HVs.out hb6 (by omega)) ((Below.refl w6.heap.size w6).alloc (Nat.le_refl _) _) (Nat.le_refl _)) w6.heap.size 1 rfl rfl (cells1 (by go_simp)) (by simp [Value.oneCell']) (by omega) (by have := k6.lt; simp; omega) ?_
                      intro v7 w7 ho7 hg7 _
                      obtain ⟨V', q', rfl⟩ := own_sl ho7
                      have ho7' : OwnI w7 (KB + 1) V' q' (vs ++ [vn]) := by
                       unfold OwnI
                       rw [List.map_append, List.length_append]
                       exact ho7
                      have k7 := (k6.alloc (.cells #[.int .i64 vn] 3)).grown hg7 hfr (Nat.lt_succ_self _)
                      have h7 := (h6.alloc (.cells #[.int .i64 vn] 3)).grown hg7 (fun k hk => by have := hfr k hk; omega)
                      have hb7 := ((hbi.trans hb6).alloc (.cells #[.int .i64 vn] 3)).grown hg7 (fun k hk => by have := hfr k hk; have := HKe.out; omega)
                      obtain ⟨s0, s1, s2, sz, sl⟩ := k7
                      go_simp
                      go_wp2_with fail
                      go_roundg (n - vs.length)
                      case measure => omega
                      case rel => exact ⟨l', A6, c6, vs ++ [vn], V', q', by simp only [List.length_append, List.length_cons, List.length_nil]; omega, by simp only [List.length_append, List.length_cons, List.length_nil]; omega, by simp, by simp only [List.length_cons] at hll; omega, hb7.set _ (.inr (by show w5.heap.size ≤ KB; have := HKe.out; omega)), h7.set _ (by show rb < KB; omega), by simpa using (C3.mk s0 s1 s2 sz sl).set1 _, hQ0 (ho7'.low (by show KB < KB + 1; omega) _), hQ0 (by rw [HJ4.out, show n - (vs ++ [vn]).length = m by simp only [List.length_append, List.length_cons, List.length_nil]; omega])⟩
                    · have k2' : isK l 2 = false := by simpa using k2
                      obtain rfl : R = .err 4 (atR l e) := by
                       rw [HJ3.out]
                       cases l with
                       | nil => rfl
                       | cons y l => simp only [numsF]; rw [if_neg (isK_not k2')]; rfl
                      go_wp2_with fail
                      have hS0 : C3 wr.drew KB (.string kt) (.slice V vs.length q) (.int .i64 kp) := k3i.block (Nat.le_refl _) rfl
                      refine wp_region_Z (fun W => C3 W KB (.string kt) (.slice V vs.length q) (.int .i64 kp)) 6 [6, 7, 8] (by kernel_rfl) (by kernel_rfl) ?_
                      refine wpZ_step (i := 0) rfl (by kernel_rfl) rfl (.pointer (some ⟨KB, 1, none⟩)) (fun _ _ _ h => h) (by assumption) (fun W hW => by obtain ⟨s0, s1, s2, sz, sl⟩ := hW; go_simp) (fun K hK => ?_); go_simp; refine hK _ _ ?_; clear hK K
                      refine wpZ_step (i := 1) rfl (by kernel_rfl) rfl (.slice V vs.length q) (fun _ _ _ h => h) (by assumption) (fun W hW => by obtain ⟨s0, s1, s2, sz, sl⟩ := hW; go_simp) (fun K hK => ?_); go_simp; refine hK _ _ ?_; clear hK K
                      refine wpZ_step (i := 2) rfl (by kernel_rfl) rfl (.pointer (some ⟨rb, 0, none⟩)) (fun _ _ _ h => h) (by assumption) (fun W hW => by obtain ⟨s0, s1, s2, sz, sl⟩ := hW; go_simp) (fun K hK => ?_); go_simp; refine hK _ _ ?_; clear hK K
                      refine wpZ_one (i := 3) rfl (by kernel_rfl) rfl (fun K hK => ?_)
                      go_simp
                      (go_at_call 154; refine (take_bad _ _ _ _ _ _ _ hri.drew _ k2').mono ?_; rintro e w6 ⟨rfl, hb6⟩)
                      exact ⟨rfl, (hbw5.trans hbi).below (below_drew hb6) (Nat.le_trans hbw5.size hbi.size), rfl⟩
                  · obtain rfl : n = vs.length := by omega
                    have i1 : ¬ (vs.length : Int) < (vs.length : Int) := by omega
                    have HJ4 : Hid (R = mkI tx yt pl (keysF e tx f (ks ++ [⟨kt, vs, kp⟩]) l)) := hQ0 (by rw [HJ3.out, Nat.sub_self]; rfl)
                    obtain ⟨y0, y1, y2, y3, yz, yl⟩ := b5.but hbi hne
                    have HO6 := HO5.out.but hbi (by omega)
                    have hkq : KsOwn (wr.alloc (.cells #[.string kt, .slice V vs.length q, .int .i64 kp] 120)) (XB + 1) 120 B d ks := HO6.below ((Below.refl wr.heap.size wr).alloc (Nat.le_refl _) _) (Nat.le_refl _)
                    have hvq : OwnI (wr.alloc (.cells #[.string kt, .slice V vs.length q, .int .i64 kp] 120)) (XB + 1) V q vs := (OwnI.weaker HVs.out (by omega : XB + 1 ≤ KB + 1)) |> fun h => own_below h ((Below.refl wr.heap.size wr).alloc (Nat.le_refl _) _) (Nat.le_refl _)
                    obtain ⟨xs, hxs, hmore⟩ := hkq.more (by decide)
                    have HM := hQ0 hmore
                    have HXS := hQ0 hxs
                    have K3 := hQ0 k3i
                    obtain ⟨s0, s1, s2, sz, sl⟩ := k3i
                    have hfr := own_fresh hxs
                    have HFR := hQ0 hfr
                    have hVQ := hQ0 hvq
                    clear hmore hxs hfr hvq hkq HO6
                    go_wp2_with (at_builtin; go_must (refine wpList_append_one rfl _ _ 95 120 _ 3 48 rfl Tryz.underlying95 keyInfo rfl (by decide) (by decide) (XB + 1) (.slice B ks.length d) ks.length xs (cellsOfK ⟨kt, vs, kp⟩ V q) rfl HXS.out wr.heap.size 1 rfl rfl (C3.new wr _ _ _ _).cells (by simp [cellsOfK, Value.oneCell']) (by omega) (by simp; omega) ?_))
                    intro v7 w7 ho7 hg7 _
                    obtain ⟨B', d', rfl, hk7⟩ := HM.out ⟨kt, vs, kp⟩ V q v7 w7 hVQ.out ho7 hg7
                    have b7 := ((C4.mk y0 y1 y2 y3 yz yl).alloc (.cells #[.string kt, .slice V vs.length q, .int .i64 kp] 120)).grown hg7 HFR.out (Nat.lt_succ_self _)
                    have x7 := ((x5.but hbi hne0).alloc (.cells #[.string kt, .slice V vs.length q, .int .i64 kp] 120)).grown hg7 HFR.out (by omega)
                    have h7 := (hri.alloc (.cells #[.string kt, .slice V vs.length q, .int .i64 kp] 120)).grown hg7 (fun k hk => by have := HFR.out k hk; omega)
                    have hb7 := ((hbw5.trans hbi).alloc (.cells #[.string kt, .slice V vs.length q, .int .i64 kp] 120)).grown hg7 (fun k hk => by have := HFR.out k hk; omega)
                    have HT7 := hQ0 (((HT5.out.but hbi h3).alloc (.cells #[.string kt, .slice V vs.length q, .int .i64 kp] 120)).grown hg7 (fun k hk => by have := HFR.out k hk; omega))
                    have HV7 : Hid (∀ k ∈ ks ++ [(⟨kt, vs, kp⟩ : KV)], k.vals.length ≤ 2) := hQ0 (by
                     intro k hk
                     rcases List.mem_append.1 hk with h | h
                     · exact HV.out k h
                     · rw [List.mem_singleton] at h
                       rw [h]
                       show vs.length ≤ 2
                       omega)
                    clear y0 y1 y2 y3 yz yl s0 s1 s2 sz sl
                    obtain ⟨y0, y1, y2, y3, yz, yl⟩ := b7
                    go_wp2_with fail
                    go_roundg (l.length + 1)
                    case measure => omega
                    case rel => exact ⟨l, A, c, ks ++ [⟨kt, vs, kp⟩], B', d', f, by omega, by omega, by simp only [List.length_append, List.length_cons, List.length_nil]; omega, HV7, hb7.set _ (.inr (by show w.heap.size ≤ XB; omega)), x7.low (by show XB ≠ w.heap.size; omega) _, by simpa using (C4.mk y0 y1 y2 y3 yz yl).set2 _, hQ0 (hk7.low (by show XB < XB + 1; omega) _), h7.set _ (by show rb < XB; omega), HJ4, hQ0 (HT7.out.set (by show 3 ≤ XB; omega) _)⟩
            · have k1' : isK l 1 = false := by simpa using k1
              obtain rfl : R = .err 4 (atR l e) := by
               rw [HJ.out]
               cases l with
               | nil => rfl
               | cons y l => simp only [keysF]; rw [if_neg (isK_not k3'), if_pos (isK_not k1')]; rfl
              go_wp2_with (first | (go_at_call 156; refine (is_any _ _ _ _ _ _ _ hr _).mono ?_; rintro e w3 ⟨rfl, rfl⟩; rw [k3']) | (go_at_call 154; refine (take_bad _ _ _ _ _ _ _ hr _ k1').mono ?_; rintro e w3 ⟨rfl, hb3⟩))
              exact ⟨rfl, hbr.below hb3 hbr.size, rfl⟩
       · have k2' : isK l1 1 = false := by simpa using k2
         have hR : itemF e (⟨1, tx, nm, pl⟩ :: l1) = .err 4 (atR l1 e) := by
          rw [hR0]
          cases l1 with
          | nil => rfl
          | cons y l => simp only; rw [if_pos (isK_not k2')]; rfl
         rw [hR]
         clear hR hR0
         go_enter Tryz.func93, Tryz.ntmps93; (try simp only [List.append_eq, List.cons_append, List.nil_append])
         go_wp2_with (first | (go_at_call 154; refine (take_ok _ _ _ _ _ _ _ _ h1 _ rfl).mono ?_; rintro e w1 ⟨rfl, hb1, A1, c1, h2⟩; simp only [vOfW]) | (go_at_call 155; refine (keys_any _ _).mono ?_; rintro e w2 ⟨rfl, hb2⟩; obtain ⟨d0, d1, d2, d3, dz, dl⟩ := (C4.new w1 (.int .i64 1) (.string tx) (.int .i64 nm) (.int .i64 pl) 239).below hb2 (by simp)) | (go_at_call 154; refine (take_bad _ _ _ _ _ _ _ ((h2.alloc (.cells #[.int .i64 1, .string tx, .int .i64 nm, .int .i64 pl] 239)).below hb2 (Nat.le_refl _) |>.alloc (.cells #[.string tx, .string ⟨#[]⟩, .slice none 0 0, .int .i64 pl] 97)) _ k2').mono ?_; rintro e w3 ⟨rfl, hb3⟩))
         have hz1 := hb1.size
         simp at hz1
         have hz2 := hb2.size
         simp at hz2
         exact ⟨rfl, ((((hb0.trans hb1).alloc (.cells #[.int .i64 1, .string tx, .int .i64 nm, .int .i64 pl] 239)).below hb2 (by simp; omega)).alloc (.cells #[.string tx, .string ⟨#[]⟩, .slice none 0 0, .int .i64 pl] 97)).below hb3 (by simp; omega), rfl⟩
 · have hR : itemF e l = .err 4 (atR l e) := by
    cases l with
    | nil => rfl
    | cons x l => have := isK_not (by simpa using k1); simp [itemF, this, atR]
   have k1' : isK l 1 = false := by simpa using k1
   rw [hR]
   go_enter Tryz.func93, Tryz.ntmps93; (try simp only [List.append_eq, List.cons_append, List.nil_append])
   go_wp2_with (go_at_call 154; refine (take_bad _ _ _ _ _ _ _ h1 _ k1').mono ?_; rintro e w1 ⟨rfl, hb1⟩)
   exact ⟨rfl, hb0.below hb1 (by simp), rfl⟩
set_option maxHeartbeats 1000000 in
theorem catch_idle (p q r : Addr) (w : World) :
  CallsD Tryz.prog 91 #[.pointer (some p), .pointer (some q), .pointer (some r)] .returning w fun e u' w' => e = .returned (.tuple #[]) ∧ u' = .returning ∧ w' = w := by
 refine callsD_of_wpS Tryz.func91 rfl fun c₀ cs hu => ?_
 simp only [Tryz.ntmps91, List.size_toArray, List.length_cons, List.length_nil, Nat.reduceAdd, Nat.reduceSub, Array.replicate_succ, Array.replicate_zero, List.push_toArray, List.append_toArray, List.nil_append, List.cons_append]
 apply wpS_seq
 apply wpS_region
 simp [wpOpsS, go_sem, recoverD, hu, Exit.thenS]
 refine wpS_of_wp ?_
 go_wp2_with fail
 cases c₀
 simp_all [bodyPostS, results, Tryz.results91]
def pan (e : Int) (a : Nat) (r : Bool) : List PanicEntry := [{ v := .iface 155 (.agg #[.int .i64 e, .int .i64 a]), recovered := r }]
set_option maxRecDepth 100000 in
set_option maxHeartbeats 1000000 in
theorem catch_fault (p q r : Nat) (e : Int) (a : Nat) (x y z : Value) (w : World) (hp : w.cell? ⟨p, 0, none⟩ = some x) (hq : w.cell? ⟨q, 0, none⟩ = some y) (hr : w.cell? ⟨r, 0, none⟩ = some z)
  (fp : ∀ o, w.frozen? ⟨p, o, none⟩ = false) (fq : ∀ o, w.frozen? ⟨q, o, none⟩ = false) (fr : ∀ o, w.frozen? ⟨r, o, none⟩ = false) (lp : p < w.heap.size) (lq : q < w.heap.size) (lr : r < w.heap.size) (n1 : p ≠ q) (n2 : p ≠ r) (n3 : q ≠ r) :
  CallsD Tryz.prog 91 #[.pointer (some ⟨p, 0, none⟩), .pointer (some ⟨q, 0, none⟩), .pointer (some ⟨r, 0, none⟩)] (.panicking (pan e a false)) w fun ε u' w' =>
   ε = .returned (.tuple #[]) ∧ u' = .panicking (pan e a true) ∧ w' = ((((w.setCell ⟨p, 0, none⟩ (.slice none 0 0)).setCell ⟨q, 0, none⟩ (.int .i64 e)).setCell ⟨r, 0, none⟩ (.int .i64 a)).alloc (.cells #[.int .i64 e, .int .i64 a] 155)).drew := by
 refine callsD_of_wpS Tryz.func91 rfl fun c₀ cs hu => ?_
 simp only [Tryz.ntmps91, List.size_toArray, List.length_cons, List.length_nil, Nat.reduceAdd, Nat.reduceSub, Array.replicate_succ, Array.replicate_zero, List.push_toArray, List.append_toArray, List.nil_append, List.cons_append]
 apply wpS_seq
 apply wpS_region
 have p1 : p ≠ w.heap.size := by omega
 have p2 : w.heap.size ≠ p := by omega
 have q1 : q ≠ w.heap.size := by omega
 have q2 : w.heap.size ≠ q := by omega
 have r1 : r ≠ w.heap.size := by omega
 have r2 : w.heap.size ≠ r := by omega
 have n1' := Ne.symm n1
 have n2' := Ne.symm n2
 have n3' := Ne.symm n3
 have hta : ∀ w : World, (Instr.typeAssert (.iface 155 (.agg #[.int .i64 e, .int .i64 a])) 20 155 false).run Tryz.prog w = .ok (.agg #[.int .i64 e, .int .i64 a]) w := fun _ => by kernel_rfl
 unfold pan at hu
 simp [wpOpsS, go_sem, recoverD, hu, Exit.thenS]
 refine wpS_of_wp ?_
 go_wp2_with fail
 go_region
 exact ⟨rfl, _, rfl, _, results_none rfl _ _ _, rfl, rfl, rfl⟩
structure C1 (w : World) (b : Nat) (v0 : Value) : Prop where
  c0 : w.cell? ⟨b, 0, none⟩ = some v0
  fz : ∀ o, w.frozen? ⟨b, o, none⟩ = false
  lt : b < w.heap.size
  one : ∀ o, 0 < o → w.cell? ⟨b, o, none⟩ = none
theorem C1.block {w w' : World} {b : Nat} {v0 : Value} (h : C1 w b v0) (hs : w.heap.size ≤ w'.heap.size) (hb : w'.heap[b]? = w.heap[b]?) : C1 w' b v0 :=
 ⟨(World.cell?_of_block (a := ⟨b, 0, none⟩) hb).trans h.c0, fun o => (World.frozen?_of_block (a := ⟨b, o, none⟩) hb).trans (h.fz o), Nat.lt_of_lt_of_le h.lt hs, fun o ho => (World.cell?_of_block (a := ⟨b, o, none⟩) hb).trans (h.one o ho)⟩
theorem C1.below {w w' : World} {b B : Nat} {v0 : Value} (h : C1 w b v0) (hb : Below B w w') (hB : b < B) : C1 w' b v0 := h.block hb.size (hb.block b hB)
theorem C1.but {w w' : World} {b rb : Nat} {v0 : Value} (h : C1 w b v0) (hb : But rb w w') (hn : b ≠ rb) : C1 w' b v0 := h.block hb.size (hb.block b h.lt hn)
theorem C1.alloc {w : World} {b : Nat} {v0 : Value} (h : C1 w b v0) (o : Obj) : C1 (w.alloc o) b v0 := h.block (by simp) (heap_alloc_old w o h.lt)
theorem C1.new (w : World) (v0 : Value) (e : TypeId) : C1 (w.alloc (.cells #[v0] e)) w.heap.size v0 := ⟨by go_simp, fun o => by go_simp, by simp, fun o ho => by rw [World.cell?_alloc_new]; simp; omega⟩
theorem C1.at (w : World) (b : Nat) (v0 : Value) (e : TypeId) (hb : b = w.heap.size) : C1 (w.alloc (.cells #[v0] e)) b v0 := by subst hb; exact C1.new w v0 e
theorem C1.low {w : World} {b : Nat} {v0 : Value} (h : C1 w b v0) {p : Addr} (hp : p.block ≠ b) (u : Value) : C1 (w.setCell p u) b v0 := h.block (by simp) (Below.heap_setCell _ _ _ _ (by omega))
theorem C1.set0 {w : World} {b : Nat} {v0 : Value} (h : C1 w b v0) (u : Value) : C1 (w.setCell ⟨b, 0, none⟩ u) b u := by
 obtain ⟨c0, fz, lt, one⟩ := h
 refine ⟨by go_simp, fun o => by go_simp, by simpa using lt, fun o ho => ?_⟩
 have := one o ho
 have hne : (⟨b, 0, none⟩ : Addr) ≠ ⟨b, o, none⟩ := fun e => by simp only [Addr.mk.injEq] at e; omega
 first | exact (World.cell?_setCell_other hne).trans this | exact (World.cell?_setCell_other _ hne).trans this | exact (World.cell?_setCell_other _ _ hne).trans this | exact (World.cell?_setCell_other _ _ _ hne).trans this | exact (World.cell?_setCell_other _ _ _ _ hne).trans this
theorem C1.grown {w w' : World} {b base : Nat} {v0 : Value} {row : Option Nat} (h : C1 w b v0) (hg : w.grownBy w' row) (hr : ∀ k, row = some k → base ≤ k) (hb : b < base) : C1 w' b v0 := h.block hg.size (hg.block b h.lt (fun e => by have := hr b e.symm; omega))
theorem RdAt.set_one {w : World} {rb N p : Nat} {A B : Option Addr} {l : List WV} {e c n d : Nat} (h : RdAt w rb N A l e c) (h1 : C1 w p (.slice B n d)) (hp : p ≠ rb) (u : Value) : RdAt (w.setCell ⟨p, 0, none⟩ u) rb N A l e c := by
 have hk : ∀ b, b ≠ p → (w.setCell ⟨p, 0, none⟩ u).heap[b]? = w.heap[b]? := fun b hb => Below.heap_setCell _ _ _ _ (by show b ≠ p; exact hb)
 have hr := hk rb (Ne.symm hp)
 refine ⟨(World.cell?_of_block hr).trans h.hw, (World.cell?_of_block hr).trans h.he, fun o => (World.frozen?_of_block hr).trans (h.fz o), by simpa using h.lt, h.nle, h.cap, fun k x hx => ?_⟩
 obtain ⟨g, o, hA, hg, hc⟩ := h.ws k x hx
 have hgp : g ≠ p := by
  rintro rfl
  have c0 := hc 0 _ rfl
  rcases Nat.eq_zero_or_pos (o + (k * 4 + 0)) with h0 | h0
  · rw [h0, h1.c0] at c0
    cases c0
  · rw [h1.one _ h0] at c0
    cases c0
 exact ⟨g, o, hA, hg, fun j u hu => (World.cell?_of_block (hk g hgp)).trans (hc j u hu)⟩
theorem leaves_put {P : Program} {fn : Func} {tmps tmps' : Array Value} {R : Ending → World → Prop} (hr : results fn tmps' = results fn tmps) : ∀ {ds : List Deferred} {u : FrameMode} {w : World}, Leaves P fn tmps R ds u w → Leaves P fn tmps' R ds u w
 | [], .returning, w, h => by unfold Leaves at *; rw [hr]; exact h
 | [], .panicking _, w, h => by unfold Leaves at *; exact h
 | [], .run, w, h => by unfold Leaves at *; exact h
 | d :: ds, u, w, h => by
  unfold Leaves at h ⊢
  obtain ⟨hu, fv, cap, f, args, ht, hi, hC⟩ := h
  refine ⟨hu, fv, cap, f, args, ht, hi, hC.mono ?_⟩
  intro e u' w' h'
  cases e with
  | returned v => exact leaves_put hr h'
  | panicked c => exact leaves_put hr h'
  | outgrown => exact h'
theorem C1.drew {w : World} {b : Nat} {v0 : Value} (h : C1 w b v0) : C1 w.drew b v0 := ⟨h.c0, h.fz, h.lt, h.one⟩
theorem res3 {w : World} {p q r : Nat} {x y z : Value} {tmps : Array Value} (h1 : C1 w p x) (h2 : C1 w q y) (h3 : C1 w r z) (t1 : tmps[2]? = some (.pointer (some ⟨p, 0, none⟩))) (t2 : tmps[3]? = some (.pointer (some ⟨q, 0, none⟩))) (t3 : tmps[4]? = some (.pointer (some ⟨r, 0, none⟩))) :
  (results Tryz.f39 tmps).run Tryz.prog w = .ok (.tuple #[x, y, z]) w := by
 obtain ⟨c0, cz, cl, _⟩ := h1
 obtain ⟨d0, dz, dl, _⟩ := h2
 obtain ⟨e0, ez, el, _⟩ := h3
 simp only [results, Tryz.results39]
 go_simp
def ParseOut (R : List IV × Int × Nat) (tX tK : TypeId) (w : World) (ε : Ending) (w' : World) : Prop := Below w.heap.size w w' ∧ ∃ A c, ε = .returned (.tuple #[.slice A R.1.length c, .int .i64 R.2.1, .int .i64 R.2.2]) ∧ XsOwn w' w.heap.size tX tK A c R.1
theorem size_setCell' (w : World) (p : Addr) (u : Value) : (w.setCell p u).heap.size = w.heap.size := by simp
theorem caught {w W : World} {p q r : Nat} {x y z : Value} {tmps cap dargs : Array Value} {fv : Fn} {tX tK : TypeId} {e : Int} {a : Nat} (h1 : C1 W p x) (h2 : C1 W q y) (h3 : C1 W r z) (n1 : p ≠ q) (n2 : p ≠ r) (n3 : q ≠ r) (l1 : w.heap.size ≤ p) (l2 : w.heap.size ≤ q) (l3 : w.heap.size ≤ r) (hb : Below w.heap.size w W)
  (t1 : tmps[2]? = some (.pointer (some ⟨p, 0, none⟩))) (t2 : tmps[3]? = some (.pointer (some ⟨q, 0, none⟩))) (t3 : tmps[4]? = some (.pointer (some ⟨r, 0, none⟩)))
  (hi : (invoke (.fn fv cap) dargs).run Tryz.prog W = .ok (.enter 91 #[.pointer (some ⟨p, 0, none⟩), .pointer (some ⟨q, 0, none⟩), .pointer (some ⟨r, 0, none⟩)]) W) :
  Leaves Tryz.prog Tryz.f39 tmps (ParseOut ([], e, a) tX tK w) [{ target := .fn fv cap, args := dargs }] (.panicking (flt e a)) W := by
 refine leaves_cons (by simp) hi ?_
 refine (catch_fault p q r e a x y z W h1.c0 h2.c0 h3.c0 h1.fz h2.fz h3.fz h1.lt h2.lt h3.lt n1 n2 n3).mono ?_
 rintro ε u' w' ⟨rfl, rfl, rfl⟩
 have k1 := (((h1.set0 (.slice none 0 0)).low (p := ⟨q, 0, none⟩) n1.symm (.int .i64 e)).low (p := ⟨r, 0, none⟩) n2.symm (.int .i64 a)).alloc (.cells #[.int .i64 e, .int .i64 a] 155)
 have k2 := (((h2.low (p := ⟨p, 0, none⟩) n1 (.slice none 0 0)).set0 (.int .i64 e)).low (p := ⟨r, 0, none⟩) n3.symm (.int .i64 a)).alloc (.cells #[.int .i64 e, .int .i64 a] 155)
 have k3 := (((h3.low (p := ⟨p, 0, none⟩) n2 (.slice none 0 0)).low (p := ⟨q, 0, none⟩) n3 (.int .i64 e)).set0 (.int .i64 a)).alloc (.cells #[.int .i64 e, .int .i64 a] 155)
 refine ⟨.tuple #[.slice none 0 0, .int .i64 e, .int .i64 a], res3 k1.drew k2.drew k3.drew t1 t2 t3, ?_, none, 0, rfl, XsOwn.nil _ _ _ _⟩
 have hz := hb.size
 ((with_reducible (repeat (first | exact bR _ _ | apply bS | apply bA | apply bD | refine bT ?_ (by assumption) ?_ | refine bO (by assumption) ?_ ?_))) <;> (first | omega | (simp <;> omega)))
theorem ended {w W : World} {p q r : Nat} {A : Option Addr} {c : Nat} {tmps cap dargs : Array Value} {fv : Fn} {tX tK : TypeId} {R : List IV × Int × Nat} (h1 : C1 W p (.slice A R.1.length c)) (h2 : C1 W q (.int .i64 R.2.1)) (h3 : C1 W r (.int .i64 R.2.2)) (hb : Below w.heap.size w W) (ho : XsOwn W w.heap.size tX tK A c R.1)
  (t1 : tmps[2]? = some (.pointer (some ⟨p, 0, none⟩))) (t2 : tmps[3]? = some (.pointer (some ⟨q, 0, none⟩))) (t3 : tmps[4]? = some (.pointer (some ⟨r, 0, none⟩)))
  (hi : (invoke (.fn fv cap) dargs).run Tryz.prog W = .ok (.enter 91 #[.pointer (some ⟨p, 0, none⟩), .pointer (some ⟨q, 0, none⟩), .pointer (some ⟨r, 0, none⟩)]) W) :
  Leaves Tryz.prog Tryz.f39 tmps (ParseOut R tX tK w) [{ target := .fn fv cap, args := dargs }] .returning W := by
 refine leaves_cons (by simp) hi ?_
 refine (catch_idle ⟨p, 0, none⟩ ⟨q, 0, none⟩ ⟨r, 0, none⟩ W).mono ?_
 rintro ε u' w' ⟨rfl, rfl, rfl⟩
 exact ⟨_, res3 h1 h2 h3 t1 t2 t3, hb, A, c, rfl, ho⟩
theorem res_put (tmps : Array Value) (v : Value) (k : Nat) (h : k ≠ 2 ∧ k ≠ 3 ∧ k ≠ 4) : results Tryz.f39 tmps = results Tryz.f39 (tmps.setIfInBounds k v) := by
 simp only [results, Tryz.results39]
 simp [Array.getElem?_setIfInBounds, h.1, h.2.1, h.2.2]
set_option maxRecDepth 100000 in
set_option maxHeartbeats 4000000 in
theorem parse_any (s : ByteArray) (w : World) (hm : s.size ≤ maxLen) (ht : Tabs w) : Calls Tryz.prog 39 #[.string s] w (ParseOut (parseR s) 97 120 w) := by
 have hmf : ∀ (fn : Fn) (first cap : Array Value) (w : World), (Instr.makeFunc fn first cap).run Tryz.prog w = .ok (.func fn first cap) w := fun _ _ _ _ => rfl
 have HT := hQ0 ht
 have h3 := ht.three
 have K := fun W => words_any s W hm
 have hL := scanR_len s
 have hP : parseR s = if (scanR s).2.1 ≠ 0 then ([], (scanR s).2.1, (scanR s).2.2) else parseF s.size ((scanR s).1.length + 1) [] (scanR s).1 := rfl
 obtain ⟨⟨L, er, pl⟩, hR⟩ : ∃ R, R = scanR s := ⟨_, rfl⟩
 rw [← hR] at K hL hP
 simp only at K hL hP
 clear hR ht
 have a1 := ((C1.new w (.slice none 0 0) 92).alloc (.cells #[.int .i64 0] 39)).alloc (.cells #[.int .i64 0] 3)
 have a2 := (C1.at (w.alloc (.cells #[.slice none 0 0] 92)) (w.heap.size + 1) (.int .i64 0) 39 (by simp)).alloc (.cells #[.int .i64 0] 3)
 have a3 := C1.at ((w.alloc (.cells #[.slice none 0 0] 92)).alloc (.cells #[.int .i64 0] 39)) (w.heap.size + 1 + 1) (.int .i64 0) 3 (by simp)
 have hb0 := (((Below.refl w.heap.size w).alloc (Nat.le_refl _) (.cells #[.slice none 0 0] 92)).alloc (by simp) (.cells #[.int .i64 0] 39)).alloc (by simp; omega) (.cells #[.int .i64 0] 3)
 by_cases her : er = 0
 · subst her
   rw [if_neg (by simp)] at hP
   obtain ⟨R, hR⟩ : ∃ R, R = parseR s := ⟨_, rfl⟩
   rw [← hR] at hP ⊢
   have HR := hQ0 hP
   clear hP hR
   go_enter_defers Tryz.func39, Tryz.ntmps39
   go_wp2_with (go_at_call 90; refine (K _).mono ?_; rintro e w1 ⟨hb1, v1, rfl, ho1⟩; obtain ⟨A1, c1, rfl⟩ := own_sl ho1; have B1 := hQ0 (a1.below hb1 (by simp; omega)); have B2 := hQ0 (a2.below hb1 (by simp)); have B3 := hQ0 (a3.below hb1 (by simp)); obtain ⟨d0, dz, dl, _⟩ := B1.out; obtain ⟨e0, ez, el, _⟩ := B2.out; obtain ⟨f0, fz, fl, _⟩ := B3.out)
   have hbw : Below w.heap.size w w1 := hb0.trans (hb1.mono (by simp; omega))
   have n1 : w.heap.size ≠ w.heap.size + 1 := by omega
   have n2 : w.heap.size ≠ w.heap.size + 1 + 1 := by omega
   have n3 : w.heap.size + 1 ≠ w.heap.size + 1 + 1 := by omega
   have ho2 := ownr_low (ownr_low ho1 (p := ⟨w.heap.size + 1, 0, none⟩) (by simp) (.int .i64 0)) (p := ⟨w.heap.size + 1 + 1, 0, none⟩) (by simp) (.int .i64 pl)
   have hws := own_wvat ho2
   have hcap : L.length ≤ c1 := by
    rcases Nat.eq_zero_or_pos L.length with h | h
    · omega
    · obtain ⟨g, _, _, _, hc, _⟩ := own_cells ho2 h; exact hc
   have hrd := RdAt.new (t := 158) (e := s.size) hws (Nat.le_refl _) hcap rfl
   have k1 := ((B1.out.low (p := ⟨w.heap.size + 1, 0, none⟩) n1.symm (.int .i64 0)).low (p := ⟨w.heap.size + 1 + 1, 0, none⟩) n2.symm (.int .i64 pl)).alloc (.cells #[.slice A1 L.length c1, .int .i64 s.size] 158)
   have k2 := ((B2.out.set0 (.int .i64 0)).low (p := ⟨w.heap.size + 1 + 1, 0, none⟩) n3.symm (.int .i64 pl)).alloc (.cells #[.slice A1 L.length c1, .int .i64 s.size] 158)
   have k3 := ((B3.out.low (p := ⟨w.heap.size + 1, 0, none⟩) n3 (.int .i64 0)).set0 (.int .i64 pl)).alloc (.cells #[.slice A1 L.length c1, .int .i64 s.size] 158)
   have hz1 := hbw.size
   have hbl : Below w.heap.size w (((w1.setCell ⟨w.heap.size + 1, 0, none⟩ (.int .i64 0)).setCell ⟨w.heap.size + 1 + 1, 0, none⟩ (.int .i64 pl)).alloc (.cells #[.slice A1 L.length c1, .int .i64 s.size] 158)) := by
    ((with_reducible (repeat (first | exact bR _ _ | apply bS | apply bA | apply bD | refine bT ?_ (by assumption) ?_ | refine bO (by assumption) ?_ ?_))) <;> (first | omega | (simp <;> omega)))
   have HTl := hQ0 (HT.out.below hbl h3)
   obtain ⟨RB, hRB⟩ : ∃ RB, RB = w1.heap.size := ⟨_, rfl⟩
   simp only [size_setCell'] at hrd
   rw [← hRB] at hrd ⊢
   have hlt : w.heap.size + 3 ≤ RB := by omega
   clear B1 B2 B3 hRB hws ho2 ho1 hb1 hbw hz1 d0 dz dl e0 ez el f0 fz fl a1 a2 a3 hb0 hcap HT
   go_loopg [] (L.length + 1) (fun gk wr => ∃ (l : List WV) (A : Option Addr) (c : Nat) (acc : List IV) (B : Option Addr) (d f : Nat), l.length < gk ∧ l.length < f ∧ l.length ≤ 20000 ∧ acc.length ≤ 400 ∧ Below w.heap.size w wr ∧ C1 wr w.heap.size (.slice B acc.length d) ∧ C1 wr (w.heap.size + 1) (.int .i64 0) ∧ C1 wr (w.heap.size + 1 + 1) (.int .i64 pl) ∧ Hid (XsOwn wr (RB + 1) 97 120 B d acc) ∧ RdAt wr RB RB A l s.size c ∧ Hid (R = parseF s.size f acc l) ∧ Hid (Tabs wr))
   case atStart => exact ⟨L, A1, c1, [], none, 0, L.length + 1, by omega, by omega, hL, by simp, hbl, k1, k2, k3, hQ0 (XsOwn.nil _ _ _ _), hrd, HR, HTl⟩
   case round =>
    clear k1 k2 k3 hbl hrd HR HTl
    obtain ⟨l, A, c, acc, B, d, f, hlk, hlf, hll, hac, hbr, k1, k2, k3, HO, hr, HJ, HTr⟩ := hrel
    have hr0 := hr.lt
    obtain ⟨f, rfl⟩ : ∃ g, f = g + 1 := ⟨f - 1, by omega⟩
    have K1 := hQ0 k1
    have K2 := hQ0 k2
    have K3 := hQ0 k3
    have HRD := hQ0 hr
    obtain ⟨d0, dz, dl, _⟩ := k1
    obtain ⟨e0, ez, el, _⟩ := k2
    obtain ⟨f0, fz, fl, _⟩ := k3
    obtain ⟨r0, r1, rz, rl, rn, rc, rw'⟩ := hr
    clear rw'
    cases l with
    | nil =>
     simp only [List.length_nil] at r0
     obtain rfl : R = (acc, 0, 0) := HJ.out
     go_wp2_with fail
     simp only [bodyPostD]
     refine ended (R := (acc, 0, 0)) (((K1.out.set0 _).low (p := ⟨w.heap.size + 1, 0, none⟩) n1.symm _).low (p := ⟨w.heap.size + 1 + 1, 0, none⟩) n2.symm _) (((K2.out.low (p := ⟨w.heap.size, 0, none⟩) n1 _).set0 _).low (p := ⟨w.heap.size + 1 + 1, 0, none⟩) n3.symm _) (((K3.out.low (p := ⟨w.heap.size, 0, none⟩) n2 _).low (p := ⟨w.heap.size + 1, 0, none⟩) n3 _).set0 _) ?_ ((((HO.out.low (p := ⟨w.heap.size, 0, none⟩) (by show w.heap.size < _; omega) _).low (p := ⟨w.heap.size + 1, 0, none⟩) (by show w.heap.size + 1 < _; omega) _).low (p := ⟨w.heap.size + 1 + 1, 0, none⟩) (by show w.heap.size + 1 + 1 < _; omega) _).weaker (by omega)) rfl rfl rfl (by simp [go_sem])
     have hzr := hbr.size
     ((with_reducible (repeat (first | exact bR _ _ | apply bS | apply bA | apply bD | refine bT ?_ (by assumption) ?_ | refine bO (by assumption) ?_ ?_))) <;> (first | omega | (simp <;> omega)))
    | cons x l =>
     simp only [List.length_cons] at r0 hlk hlf hll
     have i1 : (0 : Int) < ((l.length + 1 : Nat) : Int) := by omega
     by_cases h4 : acc.length = 400
     · obtain rfl : R = ([], 9, x.at_) := by rw [HJ.out]; simp only [parseF]; rw [if_pos h4]
       go_wp2_with (go_at_call 92; refine (rdat_any _ _ _ _ _ _ _ HRD.out).mono ?_; rintro e w3 ⟨rfl, rfl⟩)
       simp only [bodyPostD]
       exact caught K1.out K2.out K3.out n1 n2 n3 (Nat.le_refl _) (by omega) (by omega) hbr rfl rfl rfl (by simp [go_sem])
     · have h4' : ¬ (acc.length : Int) = 400 := by omega
       cases hI : itemF s.size (x :: l) with
       | err a b =>
        obtain rfl : R = ([], a, b) := by rw [HJ.out]; simp only [parseF]; rw [if_neg h4, hI]
        go_wp2_with fail
        have hS0 : C1 wr.drew w.heap.size (.slice B acc.length d) := K1.out.drew
        refine wp_region_Z (fun W => C1 W w.heap.size (.slice B acc.length d)) 4 [4, 5] (by kernel_rfl) (by kernel_rfl) ?_
        refine wpZ_step (i := 0) rfl (by kernel_rfl) rfl (.slice B acc.length d) (fun c a w h => leaves_put (res_put _ _ 36 (by decide)) h) (by assumption) (fun W hW => by obtain ⟨s0, sz, sl, _⟩ := hW; go_simp) (fun K hK => ?_); go_simp; refine hK _ _ ?_; clear hK K
        refine wpZ_step (i := 1) rfl (by kernel_rfl) rfl (.pointer (some ⟨RB, 0, none⟩)) (fun c a w h => leaves_put (res_put _ _ 37 (by decide)) h) (by assumption) (fun W hW => by obtain ⟨s0, sz, sl, _⟩ := hW; go_simp) (fun K hK => ?_); go_simp; refine hK _ _ ?_; clear hK K
        refine wpZ_one (i := 2) rfl (by kernel_rfl) rfl (fun K hK => ?_)
        go_simp
        (go_at_call 93; refine (item_any _ _ _ _ _ _ _ HRD.out.drew (HTr.out.below ((Below.refl wr.heap.size wr).drew) (by omega)) (by omega) (by simp only [List.length_cons]; omega)).mono ?_; rintro e w6 ⟨hb6, hq⟩; rw [hI] at hq; obtain rfl := hq)
        exact caught (K1.out.but hb6.of_drew (by omega)) (K2.out.but hb6.of_drew (by omega)) (K3.out.but hb6.of_drew (by omega)) n1 n2 n3 (Nat.le_refl _) (by omega) (by omega) (hbr.trans (hb6.of_drew.toBelow (by omega) hbr.size)) rfl rfl rfl (by simp [go_sem])
       | ok y l' =>
        have HJ2 : Hid (R = parseF s.size f (acc ++ [y]) l') := hQ0 (by rw [HJ.out]; simp only [parseF]; rw [if_neg h4, hI])
        have hlen := itemF_len hI
        simp only [List.length_cons] at hlen
        go_wp2_with fail
        have hS0 : C1 wr.drew w.heap.size (.slice B acc.length d) := K1.out.drew
        refine wp_region_Z (fun W => C1 W w.heap.size (.slice B acc.length d)) 4 [4, 5] (by kernel_rfl) (by kernel_rfl) ?_
        refine wpZ_step (i := 0) rfl (by kernel_rfl) rfl (.slice B acc.length d) (fun c a w h => leaves_put (res_put _ _ 36 (by decide)) h) (by assumption) (fun W hW => by obtain ⟨s0, sz, sl, _⟩ := hW; go_simp) (fun K hK => ?_); go_simp; refine hK _ _ ?_; clear hK K
        refine wpZ_step (i := 1) rfl (by kernel_rfl) rfl (.pointer (some ⟨RB, 0, none⟩)) (fun c a w h => leaves_put (res_put _ _ 37 (by decide)) h) (by assumption) (fun W hW => by obtain ⟨s0, sz, sl, _⟩ := hW; go_simp) (fun K hK => ?_); go_simp; refine hK _ _ ?_; clear hK K
        refine wpZ_one (i := 2) rfl (by kernel_rfl) rfl (fun K hK => ?_)
        go_simp
        (go_at_call 93; refine (item_any _ _ _ _ _ _ _ HRD.out.drew (HTr.out.below ((Below.refl wr.heap.size wr).drew) (by omega)) (by omega) (by simp only [List.length_cons]; omega)).mono ?_; rintro e w6 ⟨hb6, hq⟩; rw [hI] at hq; obtain ⟨B', d', A6, c6, rfl, ho6, h6⟩ := hq; simp only [vOfX])
        replace hb6 := hb6.of_drew
        have g1 := K1.out.but hb6 (by omega)
        have g2 := K2.out.but hb6 (by omega)
        have g3 := K3.out.but hb6 (by omega)
        have HT6 := hQ0 (HTr.out.but hb6 (by omega))
        have hO6 := HO.out.but hb6 (by omega)
        have hz6 := hb6.size
        have ho6' := ho6.weaker (base' := RB + 1) (by show RB + 1 ≤ wr.heap.size; omega)
        have hbl6 := hbr.trans (hb6.toBelow (B := w.heap.size) (by omega) hbr.size)
        refine ⟨g1, hK _ _ ?_⟩
        clear hK K hS0 ho6
        refine wpZ_one (i := 3) rfl (by kernel_rfl) rfl (fun K hK => ?_)
        go_simp
        refine ⟨g1.alloc _, hK _ _ ?_⟩
        clear hK K
        refine wpZ_nil (by kernel_rfl) ?_
        simp only [List.filterMap_cons, List.filterMap_nil, List.getElem?_cons_succ, List.getElem?_cons_zero]
        have hbe := (Below.refl w6.heap.size w6).alloc (Nat.le_refl _) (.cells #[.string y.word, .string y.name, .slice B' y.keys.length d', .int .i64 y.at_] 97)
        obtain ⟨xs, hxs, hmore⟩ := (hO6.below hbe (Nat.le_refl _)).more (by decide) (by decide)
        have hfr := own_fresh hxs
        refine wpList_append_one rfl _ _ 92 97 _ 4 64 rfl Tryz.underlying92 itemInfo rfl (by decide) (by decide) (RB + 1) (.slice B acc.length d) acc.length xs (cellsOfX y B' d') rfl hxs w6.heap.size 1 rfl rfl (C4.new w6 _ _ _ _ _).cells (by simp [cellsOfX, Value.oneCell']) (by omega) (by simp; omega) ?_
        intro v7 w7 ho7 hg7 _
        obtain ⟨B7, d7, rfl, hx7⟩ := hmore y B' d' v7 w7 (ho6'.below hbe (Nat.le_refl _)) ho7 hg7
        have q1 := (g1.alloc (.cells #[.string y.word, .string y.name, .slice B' y.keys.length d', .int .i64 y.at_] 97)).grown hg7 hfr (by omega)
        have q2 := (g2.alloc (.cells #[.string y.word, .string y.name, .slice B' y.keys.length d', .int .i64 y.at_] 97)).grown hg7 hfr (by omega)
        have q3 := (g3.alloc (.cells #[.string y.word, .string y.name, .slice B' y.keys.length d', .int .i64 y.at_] 97)).grown hg7 hfr (by omega)
        have h7 := (h6.alloc (.cells #[.string y.word, .string y.name, .slice B' y.keys.length d', .int .i64 y.at_] 97)).grown hg7 (fun k hk => by have := hfr k hk; omega)
        have hb7 := (hbl6.alloc hbl6.size (.cells #[.string y.word, .string y.name, .slice B' y.keys.length d', .int .i64 y.at_] 97)).grown hg7 (by have := hbl6.size; simp; omega) (fun k hk => by have := hfr k hk; omega)
        have HT7 := hQ0 ((HT6.out.alloc (.cells #[.string y.word, .string y.name, .slice B' y.keys.length d', .int .i64 y.at_] 97)).grown hg7 (fun k hk => by have := hfr k hk; omega))
        have HX7 := hQ0 hx7
        have Q1 := hQ0 q1
        obtain ⟨s0, sz, sl, _⟩ := q1
        clear hxs hmore hfr hbe g1 g2 g3 hO6 ho6' ho7 hg7 hx7
        go_simp
        go_wp2_with fail
        go_roundg (l.length + 1)
        case measure => omega
        case rel => exact ⟨l', A6, c6, acc ++ [y], B7, d7, f, by omega, by omega, by omega, by simp only [List.length_append, List.length_cons, List.length_nil]; omega, by have hz7 := hb7.size; ((with_reducible (repeat (first | exact bR _ _ | apply bS | apply bA | apply bD | refine bT ?_ (by assumption) ?_ | refine bO (by assumption) ?_ ?_))) <;> (first | omega | (simp <;> omega))), by simpa using Q1.out.set0 _, q2.low (by show w.heap.size ≠ _; omega) _, q3.low (by show w.heap.size ≠ _; omega) _, hQ0 (HX7.out.low (by show w.heap.size < _; omega) _), h7.set_one Q1.out (by omega) _, HJ2, hQ0 (HT7.out.set (by show 3 ≤ w.heap.size; omega) _)⟩
 · rw [if_pos her] at hP
   rw [hP]
   clear hP
   go_enter_defers Tryz.func39, Tryz.ntmps39
   go_wp2_with (go_at_call 90; refine (K _).mono ?_; rintro e w1 ⟨hb1, v1, rfl, ho1⟩; have B1 := hQ0 (a1.below hb1 (by simp; omega)); have B2 := hQ0 (a2.below hb1 (by simp)); have B3 := hQ0 (a3.below hb1 (by simp)); obtain ⟨d0, dz, dl, _⟩ := B1.out; obtain ⟨e0, ez, el, _⟩ := B2.out; obtain ⟨f0, fz, fl, _⟩ := B3.out)
   go_region
   have hbw : Below w.heap.size w w1 := hb0.trans (hb1.mono (by simp; omega))
   go_wp2_with fail
   have n1 : w.heap.size ≠ w.heap.size + 1 := by omega
   have n2 : w.heap.size ≠ w.heap.size + 1 + 1 := by omega
   have n3 : w.heap.size + 1 ≠ w.heap.size + 1 + 1 := by omega
   have k1 := ((((B1.out.low (p := ⟨w.heap.size + 1, 0, none⟩) n1.symm (.int .i64 er)).low (p := ⟨w.heap.size + 1 + 1, 0, none⟩) n2.symm (.int .i64 pl)).set0 (.slice none 0 0)).low (p := ⟨w.heap.size + 1, 0, none⟩) n1.symm (.int .i64 er)).low (p := ⟨w.heap.size + 1 + 1, 0, none⟩) n2.symm (.int .i64 pl)
   have k2 := ((((B2.out.set0 (.int .i64 er)).low (p := ⟨w.heap.size + 1 + 1, 0, none⟩) n3.symm (.int .i64 pl)).low (p := ⟨w.heap.size, 0, none⟩) n1 (.slice none 0 0)).set0 (.int .i64 er)).low (p := ⟨w.heap.size + 1 + 1, 0, none⟩) n3.symm (.int .i64 pl)
   have k3 := ((((B3.out.low (p := ⟨w.heap.size + 1, 0, none⟩) n3 (.int .i64 er)).set0 (.int .i64 pl)).low (p := ⟨w.heap.size, 0, none⟩) n2 (.slice none 0 0)).low (p := ⟨w.heap.size + 1, 0, none⟩) n3 (.int .i64 er)).set0 (.int .i64 pl)
   simp only [bodyPostD, Leaves]
   refine ⟨.tuple #[.slice none 0 0, .int .i64 er, .int .i64 pl], res3 k1.drew k2.drew k3.drew rfl rfl rfl, ?_, none, 0, rfl, XsOwn.nil _ _ _ _⟩
   ((with_reducible (repeat (first | exact bR _ _ | apply bS | apply bA | apply bD | refine bT ?_ (by assumption) ?_ | refine bO (by assumption) ?_ ?_))) <;> (first | omega | (simp <;> omega)))
theorem bInfo : (Tryz.prog.info? 191).map (·.size) = some 2 := by kernel_rfl
theorem bLies : liesAt Tryz.prog Tryz.prog.depth 191 (2 / Tryz.prog.cellsOf 191) 0 191 1 = true := by kernel_rfl
theorem byteInfo : (Tryz.prog.info? 5).map (fun i => (i.zero, i.size, i.bytes)) = some (some (.int .u8 0), 1, 1) := by kernel_rfl
set_option maxHeartbeats 1000000 in
set_option maxRecDepth 100000 in
theorem cc_used (b : Nat) (w : World) (h0 : w.cell? ⟨b, 0, none⟩ = some (.pointer (some ⟨b, 0, none⟩))) :
  Calls Tryz.prog 165 #[.pointer (some ⟨b, 0, none⟩)] w fun e w' => e = .returned (.tuple #[]) ∧ w' = w := by
 obtain ⟨j, hj, hjs⟩ := Option.map_eq_some_iff.1 bInfo
 go_enter Tryz.func165, Tryz.ntmps165; (try simp only [List.append_eq, List.cons_append, List.nil_append])
 go_wp2
 rw [Lib.run_neq_ptr_same w _ Tryz.underlying189 hj]
 go_wp2
 go_end0
 exact ⟨rfl, rfl⟩
set_option maxHeartbeats 1000000 in
set_option maxRecDepth 100000 in
theorem cc_fresh (b : Nat) (w : World) (h0 : w.cell? ⟨b, 0, none⟩ = some (.pointer none)) (hsh : w.shape? b = some (191, 2)) (hfz : w.frozen? ⟨b, 0, none⟩ = false) :
  Calls Tryz.prog 165 #[.pointer (some ⟨b, 0, none⟩)] w fun e w' => e = .returned (.tuple #[]) ∧ w' = w.setCell ⟨b, 0, none⟩ (.pointer (some ⟨b, 0, none⟩)) := by
 obtain ⟨j, hj, hjs⟩ := Option.map_eq_some_iff.1 bInfo
 go_enter Tryz.func165, Tryz.ntmps165; (try simp only [List.append_eq, List.cons_append, List.nil_append])
 go_wp2
 rw [Lib.run_to_unsafe w ⟨b, 0, none⟩ Tryz.underlying189 Tryz.underlying275 hj (by rw [hjs]; decide) hsh (Nat.zero_lt_succ 1)]
 simp only [Result.andThen]
 rw [Oper.upon_value]
 go_wp2
 rw [run_callFunc_extern Tryz.func187 (by kernel_rfl) (by kernel_rfl) (by kernel_rfl) (e := Extern.AbiNoEscape.same) (by kernel_rfl)]
 rw [Lib.run_noEscape]
 simp only [Result.andThen]
 rw [Oper.upon_value]
 go_wp2
 rw [Lib.run_from_unsafe w ⟨b, 0, none⟩ Tryz.underlying275 Tryz.underlying189 hj hsh bLies]
 simp only [Result.andThen]
 rw [Oper.upon_value]
 go_wp2
 go_end0
 exact ⟨rfl, rfl⟩
def Kept (b : Nat) (w w' : World) : Prop := ∀ (k : Nat) (cs : Array Value) (t : TypeId) (f : Nat × Nat), k ≠ b → t ≠ 5 → w.heap[k]? = some (.cells cs t f) → w'.heap[k]? = some (.cells cs t f)
theorem Kept.refl (b : Nat) (w : World) : Kept b w w := fun _ _ _ _ _ _ h => h
theorem Kept.trans {b : Nat} {x y z : World} (h : Kept b x y) (g : Kept b y z) : Kept b x z := fun k cs t f h1 h2 h3 => g k cs t f h1 h2 (h k cs t f h1 h2 h3)
theorem Kept.set (b : Nat) (w : World) (o : Nat) (u : Value) : Kept b w (w.setCell ⟨b, o, none⟩ u) := fun k cs t f h1 _ h3 => by
 rw [Below.heap_setCell _ _ _ _ (by show k ≠ b; exact h1)]; exact h3
theorem Kept.grown {b base n : Nat} {w w' : World} {v : Value} {xs : List Value} (h : w.ownsRow base 5 1 v n xs) (hg : w.grownBy w' v.ownBlock) : Kept b w w' := fun k cs t f h1 h2 h3 => by
 rw [hg.block k (Array.getElem?_eq_some_iff.1 h3).1 ?_]
 · exact h3
 · intro e
   rcases h.2 with ⟨rfl, _⟩ | ⟨g, cap, cur, rfl, _, hh, _⟩
   · simp [Value.ownBlock] at e
   · simp only [Value.ownBlock, Option.some.injEq] at e
     subst e
     rw [hh] at h3
     simp only [Option.some.injEq, Obj.cells.injEq] at h3
     exact h2 h3.2.1.symm
theorem copycheck_any (B b : Nat) (bs : List Value) (w : World) (h : Lib.IsBuilder 191 5 B b bs w) :
  Calls Tryz.prog 165 #[.pointer (some ⟨b, 0, none⟩)] w fun e w' => e = .returned (.tuple #[]) ∧ Lib.BuilderAt 191 5 B b (.pointer (some ⟨b, 0, none⟩)) bs w' ∧ Below B w w' ∧ Kept b w w' := by
 rcases h with h | h
 · refine (cc_fresh b w h.cell0 h.shape h.frozen0).mono ?_
   rintro e w' ⟨rfl, rfl⟩
   exact ⟨rfl, h.used _, (Below.refl B w).setCell (p := ⟨b, 0, none⟩) h.1 _, Kept.set _ _ _ _⟩
 · refine (cc_used b w h.cell0).mono ?_
   rintro e w' ⟨rfl, rfl⟩
   exact ⟨rfl, h, Below.refl B _, Kept.refl _ _⟩
set_option maxHeartbeats 1000000 in
set_option maxRecDepth 100000 in
theorem writes_any (B b : Nat) (bs : List Value) (s : ByteArray) (w : World) (h : Lib.IsBuilder 191 5 B b bs w) (hlen : bs.length + s.size ≤ 140737488355328) (hBw : B ≤ w.heap.size) :
  Calls Tryz.prog 114 #[.pointer (some ⟨b, 0, none⟩), .string s] w fun e w' => e = .returned (.tuple #[.int .i64 s.size, .nilIface]) ∧ Lib.IsBuilder 191 5 B b (bs ++ Lib.strCells s) w' ∧ Below B w w' ∧ Kept b w w' := by
 obtain ⟨i0, hi, hz0, hz1, hz2⟩ := info_parts byteInfo
 go_enter Tryz.func114, Tryz.ntmps114; (try simp only [List.append_eq, List.cons_append, List.nil_append])
 go_wp2_with (first | (go_at_call 165; refine (copycheck_any B b bs _ h).mono ?_; rintro e w1 ⟨rfl, h1, hb1, hk1⟩; obtain ⟨hB, v, hbk, hown, hne⟩ := h1; have c0 : w1.cell? ⟨b, 0, none⟩ = some (.pointer (some ⟨b, 0, none⟩)) := (by rw [Lib.cell_of_heap hbk]; rfl); have c1 : w1.cell? ⟨b, 1, none⟩ = some v := (by rw [Lib.cell_of_heap hbk]; rfl)) | (at_builtin; go_must (refine Lib.wpList_append_own_string _ rfl _ _ 51 9 rfl B 5 i0 Tryz.underlying51 Tryz.underlying9 hi hz0 hz1 hz2 _ _ _ rfl hown s rfl (by unfold maxLen; omega) (by omega) (by have := hb1.size; omega) ?_)))
 intro v' w2 hown' hgrow _
 have hlt : b < w1.heap.size := (Array.getElem?_eq_some_iff.1 hbk).1
 have hb2 : w2.heap[b]? = some (.cells #[.pointer (some ⟨b, 0, none⟩), v] 191 (0, 0)) := by
  rw [hgrow.block b hlt (fun e => hne e.symm)]
  exact hbk
 have d0 : w2.cell? ⟨b, 0, none⟩ = some (.pointer (some ⟨b, 0, none⟩)) := by rw [Lib.cell_of_heap hb2]; rfl
 have d1 : w2.cell? ⟨b, 1, none⟩ = some v := by rw [Lib.cell_of_heap hb2]; rfl
 have f1 : w2.frozen? ⟨b, 1, none⟩ = false := Lib.frozen_of_heap hb2 1
 obtain ⟨ao, cap, rfl⟩ := own_sl hown'
 go_wp2
 go_ret2
 refine ⟨rfl, .inr ?_, ?_, (hk1.trans (Kept.grown hown hgrow)).trans (Kept.set _ _ _ _)⟩
 · exact Lib.BuilderAt.put (T := 191) (e := 5) hB hb2 (bs' := bs ++ Lib.strCells s) (by simpa [Lib.strCells_length] using hown') (by decide)
 · exact (hb1.grown hgrow (by have := hb1.size; omega) (fun k hk => (hown.lt k hk).1)).setCell (p := ⟨b, 1, none⟩) hB _
def eqL {α : Type} (f : α → α → Bool) : List α → List α → Bool
  | [], [] => true
  | x :: l, y :: m => f x y && eqL f l m
  | _, _ => false
def eqK (x y : KV) : Bool := decide (x.key = y.key) && decide (x.vals = y.vals)
def eqX (x y : IV) : Bool := decide (x.word = y.word) && decide (x.name = y.name) && eqL eqK x.keys y.keys
theorem eqL_len {α : Type} {f : α → α → Bool} : ∀ {l m : List α}, l.length ≠ m.length → eqL f l m = false
 | [], [], h => absurd rfl h
 | [], _ :: _, _ => rfl
 | _ :: _, [], _ => rfl
 | x :: l, y :: m, h => by
  unfold eqL
  rw [eqL_len (fun e => h (by simp [e])), Bool.and_false]
theorem eqL_drop {α : Type} {f : α → α → Bool} {l m : List α} {k : Nat} {x y : α} (hx : l[k]? = some x) (hy : m[k]? = some y) : eqL f (l.drop k) (m.drop k) = (f x y && eqL f (l.drop (k + 1)) (m.drop (k + 1))) := by
 obtain ⟨h1, rfl⟩ := List.getElem?_eq_some_iff.1 hx
 obtain ⟨h2, rfl⟩ := List.getElem?_eq_some_iff.1 hy
 rw [List.drop_eq_getElem_cons h1, List.drop_eq_getElem_cons h2]
 rfl
theorem eqL_end {α : Type} {f : α → α → Bool} {l m : List α} {k : Nat} (h1 : l.length ≤ k) (h2 : m.length ≤ k) : eqL f (l.drop k) (m.drop k) = true := by
 rw [List.drop_eq_nil_of_le h1, List.drop_eq_nil_of_le h2]
 rfl
theorem below_drewN (B : Nat) : ∀ (q : Nat) (w : World), Below B w (w.drewN q)
 | 0, w => Below.refl B w
 | q + 1, w => by first | exact ((Below.refl B w).drew).trans (below_drewN B q w.drew) | exact (below_drewN B q w).drew
theorem isl_any (l m : List Int) (A B : Option Addr) (c d : Nat) (w : World) (hA : IAt w A l) (hB : IAt w B m) (h1 : l.length ≤ 1000000) (h2 : m.length ≤ 1000000) :
  Calls Tryz.prog 45 #[.slice A l.length c, .slice B m.length d] w fun e w' => e = .returned (.bool (decide (l = m))) ∧ Below w.heap.size w w' := by
 by_cases hlm : l.length = m.length
 · cases l with
   | nil =>
    refine (Tryz.slices_Equal_int_empty A B c m.length d w (by omega)).mono ?_
    rintro e w' ⟨rfl, rfl⟩
    refine ⟨?_, Below.refl _ _⟩
    have : m = [] := List.length_eq_zero_iff.1 hlm.symm
    subst this
    rfl
   | cons x l =>
    cases m with
    | nil => simp at hlm
    | cons y m =>
     obtain ⟨g, o, rfl, _, _⟩ := hA 0 x rfl
     obtain ⟨g', o', rfl, _, _⟩ := hB 0 y rfl
     have get : ∀ (g o : Nat) (l : List Int), IAt w (some ⟨g, o, none⟩) l → ∀ j, j < l.length → w.cell? ⟨g, o + j, none⟩ = some (.int .i64 (l.getD j 0)) := by
      intro g o l h j hj
      obtain ⟨x, hx⟩ : ∃ x, l[j]? = some x := ⟨l[j], by simp⟩
      obtain ⟨g', o', hA', _, h1⟩ := h j x hx
      have e := Option.some.inj hA'
      simp only [Addr.mk.injEq, and_true] at e
      obtain ⟨rfl, rfl⟩ := e
      rw [h1, List.getD_eq_getElem?_getD, hx]; rfl
     refine (Tryz.slices_Equal_int g o (x :: l).length c g' o' (y :: m).length d (x :: l) (y :: m) w (Nat.le_refl _) (Nat.le_refl _) (by omega) (by omega) (get _ _ _ hA) (get _ _ _ hB)).mono ?_
     rintro e w' ⟨rfl, q, rfl⟩
     refine ⟨?_, below_drewN _ _ _⟩
     rw [List.take_length, List.take_length]
     have hbd : ((x :: l) == (y :: m)) = decide (x :: l = y :: m) := by rw [Bool.eq_iff_iff]; simp
     rw [hbd]
 · refine (Tryz.slices_Equal_int_lens A B l.length c m.length d w hlm).mono ?_
   rintro e w' ⟨rfl, rfl⟩
   refine ⟨?_, Below.refl _ _⟩
   have : ¬ l = m := fun e => hlm (by rw [e])
   simp [this]
set_option maxRecDepth 100000 in
set_option maxHeartbeats 1000000 in
theorem samek_any (x y : KV) (A B : Option Addr) (c d : Nat) (w : World) (hA : IAt w A x.vals) (hB : IAt w B y.vals) (h1 : x.vals.length ≤ 1000000) (h2 : y.vals.length ≤ 1000000) :
  Calls Tryz.prog 168 #[vOfK x A c, vOfK y B d] w fun e w' => e = .returned (.bool (eqK x y)) ∧ Below w.heap.size w w' := by
 unfold vOfK
 by_cases he : x.key = y.key
 · have b1 : (x.key.toList == y.key.toList) = true := by rw [he]; exact beq_self_eq_true _
   have hE : eqK x y = decide (x.vals = y.vals) := by unfold eqK; rw [decide_eq_true he, Bool.true_and]
   rw [hE]
   have K := fun (W : World) (hb : Below w.heap.size w W) => isl_any x.vals y.vals A B c d W (hA.below hb (Nat.le_refl _)) (hB.below hb (Nat.le_refl _)) h1 h2
   clear he hE hA hB
   go_enter Tryz.func168, Tryz.ntmps168; (try simp only [List.append_eq, List.cons_append, List.nil_append])
   go_wp2_with (go_at_call 45; refine (K _ (by ((with_reducible (repeat (first | exact bR _ _ | apply bS | apply bA | apply bD | refine bT ?_ (by assumption) ?_ | refine bO (by assumption) ?_ ?_))) <;> (first | omega | (simp <;> omega))))).mono ?_; rintro e w1 ⟨rfl, hb_w1⟩)
   go_ret
   have hz := hb_w1.size
   refine ⟨rfl, ?_⟩
   ((with_reducible (repeat (first | exact bR _ _ | apply bS | apply bA | apply bD | refine bT ?_ (by assumption) ?_ | refine bO (by assumption) ?_ ?_))) <;> (first | omega | (simp <;> omega)))
 · have b1 : (x.key.toList == y.key.toList) = false := txt_neT he
   have hE : eqK x y = false := by unfold eqK; rw [decide_eq_false he, Bool.false_and]
   rw [hE]
   clear he hE
   go_enter Tryz.func168, Tryz.ntmps168; (try simp only [List.append_eq, List.cons_append, List.nil_append])
   go_wp2_with fail
   go_ret
   refine ⟨rfl, ?_⟩
   ((with_reducible (repeat (first | exact bR _ _ | apply bS | apply bA | apply bD | refine bT ?_ (by assumption) ?_ | refine bO (by assumption) ?_ ?_))) <;> (first | omega | (simp <;> omega)))
set_option maxRecDepth 100000 in
set_option maxHeartbeats 2000000 in
theorem eqfk_any (l m : List KV) (A B : Option Addr) (c d : Nat) (w : World) (hA : KsAt w A l) (hB : KsAt w B m) (h1 : l.length ≤ 1000000) (h2 : m.length ≤ 1000000) (v1 : ∀ k ∈ l, k.vals.length ≤ 1000000) (v2 : ∀ k ∈ m, k.vals.length ≤ 1000000) :
  Calls Tryz.prog 167 #[.slice A l.length c, .slice B m.length d, .func (.func 168) #[] #[]] w fun e w' => e = .returned (.bool (eqL eqK l m)) ∧ Below w.heap.size w w' := by
 by_cases hlm : l.length = m.length
 · obtain ⟨R, hR⟩ : ∃ R, R = eqL eqK l m := ⟨_, rfl⟩
   rw [← hR]
   have HR : Hid (eqL eqK (l.drop 0) (m.drop 0) = R) := hQ0 (by rw [hR]; rfl)
   have HA := hQ0 hA
   have HB := hQ0 hB
   have V1 := hQ0 v1
   have V2 := hQ0 v2
   have HLM := hQ0 hlm
   rw [← hlm]
   clear hR hA hB v1 v2 hlm
   go_enter Tryz.func167, Tryz.ntmps167; (try simp only [List.append_eq, List.cons_append, List.nil_append])
   go_wp2_with fail
   go_loopw [17] (fun t wr => ∃ k : Nat, k ≤ l.length ∧ t = .int .i64 k ∧ Below w.heap.size w wr ∧ Hid (eqL eqK (l.drop k) (m.drop k) = R)) (fun t _ => l.length - (intOf t).toNat)
   case atStart => exact ⟨0, by omega, rfl, Below.refl _ _, HR⟩
   case round =>
    obtain ⟨k, hk, rfl, hb_wr, HJ⟩ := hrel
    have hz_wr := hb_wr.size
    by_cases hlt : k < l.length
    · obtain ⟨x, hx⟩ : ∃ x, l[k]? = some x := ⟨l[k], by simp⟩
      obtain ⟨y, hy⟩ : ∃ y, m[k]? = some y := ⟨m[k]'(by have := HLM.out; omega), by simp⟩
      obtain ⟨g, o, C, q, rfl, hg, ⟨c0, c1, c2⟩, hI⟩ := (HA.out.below hb_wr (Nat.le_refl _)) k x hx
      obtain ⟨g', o', C', q', rfl, hg', ⟨d0, d1, d2⟩, hI'⟩ := (HB.out.below hb_wr (Nat.le_refl _)) k y hy
      have hst := eqL_drop (f := eqK) hx hy
      have i1 : (k : Int) < (l.length : Int) := by omega
      have HI := hQ0 hI
      have HI' := hQ0 hI'
      have HBe := hQ0 hb_wr
      have KK := fun (W : World) (hb : Below wr.heap.size wr W) => samek_any x y C C' q q' W (HI.out.below hb (Nat.le_refl _)) (HI'.out.below hb (Nat.le_refl _)) (V1.out x (List.mem_of_getElem? hx)) (V2.out y (List.mem_of_getElem? hy))
      clear hI hI' hb_wr
      cases hxy : eqK x y
      · obtain rfl : R = false := by rw [← HJ.out, hst, hxy]; rfl
        clear hst HJ HR
        go_wp2_with (go_at_call 168; refine (KK _ (by ((with_reducible (repeat (first | exact bR _ _ | apply bS | apply bA | apply bD | refine bT ?_ (by assumption) ?_ | refine bO (by assumption) ?_ ?_))) <;> (first | omega | (simp <;> omega))))).mono ?_; rintro e w2 ⟨rfl, hb_w2⟩; rw [hxy])
        go_ret
        have hz2 := hb_w2.size
        simp at hz2
        exact ⟨rfl, ((HBe.out.alloc hz_wr _).alloc (by simp; omega) _).trans (hb_w2.mono (by simp; omega))⟩
      · have hnx : Hid (eqL eqK (l.drop (k + 1)) (m.drop (k + 1)) = R) := hQ0 (by rw [← HJ.out, hst, hxy, Bool.true_and])
        clear hst HJ HR
        go_wp2_with (go_at_call 168; refine (KK _ (by ((with_reducible (repeat (first | exact bR _ _ | apply bS | apply bA | apply bD | refine bT ?_ (by assumption) ?_ | refine bO (by assumption) ?_ ?_))) <;> (first | omega | (simp <;> omega))))).mono ?_; rintro e w2 ⟨rfl, hb_w2⟩; rw [hxy])
        have hz2 := hb_w2.size
        simp at hz2
        go_roundw
        case rel => exact ⟨k + 1, by omega, by go_num, ((HBe.out.alloc hz_wr _).alloc (by simp; omega) _).trans (hb_w2.mono (by simp; omega)), hnx⟩
        case measure => simp [intOf]; omega
    · obtain rfl : k = l.length := by omega
      obtain rfl : R = true := by rw [← HJ.out]; exact eqL_end (Nat.le_refl _) (by have := HLM.out; omega)
      go_wp2_with fail
      go_ret
      exact ⟨rfl, hb_wr⟩
 · rw [eqL_len hlm]
   have i0 : ¬ (l.length : Int) = (m.length : Int) := by omega
   go_enter Tryz.func167, Tryz.ntmps167; (try simp only [List.append_eq, List.cons_append, List.nil_append])
   go_wp2_with fail
   go_ret
   exact ⟨rfl, Below.refl _ _⟩
def okX (x : IV) : Prop := x.keys.length ≤ 1000000 ∧ ∀ k ∈ x.keys, k.vals.length ≤ 1000000
set_option maxRecDepth 100000 in
set_option maxHeartbeats 1000000 in
theorem samex_any (x y : IV) (A B : Option Addr) (c d : Nat) (w : World) (hA : KsAt w A x.keys) (hB : KsAt w B y.keys) (h1 : okX x) (h2 : okX y) :
  Calls Tryz.prog 118 #[vOfX x A c, vOfX y B d] w fun e w' => e = .returned (.bool (eqX x y)) ∧ Below w.heap.size w w' := by
 unfold vOfX
 by_cases he : x.word = y.word
 · have b1 : (x.word.toList == y.word.toList) = true := by rw [he]; exact beq_self_eq_true _
   by_cases hn : x.name = y.name
   · have b2 : (x.name.toList == y.name.toList) = true := by rw [hn]; exact beq_self_eq_true _
     have hE : eqX x y = eqL eqK x.keys y.keys := by unfold eqX; rw [decide_eq_true he, decide_eq_true hn, Bool.true_and, Bool.true_and]
     rw [hE]
     have K := fun (W : World) (hb : Below w.heap.size w W) => eqfk_any x.keys y.keys A B c d W (hA.below hb (Nat.le_refl _)) (hB.below hb (Nat.le_refl _)) h1.1 h2.1 h1.2 h2.2
     clear he hn hE hA hB
     go_enter Tryz.func118, Tryz.ntmps118; (try simp only [List.append_eq, List.cons_append, List.nil_append])
     go_wp2_with (go_at_call 167; refine (K _ (by ((with_reducible (repeat (first | exact bR _ _ | apply bS | apply bA | apply bD | refine bT ?_ (by assumption) ?_ | refine bO (by assumption) ?_ ?_))) <;> (first | omega | (simp <;> omega))))).mono ?_; rintro e w1 ⟨rfl, hb_w1⟩)
     go_ret
     have hz := hb_w1.size
     refine ⟨rfl, ?_⟩
     ((with_reducible (repeat (first | exact bR _ _ | apply bS | apply bA | apply bD | refine bT ?_ (by assumption) ?_ | refine bO (by assumption) ?_ ?_))) <;> (first | omega | (simp <;> omega)))
   · have b2 : (x.name.toList == y.name.toList) = false := txt_neT hn
     have hE : eqX x y = false := by unfold eqX; rw [decide_eq_true he, decide_eq_false hn]; rfl
     rw [hE]
     clear he hn hE
     go_enter Tryz.func118, Tryz.ntmps118; (try simp only [List.append_eq, List.cons_append, List.nil_append])
     go_wp2_with fail
     go_ret
     refine ⟨rfl, ?_⟩
     ((with_reducible (repeat (first | exact bR _ _ | apply bS | apply bA | apply bD | refine bT ?_ (by assumption) ?_ | refine bO (by assumption) ?_ ?_))) <;> (first | omega | (simp <;> omega)))
 · have b1 : (x.word.toList == y.word.toList) = false := txt_neT he
   have hE : eqX x y = false := by unfold eqX; rw [decide_eq_false he]; rfl
   rw [hE]
   clear he hE
   go_enter Tryz.func118, Tryz.ntmps118; (try simp only [List.append_eq, List.cons_append, List.nil_append])
   go_wp2_with fail
   go_ret
   refine ⟨rfl, ?_⟩
   ((with_reducible (repeat (first | exact bR _ _ | apply bS | apply bA | apply bD | refine bT ?_ (by assumption) ?_ | refine bO (by assumption) ?_ ?_))) <;> (first | omega | (simp <;> omega)))
set_option maxRecDepth 100000 in
set_option maxHeartbeats 2000000 in
theorem eqfx_any (l m : List IV) (A B : Option Addr) (c d : Nat) (w : World) (hA : XsAt w A l) (hB : XsAt w B m) (h1 : l.length ≤ 1000000) (h2 : m.length ≤ 1000000) (v1 : ∀ x ∈ l, okX x) (v2 : ∀ x ∈ m, okX x) :
  Calls Tryz.prog 117 #[.slice A l.length c, .slice B m.length d, .func (.func 118) #[] #[]] w fun e w' => e = .returned (.bool (eqL eqX l m)) ∧ Below w.heap.size w w' := by
 by_cases hlm : l.length = m.length
 · obtain ⟨R, hR⟩ : ∃ R, R = eqL eqX l m := ⟨_, rfl⟩
   rw [← hR]
   have HR : Hid (eqL eqX (l.drop 0) (m.drop 0) = R) := hQ0 (by rw [hR]; rfl)
   have HA := hQ0 hA
   have HB := hQ0 hB
   have V1 := hQ0 v1
   have V2 := hQ0 v2
   have HLM := hQ0 hlm
   rw [← hlm]
   clear hR hA hB v1 v2 hlm
   go_enter Tryz.func117, Tryz.ntmps117; (try simp only [List.append_eq, List.cons_append, List.nil_append])
   go_wp2_with fail
   go_loopw [17] (fun t wr => ∃ k : Nat, k ≤ l.length ∧ t = .int .i64 k ∧ Below w.heap.size w wr ∧ Hid (eqL eqX (l.drop k) (m.drop k) = R)) (fun t _ => l.length - (intOf t).toNat)
   case atStart => exact ⟨0, by omega, rfl, Below.refl _ _, HR⟩
   case round =>
    obtain ⟨k, hk, rfl, hb_wr, HJ⟩ := hrel
    have hz_wr := hb_wr.size
    by_cases hlt : k < l.length
    · obtain ⟨x, hx⟩ : ∃ x, l[k]? = some x := ⟨l[k], by simp⟩
      obtain ⟨y, hy⟩ : ∃ y, m[k]? = some y := ⟨m[k]'(by have := HLM.out; omega), by simp⟩
      obtain ⟨g, o, C, q, rfl, hg, ⟨c0, c1, c2, c3⟩, hI⟩ := (HA.out.below hb_wr (Nat.le_refl _)) k x hx
      obtain ⟨g', o', C', q', rfl, hg', ⟨d0, d1, d2, d3⟩, hI'⟩ := (HB.out.below hb_wr (Nat.le_refl _)) k y hy
      have hst := eqL_drop (f := eqX) hx hy
      have i1 : (k : Int) < (l.length : Int) := by omega
      have HI := hQ0 hI
      have HI' := hQ0 hI'
      have HBe := hQ0 hb_wr
      have KK := fun (W : World) (hb : Below wr.heap.size wr W) => samex_any x y C C' q q' W (HI.out.below hb (Nat.le_refl _)) (HI'.out.below hb (Nat.le_refl _)) (V1.out x (List.mem_of_getElem? hx)) (V2.out y (List.mem_of_getElem? hy))
      clear hI hI' hb_wr
      cases hxy : eqX x y
      · obtain rfl : R = false := by rw [← HJ.out, hst, hxy]; rfl
        clear hst HJ HR
        go_wp2_with (go_at_call 118; refine (KK _ (by ((with_reducible (repeat (first | exact bR _ _ | apply bS | apply bA | apply bD | refine bT ?_ (by assumption) ?_ | refine bO (by assumption) ?_ ?_))) <;> (first | omega | (simp <;> omega))))).mono ?_; rintro e w2 ⟨rfl, hb_w2⟩; rw [hxy])
        go_ret
        have hz2 := hb_w2.size
        simp at hz2
        exact ⟨rfl, ((HBe.out.alloc hz_wr _).alloc (by simp; omega) _).trans (hb_w2.mono (by simp; omega))⟩
      · have hnx : Hid (eqL eqX (l.drop (k + 1)) (m.drop (k + 1)) = R) := hQ0 (by rw [← HJ.out, hst, hxy, Bool.true_and])
        clear hst HJ HR
        go_wp2_with (go_at_call 118; refine (KK _ (by ((with_reducible (repeat (first | exact bR _ _ | apply bS | apply bA | apply bD | refine bT ?_ (by assumption) ?_ | refine bO (by assumption) ?_ ?_))) <;> (first | omega | (simp <;> omega))))).mono ?_; rintro e w2 ⟨rfl, hb_w2⟩; rw [hxy])
        have hz2 := hb_w2.size
        simp at hz2
        go_roundw
        case rel => exact ⟨k + 1, by omega, by go_num, ((HBe.out.alloc hz_wr _).alloc (by simp; omega) _).trans (hb_w2.mono (by simp; omega)), hnx⟩
        case measure => simp [intOf]; omega
    · obtain rfl : k = l.length := by omega
      obtain rfl : R = true := by rw [← HJ.out]; exact eqL_end (Nat.le_refl _) (by have := HLM.out; omega)
      go_wp2_with fail
      go_ret
      exact ⟨rfl, hb_wr⟩
 · rw [eqL_len hlm]
   have i0 : ¬ (l.length : Int) = (m.length : Int) := by omega
   go_enter Tryz.func117, Tryz.ntmps117; (try simp only [List.append_eq, List.cons_append, List.nil_append])
   go_wp2_with fail
   go_ret
   exact ⟨rfl, Below.refl _ _⟩
theorem txt_inj {a b : ByteArray} (h : a.toList = b.toList) : a = b := by
 rw [ByteArray.toList_eq, ByteArray.toList_eq] at h
 exact ByteArray.ext (Array.ext' h)
def eqI (x y : Int) : Bool := decide (x = y)
theorem eqI_iff {x y : Int} : eqI x y = true ↔ x = y := by simp [eqI]
set_option maxRecDepth 100000 in
set_option maxHeartbeats 4000000 in
theorem eq_is (l m : List Int) (A B : Option Addr) (c d : Nat) (w : World) (hA : IsAt w A l) (hB : IsAt w B m) (h1 : l.length ≤ 1000000) (h2 : m.length ≤ 1000000) :
  Calls Tryz.prog 45 #[.slice A l.length c, .slice B m.length d] w fun e w' => e = .returned (.bool (eqL eqI l m)) ∧ Below w.heap.size w w' := by
 by_cases hlm : l.length = m.length
 · obtain ⟨R, hR⟩ : ∃ R, R = eqL eqI l m := ⟨_, rfl⟩
   rw [← hR]
   have HR : Hid (eqL eqI (l.drop 0) (m.drop 0) = R) := hQ0 (by rw [hR]; rfl)
   have HA := hQ0 hA
   have HB := hQ0 hB
   have HLM := hQ0 hlm
   rw [← hlm]
   clear hR hA hB hlm
   go_enter Tryz.func45, Tryz.ntmps45; (try simp only [List.append_eq, List.cons_append, List.nil_append])
   go_wp2_with fail
   go_loopw [13] (fun t wr => ∃ k : Nat, k ≤ l.length ∧ t = .int .i64 k ∧ Below w.heap.size w wr ∧ Hid (eqL eqI (l.drop k) (m.drop k) = R)) (fun t _ => l.length - (intOf t).toNat)
   case atStart => exact ⟨0, by omega, rfl, Below.refl _ _, HR⟩
   case round =>
    obtain ⟨k, hk, rfl, hb_wr, HJ⟩ := hrel
    have hz_wr := hb_wr.size
    by_cases hlt : k < l.length
    · obtain ⟨x, hx⟩ : ∃ x, l[k]? = some x := ⟨l[k], by simp⟩
      obtain ⟨y, hy⟩ : ∃ y, m[k]? = some y := ⟨m[k]'(by have := HLM.out; omega), by simp⟩
      obtain ⟨g, o, rfl, hg, c0⟩ := IsAt.get (HA.out.below hb_wr (Nat.le_refl _)) hx
      obtain ⟨g', o', rfl, hg', d0⟩ := IsAt.get (HB.out.below hb_wr (Nat.le_refl _)) hy
      have HST := hQ0 (eqL_drop (f := eqI) hx hy)
      have i1 : (k : Int) < (l.length : Int) := by omega
      have i2 : (k : Int) < (m.length : Int) := by have := HLM.out; omega
      have HBe := hQ0 hb_wr
      clear hb_wr hx hy
      by_cases hxy : x = y
      · subst hxy
        have hnx : Hid (eqL eqI (l.drop (k + 1)) (m.drop (k + 1)) = R) := hQ0 (by rw [← HJ.out, HST.out, eqI_iff.2 rfl, Bool.true_and])
        clear HJ HR HST
        go_upto_region 6 with (fail)
        have hS_ : Below wr.heap.size wr wr.drew := (Below.refl _ _).drew
        refine wp_region_N (Below wr.heap.size wr) 9 [] (by kernel_rfl) (by kernel_rfl) (by kernel_rfl) (by kernel_rfl) ?_
        intro hT_ hD_
        generalize wr.drew = wd_ at hS_ ⊢
        apply wpN_maybe (i := 0) hT_ hD_ rfl (by kernel_rfl) true (by exact rfl)
        (case h => intro _; intro W_ hW_; have hcW_ := (bcellW hW_).1; go_simp; first | done | exact rfl); (case hQ => exact fun _ _ _ h => h); (case hS => exact hS_)
        intro hD2_; clear hD_; have hD_ := hD2_; clear hD2_; intro K hK; (try simp only [opt_true]); go_simp; refine hK _ _ ?_; clear hK K
        apply wpN_maybe (i := 1) hT_ hD_ rfl (by kernel_rfl) true (by exact rfl)
        (case h => intro _; intro W_ hW_; have hcW_ := (bcellW hW_).1; go_simp; first | done | exact rfl); (case hQ => exact fun _ _ _ h => h); (case hS => exact hS_)
        intro hD2_; clear hD_; have hD_ := hD2_; clear hD2_; intro K hK; (try simp only [opt_true]); go_simp; refine hK _ _ ?_; clear hK K
        apply wpN_maybe (i := 2) hT_ hD_ rfl (by kernel_rfl) true (by exact rfl)
        (case h => intro _; intro W_ hW_; have hcW_ := (bcellW hW_).1; go_simp; first | done | exact rfl); (case hQ => exact fun _ _ _ h => h); (case hS => exact hS_)
        intro hD2_; clear hD_; have hD_ := hD2_; clear hD2_; intro K hK; (try simp only [opt_true]); go_simp; refine hK _ _ ?_; clear hK K
        apply wpN_maybe (i := 3) hT_ hD_ rfl (by kernel_rfl) true (by exact rfl)
        (case h => intro _; intro W_ hW_; have hcW_ := (bcellW hW_).1; go_simp; first | done | exact rfl); (case hQ => exact fun _ _ _ h => h); (case hS => exact hS_)
        intro hD2_; clear hD_; have hD_ := hD2_; clear hD2_; intro K hK; (try simp only [opt_true]); go_simp; refine hK _ _ ?_; clear hK K
        apply wpN_maybe (i := 4) hT_ hD_ rfl (by kernel_rfl) true (by exact rfl)
        (case h => intro _; intro W_ hW_; have hcW_ := (bcellW hW_).1; go_simp; first | done | exact rfl); (case hQ => exact fun _ _ _ h => h); (case hS => exact hS_)
        intro hD2_; clear hD_; have hD_ := hD2_; clear hD2_; intro K hK; (try simp only [opt_true]); go_simp; refine hK _ _ ?_; clear hK K
        apply wpN_maybe (i := 5) hT_ hD_ rfl (by kernel_rfl) true (by exact rfl)
        (case h => intro _; intro W_ hW_; have hcW_ := (bcellW hW_).1; go_simp; first | done | exact rfl); (case hQ => exact fun _ _ _ h => h); (case hS => exact hS_)
        intro hD2_; clear hD_; have hD_ := hD2_; clear hD2_; intro K hK; (try simp only [opt_true]); go_simp; refine hK _ _ ?_; clear hK K
        apply wpN_maybe (i := 6) hT_ hD_ rfl (by kernel_rfl) true (by exact rfl)
        (case h => intro _; intro W_ hW_; have hcW_ := (bcellW hW_).1; go_simp; first | done | exact rfl); (case hQ => exact fun _ _ _ h => h); (case hS => exact hS_)
        intro hD2_; clear hD_; have hD_ := hD2_; clear hD2_; intro K hK; (try simp only [opt_true]); go_simp; refine hK _ _ ?_; clear hK K
        apply wpN_maybe (i := 7) hT_ hD_ rfl (by kernel_rfl) true (by exact rfl)
        (case h => intro _; intro W_ hW_; have hcW_ := (bcellW hW_).1; go_simp; first | done | exact rfl); (case hQ => exact fun _ _ _ h => h); (case hS => exact hS_)
        intro hD2_; clear hD_; have hD_ := hD2_; clear hD2_; intro K hK; (try simp only [opt_true]); go_simp; refine hK _ _ ?_; clear hK K
        apply wpN_maybe (i := 8) hT_ hD_ rfl (by kernel_rfl) true (by exact rfl) (.bool false)
        (case h => intro _; intro W_ hW_; have hcW_ := (bcellW hW_).1; go_simp; first | done | exact rfl | simp); (case hQ => exact fun _ _ _ h => h); (case hS => exact hS_)
        intro hD2_; clear hD_; have hD_ := hD2_; clear hD2_; intro K hK; (try simp only [opt_true]); go_simp; refine hK _ _ ?_; clear hK K
        refine wpZ_nil (by kernel_rfl) ?_
        (try simp only [List.filterMap_nil])
        (try go_simp)
        go_wp2_with fail
        go_roundw
        case rel => exact ⟨k + 1, by omega, by go_num, HBe.out.trans (hS_.mono hz_wr), hnx⟩
        case measure => simp [intOf]; omega
      · obtain rfl : R = false := by rw [← HJ.out, HST.out, Bool.eq_false_iff.2 (fun h => hxy (eqI_iff.1 h))]; rfl
        have HNE := hQ0 hxy
        clear HJ HR HST hxy
        go_upto_region 6 with (fail)
        have hS_ : Below wr.heap.size wr wr.drew := (Below.refl _ _).drew
        refine wp_region_N (Below wr.heap.size wr) 9 [] (by kernel_rfl) (by kernel_rfl) (by kernel_rfl) (by kernel_rfl) ?_
        intro hT_ hD_
        generalize wr.drew = wd_ at hS_ ⊢
        apply wpN_maybe (i := 0) hT_ hD_ rfl (by kernel_rfl) true (by exact rfl)
        (case h => intro _; intro W_ hW_; have hcW_ := (bcellW hW_).1; go_simp; first | done | exact rfl); (case hQ => exact fun _ _ _ h => h); (case hS => exact hS_)
        intro hD2_; clear hD_; have hD_ := hD2_; clear hD2_; intro K hK; (try simp only [opt_true]); go_simp; refine hK _ _ ?_; clear hK K
        apply wpN_maybe (i := 1) hT_ hD_ rfl (by kernel_rfl) true (by exact rfl)
        (case h => intro _; intro W_ hW_; have hcW_ := (bcellW hW_).1; go_simp; first | done | exact rfl); (case hQ => exact fun _ _ _ h => h); (case hS => exact hS_)
        intro hD2_; clear hD_; have hD_ := hD2_; clear hD2_; intro K hK; (try simp only [opt_true]); go_simp; refine hK _ _ ?_; clear hK K
        apply wpN_maybe (i := 2) hT_ hD_ rfl (by kernel_rfl) true (by exact rfl)
        (case h => intro _; intro W_ hW_; have hcW_ := (bcellW hW_).1; go_simp; first | done | exact rfl); (case hQ => exact fun _ _ _ h => h); (case hS => exact hS_)
        intro hD2_; clear hD_; have hD_ := hD2_; clear hD2_; intro K hK; (try simp only [opt_true]); go_simp; refine hK _ _ ?_; clear hK K
        apply wpN_maybe (i := 3) hT_ hD_ rfl (by kernel_rfl) true (by exact rfl)
        (case h => intro _; intro W_ hW_; have hcW_ := (bcellW hW_).1; go_simp; first | done | exact rfl); (case hQ => exact fun _ _ _ h => h); (case hS => exact hS_)
        intro hD2_; clear hD_; have hD_ := hD2_; clear hD2_; intro K hK; (try simp only [opt_true]); go_simp; refine hK _ _ ?_; clear hK K
        apply wpN_maybe (i := 4) hT_ hD_ rfl (by kernel_rfl) true (by exact rfl)
        (case h => intro _; intro W_ hW_; have hcW_ := (bcellW hW_).1; go_simp; first | done | exact rfl); (case hQ => exact fun _ _ _ h => h); (case hS => exact hS_)
        intro hD2_; clear hD_; have hD_ := hD2_; clear hD2_; intro K hK; (try simp only [opt_true]); go_simp; refine hK _ _ ?_; clear hK K
        apply wpN_maybe (i := 5) hT_ hD_ rfl (by kernel_rfl) true (by exact rfl)
        (case h => intro _; intro W_ hW_; have hcW_ := (bcellW hW_).1; go_simp; first | done | exact rfl); (case hQ => exact fun _ _ _ h => h); (case hS => exact hS_)
        intro hD2_; clear hD_; have hD_ := hD2_; clear hD2_; intro K hK; (try simp only [opt_true]); go_simp; refine hK _ _ ?_; clear hK K
        apply wpN_maybe (i := 6) hT_ hD_ rfl (by kernel_rfl) true (by exact rfl)
        (case h => intro _; intro W_ hW_; have hcW_ := (bcellW hW_).1; go_simp; first | done | exact rfl); (case hQ => exact fun _ _ _ h => h); (case hS => exact hS_)
        intro hD2_; clear hD_; have hD_ := hD2_; clear hD2_; intro K hK; (try simp only [opt_true]); go_simp; refine hK _ _ ?_; clear hK K
        apply wpN_maybe (i := 7) hT_ hD_ rfl (by kernel_rfl) true (by exact rfl)
        (case h => intro _; intro W_ hW_; have hcW_ := (bcellW hW_).1; go_simp; first | done | exact rfl); (case hQ => exact fun _ _ _ h => h); (case hS => exact hS_)
        intro hD2_; clear hD_; have hD_ := hD2_; clear hD2_; intro K hK; (try simp only [opt_true]); go_simp; refine hK _ _ ?_; clear hK K
        apply wpN_maybe (i := 8) hT_ hD_ rfl (by kernel_rfl) true (by exact rfl) (.bool true)
        (case h => intro _; intro W_ hW_; have hcW_ := (bcellW hW_).1; go_simp; first | done | exact HNE.out | simp [HNE.out]); (case hQ => exact fun _ _ _ h => h); (case hS => exact hS_)
        intro hD2_; clear hD_; have hD_ := hD2_; clear hD2_; intro K hK; (try simp only [opt_true]); go_simp; refine hK _ _ ?_; clear hK K
        refine wpZ_nil (by kernel_rfl) ?_
        (try simp only [List.filterMap_nil])
        (try go_simp)
        go_wp2_with fail
        go_ret
        exact ⟨rfl, HBe.out.trans (hS_.mono hz_wr)⟩
    · obtain rfl : k = l.length := by omega
      obtain rfl : R = true := by rw [← HJ.out]; exact eqL_end (Nat.le_refl _) (by have := HLM.out; omega)
      go_wp2_with fail
      go_ret
      exact ⟨rfl, hb_wr⟩
 · rw [eqL_len hlm]
   have i0 : ¬ (l.length : Int) = (m.length : Int) := by omega
   go_enter Tryz.func45, Tryz.ntmps45; (try simp only [List.append_eq, List.cons_append, List.nil_append])
   go_wp2_with fail
   go_ret
   exact ⟨rfl, Below.refl _ _⟩
def Wl.eqB (x y : Wl) : Bool := decide (x.nm = y.nm) && decide (x.kd = y.kd) && decide (x.lv = y.lv) && decide (x.a1 = y.a1) && decide (x.a2 = y.a2) && decide (x.b1 = y.b1) && decide (x.b2 = y.b2) && decide (x.rs = y.rs) && decide (x.gr = y.gr) && decide (x.kk = y.kk) && decide (x.mn = y.mn) && decide (x.cl = y.cl) && decide (x.sw = y.sw)
theorem Wl.eqB_iff {x y : Wl} : Wl.eqB x y = true ↔ x = y := by
 cases x; cases y
 simp [Wl.eqB, and_assoc]
set_option maxRecDepth 100000 in
set_option maxHeartbeats 4000000 in
theorem eq_ws (l m : List Wl) (A B : Option Addr) (c d : Nat) (w : World) (hA : RowsAt 13 Wl.cells w A l) (hB : RowsAt 13 Wl.cells w B m) (h1 : l.length ≤ 1000000) (h2 : m.length ≤ 1000000) :
  Calls Tryz.prog 46 #[.slice A l.length c, .slice B m.length d] w fun e w' => e = .returned (.bool (eqL Wl.eqB l m)) ∧ Below w.heap.size w w' := by
 by_cases hlm : l.length = m.length
 · obtain ⟨R, hR⟩ : ∃ R, R = eqL Wl.eqB l m := ⟨_, rfl⟩
   rw [← hR]
   have HR : Hid (eqL Wl.eqB (l.drop 0) (m.drop 0) = R) := hQ0 (by rw [hR]; rfl)
   have HA := hQ0 hA
   have HB := hQ0 hB
   have HLM := hQ0 hlm
   rw [← hlm]
   clear hR hA hB hlm
   go_enter Tryz.func46, Tryz.ntmps46; (try simp only [List.append_eq, List.cons_append, List.nil_append])
   go_wp2_with fail
   go_loopw [13] (fun t wr => ∃ k : Nat, k ≤ l.length ∧ t = .int .i64 k ∧ Below w.heap.size w wr ∧ Hid (eqL Wl.eqB (l.drop k) (m.drop k) = R)) (fun t _ => l.length - (intOf t).toNat)
   case atStart => exact ⟨0, by omega, rfl, Below.refl _ _, HR⟩
   case round =>
    obtain ⟨k, hk, rfl, hb_wr, HJ⟩ := hrel
    have hz_wr := hb_wr.size
    by_cases hlt : k < l.length
    · obtain ⟨x, hx⟩ : ∃ x, l[k]? = some x := ⟨l[k], by simp⟩
      obtain ⟨y, hy⟩ : ∃ y, m[k]? = some y := ⟨m[k]'(by have := HLM.out; omega), by simp⟩
      obtain ⟨g, o, rfl, hg, c0, c1, c2, c3, c4, c5, c6, c7, c8, c9, c10, c11, c12⟩ := Wl.get (HA.out.below hb_wr (Nat.le_refl _)) hx
      obtain ⟨g', o', rfl, hg', d0, d1, d2, d3, d4, d5, d6, d7, d8, d9, d10, d11, d12⟩ := Wl.get (HB.out.below hb_wr (Nat.le_refl _)) hy
      have HST := hQ0 (eqL_drop (f := Wl.eqB) hx hy)
      have i1 : (k : Int) < (l.length : Int) := by omega
      have i2 : (k : Int) < (m.length : Int) := by have := HLM.out; omega
      have HBe := hQ0 hb_wr
      clear hb_wr hx hy
      by_cases hxy : x = y
      · subst hxy
        have hnx : Hid (eqL Wl.eqB (l.drop (k + 1)) (m.drop (k + 1)) = R) := hQ0 (by rw [← HJ.out, HST.out, Wl.eqB_iff.2 rfl, Bool.true_and])
        clear HJ HR HST
        go_upto_region 6 with (fail)
        have hS_ : Below wr.heap.size wr wr.drew := (Below.refl _ _).drew
        refine wp_region_N (Below wr.heap.size wr) 9 [] (by kernel_rfl) (by kernel_rfl) (by kernel_rfl) (by kernel_rfl) ?_
        intro hT_ hD_
        generalize wr.drew = wd_ at hS_ ⊢
        apply wpN_maybe (i := 0) hT_ hD_ rfl (by kernel_rfl) true (by exact rfl)
        (case h => intro _; intro W_ hW_; have hcW_ := (bcellW hW_).1; go_simp; first | done | exact rfl); (case hQ => exact fun _ _ _ h => h); (case hS => exact hS_)
        intro hD2_; clear hD_; have hD_ := hD2_; clear hD2_; intro K hK; (try simp only [opt_true]); go_simp; refine hK _ _ ?_; clear hK K
        apply wpN_maybe (i := 1) hT_ hD_ rfl (by kernel_rfl) true (by exact rfl)
        (case h => intro _; intro W_ hW_; have hcW_ := (bcellW hW_).1; go_simp; first | done | exact rfl); (case hQ => exact fun _ _ _ h => h); (case hS => exact hS_)
        intro hD2_; clear hD_; have hD_ := hD2_; clear hD2_; intro K hK; (try simp only [opt_true]); go_simp; refine hK _ _ ?_; clear hK K
        apply wpN_maybe (i := 2) hT_ hD_ rfl (by kernel_rfl) true (by exact rfl)
        (case h => intro _; intro W_ hW_; have hcW_ := (bcellW hW_).1; go_simp; first | done | exact rfl); (case hQ => exact fun _ _ _ h => h); (case hS => exact hS_)
        intro hD2_; clear hD_; have hD_ := hD2_; clear hD2_; intro K hK; (try simp only [opt_true]); go_simp; refine hK _ _ ?_; clear hK K
        apply wpN_maybe (i := 3) hT_ hD_ rfl (by kernel_rfl) true (by exact rfl)
        (case h => intro _; intro W_ hW_; have hcW_ := (bcellW hW_).1; go_simp; first | done | exact rfl); (case hQ => exact fun _ _ _ h => h); (case hS => exact hS_)
        intro hD2_; clear hD_; have hD_ := hD2_; clear hD2_; intro K hK; (try simp only [opt_true]); go_simp; refine hK _ _ ?_; clear hK K
        apply wpN_maybe (i := 4) hT_ hD_ rfl (by kernel_rfl) true (by exact rfl)
        (case h => intro _; intro W_ hW_; have hcW_ := (bcellW hW_).1; go_simp; first | done | exact rfl); (case hQ => exact fun _ _ _ h => h); (case hS => exact hS_)
        intro hD2_; clear hD_; have hD_ := hD2_; clear hD2_; intro K hK; (try simp only [opt_true]); go_simp; refine hK _ _ ?_; clear hK K
        apply wpN_maybe (i := 5) hT_ hD_ rfl (by kernel_rfl) true (by exact rfl)
        (case h => intro _; intro W_ hW_; have hcW_ := (bcellW hW_).1; go_simp; first | done | exact rfl); (case hQ => exact fun _ _ _ h => h); (case hS => exact hS_)
        intro hD2_; clear hD_; have hD_ := hD2_; clear hD2_; intro K hK; (try simp only [opt_true]); go_simp; refine hK _ _ ?_; clear hK K
        apply wpN_maybe (i := 6) hT_ hD_ rfl (by kernel_rfl) true (by exact rfl)
        (case h => intro _; intro W_ hW_; have hcW_ := (bcellW hW_).1; go_simp; first | done | exact rfl); (case hQ => exact fun _ _ _ h => h); (case hS => exact hS_)
        intro hD2_; clear hD_; have hD_ := hD2_; clear hD2_; intro K hK; (try simp only [opt_true]); go_simp; refine hK _ _ ?_; clear hK K
        apply wpN_maybe (i := 7) hT_ hD_ rfl (by kernel_rfl) true (by exact rfl)
        (case h => intro _; intro W_ hW_; have hcW_ := (bcellW hW_).1; go_simp; first | done | exact rfl); (case hQ => exact fun _ _ _ h => h); (case hS => exact hS_)
        intro hD2_; clear hD_; have hD_ := hD2_; clear hD2_; intro K hK; (try simp only [opt_true]); go_simp; refine hK _ _ ?_; clear hK K
        apply wpN_maybe (i := 8) hT_ hD_ rfl (by kernel_rfl) true (by exact rfl) (.bool false)
        (case h => intro _; intro W_ hW_; have hcW_ := (bcellW hW_).1; go_simp; first | done | exact rfl | simp); (case hQ => exact fun _ _ _ h => h); (case hS => exact hS_)
        intro hD2_; clear hD_; have hD_ := hD2_; clear hD2_; intro K hK; (try simp only [opt_true]); go_simp; refine hK _ _ ?_; clear hK K
        refine wpZ_nil (by kernel_rfl) ?_
        (try simp only [List.filterMap_nil])
        (try go_simp)
        go_wp2_with fail
        go_roundw
        case rel => exact ⟨k + 1, by omega, by go_num, HBe.out.trans (hS_.mono hz_wr), hnx⟩
        case measure => simp [intOf]; omega
      · obtain rfl : R = false := by rw [← HJ.out, HST.out, Bool.eq_false_iff.2 (fun h => hxy (Wl.eqB_iff.1 h))]; rfl
        have HNE := hQ0 hxy
        clear HJ HR HST hxy
        go_upto_region 6 with (fail)
        have hS_ : Below wr.heap.size wr wr.drew := (Below.refl _ _).drew
        refine wp_region_N (Below wr.heap.size wr) 9 [] (by kernel_rfl) (by kernel_rfl) (by kernel_rfl) (by kernel_rfl) ?_
        intro hT_ hD_
        generalize wr.drew = wd_ at hS_ ⊢
        apply wpN_maybe (i := 0) hT_ hD_ rfl (by kernel_rfl) true (by exact rfl)
        (case h => intro _; intro W_ hW_; have hcW_ := (bcellW hW_).1; go_simp; first | done | exact rfl); (case hQ => exact fun _ _ _ h => h); (case hS => exact hS_)
        intro hD2_; clear hD_; have hD_ := hD2_; clear hD2_; intro K hK; (try simp only [opt_true]); go_simp; refine hK _ _ ?_; clear hK K
        apply wpN_maybe (i := 1) hT_ hD_ rfl (by kernel_rfl) true (by exact rfl)
        (case h => intro _; intro W_ hW_; have hcW_ := (bcellW hW_).1; go_simp; first | done | exact rfl); (case hQ => exact fun _ _ _ h => h); (case hS => exact hS_)
        intro hD2_; clear hD_; have hD_ := hD2_; clear hD2_; intro K hK; (try simp only [opt_true]); go_simp; refine hK _ _ ?_; clear hK K
        apply wpN_maybe (i := 2) hT_ hD_ rfl (by kernel_rfl) true (by exact rfl)
        (case h => intro _; intro W_ hW_; have hcW_ := (bcellW hW_).1; go_simp; first | done | exact rfl); (case hQ => exact fun _ _ _ h => h); (case hS => exact hS_)
        intro hD2_; clear hD_; have hD_ := hD2_; clear hD2_; intro K hK; (try simp only [opt_true]); go_simp; refine hK _ _ ?_; clear hK K
        apply wpN_maybe (i := 3) hT_ hD_ rfl (by kernel_rfl) true (by exact rfl)
        (case h => intro _; intro W_ hW_; have hcW_ := (bcellW hW_).1; go_simp; first | done | exact rfl); (case hQ => exact fun _ _ _ h => h); (case hS => exact hS_)
        intro hD2_; clear hD_; have hD_ := hD2_; clear hD2_; intro K hK; (try simp only [opt_true]); go_simp; refine hK _ _ ?_; clear hK K
        apply wpN_maybe (i := 4) hT_ hD_ rfl (by kernel_rfl) true (by exact rfl)
        (case h => intro _; intro W_ hW_; have hcW_ := (bcellW hW_).1; go_simp; first | done | exact rfl); (case hQ => exact fun _ _ _ h => h); (case hS => exact hS_)
        intro hD2_; clear hD_; have hD_ := hD2_; clear hD2_; intro K hK; (try simp only [opt_true]); go_simp; refine hK _ _ ?_; clear hK K
        apply wpN_maybe (i := 5) hT_ hD_ rfl (by kernel_rfl) true (by exact rfl)
        (case h => intro _; intro W_ hW_; have hcW_ := (bcellW hW_).1; go_simp; first | done | exact rfl); (case hQ => exact fun _ _ _ h => h); (case hS => exact hS_)
        intro hD2_; clear hD_; have hD_ := hD2_; clear hD2_; intro K hK; (try simp only [opt_true]); go_simp; refine hK _ _ ?_; clear hK K
        apply wpN_maybe (i := 6) hT_ hD_ rfl (by kernel_rfl) true (by exact rfl)
        (case h => intro _; intro W_ hW_; have hcW_ := (bcellW hW_).1; go_simp; first | done | exact rfl); (case hQ => exact fun _ _ _ h => h); (case hS => exact hS_)
        intro hD2_; clear hD_; have hD_ := hD2_; clear hD2_; intro K hK; (try simp only [opt_true]); go_simp; refine hK _ _ ?_; clear hK K
        apply wpN_maybe (i := 7) hT_ hD_ rfl (by kernel_rfl) true (by exact rfl)
        (case h => intro _; intro W_ hW_; have hcW_ := (bcellW hW_).1; go_simp; first | done | exact rfl); (case hQ => exact fun _ _ _ h => h); (case hS => exact hS_)
        intro hD2_; clear hD_; have hD_ := hD2_; clear hD2_; intro K hK; (try simp only [opt_true]); go_simp; refine hK _ _ ?_; clear hK K
        apply wpN_maybe (i := 8) hT_ hD_ rfl (by kernel_rfl) true (by exact rfl) (.bool true)
        (case h => intro _; intro W_ hW_; have hcW_ := (bcellW hW_).1; go_simp; first | done | (intro h_0 h_1 h_2 h_3 h_4 h_5 h_6 h_7 h_8 h_9 h_10 h_11 h_12; apply HNE.out; replace h_0 := txt_inj h_0; cases x; cases y; simp only at h_0 h_1 h_2 h_3 h_4 h_5 h_6 h_7 h_8 h_9 h_10 h_11 h_12; subst h_0 h_1 h_2 h_3 h_4 h_5 h_6 h_7 h_8 h_9 h_10 h_11 h_12; rfl)); (case hQ => exact fun _ _ _ h => h); (case hS => exact hS_)
        intro hD2_; clear hD_; have hD_ := hD2_; clear hD2_; intro K hK; (try simp only [opt_true]); go_simp; refine hK _ _ ?_; clear hK K
        refine wpZ_nil (by kernel_rfl) ?_
        (try simp only [List.filterMap_nil])
        (try go_simp)
        go_wp2_with fail
        go_ret
        exact ⟨rfl, HBe.out.trans (hS_.mono hz_wr)⟩
    · obtain rfl : k = l.length := by omega
      obtain rfl : R = true := by rw [← HJ.out]; exact eqL_end (Nat.le_refl _) (by have := HLM.out; omega)
      go_wp2_with fail
      go_ret
      exact ⟨rfl, hb_wr⟩
 · rw [eqL_len hlm]
   have i0 : ¬ (l.length : Int) = (m.length : Int) := by omega
   go_enter Tryz.func46, Tryz.ntmps46; (try simp only [List.append_eq, List.cons_append, List.nil_append])
   go_wp2_with fail
   go_ret
   exact ⟨rfl, Below.refl _ _⟩
def Ac.eqB (x y : Ac) : Bool := decide (x.nm = y.nm) && decide (x.lv = y.lv) && decide (x.c1 = y.c1) && decide (x.c2 = y.c2) && decide (x.s1 = y.s1) && decide (x.s2 = y.s2) && decide (x.e1 = y.e1) && decide (x.e2 = y.e2) && decide (x.rs = y.rs) && decide (x.gr = y.gr) && decide (x.mn = y.mn) && decide (x.sw = y.sw)
theorem Ac.eqB_iff {x y : Ac} : Ac.eqB x y = true ↔ x = y := by
 cases x; cases y
 simp [Ac.eqB, and_assoc]
set_option maxRecDepth 100000 in
set_option maxHeartbeats 4000000 in
theorem eq_ars (l m : List Ac) (A B : Option Addr) (c d : Nat) (w : World) (hA : RowsAt 12 Ac.cells w A l) (hB : RowsAt 12 Ac.cells w B m) (h1 : l.length ≤ 1000000) (h2 : m.length ≤ 1000000) :
  Calls Tryz.prog 47 #[.slice A l.length c, .slice B m.length d] w fun e w' => e = .returned (.bool (eqL Ac.eqB l m)) ∧ Below w.heap.size w w' := by
 by_cases hlm : l.length = m.length
 · obtain ⟨R, hR⟩ : ∃ R, R = eqL Ac.eqB l m := ⟨_, rfl⟩
   rw [← hR]
   have HR : Hid (eqL Ac.eqB (l.drop 0) (m.drop 0) = R) := hQ0 (by rw [hR]; rfl)
   have HA := hQ0 hA
   have HB := hQ0 hB
   have HLM := hQ0 hlm
   rw [← hlm]
   clear hR hA hB hlm
   go_enter Tryz.func47, Tryz.ntmps47; (try simp only [List.append_eq, List.cons_append, List.nil_append])
   go_wp2_with fail
   go_loopw [13] (fun t wr => ∃ k : Nat, k ≤ l.length ∧ t = .int .i64 k ∧ Below w.heap.size w wr ∧ Hid (eqL Ac.eqB (l.drop k) (m.drop k) = R)) (fun t _ => l.length - (intOf t).toNat)
   case atStart => exact ⟨0, by omega, rfl, Below.refl _ _, HR⟩
   case round =>
    obtain ⟨k, hk, rfl, hb_wr, HJ⟩ := hrel
    have hz_wr := hb_wr.size
    by_cases hlt : k < l.length
    · obtain ⟨x, hx⟩ : ∃ x, l[k]? = some x := ⟨l[k], by simp⟩
      obtain ⟨y, hy⟩ : ∃ y, m[k]? = some y := ⟨m[k]'(by have := HLM.out; omega), by simp⟩
      obtain ⟨g, o, rfl, hg, c0, c1, c2, c3, c4, c5, c6, c7, c8, c9, c10, c11⟩ := Ac.get (HA.out.below hb_wr (Nat.le_refl _)) hx
      obtain ⟨g', o', rfl, hg', d0, d1, d2, d3, d4, d5, d6, d7, d8, d9, d10, d11⟩ := Ac.get (HB.out.below hb_wr (Nat.le_refl _)) hy
      have HST := hQ0 (eqL_drop (f := Ac.eqB) hx hy)
      have i1 : (k : Int) < (l.length : Int) := by omega
      have i2 : (k : Int) < (m.length : Int) := by have := HLM.out; omega
      have HBe := hQ0 hb_wr
      clear hb_wr hx hy
      by_cases hxy : x = y
      · subst hxy
        have hnx : Hid (eqL Ac.eqB (l.drop (k + 1)) (m.drop (k + 1)) = R) := hQ0 (by rw [← HJ.out, HST.out, Ac.eqB_iff.2 rfl, Bool.true_and])
        clear HJ HR HST
        go_upto_region 6 with (fail)
        have hS_ : Below wr.heap.size wr wr.drew := (Below.refl _ _).drew
        refine wp_region_N (Below wr.heap.size wr) 9 [] (by kernel_rfl) (by kernel_rfl) (by kernel_rfl) (by kernel_rfl) ?_
        intro hT_ hD_
        generalize wr.drew = wd_ at hS_ ⊢
        apply wpN_maybe (i := 0) hT_ hD_ rfl (by kernel_rfl) true (by exact rfl)
        (case h => intro _; intro W_ hW_; have hcW_ := (bcellW hW_).1; go_simp; first | done | exact rfl); (case hQ => exact fun _ _ _ h => h); (case hS => exact hS_)
        intro hD2_; clear hD_; have hD_ := hD2_; clear hD2_; intro K hK; (try simp only [opt_true]); go_simp; refine hK _ _ ?_; clear hK K
        apply wpN_maybe (i := 1) hT_ hD_ rfl (by kernel_rfl) true (by exact rfl)
        (case h => intro _; intro W_ hW_; have hcW_ := (bcellW hW_).1; go_simp; first | done | exact rfl); (case hQ => exact fun _ _ _ h => h); (case hS => exact hS_)
        intro hD2_; clear hD_; have hD_ := hD2_; clear hD2_; intro K hK; (try simp only [opt_true]); go_simp; refine hK _ _ ?_; clear hK K
        apply wpN_maybe (i := 2) hT_ hD_ rfl (by kernel_rfl) true (by exact rfl)
        (case h => intro _; intro W_ hW_; have hcW_ := (bcellW hW_).1; go_simp; first | done | exact rfl); (case hQ => exact fun _ _ _ h => h); (case hS => exact hS_)
        intro hD2_; clear hD_; have hD_ := hD2_; clear hD2_; intro K hK; (try simp only [opt_true]); go_simp; refine hK _ _ ?_; clear hK K
        apply wpN_maybe (i := 3) hT_ hD_ rfl (by kernel_rfl) true (by exact rfl)
        (case h => intro _; intro W_ hW_; have hcW_ := (bcellW hW_).1; go_simp; first | done | exact rfl); (case hQ => exact fun _ _ _ h => h); (case hS => exact hS_)
        intro hD2_; clear hD_; have hD_ := hD2_; clear hD2_; intro K hK; (try simp only [opt_true]); go_simp; refine hK _ _ ?_; clear hK K
        apply wpN_maybe (i := 4) hT_ hD_ rfl (by kernel_rfl) true (by exact rfl)
        (case h => intro _; intro W_ hW_; have hcW_ := (bcellW hW_).1; go_simp; first | done | exact rfl); (case hQ => exact fun _ _ _ h => h); (case hS => exact hS_)
        intro hD2_; clear hD_; have hD_ := hD2_; clear hD2_; intro K hK; (try simp only [opt_true]); go_simp; refine hK _ _ ?_; clear hK K
        apply wpN_maybe (i := 5) hT_ hD_ rfl (by kernel_rfl) true (by exact rfl)
        (case h => intro _; intro W_ hW_; have hcW_ := (bcellW hW_).1; go_simp; first | done | exact rfl); (case hQ => exact fun _ _ _ h => h); (case hS => exact hS_)
        intro hD2_; clear hD_; have hD_ := hD2_; clear hD2_; intro K hK; (try simp only [opt_true]); go_simp; refine hK _ _ ?_; clear hK K
        apply wpN_maybe (i := 6) hT_ hD_ rfl (by kernel_rfl) true (by exact rfl)
        (case h => intro _; intro W_ hW_; have hcW_ := (bcellW hW_).1; go_simp; first | done | exact rfl); (case hQ => exact fun _ _ _ h => h); (case hS => exact hS_)
        intro hD2_; clear hD_; have hD_ := hD2_; clear hD2_; intro K hK; (try simp only [opt_true]); go_simp; refine hK _ _ ?_; clear hK K
        apply wpN_maybe (i := 7) hT_ hD_ rfl (by kernel_rfl) true (by exact rfl)
        (case h => intro _; intro W_ hW_; have hcW_ := (bcellW hW_).1; go_simp; first | done | exact rfl); (case hQ => exact fun _ _ _ h => h); (case hS => exact hS_)
        intro hD2_; clear hD_; have hD_ := hD2_; clear hD2_; intro K hK; (try simp only [opt_true]); go_simp; refine hK _ _ ?_; clear hK K
        apply wpN_maybe (i := 8) hT_ hD_ rfl (by kernel_rfl) true (by exact rfl) (.bool false)
        (case h => intro _; intro W_ hW_; have hcW_ := (bcellW hW_).1; go_simp; first | done | exact rfl | simp); (case hQ => exact fun _ _ _ h => h); (case hS => exact hS_)
        intro hD2_; clear hD_; have hD_ := hD2_; clear hD2_; intro K hK; (try simp only [opt_true]); go_simp; refine hK _ _ ?_; clear hK K
        refine wpZ_nil (by kernel_rfl) ?_
        (try simp only [List.filterMap_nil])
        (try go_simp)
        go_wp2_with fail
        go_roundw
        case rel => exact ⟨k + 1, by omega, by go_num, HBe.out.trans (hS_.mono hz_wr), hnx⟩
        case measure => simp [intOf]; omega
      · obtain rfl : R = false := by rw [← HJ.out, HST.out, Bool.eq_false_iff.2 (fun h => hxy (Ac.eqB_iff.1 h))]; rfl
        have HNE := hQ0 hxy
        clear HJ HR HST hxy
        go_upto_region 6 with (fail)
        have hS_ : Below wr.heap.size wr wr.drew := (Below.refl _ _).drew
        refine wp_region_N (Below wr.heap.size wr) 9 [] (by kernel_rfl) (by kernel_rfl) (by kernel_rfl) (by kernel_rfl) ?_
        intro hT_ hD_
        generalize wr.drew = wd_ at hS_ ⊢
        apply wpN_maybe (i := 0) hT_ hD_ rfl (by kernel_rfl) true (by exact rfl)
        (case h => intro _; intro W_ hW_; have hcW_ := (bcellW hW_).1; go_simp; first | done | exact rfl); (case hQ => exact fun _ _ _ h => h); (case hS => exact hS_)
        intro hD2_; clear hD_; have hD_ := hD2_; clear hD2_; intro K hK; (try simp only [opt_true]); go_simp; refine hK _ _ ?_; clear hK K
        apply wpN_maybe (i := 1) hT_ hD_ rfl (by kernel_rfl) true (by exact rfl)
        (case h => intro _; intro W_ hW_; have hcW_ := (bcellW hW_).1; go_simp; first | done | exact rfl); (case hQ => exact fun _ _ _ h => h); (case hS => exact hS_)
        intro hD2_; clear hD_; have hD_ := hD2_; clear hD2_; intro K hK; (try simp only [opt_true]); go_simp; refine hK _ _ ?_; clear hK K
        apply wpN_maybe (i := 2) hT_ hD_ rfl (by kernel_rfl) true (by exact rfl)
        (case h => intro _; intro W_ hW_; have hcW_ := (bcellW hW_).1; go_simp; first | done | exact rfl); (case hQ => exact fun _ _ _ h => h); (case hS => exact hS_)
        intro hD2_; clear hD_; have hD_ := hD2_; clear hD2_; intro K hK; (try simp only [opt_true]); go_simp; refine hK _ _ ?_; clear hK K
        apply wpN_maybe (i := 3) hT_ hD_ rfl (by kernel_rfl) true (by exact rfl)
        (case h => intro _; intro W_ hW_; have hcW_ := (bcellW hW_).1; go_simp; first | done | exact rfl); (case hQ => exact fun _ _ _ h => h); (case hS => exact hS_)
        intro hD2_; clear hD_; have hD_ := hD2_; clear hD2_; intro K hK; (try simp only [opt_true]); go_simp; refine hK _ _ ?_; clear hK K
        apply wpN_maybe (i := 4) hT_ hD_ rfl (by kernel_rfl) true (by exact rfl)
        (case h => intro _; intro W_ hW_; have hcW_ := (bcellW hW_).1; go_simp; first | done | exact rfl); (case hQ => exact fun _ _ _ h => h); (case hS => exact hS_)
        intro hD2_; clear hD_; have hD_ := hD2_; clear hD2_; intro K hK; (try simp only [opt_true]); go_simp; refine hK _ _ ?_; clear hK K
        apply wpN_maybe (i := 5) hT_ hD_ rfl (by kernel_rfl) true (by exact rfl)
        (case h => intro _; intro W_ hW_; have hcW_ := (bcellW hW_).1; go_simp; first | done | exact rfl); (case hQ => exact fun _ _ _ h => h); (case hS => exact hS_)
        intro hD2_; clear hD_; have hD_ := hD2_; clear hD2_; intro K hK; (try simp only [opt_true]); go_simp; refine hK _ _ ?_; clear hK K
        apply wpN_maybe (i := 6) hT_ hD_ rfl (by kernel_rfl) true (by exact rfl)
        (case h => intro _; intro W_ hW_; have hcW_ := (bcellW hW_).1; go_simp; first | done | exact rfl); (case hQ => exact fun _ _ _ h => h); (case hS => exact hS_)
        intro hD2_; clear hD_; have hD_ := hD2_; clear hD2_; intro K hK; (try simp only [opt_true]); go_simp; refine hK _ _ ?_; clear hK K
        apply wpN_maybe (i := 7) hT_ hD_ rfl (by kernel_rfl) true (by exact rfl)
        (case h => intro _; intro W_ hW_; have hcW_ := (bcellW hW_).1; go_simp; first | done | exact rfl); (case hQ => exact fun _ _ _ h => h); (case hS => exact hS_)
        intro hD2_; clear hD_; have hD_ := hD2_; clear hD2_; intro K hK; (try simp only [opt_true]); go_simp; refine hK _ _ ?_; clear hK K
        apply wpN_maybe (i := 8) hT_ hD_ rfl (by kernel_rfl) true (by exact rfl) (.bool true)
        (case h => intro _; intro W_ hW_; have hcW_ := (bcellW hW_).1; go_simp; first | done | (intro h_0 h_1 h_2 h_3 h_4 h_5 h_6 h_7 h_8 h_9 h_10 h_11; apply HNE.out; replace h_0 := txt_inj h_0; cases x; cases y; simp only at h_0 h_1 h_2 h_3 h_4 h_5 h_6 h_7 h_8 h_9 h_10 h_11; subst h_0 h_1 h_2 h_3 h_4 h_5 h_6 h_7 h_8 h_9 h_10 h_11; rfl)); (case hQ => exact fun _ _ _ h => h); (case hS => exact hS_)
        intro hD2_; clear hD_; have hD_ := hD2_; clear hD2_; intro K hK; (try simp only [opt_true]); go_simp; refine hK _ _ ?_; clear hK K
        refine wpZ_nil (by kernel_rfl) ?_
        (try simp only [List.filterMap_nil])
        (try go_simp)
        go_wp2_with fail
        go_ret
        exact ⟨rfl, HBe.out.trans (hS_.mono hz_wr)⟩
    · obtain rfl : k = l.length := by omega
      obtain rfl : R = true := by rw [← HJ.out]; exact eqL_end (Nat.le_refl _) (by have := HLM.out; omega)
      go_wp2_with fail
      go_ret
      exact ⟨rfl, hb_wr⟩
 · rw [eqL_len hlm]
   have i0 : ¬ (l.length : Int) = (m.length : Int) := by omega
   go_enter Tryz.func47, Tryz.ntmps47; (try simp only [List.append_eq, List.cons_append, List.nil_append])
   go_wp2_with fail
   go_ret
   exact ⟨rfl, Below.refl _ _⟩
def Ps.eqB (x y : Ps) : Bool := decide (x.nm = y.nm) && decide (x.lv = y.lv) && decide (x.c1 = y.c1) && decide (x.c2 = y.c2) && decide (x.sz = y.sz) && decide (x.rs = y.rs) && decide (x.gr = y.gr) && decide (x.kk = y.kk) && decide (x.mn = y.mn) && decide (x.cl = y.cl) && decide (x.sw = y.sw)
theorem Ps.eqB_iff {x y : Ps} : Ps.eqB x y = true ↔ x = y := by
 cases x; cases y
 simp [Ps.eqB, and_assoc]
set_option maxRecDepth 100000 in
set_option maxHeartbeats 4000000 in
theorem eq_ps (l m : List Ps) (A B : Option Addr) (c d : Nat) (w : World) (hA : RowsAt 11 Ps.cells w A l) (hB : RowsAt 11 Ps.cells w B m) (h1 : l.length ≤ 1000000) (h2 : m.length ≤ 1000000) :
  Calls Tryz.prog 48 #[.slice A l.length c, .slice B m.length d] w fun e w' => e = .returned (.bool (eqL Ps.eqB l m)) ∧ Below w.heap.size w w' := by
 by_cases hlm : l.length = m.length
 · obtain ⟨R, hR⟩ : ∃ R, R = eqL Ps.eqB l m := ⟨_, rfl⟩
   rw [← hR]
   have HR : Hid (eqL Ps.eqB (l.drop 0) (m.drop 0) = R) := hQ0 (by rw [hR]; rfl)
   have HA := hQ0 hA
   have HB := hQ0 hB
   have HLM := hQ0 hlm
   rw [← hlm]
   clear hR hA hB hlm
   go_enter Tryz.func48, Tryz.ntmps48; (try simp only [List.append_eq, List.cons_append, List.nil_append])
   go_wp2_with fail
   go_loopw [13] (fun t wr => ∃ k : Nat, k ≤ l.length ∧ t = .int .i64 k ∧ Below w.heap.size w wr ∧ Hid (eqL Ps.eqB (l.drop k) (m.drop k) = R)) (fun t _ => l.length - (intOf t).toNat)
   case atStart => exact ⟨0, by omega, rfl, Below.refl _ _, HR⟩
   case round =>
    obtain ⟨k, hk, rfl, hb_wr, HJ⟩ := hrel
    have hz_wr := hb_wr.size
    by_cases hlt : k < l.length
    · obtain ⟨x, hx⟩ : ∃ x, l[k]? = some x := ⟨l[k], by simp⟩
      obtain ⟨y, hy⟩ : ∃ y, m[k]? = some y := ⟨m[k]'(by have := HLM.out; omega), by simp⟩
      obtain ⟨g, o, rfl, hg, c0, c1, c2, c3, c4, c5, c6, c7, c8, c9, c10⟩ := Ps.get (HA.out.below hb_wr (Nat.le_refl _)) hx
      obtain ⟨g', o', rfl, hg', d0, d1, d2, d3, d4, d5, d6, d7, d8, d9, d10⟩ := Ps.get (HB.out.below hb_wr (Nat.le_refl _)) hy
      have HST := hQ0 (eqL_drop (f := Ps.eqB) hx hy)
      have i1 : (k : Int) < (l.length : Int) := by omega
      have i2 : (k : Int) < (m.length : Int) := by have := HLM.out; omega
      have HBe := hQ0 hb_wr
      clear hb_wr hx hy
      by_cases hxy : x = y
      · subst hxy
        have hnx : Hid (eqL Ps.eqB (l.drop (k + 1)) (m.drop (k + 1)) = R) := hQ0 (by rw [← HJ.out, HST.out, Ps.eqB_iff.2 rfl, Bool.true_and])
        clear HJ HR HST
        go_upto_region 6 with (fail)
        have hS_ : Below wr.heap.size wr wr.drew := (Below.refl _ _).drew
        refine wp_region_N (Below wr.heap.size wr) 9 [] (by kernel_rfl) (by kernel_rfl) (by kernel_rfl) (by kernel_rfl) ?_
        intro hT_ hD_
        generalize wr.drew = wd_ at hS_ ⊢
        apply wpN_maybe (i := 0) hT_ hD_ rfl (by kernel_rfl) true (by exact rfl)
        (case h => intro _; intro W_ hW_; have hcW_ := (bcellW hW_).1; go_simp; first | done | exact rfl); (case hQ => exact fun _ _ _ h => h); (case hS => exact hS_)
        intro hD2_; clear hD_; have hD_ := hD2_; clear hD2_; intro K hK; (try simp only [opt_true]); go_simp; refine hK _ _ ?_; clear hK K
        apply wpN_maybe (i := 1) hT_ hD_ rfl (by kernel_rfl) true (by exact rfl)
        (case h => intro _; intro W_ hW_; have hcW_ := (bcellW hW_).1; go_simp; first | done | exact rfl); (case hQ => exact fun _ _ _ h => h); (case hS => exact hS_)
        intro hD2_; clear hD_; have hD_ := hD2_; clear hD2_; intro K hK; (try simp only [opt_true]); go_simp; refine hK _ _ ?_; clear hK K
        apply wpN_maybe (i := 2) hT_ hD_ rfl (by kernel_rfl) true (by exact rfl)
        (case h => intro _; intro W_ hW_; have hcW_ := (bcellW hW_).1; go_simp; first | done | exact rfl); (case hQ => exact fun _ _ _ h => h); (case hS => exact hS_)
        intro hD2_; clear hD_; have hD_ := hD2_; clear hD2_; intro K hK; (try simp only [opt_true]); go_simp; refine hK _ _ ?_; clear hK K
        apply wpN_maybe (i := 3) hT_ hD_ rfl (by kernel_rfl) true (by exact rfl)
        (case h => intro _; intro W_ hW_; have hcW_ := (bcellW hW_).1; go_simp; first | done | exact rfl); (case hQ => exact fun _ _ _ h => h); (case hS => exact hS_)
        intro hD2_; clear hD_; have hD_ := hD2_; clear hD2_; intro K hK; (try simp only [opt_true]); go_simp; refine hK _ _ ?_; clear hK K
        apply wpN_maybe (i := 4) hT_ hD_ rfl (by kernel_rfl) true (by exact rfl)
        (case h => intro _; intro W_ hW_; have hcW_ := (bcellW hW_).1; go_simp; first | done | exact rfl); (case hQ => exact fun _ _ _ h => h); (case hS => exact hS_)
        intro hD2_; clear hD_; have hD_ := hD2_; clear hD2_; intro K hK; (try simp only [opt_true]); go_simp; refine hK _ _ ?_; clear hK K
        apply wpN_maybe (i := 5) hT_ hD_ rfl (by kernel_rfl) true (by exact rfl)
        (case h => intro _; intro W_ hW_; have hcW_ := (bcellW hW_).1; go_simp; first | done | exact rfl); (case hQ => exact fun _ _ _ h => h); (case hS => exact hS_)
        intro hD2_; clear hD_; have hD_ := hD2_; clear hD2_; intro K hK; (try simp only [opt_true]); go_simp; refine hK _ _ ?_; clear hK K
        apply wpN_maybe (i := 6) hT_ hD_ rfl (by kernel_rfl) true (by exact rfl)
        (case h => intro _; intro W_ hW_; have hcW_ := (bcellW hW_).1; go_simp; first | done | exact rfl); (case hQ => exact fun _ _ _ h => h); (case hS => exact hS_)
        intro hD2_; clear hD_; have hD_ := hD2_; clear hD2_; intro K hK; (try simp only [opt_true]); go_simp; refine hK _ _ ?_; clear hK K
        apply wpN_maybe (i := 7) hT_ hD_ rfl (by kernel_rfl) true (by exact rfl)
        (case h => intro _; intro W_ hW_; have hcW_ := (bcellW hW_).1; go_simp; first | done | exact rfl); (case hQ => exact fun _ _ _ h => h); (case hS => exact hS_)
        intro hD2_; clear hD_; have hD_ := hD2_; clear hD2_; intro K hK; (try simp only [opt_true]); go_simp; refine hK _ _ ?_; clear hK K
        apply wpN_maybe (i := 8) hT_ hD_ rfl (by kernel_rfl) true (by exact rfl) (.bool false)
        (case h => intro _; intro W_ hW_; have hcW_ := (bcellW hW_).1; go_simp; first | done | exact rfl | simp); (case hQ => exact fun _ _ _ h => h); (case hS => exact hS_)
        intro hD2_; clear hD_; have hD_ := hD2_; clear hD2_; intro K hK; (try simp only [opt_true]); go_simp; refine hK _ _ ?_; clear hK K
        refine wpZ_nil (by kernel_rfl) ?_
        (try simp only [List.filterMap_nil])
        (try go_simp)
        go_wp2_with fail
        go_roundw
        case rel => exact ⟨k + 1, by omega, by go_num, HBe.out.trans (hS_.mono hz_wr), hnx⟩
        case measure => simp [intOf]; omega
      · obtain rfl : R = false := by rw [← HJ.out, HST.out, Bool.eq_false_iff.2 (fun h => hxy (Ps.eqB_iff.1 h))]; rfl
        have HNE := hQ0 hxy
        clear HJ HR HST hxy
        go_upto_region 6 with (fail)
        have hS_ : Below wr.heap.size wr wr.drew := (Below.refl _ _).drew
        refine wp_region_N (Below wr.heap.size wr) 9 [] (by kernel_rfl) (by kernel_rfl) (by kernel_rfl) (by kernel_rfl) ?_
        intro hT_ hD_
        generalize wr.drew = wd_ at hS_ ⊢
        apply wpN_maybe (i := 0) hT_ hD_ rfl (by kernel_rfl) true (by exact rfl)
        (case h => intro _; intro W_ hW_; have hcW_ := (bcellW hW_).1; go_simp; first | done | exact rfl); (case hQ => exact fun _ _ _ h => h); (case hS => exact hS_)
        intro hD2_; clear hD_; have hD_ := hD2_; clear hD2_; intro K hK; (try simp only [opt_true]); go_simp; refine hK _ _ ?_; clear hK K
        apply wpN_maybe (i := 1) hT_ hD_ rfl (by kernel_rfl) true (by exact rfl)
        (case h => intro _; intro W_ hW_; have hcW_ := (bcellW hW_).1; go_simp; first | done | exact rfl); (case hQ => exact fun _ _ _ h => h); (case hS => exact hS_)
        intro hD2_; clear hD_; have hD_ := hD2_; clear hD2_; intro K hK; (try simp only [opt_true]); go_simp; refine hK _ _ ?_; clear hK K
        apply wpN_maybe (i := 2) hT_ hD_ rfl (by kernel_rfl) true (by exact rfl)
        (case h => intro _; intro W_ hW_; have hcW_ := (bcellW hW_).1; go_simp; first | done | exact rfl); (case hQ => exact fun _ _ _ h => h); (case hS => exact hS_)
        intro hD2_; clear hD_; have hD_ := hD2_; clear hD2_; intro K hK; (try simp only [opt_true]); go_simp; refine hK _ _ ?_; clear hK K
        apply wpN_maybe (i := 3) hT_ hD_ rfl (by kernel_rfl) true (by exact rfl)
        (case h => intro _; intro W_ hW_; have hcW_ := (bcellW hW_).1; go_simp; first | done | exact rfl); (case hQ => exact fun _ _ _ h => h); (case hS => exact hS_)
        intro hD2_; clear hD_; have hD_ := hD2_; clear hD2_; intro K hK; (try simp only [opt_true]); go_simp; refine hK _ _ ?_; clear hK K
        apply wpN_maybe (i := 4) hT_ hD_ rfl (by kernel_rfl) true (by exact rfl)
        (case h => intro _; intro W_ hW_; have hcW_ := (bcellW hW_).1; go_simp; first | done | exact rfl); (case hQ => exact fun _ _ _ h => h); (case hS => exact hS_)
        intro hD2_; clear hD_; have hD_ := hD2_; clear hD2_; intro K hK; (try simp only [opt_true]); go_simp; refine hK _ _ ?_; clear hK K
        apply wpN_maybe (i := 5) hT_ hD_ rfl (by kernel_rfl) true (by exact rfl)
        (case h => intro _; intro W_ hW_; have hcW_ := (bcellW hW_).1; go_simp; first | done | exact rfl); (case hQ => exact fun _ _ _ h => h); (case hS => exact hS_)
        intro hD2_; clear hD_; have hD_ := hD2_; clear hD2_; intro K hK; (try simp only [opt_true]); go_simp; refine hK _ _ ?_; clear hK K
        apply wpN_maybe (i := 6) hT_ hD_ rfl (by kernel_rfl) true (by exact rfl)
        (case h => intro _; intro W_ hW_; have hcW_ := (bcellW hW_).1; go_simp; first | done | exact rfl); (case hQ => exact fun _ _ _ h => h); (case hS => exact hS_)
        intro hD2_; clear hD_; have hD_ := hD2_; clear hD2_; intro K hK; (try simp only [opt_true]); go_simp; refine hK _ _ ?_; clear hK K
        apply wpN_maybe (i := 7) hT_ hD_ rfl (by kernel_rfl) true (by exact rfl)
        (case h => intro _; intro W_ hW_; have hcW_ := (bcellW hW_).1; go_simp; first | done | exact rfl); (case hQ => exact fun _ _ _ h => h); (case hS => exact hS_)
        intro hD2_; clear hD_; have hD_ := hD2_; clear hD2_; intro K hK; (try simp only [opt_true]); go_simp; refine hK _ _ ?_; clear hK K
        apply wpN_maybe (i := 8) hT_ hD_ rfl (by kernel_rfl) true (by exact rfl) (.bool true)
        (case h => intro _; intro W_ hW_; have hcW_ := (bcellW hW_).1; go_simp; first | done | (intro h_0 h_1 h_2 h_3 h_4 h_5 h_6 h_7 h_8 h_9 h_10; apply HNE.out; replace h_0 := txt_inj h_0; cases x; cases y; simp only at h_0 h_1 h_2 h_3 h_4 h_5 h_6 h_7 h_8 h_9 h_10; subst h_0 h_1 h_2 h_3 h_4 h_5 h_6 h_7 h_8 h_9 h_10; rfl)); (case hQ => exact fun _ _ _ h => h); (case hS => exact hS_)
        intro hD2_; clear hD_; have hD_ := hD2_; clear hD2_; intro K hK; (try simp only [opt_true]); go_simp; refine hK _ _ ?_; clear hK K
        refine wpZ_nil (by kernel_rfl) ?_
        (try simp only [List.filterMap_nil])
        (try go_simp)
        go_wp2_with fail
        go_ret
        exact ⟨rfl, HBe.out.trans (hS_.mono hz_wr)⟩
    · obtain rfl : k = l.length := by omega
      obtain rfl : R = true := by rw [← HJ.out]; exact eqL_end (Nat.le_refl _) (by have := HLM.out; omega)
      go_wp2_with fail
      go_ret
      exact ⟨rfl, hb_wr⟩
 · rw [eqL_len hlm]
   have i0 : ¬ (l.length : Int) = (m.length : Int) := by omega
   go_enter Tryz.func48, Tryz.ntmps48; (try simp only [List.append_eq, List.cons_append, List.nil_append])
   go_wp2_with fail
   go_ret
   exact ⟨rfl, Below.refl _ _⟩
def Fl.eqB (x y : Fl) : Bool := decide (x.nm = y.nm) && decide (x.lv = y.lv) && decide (x.p1 = y.p1) && decide (x.p2 = y.p2) && decide (x.ln = y.ln) && decide (x.mi = y.mi) && decide (x.lo = y.lo) && decide (x.hi = y.hi) && decide (x.up = y.up) && decide (x.dn = y.dn) && decide (x.mx = y.mx) && decide (x.rs = y.rs) && decide (x.gr = y.gr) && decide (x.cl = y.cl) && decide (x.sw = y.sw)
theorem Fl.eqB_iff {x y : Fl} : Fl.eqB x y = true ↔ x = y := by
 cases x; cases y
 simp [Fl.eqB, and_assoc]
set_option maxRecDepth 100000 in
set_option maxHeartbeats 4000000 in
theorem eq_fs (l m : List Fl) (A B : Option Addr) (c d : Nat) (w : World) (hA : RowsAt 15 Fl.cells w A l) (hB : RowsAt 15 Fl.cells w B m) (h1 : l.length ≤ 1000000) (h2 : m.length ≤ 1000000) :
  Calls Tryz.prog 49 #[.slice A l.length c, .slice B m.length d] w fun e w' => e = .returned (.bool (eqL Fl.eqB l m)) ∧ Below w.heap.size w w' := by
 by_cases hlm : l.length = m.length
 · obtain ⟨R, hR⟩ : ∃ R, R = eqL Fl.eqB l m := ⟨_, rfl⟩
   rw [← hR]
   have HR : Hid (eqL Fl.eqB (l.drop 0) (m.drop 0) = R) := hQ0 (by rw [hR]; rfl)
   have HA := hQ0 hA
   have HB := hQ0 hB
   have HLM := hQ0 hlm
   rw [← hlm]
   clear hR hA hB hlm
   go_enter Tryz.func49, Tryz.ntmps49; (try simp only [List.append_eq, List.cons_append, List.nil_append])
   go_wp2_with fail
   go_loopw [13] (fun t wr => ∃ k : Nat, k ≤ l.length ∧ t = .int .i64 k ∧ Below w.heap.size w wr ∧ Hid (eqL Fl.eqB (l.drop k) (m.drop k) = R)) (fun t _ => l.length - (intOf t).toNat)
   case atStart => exact ⟨0, by omega, rfl, Below.refl _ _, HR⟩
   case round =>
    obtain ⟨k, hk, rfl, hb_wr, HJ⟩ := hrel
    have hz_wr := hb_wr.size
    by_cases hlt : k < l.length
    · obtain ⟨x, hx⟩ : ∃ x, l[k]? = some x := ⟨l[k], by simp⟩
      obtain ⟨y, hy⟩ : ∃ y, m[k]? = some y := ⟨m[k]'(by have := HLM.out; omega), by simp⟩
      obtain ⟨g, o, rfl, hg, c0, c1, c2, c3, c4, c5, c6, c7, c8, c9, c10, c11, c12, c13, c14⟩ := Fl.get (HA.out.below hb_wr (Nat.le_refl _)) hx
      obtain ⟨g', o', rfl, hg', d0, d1, d2, d3, d4, d5, d6, d7, d8, d9, d10, d11, d12, d13, d14⟩ := Fl.get (HB.out.below hb_wr (Nat.le_refl _)) hy
      have HST := hQ0 (eqL_drop (f := Fl.eqB) hx hy)
      have i1 : (k : Int) < (l.length : Int) := by omega
      have i2 : (k : Int) < (m.length : Int) := by have := HLM.out; omega
      have HBe := hQ0 hb_wr
      clear hb_wr hx hy
      by_cases hxy : x = y
      · subst hxy
        have hnx : Hid (eqL Fl.eqB (l.drop (k + 1)) (m.drop (k + 1)) = R) := hQ0 (by rw [← HJ.out, HST.out, Fl.eqB_iff.2 rfl, Bool.true_and])
        clear HJ HR HST
        go_upto_region 6 with (fail)
        have hS_ : Below wr.heap.size wr wr.drew := (Below.refl _ _).drew
        refine wp_region_N (Below wr.heap.size wr) 9 [] (by kernel_rfl) (by kernel_rfl) (by kernel_rfl) (by kernel_rfl) ?_
        intro hT_ hD_
        generalize wr.drew = wd_ at hS_ ⊢
        apply wpN_maybe (i := 0) hT_ hD_ rfl (by kernel_rfl) true (by exact rfl)
        (case h => intro _; intro W_ hW_; have hcW_ := (bcellW hW_).1; go_simp; first | done | exact rfl); (case hQ => exact fun _ _ _ h => h); (case hS => exact hS_)
        intro hD2_; clear hD_; have hD_ := hD2_; clear hD2_; intro K hK; (try simp only [opt_true]); go_simp; refine hK _ _ ?_; clear hK K
        apply wpN_maybe (i := 1) hT_ hD_ rfl (by kernel_rfl) true (by exact rfl)
        (case h => intro _; intro W_ hW_; have hcW_ := (bcellW hW_).1; go_simp; first | done | exact rfl); (case hQ => exact fun _ _ _ h => h); (case hS => exact hS_)
        intro hD2_; clear hD_; have hD_ := hD2_; clear hD2_; intro K hK; (try simp only [opt_true]); go_simp; refine hK _ _ ?_; clear hK K
        apply wpN_maybe (i := 2) hT_ hD_ rfl (by kernel_rfl) true (by exact rfl)
        (case h => intro _; intro W_ hW_; have hcW_ := (bcellW hW_).1; go_simp; first | done | exact rfl); (case hQ => exact fun _ _ _ h => h); (case hS => exact hS_)
        intro hD2_; clear hD_; have hD_ := hD2_; clear hD2_; intro K hK; (try simp only [opt_true]); go_simp; refine hK _ _ ?_; clear hK K
        apply wpN_maybe (i := 3) hT_ hD_ rfl (by kernel_rfl) true (by exact rfl)
        (case h => intro _; intro W_ hW_; have hcW_ := (bcellW hW_).1; go_simp; first | done | exact rfl); (case hQ => exact fun _ _ _ h => h); (case hS => exact hS_)
        intro hD2_; clear hD_; have hD_ := hD2_; clear hD2_; intro K hK; (try simp only [opt_true]); go_simp; refine hK _ _ ?_; clear hK K
        apply wpN_maybe (i := 4) hT_ hD_ rfl (by kernel_rfl) true (by exact rfl)
        (case h => intro _; intro W_ hW_; have hcW_ := (bcellW hW_).1; go_simp; first | done | exact rfl); (case hQ => exact fun _ _ _ h => h); (case hS => exact hS_)
        intro hD2_; clear hD_; have hD_ := hD2_; clear hD2_; intro K hK; (try simp only [opt_true]); go_simp; refine hK _ _ ?_; clear hK K
        apply wpN_maybe (i := 5) hT_ hD_ rfl (by kernel_rfl) true (by exact rfl)
        (case h => intro _; intro W_ hW_; have hcW_ := (bcellW hW_).1; go_simp; first | done | exact rfl); (case hQ => exact fun _ _ _ h => h); (case hS => exact hS_)
        intro hD2_; clear hD_; have hD_ := hD2_; clear hD2_; intro K hK; (try simp only [opt_true]); go_simp; refine hK _ _ ?_; clear hK K
        apply wpN_maybe (i := 6) hT_ hD_ rfl (by kernel_rfl) true (by exact rfl)
        (case h => intro _; intro W_ hW_; have hcW_ := (bcellW hW_).1; go_simp; first | done | exact rfl); (case hQ => exact fun _ _ _ h => h); (case hS => exact hS_)
        intro hD2_; clear hD_; have hD_ := hD2_; clear hD2_; intro K hK; (try simp only [opt_true]); go_simp; refine hK _ _ ?_; clear hK K
        apply wpN_maybe (i := 7) hT_ hD_ rfl (by kernel_rfl) true (by exact rfl)
        (case h => intro _; intro W_ hW_; have hcW_ := (bcellW hW_).1; go_simp; first | done | exact rfl); (case hQ => exact fun _ _ _ h => h); (case hS => exact hS_)
        intro hD2_; clear hD_; have hD_ := hD2_; clear hD2_; intro K hK; (try simp only [opt_true]); go_simp; refine hK _ _ ?_; clear hK K
        apply wpN_maybe (i := 8) hT_ hD_ rfl (by kernel_rfl) true (by exact rfl) (.bool false)
        (case h => intro _; intro W_ hW_; have hcW_ := (bcellW hW_).1; go_simp; first | done | exact rfl | simp); (case hQ => exact fun _ _ _ h => h); (case hS => exact hS_)
        intro hD2_; clear hD_; have hD_ := hD2_; clear hD2_; intro K hK; (try simp only [opt_true]); go_simp; refine hK _ _ ?_; clear hK K
        refine wpZ_nil (by kernel_rfl) ?_
        (try simp only [List.filterMap_nil])
        (try go_simp)
        go_wp2_with fail
        go_roundw
        case rel => exact ⟨k + 1, by omega, by go_num, HBe.out.trans (hS_.mono hz_wr), hnx⟩
        case measure => simp [intOf]; omega
      · obtain rfl : R = false := by rw [← HJ.out, HST.out, Bool.eq_false_iff.2 (fun h => hxy (Fl.eqB_iff.1 h))]; rfl
        have HNE := hQ0 hxy
        clear HJ HR HST hxy
        go_upto_region 6 with (fail)
        have hS_ : Below wr.heap.size wr wr.drew := (Below.refl _ _).drew
        refine wp_region_N (Below wr.heap.size wr) 9 [] (by kernel_rfl) (by kernel_rfl) (by kernel_rfl) (by kernel_rfl) ?_
        intro hT_ hD_
        generalize wr.drew = wd_ at hS_ ⊢
        apply wpN_maybe (i := 0) hT_ hD_ rfl (by kernel_rfl) true (by exact rfl)
        (case h => intro _; intro W_ hW_; have hcW_ := (bcellW hW_).1; go_simp; first | done | exact rfl); (case hQ => exact fun _ _ _ h => h); (case hS => exact hS_)
        intro hD2_; clear hD_; have hD_ := hD2_; clear hD2_; intro K hK; (try simp only [opt_true]); go_simp; refine hK _ _ ?_; clear hK K
        apply wpN_maybe (i := 1) hT_ hD_ rfl (by kernel_rfl) true (by exact rfl)
        (case h => intro _; intro W_ hW_; have hcW_ := (bcellW hW_).1; go_simp; first | done | exact rfl); (case hQ => exact fun _ _ _ h => h); (case hS => exact hS_)
        intro hD2_; clear hD_; have hD_ := hD2_; clear hD2_; intro K hK; (try simp only [opt_true]); go_simp; refine hK _ _ ?_; clear hK K
        apply wpN_maybe (i := 2) hT_ hD_ rfl (by kernel_rfl) true (by exact rfl)
        (case h => intro _; intro W_ hW_; have hcW_ := (bcellW hW_).1; go_simp; first | done | exact rfl); (case hQ => exact fun _ _ _ h => h); (case hS => exact hS_)
        intro hD2_; clear hD_; have hD_ := hD2_; clear hD2_; intro K hK; (try simp only [opt_true]); go_simp; refine hK _ _ ?_; clear hK K
        apply wpN_maybe (i := 3) hT_ hD_ rfl (by kernel_rfl) true (by exact rfl)
        (case h => intro _; intro W_ hW_; have hcW_ := (bcellW hW_).1; go_simp; first | done | exact rfl); (case hQ => exact fun _ _ _ h => h); (case hS => exact hS_)
        intro hD2_; clear hD_; have hD_ := hD2_; clear hD2_; intro K hK; (try simp only [opt_true]); go_simp; refine hK _ _ ?_; clear hK K
        apply wpN_maybe (i := 4) hT_ hD_ rfl (by kernel_rfl) true (by exact rfl)
        (case h => intro _; intro W_ hW_; have hcW_ := (bcellW hW_).1; go_simp; first | done | exact rfl); (case hQ => exact fun _ _ _ h => h); (case hS => exact hS_)
        intro hD2_; clear hD_; have hD_ := hD2_; clear hD2_; intro K hK; (try simp only [opt_true]); go_simp; refine hK _ _ ?_; clear hK K
        apply wpN_maybe (i := 5) hT_ hD_ rfl (by kernel_rfl) true (by exact rfl)
        (case h => intro _; intro W_ hW_; have hcW_ := (bcellW hW_).1; go_simp; first | done | exact rfl); (case hQ => exact fun _ _ _ h => h); (case hS => exact hS_)
        intro hD2_; clear hD_; have hD_ := hD2_; clear hD2_; intro K hK; (try simp only [opt_true]); go_simp; refine hK _ _ ?_; clear hK K
        apply wpN_maybe (i := 6) hT_ hD_ rfl (by kernel_rfl) true (by exact rfl)
        (case h => intro _; intro W_ hW_; have hcW_ := (bcellW hW_).1; go_simp; first | done | exact rfl); (case hQ => exact fun _ _ _ h => h); (case hS => exact hS_)
        intro hD2_; clear hD_; have hD_ := hD2_; clear hD2_; intro K hK; (try simp only [opt_true]); go_simp; refine hK _ _ ?_; clear hK K
        apply wpN_maybe (i := 7) hT_ hD_ rfl (by kernel_rfl) true (by exact rfl)
        (case h => intro _; intro W_ hW_; have hcW_ := (bcellW hW_).1; go_simp; first | done | exact rfl); (case hQ => exact fun _ _ _ h => h); (case hS => exact hS_)
        intro hD2_; clear hD_; have hD_ := hD2_; clear hD2_; intro K hK; (try simp only [opt_true]); go_simp; refine hK _ _ ?_; clear hK K
        apply wpN_maybe (i := 8) hT_ hD_ rfl (by kernel_rfl) true (by exact rfl) (.bool true)
        (case h => intro _; intro W_ hW_; have hcW_ := (bcellW hW_).1; go_simp; first | done | (intro h_0 h_1 h_2 h_3 h_4 h_5 h_6 h_7 h_8 h_9 h_10 h_11 h_12 h_13 h_14; apply HNE.out; replace h_0 := txt_inj h_0; cases x; cases y; simp only at h_0 h_1 h_2 h_3 h_4 h_5 h_6 h_7 h_8 h_9 h_10 h_11 h_12 h_13 h_14; subst h_0 h_1 h_2 h_3 h_4 h_5 h_6 h_7 h_8 h_9 h_10 h_11 h_12 h_13 h_14; rfl)); (case hQ => exact fun _ _ _ h => h); (case hS => exact hS_)
        intro hD2_; clear hD_; have hD_ := hD2_; clear hD2_; intro K hK; (try simp only [opt_true]); go_simp; refine hK _ _ ?_; clear hK K
        refine wpZ_nil (by kernel_rfl) ?_
        (try simp only [List.filterMap_nil])
        (try go_simp)
        go_wp2_with fail
        go_ret
        exact ⟨rfl, HBe.out.trans (hS_.mono hz_wr)⟩
    · obtain rfl : k = l.length := by omega
      obtain rfl : R = true := by rw [← HJ.out]; exact eqL_end (Nat.le_refl _) (by have := HLM.out; omega)
      go_wp2_with fail
      go_ret
      exact ⟨rfl, hb_wr⟩
 · rw [eqL_len hlm]
   have i0 : ¬ (l.length : Int) = (m.length : Int) := by omega
   go_enter Tryz.func49, Tryz.ntmps49; (try simp only [List.append_eq, List.cons_append, List.nil_append])
   go_wp2_with fail
   go_ret
   exact ⟨rfl, Below.refl _ _⟩
def Zn.eqB (x y : Zn) : Bool := decide (x.nm = y.nm) && decide (x.lv = y.lv) && decide (x.l1 = y.l1) && decide (x.l2 = y.l2) && decide (x.h1 = y.h1) && decide (x.h2 = y.h2) && decide (x.f1 = y.f1) && decide (x.f2 = y.f2) && decide (x.cl = y.cl)
theorem Zn.eqB_iff {x y : Zn} : Zn.eqB x y = true ↔ x = y := by
 cases x; cases y
 simp [Zn.eqB, and_assoc]
set_option maxRecDepth 100000 in
set_option maxHeartbeats 4000000 in
theorem eq_zs (l m : List Zn) (A B : Option Addr) (c d : Nat) (w : World) (hA : RowsAt 9 Zn.cells w A l) (hB : RowsAt 9 Zn.cells w B m) (h1 : l.length ≤ 1000000) (h2 : m.length ≤ 1000000) :
  Calls Tryz.prog 50 #[.slice A l.length c, .slice B m.length d] w fun e w' => e = .returned (.bool (eqL Zn.eqB l m)) ∧ Below w.heap.size w w' := by
 by_cases hlm : l.length = m.length
 · obtain ⟨R, hR⟩ : ∃ R, R = eqL Zn.eqB l m := ⟨_, rfl⟩
   rw [← hR]
   have HR : Hid (eqL Zn.eqB (l.drop 0) (m.drop 0) = R) := hQ0 (by rw [hR]; rfl)
   have HA := hQ0 hA
   have HB := hQ0 hB
   have HLM := hQ0 hlm
   rw [← hlm]
   clear hR hA hB hlm
   go_enter Tryz.func50, Tryz.ntmps50; (try simp only [List.append_eq, List.cons_append, List.nil_append])
   go_wp2_with fail
   go_loopw [13] (fun t wr => ∃ k : Nat, k ≤ l.length ∧ t = .int .i64 k ∧ Below w.heap.size w wr ∧ Hid (eqL Zn.eqB (l.drop k) (m.drop k) = R)) (fun t _ => l.length - (intOf t).toNat)
   case atStart => exact ⟨0, by omega, rfl, Below.refl _ _, HR⟩
   case round =>
    obtain ⟨k, hk, rfl, hb_wr, HJ⟩ := hrel
    have hz_wr := hb_wr.size
    by_cases hlt : k < l.length
    · obtain ⟨x, hx⟩ : ∃ x, l[k]? = some x := ⟨l[k], by simp⟩
      obtain ⟨y, hy⟩ : ∃ y, m[k]? = some y := ⟨m[k]'(by have := HLM.out; omega), by simp⟩
      obtain ⟨g, o, rfl, hg, c0, c1, c2, c3, c4, c5, c6, c7, c8⟩ := Zn.get (HA.out.below hb_wr (Nat.le_refl _)) hx
      obtain ⟨g', o', rfl, hg', d0, d1, d2, d3, d4, d5, d6, d7, d8⟩ := Zn.get (HB.out.below hb_wr (Nat.le_refl _)) hy
      have HST := hQ0 (eqL_drop (f := Zn.eqB) hx hy)
      have i1 : (k : Int) < (l.length : Int) := by omega
      have i2 : (k : Int) < (m.length : Int) := by have := HLM.out; omega
      have HBe := hQ0 hb_wr
      clear hb_wr hx hy
      by_cases hxy : x = y
      · subst hxy
        have hnx : Hid (eqL Zn.eqB (l.drop (k + 1)) (m.drop (k + 1)) = R) := hQ0 (by rw [← HJ.out, HST.out, Zn.eqB_iff.2 rfl, Bool.true_and])
        clear HJ HR HST
        go_upto_region 6 with (fail)
        have hS_ : Below wr.heap.size wr wr.drew := (Below.refl _ _).drew
        refine wp_region_N (Below wr.heap.size wr) 9 [] (by kernel_rfl) (by kernel_rfl) (by kernel_rfl) (by kernel_rfl) ?_
        intro hT_ hD_
        generalize wr.drew = wd_ at hS_ ⊢
        apply wpN_maybe (i := 0) hT_ hD_ rfl (by kernel_rfl) true (by exact rfl)
        (case h => intro _; intro W_ hW_; have hcW_ := (bcellW hW_).1; go_simp; first | done | exact rfl); (case hQ => exact fun _ _ _ h => h); (case hS => exact hS_)
        intro hD2_; clear hD_; have hD_ := hD2_; clear hD2_; intro K hK; (try simp only [opt_true]); go_simp; refine hK _ _ ?_; clear hK K
        apply wpN_maybe (i := 1) hT_ hD_ rfl (by kernel_rfl) true (by exact rfl)
        (case h => intro _; intro W_ hW_; have hcW_ := (bcellW hW_).1; go_simp; first | done | exact rfl); (case hQ => exact fun _ _ _ h => h); (case hS => exact hS_)
        intro hD2_; clear hD_; have hD_ := hD2_; clear hD2_; intro K hK; (try simp only [opt_true]); go_simp; refine hK _ _ ?_; clear hK K
        apply wpN_maybe (i := 2) hT_ hD_ rfl (by kernel_rfl) true (by exact rfl)
        (case h => intro _; intro W_ hW_; have hcW_ := (bcellW hW_).1; go_simp; first | done | exact rfl); (case hQ => exact fun _ _ _ h => h); (case hS => exact hS_)
        intro hD2_; clear hD_; have hD_ := hD2_; clear hD2_; intro K hK; (try simp only [opt_true]); go_simp; refine hK _ _ ?_; clear hK K
        apply wpN_maybe (i := 3) hT_ hD_ rfl (by kernel_rfl) true (by exact rfl)
        (case h => intro _; intro W_ hW_; have hcW_ := (bcellW hW_).1; go_simp; first | done | exact rfl); (case hQ => exact fun _ _ _ h => h); (case hS => exact hS_)
        intro hD2_; clear hD_; have hD_ := hD2_; clear hD2_; intro K hK; (try simp only [opt_true]); go_simp; refine hK _ _ ?_; clear hK K
        apply wpN_maybe (i := 4) hT_ hD_ rfl (by kernel_rfl) true (by exact rfl)
        (case h => intro _; intro W_ hW_; have hcW_ := (bcellW hW_).1; go_simp; first | done | exact rfl); (case hQ => exact fun _ _ _ h => h); (case hS => exact hS_)
        intro hD2_; clear hD_; have hD_ := hD2_; clear hD2_; intro K hK; (try simp only [opt_true]); go_simp; refine hK _ _ ?_; clear hK K
        apply wpN_maybe (i := 5) hT_ hD_ rfl (by kernel_rfl) true (by exact rfl)
        (case h => intro _; intro W_ hW_; have hcW_ := (bcellW hW_).1; go_simp; first | done | exact rfl); (case hQ => exact fun _ _ _ h => h); (case hS => exact hS_)
        intro hD2_; clear hD_; have hD_ := hD2_; clear hD2_; intro K hK; (try simp only [opt_true]); go_simp; refine hK _ _ ?_; clear hK K
        apply wpN_maybe (i := 6) hT_ hD_ rfl (by kernel_rfl) true (by exact rfl)
        (case h => intro _; intro W_ hW_; have hcW_ := (bcellW hW_).1; go_simp; first | done | exact rfl); (case hQ => exact fun _ _ _ h => h); (case hS => exact hS_)
        intro hD2_; clear hD_; have hD_ := hD2_; clear hD2_; intro K hK; (try simp only [opt_true]); go_simp; refine hK _ _ ?_; clear hK K
        apply wpN_maybe (i := 7) hT_ hD_ rfl (by kernel_rfl) true (by exact rfl)
        (case h => intro _; intro W_ hW_; have hcW_ := (bcellW hW_).1; go_simp; first | done | exact rfl); (case hQ => exact fun _ _ _ h => h); (case hS => exact hS_)
        intro hD2_; clear hD_; have hD_ := hD2_; clear hD2_; intro K hK; (try simp only [opt_true]); go_simp; refine hK _ _ ?_; clear hK K
        apply wpN_maybe (i := 8) hT_ hD_ rfl (by kernel_rfl) true (by exact rfl) (.bool false)
        (case h => intro _; intro W_ hW_; have hcW_ := (bcellW hW_).1; go_simp; first | done | exact rfl | simp); (case hQ => exact fun _ _ _ h => h); (case hS => exact hS_)
        intro hD2_; clear hD_; have hD_ := hD2_; clear hD2_; intro K hK; (try simp only [opt_true]); go_simp; refine hK _ _ ?_; clear hK K
        refine wpZ_nil (by kernel_rfl) ?_
        (try simp only [List.filterMap_nil])
        (try go_simp)
        go_wp2_with fail
        go_roundw
        case rel => exact ⟨k + 1, by omega, by go_num, HBe.out.trans (hS_.mono hz_wr), hnx⟩
        case measure => simp [intOf]; omega
      · obtain rfl : R = false := by rw [← HJ.out, HST.out, Bool.eq_false_iff.2 (fun h => hxy (Zn.eqB_iff.1 h))]; rfl
        have HNE := hQ0 hxy
        clear HJ HR HST hxy
        go_upto_region 6 with (fail)
        have hS_ : Below wr.heap.size wr wr.drew := (Below.refl _ _).drew
        refine wp_region_N (Below wr.heap.size wr) 9 [] (by kernel_rfl) (by kernel_rfl) (by kernel_rfl) (by kernel_rfl) ?_
        intro hT_ hD_
        generalize wr.drew = wd_ at hS_ ⊢
        apply wpN_maybe (i := 0) hT_ hD_ rfl (by kernel_rfl) true (by exact rfl)
        (case h => intro _; intro W_ hW_; have hcW_ := (bcellW hW_).1; go_simp; first | done | exact rfl); (case hQ => exact fun _ _ _ h => h); (case hS => exact hS_)
        intro hD2_; clear hD_; have hD_ := hD2_; clear hD2_; intro K hK; (try simp only [opt_true]); go_simp; refine hK _ _ ?_; clear hK K
        apply wpN_maybe (i := 1) hT_ hD_ rfl (by kernel_rfl) true (by exact rfl)
        (case h => intro _; intro W_ hW_; have hcW_ := (bcellW hW_).1; go_simp; first | done | exact rfl); (case hQ => exact fun _ _ _ h => h); (case hS => exact hS_)
        intro hD2_; clear hD_; have hD_ := hD2_; clear hD2_; intro K hK; (try simp only [opt_true]); go_simp; refine hK _ _ ?_; clear hK K
        apply wpN_maybe (i := 2) hT_ hD_ rfl (by kernel_rfl) true (by exact rfl)
        (case h => intro _; intro W_ hW_; have hcW_ := (bcellW hW_).1; go_simp; first | done | exact rfl); (case hQ => exact fun _ _ _ h => h); (case hS => exact hS_)
        intro hD2_; clear hD_; have hD_ := hD2_; clear hD2_; intro K hK; (try simp only [opt_true]); go_simp; refine hK _ _ ?_; clear hK K
        apply wpN_maybe (i := 3) hT_ hD_ rfl (by kernel_rfl) true (by exact rfl)
        (case h => intro _; intro W_ hW_; have hcW_ := (bcellW hW_).1; go_simp; first | done | exact rfl); (case hQ => exact fun _ _ _ h => h); (case hS => exact hS_)
        intro hD2_; clear hD_; have hD_ := hD2_; clear hD2_; intro K hK; (try simp only [opt_true]); go_simp; refine hK _ _ ?_; clear hK K
        apply wpN_maybe (i := 4) hT_ hD_ rfl (by kernel_rfl) true (by exact rfl)
        (case h => intro _; intro W_ hW_; have hcW_ := (bcellW hW_).1; go_simp; first | done | exact rfl); (case hQ => exact fun _ _ _ h => h); (case hS => exact hS_)
        intro hD2_; clear hD_; have hD_ := hD2_; clear hD2_; intro K hK; (try simp only [opt_true]); go_simp; refine hK _ _ ?_; clear hK K
        apply wpN_maybe (i := 5) hT_ hD_ rfl (by kernel_rfl) true (by exact rfl)
        (case h => intro _; intro W_ hW_; have hcW_ := (bcellW hW_).1; go_simp; first | done | exact rfl); (case hQ => exact fun _ _ _ h => h); (case hS => exact hS_)
        intro hD2_; clear hD_; have hD_ := hD2_; clear hD2_; intro K hK; (try simp only [opt_true]); go_simp; refine hK _ _ ?_; clear hK K
        apply wpN_maybe (i := 6) hT_ hD_ rfl (by kernel_rfl) true (by exact rfl)
        (case h => intro _; intro W_ hW_; have hcW_ := (bcellW hW_).1; go_simp; first | done | exact rfl); (case hQ => exact fun _ _ _ h => h); (case hS => exact hS_)
        intro hD2_; clear hD_; have hD_ := hD2_; clear hD2_; intro K hK; (try simp only [opt_true]); go_simp; refine hK _ _ ?_; clear hK K
        apply wpN_maybe (i := 7) hT_ hD_ rfl (by kernel_rfl) true (by exact rfl)
        (case h => intro _; intro W_ hW_; have hcW_ := (bcellW hW_).1; go_simp; first | done | exact rfl); (case hQ => exact fun _ _ _ h => h); (case hS => exact hS_)
        intro hD2_; clear hD_; have hD_ := hD2_; clear hD2_; intro K hK; (try simp only [opt_true]); go_simp; refine hK _ _ ?_; clear hK K
        apply wpN_maybe (i := 8) hT_ hD_ rfl (by kernel_rfl) true (by exact rfl) (.bool true)
        (case h => intro _; intro W_ hW_; have hcW_ := (bcellW hW_).1; go_simp; first | done | (intro h_0 h_1 h_2 h_3 h_4 h_5 h_6 h_7 h_8; apply HNE.out; replace h_0 := txt_inj h_0; cases x; cases y; simp only at h_0 h_1 h_2 h_3 h_4 h_5 h_6 h_7 h_8; subst h_0 h_1 h_2 h_3 h_4 h_5 h_6 h_7 h_8; rfl)); (case hQ => exact fun _ _ _ h => h); (case hS => exact hS_)
        intro hD2_; clear hD_; have hD_ := hD2_; clear hD2_; intro K hK; (try simp only [opt_true]); go_simp; refine hK _ _ ?_; clear hK K
        refine wpZ_nil (by kernel_rfl) ?_
        (try simp only [List.filterMap_nil])
        (try go_simp)
        go_wp2_with fail
        go_ret
        exact ⟨rfl, HBe.out.trans (hS_.mono hz_wr)⟩
    · obtain rfl : k = l.length := by omega
      obtain rfl : R = true := by rw [← HJ.out]; exact eqL_end (Nat.le_refl _) (by have := HLM.out; omega)
      go_wp2_with fail
      go_ret
      exact ⟨rfl, hb_wr⟩
 · rw [eqL_len hlm]
   have i0 : ¬ (l.length : Int) = (m.length : Int) := by omega
   go_enter Tryz.func50, Tryz.ntmps50; (try simp only [List.append_eq, List.cons_append, List.nil_append])
   go_wp2_with fail
   go_ret
   exact ⟨rfl, Below.refl _ _⟩
def Sc.eqB (x y : Sc) : Bool := decide (x.nm = y.nm) && decide (x.lv = y.lv) && decide (x.c1 = y.c1) && decide (x.c2 = y.c2) && decide (x.sz = y.sz) && decide (x.lm = y.lm) && decide (x.o1 = y.o1) && decide (x.o2 = y.o2) && decide (x.cl = y.cl) && decide (x.sw = y.sw)
theorem Sc.eqB_iff {x y : Sc} : Sc.eqB x y = true ↔ x = y := by
 cases x; cases y
 simp [Sc.eqB, and_assoc]
set_option maxRecDepth 100000 in
set_option maxHeartbeats 4000000 in
theorem eq_ss (l m : List Sc) (A B : Option Addr) (c d : Nat) (w : World) (hA : RowsAt 10 Sc.cells w A l) (hB : RowsAt 10 Sc.cells w B m) (h1 : l.length ≤ 1000000) (h2 : m.length ≤ 1000000) :
  Calls Tryz.prog 51 #[.slice A l.length c, .slice B m.length d] w fun e w' => e = .returned (.bool (eqL Sc.eqB l m)) ∧ Below w.heap.size w w' := by
 by_cases hlm : l.length = m.length
 · obtain ⟨R, hR⟩ : ∃ R, R = eqL Sc.eqB l m := ⟨_, rfl⟩
   rw [← hR]
   have HR : Hid (eqL Sc.eqB (l.drop 0) (m.drop 0) = R) := hQ0 (by rw [hR]; rfl)
   have HA := hQ0 hA
   have HB := hQ0 hB
   have HLM := hQ0 hlm
   rw [← hlm]
   clear hR hA hB hlm
   go_enter Tryz.func51, Tryz.ntmps51; (try simp only [List.append_eq, List.cons_append, List.nil_append])
   go_wp2_with fail
   go_loopw [13] (fun t wr => ∃ k : Nat, k ≤ l.length ∧ t = .int .i64 k ∧ Below w.heap.size w wr ∧ Hid (eqL Sc.eqB (l.drop k) (m.drop k) = R)) (fun t _ => l.length - (intOf t).toNat)
   case atStart => exact ⟨0, by omega, rfl, Below.refl _ _, HR⟩
   case round =>
    obtain ⟨k, hk, rfl, hb_wr, HJ⟩ := hrel
    have hz_wr := hb_wr.size
    by_cases hlt : k < l.length
    · obtain ⟨x, hx⟩ : ∃ x, l[k]? = some x := ⟨l[k], by simp⟩
      obtain ⟨y, hy⟩ : ∃ y, m[k]? = some y := ⟨m[k]'(by have := HLM.out; omega), by simp⟩
      obtain ⟨g, o, rfl, hg, c0, c1, c2, c3, c4, c5, c6, c7, c8, c9⟩ := Sc.get (HA.out.below hb_wr (Nat.le_refl _)) hx
      obtain ⟨g', o', rfl, hg', d0, d1, d2, d3, d4, d5, d6, d7, d8, d9⟩ := Sc.get (HB.out.below hb_wr (Nat.le_refl _)) hy
      have HST := hQ0 (eqL_drop (f := Sc.eqB) hx hy)
      have i1 : (k : Int) < (l.length : Int) := by omega
      have i2 : (k : Int) < (m.length : Int) := by have := HLM.out; omega
      have HBe := hQ0 hb_wr
      clear hb_wr hx hy
      by_cases hxy : x = y
      · subst hxy
        have hnx : Hid (eqL Sc.eqB (l.drop (k + 1)) (m.drop (k + 1)) = R) := hQ0 (by rw [← HJ.out, HST.out, Sc.eqB_iff.2 rfl, Bool.true_and])
        clear HJ HR HST
        go_upto_region 6 with (fail)
        have hS_ : Below wr.heap.size wr wr.drew := (Below.refl _ _).drew
        refine wp_region_N (Below wr.heap.size wr) 9 [] (by kernel_rfl) (by kernel_rfl) (by kernel_rfl) (by kernel_rfl) ?_
        intro hT_ hD_
        generalize wr.drew = wd_ at hS_ ⊢
        apply wpN_maybe (i := 0) hT_ hD_ rfl (by kernel_rfl) true (by exact rfl)
        (case h => intro _; intro W_ hW_; have hcW_ := (bcellW hW_).1; go_simp; first | done | exact rfl); (case hQ => exact fun _ _ _ h => h); (case hS => exact hS_)
        intro hD2_; clear hD_; have hD_ := hD2_; clear hD2_; intro K hK; (try simp only [opt_true]); go_simp; refine hK _ _ ?_; clear hK K
        apply wpN_maybe (i := 1) hT_ hD_ rfl (by kernel_rfl) true (by exact rfl)
        (case h => intro _; intro W_ hW_; have hcW_ := (bcellW hW_).1; go_simp; first | done | exact rfl); (case hQ => exact fun _ _ _ h => h); (case hS => exact hS_)
        intro hD2_; clear hD_; have hD_ := hD2_; clear hD2_; intro K hK; (try simp only [opt_true]); go_simp; refine hK _ _ ?_; clear hK K
        apply wpN_maybe (i := 2) hT_ hD_ rfl (by kernel_rfl) true (by exact rfl)
        (case h => intro _; intro W_ hW_; have hcW_ := (bcellW hW_).1; go_simp; first | done | exact rfl); (case hQ => exact fun _ _ _ h => h); (case hS => exact hS_)
        intro hD2_; clear hD_; have hD_ := hD2_; clear hD2_; intro K hK; (try simp only [opt_true]); go_simp; refine hK _ _ ?_; clear hK K
        apply wpN_maybe (i := 3) hT_ hD_ rfl (by kernel_rfl) true (by exact rfl)
        (case h => intro _; intro W_ hW_; have hcW_ := (bcellW hW_).1; go_simp; first | done | exact rfl); (case hQ => exact fun _ _ _ h => h); (case hS => exact hS_)
        intro hD2_; clear hD_; have hD_ := hD2_; clear hD2_; intro K hK; (try simp only [opt_true]); go_simp; refine hK _ _ ?_; clear hK K
        apply wpN_maybe (i := 4) hT_ hD_ rfl (by kernel_rfl) true (by exact rfl)
        (case h => intro _; intro W_ hW_; have hcW_ := (bcellW hW_).1; go_simp; first | done | exact rfl); (case hQ => exact fun _ _ _ h => h); (case hS => exact hS_)
        intro hD2_; clear hD_; have hD_ := hD2_; clear hD2_; intro K hK; (try simp only [opt_true]); go_simp; refine hK _ _ ?_; clear hK K
        apply wpN_maybe (i := 5) hT_ hD_ rfl (by kernel_rfl) true (by exact rfl)
        (case h => intro _; intro W_ hW_; have hcW_ := (bcellW hW_).1; go_simp; first | done | exact rfl); (case hQ => exact fun _ _ _ h => h); (case hS => exact hS_)
        intro hD2_; clear hD_; have hD_ := hD2_; clear hD2_; intro K hK; (try simp only [opt_true]); go_simp; refine hK _ _ ?_; clear hK K
        apply wpN_maybe (i := 6) hT_ hD_ rfl (by kernel_rfl) true (by exact rfl)
        (case h => intro _; intro W_ hW_; have hcW_ := (bcellW hW_).1; go_simp; first | done | exact rfl); (case hQ => exact fun _ _ _ h => h); (case hS => exact hS_)
        intro hD2_; clear hD_; have hD_ := hD2_; clear hD2_; intro K hK; (try simp only [opt_true]); go_simp; refine hK _ _ ?_; clear hK K
        apply wpN_maybe (i := 7) hT_ hD_ rfl (by kernel_rfl) true (by exact rfl)
        (case h => intro _; intro W_ hW_; have hcW_ := (bcellW hW_).1; go_simp; first | done | exact rfl); (case hQ => exact fun _ _ _ h => h); (case hS => exact hS_)
        intro hD2_; clear hD_; have hD_ := hD2_; clear hD2_; intro K hK; (try simp only [opt_true]); go_simp; refine hK _ _ ?_; clear hK K
        apply wpN_maybe (i := 8) hT_ hD_ rfl (by kernel_rfl) true (by exact rfl) (.bool false)
        (case h => intro _; intro W_ hW_; have hcW_ := (bcellW hW_).1; go_simp; first | done | exact rfl | simp); (case hQ => exact fun _ _ _ h => h); (case hS => exact hS_)
        intro hD2_; clear hD_; have hD_ := hD2_; clear hD2_; intro K hK; (try simp only [opt_true]); go_simp; refine hK _ _ ?_; clear hK K
        refine wpZ_nil (by kernel_rfl) ?_
        (try simp only [List.filterMap_nil])
        (try go_simp)
        go_wp2_with fail
        go_roundw
        case rel => exact ⟨k + 1, by omega, by go_num, HBe.out.trans (hS_.mono hz_wr), hnx⟩
        case measure => simp [intOf]; omega
      · obtain rfl : R = false := by rw [← HJ.out, HST.out, Bool.eq_false_iff.2 (fun h => hxy (Sc.eqB_iff.1 h))]; rfl
        have HNE := hQ0 hxy
        clear HJ HR HST hxy
        go_upto_region 6 with (fail)
        have hS_ : Below wr.heap.size wr wr.drew := (Below.refl _ _).drew
        refine wp_region_N (Below wr.heap.size wr) 9 [] (by kernel_rfl) (by kernel_rfl) (by kernel_rfl) (by kernel_rfl) ?_
        intro hT_ hD_
        generalize wr.drew = wd_ at hS_ ⊢
        apply wpN_maybe (i := 0) hT_ hD_ rfl (by kernel_rfl) true (by exact rfl)
        (case h => intro _; intro W_ hW_; have hcW_ := (bcellW hW_).1; go_simp; first | done | exact rfl); (case hQ => exact fun _ _ _ h => h); (case hS => exact hS_)
        intro hD2_; clear hD_; have hD_ := hD2_; clear hD2_; intro K hK; (try simp only [opt_true]); go_simp; refine hK _ _ ?_; clear hK K
        apply wpN_maybe (i := 1) hT_ hD_ rfl (by kernel_rfl) true (by exact rfl)
        (case h => intro _; intro W_ hW_; have hcW_ := (bcellW hW_).1; go_simp; first | done | exact rfl); (case hQ => exact fun _ _ _ h => h); (case hS => exact hS_)
        intro hD2_; clear hD_; have hD_ := hD2_; clear hD2_; intro K hK; (try simp only [opt_true]); go_simp; refine hK _ _ ?_; clear hK K
        apply wpN_maybe (i := 2) hT_ hD_ rfl (by kernel_rfl) true (by exact rfl)
        (case h => intro _; intro W_ hW_; have hcW_ := (bcellW hW_).1; go_simp; first | done | exact rfl); (case hQ => exact fun _ _ _ h => h); (case hS => exact hS_)
        intro hD2_; clear hD_; have hD_ := hD2_; clear hD2_; intro K hK; (try simp only [opt_true]); go_simp; refine hK _ _ ?_; clear hK K
        apply wpN_maybe (i := 3) hT_ hD_ rfl (by kernel_rfl) true (by exact rfl)
        (case h => intro _; intro W_ hW_; have hcW_ := (bcellW hW_).1; go_simp; first | done | exact rfl); (case hQ => exact fun _ _ _ h => h); (case hS => exact hS_)
        intro hD2_; clear hD_; have hD_ := hD2_; clear hD2_; intro K hK; (try simp only [opt_true]); go_simp; refine hK _ _ ?_; clear hK K
        apply wpN_maybe (i := 4) hT_ hD_ rfl (by kernel_rfl) true (by exact rfl)
        (case h => intro _; intro W_ hW_; have hcW_ := (bcellW hW_).1; go_simp; first | done | exact rfl); (case hQ => exact fun _ _ _ h => h); (case hS => exact hS_)
        intro hD2_; clear hD_; have hD_ := hD2_; clear hD2_; intro K hK; (try simp only [opt_true]); go_simp; refine hK _ _ ?_; clear hK K
        apply wpN_maybe (i := 5) hT_ hD_ rfl (by kernel_rfl) true (by exact rfl)
        (case h => intro _; intro W_ hW_; have hcW_ := (bcellW hW_).1; go_simp; first | done | exact rfl); (case hQ => exact fun _ _ _ h => h); (case hS => exact hS_)
        intro hD2_; clear hD_; have hD_ := hD2_; clear hD2_; intro K hK; (try simp only [opt_true]); go_simp; refine hK _ _ ?_; clear hK K
        apply wpN_maybe (i := 6) hT_ hD_ rfl (by kernel_rfl) true (by exact rfl)
        (case h => intro _; intro W_ hW_; have hcW_ := (bcellW hW_).1; go_simp; first | done | exact rfl); (case hQ => exact fun _ _ _ h => h); (case hS => exact hS_)
        intro hD2_; clear hD_; have hD_ := hD2_; clear hD2_; intro K hK; (try simp only [opt_true]); go_simp; refine hK _ _ ?_; clear hK K
        apply wpN_maybe (i := 7) hT_ hD_ rfl (by kernel_rfl) true (by exact rfl)
        (case h => intro _; intro W_ hW_; have hcW_ := (bcellW hW_).1; go_simp; first | done | exact rfl); (case hQ => exact fun _ _ _ h => h); (case hS => exact hS_)
        intro hD2_; clear hD_; have hD_ := hD2_; clear hD2_; intro K hK; (try simp only [opt_true]); go_simp; refine hK _ _ ?_; clear hK K
        apply wpN_maybe (i := 8) hT_ hD_ rfl (by kernel_rfl) true (by exact rfl) (.bool true)
        (case h => intro _; intro W_ hW_; have hcW_ := (bcellW hW_).1; go_simp; first | done | (intro h_0 h_1 h_2 h_3 h_4 h_5 h_6 h_7 h_8 h_9; apply HNE.out; replace h_0 := txt_inj h_0; cases x; cases y; simp only at h_0 h_1 h_2 h_3 h_4 h_5 h_6 h_7 h_8 h_9; subst h_0 h_1 h_2 h_3 h_4 h_5 h_6 h_7 h_8 h_9; rfl)); (case hQ => exact fun _ _ _ h => h); (case hS => exact hS_)
        intro hD2_; clear hD_; have hD_ := hD2_; clear hD2_; intro K hK; (try simp only [opt_true]); go_simp; refine hK _ _ ?_; clear hK K
        refine wpZ_nil (by kernel_rfl) ?_
        (try simp only [List.filterMap_nil])
        (try go_simp)
        go_wp2_with fail
        go_ret
        exact ⟨rfl, HBe.out.trans (hS_.mono hz_wr)⟩
    · obtain rfl : k = l.length := by omega
      obtain rfl : R = true := by rw [← HJ.out]; exact eqL_end (Nat.le_refl _) (by have := HLM.out; omega)
      go_wp2_with fail
      go_ret
      exact ⟨rfl, hb_wr⟩
 · rw [eqL_len hlm]
   have i0 : ¬ (l.length : Int) = (m.length : Int) := by omega
   go_enter Tryz.func51, Tryz.ntmps51; (try simp only [List.append_eq, List.cons_append, List.nil_append])
   go_wp2_with fail
   go_ret
   exact ⟨rfl, Below.refl _ _⟩
def La.eqB (x y : La) : Bool := decide (x.nm = y.nm) && decide (x.lv = y.lv) && decide (x.c1 = y.c1) && decide (x.c2 = y.c2) && decide (x.sz = y.sz) && decide (x.sw = y.sw)
theorem La.eqB_iff {x y : La} : La.eqB x y = true ↔ x = y := by
 cases x; cases y
 simp [La.eqB, and_assoc]
set_option maxRecDepth 100000 in
set_option maxHeartbeats 4000000 in
theorem eq_las (l m : List La) (A B : Option Addr) (c d : Nat) (w : World) (hA : RowsAt 6 La.cells w A l) (hB : RowsAt 6 La.cells w B m) (h1 : l.length ≤ 1000000) (h2 : m.length ≤ 1000000) :
  Calls Tryz.prog 52 #[.slice A l.length c, .slice B m.length d] w fun e w' => e = .returned (.bool (eqL La.eqB l m)) ∧ Below w.heap.size w w' := by
 by_cases hlm : l.length = m.length
 · obtain ⟨R, hR⟩ : ∃ R, R = eqL La.eqB l m := ⟨_, rfl⟩
   rw [← hR]
   have HR : Hid (eqL La.eqB (l.drop 0) (m.drop 0) = R) := hQ0 (by rw [hR]; rfl)
   have HA := hQ0 hA
   have HB := hQ0 hB
   have HLM := hQ0 hlm
   rw [← hlm]
   clear hR hA hB hlm
   go_enter Tryz.func52, Tryz.ntmps52; (try simp only [List.append_eq, List.cons_append, List.nil_append])
   go_wp2_with fail
   go_loopw [13] (fun t wr => ∃ k : Nat, k ≤ l.length ∧ t = .int .i64 k ∧ Below w.heap.size w wr ∧ Hid (eqL La.eqB (l.drop k) (m.drop k) = R)) (fun t _ => l.length - (intOf t).toNat)
   case atStart => exact ⟨0, by omega, rfl, Below.refl _ _, HR⟩
   case round =>
    obtain ⟨k, hk, rfl, hb_wr, HJ⟩ := hrel
    have hz_wr := hb_wr.size
    by_cases hlt : k < l.length
    · obtain ⟨x, hx⟩ : ∃ x, l[k]? = some x := ⟨l[k], by simp⟩
      obtain ⟨y, hy⟩ : ∃ y, m[k]? = some y := ⟨m[k]'(by have := HLM.out; omega), by simp⟩
      obtain ⟨g, o, rfl, hg, c0, c1, c2, c3, c4, c5⟩ := La.get (HA.out.below hb_wr (Nat.le_refl _)) hx
      obtain ⟨g', o', rfl, hg', d0, d1, d2, d3, d4, d5⟩ := La.get (HB.out.below hb_wr (Nat.le_refl _)) hy
      have HST := hQ0 (eqL_drop (f := La.eqB) hx hy)
      have i1 : (k : Int) < (l.length : Int) := by omega
      have i2 : (k : Int) < (m.length : Int) := by have := HLM.out; omega
      have HBe := hQ0 hb_wr
      clear hb_wr hx hy
      by_cases hxy : x = y
      · subst hxy
        have hnx : Hid (eqL La.eqB (l.drop (k + 1)) (m.drop (k + 1)) = R) := hQ0 (by rw [← HJ.out, HST.out, La.eqB_iff.2 rfl, Bool.true_and])
        clear HJ HR HST
        go_upto_region 6 with (fail)
        have hS_ : Below wr.heap.size wr wr.drew := (Below.refl _ _).drew
        refine wp_region_N (Below wr.heap.size wr) 9 [] (by kernel_rfl) (by kernel_rfl) (by kernel_rfl) (by kernel_rfl) ?_
        intro hT_ hD_
        generalize wr.drew = wd_ at hS_ ⊢
        apply wpN_maybe (i := 0) hT_ hD_ rfl (by kernel_rfl) true (by exact rfl)
        (case h => intro _; intro W_ hW_; have hcW_ := (bcellW hW_).1; go_simp; first | done | exact rfl); (case hQ => exact fun _ _ _ h => h); (case hS => exact hS_)
        intro hD2_; clear hD_; have hD_ := hD2_; clear hD2_; intro K hK; (try simp only [opt_true]); go_simp; refine hK _ _ ?_; clear hK K
        apply wpN_maybe (i := 1) hT_ hD_ rfl (by kernel_rfl) true (by exact rfl)
        (case h => intro _; intro W_ hW_; have hcW_ := (bcellW hW_).1; go_simp; first | done | exact rfl); (case hQ => exact fun _ _ _ h => h); (case hS => exact hS_)
        intro hD2_; clear hD_; have hD_ := hD2_; clear hD2_; intro K hK; (try simp only [opt_true]); go_simp; refine hK _ _ ?_; clear hK K
        apply wpN_maybe (i := 2) hT_ hD_ rfl (by kernel_rfl) true (by exact rfl)
        (case h => intro _; intro W_ hW_; have hcW_ := (bcellW hW_).1; go_simp; first | done | exact rfl); (case hQ => exact fun _ _ _ h => h); (case hS => exact hS_)
        intro hD2_; clear hD_; have hD_ := hD2_; clear hD2_; intro K hK; (try simp only [opt_true]); go_simp; refine hK _ _ ?_; clear hK K
        apply wpN_maybe (i := 3) hT_ hD_ rfl (by kernel_rfl) true (by exact rfl)
        (case h => intro _; intro W_ hW_; have hcW_ := (bcellW hW_).1; go_simp; first | done | exact rfl); (case hQ => exact fun _ _ _ h => h); (case hS => exact hS_)
        intro hD2_; clear hD_; have hD_ := hD2_; clear hD2_; intro K hK; (try simp only [opt_true]); go_simp; refine hK _ _ ?_; clear hK K
        apply wpN_maybe (i := 4) hT_ hD_ rfl (by kernel_rfl) true (by exact rfl)
        (case h => intro _; intro W_ hW_; have hcW_ := (bcellW hW_).1; go_simp; first | done | exact rfl); (case hQ => exact fun _ _ _ h => h); (case hS => exact hS_)
        intro hD2_; clear hD_; have hD_ := hD2_; clear hD2_; intro K hK; (try simp only [opt_true]); go_simp; refine hK _ _ ?_; clear hK K
        apply wpN_maybe (i := 5) hT_ hD_ rfl (by kernel_rfl) true (by exact rfl)
        (case h => intro _; intro W_ hW_; have hcW_ := (bcellW hW_).1; go_simp; first | done | exact rfl); (case hQ => exact fun _ _ _ h => h); (case hS => exact hS_)
        intro hD2_; clear hD_; have hD_ := hD2_; clear hD2_; intro K hK; (try simp only [opt_true]); go_simp; refine hK _ _ ?_; clear hK K
        apply wpN_maybe (i := 6) hT_ hD_ rfl (by kernel_rfl) true (by exact rfl)
        (case h => intro _; intro W_ hW_; have hcW_ := (bcellW hW_).1; go_simp; first | done | exact rfl); (case hQ => exact fun _ _ _ h => h); (case hS => exact hS_)
        intro hD2_; clear hD_; have hD_ := hD2_; clear hD2_; intro K hK; (try simp only [opt_true]); go_simp; refine hK _ _ ?_; clear hK K
        apply wpN_maybe (i := 7) hT_ hD_ rfl (by kernel_rfl) true (by exact rfl)
        (case h => intro _; intro W_ hW_; have hcW_ := (bcellW hW_).1; go_simp; first | done | exact rfl); (case hQ => exact fun _ _ _ h => h); (case hS => exact hS_)
        intro hD2_; clear hD_; have hD_ := hD2_; clear hD2_; intro K hK; (try simp only [opt_true]); go_simp; refine hK _ _ ?_; clear hK K
        apply wpN_maybe (i := 8) hT_ hD_ rfl (by kernel_rfl) true (by exact rfl) (.bool false)
        (case h => intro _; intro W_ hW_; have hcW_ := (bcellW hW_).1; go_simp; first | done | exact rfl | simp); (case hQ => exact fun _ _ _ h => h); (case hS => exact hS_)
        intro hD2_; clear hD_; have hD_ := hD2_; clear hD2_; intro K hK; (try simp only [opt_true]); go_simp; refine hK _ _ ?_; clear hK K
        refine wpZ_nil (by kernel_rfl) ?_
        (try simp only [List.filterMap_nil])
        (try go_simp)
        go_wp2_with fail
        go_roundw
        case rel => exact ⟨k + 1, by omega, by go_num, HBe.out.trans (hS_.mono hz_wr), hnx⟩
        case measure => simp [intOf]; omega
      · obtain rfl : R = false := by rw [← HJ.out, HST.out, Bool.eq_false_iff.2 (fun h => hxy (La.eqB_iff.1 h))]; rfl
        have HNE := hQ0 hxy
        clear HJ HR HST hxy
        go_upto_region 6 with (fail)
        have hS_ : Below wr.heap.size wr wr.drew := (Below.refl _ _).drew
        refine wp_region_N (Below wr.heap.size wr) 9 [] (by kernel_rfl) (by kernel_rfl) (by kernel_rfl) (by kernel_rfl) ?_
        intro hT_ hD_
        generalize wr.drew = wd_ at hS_ ⊢
        apply wpN_maybe (i := 0) hT_ hD_ rfl (by kernel_rfl) true (by exact rfl)
        (case h => intro _; intro W_ hW_; have hcW_ := (bcellW hW_).1; go_simp; first | done | exact rfl); (case hQ => exact fun _ _ _ h => h); (case hS => exact hS_)
        intro hD2_; clear hD_; have hD_ := hD2_; clear hD2_; intro K hK; (try simp only [opt_true]); go_simp; refine hK _ _ ?_; clear hK K
        apply wpN_maybe (i := 1) hT_ hD_ rfl (by kernel_rfl) true (by exact rfl)
        (case h => intro _; intro W_ hW_; have hcW_ := (bcellW hW_).1; go_simp; first | done | exact rfl); (case hQ => exact fun _ _ _ h => h); (case hS => exact hS_)
        intro hD2_; clear hD_; have hD_ := hD2_; clear hD2_; intro K hK; (try simp only [opt_true]); go_simp; refine hK _ _ ?_; clear hK K
        apply wpN_maybe (i := 2) hT_ hD_ rfl (by kernel_rfl) true (by exact rfl)
        (case h => intro _; intro W_ hW_; have hcW_ := (bcellW hW_).1; go_simp; first | done | exact rfl); (case hQ => exact fun _ _ _ h => h); (case hS => exact hS_)
        intro hD2_; clear hD_; have hD_ := hD2_; clear hD2_; intro K hK; (try simp only [opt_true]); go_simp; refine hK _ _ ?_; clear hK K
        apply wpN_maybe (i := 3) hT_ hD_ rfl (by kernel_rfl) true (by exact rfl)
        (case h => intro _; intro W_ hW_; have hcW_ := (bcellW hW_).1; go_simp; first | done | exact rfl); (case hQ => exact fun _ _ _ h => h); (case hS => exact hS_)
        intro hD2_; clear hD_; have hD_ := hD2_; clear hD2_; intro K hK; (try simp only [opt_true]); go_simp; refine hK _ _ ?_; clear hK K
        apply wpN_maybe (i := 4) hT_ hD_ rfl (by kernel_rfl) true (by exact rfl)
        (case h => intro _; intro W_ hW_; have hcW_ := (bcellW hW_).1; go_simp; first | done | exact rfl); (case hQ => exact fun _ _ _ h => h); (case hS => exact hS_)
        intro hD2_; clear hD_; have hD_ := hD2_; clear hD2_; intro K hK; (try simp only [opt_true]); go_simp; refine hK _ _ ?_; clear hK K
        apply wpN_maybe (i := 5) hT_ hD_ rfl (by kernel_rfl) true (by exact rfl)
        (case h => intro _; intro W_ hW_; have hcW_ := (bcellW hW_).1; go_simp; first | done | exact rfl); (case hQ => exact fun _ _ _ h => h); (case hS => exact hS_)
        intro hD2_; clear hD_; have hD_ := hD2_; clear hD2_; intro K hK; (try simp only [opt_true]); go_simp; refine hK _ _ ?_; clear hK K
        apply wpN_maybe (i := 6) hT_ hD_ rfl (by kernel_rfl) true (by exact rfl)
        (case h => intro _; intro W_ hW_; have hcW_ := (bcellW hW_).1; go_simp; first | done | exact rfl); (case hQ => exact fun _ _ _ h => h); (case hS => exact hS_)
        intro hD2_; clear hD_; have hD_ := hD2_; clear hD2_; intro K hK; (try simp only [opt_true]); go_simp; refine hK _ _ ?_; clear hK K
        apply wpN_maybe (i := 7) hT_ hD_ rfl (by kernel_rfl) true (by exact rfl)
        (case h => intro _; intro W_ hW_; have hcW_ := (bcellW hW_).1; go_simp; first | done | exact rfl); (case hQ => exact fun _ _ _ h => h); (case hS => exact hS_)
        intro hD2_; clear hD_; have hD_ := hD2_; clear hD2_; intro K hK; (try simp only [opt_true]); go_simp; refine hK _ _ ?_; clear hK K
        apply wpN_maybe (i := 8) hT_ hD_ rfl (by kernel_rfl) true (by exact rfl) (.bool true)
        (case h => intro _; intro W_ hW_; have hcW_ := (bcellW hW_).1; go_simp; first | done | (intro h_0 h_1 h_2 h_3 h_4 h_5; apply HNE.out; replace h_0 := txt_inj h_0; cases x; cases y; simp only at h_0 h_1 h_2 h_3 h_4 h_5; subst h_0 h_1 h_2 h_3 h_4 h_5; rfl)); (case hQ => exact fun _ _ _ h => h); (case hS => exact hS_)
        intro hD2_; clear hD_; have hD_ := hD2_; clear hD2_; intro K hK; (try simp only [opt_true]); go_simp; refine hK _ _ ?_; clear hK K
        refine wpZ_nil (by kernel_rfl) ?_
        (try simp only [List.filterMap_nil])
        (try go_simp)
        go_wp2_with fail
        go_ret
        exact ⟨rfl, HBe.out.trans (hS_.mono hz_wr)⟩
    · obtain rfl : k = l.length := by omega
      obtain rfl : R = true := by rw [← HJ.out]; exact eqL_end (Nat.le_refl _) (by have := HLM.out; omega)
      go_wp2_with fail
      go_ret
      exact ⟨rfl, hb_wr⟩
 · rw [eqL_len hlm]
   have i0 : ¬ (l.length : Int) = (m.length : Int) := by omega
   go_enter Tryz.func52, Tryz.ntmps52; (try simp only [List.append_eq, List.cons_append, List.nil_append])
   go_wp2_with fail
   go_ret
   exact ⟨rfl, Below.refl _ _⟩
def Ra.eqB (x y : Ra) : Bool := decide (x.nm = y.nm) && decide (x.fr = y.fr) && decide (x.to = y.to) && decide (x.c1 = y.c1) && decide (x.c2 = y.c2) && decide (x.sz = y.sz) && decide (x.d1 = y.d1) && decide (x.d2 = y.d2)
theorem Ra.eqB_iff {x y : Ra} : Ra.eqB x y = true ↔ x = y := by
 cases x; cases y
 simp [Ra.eqB, and_assoc]
set_option maxRecDepth 100000 in
set_option maxHeartbeats 4000000 in
theorem eq_rs (l m : List Ra) (A B : Option Addr) (c d : Nat) (w : World) (hA : RowsAt 8 Ra.cells w A l) (hB : RowsAt 8 Ra.cells w B m) (h1 : l.length ≤ 1000000) (h2 : m.length ≤ 1000000) :
  Calls Tryz.prog 53 #[.slice A l.length c, .slice B m.length d] w fun e w' => e = .returned (.bool (eqL Ra.eqB l m)) ∧ Below w.heap.size w w' := by
 by_cases hlm : l.length = m.length
 · obtain ⟨R, hR⟩ : ∃ R, R = eqL Ra.eqB l m := ⟨_, rfl⟩
   rw [← hR]
   have HR : Hid (eqL Ra.eqB (l.drop 0) (m.drop 0) = R) := hQ0 (by rw [hR]; rfl)
   have HA := hQ0 hA
   have HB := hQ0 hB
   have HLM := hQ0 hlm
   rw [← hlm]
   clear hR hA hB hlm
   go_enter Tryz.func53, Tryz.ntmps53; (try simp only [List.append_eq, List.cons_append, List.nil_append])
   go_wp2_with fail
   go_loopw [13] (fun t wr => ∃ k : Nat, k ≤ l.length ∧ t = .int .i64 k ∧ Below w.heap.size w wr ∧ Hid (eqL Ra.eqB (l.drop k) (m.drop k) = R)) (fun t _ => l.length - (intOf t).toNat)
   case atStart => exact ⟨0, by omega, rfl, Below.refl _ _, HR⟩
   case round =>
    obtain ⟨k, hk, rfl, hb_wr, HJ⟩ := hrel
    have hz_wr := hb_wr.size
    by_cases hlt : k < l.length
    · obtain ⟨x, hx⟩ : ∃ x, l[k]? = some x := ⟨l[k], by simp⟩
      obtain ⟨y, hy⟩ : ∃ y, m[k]? = some y := ⟨m[k]'(by have := HLM.out; omega), by simp⟩
      obtain ⟨g, o, rfl, hg, c0, c1, c2, c3, c4, c5, c6, c7⟩ := Ra.get (HA.out.below hb_wr (Nat.le_refl _)) hx
      obtain ⟨g', o', rfl, hg', d0, d1, d2, d3, d4, d5, d6, d7⟩ := Ra.get (HB.out.below hb_wr (Nat.le_refl _)) hy
      have HST := hQ0 (eqL_drop (f := Ra.eqB) hx hy)
      have i1 : (k : Int) < (l.length : Int) := by omega
      have i2 : (k : Int) < (m.length : Int) := by have := HLM.out; omega
      have HBe := hQ0 hb_wr
      clear hb_wr hx hy
      by_cases hxy : x = y
      · subst hxy
        have hnx : Hid (eqL Ra.eqB (l.drop (k + 1)) (m.drop (k + 1)) = R) := hQ0 (by rw [← HJ.out, HST.out, Ra.eqB_iff.2 rfl, Bool.true_and])
        clear HJ HR HST
        go_upto_region 6 with (fail)
        have hS_ : Below wr.heap.size wr wr.drew := (Below.refl _ _).drew
        refine wp_region_N (Below wr.heap.size wr) 9 [] (by kernel_rfl) (by kernel_rfl) (by kernel_rfl) (by kernel_rfl) ?_
        intro hT_ hD_
        generalize wr.drew = wd_ at hS_ ⊢
        apply wpN_maybe (i := 0) hT_ hD_ rfl (by kernel_rfl) true (by exact rfl)
        (case h => intro _; intro W_ hW_; have hcW_ := (bcellW hW_).1; go_simp; first | done | exact rfl); (case hQ => exact fun _ _ _ h => h); (case hS => exact hS_)
        intro hD2_; clear hD_; have hD_ := hD2_; clear hD2_; intro K hK; (try simp only [opt_true]); go_simp; refine hK _ _ ?_; clear hK K
        apply wpN_maybe (i := 1) hT_ hD_ rfl (by kernel_rfl) true (by exact rfl)
        (case h => intro _; intro W_ hW_; have hcW_ := (bcellW hW_).1; go_simp; first | done | exact rfl); (case hQ => exact fun _ _ _ h => h); (case hS => exact hS_)
        intro hD2_; clear hD_; have hD_ := hD2_; clear hD2_; intro K hK; (try simp only [opt_true]); go_simp; refine hK _ _ ?_; clear hK K
        apply wpN_maybe (i := 2) hT_ hD_ rfl (by kernel_rfl) true (by exact rfl)
        (case h => intro _; intro W_ hW_; have hcW_ := (bcellW hW_).1; go_simp; first | done | exact rfl); (case hQ => exact fun _ _ _ h => h); (case hS => exact hS_)
        intro hD2_; clear hD_; have hD_ := hD2_; clear hD2_; intro K hK; (try simp only [opt_true]); go_simp; refine hK _ _ ?_; clear hK K
        apply wpN_maybe (i := 3) hT_ hD_ rfl (by kernel_rfl) true (by exact rfl)
        (case h => intro _; intro W_ hW_; have hcW_ := (bcellW hW_).1; go_simp; first | done | exact rfl); (case hQ => exact fun _ _ _ h => h); (case hS => exact hS_)
        intro hD2_; clear hD_; have hD_ := hD2_; clear hD2_; intro K hK; (try simp only [opt_true]); go_simp; refine hK _ _ ?_; clear hK K
        apply wpN_maybe (i := 4) hT_ hD_ rfl (by kernel_rfl) true (by exact rfl)
        (case h => intro _; intro W_ hW_; have hcW_ := (bcellW hW_).1; go_simp; first | done | exact rfl); (case hQ => exact fun _ _ _ h => h); (case hS => exact hS_)
        intro hD2_; clear hD_; have hD_ := hD2_; clear hD2_; intro K hK; (try simp only [opt_true]); go_simp; refine hK _ _ ?_; clear hK K
        apply wpN_maybe (i := 5) hT_ hD_ rfl (by kernel_rfl) true (by exact rfl)
        (case h => intro _; intro W_ hW_; have hcW_ := (bcellW hW_).1; go_simp; first | done | exact rfl); (case hQ => exact fun _ _ _ h => h); (case hS => exact hS_)
        intro hD2_; clear hD_; have hD_ := hD2_; clear hD2_; intro K hK; (try simp only [opt_true]); go_simp; refine hK _ _ ?_; clear hK K
        apply wpN_maybe (i := 6) hT_ hD_ rfl (by kernel_rfl) true (by exact rfl)
        (case h => intro _; intro W_ hW_; have hcW_ := (bcellW hW_).1; go_simp; first | done | exact rfl); (case hQ => exact fun _ _ _ h => h); (case hS => exact hS_)
        intro hD2_; clear hD_; have hD_ := hD2_; clear hD2_; intro K hK; (try simp only [opt_true]); go_simp; refine hK _ _ ?_; clear hK K
        apply wpN_maybe (i := 7) hT_ hD_ rfl (by kernel_rfl) true (by exact rfl)
        (case h => intro _; intro W_ hW_; have hcW_ := (bcellW hW_).1; go_simp; first | done | exact rfl); (case hQ => exact fun _ _ _ h => h); (case hS => exact hS_)
        intro hD2_; clear hD_; have hD_ := hD2_; clear hD2_; intro K hK; (try simp only [opt_true]); go_simp; refine hK _ _ ?_; clear hK K
        apply wpN_maybe (i := 8) hT_ hD_ rfl (by kernel_rfl) true (by exact rfl) (.bool false)
        (case h => intro _; intro W_ hW_; have hcW_ := (bcellW hW_).1; go_simp; first | done | exact rfl | simp); (case hQ => exact fun _ _ _ h => h); (case hS => exact hS_)
        intro hD2_; clear hD_; have hD_ := hD2_; clear hD2_; intro K hK; (try simp only [opt_true]); go_simp; refine hK _ _ ?_; clear hK K
        refine wpZ_nil (by kernel_rfl) ?_
        (try simp only [List.filterMap_nil])
        (try go_simp)
        go_wp2_with fail
        go_roundw
        case rel => exact ⟨k + 1, by omega, by go_num, HBe.out.trans (hS_.mono hz_wr), hnx⟩
        case measure => simp [intOf]; omega
      · obtain rfl : R = false := by rw [← HJ.out, HST.out, Bool.eq_false_iff.2 (fun h => hxy (Ra.eqB_iff.1 h))]; rfl
        have HNE := hQ0 hxy
        clear HJ HR HST hxy
        go_upto_region 6 with (fail)
        have hS_ : Below wr.heap.size wr wr.drew := (Below.refl _ _).drew
        refine wp_region_N (Below wr.heap.size wr) 9 [] (by kernel_rfl) (by kernel_rfl) (by kernel_rfl) (by kernel_rfl) ?_
        intro hT_ hD_
        generalize wr.drew = wd_ at hS_ ⊢
        apply wpN_maybe (i := 0) hT_ hD_ rfl (by kernel_rfl) true (by exact rfl)
        (case h => intro _; intro W_ hW_; have hcW_ := (bcellW hW_).1; go_simp; first | done | exact rfl); (case hQ => exact fun _ _ _ h => h); (case hS => exact hS_)
        intro hD2_; clear hD_; have hD_ := hD2_; clear hD2_; intro K hK; (try simp only [opt_true]); go_simp; refine hK _ _ ?_; clear hK K
        apply wpN_maybe (i := 1) hT_ hD_ rfl (by kernel_rfl) true (by exact rfl)
        (case h => intro _; intro W_ hW_; have hcW_ := (bcellW hW_).1; go_simp; first | done | exact rfl); (case hQ => exact fun _ _ _ h => h); (case hS => exact hS_)
        intro hD2_; clear hD_; have hD_ := hD2_; clear hD2_; intro K hK; (try simp only [opt_true]); go_simp; refine hK _ _ ?_; clear hK K
        apply wpN_maybe (i := 2) hT_ hD_ rfl (by kernel_rfl) true (by exact rfl)
        (case h => intro _; intro W_ hW_; have hcW_ := (bcellW hW_).1; go_simp; first | done | exact rfl); (case hQ => exact fun _ _ _ h => h); (case hS => exact hS_)
        intro hD2_; clear hD_; have hD_ := hD2_; clear hD2_; intro K hK; (try simp only [opt_true]); go_simp; refine hK _ _ ?_; clear hK K
        apply wpN_maybe (i := 3) hT_ hD_ rfl (by kernel_rfl) true (by exact rfl)
        (case h => intro _; intro W_ hW_; have hcW_ := (bcellW hW_).1; go_simp; first | done | exact rfl); (case hQ => exact fun _ _ _ h => h); (case hS => exact hS_)
        intro hD2_; clear hD_; have hD_ := hD2_; clear hD2_; intro K hK; (try simp only [opt_true]); go_simp; refine hK _ _ ?_; clear hK K
        apply wpN_maybe (i := 4) hT_ hD_ rfl (by kernel_rfl) true (by exact rfl)
        (case h => intro _; intro W_ hW_; have hcW_ := (bcellW hW_).1; go_simp; first | done | exact rfl); (case hQ => exact fun _ _ _ h => h); (case hS => exact hS_)
        intro hD2_; clear hD_; have hD_ := hD2_; clear hD2_; intro K hK; (try simp only [opt_true]); go_simp; refine hK _ _ ?_; clear hK K
        apply wpN_maybe (i := 5) hT_ hD_ rfl (by kernel_rfl) true (by exact rfl)
        (case h => intro _; intro W_ hW_; have hcW_ := (bcellW hW_).1; go_simp; first | done | exact rfl); (case hQ => exact fun _ _ _ h => h); (case hS => exact hS_)
        intro hD2_; clear hD_; have hD_ := hD2_; clear hD2_; intro K hK; (try simp only [opt_true]); go_simp; refine hK _ _ ?_; clear hK K
        apply wpN_maybe (i := 6) hT_ hD_ rfl (by kernel_rfl) true (by exact rfl)
        (case h => intro _; intro W_ hW_; have hcW_ := (bcellW hW_).1; go_simp; first | done | exact rfl); (case hQ => exact fun _ _ _ h => h); (case hS => exact hS_)
        intro hD2_; clear hD_; have hD_ := hD2_; clear hD2_; intro K hK; (try simp only [opt_true]); go_simp; refine hK _ _ ?_; clear hK K
        apply wpN_maybe (i := 7) hT_ hD_ rfl (by kernel_rfl) true (by exact rfl)
        (case h => intro _; intro W_ hW_; have hcW_ := (bcellW hW_).1; go_simp; first | done | exact rfl); (case hQ => exact fun _ _ _ h => h); (case hS => exact hS_)
        intro hD2_; clear hD_; have hD_ := hD2_; clear hD2_; intro K hK; (try simp only [opt_true]); go_simp; refine hK _ _ ?_; clear hK K
        apply wpN_maybe (i := 8) hT_ hD_ rfl (by kernel_rfl) true (by exact rfl) (.bool true)
        (case h => intro _; intro W_ hW_; have hcW_ := (bcellW hW_).1; go_simp; first | done | (intro h_0 h_1 h_2 h_3 h_4 h_5 h_6 h_7; apply HNE.out; replace h_0 := txt_inj h_0; cases x; cases y; simp only at h_0 h_1 h_2 h_3 h_4 h_5 h_6 h_7; subst h_0 h_1 h_2 h_3 h_4 h_5 h_6 h_7; rfl)); (case hQ => exact fun _ _ _ h => h); (case hS => exact hS_)
        intro hD2_; clear hD_; have hD_ := hD2_; clear hD2_; intro K hK; (try simp only [opt_true]); go_simp; refine hK _ _ ?_; clear hK K
        refine wpZ_nil (by kernel_rfl) ?_
        (try simp only [List.filterMap_nil])
        (try go_simp)
        go_wp2_with fail
        go_ret
        exact ⟨rfl, HBe.out.trans (hS_.mono hz_wr)⟩
    · obtain rfl : k = l.length := by omega
      obtain rfl : R = true := by rw [← HJ.out]; exact eqL_end (Nat.le_refl _) (by have := HLM.out; omega)
      go_wp2_with fail
      go_ret
      exact ⟨rfl, hb_wr⟩
 · rw [eqL_len hlm]
   have i0 : ¬ (l.length : Int) = (m.length : Int) := by omega
   go_enter Tryz.func53, Tryz.ntmps53; (try simp only [List.append_eq, List.cons_append, List.nil_append])
   go_wp2_with fail
   go_ret
   exact ⟨rfl, Below.refl _ _⟩
def Dr.eqB (x y : Dr) : Bool := decide (x.nm = y.nm) && decide (x.lv = y.lv) && decide (x.c1 = y.c1) && decide (x.c2 = y.c2) && decide (x.sz = y.sz)
theorem Dr.eqB_iff {x y : Dr} : Dr.eqB x y = true ↔ x = y := by
 cases x; cases y
 simp [Dr.eqB, and_assoc]
set_option maxRecDepth 100000 in
set_option maxHeartbeats 4000000 in
theorem eq_ds (l m : List Dr) (A B : Option Addr) (c d : Nat) (w : World) (hA : RowsAt 5 Dr.cells w A l) (hB : RowsAt 5 Dr.cells w B m) (h1 : l.length ≤ 1000000) (h2 : m.length ≤ 1000000) :
  Calls Tryz.prog 54 #[.slice A l.length c, .slice B m.length d] w fun e w' => e = .returned (.bool (eqL Dr.eqB l m)) ∧ Below w.heap.size w w' := by
 by_cases hlm : l.length = m.length
 · obtain ⟨R, hR⟩ : ∃ R, R = eqL Dr.eqB l m := ⟨_, rfl⟩
   rw [← hR]
   have HR : Hid (eqL Dr.eqB (l.drop 0) (m.drop 0) = R) := hQ0 (by rw [hR]; rfl)
   have HA := hQ0 hA
   have HB := hQ0 hB
   have HLM := hQ0 hlm
   rw [← hlm]
   clear hR hA hB hlm
   go_enter Tryz.func54, Tryz.ntmps54; (try simp only [List.append_eq, List.cons_append, List.nil_append])
   go_wp2_with fail
   go_loopw [13] (fun t wr => ∃ k : Nat, k ≤ l.length ∧ t = .int .i64 k ∧ Below w.heap.size w wr ∧ Hid (eqL Dr.eqB (l.drop k) (m.drop k) = R)) (fun t _ => l.length - (intOf t).toNat)
   case atStart => exact ⟨0, by omega, rfl, Below.refl _ _, HR⟩
   case round =>
    obtain ⟨k, hk, rfl, hb_wr, HJ⟩ := hrel
    have hz_wr := hb_wr.size
    by_cases hlt : k < l.length
    · obtain ⟨x, hx⟩ : ∃ x, l[k]? = some x := ⟨l[k], by simp⟩
      obtain ⟨y, hy⟩ : ∃ y, m[k]? = some y := ⟨m[k]'(by have := HLM.out; omega), by simp⟩
      obtain ⟨g, o, rfl, hg, c0, c1, c2, c3, c4⟩ := Dr.get (HA.out.below hb_wr (Nat.le_refl _)) hx
      obtain ⟨g', o', rfl, hg', d0, d1, d2, d3, d4⟩ := Dr.get (HB.out.below hb_wr (Nat.le_refl _)) hy
      have HST := hQ0 (eqL_drop (f := Dr.eqB) hx hy)
      have i1 : (k : Int) < (l.length : Int) := by omega
      have i2 : (k : Int) < (m.length : Int) := by have := HLM.out; omega
      have HBe := hQ0 hb_wr
      clear hb_wr hx hy
      by_cases hxy : x = y
      · subst hxy
        have hnx : Hid (eqL Dr.eqB (l.drop (k + 1)) (m.drop (k + 1)) = R) := hQ0 (by rw [← HJ.out, HST.out, Dr.eqB_iff.2 rfl, Bool.true_and])
        clear HJ HR HST
        go_upto_region 6 with (fail)
        have hS_ : Below wr.heap.size wr wr.drew := (Below.refl _ _).drew
        refine wp_region_N (Below wr.heap.size wr) 9 [] (by kernel_rfl) (by kernel_rfl) (by kernel_rfl) (by kernel_rfl) ?_
        intro hT_ hD_
        generalize wr.drew = wd_ at hS_ ⊢
        apply wpN_maybe (i := 0) hT_ hD_ rfl (by kernel_rfl) true (by exact rfl)
        (case h => intro _; intro W_ hW_; have hcW_ := (bcellW hW_).1; go_simp; first | done | exact rfl); (case hQ => exact fun _ _ _ h => h); (case hS => exact hS_)
        intro hD2_; clear hD_; have hD_ := hD2_; clear hD2_; intro K hK; (try simp only [opt_true]); go_simp; refine hK _ _ ?_; clear hK K
        apply wpN_maybe (i := 1) hT_ hD_ rfl (by kernel_rfl) true (by exact rfl)
        (case h => intro _; intro W_ hW_; have hcW_ := (bcellW hW_).1; go_simp; first | done | exact rfl); (case hQ => exact fun _ _ _ h => h); (case hS => exact hS_)
        intro hD2_; clear hD_; have hD_ := hD2_; clear hD2_; intro K hK; (try simp only [opt_true]); go_simp; refine hK _ _ ?_; clear hK K
        apply wpN_maybe (i := 2) hT_ hD_ rfl (by kernel_rfl) true (by exact rfl)
        (case h => intro _; intro W_ hW_; have hcW_ := (bcellW hW_).1; go_simp; first | done | exact rfl); (case hQ => exact fun _ _ _ h => h); (case hS => exact hS_)
        intro hD2_; clear hD_; have hD_ := hD2_; clear hD2_; intro K hK; (try simp only [opt_true]); go_simp; refine hK _ _ ?_; clear hK K
        apply wpN_maybe (i := 3) hT_ hD_ rfl (by kernel_rfl) true (by exact rfl)
        (case h => intro _; intro W_ hW_; have hcW_ := (bcellW hW_).1; go_simp; first | done | exact rfl); (case hQ => exact fun _ _ _ h => h); (case hS => exact hS_)
        intro hD2_; clear hD_; have hD_ := hD2_; clear hD2_; intro K hK; (try simp only [opt_true]); go_simp; refine hK _ _ ?_; clear hK K
        apply wpN_maybe (i := 4) hT_ hD_ rfl (by kernel_rfl) true (by exact rfl)
        (case h => intro _; intro W_ hW_; have hcW_ := (bcellW hW_).1; go_simp; first | done | exact rfl); (case hQ => exact fun _ _ _ h => h); (case hS => exact hS_)
        intro hD2_; clear hD_; have hD_ := hD2_; clear hD2_; intro K hK; (try simp only [opt_true]); go_simp; refine hK _ _ ?_; clear hK K
        apply wpN_maybe (i := 5) hT_ hD_ rfl (by kernel_rfl) true (by exact rfl)
        (case h => intro _; intro W_ hW_; have hcW_ := (bcellW hW_).1; go_simp; first | done | exact rfl); (case hQ => exact fun _ _ _ h => h); (case hS => exact hS_)
        intro hD2_; clear hD_; have hD_ := hD2_; clear hD2_; intro K hK; (try simp only [opt_true]); go_simp; refine hK _ _ ?_; clear hK K
        apply wpN_maybe (i := 6) hT_ hD_ rfl (by kernel_rfl) true (by exact rfl)
        (case h => intro _; intro W_ hW_; have hcW_ := (bcellW hW_).1; go_simp; first | done | exact rfl); (case hQ => exact fun _ _ _ h => h); (case hS => exact hS_)
        intro hD2_; clear hD_; have hD_ := hD2_; clear hD2_; intro K hK; (try simp only [opt_true]); go_simp; refine hK _ _ ?_; clear hK K
        apply wpN_maybe (i := 7) hT_ hD_ rfl (by kernel_rfl) true (by exact rfl)
        (case h => intro _; intro W_ hW_; have hcW_ := (bcellW hW_).1; go_simp; first | done | exact rfl); (case hQ => exact fun _ _ _ h => h); (case hS => exact hS_)
        intro hD2_; clear hD_; have hD_ := hD2_; clear hD2_; intro K hK; (try simp only [opt_true]); go_simp; refine hK _ _ ?_; clear hK K
        apply wpN_maybe (i := 8) hT_ hD_ rfl (by kernel_rfl) true (by exact rfl) (.bool false)
        (case h => intro _; intro W_ hW_; have hcW_ := (bcellW hW_).1; go_simp; first | done | exact rfl | simp); (case hQ => exact fun _ _ _ h => h); (case hS => exact hS_)
        intro hD2_; clear hD_; have hD_ := hD2_; clear hD2_; intro K hK; (try simp only [opt_true]); go_simp; refine hK _ _ ?_; clear hK K
        refine wpZ_nil (by kernel_rfl) ?_
        (try simp only [List.filterMap_nil])
        (try go_simp)
        go_wp2_with fail
        go_roundw
        case rel => exact ⟨k + 1, by omega, by go_num, HBe.out.trans (hS_.mono hz_wr), hnx⟩
        case measure => simp [intOf]; omega
      · obtain rfl : R = false := by rw [← HJ.out, HST.out, Bool.eq_false_iff.2 (fun h => hxy (Dr.eqB_iff.1 h))]; rfl
        have HNE := hQ0 hxy
        clear HJ HR HST hxy
        go_upto_region 6 with (fail)
        have hS_ : Below wr.heap.size wr wr.drew := (Below.refl _ _).drew
        refine wp_region_N (Below wr.heap.size wr) 9 [] (by kernel_rfl) (by kernel_rfl) (by kernel_rfl) (by kernel_rfl) ?_
        intro hT_ hD_
        generalize wr.drew = wd_ at hS_ ⊢
        apply wpN_maybe (i := 0) hT_ hD_ rfl (by kernel_rfl) true (by exact rfl)
        (case h => intro _; intro W_ hW_; have hcW_ := (bcellW hW_).1; go_simp; first | done | exact rfl); (case hQ => exact fun _ _ _ h => h); (case hS => exact hS_)
        intro hD2_; clear hD_; have hD_ := hD2_; clear hD2_; intro K hK; (try simp only [opt_true]); go_simp; refine hK _ _ ?_; clear hK K
        apply wpN_maybe (i := 1) hT_ hD_ rfl (by kernel_rfl) true (by exact rfl)
        (case h => intro _; intro W_ hW_; have hcW_ := (bcellW hW_).1; go_simp; first | done | exact rfl); (case hQ => exact fun _ _ _ h => h); (case hS => exact hS_)
        intro hD2_; clear hD_; have hD_ := hD2_; clear hD2_; intro K hK; (try simp only [opt_true]); go_simp; refine hK _ _ ?_; clear hK K
        apply wpN_maybe (i := 2) hT_ hD_ rfl (by kernel_rfl) true (by exact rfl)
        (case h => intro _; intro W_ hW_; have hcW_ := (bcellW hW_).1; go_simp; first | done | exact rfl); (case hQ => exact fun _ _ _ h => h); (case hS => exact hS_)
        intro hD2_; clear hD_; have hD_ := hD2_; clear hD2_; intro K hK; (try simp only [opt_true]); go_simp; refine hK _ _ ?_; clear hK K
        apply wpN_maybe (i := 3) hT_ hD_ rfl (by kernel_rfl) true (by exact rfl)
        (case h => intro _; intro W_ hW_; have hcW_ := (bcellW hW_).1; go_simp; first | done | exact rfl); (case hQ => exact fun _ _ _ h => h); (case hS => exact hS_)
        intro hD2_; clear hD_; have hD_ := hD2_; clear hD2_; intro K hK; (try simp only [opt_true]); go_simp; refine hK _ _ ?_; clear hK K
        apply wpN_maybe (i := 4) hT_ hD_ rfl (by kernel_rfl) true (by exact rfl)
        (case h => intro _; intro W_ hW_; have hcW_ := (bcellW hW_).1; go_simp; first | done | exact rfl); (case hQ => exact fun _ _ _ h => h); (case hS => exact hS_)
        intro hD2_; clear hD_; have hD_ := hD2_; clear hD2_; intro K hK; (try simp only [opt_true]); go_simp; refine hK _ _ ?_; clear hK K
        apply wpN_maybe (i := 5) hT_ hD_ rfl (by kernel_rfl) true (by exact rfl)
        (case h => intro _; intro W_ hW_; have hcW_ := (bcellW hW_).1; go_simp; first | done | exact rfl); (case hQ => exact fun _ _ _ h => h); (case hS => exact hS_)
        intro hD2_; clear hD_; have hD_ := hD2_; clear hD2_; intro K hK; (try simp only [opt_true]); go_simp; refine hK _ _ ?_; clear hK K
        apply wpN_maybe (i := 6) hT_ hD_ rfl (by kernel_rfl) true (by exact rfl)
        (case h => intro _; intro W_ hW_; have hcW_ := (bcellW hW_).1; go_simp; first | done | exact rfl); (case hQ => exact fun _ _ _ h => h); (case hS => exact hS_)
        intro hD2_; clear hD_; have hD_ := hD2_; clear hD2_; intro K hK; (try simp only [opt_true]); go_simp; refine hK _ _ ?_; clear hK K
        apply wpN_maybe (i := 7) hT_ hD_ rfl (by kernel_rfl) true (by exact rfl)
        (case h => intro _; intro W_ hW_; have hcW_ := (bcellW hW_).1; go_simp; first | done | exact rfl); (case hQ => exact fun _ _ _ h => h); (case hS => exact hS_)
        intro hD2_; clear hD_; have hD_ := hD2_; clear hD2_; intro K hK; (try simp only [opt_true]); go_simp; refine hK _ _ ?_; clear hK K
        apply wpN_maybe (i := 8) hT_ hD_ rfl (by kernel_rfl) true (by exact rfl) (.bool true)
        (case h => intro _; intro W_ hW_; have hcW_ := (bcellW hW_).1; go_simp; first | done | (intro h_0 h_1 h_2 h_3 h_4; apply HNE.out; replace h_0 := txt_inj h_0; cases x; cases y; simp only at h_0 h_1 h_2 h_3 h_4; subst h_0 h_1 h_2 h_3 h_4; rfl)); (case hQ => exact fun _ _ _ h => h); (case hS => exact hS_)
        intro hD2_; clear hD_; have hD_ := hD2_; clear hD2_; intro K hK; (try simp only [opt_true]); go_simp; refine hK _ _ ?_; clear hK K
        refine wpZ_nil (by kernel_rfl) ?_
        (try simp only [List.filterMap_nil])
        (try go_simp)
        go_wp2_with fail
        go_ret
        exact ⟨rfl, HBe.out.trans (hS_.mono hz_wr)⟩
    · obtain rfl : k = l.length := by omega
      obtain rfl : R = true := by rw [← HJ.out]; exact eqL_end (Nat.le_refl _) (by have := HLM.out; omega)
      go_wp2_with fail
      go_ret
      exact ⟨rfl, hb_wr⟩
 · rw [eqL_len hlm]
   have i0 : ¬ (l.length : Int) = (m.length : Int) := by omega
   go_enter Tryz.func54, Tryz.ntmps54; (try simp only [List.append_eq, List.cons_append, List.nil_append])
   go_wp2_with fail
   go_ret
   exact ⟨rfl, Below.refl _ _⟩
def Ln.eqB (x y : Ln) : Bool := decide (x.nm = y.nm) && decide (x.lv = y.lv) && decide (x.a1 = y.a1) && decide (x.a2 = y.a2) && decide (x.v1 = y.v1) && decide (x.v2 = y.v2) && decide (x.cl = y.cl)
theorem Ln.eqB_iff {x y : Ln} : Ln.eqB x y = true ↔ x = y := by
 cases x; cases y
 simp [Ln.eqB, and_assoc]
set_option maxRecDepth 100000 in
set_option maxHeartbeats 4000000 in
theorem eq_lns (l m : List Ln) (A B : Option Addr) (c d : Nat) (w : World) (hA : RowsAt 7 Ln.cells w A l) (hB : RowsAt 7 Ln.cells w B m) (h1 : l.length ≤ 1000000) (h2 : m.length ≤ 1000000) :
  Calls Tryz.prog 55 #[.slice A l.length c, .slice B m.length d] w fun e w' => e = .returned (.bool (eqL Ln.eqB l m)) ∧ Below w.heap.size w w' := by
 by_cases hlm : l.length = m.length
 · obtain ⟨R, hR⟩ : ∃ R, R = eqL Ln.eqB l m := ⟨_, rfl⟩
   rw [← hR]
   have HR : Hid (eqL Ln.eqB (l.drop 0) (m.drop 0) = R) := hQ0 (by rw [hR]; rfl)
   have HA := hQ0 hA
   have HB := hQ0 hB
   have HLM := hQ0 hlm
   rw [← hlm]
   clear hR hA hB hlm
   go_enter Tryz.func55, Tryz.ntmps55; (try simp only [List.append_eq, List.cons_append, List.nil_append])
   go_wp2_with fail
   go_loopw [13] (fun t wr => ∃ k : Nat, k ≤ l.length ∧ t = .int .i64 k ∧ Below w.heap.size w wr ∧ Hid (eqL Ln.eqB (l.drop k) (m.drop k) = R)) (fun t _ => l.length - (intOf t).toNat)
   case atStart => exact ⟨0, by omega, rfl, Below.refl _ _, HR⟩
   case round =>
    obtain ⟨k, hk, rfl, hb_wr, HJ⟩ := hrel
    have hz_wr := hb_wr.size
    by_cases hlt : k < l.length
    · obtain ⟨x, hx⟩ : ∃ x, l[k]? = some x := ⟨l[k], by simp⟩
      obtain ⟨y, hy⟩ : ∃ y, m[k]? = some y := ⟨m[k]'(by have := HLM.out; omega), by simp⟩
      obtain ⟨g, o, rfl, hg, c0, c1, c2, c3, c4, c5, c6⟩ := Ln.get (HA.out.below hb_wr (Nat.le_refl _)) hx
      obtain ⟨g', o', rfl, hg', d0, d1, d2, d3, d4, d5, d6⟩ := Ln.get (HB.out.below hb_wr (Nat.le_refl _)) hy
      have HST := hQ0 (eqL_drop (f := Ln.eqB) hx hy)
      have i1 : (k : Int) < (l.length : Int) := by omega
      have i2 : (k : Int) < (m.length : Int) := by have := HLM.out; omega
      have HBe := hQ0 hb_wr
      clear hb_wr hx hy
      by_cases hxy : x = y
      · subst hxy
        have hnx : Hid (eqL Ln.eqB (l.drop (k + 1)) (m.drop (k + 1)) = R) := hQ0 (by rw [← HJ.out, HST.out, Ln.eqB_iff.2 rfl, Bool.true_and])
        clear HJ HR HST
        go_upto_region 6 with (fail)
        have hS_ : Below wr.heap.size wr wr.drew := (Below.refl _ _).drew
        refine wp_region_N (Below wr.heap.size wr) 9 [] (by kernel_rfl) (by kernel_rfl) (by kernel_rfl) (by kernel_rfl) ?_
        intro hT_ hD_
        generalize wr.drew = wd_ at hS_ ⊢
        apply wpN_maybe (i := 0) hT_ hD_ rfl (by kernel_rfl) true (by exact rfl)
        (case h => intro _; intro W_ hW_; have hcW_ := (bcellW hW_).1; go_simp; first | done | exact rfl); (case hQ => exact fun _ _ _ h => h); (case hS => exact hS_)
        intro hD2_; clear hD_; have hD_ := hD2_; clear hD2_; intro K hK; (try simp only [opt_true]); go_simp; refine hK _ _ ?_; clear hK K
        apply wpN_maybe (i := 1) hT_ hD_ rfl (by kernel_rfl) true (by exact rfl)
        (case h => intro _; intro W_ hW_; have hcW_ := (bcellW hW_).1; go_simp; first | done | exact rfl); (case hQ => exact fun _ _ _ h => h); (case hS => exact hS_)
        intro hD2_; clear hD_; have hD_ := hD2_; clear hD2_; intro K hK; (try simp only [opt_true]); go_simp; refine hK _ _ ?_; clear hK K
        apply wpN_maybe (i := 2) hT_ hD_ rfl (by kernel_rfl) true (by exact rfl)
        (case h => intro _; intro W_ hW_; have hcW_ := (bcellW hW_).1; go_simp; first | done | exact rfl); (case hQ => exact fun _ _ _ h => h); (case hS => exact hS_)
        intro hD2_; clear hD_; have hD_ := hD2_; clear hD2_; intro K hK; (try simp only [opt_true]); go_simp; refine hK _ _ ?_; clear hK K
        apply wpN_maybe (i := 3) hT_ hD_ rfl (by kernel_rfl) true (by exact rfl)
        (case h => intro _; intro W_ hW_; have hcW_ := (bcellW hW_).1; go_simp; first | done | exact rfl); (case hQ => exact fun _ _ _ h => h); (case hS => exact hS_)
        intro hD2_; clear hD_; have hD_ := hD2_; clear hD2_; intro K hK; (try simp only [opt_true]); go_simp; refine hK _ _ ?_; clear hK K
        apply wpN_maybe (i := 4) hT_ hD_ rfl (by kernel_rfl) true (by exact rfl)
        (case h => intro _; intro W_ hW_; have hcW_ := (bcellW hW_).1; go_simp; first | done | exact rfl); (case hQ => exact fun _ _ _ h => h); (case hS => exact hS_)
        intro hD2_; clear hD_; have hD_ := hD2_; clear hD2_; intro K hK; (try simp only [opt_true]); go_simp; refine hK _ _ ?_; clear hK K
        apply wpN_maybe (i := 5) hT_ hD_ rfl (by kernel_rfl) true (by exact rfl)
        (case h => intro _; intro W_ hW_; have hcW_ := (bcellW hW_).1; go_simp; first | done | exact rfl); (case hQ => exact fun _ _ _ h => h); (case hS => exact hS_)
        intro hD2_; clear hD_; have hD_ := hD2_; clear hD2_; intro K hK; (try simp only [opt_true]); go_simp; refine hK _ _ ?_; clear hK K
        apply wpN_maybe (i := 6) hT_ hD_ rfl (by kernel_rfl) true (by exact rfl)
        (case h => intro _; intro W_ hW_; have hcW_ := (bcellW hW_).1; go_simp; first | done | exact rfl); (case hQ => exact fun _ _ _ h => h); (case hS => exact hS_)
        intro hD2_; clear hD_; have hD_ := hD2_; clear hD2_; intro K hK; (try simp only [opt_true]); go_simp; refine hK _ _ ?_; clear hK K
        apply wpN_maybe (i := 7) hT_ hD_ rfl (by kernel_rfl) true (by exact rfl)
        (case h => intro _; intro W_ hW_; have hcW_ := (bcellW hW_).1; go_simp; first | done | exact rfl); (case hQ => exact fun _ _ _ h => h); (case hS => exact hS_)
        intro hD2_; clear hD_; have hD_ := hD2_; clear hD2_; intro K hK; (try simp only [opt_true]); go_simp; refine hK _ _ ?_; clear hK K
        apply wpN_maybe (i := 8) hT_ hD_ rfl (by kernel_rfl) true (by exact rfl) (.bool false)
        (case h => intro _; intro W_ hW_; have hcW_ := (bcellW hW_).1; go_simp; first | done | exact rfl | simp); (case hQ => exact fun _ _ _ h => h); (case hS => exact hS_)
        intro hD2_; clear hD_; have hD_ := hD2_; clear hD2_; intro K hK; (try simp only [opt_true]); go_simp; refine hK _ _ ?_; clear hK K
        refine wpZ_nil (by kernel_rfl) ?_
        (try simp only [List.filterMap_nil])
        (try go_simp)
        go_wp2_with fail
        go_roundw
        case rel => exact ⟨k + 1, by omega, by go_num, HBe.out.trans (hS_.mono hz_wr), hnx⟩
        case measure => simp [intOf]; omega
      · obtain rfl : R = false := by rw [← HJ.out, HST.out, Bool.eq_false_iff.2 (fun h => hxy (Ln.eqB_iff.1 h))]; rfl
        have HNE := hQ0 hxy
        clear HJ HR HST hxy
        go_upto_region 6 with (fail)
        have hS_ : Below wr.heap.size wr wr.drew := (Below.refl _ _).drew
        refine wp_region_N (Below wr.heap.size wr) 9 [] (by kernel_rfl) (by kernel_rfl) (by kernel_rfl) (by kernel_rfl) ?_
        intro hT_ hD_
        generalize wr.drew = wd_ at hS_ ⊢
        apply wpN_maybe (i := 0) hT_ hD_ rfl (by kernel_rfl) true (by exact rfl)
        (case h => intro _; intro W_ hW_; have hcW_ := (bcellW hW_).1; go_simp; first | done | exact rfl); (case hQ => exact fun _ _ _ h => h); (case hS => exact hS_)
        intro hD2_; clear hD_; have hD_ := hD2_; clear hD2_; intro K hK; (try simp only [opt_true]); go_simp; refine hK _ _ ?_; clear hK K
        apply wpN_maybe (i := 1) hT_ hD_ rfl (by kernel_rfl) true (by exact rfl)
        (case h => intro _; intro W_ hW_; have hcW_ := (bcellW hW_).1; go_simp; first | done | exact rfl); (case hQ => exact fun _ _ _ h => h); (case hS => exact hS_)
        intro hD2_; clear hD_; have hD_ := hD2_; clear hD2_; intro K hK; (try simp only [opt_true]); go_simp; refine hK _ _ ?_; clear hK K
        apply wpN_maybe (i := 2) hT_ hD_ rfl (by kernel_rfl) true (by exact rfl)
        (case h => intro _; intro W_ hW_; have hcW_ := (bcellW hW_).1; go_simp; first | done | exact rfl); (case hQ => exact fun _ _ _ h => h); (case hS => exact hS_)
        intro hD2_; clear hD_; have hD_ := hD2_; clear hD2_; intro K hK; (try simp only [opt_true]); go_simp; refine hK _ _ ?_; clear hK K
        apply wpN_maybe (i := 3) hT_ hD_ rfl (by kernel_rfl) true (by exact rfl)
        (case h => intro _; intro W_ hW_; have hcW_ := (bcellW hW_).1; go_simp; first | done | exact rfl); (case hQ => exact fun _ _ _ h => h); (case hS => exact hS_)
        intro hD2_; clear hD_; have hD_ := hD2_; clear hD2_; intro K hK; (try simp only [opt_true]); go_simp; refine hK _ _ ?_; clear hK K
        apply wpN_maybe (i := 4) hT_ hD_ rfl (by kernel_rfl) true (by exact rfl)
        (case h => intro _; intro W_ hW_; have hcW_ := (bcellW hW_).1; go_simp; first | done | exact rfl); (case hQ => exact fun _ _ _ h => h); (case hS => exact hS_)
        intro hD2_; clear hD_; have hD_ := hD2_; clear hD2_; intro K hK; (try simp only [opt_true]); go_simp; refine hK _ _ ?_; clear hK K
        apply wpN_maybe (i := 5) hT_ hD_ rfl (by kernel_rfl) true (by exact rfl)
        (case h => intro _; intro W_ hW_; have hcW_ := (bcellW hW_).1; go_simp; first | done | exact rfl); (case hQ => exact fun _ _ _ h => h); (case hS => exact hS_)
        intro hD2_; clear hD_; have hD_ := hD2_; clear hD2_; intro K hK; (try simp only [opt_true]); go_simp; refine hK _ _ ?_; clear hK K
        apply wpN_maybe (i := 6) hT_ hD_ rfl (by kernel_rfl) true (by exact rfl)
        (case h => intro _; intro W_ hW_; have hcW_ := (bcellW hW_).1; go_simp; first | done | exact rfl); (case hQ => exact fun _ _ _ h => h); (case hS => exact hS_)
        intro hD2_; clear hD_; have hD_ := hD2_; clear hD2_; intro K hK; (try simp only [opt_true]); go_simp; refine hK _ _ ?_; clear hK K
        apply wpN_maybe (i := 7) hT_ hD_ rfl (by kernel_rfl) true (by exact rfl)
        (case h => intro _; intro W_ hW_; have hcW_ := (bcellW hW_).1; go_simp; first | done | exact rfl); (case hQ => exact fun _ _ _ h => h); (case hS => exact hS_)
        intro hD2_; clear hD_; have hD_ := hD2_; clear hD2_; intro K hK; (try simp only [opt_true]); go_simp; refine hK _ _ ?_; clear hK K
        apply wpN_maybe (i := 8) hT_ hD_ rfl (by kernel_rfl) true (by exact rfl) (.bool true)
        (case h => intro _; intro W_ hW_; have hcW_ := (bcellW hW_).1; go_simp; first | done | (intro h_0 h_1 h_2 h_3 h_4 h_5 h_6; apply HNE.out; replace h_0 := txt_inj h_0; cases x; cases y; simp only at h_0 h_1 h_2 h_3 h_4 h_5 h_6; subst h_0 h_1 h_2 h_3 h_4 h_5 h_6; rfl)); (case hQ => exact fun _ _ _ h => h); (case hS => exact hS_)
        intro hD2_; clear hD_; have hD_ := hD2_; clear hD2_; intro K hK; (try simp only [opt_true]); go_simp; refine hK _ _ ?_; clear hK K
        refine wpZ_nil (by kernel_rfl) ?_
        (try simp only [List.filterMap_nil])
        (try go_simp)
        go_wp2_with fail
        go_ret
        exact ⟨rfl, HBe.out.trans (hS_.mono hz_wr)⟩
    · obtain rfl : k = l.length := by omega
      obtain rfl : R = true := by rw [← HJ.out]; exact eqL_end (Nat.le_refl _) (by have := HLM.out; omega)
      go_wp2_with fail
      go_ret
      exact ⟨rfl, hb_wr⟩
 · rw [eqL_len hlm]
   have i0 : ¬ (l.length : Int) = (m.length : Int) := by omega
   go_enter Tryz.func55, Tryz.ntmps55; (try simp only [List.append_eq, List.cons_append, List.nil_append])
   go_wp2_with fail
   go_ret
   exact ⟨rfl, Below.refl _ _⟩
end Go.Proofs.YtbpcjpiaimdpnaaGreatDoor
