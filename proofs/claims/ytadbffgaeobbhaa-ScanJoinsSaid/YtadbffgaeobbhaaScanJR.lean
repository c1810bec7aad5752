/- The contract of the reference's Join. -/
import Derived.Test.YtadbffgaeobbhaaScanJ
namespace Go.Proofs.Ytadbffgaeobbhaa
open Go.RowKit
set_option linter.unusedVariables false
set_option maxRecDepth 100000 in
set_option maxHeartbeats 1000000 in
theorem rjoin_some (l : List WI) (g o c : Nat) (w : World) (hn : 0 < l.length) (hl : l.length ≤ 20000) (hg : g < w.heap.size) (hW : WsAt w g o l) (hs : ∀ x ∈ l, x.text.size ≤ 20000) :
    Calls Try.prog 15 #[.slice (some ⟨g, o, none⟩) l.length c] w (JoinOut l w) := by
  have HW := Lib.hid hW
  have HS := Lib.hid hs
  clear hW hs
  go_enter Try.func15, Try.ntmps15; (try simp only [List.append_eq, List.cons_append, List.nil_append])
  go_wp2_with fail
  go_loopw [4, 5] (fun v t wr => ∃ (k : Nat) (T : ByteArray), k ≤ l.length ∧ t = .int .i64 k ∧ v = .string T ∧ Hid (T = J (txts (l.take k))) ∧ T.size ≤ 20000 ∧ Below w.heap.size w wr ∧ Hid (∀ x ∈ l.take k, okW x.kind x.text x.num)) (fun _ t _ => l.length - (intOf t).toNat)
  case atStart => exact ⟨0, ⟨#[]⟩, by omega, rfl, rfl, Lib.hid rfl, by decide, Below.refl _ _, Lib.hid (by simp)⟩
  case round =>
    obtain ⟨k, T, hk, rfl, rfl, HT, hTs, hbel, HO⟩ := hrel
    have hz := hbel.size
    by_cases hlt : k < l.length
    · obtain ⟨x, hx⟩ : ∃ x, l[k]? = some x := ⟨l[k], by simp⟩
      obtain ⟨a0, a1, a2, a3⟩ := (HW.out.below hbel hg) k x hx
      have hxs := HS.out x (List.mem_of_getElem? hx)
      have HX := Lib.hid hx
      have HB := Lib.hid hbel
      have i1 : (0 : Int) ≤ (k : Int) := by omega
      have i2 : (k : Int) < (l.length : Int) := by omega
      have l1 : g < wr.heap.size := by omega
      clear hx hbel
      go_wp2_with fail
      (go_at_call 10; refine (rwords_any _ _ (by unfold maxLen; omega)).mono ?_; rintro e w1 ⟨hb_w1, v1, rfl, hv1⟩)
      have hz1 := hb_w1.size
      obtain ⟨p0, p1, p2, p3⟩ := ((HW.out.below HB.out hg).below hb_w1 l1) k x HX.out
      have l1' : g < w1.heap.size := by omega
      have HB1 := Lib.hid (HB.out.trans (hb_w1.mono hz))
      clear hb_w1 a0 a1 a2 a3
      obtain ⟨⟨L, er, pl⟩, hR⟩ : ∃ R, R = scanR x.text := ⟨_, rfl⟩
      rw [← hR] at hv1 ⊢
      have HR := Lib.hid hR
      clear hR
      simp only at hv1 ⊢
      have hLl : L.length ≤ 20000 := by have := scanR_len x.text; rw [← HR.out] at this; exact this
      have hnot : ∀ (P : Prop), (okW x.kind x.text x.num → P) → (¬ P) → ¬ JoinOk l := fun P h1 h2 hj => h2 (h1 (hj.1 x (List.mem_of_getElem? HX.out)))
      have HN := Lib.hid hnot
      clear hnot
      by_cases her : er = 0
      · subst her
        obtain rfl : pl = 0 := by
          rcases scanR_chain x.text with ⟨m, hm, _⟩ | ⟨he, _⟩
          · rw [← HR.out] at hm; exact (Prod.mk.inj (Prod.mk.inj hm).2).2
          · rw [← HR.out] at he; exact absurd rfl he
        by_cases hL : L.length = 1
        · obtain ⟨y, rfl⟩ := len1 hL
          clear hL
          rcases own_form hv1 with ⟨hn0, _⟩ | ⟨_, g1, c1, rfl, k1, k1'⟩
          · simp at hn0
          · obtain ⟨d0, d1, d2, d3⟩ := word_cells hv1 (k := 0) (x := y) rfl (by simp)
            simp only [List.length_cons, List.length_nil, Nat.zero_add, Nat.zero_mul] at d0 d1 d2 d3 ⊢
            clear hv1
            by_cases e1 : y.kind = x.kind
            · by_cases e2 : y.text = x.text
              · by_cases e3 : y.num = x.num
                · have b1 : (y.kind != x.kind) = false := by simp [e1]
                  have b2 : (y.text.toList == x.text.toList) = true := by rw [e2]; exact beq_self_eq_true _
                  have b3 : (y.num != x.num) = false := by simp [e3]
                  have HK : Hid (okW x.kind x.text x.num) := Lib.hid ⟨y, HR.out.symm, e1, e2, e3⟩
                  clear e1 e2 e3
                  go_wp2_with fail
                  refine wp_region_warm (Own w1.heap.size w1) (by kernel_rfl) (by kernel_rfl) (Own.refl (Nat.le_refl _)).drew ?_
                  repeat (first | (refine wpWarm_step_off rfl (fun K hK => ?_); (go_simp; refine hK _ ?_; clear hK K)) | (apply wpWarm_step rfl; (focus (intro W' hS; have hcS := hS.cells.1; have hfS := hS.cells.2; go_simp; (first | done | exact rfl | exact ⟨rfl, hS⟩ | (go_simp; exact rfl)))); (intro K hK; go_simp; (try go_bits); refine hK _ ?_; clear hK K)) | (apply wpWarm_step_on rfl; (focus (intro W' hS; have hcS := hS.cells.1; have hfS := hS.cells.2; go_simp; (first | done | exact rfl | exact ⟨rfl, hS⟩ | (go_simp; exact rfl)))); (intro K hK; go_simp; (try go_bits); refine hK _ ?_; clear hK K)))
                  refine wpWarm_nil ?_
                  intro w4 hO
                  have f0 := hO.2.cell (p := ⟨g, o + k * 4 + 1, none⟩) (by simp; omega)
                  rw [p1] at f0
                  have HB4 := Lib.hid (HB1.out.trans (hO.2.mono (by omega)))
                  have l4 : g < w4.heap.size := by have := hO.1; omega
                  clear hO
                  rcases Nat.eq_zero_or_pos k with hk0 | hk0
                  · subst hk0
                    have hT0 : T = ⟨#[]⟩ := by rw [HT.out]; rfl
                    subst hT0
                    have hj : x.text = J (txts (l.take (0 + 1))) := by rw [List.take_add_one, HX.out]; simp [txts, J_one]
                    have HJ := Lib.hid hj
                    clear hj
                    have hgt : ¬ (20000 < x.text.size) := by omega
                    have hid : (⟨#[]⟩ : ByteArray) ++ x.text = x.text := nil_app _
                    go_wp2_with fail
                    go_roundw
                    case rel =>
                      refine ⟨0 + 1, x.text, by omega, by go_num, rfl, Lib.hid HJ.out, by omega, HB4.out, Lib.hid ?_⟩
                      rw [List.take_add_one, HX.out]
                      intro z hz
                      obtain rfl : z = x := by simpa using hz
                      exact HK.out
                    case measure => simp [intOf]; omega
                  · have hk0' : (0 : Int) < (k : Int) := by omega
                    have hj : T ++ ⟨#[32]⟩ ++ x.text = J (txts (l.take (k + 1))) := by
                      rw [List.take_add_one, HX.out, HT.out]
                      simp only [txts, List.map_append, Option.toList_some, List.map_cons, List.map_nil]
                      exact (J_snoc _ _ (by intro e; have := congrArg List.length e; rw [List.length_map, List.length_take, List.length_nil] at this; omega)).symm
                    have HJ := Lib.hid hj
                    clear hj
                    have hsa : (T ++ ⟨#[32]⟩ ++ x.text).size = T.size + 1 + x.text.size := by rw [size_app, size_app]; rfl
                    by_cases hsz : (20000 : Int) < (T.size : Int) + 1 + (x.text.size : Int)
                    · go_wp2_with fail
                      go_ret2
                      refine ⟨HB4.out, .inr ⟨rfl, fun hh => ?_⟩⟩
                      have h2 := hh.2
                      have h3 := J_take (txts l) (k + 1)
                      rw [show (txts l).take (k + 1) = txts (l.take (k + 1)) from (List.map_take ..).symm, ← HJ.out] at h3
                      omega
                    · go_wp2_with fail
                      go_roundw
                      case rel =>
                        refine ⟨k + 1, _, by omega, by go_num, rfl, Lib.hid HJ.out, by omega, HB4.out, Lib.hid ?_⟩
                        rw [List.take_add_one, HX.out]
                        intro z hz
                        rcases List.mem_append.1 hz with h | h
                        · exact HO.out z h
                        · obtain rfl : z = x := by simpa using h
                          exact HK.out
                      case measure => simp [intOf]; omega
                · have b1 : (y.kind != x.kind) = false := by simp [e1]
                  have b2 : (y.text.toList == x.text.toList) = true := by rw [e2]; exact beq_self_eq_true _
                  have b3 : (y.num != x.num) = true := by simp [e3]
                  have E3 := Lib.hid e3
                  clear e1 e2 e3
                  go_wp2_with fail
                  refine wp_region_warm (Own w1.heap.size w1) (by kernel_rfl) (by kernel_rfl) (Own.refl (Nat.le_refl _)).drew ?_
                  repeat (first | (refine wpWarm_step_off rfl (fun K hK => ?_); (go_simp; refine hK _ ?_; clear hK K)) | (apply wpWarm_step rfl; (focus (intro W' hS; have hcS := hS.cells.1; have hfS := hS.cells.2; go_simp; (first | done | exact rfl | exact ⟨rfl, hS⟩ | (go_simp; exact rfl)))); (intro K hK; go_simp; (try go_bits); refine hK _ ?_; clear hK K)) | (apply wpWarm_step_on rfl; (focus (intro W' hS; have hcS := hS.cells.1; have hfS := hS.cells.2; go_simp; (first | done | exact rfl | exact ⟨rfl, hS⟩ | (go_simp; exact rfl)))); (intro K hK; go_simp; (try go_bits); refine hK _ ?_; clear hK K)))
                  refine wpWarm_nil ?_
                  intro w4 hO
                  go_wp2_with fail
                  go_ret2
                  refine ⟨HB1.out.trans (hO.2.mono (by omega)), .inr ⟨rfl, HN.out False ?_ (fun h => h)⟩⟩
                  rintro ⟨z, hy, q1, q2, q3⟩
                  rw [← HR.out] at hy
                  obtain rfl : y = z := by simpa using (Prod.mk.inj hy).1
                  exact E3.out q3
              · have b1 : (y.kind != x.kind) = false := by simp [e1]
                have b2 : (y.text.toList == x.text.toList) = false := txt_ne e2
                have E2 := Lib.hid e2
                clear e1 e2
                go_wp2_with fail
                refine wp_region_warm (Own w1.heap.size w1) (by kernel_rfl) (by kernel_rfl) (Own.refl (Nat.le_refl _)).drew ?_
                repeat (first | (refine wpWarm_step_off rfl (fun K hK => ?_); (go_simp; refine hK _ ?_; clear hK K)) | (apply wpWarm_step rfl; (focus (intro W' hS; have hcS := hS.cells.1; have hfS := hS.cells.2; go_simp; (first | done | exact rfl | exact ⟨rfl, hS⟩ | (go_simp; exact rfl)))); (intro K hK; go_simp; (try go_bits); refine hK _ ?_; clear hK K)) | (apply wpWarm_step_on rfl; (focus (intro W' hS; have hcS := hS.cells.1; have hfS := hS.cells.2; go_simp; (first | done | exact rfl | exact ⟨rfl, hS⟩ | (go_simp; exact rfl)))); (intro K hK; go_simp; (try go_bits); refine hK _ ?_; clear hK K)))
                refine wpWarm_nil ?_
                intro w4 hO
                go_wp2_with fail
                go_ret2
                refine ⟨HB1.out.trans (hO.2.mono (by omega)), .inr ⟨rfl, HN.out False ?_ (fun h => h)⟩⟩
                rintro ⟨z, hy, q1, q2, q3⟩
                rw [← HR.out] at hy
                obtain rfl : y = z := by simpa using (Prod.mk.inj hy).1
                exact E2.out q2
            · have b1 : (y.kind != x.kind) = true := by simp [e1]
              have E1 := Lib.hid e1
              clear e1
              go_wp2_with fail
              refine wp_region_warm (Own w1.heap.size w1) (by kernel_rfl) (by kernel_rfl) (Own.refl (Nat.le_refl _)).drew ?_
              repeat (first | (refine wpWarm_step_off rfl (fun K hK => ?_); (go_simp; refine hK _ ?_; clear hK K)) | (apply wpWarm_step rfl; (focus (intro W' hS; have hcS := hS.cells.1; have hfS := hS.cells.2; go_simp; (first | done | exact rfl | exact ⟨rfl, hS⟩ | (go_simp; exact rfl)))); (intro K hK; go_simp; (try go_bits); refine hK _ ?_; clear hK K)) | (apply wpWarm_step_on rfl; (focus (intro W' hS; have hcS := hS.cells.1; have hfS := hS.cells.2; go_simp; (first | done | exact rfl | exact ⟨rfl, hS⟩ | (go_simp; exact rfl)))); (intro K hK; go_simp; (try go_bits); refine hK _ ?_; clear hK K)))
              refine wpWarm_nil ?_
              intro w4 hO
              go_wp2_with fail
              go_ret2
              refine ⟨HB1.out.trans (hO.2.mono (by omega)), .inr ⟨rfl, HN.out False ?_ (fun h => h)⟩⟩
              rintro ⟨z, hy, q1, q2, q3⟩
              rw [← HR.out] at hy
              obtain rfl : y = z := by simpa using (Prod.mk.inj hy).1
              exact E1.out q1
        · have hL' : ((L.length : Int) != 1) = true := by simp; omega
          have HL := Lib.hid hL
          clear hL
          rcases own_form hv1 with ⟨hn0, A1, c1, rfl⟩ | ⟨_, g1, c1, rfl, k1, k1'⟩
          · rw [hn0] at hL'
            clear hv1
            go_wp2_with fail
            refine wp_region_warm (Own w1.heap.size w1) (by kernel_rfl) (by kernel_rfl) (Own.refl (Nat.le_refl _)).drew ?_
            repeat (first | (refine wpWarm_step_off rfl (fun K hK => ?_); (go_simp; refine hK _ ?_; clear hK K)) | (apply wpWarm_step rfl; (focus (intro W' hS; have hcS := hS.cells.1; have hfS := hS.cells.2; go_simp; (first | done | exact rfl | exact ⟨rfl, hS⟩ | (go_simp; exact rfl)))); (intro K hK; go_simp; (try go_bits); refine hK _ ?_; clear hK K)) | (apply wpWarm_step_on rfl; (focus (intro W' hS; have hcS := hS.cells.1; have hfS := hS.cells.2; go_simp; (first | done | exact rfl | exact ⟨rfl, hS⟩ | (go_simp; exact rfl)))); (intro K hK; go_simp; (try go_bits); refine hK _ ?_; clear hK K)))
            refine wpWarm_nil ?_
            intro w4 hO
            go_wp2_with fail
            go_ret2
            refine ⟨HB1.out.trans (hO.2.mono (by omega)), .inr ⟨rfl, HN.out False ?_ (fun h => h)⟩⟩
            rintro ⟨y, hy, -⟩
            rw [← HR.out] at hy
            exact HL.out (by rw [(Prod.mk.inj hy).1]; rfl)
          · clear hv1
            go_wp2_with fail
            refine wp_region_warm (Own w1.heap.size w1) (by kernel_rfl) (by kernel_rfl) (Own.refl (Nat.le_refl _)).drew ?_
            repeat (first | (refine wpWarm_step_off rfl (fun K hK => ?_); (go_simp; refine hK _ ?_; clear hK K)) | (apply wpWarm_step rfl; (focus (intro W' hS; have hcS := hS.cells.1; have hfS := hS.cells.2; go_simp; (first | done | exact rfl | exact ⟨rfl, hS⟩ | (go_simp; exact rfl)))); (intro K hK; go_simp; (try go_bits); refine hK _ ?_; clear hK K)) | (apply wpWarm_step_on rfl; (focus (intro W' hS; have hcS := hS.cells.1; have hfS := hS.cells.2; go_simp; (first | done | exact rfl | exact ⟨rfl, hS⟩ | (go_simp; exact rfl)))); (intro K hK; go_simp; (try go_bits); refine hK _ ?_; clear hK K)))
            refine wpWarm_nil ?_
            intro w4 hO
            go_wp2_with fail
            go_ret2
            refine ⟨HB1.out.trans (hO.2.mono (by omega)), .inr ⟨rfl, HN.out False ?_ (fun h => h)⟩⟩
            rintro ⟨y, hy, -⟩
            rw [← HR.out] at hy
            exact HL.out (by rw [(Prod.mk.inj hy).1]; rfl)
      · have her' : (er != 0) = true := by simp [her]
        have HE := Lib.hid her
        clear her hv1
        go_wp2_with fail
        refine wp_region_warm (Own w1.heap.size w1) (by kernel_rfl) (by kernel_rfl) (Own.refl (Nat.le_refl _)).drew ?_
        repeat (first | (refine wpWarm_step_off rfl (fun K hK => ?_); (go_simp; refine hK _ ?_; clear hK K)) | (apply wpWarm_step rfl; (focus (intro W' hS; have hcS := hS.cells.1; have hfS := hS.cells.2; go_simp; (first | done | exact rfl | exact ⟨rfl, hS⟩ | (go_simp; exact rfl)))); (intro K hK; go_simp; (try go_bits); refine hK _ ?_; clear hK K)) | (apply wpWarm_step_on rfl; (focus (intro W' hS; have hcS := hS.cells.1; have hfS := hS.cells.2; go_simp; (first | done | exact rfl | exact ⟨rfl, hS⟩ | (go_simp; exact rfl)))); (intro K hK; go_simp; (try go_bits); refine hK _ ?_; clear hK K)))
        refine wpWarm_nil ?_
        intro w4 hO
        go_wp2_with fail
        go_ret2
        refine ⟨HB1.out.trans (hO.2.mono (by omega)), .inr ⟨rfl, HN.out False ?_ (fun h => h)⟩⟩
        rintro ⟨y, hy, -⟩
        rw [← HR.out] at hy
        exact HE.out (congrArg (fun r => r.2.1) hy)
    · obtain rfl : k = l.length := by omega
      rw [List.take_length] at HO HT
      have HB := Lib.hid hbel
      clear hbel
      go_wp2_with fail
      go_ret2
      exact ⟨HB.out, .inl ⟨by rw [HT.out]; rfl, HO.out, by rw [← HT.out]; exact hTs⟩⟩
set_option maxHeartbeats 400000 in
theorem rjoin_none (A : Option Addr) (c : Nat) (w : World) :
    Calls Try.prog 15 #[.slice A 0 c] w (JoinOut [] w) := by
  go_enter Try.func15, Try.ntmps15; (try simp only [List.append_eq, List.cons_append, List.nil_append])
  go_wp2_with fail
  refine wp_loop_rounds 1 ?_
  rw [rounds_succ]
  go_wp2_with fail
  go_ret2
  exact ⟨Below.refl _ _, .inl ⟨rfl, by simp, by decide⟩⟩
end Go.Proofs.Ytadbffgaeobbhaa
