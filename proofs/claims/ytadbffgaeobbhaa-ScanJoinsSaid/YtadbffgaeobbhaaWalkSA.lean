/- The walk of ScanAgain. -/
import Derived.Test.YtadbffgaeobbhaaAwakeS
import Derived.Test.YtadbffgaeobbhaaScanJ
namespace Go.Proofs.Ytadbffgaeobbhaa
open Go.RowKit
set_option linter.unusedVariables false
attribute [local go_sem] cOf_get
def wi (x : WV) : WI := ⟨x.kind, x.text, x.num, (x.at_ : Int)⟩
theorem txts_wi (l : List WV) : txts (l.map wi) = l.map (·.text) := by simp [txts, wi, Function.comp_def]
theorem txts_key {m l : List WV} (hk : m.map (fun x => (x.kind, x.text, x.num)) = l.map (fun x => (x.kind, x.text, x.num))) : txts (m.map wi) = txts (l.map wi) := by
  have := congrArg (List.map (fun q : Int × ByteArray × Int => q.2.1)) hk
  simpa [txts, wi, Function.comp_def] using this
theorem key_mem {m l : List WV} (hk : m.map (fun x => (x.kind, x.text, x.num)) = l.map (fun x => (x.kind, x.text, x.num))) {x : WI} (hx : x ∈ m.map wi) : ∃ y ∈ l.map wi, y.kind = x.kind ∧ y.text = x.text ∧ y.num = x.num := by
  obtain ⟨z, hz, rfl⟩ := List.mem_map.1 hx
  have h1 : (z.kind, z.text, z.num) ∈ m.map (fun x => (x.kind, x.text, x.num)) := List.mem_map.2 ⟨z, hz, rfl⟩
  rw [hk] at h1
  obtain ⟨y, hy, he⟩ := List.mem_map.1 h1
  simp only [Prod.mk.injEq] at he
  exact ⟨wi y, List.mem_map.2 ⟨y, hy, rfl⟩, he.1, he.2.1, he.2.2⟩
theorem joinOk_key {m l : List WV} (hk : m.map (fun x => (x.kind, x.text, x.num)) = l.map (fun x => (x.kind, x.text, x.num))) (h1 : JoinOk (l.map wi)) : JoinOk (m.map wi) := by
  refine ⟨fun x hx => ?_, by rw [txts_key hk]; exact h1.2⟩
  obtain ⟨y, hy, e1, e2, e3⟩ := key_mem hk hx
  have := h1.1 y hy
  rwa [e1, e2, e3] at this
theorem texts_key {m l : List WV} (hk : m.map (fun x => (x.kind, x.text, x.num)) = l.map (fun x => (x.kind, x.text, x.num))) (h1 : ∀ x ∈ l.map wi, x.text.size ≤ 20000) : ∀ x ∈ m.map wi, x.text.size ≤ 20000 := by
  intro x hx
  obtain ⟨y, hy, e1, e2, e3⟩ := key_mem hk hx
  rw [← e2]; exact h1 y hy
theorem again_big {s : ByteArray} {m : List WV} (hc : Chain s 0 m) (hs : ∀ x ∈ m.map wi, x.text.size ≤ 20000) (hno : ¬ JoinOk (m.map wi)) : 10000 < s.size := by
  have h1 : ∀ x ∈ m.map wi, okW x.kind x.text x.num := by
    intro x hx
    obtain ⟨z, hz, rfl⟩ := List.mem_map.1 hx
    exact okW_of (chain_isW hc z hz) (hs _ hx)
  have h2 : ¬ (J (txts (m.map wi))).size ≤ 20000 := fun h => hno ⟨h1, h⟩
  rw [txts_wi, J_size] at h2
  have := chain_lens (Nat.zero_le _) hc
  simp only [List.length_map] at h2
  omega
theorem join_own (l : List WV) (v : Value) (base : Nat) (w : World) (hv : w.ownsRow base 33 4 v l.length (flatW l)) (hl : l.length ≤ 20000) (hs : ∀ x ∈ l.map wi, x.text.size ≤ 20000) : Calls Try.prog 14 #[v] w (JoinOut (l.map wi) w) := by
  rcases own_form hv with ⟨hn, A, c, rfl⟩ | ⟨hn, g, c, rfl, k1, _⟩
  · obtain rfl : l = [] := List.length_eq_zero_iff.1 hn
    exact join_none A c w
  · have := join_some (l.map wi) g 0 c w (by simpa using hn) (by simpa using hl) k1 (by
      intro k x hx
      rw [List.getElem?_map] at hx
      obtain ⟨y, hy, rfl⟩ := Option.map_eq_some_iff.1 hx
      have := word_cells hv hy (List.getElem?_eq_some_iff.1 hy).1
      simpa [wi] using this) hs
    simpa using this
set_option maxRecDepth 100000 in
set_option maxHeartbeats 2000000 in
theorem again_any (s : ByteArray) (w : World) (hm : s.size ≤ maxLen) :
    Calls Try.prog 7 #[.string s] w fun e w' => e = .returned (.bool true) ∧ Below w.heap.size w w' := by
  have hR := scanR_chain s
  have hlen := scanR_len s
  go_enter Try.func7, Try.ntmps7; (try simp only [List.append_eq, List.cons_append, List.nil_append])
  go_wp2_with fail
  (go_at_call 8; refine (awake07_any _).mono ?_; rintro e w1 ⟨rfl, hb1⟩)
  have z1 := hb1.size
  have HB1 := Lib.hid hb1
  clear hb1
  go_wp2_with fail
  (go_at_call 9; refine (words_any _ _ hm).mono ?_; rintro e w2 ⟨hb2, v1, rfl, hv1⟩)
  have z2 := hb2.size
  have HB2 := Lib.hid (HB1.out.trans (hb2.mono z1))
  clear hb2
  rcases hR with ⟨m, hm1, hch, hs⟩ | ⟨he, hnil⟩
  · obtain ⟨pl, hpl⟩ : ∃ p : Nat, p = 0 := ⟨_, rfl⟩
    rw [← hpl] at hm1
    clear hpl
    rw [hm1] at hv1 hlen ⊢
    simp only at hv1 hlen ⊢
    have hml : m.length ≤ 20000 := hlen
    have HC := Lib.hid hch
    have hms : ∀ x ∈ m.map wi, x.text.size ≤ 20000 := by
      intro x hx
      obtain ⟨z, hz, rfl⟩ := List.mem_map.1 hx
      obtain ⟨k, hk⟩ := List.getElem?_of_mem hz
      have := (chain_get hch hk).1
      show z.text.size ≤ 20000
      omega
    clear hch hm1 hlen hm
    rcases own_form hv1 with ⟨hn1, A1, c1, rfl⟩ | ⟨hn1, g1, c1, rfl, k1, _⟩
    · go_wp2_with fail
      refine wp_loop_rounds 1 ?_
      rw [rounds_succ]
      go_wp2_with fail
      (go_at_call 14; refine (join_own m _ _ _ (by assumption) hml hms).mono ?_; rintro e w3 ⟨hb3, hj⟩)
      have z3 := hb3.size
      have HB3 := Lib.hid (HB2.out.trans (hb3.mono (by omega)))
      clear hb3
      rcases hj with ⟨rfl, hok⟩ | ⟨rfl, hno⟩
      · obtain ⟨m2, hm2, hkey⟩ := scanR_join m (chain_isW HC.out) (by rw [← txts_wi]; exact hok.2)
        have hJs := hok.2
        have hT2 := txts_key hkey
        have hok2 := joinOk_key hkey hok
        have hlen2 : m2.length = m.length := by have := congrArg List.length hkey; simpa using this
        have hms2 : ∀ x ∈ m2.map wi, x.text.size ≤ 20000 := texts_key hkey hms
        rw [← txts_wi] at hm2
        obtain ⟨T, hT⟩ : ∃ T, T = J (txts (m.map wi)) := ⟨_, rfl⟩
        rw [← hT] at hm2 hJs ⊢
        have HT := Lib.hid hT
        have HK := Lib.hid hok2
        have HT2 := Lib.hid hT2
        have HM2 := Lib.hid hms2
        clear hT hok2 hok hT2 hkey hms2
        go_wp2_with fail
        (go_at_call 9; refine (words_any _ _ (by unfold maxLen; omega)).mono ?_; rintro e w4 ⟨hb4, v2, rfl, hv2⟩)
        rw [hm2] at hv2 ⊢
        simp only at hv2 ⊢
        have z4 := hb4.size
        have HB4 := Lib.hid (HB3.out.trans (hb4.mono (by omega)))
        have HV2 := Lib.hid hv2
        have hg2 := own_form hv2
        clear hb4 hm2 hv2
        go_wp2_with fail
        (go_at_call 14; refine (join_own m2 _ _ _ HV2.out (by omega) HM2.out).mono ?_; rintro e w5 ⟨hb5, hj⟩)
        have hTT : J (txts (m2.map wi)) = T := by rw [HT2.out]; exact HT.out.symm
        rcases hj with ⟨rfl, -⟩ | ⟨rfl, hno⟩
        · rw [hTT]
          have HB5 := Lib.hid (HB4.out.trans (hb5.mono (by omega)))
          clear hb5 HV2 hTT
          rw [hlen2] at hg2
          rcases hg2 with ⟨hn2, A2, c2, rfl⟩ | ⟨hn2, g2, c2, rfl, _, _⟩
          · go_wp2_with fail
            go_ret
            exact ⟨rfl, HB5.out⟩
          · omega
        · exact absurd HK.out hno
      · have hbig := again_big HC.out hms hno
        have hbig' : (10000 : Int) < (s.size : Int) := by omega
        go_wp2_with fail
        go_ret
        exact ⟨rfl, HB3.out⟩
    · have HV := Lib.hid hv1
      have HM := Lib.hid hms
      clear hv1 hms
      go_wp2_with fail
      go_loopw [6, 7] (fun v t wr => ∃ k la : Nat, k ≤ m.length ∧ t = .int .i64 k ∧ v = .int .i64 la ∧ la ≤ 20000 ∧ Hid (∀ y, m[k]? = some y → la ≤ y.at_) ∧ Below w2.heap.size w2 wr) (fun _ t _ => m.length - (intOf t).toNat)
      case atStart => exact ⟨0, 0, by omega, rfl, rfl, by omega, Lib.hid (fun _ _ => Nat.zero_le _), Below.refl _ _⟩
      case round =>
        obtain ⟨k, la, hk, rfl, rfl, hla, HL, hb⟩ := hrel
        have hzr := hb.size
        by_cases hlt : k < m.length
        · obtain ⟨x, hx⟩ : ∃ x, m[k]? = some x := ⟨m[k], by simp⟩
          obtain ⟨a0, a1, a2, a3⟩ := word_cells HV.out hx hlt
          rw [← hb.cell (by simpa using k1)] at a0 a1 a2 a3
          obtain ⟨q1, q2, -, q4⟩ := chain_get HC.out hx
          have q0 := HL.out x hx
          have Q2 := Lib.hid q2
          have Q4 := Lib.hid q4
          have HB := Lib.hid hb
          have i1 : (0 : Int) ≤ (k : Int) := by omega
          have i2 : (k : Int) < (m.length : Int) := by omega
          have l1 : g1 < wr.heap.size := by omega
          have e1 : decide (x.at_ < la) = false := by simp; omega
          have e2 : decide ((s.size : Int) < (x.at_ : Int) + (x.text.size : Int)) = false := by simp; omega
          have e3 : (x.at_ : Int) + (x.text.size : Int) ≤ (s.size : Int) := by omega
          have e4 : (0 : Int) ≤ (x.at_ : Int) + (x.text.size : Int) := by omega
          have e5 : (x.at_ : Int) ≤ (x.at_ : Int) + (x.text.size : Int) := by omega
          have e6 : ((x.at_ : Int) + (x.text.size : Int)).toNat = x.at_ + x.text.size := by omega
          have e7 := q2
          clear hx hb q2 q4 q0
          go_wp2_with fail
          refine wp_region_warm (Own wr.heap.size wr) (by kernel_rfl) (by kernel_rfl) (Own.refl (Nat.le_refl _)).drew ?_
          repeat (first | (refine wpWarm_step_off rfl (fun K hK => ?_); (go_simp; refine hK _ ?_; clear hK K)) | (apply wpWarm_step rfl; (focus (intro W' hS; have hcS := hS.cells.1; have hfS := hS.cells.2; go_simp; (first | done | exact rfl | exact ⟨rfl, hS⟩ | (go_simp; exact rfl)))); (intro K hK; go_simp; (try go_bits); refine hK _ ?_; clear hK K)) | (apply wpWarm_step_on rfl; (focus (intro W' hS; have hcS := hS.cells.1; have hfS := hS.cells.2; go_simp; (first | done | exact rfl | exact ⟨rfl, hS⟩ | (go_simp; exact rfl)))); (intro K hK; go_simp; (try go_bits); refine hK _ ?_; clear hK K)))
          refine wpWarm_nil ?_
          intro w4 hO
          have f1 := hO.2.cell (p := ⟨g1, k * 4 + 1, none⟩) (by simpa using l1)
          rw [a1] at f1
          have l4 : g1 < w4.heap.size := by have := hO.1; omega
          have HO := Lib.hid hO
          clear hO
          go_wp2_with fail
          go_roundw
          case rel => exact ⟨k + 1, x.at_ + x.text.size, by omega, by go_num, by go_num, by omega, Lib.hid Q4.out, HB.out.trans (HO.out.2.mono (by omega))⟩
          case measure => simp [intOf]; omega
        · obtain rfl : k = m.length := by omega
          have HBr := Lib.hid (HB2.out.trans (hb.mono (by omega)))
          have hv1r := own_below HV.out hb (Nat.le_refl _)
          have hms := HM.out
          have zr : w.heap.size ≤ wr.heap.size := by omega
          clear hb
          go_wp2_with fail
          (go_at_call 14; refine (join_own m _ _ _ (by assumption) hml hms).mono ?_; rintro e w3 ⟨hb3, hj⟩)
          have z3 := hb3.size
          have HB3 := Lib.hid (HBr.out.trans (hb3.mono (by omega)))
          clear hb3
          rcases hj with ⟨rfl, hok⟩ | ⟨rfl, hno⟩
          · obtain ⟨m2, hm2, hkey⟩ := scanR_join m (chain_isW HC.out) (by rw [← txts_wi]; exact hok.2)
            have hJs := hok.2
            have hT2 := txts_key hkey
            have hok2 := joinOk_key hkey hok
            have hlen2 : m2.length = m.length := by have := congrArg List.length hkey; simpa using this
            have hms2 : ∀ x ∈ m2.map wi, x.text.size ≤ 20000 := texts_key hkey hms
            rw [← txts_wi] at hm2
            obtain ⟨T, hT⟩ : ∃ T, T = J (txts (m.map wi)) := ⟨_, rfl⟩
            rw [← hT] at hm2 hJs ⊢
            have HT := Lib.hid hT
            have HK := Lib.hid hok2
            have HT2 := Lib.hid hT2
            have HM2 := Lib.hid hms2
            clear hT hok2 hok hT2 hkey hms2
            go_wp2_with fail
            (go_at_call 9; refine (words_any _ _ (by unfold maxLen; omega)).mono ?_; rintro e w4 ⟨hb4, v2, rfl, hv2⟩)
            rw [hm2] at hv2 ⊢
            simp only at hv2 ⊢
            have z4 := hb4.size
            have HB4 := Lib.hid (HB3.out.trans (hb4.mono (by omega)))
            have HV2 := Lib.hid hv2
            have hg2 := own_form hv2
            clear hb4 hm2 hv2
            go_wp2_with fail
            (go_at_call 14; refine (join_own m2 _ _ _ HV2.out (by omega) HM2.out).mono ?_; rintro e w5 ⟨hb5, hj⟩)
            have hTT : J (txts (m2.map wi)) = T := by rw [HT2.out]; exact HT.out.symm
            rcases hj with ⟨rfl, -⟩ | ⟨rfl, hno⟩
            · rw [hTT]
              have HB5 := Lib.hid (HB4.out.trans (hb5.mono (by omega)))
              clear hb5 HV2 hTT
              rw [hlen2] at hg2
              rcases hg2 with ⟨hn2, A2, c2, rfl⟩ | ⟨hn2, g2, c2, rfl, _, _⟩
              · omega
              · go_wp2_with fail
                go_ret
                exact ⟨rfl, HB5.out⟩
            · exact absurd HK.out hno
          · have hbig := again_big HC.out hms hno
            have hbig' : (10000 : Int) < (s.size : Int) := by omega
            go_wp2_with fail
            go_ret
            exact ⟨rfl, HB3.out⟩
  · have her : ((scanR s).2.1 != 0) = true := by simp [he]
    obtain ⟨er, hE⟩ : ∃ er, er = (scanR s).2.1 := ⟨_, rfl⟩
    obtain ⟨pl, hP⟩ : ∃ pl, pl = (scanR s).2.2 := ⟨_, rfl⟩
    rw [← hE] at her ⊢
    rw [← hP]
    rw [hnil] at hv1
    clear hE hP he hnil
    rcases own_form hv1 with ⟨hn1, A1, c1, rfl⟩ | ⟨hn1, _⟩
    · clear hv1
      go_wp2_with fail
      go_ret
      exact ⟨rfl, HB2.out⟩
    · simp at hn1
end Go.Proofs.Ytadbffgaeobbhaa
