/- The contract of scan.Join. -/
import Derived.Test.YtadbffgaeobbhaaScanG
import Derived.Test.YtadbffgaeobbhaaScanS
import Derived.Test.YtadbffgaeobbhaaWarm
import Derived.Test.YtadbffgaeobbhaaOpen
import Derived.Test.YtadbffgaeobbhaaShelf
namespace Go.Proofs.Ytadbffgaeobbhaa
open Go.RowKit
set_option linter.unusedVariables false
theorem txt_ne {a b : ByteArray} (hne : a ≠ b) : (a.toList == b.toList) = false := by
  rw [beq_eq_false_iff_ne]
  intro e
  rw [ByteArray.toList_eq, ByteArray.toList_eq] at e
  exact hne (ByteArray.ext (Array.ext' e))
structure WI where
  kind : Int
  text : ByteArray
  num : Int
  at_ : Int
theorem lens_le (l : List ByteArray) (hs : ∀ t ∈ l, t.size ≤ 20000) : lens l ≤ l.length * 20000 := by
  induction l with
  | nil => simp [lens]
  | cons a l ih =>
    have h1 := hs a (by simp)
    have h2 := ih (fun t ht => hs t (by simp [ht]))
    simp only [lens, List.map_cons, List.sum_cons, List.length_cons] at *
    omega
theorem own_form1 {w : World} {base : Nat} {e : TypeId} {n : Nat} {v : Value} {xs : List Value} (h : w.ownsRow base e 1 v n xs) : (n = 0 ∧ ∃ A c, v = .slice A 0 c) ∨ (0 < n ∧ ∃ g c, v = .slice (some ⟨g, 0, none⟩) n c ∧ n ≤ c ∧ g < w.heap.size ∧ base ≤ g) := by
  rcases Nat.eq_zero_or_pos n with h0 | h0
  · subst h0
    rcases h.2 with ⟨hv, _⟩ | ⟨g, cap, cur, hv, _⟩
    · exact .inl ⟨rfl, none, 0, hv⟩
    · exact .inl ⟨rfl, _, _, hv⟩
  · rcases h.2 with ⟨_, hn⟩ | ⟨g, cap, cur, hv, hb, hh, hc, _⟩
    · omega
    · refine .inr ⟨h0, g, cap, hv, hc, ?_, hb⟩
      rcases Nat.lt_or_ge g w.heap.size with h | h
      · exact h
      · rw [Array.getElem?_eq_none h] at hh; cases hh
/-- The cells of a list of words from a place on. -/
def WsAt (w : World) (g o : Nat) (l : List WI) : Prop := ∀ k x, l[k]? = some x → w.cell? ⟨g, o + k * 4, none⟩ = some (.int .i64 x.kind) ∧ w.cell? ⟨g, o + k * 4 + 1, none⟩ = some (.string x.text) ∧ w.cell? ⟨g, o + k * 4 + 2, none⟩ = some (.int .i64 x.num) ∧ w.cell? ⟨g, o + k * 4 + 3, none⟩ = some (.int .i64 x.at_)
theorem WsAt.below {w w1 : World} {g o B : Nat} {l : List WI} (h : WsAt w g o l) (hb : Below B w w1) (hg : g < B) : WsAt w1 g o l := by
  intro k x hx
  obtain ⟨a, b, c, d⟩ := h k x hx
  refine ⟨?_, ?_, ?_, ?_⟩ <;> rw [hb.cell (by simpa using hg)] <;> assumption
def txts (l : List WI) : List ByteArray := l.map (·.text)
def JoinOk (l : List WI) : Prop := (∀ x ∈ l, okW x.kind x.text x.num) ∧ (J (txts l)).size ≤ 20000
theorem stringInfo : (Try.prog.info? 9).map (fun i => (i.zero, i.size, i.bytes)) = some (some (.string ⟨#[]⟩), 1, 16) := by kernel_rfl
def JoinOut (l : List WI) (w : World) (e : Ending) (w' : World) : Prop :=
  Below w.heap.size w w' ∧ ((e = .returned (.tuple #[.string (J (txts l)), .bool true]) ∧ JoinOk l) ∨ (e = .returned (.tuple #[.string ⟨#[]⟩, .bool false]) ∧ ¬ JoinOk l))
set_option maxRecDepth 100000 in
set_option maxHeartbeats 1000000 in
theorem join_some (l : List WI) (g o c : Nat) (w : World) (hn : 0 < l.length) (hl : l.length ≤ 20000) (hg : g < w.heap.size) (hW : WsAt w g o l) (hs : ∀ x ∈ l, x.text.size ≤ 20000) :
    Calls Try.prog 14 #[.slice (some ⟨g, o, none⟩) l.length c] w (JoinOut l w) := by
  obtain ⟨i0, hi0, hy0, hy1, hy2⟩ := info_parts stringInfo
  have HW := Lib.hid hW
  have HS := Lib.hid hs
  clear hW hs
  go_enter Try.func14, Try.ntmps14; (try simp only [List.append_eq, List.cons_append, List.nil_append])
  go_wp2_with fail
  go_loopw [4, 13] (fun v t wr => ∃ k : Nat, k ≤ l.length ∧ t = .int .i64 k ∧ wr.ownsRow w.heap.size 9 1 v k ((txts (l.take k)).map .string) ∧ Below w.heap.size w wr ∧ Hid (∀ x ∈ l.take k, okW x.kind x.text x.num)) (fun _ t _ => l.length - (intOf t).toNat)
  case atStart => exact ⟨0, by omega, rfl, World.ownsRow_nil _ _ _ _, Below.refl _ _, Lib.hid (by simp)⟩
  case round =>
    obtain ⟨k, hk, rfl, hown, hbel, HO⟩ := hrel
    have hz := hbel.size
    by_cases hlt : k < l.length
    · obtain ⟨x, hx⟩ : ∃ x, l[k]? = some x := ⟨l[k], by simp⟩
      obtain ⟨a0, a1, a2, a3⟩ := (HW.out.below hbel hg) k x hx
      have hxs := HS.out x (List.mem_of_getElem? hx)
      have HX := Lib.hid hx
      have HB := Lib.hid hbel
      have HV := Lib.hid hown
      have i1 : (0 : Int) ≤ (k : Int) := by omega
      have i2 : (k : Int) < (l.length : Int) := by omega
      have l1 : g < wr.heap.size := by omega
      clear hx hbel hown
      go_wp2_with fail
      -- own blocks: wr.heap.size:4
      (go_at_call 9; refine (words_any _ _ (by unfold maxLen; omega)).mono ?_; rintro e w1 ⟨hb_w1, v1, rfl, hv1⟩)
      have hz1 := hb_w1.size
      simp at hz1
      have hcc := fun o => hb_w1.cell (p := ⟨wr.heap.size, o, none⟩) (by (try simp) <;> omega); have hff := fun o => hb_w1.frozen (p := ⟨wr.heap.size, o, none⟩) (by (try simp) <;> omega); with_reducible apply cell_in (w := w1) (p := ⟨wr.heap.size, 0, none⟩); (focus (rw [hcc]; go_simp; try (exact rfl))); intro cc; with_reducible apply cell_in (w := w1) (p := ⟨wr.heap.size, 1, none⟩); (focus (rw [hcc]; go_simp; try (exact rfl))); intro cc; with_reducible apply cell_in (w := w1) (p := ⟨wr.heap.size, 2, none⟩); (focus (rw [hcc]; go_simp; try (exact rfl))); intro cc; with_reducible apply cell_in (w := w1) (p := ⟨wr.heap.size, 3, none⟩); (focus (rw [hcc]; go_simp; try (exact rfl))); intro cc; have fz : (∀ o, w1.frozen? ⟨wr.heap.size, o, none⟩ = false) := (by intro o; rw [hff]; go_simp); have hl : wr.heap.size < w1.heap.size ∧ wr.heap.size < w1.heap.size + 1 ∧ wr.heap.size < w1.heap.size + 1 + 1 ∧ wr.heap.size < w1.heap.size + 1 + 1 + 1 := (by omega); clear hcc hff
      have HB1 := Lib.hid ((HB.out.alloc hz _).trans (hb_w1.mono (by simp; omega)))
      have HV1 := Lib.hid (own_below HV.out (((Below.refl wr.heap.size wr).alloc (Nat.le_refl _) _).trans (hb_w1.mono (by simp))) (Nat.le_refl _))
      clear hb_w1
      obtain ⟨⟨L, er, pl⟩, hR⟩ : ∃ R, R = scanR x.text := ⟨_, rfl⟩
      rw [← hR] at hv1 ⊢
      have HR := Lib.hid hR
      clear hR
      simp only at hv1 ⊢
      have hLl : L.length ≤ 20000 := by have := scanR_len x.text; rw [← HR.out] at this; exact this
      have hnot : ∀ (P : Prop), (okW x.kind x.text x.num → P) → (¬ P) → ¬ JoinOk l := fun P h1 h2 hj => h2 (h1 (hj.1 x (List.mem_of_getElem? HX.out)))
      have HN := Lib.hid hnot
      clear hnot
      by_cases her : er = 0
      · subst her
        obtain rfl : pl = 0 := by
          rcases scanR_chain x.text with ⟨m, hm, _⟩ | ⟨he, _⟩
          · rw [← HR.out] at hm; exact (Prod.mk.inj (Prod.mk.inj hm).2).2
          · rw [← HR.out] at he; exact absurd rfl he
        by_cases hL : L.length = 1
        · obtain ⟨y, rfl⟩ := len1 hL
          clear hL
          rcases own_form hv1 with ⟨hn0, _⟩ | ⟨_, g1, c1, rfl, k1, k1'⟩
          · simp at hn0
          · obtain ⟨d0, d1, d2, d3⟩ := word_cells hv1 (k := 0) (x := y) rfl (by simp)
            simp only [List.length_cons, List.length_nil, Nat.zero_add, Nat.zero_mul] at d0 d1 d2 d3 ⊢
            clear hv1
            by_cases e1 : y.kind = x.kind
            · by_cases e2 : y.text = x.text
              · by_cases e3 : y.num = x.num
                · have b1 : (y.kind != x.kind) = false := by simp [e1]
                  have b2 : (y.text.toList == x.text.toList) = true := by rw [e2]; exact beq_self_eq_true _
                  have b3 : (y.num != x.num) = false := by simp [e3]
                  have HK : Hid (okW x.kind x.text x.num) := Lib.hid ⟨y, HR.out.symm, e1, e2, e3⟩
                  clear e1 e2 e3
                  go_wp2_with fail
                  refine wp_region_warm (Own w1.heap.size w1) (by kernel_rfl) (by kernel_rfl) (Own.refl (Nat.le_refl _)).drew ?_
                  repeat (first | (refine wpWarm_step_off rfl (fun K hK => ?_); (go_simp; refine hK _ ?_; clear hK K)) | (apply wpWarm_step rfl; (focus (intro W' hS; have hcS := hS.cells.1; have hfS := hS.cells.2; go_simp; (first | done | exact rfl | exact ⟨rfl, hS⟩ | (go_simp; exact rfl)))); (intro K hK; go_simp; (try go_bits); refine hK _ ?_; clear hK K)) | (apply wpWarm_step_on rfl; (focus (intro W' hS; have hcS := hS.cells.1; have hfS := hS.cells.2; go_simp; (first | done | exact rfl | exact ⟨rfl, hS⟩ | (go_simp; exact rfl)))); (intro K hK; go_simp; (try go_bits); refine hK _ ?_; clear hK K)))
                  (refine wpWarm_nil ?_; intro w4 hO; have hz_w4 := hO.1; have hb_w4 := hO.2; clear hO; have hcc := fun o => hb_w4.cell (p := ⟨wr.heap.size, o, none⟩) (by (try simp) <;> omega); have hff := fun o => hb_w4.frozen (p := ⟨wr.heap.size, o, none⟩) (by (try simp) <;> omega); with_reducible apply cell_in (w := w4) (p := ⟨wr.heap.size, 0, none⟩); (focus (rw [hcc]; go_simp; try (exact rfl))); intro cc; with_reducible apply cell_in (w := w4) (p := ⟨wr.heap.size, 1, none⟩); (focus (rw [hcc]; go_simp; try (exact rfl))); intro cc; with_reducible apply cell_in (w := w4) (p := ⟨wr.heap.size, 2, none⟩); (focus (rw [hcc]; go_simp; try (exact rfl))); intro cc; with_reducible apply cell_in (w := w4) (p := ⟨wr.heap.size, 3, none⟩); (focus (rw [hcc]; go_simp; try (exact rfl))); intro cc; have fz : (∀ o, w4.frozen? ⟨wr.heap.size, o, none⟩ = false) := (by intro o; rw [hff]; go_simp); have hl : wr.heap.size < w4.heap.size ∧ wr.heap.size < w4.heap.size + 1 ∧ wr.heap.size < w4.heap.size + 1 + 1 ∧ wr.heap.size < w4.heap.size + 1 + 1 + 1 := (by omega); clear hcc hff)
                  have hown4 := own_below HV1.out hb_w4 (Nat.le_refl _)
                  have HB4 := Lib.hid (HB1.out.trans (hb_w4.mono (by omega)))
                  clear hb_w4
                  go_wp2_with (at_builtin; go_must (refine wpList_append_own _ rfl _ _ 45 rfl w.heap.size 9 i0 _ 1 16 Try.underlying45 hi0 hy0 hy1 hy2 rfl (by decide) _ _ _ rfl (hown4.alloc _) ⟨w4.heap.size, 0, none⟩ 1 1 [.string x.text] rfl rfl ?c1 ?c2 ?c3 ?c4 ?c5 ?_))
                  case c1 => exact cells_new _ _ _ (by simp)
                  case c2 => intro u hu; simp at hu; subst hu; rfl
                  case c3 => simp [maxLen]; omega
                  case c4 => omega
                  case c5 => simp; omega
                  intro v2 w2 hown2 hg2 _
                  have hbel2 : Below w.heap.size w w2 := (HB4.out.alloc (by omega) _).grown hg2 (by simp; omega) (own_fresh hown4)
                  clear hg2 hown4
                  go_wp2_with fail
                  go_roundw
                  case rel =>
                    have ht : l.take (k + 1) = l.take k ++ [x] := by rw [List.take_add_one, HX.out]; rfl
                    refine ⟨k + 1, by omega, by go_num, ?_, hbel2, Lib.hid ?_⟩
                    · rw [ht]; simpa [txts] using hown2
                    · rw [ht]
                      intro z hz
                      rcases List.mem_append.1 hz with h | h
                      · exact HO.out z h
                      · obtain rfl : z = x := by simpa using h
                        exact HK.out
                  case measure => simp [intOf]; omega
                · have b1 : (y.kind != x.kind) = false := by simp [e1]
                  have b2 : (y.text.toList == x.text.toList) = true := by rw [e2]; exact beq_self_eq_true _
                  have b3 : (y.num != x.num) = true := by simp [e3]
                  have E3 := Lib.hid e3
                  clear e1 e2 e3
                  go_wp2_with fail
                  refine wp_region_warm (Own w1.heap.size w1) (by kernel_rfl) (by kernel_rfl) (Own.refl (Nat.le_refl _)).drew ?_
                  repeat (first | (refine wpWarm_step_off rfl (fun K hK => ?_); (go_simp; refine hK _ ?_; clear hK K)) | (apply wpWarm_step rfl; (focus (intro W' hS; have hcS := hS.cells.1; have hfS := hS.cells.2; go_simp; (first | done | exact rfl | exact ⟨rfl, hS⟩ | (go_simp; exact rfl)))); (intro K hK; go_simp; (try go_bits); refine hK _ ?_; clear hK K)) | (apply wpWarm_step_on rfl; (focus (intro W' hS; have hcS := hS.cells.1; have hfS := hS.cells.2; go_simp; (first | done | exact rfl | exact ⟨rfl, hS⟩ | (go_simp; exact rfl)))); (intro K hK; go_simp; (try go_bits); refine hK _ ?_; clear hK K)))
                  refine wpWarm_nil ?_
                  intro w4 hO
                  go_wp2_with fail
                  go_ret2
                  refine ⟨HB1.out.trans (hO.2.mono (by omega)), .inr ⟨rfl, HN.out False ?_ (fun h => h)⟩⟩
                  rintro ⟨z, hy, q1, q2, q3⟩
                  rw [← HR.out] at hy
                  obtain rfl : y = z := by simpa using (Prod.mk.inj hy).1
                  exact E3.out q3
              · have b1 : (y.kind != x.kind) = false := by simp [e1]
                have b2 : (y.text.toList == x.text.toList) = false := txt_ne e2
                have E2 := Lib.hid e2
                clear e1 e2
                go_wp2_with fail
                refine wp_region_warm (Own w1.heap.size w1) (by kernel_rfl) (by kernel_rfl) (Own.refl (Nat.le_refl _)).drew ?_
                repeat (first | (refine wpWarm_step_off rfl (fun K hK => ?_); (go_simp; refine hK _ ?_; clear hK K)) | (apply wpWarm_step rfl; (focus (intro W' hS; have hcS := hS.cells.1; have hfS := hS.cells.2; go_simp; (first | done | exact rfl | exact ⟨rfl, hS⟩ | (go_simp; exact rfl)))); (intro K hK; go_simp; (try go_bits); refine hK _ ?_; clear hK K)) | (apply wpWarm_step_on rfl; (focus (intro W' hS; have hcS := hS.cells.1; have hfS := hS.cells.2; go_simp; (first | done | exact rfl | exact ⟨rfl, hS⟩ | (go_simp; exact rfl)))); (intro K hK; go_simp; (try go_bits); refine hK _ ?_; clear hK K)))
                refine wpWarm_nil ?_
                intro w4 hO
                go_wp2_with fail
                go_ret2
                refine ⟨HB1.out.trans (hO.2.mono (by omega)), .inr ⟨rfl, HN.out False ?_ (fun h => h)⟩⟩
                rintro ⟨z, hy, q1, q2, q3⟩
                rw [← HR.out] at hy
                obtain rfl : y = z := by simpa using (Prod.mk.inj hy).1
                exact E2.out q2
            · have b1 : (y.kind != x.kind) = true := by simp [e1]
              have E1 := Lib.hid e1
              clear e1
              go_wp2_with fail
              refine wp_region_warm (Own w1.heap.size w1) (by kernel_rfl) (by kernel_rfl) (Own.refl (Nat.le_refl _)).drew ?_
              repeat (first | (refine wpWarm_step_off rfl (fun K hK => ?_); (go_simp; refine hK _ ?_; clear hK K)) | (apply wpWarm_step rfl; (focus (intro W' hS; have hcS := hS.cells.1; have hfS := hS.cells.2; go_simp; (first | done | exact rfl | exact ⟨rfl, hS⟩ | (go_simp; exact rfl)))); (intro K hK; go_simp; (try go_bits); refine hK _ ?_; clear hK K)) | (apply wpWarm_step_on rfl; (focus (intro W' hS; have hcS := hS.cells.1; have hfS := hS.cells.2; go_simp; (first | done | exact rfl | exact ⟨rfl, hS⟩ | (go_simp; exact rfl)))); (intro K hK; go_simp; (try go_bits); refine hK _ ?_; clear hK K)))
              refine wpWarm_nil ?_
              intro w4 hO
              go_wp2_with fail
              go_ret2
              refine ⟨HB1.out.trans (hO.2.mono (by omega)), .inr ⟨rfl, HN.out False ?_ (fun h => h)⟩⟩
              rintro ⟨z, hy, q1, q2, q3⟩
              rw [← HR.out] at hy
              obtain rfl : y = z := by simpa using (Prod.mk.inj hy).1
              exact E1.out q1
        · have hL' : ((L.length : Int) != 1) = true := by simp; omega
          have HL := Lib.hid hL
          clear hL
          rcases own_form hv1 with ⟨hn0, A1, c1, rfl⟩ | ⟨_, g1, c1, rfl, k1, k1'⟩
          · rw [hn0] at hL'
            clear hv1
            go_wp2_with fail
            refine wp_region_warm (Own w1.heap.size w1) (by kernel_rfl) (by kernel_rfl) (Own.refl (Nat.le_refl _)).drew ?_
            repeat (first | (refine wpWarm_step_off rfl (fun K hK => ?_); (go_simp; refine hK _ ?_; clear hK K)) | (apply wpWarm_step rfl; (focus (intro W' hS; have hcS := hS.cells.1; have hfS := hS.cells.2; go_simp; (first | done | exact rfl | exact ⟨rfl, hS⟩ | (go_simp; exact rfl)))); (intro K hK; go_simp; (try go_bits); refine hK _ ?_; clear hK K)) | (apply wpWarm_step_on rfl; (focus (intro W' hS; have hcS := hS.cells.1; have hfS := hS.cells.2; go_simp; (first | done | exact rfl | exact ⟨rfl, hS⟩ | (go_simp; exact rfl)))); (intro K hK; go_simp; (try go_bits); refine hK _ ?_; clear hK K)))
            refine wpWarm_nil ?_
            intro w4 hO
            go_wp2_with fail
            go_ret2
            refine ⟨HB1.out.trans (hO.2.mono (by omega)), .inr ⟨rfl, HN.out False ?_ (fun h => h)⟩⟩
            rintro ⟨y, hy, -⟩
            rw [← HR.out] at hy
            exact HL.out (by rw [(Prod.mk.inj hy).1]; rfl)
          · clear hv1
            go_wp2_with fail
            refine wp_region_warm (Own w1.heap.size w1) (by kernel_rfl) (by kernel_rfl) (Own.refl (Nat.le_refl _)).drew ?_
            repeat (first | (refine wpWarm_step_off rfl (fun K hK => ?_); (go_simp; refine hK _ ?_; clear hK K)) | (apply wpWarm_step rfl; (focus (intro W' hS; have hcS := hS.cells.1; have hfS := hS.cells.2; go_simp; (first | done | exact rfl | exact ⟨rfl, hS⟩ | (go_simp; exact rfl)))); (intro K hK; go_simp; (try go_bits); refine hK _ ?_; clear hK K)) | (apply wpWarm_step_on rfl; (focus (intro W' hS; have hcS := hS.cells.1; have hfS := hS.cells.2; go_simp; (first | done | exact rfl | exact ⟨rfl, hS⟩ | (go_simp; exact rfl)))); (intro K hK; go_simp; (try go_bits); refine hK _ ?_; clear hK K)))
            refine wpWarm_nil ?_
            intro w4 hO
            go_wp2_with fail
            go_ret2
            refine ⟨HB1.out.trans (hO.2.mono (by omega)), .inr ⟨rfl, HN.out False ?_ (fun h => h)⟩⟩
            rintro ⟨y, hy, -⟩
            rw [← HR.out] at hy
            exact HL.out (by rw [(Prod.mk.inj hy).1]; rfl)
      · have her' : (er != 0) = true := by simp [her]
        have HE := Lib.hid her
        clear her hv1
        go_wp2_with fail
        refine wp_region_warm (Own w1.heap.size w1) (by kernel_rfl) (by kernel_rfl) (Own.refl (Nat.le_refl _)).drew ?_
        repeat (first | (refine wpWarm_step_off rfl (fun K hK => ?_); (go_simp; refine hK _ ?_; clear hK K)) | (apply wpWarm_step rfl; (focus (intro W' hS; have hcS := hS.cells.1; have hfS := hS.cells.2; go_simp; (first | done | exact rfl | exact ⟨rfl, hS⟩ | (go_simp; exact rfl)))); (intro K hK; go_simp; (try go_bits); refine hK _ ?_; clear hK K)) | (apply wpWarm_step_on rfl; (focus (intro W' hS; have hcS := hS.cells.1; have hfS := hS.cells.2; go_simp; (first | done | exact rfl | exact ⟨rfl, hS⟩ | (go_simp; exact rfl)))); (intro K hK; go_simp; (try go_bits); refine hK _ ?_; clear hK K)))
        refine wpWarm_nil ?_
        intro w4 hO
        go_wp2_with fail
        go_ret2
        refine ⟨HB1.out.trans (hO.2.mono (by omega)), .inr ⟨rfl, HN.out False ?_ (fun h => h)⟩⟩
        rintro ⟨y, hy, -⟩
        rw [← HR.out] at hy
        exact HE.out (congrArg (fun r => r.2.1) hy)
    · obtain rfl : k = l.length := by omega
      rw [List.take_length] at hown HO
      rcases own_form1 hown with ⟨hn0, _⟩ | ⟨_, g1, c1, rfl, hc1, k1, k1'⟩
      · omega
      · have hxl : (txts l).length = l.length := by simp [txts]
        have hjs := J_size (txts l)
        have hlen := lens_le (txts l) (by intro t ht; obtain ⟨x, hx, rfl⟩ := List.mem_map.1 ht; exact HS.out x hx)
        have hj := Try.strings_Join g1 0 c1 (txts l) ⟨#[32]⟩ wr (fun j x hx => by
            have := hown.cellAt j (by rw [Nat.mul_one]; have := (List.getElem?_eq_some_iff.1 hx).1; omega)
            rw [Nat.zero_add, this, List.getElem?_map, hx]; rfl) k1 (by omega) (by omega) (by
            have : (Lib.join ((txts l).map (·.data.toList)) [32]).length = (J (txts l)).size := by simp [J, ByteArray.size]
            show (Lib.join ((txts l).map (·.data.toList)) [32]).length ≤ _
            rw [this]; omega)
        replace hj : Calls Try.prog 20 #[.slice (some ⟨g1, 0, none⟩) (txts l).length c1, .string ⟨#[32]⟩] wr fun e w' => e = .returned (.string (J (txts l))) ∧ Below wr.heap.size wr w' := hj
        rw [hxl] at hj
        obtain ⟨T, hT⟩ : ∃ T, T = J (txts l) := ⟨_, rfl⟩
        rw [← hT] at hj hjs
        have HB := Lib.hid hbel
        have HT := Lib.hid hT
        have HJ := Lib.hid hj
        clear hbel hown hT hj hjs hlen hxl
        go_wp2_with fail
        (go_at_call 20; refine HJ.out.mono ?_; rintro e w2 ⟨rfl, hb2⟩)
        by_cases hsz : 20000 < T.size
        · go_wp2_with fail
          go_ret2
          refine ⟨HB.out.trans (hb2.mono hz), .inr ⟨rfl, fun hj => ?_⟩⟩
          have := hj.2
          rw [← HT.out] at this
          omega
        · go_wp2_with fail
          go_ret2
          refine ⟨HB.out.trans (hb2.mono hz), .inl ⟨by rw [HT.out]; rfl, HO.out, by rw [← HT.out]; omega⟩⟩
set_option maxHeartbeats 400000 in
theorem join_none (A : Option Addr) (c : Nat) (w : World) :
    Calls Try.prog 14 #[.slice A 0 c] w (JoinOut [] w) := by
  go_enter Try.func14, Try.ntmps14; (try simp only [List.append_eq, List.cons_append, List.nil_append])
  go_wp2_with fail
  refine wp_loop_rounds 1 ?_
  rw [rounds_succ]
  go_wp2_with fail
  (go_at_call 20; refine (Try.strings_Join_none none 0 ⟨#[32]⟩ _).mono ?_; rintro e w2 ⟨rfl, rfl⟩)
  go_wp2_with fail
  go_ret2
  exact ⟨Below.refl _ _, .inl ⟨rfl, by simp, by decide⟩⟩
theorem nil_app (t : ByteArray) : (⟨#[]⟩ : ByteArray) ++ t = t := by apply ByteArray.ext; rw [ByteArray.data_append]; simp
end Go.Proofs.Ytadbffgaeobbhaa
