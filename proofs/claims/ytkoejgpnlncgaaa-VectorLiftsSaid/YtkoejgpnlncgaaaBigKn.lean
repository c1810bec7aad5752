/- The contract of pinballref01.divMag: a divisor of two limbs and more. -/
import Derived.Test.YtkoejgpnlncgaaaBigL
import Derived.Deep.CutBlock
import Derived.Deep.DeepCutAuto
import Derived.Deep.LoopGhost
namespace Go.Proofs.Ytkoejgpnlncgaaa
open Go Go.RowKit
set_option linter.unusedVariables false
theorem IsZ.pos {w : World} {B : Option Addr} {d : Nat} {y n : Nat} (hB : LAt w B (canN y)) (hd : (canN y).length ≤ d) (hn : (canN y).length ≤ n) : IsZ w (.agg #[.bool false, .slice B (canN y).length d]) n y :=
  ⟨false, B, d, canN y, rfl, hd, canN_lim y, hn, hB, by rw [mv_canN]; rfl⟩
theorem field_limbs (w : World) (b : Bool) (A : Option Addr) (n c : Nat) : (Instr.field 65 (.agg #[.bool b, .slice A n c]) 1).run Try.prog w = .ok (.slice A n c) w := by
  simp [Instr.field, part, isAgg, asAgg, run_underlying Try.underlying65, run_underlying Try.underlying63, go_sem]
attribute [local go_sem] field_limbs
/-- The block g begins with these limbs, and may be written. -/
def Buf (w : World) (g : Nat) (l : List Int) : Prop := g < w.heap.size ∧ (∀ k x, l[k]? = some x → w.cell? ⟨g, k, none⟩ = some (.int .u32 x)) ∧ ∀ o, w.frozen? ⟨g, o, none⟩ = false
theorem Buf.take {w : World} {g : Nat} {l : List Int} (h : Buf w g l) (n : Nat) : Buf w g (l.take n) := by
  refine ⟨h.1, fun k x hx => ?_, h.2.2⟩
  rw [List.getElem?_take] at hx
  split at hx
  · exact h.2.1 k x hx
  · cases hx
theorem Buf.below {w w1 : World} {g : Nat} {l : List Int} (h : Buf w g l) (hb : Below w.heap.size w w1) : Buf w1 g l :=
  ⟨Nat.lt_of_lt_of_le h.1 hb.size, fun k x hx => by rw [hb.cell h.1]; exact h.2.1 k x hx, fun o => by rw [hb.frozen h.1]; exact h.2.2 o⟩
theorem Buf.lat {w : World} {g : Nat} {l : List Int} (h : Buf w g l) : LAt w (some ⟨g, 0, none⟩) l := fun k x hx => ⟨g, 0, rfl, h.1, by rw [Nat.zero_add]; exact h.2.1 k x hx⟩
theorem Buf.set {w : World} {g : Nat} {l : List Int} (h : Buf w g l) {i : Nat} {y : Int} (hy : l[i]? = some y) (x : Int) : Buf (w.setCell ⟨g, i, none⟩ (.int .u32 x)) g (l.set i x) := by
  have hi := (List.getElem?_eq_some_iff.1 hy).1
  refine ⟨by simpa [World.setCell] using h.1, fun k z hz => ?_, fun o => ?_⟩
  · by_cases e : i = k
    · subst e
      rw [List.getElem?_set_self hi] at hz
      rw [← Option.some.inj hz]
      exact World.cell?_setCell_same w _ _ (h.2.1 i y hy)
    · rw [List.getElem?_set_ne e] at hz
      rw [World.cell?_setCell_other w _ _ _ (fun e' => by simp at e' <;> exact e e')]
      exact h.2.1 k z hz
  · rw [World.frozen?_setCell]
    exact h.2.2 o
theorem Buf.far {w : World} {g : Nat} {l : List Int} (h : Buf w g l) {p : Addr} (hp : g ≠ p.block) (x : Value) : Buf (w.setCell p x) g l := by
  refine ⟨by simpa [World.setCell] using h.1, fun k z hz => ?_, fun o => ?_⟩
  · rw [World.cell?_setCell_other w _ _ _ (fun e' => hp (by rw [e']))]
    exact h.2.1 k z hz
  · rw [World.frozen?_setCell]
    exact h.2.2 o
theorem RowL.far {w : World} {g : Nat} {l : List Int} (h : RowL w g l) {p : Addr} (hp : g ≠ p.block) (x : Value) : RowL (w.setCell p x) g l := World.rowIs.setOther h hp x
theorem Buf.of_own {w : World} {base : Nat} {v : Value} {l : List Int} (h : OwnL w base v l) (hl : l ≠ []) : ∃ g c, v = .slice (some ⟨g, 0, none⟩) l.length c ∧ l.length ≤ c ∧ base ≤ g ∧ Buf w g l := by
  rcases h.2 with ⟨_, h0⟩ | ⟨g, cap, cur, hv, hb, hh, hc, hm, hs, ht⟩
  · exact absurd (List.length_eq_zero_iff.1 h0) hl
  · refine ⟨g, cap, hv, hc, hb, (Array.getElem?_eq_some_iff.1 hh).1, fun k x hx => ?_, fun o => frozen_of_row w g o _ _ hh⟩
    have hcell := World.ownsRow.cells h (g := g) (by rw [hv]; rfl) k (.int .u32 x) (by rw [List.getElem?_map, hx]; rfl)
    unfold Addr.add at hcell
    split at hcell
    · rename_i h0; rw [h0]; exact hcell
    · simpa using hcell
/-- The result of Up at a natural number. -/
def UOut (V n : Nat) (w : World) (e : Ending) (w' : World) : Prop := Below w.heap.size w w' ∧ ∃ A c, e = .returned (.agg #[.bool false, .slice A n c]) ∧ n ≤ c ∧ OwnL w' w.heap.size (.slice A n c) (canN V)
theorem ZOwn.nat {V n : Nat} {w : World} {e : Ending} {w' : World} (hn : (canN V).length = n) (h : ZOwn (V : Int) w e w') : UOut V n w e w' := by
  subst hn
  obtain ⟨hb, A, c, h1, h2, h3⟩ := h
  rw [Int.natAbs_natCast] at h1 h2 h3
  exact ⟨hb, A, c, by rw [h1, show decide ((V : Int) < 0) = false by simp], h2, h3⟩
set_option maxRecDepth 100000 in
set_option maxHeartbeats 20000000 in
theorem divmag_knuth (A B : Option Addr) (x y c d m : Nat) (w : World) (hn : (canN x).length ≤ 200000) (hA : LAt w A (canN x)) (hB : LAt w B (canN y)) (hc : (canN x).length ≤ c) (hd : (canN y).length ≤ d) (hxy : y ≤ x) (hy2 : (canN y).length = m + 2) :
    Calls Try.prog 93 #[.slice A (canN x).length c, .slice B (canN y).length d] w (DivOut (x / y) (x % y) w) := by
  have hcm := fun w' h h' => cmpmag_any A B x y c d w' (by omega) (by have := canN_mono hxy; omega) h h'
  obtain ⟨cm, hcc⟩ : ∃ cm, cm = cmpI x y := ⟨_, rfl⟩
  have cm0 : 0 ≤ cm := by rw [hcc]; unfold cmpI; rw [if_neg (by omega)]; split <;> omega
  rw [← hcc] at hcm
  have hlen : m + 2 ≤ (canN x).length := by have := canN_mono hxy; omega
  obtain ⟨t, ht⟩ : ∃ t, (canN y)[m + 1]? = some t := ⟨(canN y)[m + 1]'(by omega), by simp⟩
  obtain ⟨tl0, tl1⟩ := (canN_lim y).get ht
  have tne : t ≠ 0 := canN_last y t (by rw [List.getLast?_eq_getElem?, hy2]; exact ht)
  obtain ⟨S, S31, hS1, hS2, hS3⟩ := norm_shift (t := t) (by omega) tl1
  obtain ⟨V, hV, hVl, hVt, hVp⟩ := div_v hy2 ht hS1 hS2
  obtain ⟨X, hX, hXl, hXm, hXb, hX1, hX2⟩ := div_u (x := x) (y := y) rfl S31 hlen hVp
  have hupb := fun w' (h : LAt w' B (canN y)) => up_own 400000 _ (y : Int) 0 S w' (IsZ.pos h hd (by omega)) (by omega) S31 (by omega)
  have hupa := fun w' (h : LAt w' A (canN x)) => up_own 400000 _ (x : Int) 0 S w' (IsZ.pos h hc (by omega)) (by omega) S31 (by omega)
  have e0 : (32 * ((0 : Nat) : Int) + (S : Int)) = (S : Int) := by simp
  rw [e0, PB_zero, Int.one_mul, ← hV] at hupb
  rw [e0, PB_zero, Int.one_mul, ← hX] at hupa
  replace hupb := fun w' h => (hupb w' h).mono fun _ _ h => h.nat (hVl.trans hy2.symm)
  replace hupa := fun w' h => (hupa w' h).mono fun _ _ h => h.nat rfl
  have HVX := Lib.hid (And.intro hV hX)
  have HVT := Lib.hid hVt
  have HVP := Lib.hid hVp
  have HVL := Lib.hid hVl
  have HXL := Lib.hid hXl
  have HXM := Lib.hid hXm
  have HXB := Lib.hid hXb
  have HS3 := Lib.hid hS3
  have HT := Lib.hid ht
  obtain ⟨la, hla⟩ : ∃ la, la = (canN x).length := ⟨_, rfl⟩
  obtain ⟨n, hnn⟩ : ∃ n, n = (canN y).length := ⟨_, rfl⟩
  rw [← hla] at hupa hcm hn hlen hXb hX1 hX2 hc HXL HXM HXB ⊢
  rw [← hnn] at hupb hcm hd hy2 ⊢
  have HUB := Lib.hid hupb
  have HUA := Lib.hid hupa
  have HCM := Lib.hid hcm
  have HA := Lib.hid hA
  have HB := Lib.hid hB
  have HNM := Lib.hid hy2
  have HLA := Lib.hid hla
  have HLN := Lib.hid hnn
  have n2 : 2 ≤ n := by omega
  have nla : n ≤ la := by omega
  clear hcm hA hB hcc hV hX hVt hVp hVl hXl hXm hXb hS3 ht hupb hupa e0 hla hnn hy2 hlen
  go_enter Try.func93, Try.ntmps93; (try simp only [List.append_eq, List.cons_append, List.nil_append])
  go_wp2_with fail
  -- own blocks: 
  (go_at_call 106; refine (HCM.out _ HA.out HB.out).mono ?_; rintro e w1 ⟨rfl, hb_w1⟩; have hz_w1 := hb_w1.size; (try simp at hz_w1); skip)
  have HB1 := Lib.hid hb_w1
  clear hb_w1
  have nn1 : ((n : Int) == 1) = false := by rw [beq_eq_false_iff_ne]; omega
  go_wp2_with fail
  have hla1 := HA.out.below HB1.out
  have HA1 := Lib.hid hla1
  have HBB1 := Lib.hid (HB.out.below HB1.out)
  clear hla1
  go_loop [9] (fun vs => ∃ s : Nat, s ≤ S ∧ vs = .int .i64 s) (fun vs => S - (intOf vs).toNat)
  case atStart => exact ⟨0, by omega, rfl⟩
  case round =>
    obtain ⟨s, hs, rfl⟩ := hrel
    obtain ⟨g, o, rfl, hg, hcell⟩ := HBB1.out (m + 1) t HT.out
    have hidx : (n : Int) - 1 = ((m + 1 : Nat) : Int) := by have := HNM.out; omega
    have i1 : (0 : Int) ≤ (n : Int) - 1 := by omega
    have i2 : (n : Int) - 1 < (n : Int) := by omega
    have s0 : (0 : Int) ≤ (s : Int) := by omega
    have s1 : (s : Int) ≤ 31 := by omega
    have hmin : min s 32 = s := by omega
    obtain ⟨z, hz⟩ : ∃ z, z = t * 2 ^ s := ⟨_, rfl⟩
    have z0 : 0 ≤ z := by rw [hz]; exact Int.mul_nonneg (by omega) (Int.le_of_lt (Int.pow_pos (by decide)))
    have hwz : z < 4294967296 → IntKind.u32.wrap (t * 2 ^ s) = z := fun h => by rw [← hz, IntKind.wrap_u32]; omega
    by_cases hlt : s < S
    · have z1 : z < 2147483648 := by rw [hz]; exact HS3.out s hlt
      have e1 := hwz (by omega)
      have e2 : bits .and .u32 z 2147483648 = 0 := by rw [top_bit z0 (by omega), if_pos z1]
      clear hz hwz
      go_wp2_with fail
      go_round
      case rel => exact ⟨s + 1, by omega, by go_num⟩
      case measure => simp [intOf]; omega
    · obtain rfl : s = S := by omega
      have e1 := hwz (by rw [hz]; exact hS2)
      have e2 : bits .and .u32 z 2147483648 = 2147483648 := by rw [top_bit z0 (by rw [hz]; exact hS2), if_neg (by rw [hz]; omega)]
      clear hz hwz
      go_wp2_with fail
      clear e1 e2 hcell z0
      (go_at_call 69; refine (HUB.out _ HBB1.out).mono ?_; rintro e w2 ⟨hb_w2, Av, cv, rfl, hcv, hOv⟩; have hz_w2 := hb_w2.size; (try simp at hz_w2); skip)
      have HB2 := Lib.hid (HB1.out.trans (hb_w2.mono (by omega)))
      have HA2 := Lib.hid (HA1.out.below hb_w2)
      have HOV := Lib.hid hOv
      have HCV := Lib.hid hcv
      clear hb_w2 hOv hcv
      go_wp2_with fail
      (go_at_call 69; refine (HUA.out _ HA2.out).mono ?_; rintro e w3 ⟨hb_w3, Au, cu, rfl, hcu, hOu⟩; have hz_w3 := hb_w3.size; (try simp at hz_w3); skip)
      have HB3 := Lib.hid (HB2.out.trans (hb_w3.mono (by omega)))
      have HB23 := Lib.hid hb_w3
      have HOV3 := Lib.hid (HOV.out.below hb_w3)
      have HOU := Lib.hid hOu
      have HCU := Lib.hid hcu
      clear hb_w3 hOu hcu
      go_wp2_with (at_builtin; go_must (refine wpList_append_limbs2 rfl _ _ rfl w2.heap.size _ (canN X) rfl (HOU.out.alloc _) (some ⟨w3.heap.size, 0, none⟩) 2 [0, 0] rfl (lat_two (by simp) (by go_simp) (by go_simp)) (by simp; omega) (by simp; omega) ?_))
      intro v4 w4 hown4 hg4 hat4
      obtain ⟨gu, c4, rfl, hc4, hgu, hbu⟩ := Buf.of_own hown4 (by simp)
      have hlen4 : (canN X ++ [0, 0]).length = (canN X).length + 2 := by simp
      rw [hlen4]
      have hgv := HOV.out.addr
      have HB4 := Lib.hid ((HB3.out.alloc (by have := HB3.out.size; omega) _).grown hg4 (by have := HB3.out.size; simp; omega) (fun k hk => by have := HOU.out.fresh k hk; have := HB2.out.size; omega))
      have HB24 := Lib.hid ((HB23.out.alloc (HB23.out.size) _).grown hg4 (by have := HB23.out.size; simp; omega) HOU.out.fresh)
      have hov4 : LAt w4 Av (canN V) := (HOV3.out.lat.alloc _).grown hg4 (fun g' o' he hh => by
        have h1 := (hgv g' o' he).2
        have h2 := HOU.out.fresh g' hh.symm
        omega)
      have HV4 := Lib.hid hov4
      have HU4 := Lib.hid (hbu.take (la + 1))
      have hz4 : w3.heap.size + 1 ≤ w4.heap.size := by have := hg4.size; simpa using this
      have HGV := Lib.hid hgv
      have HGU := Lib.hid hgu
      have hgu4 : gu < w4.heap.size := hbu.1
      have hcu4 : la + 1 ≤ c4 := by omega
      have hmx : max ((la : Int) + 1) ((n : Int) + 1) = (la : Int) + 1 := by omega
      have hmk := fun w => run_make_row' (P := Try.prog) 63 87 (.int .u32 0) 4 Try.underlying63 limbInfo rfl .i64 .i64 (la + 1 - n) (by omega) (by omega) w
      have hmn : ((la + 1 - n : Nat) : Int) = (la : Int) + 1 - (n : Int) := by omega
      rw [hmn] at hmk
      clear hown4 hg4 hat4 hbu hgv hov4 hlen4 hmn hgu
      have hla0 : (la : Int) ≤ 200000 := by omega
      have hcap : ((la : Int) + 1) ≤ (c4 : Int) := by omega
      go_wp2_with fail
      clear hmk hmx hcap
      go_loopg [14] (la + 1 - n) (fun gk vj wr => ∃ (k : Nat) (ul ql : List Int), k = gk ∧ k ≤ la + 1 - n ∧ vj = .int .i64 ((k : Int) - 1) ∧ Buf wr gu ul ∧ RowL wr w4.heap.size ql ∧ Hid (ul.length = la + 1 ∧ ql.length = la + 1 - n ∧ Lim ul ∧ Lim ql ∧ mv ul < PB k * V ∧ (X : Int) = mv ul + mv ql * V ∧ ∀ i, i < k → ql[i]? = some 0) ∧ Below w2.heap.size w4 wr)
      case atStart => exact ⟨la + 1 - n, (canN X ++ [0, 0]).take (la + 1), List.replicate (la + 1 - n) 0, rfl, Nat.le_refl _, by go_num, HU4.out.below ((Below.refl _ _).alloc (Nat.le_refl _) _), RowL.made w4 _, Lib.hid ⟨HXL.out, by simp, ((canN_lim X).append (Lim.cons (by omega) (by omega) (Lim.cons (by omega) (by omega) Lim.nil))).take _, Lim.replicate _, by rw [HXM.out, HNM.out]; exact HXB.out, by rw [HXM.out, mv_replicate]; simp, fun i hi => by simp [hi]⟩, (Below.refl _ _).alloc (by have := HB3.out.size; omega) _⟩
      case round =>
        obtain ⟨k, ul, ql, hgk, hk, rfl, hbuf, hrow, HO, hbel⟩ := hrel
        subst hgk
        obtain ⟨wo, rfl⟩ : ∃ wo : World, wo = wr := ⟨_, rfl⟩
        rcases k with _ | j
        · as_aux_lemma =>
          have y0 : 0 < y := by
            rcases Nat.eq_zero_or_pos y with h | h
            · exfalso
              have h1 := HLN.out
              rw [h, canN_zero] at h1
              simp at h1
              omega
            · exact h
          obtain ⟨hf1, hf2⟩ := quot_end HO.out.2.2.1 HO.out.2.2.2.1 HO.out.2.2.2.2.2.1 HO.out.2.2.2.2.1 HVX.out.2 HVX.out.1 y0
          have hmg := fun w' h => mag_any (some ⟨w4.heap.size, 0, none⟩) ql (la + 1 - n) w' HO.out.2.2.2.1 h (by have := HO.out.2.1; omega) (by have := HO.out.2.1; omega)
          rw [HO.out.2.1, hf1] at hmg
          have hdn := fun w' (h : LAt w' (some ⟨gu, 0, none⟩) ul) => down_any 400000 (.agg #[.bool false, .slice (some ⟨gu, 0, none⟩) ul.length c4]) (mv ul) 0 s w' ⟨false, some ⟨gu, 0, none⟩, c4, ul, rfl, by have := HO.out.1; omega, HO.out.2.2.1, by have := HO.out.1; omega, h, rfl⟩ (by omega) (by omega) (by omega)
          rw [show (32 * ((0 : Nat) : Int) + (s : Int)) = (s : Int) by simp, PB_zero, Int.one_mul, hf2, HO.out.1] at hdn
          have HMG := Lib.hid hmg
          have HDN := Lib.hid hdn
          have HRL := Lib.hid hrow.lat
          have HUL := Lib.hid hbuf.lat
          have HBW := Lib.hid (HB4.out.trans (hbel.mono (by have := HB2.out.size; omega)))
          clear hmg hdn hf1 hf2 hbuf hrow hbel y0
          go_wp2_with fail
          -- own blocks: 
          (go_at_call 90; refine (HMG.out _ HRL.out).mono ?_; rintro e w7 ⟨hb_w7, A1, c1, rfl, hc1, hA1⟩; have hz_w7 := hb_w7.size; (try simp at hz_w7); skip)
          have HB7 := Lib.hid (HBW.out.trans (hb_w7.mono (by have := HBW.out.size; omega)))
          have HUL7 := Lib.hid (HUL.out.below hb_w7)
          have HA1 := Lib.hid hA1
          have HC1 := Lib.hid hc1
          clear hb_w7 hA1 hc1
          go_wp2_with fail
          (go_at_call 109; refine (HDN.out _ HUL7.out).mono ?_; rintro e w8 ⟨hb_w8, v8, rfl, A2, c2, rfl, hc2, hA2⟩; have hz_w8 := hb_w8.size; (try simp at hz_w8); skip)
          have HB8 := Lib.hid (HB7.out.trans (hb_w8.mono (by have := HB7.out.size; omega)))
          have HA18 := Lib.hid (HA1.out.below hb_w8)
          have HA2 := Lib.hid hA2
          have HC2 := Lib.hid hc2
          clear hb_w8 hA2 hc2
          go_wp2_with fail
          go_ret2
          exact ⟨HB8.out, A1, c1, A2, c2, rfl, HC1.out, HC2.out, HA18.out, HA2.out⟩
        · as_aux_lemma =>
          have hNM := HNM.out
          rw [show (((j + 1 : Nat) : Int) - 1) = (j : Int) by omega]
          obtain ⟨u0, u1, u2, top, next, p, lo, wl, wu, e0, e1, e2, e3, e4, a0, a1, b0, b1, d0, d1, f0, f1, t0, t1, p0, wl0, wl1, wu0, wu1, hVe, hUe, hUB, hlo, lo0, lo1, hup⟩ := round_facts (j := j) (m := m) HO.out.2.2.1 (canN_lim V) HVL.out (mv_canN V) HVT.out (by have := HO.out.1; omega) HO.out.2.2.2.2.1
          have ht2 := lead_le p0 wl1 f1 wu0 a0 b0 hUB
          have c0 := hbuf.2.1 _ _ e0
          have c1 := hbuf.2.1 _ _ e1
          have c2 := hbuf.2.1 _ _ e2
          have cf := hbuf.2.2
          have c5 := hbuf.1
          have hv4 := HOV.out.lat.below (HB24.out.trans hbel)
          obtain ⟨gv, ov, rfl, hgv4, cv1⟩ := hv4 (m + 1) top e4
          obtain ⟨gv', ov', he, _, cv2⟩ := hv4 m next e3
          simp only [Option.some.injEq, Addr.mk.injEq] at he
          obtain ⟨rfl, rfl, _⟩ := he
          have x1 : (j : Int) + (n : Int) - 1 = ((j + m + 1 : Nat) : Int) := by omega
          have x2 : (j : Int) + (n : Int) - 2 = ((j + m : Nat) : Int) := by omega
          have x3 : (n : Int) - 1 = ((m + 1 : Nat) : Int) := by omega
          have x4 : (n : Int) - 2 = ((m : Nat) : Int) := by omega
          have hjn : j + m + 2 = j + n := by omega
          rw [hjn] at c2 e2
          have y1 : (0 : Int) ≤ (j : Int) + (n : Int) := by omega
          have y2 : (j : Int) + (n : Int) < (la : Int) + 1 := by omega
          have y3 : (0 : Int) ≤ (j : Int) + (n : Int) - 1 := by omega
          have y4 : (j : Int) + (n : Int) - 1 < (la : Int) + 1 := by omega
          have y5 : (0 : Int) ≤ (j : Int) + (n : Int) - 2 := by omega
          have y6 : (j : Int) + (n : Int) - 2 < (la : Int) + 1 := by omega
          have y7 : (0 : Int) ≤ (n : Int) - 1 := by omega
          have y8 : (n : Int) - 1 < (n : Int) := by omega
          have y9 : (0 : Int) ≤ (n : Int) - 2 := by omega
          have y10 : (n : Int) - 2 < (n : Int) := by omega
          have y11 : (0 : Int) ≤ (j : Int) := by omega
          have z1 : ((j + m + 1 : Nat) : Int) < (la : Int) + 1 := by omega
          have z2 : ((j + m : Nat) : Int) < (la : Int) + 1 := by omega
          have z3 : ((m + 1 : Nat) : Int) < (n : Int) := by omega
          have z4 : ((m : Nat) : Int) < (n : Int) := by omega
          have z5 : (j : Int) + (m : Int) + 1 < (la : Int) + 1 := by omega
          have z6 : (j : Int) + (m : Int) < (la : Int) + 1 := by omega
          have z7 : (m : Int) + 1 < (n : Int) := by omega
          have y12 : (j : Int) ≤ 200000 := by omega
          obtain ⟨nm, hnm⟩ : ∃ nm, nm = u2 * 4294967296 + u1 := ⟨_, rfl⟩
          have hsh : IntKind.u64.wrap (u2 * 4294967296) = u2 * 4294967296 := by rw [IntKind.wrap_u64]; omega
          have hor : bits .or .u64 (u2 * 4294967296) u1 = nm := by
            rw [hnm]
            exact bits_join .u64 64 (by decide) wraps_u64' 32 (u2 * 4294967296) u1 (by omega) (Int.mul_emod_left _ _) (by omega) b0 (by omega) (by omega)
          have nm0 : 0 ≤ nm := by omega
          have nm1 : nm < 18446744073709551616 := by omega
          have HG0 := Lib.hid (guess_start (u0 := u0) (u2 := u2) p0 wl0 f0 wu1 a1 (show 0 < top by omega) b0 d0)
          have hgs := HG0.out
          rw [← hnm] at hgs
          obtain ⟨G, hG⟩ : ∃ G, G = nm / top := ⟨_, rfl⟩
          obtain ⟨r, hr⟩ : ∃ r, r = nm % top := ⟨_, rfl⟩
          rw [← hG, ← hr] at hgs
          have HG1 := Lib.hid hgs
          have G0 : 0 ≤ G := by rw [hG]; exact Int.ediv_nonneg nm0 (by omega)
          have G1 : G ≤ nm := by rw [hG]; exact Int.ediv_le_self _ nm0
          have r0 : 0 ≤ r := by rw [hr]; exact Int.emod_nonneg _ (by omega)
          have r1 : r < top := by rw [hr]; exact Int.emod_lt_of_pos _ (by omega)
          have q1 : nm.tdiv top = G := by rw [hG]; exact Int.tdiv_eq_ediv_of_nonneg nm0
          have q2 : nm.tmod top = r := by rw [hr]; exact Int.tmod_eq_emod_of_nonneg nm0
          have q3 : IntKind.u64.wrap (nm.tdiv top) = G := by rw [q1]; exact wraps_u64' G G0 (by omega)
          have n0 : (top == 0) = false := by rw [beq_eq_false_iff_ne]; omega
          have n1 : ¬ top = 0 := by omega
          have hG' := hG.symm
          have hr' := hr.symm
          have HNMv := Lib.hid hnm
          have HBUF := Lib.hid hbuf
          have HROW := Lib.hid hrow
          have HLV := Lib.hid hv4
          have HBEL := Lib.hid hbel
          have HE := Lib.hid (And.intro e0 (And.intro e1 (And.intro e2 (And.intro e3 e4))))
          have HVE := Lib.hid (And.intro hVe hUe)
          have HUB' := Lib.hid hUB
          have HLO := Lib.hid (And.intro hlo (And.intro lo0 lo1))
          have HUP := Lib.hid hup
          clear hnm hgs hG hr hNM hbuf hrow hv4 hbel e0 e1 e2 e3 e4 hVe hUe hUB hlo lo0 lo1 hup hjn
          go_wp2_with fail
          refine wp_region_warm (Own wo.heap.size wo) (by kernel_rfl) (by kernel_rfl) (Own.refl (Nat.le_refl _)).drew ?_
          repeat (first | (refine wpWarm_step_off rfl (fun K hK => ?_); (go_simp; refine hK _ ?_; clear hK K)) | (apply wpWarm_step rfl; (focus (intro W' hS; have hcS := hS.cells.1; have hfS := hS.cells.2; go_simp; (first | done | exact rfl | exact ⟨rfl, hS⟩ | (go_simp; exact rfl)))); (intro K hK; go_simp; (try go_bits); refine hK _ ?_; clear hK K)) | (apply wpWarm_step_on rfl; (focus (intro W' hS; have hcS := hS.cells.1; have hfS := hS.cells.2; go_simp; (first | done | exact rfl | exact ⟨rfl, hS⟩ | (go_simp; exact rfl)))); (intro K hK; go_simp; (try go_bits); refine hK _ ?_; clear hK K)))
          refine wpWarm_nil ?_
          intro w5 hO5
          have hbuf5 := HBUF.out.below hO5.2
          have hlv5 := HLV.out.below hO5.2
          have HB5 := Lib.hid hO5.2
          have hz5 := hO5.1
          clear c0 c1 c2 cf c5 cv1 cv2 hO5 hsh hor
          obtain ⟨gv5, ov5, he5, hgv5, cv1⟩ := hlv5 (m + 1) top HE.out.2.2.2.2
          simp only [Option.some.injEq, Addr.mk.injEq] at he5
          obtain ⟨rfl, rfl, _⟩ := he5
          go_wp2_with fail
          refine wp_region_warm (Own w5.heap.size w5) (by kernel_rfl) (by kernel_rfl) (Own.refl (Nat.le_refl _)).drew ?_
          repeat (first | (refine wpWarm_step_off rfl (fun K hK => ?_); (go_simp; refine hK _ ?_; clear hK K)) | (apply wpWarm_step rfl; (focus (intro W' hS; have hcS := hS.cells.1; have hfS := hS.cells.2; go_simp; (first | done | exact rfl | exact ⟨rfl, hS⟩ | (go_simp; exact rfl)))); (intro K hK; go_simp; (try go_bits); refine hK _ ?_; clear hK K)) | (apply wpWarm_step_on rfl; (focus (intro W' hS; have hcS := hS.cells.1; have hfS := hS.cells.2; go_simp; (first | done | exact rfl | exact ⟨rfl, hS⟩ | (go_simp; exact rfl)))); (intro K hK; go_simp; (try go_bits); refine hK _ ?_; clear hK K)))
          refine wpWarm_nil ?_
          intro w6 hO6
          have HB6 := Lib.hid (HB5.out.trans (hO6.2.mono hz5))
          have hz6 := hO6.1
          clear hO6 cv1 hbuf5 hlv5 n0 n1 q1 q2 q3 hG' hr' hgv5
          go_upto_block 6 with fail
          go_cut [16, 17] from 119 to 299 (fun vq vr wx => ∃ gg rr : Int, vq = .int .u64 gg ∧ vr = .int .u64 rr ∧ 0 ≤ gg ∧ gg < 4294967296 ∧ Hid (Guess p wl wu top next u0 u1 u2 gg rr ∧ gg * next ≤ rr * 4294967296 + u0) ∧ Below wo.heap.size wo wx)
          case first => as_aux_lemma =>
            go_wp2_with fail
            go_loopg [16, 17] G.toNat (fun kk vq vr ws => ∃ gg rr : Int, vq = .int .u64 gg ∧ vr = .int .u64 rr ∧ gg.toNat ≤ kk ∧ 0 ≤ gg ∧ gg < 18446744073709551616 ∧ 0 ≤ rr ∧ rr < 4294967296 ∧ Hid (Guess p wl wu top next u0 u1 u2 gg rr) ∧ Below wo.heap.size wo ws)
            case atStart => exact ⟨G, r, rfl, rfl, Nat.le_refl _, G0, by omega, r0, by omega, HG1, HB6.out⟩
            case round =>
              obtain ⟨gg, rr, rfl, rfl, hkk, g0, g1, r0', r1', HGU, hbw⟩ := hrel
              have hbuf := HBUF.out.below hbw
              have hlv := HLV.out.below hbw
              have c0 := hbuf.2.1 _ _ HE.out.1
              have cf := hbuf.2.2
              have c5 := hbuf.1
              obtain ⟨gv6, ov6, he6, hgv6, cv1⟩ := hlv (m + 1) top HE.out.2.2.2.2
              obtain ⟨gv7, ov7, he7, _, cv2⟩ := hlv m next HE.out.2.2.2.1
              simp only [Option.some.injEq, Addr.mk.injEq] at he6 he7
              obtain ⟨rfl, rfl, _⟩ := he6
              obtain ⟨rfl, rfl, _⟩ := he7
              have HBW := Lib.hid hbw
              have hzw := hbw.size
              clear hbuf hlv hbw
              by_cases hge : 4294967296 ≤ gg
              · have hU := guess_big p0 wl0 f0 (show 0 < top by omega) hge HUB'.out
                have HGL := Lib.hid (guess_less HGU.out p0 wl0 (show 0 < top by omega) (show 1 ≤ gg by omega) hU)
                clear hU
                have hs1 : 0 ≤ gg - 1 := by omega
                have hs2 : 0 ≤ rr + top := by omega
                have hs3 : rr + top < 18446744073709551616 := by omega
                go_wp2_with fail
                refine wp_region_warm (Own wr.heap.size wr) (by kernel_rfl) (by kernel_rfl) (Own.refl (Nat.le_refl _)).drew ?_
                repeat (first | (refine wpWarm_step_off rfl (fun K hK => ?_); (go_simp; refine hK _ ?_; clear hK K)) | (apply wpWarm_step rfl; (focus (intro W' hS; have hcS := hS.cells.1; have hfS := hS.cells.2; go_simp; (first | done | exact rfl | exact ⟨rfl, hS⟩ | (go_simp; exact rfl)))); (intro K hK; go_simp; (try go_bits); refine hK _ ?_; clear hK K)) | (apply wpWarm_step_on rfl; (focus (intro W' hS; have hcS := hS.cells.1; have hfS := hS.cells.2; go_simp; (first | done | exact rfl | exact ⟨rfl, hS⟩ | (go_simp; exact rfl)))); (intro K hK; go_simp; (try go_bits); refine hK _ ?_; clear hK K)))
                refine wpWarm_nil ?_
                intro w7 hO7
                have HB7 := Lib.hid (HBW.out.trans (hO7.2.mono hzw))
                have hlv7 := HLV.out.below HB7.out
                obtain ⟨gv7, ov7, he7, hgv7, cv7⟩ := hlv7 (m + 1) top HE.out.2.2.2.2
                simp only [Option.some.injEq, Addr.mk.injEq] at he7
                obtain ⟨rfl, rfl, _⟩ := he7
                clear hO7 hlv7 c0 cv1 cv2 cf
                by_cases hrr : 4294967296 ≤ rr + top
                · have HGR := Lib.hid (guess_rest HGL.out f1 f0 a0 b1 (show 0 < top by omega) ht2 hrr)
                  go_wp2_with fail
                  go_meet
                  exact ⟨gg - 1, rr + top, rfl, rfl, hs1, HGR.out.1, Lib.hid ⟨HGL.out, HGR.out.2⟩, HB7.out⟩
                · have hrr' : ¬ 4294967296 ≤ rr + top := hrr
                  go_wp2_with fail
                  go_roundg (gg - 1).toNat
                  case measure => omega
                  case rel => exact ⟨gg - 1, rr + top, rfl, rfl, Nat.le_refl _, hs1, by omega, hs2, by omega, HGL, HB7.out⟩
              · have hge' : ¬ 4294967296 ≤ gg := hge
                have hgd : decide (4294967296 ≤ gg) = false := by simpa using hge
                obtain ⟨PR, hPR⟩ : ∃ PR, PR = gg * next := ⟨_, rfl⟩
                obtain ⟨SR, hSR⟩ : ∃ SR, SR = rr * 4294967296 + u0 := ⟨_, rfl⟩
                obtain ⟨pr0, pr1⟩ := mul_lim g0 (show gg < 4294967296 by omega) f0 f1
                have o1 : IntKind.u64.wrap (gg * next) = PR := by rw [hPR]; exact wraps_u64' _ pr0 (by omega)
                have o2 : IntKind.u64.wrap (rr * 4294967296) = rr * 4294967296 := by rw [IntKind.wrap_u64]; omega
                have o3 : bits .or .u64 (rr * 4294967296) u0 = SR := by
                  rw [hSR]
                  exact bits_join .u64 64 (by decide) wraps_u64' 32 (rr * 4294967296) u0 (by omega) (Int.mul_emod_left _ _) (by omega) a0 (by omega) (by omega)
                have HPS := Lib.hid (And.intro hPR hSR)
                clear hPR hSR pr0 pr1
                by_cases hnx : SR < PR
                · have hU := guess_next HGU.out p0 wl0 wu1 (by rw [← HPS.out.1, ← HPS.out.2]; exact hnx)
                  have hg1 : 1 ≤ gg := by
                    rcases Int.lt_or_le 0 gg with h | h
                    · omega
                    · exfalso
                      have hz0 : gg = 0 := by omega
                      have h1 := HPS.out.1
                      have h2 := HPS.out.2
                      rw [hz0, Int.zero_mul] at h1
                      omega
                  have HGL := Lib.hid (guess_less HGU.out p0 wl0 (show 0 < top by omega) (show 1 ≤ gg by omega) hU)
                  clear hU
                  have hs1 : 0 ≤ gg - 1 := by omega
                  have hs2 : 0 ≤ rr + top := by omega
                  have hs3 : rr + top < 18446744073709551616 := by omega
                  go_wp2_with fail
                  refine wp_region_warm (Own wr.heap.size wr) (by kernel_rfl) (by kernel_rfl) (Own.refl (Nat.le_refl _)).drew ?_
                  repeat (first | (refine wpWarm_step_off rfl (fun K hK => ?_); (go_simp; refine hK _ ?_; clear hK K)) | (apply wpWarm_step rfl; (focus (intro W' hS; have hcS := hS.cells.1; have hfS := hS.cells.2; go_simp; (first | done | exact rfl | exact ⟨rfl, hS⟩ | (go_simp; exact rfl)))); (intro K hK; go_simp; (try go_bits); refine hK _ ?_; clear hK K)) | (apply wpWarm_step_on rfl; (focus (intro W' hS; have hcS := hS.cells.1; have hfS := hS.cells.2; go_simp; (first | done | exact rfl | exact ⟨rfl, hS⟩ | (go_simp; exact rfl)))); (intro K hK; go_simp; (try go_bits); refine hK _ ?_; clear hK K)))
                  refine wpWarm_nil ?_
                  intro w7 hO7
                  have HB7 := Lib.hid (HBW.out.trans (hO7.2.mono hzw))
                  have hlv7 := HLV.out.below HB7.out
                  obtain ⟨gv7, ov7, he7, hgv7, cv7⟩ := hlv7 (m + 1) top HE.out.2.2.2.2
                  simp only [Option.some.injEq, Addr.mk.injEq] at he7
                  obtain ⟨rfl, rfl, _⟩ := he7
                  clear hO7 hlv7 c0 cv1 cv2 cf
                  by_cases hrr : 4294967296 ≤ rr + top
                  · have HGR := Lib.hid (guess_rest HGL.out f1 f0 a0 b1 (show 0 < top by omega) ht2 hrr)
                    go_wp2_with fail
                    go_meet
                    exact ⟨gg - 1, rr + top, rfl, rfl, hs1, HGR.out.1, Lib.hid ⟨HGL.out, HGR.out.2⟩, HB7.out⟩
                  · have hrr' : ¬ 4294967296 ≤ rr + top := hrr
                    go_wp2_with fail
                    go_roundg (gg - 1).toNat
                    case measure => omega
                    case rel => exact ⟨gg - 1, rr + top, rfl, rfl, Nat.le_refl _, hs1, by omega, hs2, by omega, HGL, HB7.out⟩
                · have hnx' : ¬ SR < PR := hnx
                  have hnd : decide (SR < PR) = false := by simpa using hnx
                  go_wp2_with fail
                  refine wp_region_warm (Own wr.heap.size wr) (by kernel_rfl) (by kernel_rfl) (Own.refl (Nat.le_refl _)).drew ?_
                  repeat (first | (refine wpWarm_step_off rfl (fun K hK => ?_); (go_simp; refine hK _ ?_; clear hK K)) | (apply wpWarm_step rfl; (focus (intro W' hS; have hcS := hS.cells.1; have hfS := hS.cells.2; go_simp; (first | done | exact rfl | exact ⟨rfl, hS⟩ | (go_simp; exact rfl)))); (intro K hK; go_simp; (try go_bits); refine hK _ ?_; clear hK K)) | (apply wpWarm_step_on rfl; (focus (intro W' hS; have hcS := hS.cells.1; have hfS := hS.cells.2; go_simp; (first | done | exact rfl | exact ⟨rfl, hS⟩ | (go_simp; exact rfl)))); (intro K hK; go_simp; (try go_bits); refine hK _ ?_; clear hK K)))
                  refine wpWarm_nil ?_
                  intro w7 hO7
                  have HB7 := Lib.hid (HBW.out.trans (hO7.2.mono hzw))
                  clear hO7
                  go_wp2_with fail
                  go_meet
                  exact ⟨gg, rr, rfl, rfl, g0, by omega, Lib.hid ⟨HGU.out, by rw [← HPS.out.1, ← HPS.out.2]; omega⟩, HB7.out⟩
          case rest => as_aux_lemma =>
            obtain ⟨gg, rr, rfl, rfl, g0, g1, HGG, hbw⟩ := hcut
            have hbuf0 := HBUF.out.below hbw
            have hrow0 := HROW.out.below hbw
            have hbel0 := HBEL.out.trans (hbw.mono (by have := HBEL.out.size; have := HB4.out.size; omega))
            obtain ⟨wx, rfl⟩ : ∃ wx : World, wx = wc := ⟨_, rfl⟩
            obtain ⟨R, hR⟩ : ∃ R, R = mv ul := ⟨_, rfl⟩
            have HRR := Lib.hid hR
            have HBF0 := Lib.hid hbuf0
            have HRW0 := Lib.hid hrow0
            have HBL0 := Lib.hid hbel0
            have hgne : gu ≠ w4.heap.size := by omega
            have hLL : ul.length = la + 1 := HO.out.1
            have HLL := Lib.hid hLL
            clear hbuf0 hrow0 hbel0 hbw hR hLL
            go_wp2_with fail
            go_loopw [18, 19, 20, 21] (fun vb vc vi _ wr => ∃ (i : Nat) (cc bo : Int) (L : List Int), i ≤ n ∧ vi = .int .i64 i ∧ vc = .int .u64 cc ∧ vb = .int .u64 bo ∧ 0 ≤ cc ∧ cc < 4294967296 ∧ 0 ≤ bo ∧ bo ≤ 1 ∧ Buf wr gu L ∧ RowL wr w4.heap.size ql ∧ Hid (L.length = la + 1 ∧ Lim L ∧ mv L = R - gg * (PB j * mv ((canN V).take i)) + PB (j + i) * (cc + bo) ∧ L.drop (j + i) = ul.drop (j + i)) ∧ Below w2.heap.size w4 wr) (fun _ _ vi _ _ => (n - (intOf vi).toNat))
            case atStart => exact ⟨0, 0, 0, ul, by omega, rfl, rfl, rfl, by omega, by omega, by omega, by omega, HBF0.out, HRW0.out, Lib.hid ⟨HO.out.1, HO.out.2.2.1, by rw [HRR.out]; simp [mv], rfl⟩, HBL0.out⟩
            case round =>
              obtain ⟨i, cc, bo, L, hi, rfl, rfl, rfl, c0, c1, bo0, bo1, hbf, hrw, HM, hbl⟩ := hrel
              have HBF := Lib.hid hbf
              have HRW := Lib.hid hrw
              have HBLW := Lib.hid hbl
              have hgul := hbf.1
              have hguf := hbf.2.2
              have s0 : (0 : Int) ≤ (i : Int) := by omega
              clear hrw hbl hbf
              by_cases hin : i < n
              · as_aux_lemma =>
                obtain ⟨x, hx⟩ : ∃ x, (canN V)[i]? = some x := ⟨(canN V)[i]'(by have := HVL.out; have := HNM.out; omega), by simp⟩
                obtain ⟨x0, x1⟩ := (canN_lim V).get hx
                obtain ⟨gv', ov', he, hgv', cx⟩ := (HOV.out.lat.below (HB24.out.trans HBLW.out)) i x hx
                simp only [Option.some.injEq, Addr.mk.injEq] at he
                obtain ⟨rfl, rfl, _⟩ := he
                have hji : j + i < la + 1 := by omega
                obtain ⟨z, hz⟩ : ∃ z, L[j + i]? = some z := ⟨L[j + i]'(by have := HM.out.1; omega), by simp⟩
                obtain ⟨z0, z1⟩ := HM.out.2.1.get hz
                have cz := HBF.out.2.1 _ _ hz
                have hcom : i + j = j + i := Nat.add_comm _ _
                rw [← hcom] at cz
                have s1 : (i : Int) < (n : Int) := by omega
                have s2 : (0 : Int) ≤ (i : Int) + (j : Int) := by omega
                have s3 : (i : Int) + (j : Int) < (la : Int) + 1 := by omega
                have s4 : (i : Int) ≤ 200000 := by omega
                obtain ⟨pr0, pr1⟩ := mul_lim g0 g1 x0 x1
                obtain ⟨PR, hPR⟩ : ∃ PR, PR = gg * x := ⟨_, rfl⟩
                rw [← hPR] at pr0 pr1
                have hPR' := hPR.symm
                obtain ⟨S, hS⟩ : ∃ S, S = cc + PR := ⟨_, rfl⟩
                have S0 : 0 ≤ S := by omega
                have S1 : S < 18446744073709551616 := by omega
                have hS' := hS.symm
                obtain ⟨M, hM⟩ : ∃ M, M = S % 4294967296 := ⟨_, rfl⟩
                have hand : bits .and .u64 S 4294967295 = M := by rw [hM]; exact bits_mask .u64 64 (by decide) wraps_u64' 32 (by decide) S S0 (by omega)
                have M0 : 0 ≤ M := by omega
                have M1 : M < 4294967296 := by omega
                obtain ⟨I, hI⟩ : ∃ I, I = IntKind.u64.wrap (z - M) := ⟨_, rfl⟩
                obtain ⟨D, hD⟩ : ∃ D, D = IntKind.u64.wrap (I - bo) := ⟨_, rfl⟩
                obtain ⟨d1, d2, d3, d4, d5⟩ := word_sub z0 z1 M0 M1 bo0 bo1 hI hD
                have HST := Lib.hid (msub_step HM.out.2.2.1 hz hx (s := S) (d := D) (by rw [hS, hPR]) (by rw [hM] at d1; exact d1))
                have HZ := Lib.hid hz
                have HX := Lib.hid hx
                have HCM := Lib.hid hcom
                replace hI := hI.symm
                replace hD := hD.symm
                clear hz hx hPR hS hM d1 hcom
                go_wp2_with fail
                clear hI hD hand hPR' hS' cx cz
                go_roundw
                case rel =>
                  have hset : Buf (wr.setCell ⟨gu, i + j, none⟩ (.int .u32 (D % 4294967296))) gu (L.set (j + i) (D % 4294967296)) := by rw [HCM.out]; exact HBF.out.set HZ.out _
                  exact ⟨i + 1, S / 4294967296, D / 9223372036854775808, L.set (j + i) (D % 4294967296), by omega, by go_num, rfl, rfl, by omega, by omega, d4, d5, hset, HRW.out.far (Ne.symm hgne) _, Lib.hid ⟨by rw [List.length_set]; exact HM.out.1, HM.out.2.1.set _ (by omega) (by omega), HST.out, drop_set_same _ HM.out.2.2.2⟩, HBLW.out.setCell (by have := HGU.out; simp; omega) _⟩
                case measure => simp [intOf]; omega
              · as_aux_lemma =>
                obtain rfl : i = n := by omega
                have hM3 := HM.out.2.2.1
                rw [List.take_of_length_le (by have := HVL.out; have := HNM.out; omega), mv_canN] at hM3
                have hgd := guess_done HGG.out.1 p0 wl0 wl1 wu0 f0 (show 1 ≤ top by omega) g1 HGG.out.2
                have hVV := HVE.out.1
                have hUU := HVE.out.2
                obtain ⟨U, hU⟩ : ∃ U, U = mv (ul.drop j) := ⟨_, rfl⟩
                rw [← hU] at hUU
                rw [← hVV, ← hUU] at hgd
                have hzz : L[j + i]? = some u2 := by rw [get_of_drop HM.out.2.2.2]; exact HE.out.2.2.1
                have hRl : R = lo + PB j * U := by rw [HRR.out, hU]; exact HLO.out.1
                have hupL : mv (L.drop (j + i + 1)) = 0 := by
                  rw [mv_drop_of HM.out.2.2.2 (by omega), show j + i + 1 = j + m + 3 by have := HNM.out; omega]
                  exact HUP.out
                have htop := msub_top (d := 0) HM.out.2.1 (canN_lim V) (show (canN V).length = i by have := HVL.out; have := HNM.out; omega) (mv_canN V).symm hM3 hzz hupL hRl HLO.out.2.1 HLO.out.2.2 hgd.1 hgd.2
                have hcz := HBF.out.2.1 _ _ hzz
                have s2 : (0 : Int) ≤ (j : Int) + (i : Int) := by omega
                have s3 : (j : Int) + (i : Int) < (la : Int) + 1 := by omega
                have s4 : (i : Int) ≤ 200000 := by omega
                have HZZ := Lib.hid hzz
                have HM3 := Lib.hid hM3
                have HRL := Lib.hid hRl
                have HGD := Lib.hid hgd
                have HUPL := Lib.hid hupL
                have hqj : ql[j]? = some 0 := HO.out.2.2.2.2.2.2 j (by omega)
                have HQJ := Lib.hid hqj
                have hql := HO.out.2.1
                have HQX := Lib.hid HO.out.2.2.2.2.2.1
                have HQZ := Lib.hid HO.out.2.2.2.2.2.2
                have HQL := Lib.hid HO.out.2.2.2.1
                have hcq := HRW.out.cell hqj
                have hfq := HRW.out.frozen
                have hgne' := Ne.symm hgne
                have lq := HRW.out.lt
                have hgt0 : 1 ≤ gg ∨ 0 ≤ U - gg * V := by
                  rcases Int.lt_or_le gg 1 with g | g
                  · right
                    obtain rfl : gg = 0 := by omega
                    have := mv_nonneg (HO.out.2.2.1.drop j)
                    rw [Int.zero_mul]; omega
                  · exact .inl g
                clear hM3 hgd hVV hUU hU hzz hRl hupL hqj
                rcases htop with ⟨tz, tU⟩ | ⟨tz, tU⟩
                · as_aux_lemma =>
                  obtain ⟨I, hI⟩ : ∃ I, I = IntKind.u64.wrap (u2 - cc) := ⟨_, rfl⟩
                  have hI2 : IntKind.u64.wrap (I - bo) = 0 := by rw [hI, IntKind.wrap_u64, IntKind.wrap_u64]; omega
                  have hI' := hI.symm
                  have HTZ := Lib.hid (top_zero HM3.out HZZ.out HRL.out HLO.out.2.2 HGD.out.2 tz)
                  clear hI tz tU hgt0
                  go_wp2_with fail
                  go_roundg j
                  case measure => omega
                  case rel =>
                    exact ⟨j, L.set (j + i) 0, ql.set j gg, rfl, by omega, rfl, (HBF.out.set HZZ.out 0).far hgne _, (HRW.out.far hgne' _).set j gg, Lib.hid ⟨by rw [List.length_set]; exact HM.out.1, by rw [List.length_set]; exact hql, HM.out.2.1.set _ (by omega) (by omega), HQL.out.set _ g0 g1, HTZ.out.2, quot_step HQX.out HQJ.out (by rw [← HRR.out]; exact HTZ.out.1), fun k hk => by rw [List.getElem?_set_ne (by omega)]; exact HQZ.out k (by omega)⟩, (HBLW.out.setCell (by have := HGU.out; simp; omega) _).setCell (by have := HB24.out.size; simp; omega) _⟩
                · as_aux_lemma =>
                  have gg1 : 1 ≤ gg := by omega
                  obtain ⟨I, hI⟩ : ∃ I, I = IntKind.u64.wrap (u2 - cc) := ⟨_, rfl⟩
                  obtain ⟨D9, hD9⟩ : ∃ D9, D9 = IntKind.u64.wrap (I - bo) := ⟨_, rfl⟩
                  have hD9' : D9 = 18446744073709551615 := by rw [hD9, hI, IntKind.wrap_u64, IntKind.wrap_u64]; omega
                  have hD1 : D9 % 4294967296 = 4294967295 := by omega
                  have hD2 : D9 / 9223372036854775808 = 1 := by omega
                  have D90 : 0 ≤ D9 := by omega
                  have D91 : D9 < 18446744073709551616 := by omega
                  have hI2 := hD9.symm
                  clear hD9 hD9'
                  have hI' := hI.symm
                  have HTN := Lib.hid (top_neg HM3.out HZZ.out tz)
                  have HBL2 := Lib.hid (back_lim HRL.out HLO.out.2.1 HLO.out.2.2 HGD.out.1 tU)
                  obtain ⟨wy, rfl⟩ : ∃ wy : World, wy = wr := ⟨_, rfl⟩
                  obtain ⟨L1, hL1⟩ : ∃ L1, L1 = L.set (j + i) 4294967295 := ⟨_, rfl⟩
                  have HL1 := Lib.hid hL1
                  have hb1 : Buf (wy.setCell ⟨gu, j + i, none⟩ (.int .u32 4294967295)) gu L1 := by rw [hL1]; exact HBF.out.set HZZ.out _
                  have HBF1 := Lib.hid hb1
                  have HRW1 := Lib.hid (HRW.out.far (x := .int .u32 4294967295) (p := ⟨gu, j + i, none⟩) hgne')
                  have HLM1 := Lib.hid (show L1.length = la + 1 ∧ Lim L1 by rw [hL1]; exact ⟨by rw [List.length_set]; exact HM.out.1, HM.out.2.1.set _ (by omega) (by omega)⟩)
                  have HBE1 := Lib.hid (HBLW.out.setCell (p := ⟨gu, j + i, none⟩) (by have := HGU.out; simp; omega) (.int .u32 4294967295))
                  clear hI tz tU hgt0 hL1 hb1
                  go_wp2_with fail
                  clear hI2 hI' hcz hcq hD1 hD2 D90 D91
                  go_loopw [23, 24] (fun vc vi wr => ∃ (t : Nat) (ca : Int) (M : List Int), t ≤ i ∧ vi = .int .i64 t ∧ vc = .int .u64 ca ∧ 0 ≤ ca ∧ ca ≤ 1 ∧ Buf wr gu M ∧ RowL wr w4.heap.size ql ∧ Hid (M.length = la + 1 ∧ Lim M ∧ mv M + PB (j + t) * ca = mv L1 + PB j * mv ((canN V).take t) ∧ M.drop (j + t) = L1.drop (j + t)) ∧ Below w2.heap.size w4 wr) (fun _ vi _ => (i - (intOf vi).toNat))
                  case atStart => exact ⟨0, 0, L1, by omega, rfl, rfl, by omega, by omega, HBF1.out, HRW1.out, Lib.hid ⟨HLM1.out.1, HLM1.out.2, by simp [mv], rfl⟩, HBE1.out⟩
                  case round =>
                    obtain ⟨t, ca, M, ht, rfl, rfl, ca0, ca1, hbf2, hrw2, HMM, hbl2⟩ := hrel
                    have HBF2 := Lib.hid hbf2
                    have HRW2 := Lib.hid hrw2
                    have HBL3 := Lib.hid hbl2
                    have hgul2 := hbf2.1
                    have hguf2 := hbf2.2.2
                    have s5 : (0 : Int) ≤ (t : Int) := by omega
                    have hz_wr := hbl2.size
                    clear hbf2 hrw2 hbl2
                    by_cases hti : t < i
                    · as_aux_lemma =>
                      obtain ⟨x, hx⟩ : ∃ x, (canN V)[t]? = some x := ⟨(canN V)[t]'(by have := HVL.out; have := HNM.out; omega), by simp⟩
                      obtain ⟨x0, x1⟩ := (canN_lim V).get hx
                      obtain ⟨gv', ov', he, hgv', cx⟩ := (HOV.out.lat.below (HB24.out.trans HBL3.out)) t x hx
                      simp only [Option.some.injEq, Addr.mk.injEq] at he
                      obtain ⟨rfl, rfl, _⟩ := he
                      obtain ⟨z, hz⟩ : ∃ z, M[j + t]? = some z := ⟨M[j + t]'(by have := HMM.out.1; omega), by simp⟩
                      obtain ⟨z0, z1⟩ := HMM.out.2.1.get hz
                      have cz := HBF2.out.2.1 _ _ hz
                      have hcom : t + j = j + t := Nat.add_comm _ _
                      rw [← hcom] at cz
                      have s6 : (t : Int) < (i : Int) := by omega
                      have s7 : (0 : Int) ≤ (t : Int) + (j : Int) := by omega
                      have s8 : (t : Int) + (j : Int) < (la : Int) + 1 := by omega
                      have s9 : (t : Int) ≤ 200000 := by omega
                      obtain ⟨S2, hS2⟩ : ∃ S2, S2 = ca + (z + x) := ⟨_, rfl⟩
                      have S20 : 0 ≤ S2 := by omega
                      have S21 : S2 < 8589934592 := by omega
                      have q3 : 0 ≤ z + x := by omega
                      have q4 : z + x < 18446744073709551616 := by omega
                      have HST := Lib.hid (addb_step HMM.out.2.2.1 hz hx hS2)
                      have hS2' := hS2.symm
                      have HZ := Lib.hid hz
                      have HCM := Lib.hid hcom
                      clear hz hx hS2 hcom
                      go_wp2_with fail
                      refine wp_region_warm (Own wr.heap.size wr) (by kernel_rfl) (by kernel_rfl) (Own.refl (Nat.le_refl _)).drew ?_
                      repeat (first | (refine wpWarm_step_off rfl (fun K hK => ?_); (go_simp; refine hK _ ?_; clear hK K)) | (apply wpWarm_step rfl; (focus (intro W' hS; have hcS := hS.cells.1; have hfS := hS.cells.2; go_simp; (first | done | exact rfl | exact ⟨rfl, hS⟩ | (go_simp; exact rfl)))); (intro K hK; go_simp; (try go_bits); refine hK _ ?_; clear hK K)) | (apply wpWarm_step_on rfl; (focus (intro W' hS; have hcS := hS.cells.1; have hfS := hS.cells.2; go_simp; (first | done | exact rfl | exact ⟨rfl, hS⟩ | (go_simp; exact rfl)))); (intro K hK; go_simp; (try go_bits); refine hK _ ?_; clear hK K)))
                      refine wpWarm_nil ?_
                      intro w7 hO7
                      have HBF7 := Lib.hid (HBF2.out.below hO7.2)
                      have HRW7 := Lib.hid (HRW2.out.below hO7.2)
                      have HBL7 := Lib.hid (HBL3.out.trans (hO7.2.mono (by have := HB24.out.size; omega)))
                      have cz7 := HBF7.out.2.1 _ _ HZ.out
                      rw [← HCM.out] at cz7
                      have hf7 := HBF7.out.2.2
                      have hl7 := HBF7.out.1
                      clear hO7 cx cz hS2'
                      go_wp2_with fail
                      go_roundw
                      case rel =>
                        have hset : Buf (w7.setCell ⟨gu, t + j, none⟩ (.int .u32 (S2 % 4294967296))) gu (M.set (j + t) (S2 % 4294967296)) := by rw [HCM.out]; exact HBF7.out.set HZ.out _
                        exact ⟨t + 1, S2 / 4294967296, M.set (j + t) (S2 % 4294967296), by omega, by go_num, rfl, by omega, by omega, hset, HRW7.out.far hgne' _, Lib.hid ⟨by rw [List.length_set]; exact HMM.out.1, HMM.out.2.1.set _ (by omega) (by omega), HST.out, drop_set_same _ HMM.out.2.2.2⟩, HBL7.out.setCell (by have := HGU.out; simp; omega) _⟩
                      case measure => simp [intOf]; omega
                    · as_aux_lemma =>
                      obtain rfl : t = i := by omega
                      have hz9 : M[j + t]? = some 4294967295 := by
                        rw [get_of_drop HMM.out.2.2.2, HL1.out, List.getElem?_set_self (by have := (List.getElem?_eq_some_iff.1 HZZ.out).1; exact this)]
                      have hup9 : mv (M.drop (j + t + 1)) = 0 := by
                        rw [mv_drop_of HMM.out.2.2.2 (by omega), HL1.out, drop_set_same _ (rfl : L.drop (j + t) = L.drop (j + t))]
                        exact HUPL.out
                      have hm9 := HMM.out.2.2.1
                      rw [List.take_of_length_le (by have := HVL.out; have := HNM.out; omega), mv_canN, HL1.out, HTN.out] at hm9
                      obtain ⟨hc9, hs9⟩ := addb_done (R := 0) HMM.out.2.1 (canN_lim V) (show (canN V).length = t by have := HVL.out; have := HNM.out; omega) (mv_canN V).symm hz9 hup9 hm9 ca0 ca1 HBL2.out.1
                      subst hc9
                      have HS9 := Lib.hid hs9
                      have HZ9 := Lib.hid hz9
                      have hcz9 := HBF2.out.2.1 _ _ hz9
                      have hcq9 := HRW2.out.cell HQJ.out
                      have hfq9 := HRW2.out.frozen
                      have lq9 := HRW2.out.lt
                      clear hz9 hup9 hm9 hs9
                      go_wp2_with fail
                      go_roundg j
                      case measure => omega
                      case rel =>
                        exact ⟨j, M.set (j + t) 0, ql.set j (gg - 1), rfl, by omega, rfl, (HBF2.out.set HZ9.out 0).far hgne _, (HRW2.out.far hgne' _).set j (gg - 1), Lib.hid ⟨by rw [List.length_set]; exact HMM.out.1, by rw [List.length_set]; exact hql, HMM.out.2.1.set _ (by omega) (by omega), HQL.out.set _ (by omega) (by omega), by rw [HS9.out]; exact HBL2.out.2, quot_step HQX.out HQJ.out (by rw [← HRR.out]; exact HS9.out), fun k hk => by rw [List.getElem?_set_ne (by omega)]; exact HQZ.out k (by omega)⟩, (HBL3.out.setCell (by have := HGU.out; simp; omega) _).setCell (by have := HB24.out.size; simp; omega) _⟩
end Go.Proofs.Ytkoejgpnlncgaaa
