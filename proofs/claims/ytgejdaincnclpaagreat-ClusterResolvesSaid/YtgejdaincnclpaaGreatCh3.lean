/- Merged texts: BigKn Wa Wb Wc Wcmp Wd We Wf Ws Wq (what no proof of the claim needs is left out). -/
import Derived.Test.YtgejdaincnclpaaGreatCh2
import Derived.Deep.CutBlock
import Derived.Deep.DeepCutAuto
import Derived.Deep.LoopGhost
import Derived.Test.YtgejdaincnclpaaGreatShelf
namespace Go.Proofs.YtgejdaincnclpaaGreat
open Go Go.RowKit
set_option linter.unusedVariables false
theorem IsZ.pos {w : World} {B : Option Addr} {d : Nat} {y n : Nat} (hB : LAt w B (canN y)) (hd : (canN y).length ≤ d) (hn : (canN y).length ≤ n) : IsZ w (.agg #[.bool false, .slice B (canN y).length d]) n y :=
 ⟨false, B, d, canN y, rfl, hd, canN_lim y, hn, hB, by rw [mv_canN]; rfl⟩
theorem field_limbs (w : World) (b : Bool) (A : Option Addr) (n c : Nat) : (Instr.field 44 (.agg #[.bool b, .slice A n c]) 1).run Tryz.prog w = .ok (.slice A n c) w := by
 simp [Instr.field, part, isAgg, asAgg, run_underlying Tryz.underlying44, run_underlying Tryz.underlying42, go_sem]
attribute [local go_sem] field_limbs
def Buf (w : World) (g : Nat) (l : List Int) : Prop := g < w.heap.size ∧ (∀ k x, l[k]? = some x → w.cell? ⟨g, k, none⟩ = some (.int .u32 x)) ∧ ∀ o, w.frozen? ⟨g, o, none⟩ = false
theorem Buf.take {w : World} {g : Nat} {l : List Int} (h : Buf w g l) (n : Nat) : Buf w g (l.take n) := by
 refine ⟨h.1, fun k x hx => ?_, h.2.2⟩
 rw [List.getElem?_take] at hx
 split at hx
 · exact h.2.1 k x hx
 · cases hx
theorem Buf.below {w w1 : World} {g : Nat} {l : List Int} (h : Buf w g l) (hb : Below w.heap.size w w1) : Buf w1 g l :=
 ⟨Nat.lt_of_lt_of_le h.1 hb.size, fun k x hx => by rw [hb.cell h.1]; exact h.2.1 k x hx, fun o => by rw [hb.frozen h.1]; exact h.2.2 o⟩
theorem Buf.lat {w : World} {g : Nat} {l : List Int} (h : Buf w g l) : LAt w (some ⟨g, 0, none⟩) l := fun k x hx => ⟨g, 0, rfl, h.1, by rw [Nat.zero_add]; exact h.2.1 k x hx⟩
theorem Buf.set {w : World} {g : Nat} {l : List Int} (h : Buf w g l) {i : Nat} {y : Int} (hy : l[i]? = some y) (x : Int) : Buf (w.setCell ⟨g, i, none⟩ (.int .u32 x)) g (l.set i x) := by
 have hi := (List.getElem?_eq_some_iff.1 hy).1
 refine ⟨by simpa [World.setCell] using h.1, fun k z hz => ?_, fun o => ?_⟩
 · by_cases e : i = k
   · subst e
     rw [List.getElem?_set_self hi] at hz
     rw [← Option.some.inj hz]
     exact World.cell?_setCell_same w _ _ (h.2.1 i y hy)
   · rw [List.getElem?_set_ne e] at hz
     rw [World.cell?_setCell_other w _ _ _ (fun e' => by simp at e' <;> exact e e')]
     exact h.2.1 k z hz
 · rw [World.frozen?_setCell]
   exact h.2.2 o
theorem Buf.far {w : World} {g : Nat} {l : List Int} (h : Buf w g l) {p : Addr} (hp : g ≠ p.block) (x : Value) : Buf (w.setCell p x) g l := by
 refine ⟨by simpa [World.setCell] using h.1, fun k z hz => ?_, fun o => ?_⟩
 · rw [World.cell?_setCell_other w _ _ _ (fun e' => hp (by rw [e']))]
   exact h.2.1 k z hz
 · rw [World.frozen?_setCell]
   exact h.2.2 o
theorem RowL.far {w : World} {g : Nat} {l : List Int} (h : RowL w g l) {p : Addr} (hp : g ≠ p.block) (x : Value) : RowL (w.setCell p x) g l := World.rowIs.setOther h hp x
theorem Buf.of_own {w : World} {base : Nat} {v : Value} {l : List Int} (h : OwnL w base v l) (hl : l ≠ []) : ∃ g c, v = .slice (some ⟨g, 0, none⟩) l.length c ∧ l.length ≤ c ∧ base ≤ g ∧ Buf w g l := by
 rcases h.2 with ⟨_, h0⟩ | ⟨g, cap, cur, hv, hb, hh, hc, hm, hs, ht⟩
 · exact absurd (List.length_eq_zero_iff.1 h0) hl
 · refine ⟨g, cap, hv, hc, hb, (Array.getElem?_eq_some_iff.1 hh).1, fun k x hx => ?_, fun o => frozen_of_row w g o _ _ hh⟩
   have hcell := World.ownsRow.cells h (g := g) (by rw [hv]; rfl) k (.int .u32 x) (by rw [List.getElem?_map, hx]; rfl)
   unfold Addr.add at hcell
   split at hcell
   · rename_i h0; rw [h0]; exact hcell
   · simpa using hcell
def UOut (V n : Nat) (w : World) (e : Ending) (w' : World) : Prop := Below w.heap.size w w' ∧ ∃ A c, e = .returned (.agg #[.bool false, .slice A n c]) ∧ n ≤ c ∧ OwnL w' w.heap.size (.slice A n c) (canN V)
theorem ZOwn.nat {V n : Nat} {w : World} {e : Ending} {w' : World} (hn : (canN V).length = n) (h : ZOwn (V : Int) w e w') : UOut V n w e w' := by
 subst hn
 obtain ⟨hb, A, c, h1, h2, h3⟩ := h
 rw [Int.natAbs_natCast] at h1 h2 h3
 exact ⟨hb, A, c, by rw [h1, show decide ((V : Int) < 0) = false by simp], h2, h3⟩
set_option maxRecDepth 100000 in
set_option maxHeartbeats 20000000 in
theorem divmag_knuth (A B : Option Addr) (x y c d m : Nat) (w : World) (hn : (canN x).length ≤ 200000) (hA : LAt w A (canN x)) (hB : LAt w B (canN y)) (hc : (canN x).length ≤ c) (hd : (canN y).length ≤ d) (hxy : y ≤ x) (hy2 : (canN y).length = m + 2) :
  Calls Tryz.prog 79 #[.slice A (canN x).length c, .slice B (canN y).length d] w (DivOut (x / y) (x % y) w) := by
 have hcm := fun w' h h' => cmpmag_any A B x y c d w' (by omega) (by have := canN_mono hxy; omega) h h'
 obtain ⟨cm, hcc⟩ : ∃ cm, cm = cmpI x y := ⟨_, rfl⟩
 have cm0 : 0 ≤ cm := by rw [hcc]; unfold cmpI; rw [if_neg (by omega)]; split <;> omega
 rw [← hcc] at hcm
 have hlen : m + 2 ≤ (canN x).length := by have := canN_mono hxy; omega
 obtain ⟨t, ht⟩ : ∃ t, (canN y)[m + 1]? = some t := ⟨(canN y)[m + 1]'(by omega), by simp⟩
 obtain ⟨tl0, tl1⟩ := (canN_lim y).get ht
 have tne : t ≠ 0 := canN_last y t (by rw [List.getLast?_eq_getElem?, hy2]; exact ht)
 obtain ⟨S, S31, hS1, hS2, hS3⟩ := norm_shift (t := t) (by omega) tl1
 obtain ⟨V, hV, hVl, hVt, hVp⟩ := div_v hy2 ht hS1 hS2
 obtain ⟨X, hX, hXl, hXm, hXb, hX1, hX2⟩ := div_u (x := x) (y := y) rfl S31 hlen hVp
 have hupb := fun w' (h : LAt w' B (canN y)) => up_own 400000 _ (y : Int) 0 S w' (IsZ.pos h hd (by omega)) (by omega) S31 (by omega)
 have hupa := fun w' (h : LAt w' A (canN x)) => up_own 400000 _ (x : Int) 0 S w' (IsZ.pos h hc (by omega)) (by omega) S31 (by omega)
 have e0 : (32 * ((0 : Nat) : Int) + (S : Int)) = (S : Int) := by simp
 rw [e0, PB_zero, Int.one_mul, ← hV] at hupb
 rw [e0, PB_zero, Int.one_mul, ← hX] at hupa
 replace hupb := fun w' h => (hupb w' h).mono fun _ _ h => h.nat (hVl.trans hy2.symm)
 replace hupa := fun w' h => (hupa w' h).mono fun _ _ h => h.nat rfl
 have HVX := hQ0 (And.intro hV hX)
 have HVT := hQ0 hVt
 have HVP := hQ0 hVp
 have HVL := hQ0 hVl
 have HXL := hQ0 hXl
 have HXM := hQ0 hXm
 have HXB := hQ0 hXb
 have HS3 := hQ0 hS3
 have HT := hQ0 ht
 obtain ⟨la, hla⟩ : ∃ la, la = (canN x).length := ⟨_, rfl⟩
 obtain ⟨n, hnn⟩ : ∃ n, n = (canN y).length := ⟨_, rfl⟩
 rw [← hla] at hupa hcm hn hlen hXb hX1 hX2 hc HXL HXM HXB ⊢
 rw [← hnn] at hupb hcm hd hy2 ⊢
 have HUB := hQ0 hupb
 have HUA := hQ0 hupa
 have HCM := hQ0 hcm
 have HA := hQ0 hA
 have HB := hQ0 hB
 have HNM := hQ0 hy2
 have HLA := hQ0 hla
 have HLN := hQ0 hnn
 have n2 : 2 ≤ n := by omega
 have nla : n ≤ la := by omega
 clear hcm hA hB hcc hV hX hVt hVp hVl hXl hXm hXb hS3 ht hupb hupa e0 hla hnn hy2 hlen
 go_enter Tryz.func79, Tryz.ntmps79; (try simp only [List.append_eq, List.cons_append, List.nil_append])
 go_wp2_with fail
 (go_at_call 73; refine (HCM.out _ HA.out HB.out).mono ?_; rintro e w1 ⟨rfl, hb_w1⟩; have hz_w1 := hb_w1.size; (try simp at hz_w1); skip)
 have HB1 := hQ0 hb_w1
 clear hb_w1
 have nn1 : ((n : Int) == 1) = false := by rw [beq_eq_false_iff_ne]; omega
 go_wp2_with fail
 have hla1 := HA.out.below HB1.out
 have HA1 := hQ0 hla1
 have HBB1 := hQ0 (HB.out.below HB1.out)
 clear hla1
 go_loop [9] (fun vs => ∃ s : Nat, s ≤ S ∧ vs = .int .i64 s) (fun vs => S - (intOf vs).toNat)
 case atStart => exact ⟨0, by omega, rfl⟩
 case round =>
  obtain ⟨s, hs, rfl⟩ := hrel
  obtain ⟨g, o, rfl, hg, hcell⟩ := HBB1.out (m + 1) t HT.out
  have hidx : (n : Int) - 1 = ((m + 1 : Nat) : Int) := by have := HNM.out; omega
  have i1 : (0 : Int) ≤ (n : Int) - 1 := by omega
  have i2 : (n : Int) - 1 < (n : Int) := by omega
  have s0 : (0 : Int) ≤ (s : Int) := by omega
  have s1 : (s : Int) ≤ 31 := by omega
  have hmin : min s 32 = s := by omega
  obtain ⟨z, hz⟩ : ∃ z, z = t * 2 ^ s := ⟨_, rfl⟩
  have z0 : 0 ≤ z := by rw [hz]; exact Int.mul_nonneg (by omega) (Int.le_of_lt (Int.pow_pos (by decide)))
  have hwz : z < 4294967296 → IntKind.u32.wrap (t * 2 ^ s) = z := fun h => by rw [← hz, IntKind.wrap_u32]; omega
  by_cases hlt : s < S
  · have z1 : z < 2147483648 := by rw [hz]; exact HS3.out s hlt
    have e1 := hwz (by omega)
    have e2 : bits .and .u32 z 2147483648 = 0 := by rw [top_bit z0 (by omega), if_pos z1]
    clear hz hwz
    go_wp2_with fail
    go_round
    case rel => exact ⟨s + 1, by omega, by go_num⟩
    case measure => simp [intOf]; omega
  · obtain rfl : s = S := by omega
    have e1 := hwz (by rw [hz]; exact hS2)
    have e2 : bits .and .u32 z 2147483648 = 2147483648 := by rw [top_bit z0 (by rw [hz]; exact hS2), if_neg (by rw [hz]; omega)]
    clear hz hwz
    go_wp2_with fail
    clear e1 e2 hcell z0
    (go_at_call 108; refine (HUB.out _ HBB1.out).mono ?_; rintro e w2 ⟨hb_w2, Av, cv, rfl, hcv, hOv⟩; have hz_w2 := hb_w2.size; (try simp at hz_w2); skip)
    have HB2 := hQ0 (HB1.out.trans (hb_w2.mono (by omega)))
    have HA2 := hQ0 (HA1.out.below hb_w2)
    have HOV := hQ0 hOv
    have HCV := hQ0 hcv
    clear hb_w2 hOv hcv
    go_wp2_with fail
    (go_at_call 108; refine (HUA.out _ HA2.out).mono ?_; rintro e w3 ⟨hb_w3, Au, cu, rfl, hcu, hOu⟩; have hz_w3 := hb_w3.size; (try simp at hz_w3); skip)
    have HB3 := hQ0 (HB2.out.trans (hb_w3.mono (by omega)))
    have HB23 := hQ0 hb_w3
    have HOV3 := hQ0 (HOV.out.below hb_w3)
    have HOU := hQ0 hOu
    have HCU := hQ0 hcu
    clear hb_w3 hOu hcu
    go_wp2_with (at_builtin; go_must (refine wpList_append_limbs2 rfl _ _ rfl w2.heap.size _ (canN X) rfl (HOU.out.alloc _) (some ⟨w3.heap.size, 0, none⟩) 2 [0, 0] rfl (lat_two (by simp) (by go_simp) (by go_simp)) (by simp; omega) (by simp; omega) ?_))
    intro v4 w4 hown4 hg4 hat4
    obtain ⟨gu, c4, rfl, hc4, hgu, hbu⟩ := Buf.of_own hown4 (by simp)
    have hlen4 : (canN X ++ [0, 0]).length = (canN X).length + 2 := by simp
    rw [hlen4]
    have hgv := HOV.out.addr
    have HB4 := hQ0 ((HB3.out.alloc (by have := HB3.out.size; omega) _).grown hg4 (by have := HB3.out.size; simp; omega) (fun k hk => by have := HOU.out.fresh k hk; have := HB2.out.size; omega))
    have HB24 := hQ0 ((HB23.out.alloc (HB23.out.size) _).grown hg4 (by have := HB23.out.size; simp; omega) HOU.out.fresh)
    have hov4 : LAt w4 Av (canN V) := (HOV3.out.lat.alloc _).grown hg4 (fun g' o' he hh => by
     have h1 := (hgv g' o' he).2
     have h2 := HOU.out.fresh g' hh.symm
     omega)
    have HV4 := hQ0 hov4
    have HU4 := hQ0 (hbu.take (la + 1))
    have hz4 : w3.heap.size + 1 ≤ w4.heap.size := by have := hg4.size; simpa using this
    have HGV := hQ0 hgv
    have HGU := hQ0 hgu
    have hgu4 : gu < w4.heap.size := hbu.1
    have hcu4 : la + 1 ≤ c4 := by omega
    have hmx : max ((la : Int) + 1) ((n : Int) + 1) = (la : Int) + 1 := by omega
    have hmk := fun w => run_make_row' (P := Tryz.prog) 42 107 (.int .u32 0) 4 Tryz.underlying42 limbInfo rfl .i64 .i64 (la + 1 - n) (by omega) (by omega) w
    have hmn : ((la + 1 - n : Nat) : Int) = (la : Int) + 1 - (n : Int) := by omega
    rw [hmn] at hmk
    clear hown4 hg4 hat4 hbu hgv hov4 hlen4 hmn hgu
    have hla0 : (la : Int) ≤ 200000 := by omega
    have hcap : ((la : Int) + 1) ≤ (c4 : Int) := by omega
    go_wp2_with fail
    clear hmk hmx hcap
    go_loopg [14] (la + 1 - n) (fun gk vj wr => ∃ (k : Nat) (ul ql : List Int), k = gk ∧ k ≤ la + 1 - n ∧ vj = .int .i64 ((k : Int) - 1) ∧ Buf wr gu ul ∧ RowL wr w4.heap.size ql ∧ Hid (ul.length = la + 1 ∧ ql.length = la + 1 - n ∧ Lim ul ∧ Lim ql ∧ mv ul < PB k * V ∧ (X : Int) = mv ul + mv ql * V ∧ ∀ i, i < k → ql[i]? = some 0) ∧ Below w2.heap.size w4 wr)
    case atStart => exact ⟨la + 1 - n, (canN X ++ [0, 0]).take (la + 1), List.replicate (la + 1 - n) 0, rfl, Nat.le_refl _, by go_num, HU4.out.below ((Below.refl _ _).alloc (Nat.le_refl _) _), RowL.made w4 _, hQ0 ⟨HXL.out, by simp, ((canN_lim X).append (Lim.cons (by omega) (by omega) (Lim.cons (by omega) (by omega) Lim.nil))).take _, Lim.replicate _, by rw [HXM.out, HNM.out]; exact HXB.out, by rw [HXM.out, mv_replicate]; simp, fun i hi => by simp [hi]⟩, (Below.refl _ _).alloc (by have := HB3.out.size; omega) _⟩
    case round =>
     obtain ⟨k, ul, ql, hgk, hk, rfl, hbuf, hrow, HO, hbel⟩ := hrel
     subst hgk
     obtain ⟨wo, rfl⟩ : ∃ wo : World, wo = wr := ⟨_, rfl⟩
     rcases k with _ | j
     · as_aux_lemma =>
       have y0 : 0 < y := by
        rcases Nat.eq_zero_or_pos y with h | h
        · exfalso
          have h1 := HLN.out
          rw [h, canN_zero] at h1
          simp at h1
          omega
        · exact h
       obtain ⟨hf1, hf2⟩ := quot_end HO.out.2.2.1 HO.out.2.2.2.1 HO.out.2.2.2.2.2.1 HO.out.2.2.2.2.1 HVX.out.2 HVX.out.1 y0
       have hmg := fun w' h => mag_any (some ⟨w4.heap.size, 0, none⟩) ql (la + 1 - n) w' HO.out.2.2.2.1 h (by have := HO.out.2.1; omega) (by have := HO.out.2.1; omega)
       rw [HO.out.2.1, hf1] at hmg
       have hdn := fun w' (h : LAt w' (some ⟨gu, 0, none⟩) ul) => down_any 400000 (.agg #[.bool false, .slice (some ⟨gu, 0, none⟩) ul.length c4]) (mv ul) 0 s w' ⟨false, some ⟨gu, 0, none⟩, c4, ul, rfl, by have := HO.out.1; omega, HO.out.2.2.1, by have := HO.out.1; omega, h, rfl⟩ (by omega) (by omega) (by omega)
       rw [show (32 * ((0 : Nat) : Int) + (s : Int)) = (s : Int) by simp, PB_zero, Int.one_mul, hf2, HO.out.1] at hdn
       have HMG := hQ0 hmg
       have HDN := hQ0 hdn
       have HRL := hQ0 hrow.lat
       have HUL := hQ0 hbuf.lat
       have HBW := hQ0 (HB4.out.trans (hbel.mono (by have := HB2.out.size; omega)))
       clear hmg hdn hf1 hf2 hbuf hrow hbel y0
       go_wp2_with fail
       (go_at_call 70; refine (HMG.out _ HRL.out).mono ?_; rintro e w7 ⟨hb_w7, A1, c1, rfl, hc1, hA1⟩; have hz_w7 := hb_w7.size; (try simp at hz_w7); skip)
       have HB7 := hQ0 (HBW.out.trans (hb_w7.mono (by have := HBW.out.size; omega)))
       have HUL7 := hQ0 (HUL.out.below hb_w7)
       have HA1 := hQ0 hA1
       have HC1 := hQ0 hc1
       clear hb_w7 hA1 hc1
       go_wp2_with fail
       (go_at_call 109; refine (HDN.out _ HUL7.out).mono ?_; rintro e w8 ⟨hb_w8, v8, rfl, A2, c2, rfl, hc2, hA2⟩; have hz_w8 := hb_w8.size; (try simp at hz_w8); skip)
       have HB8 := hQ0 (HB7.out.trans (hb_w8.mono (by have := HB7.out.size; omega)))
       have HA18 := hQ0 (HA1.out.below hb_w8)
       have HA2 := hQ0 hA2
       have HC2 := hQ0 hc2
       clear hb_w8 hA2 hc2
       go_wp2_with fail
       go_ret2
       exact ⟨HB8.out, A1, c1, A2, c2, rfl, HC1.out, HC2.out, HA18.out, HA2.out⟩
     · as_aux_lemma =>
       have hNM := HNM.out
       rw [show (((j + 1 : Nat) : Int) - 1) = (j : Int) by omega]
       obtain ⟨u0, u1, u2, top, next, p, lo, wl, wu, e0, e1, e2, e3, e4, a0, a1, b0, b1, d0, d1, f0, f1, t0, t1, p0, wl0, wl1, wu0, wu1, hVe, hUe, hUB, hlo, lo0, lo1, hup⟩ := round_facts (j := j) (m := m) HO.out.2.2.1 (canN_lim V) HVL.out (mv_canN V) HVT.out (by have := HO.out.1; omega) HO.out.2.2.2.2.1
       have ht2 := lead_le p0 wl1 f1 wu0 a0 b0 hUB
       have c0 := hbuf.2.1 _ _ e0
       have c1 := hbuf.2.1 _ _ e1
       have c2 := hbuf.2.1 _ _ e2
       have cf := hbuf.2.2
       have c5 := hbuf.1
       have hv4 := HOV.out.lat.below (HB24.out.trans hbel)
       obtain ⟨gv, ov, rfl, hgv4, cv1⟩ := hv4 (m + 1) top e4
       obtain ⟨gv', ov', he, _, cv2⟩ := hv4 m next e3
       simp only [Option.some.injEq, Addr.mk.injEq] at he
       obtain ⟨rfl, rfl, _⟩ := he
       have x1 : (j : Int) + (n : Int) - 1 = ((j + m + 1 : Nat) : Int) := by omega
       have x2 : (j : Int) + (n : Int) - 2 = ((j + m : Nat) : Int) := by omega
       have x3 : (n : Int) - 1 = ((m + 1 : Nat) : Int) := by omega
       have x4 : (n : Int) - 2 = ((m : Nat) : Int) := by omega
       have hjn : j + m + 2 = j + n := by omega
       rw [hjn] at c2 e2
       have y1 : (0 : Int) ≤ (j : Int) + (n : Int) := by omega
       have y2 : (j : Int) + (n : Int) < (la : Int) + 1 := by omega
       have y3 : (0 : Int) ≤ (j : Int) + (n : Int) - 1 := by omega
       have y4 : (j : Int) + (n : Int) - 1 < (la : Int) + 1 := by omega
       have y5 : (0 : Int) ≤ (j : Int) + (n : Int) - 2 := by omega
       have y6 : (j : Int) + (n : Int) - 2 < (la : Int) + 1 := by omega
       have y7 : (0 : Int) ≤ (n : Int) - 1 := by omega
       have y8 : (n : Int) - 1 < (n : Int) := by omega
       have y9 : (0 : Int) ≤ (n : Int) - 2 := by omega
       have y10 : (n : Int) - 2 < (n : Int) := by omega
       have y11 : (0 : Int) ≤ (j : Int) := by omega
       have z1 : ((j + m + 1 : Nat) : Int) < (la : Int) + 1 := by omega
       have z2 : ((j + m : Nat) : Int) < (la : Int) + 1 := by omega
       have z3 : ((m + 1 : Nat) : Int) < (n : Int) := by omega
       have z4 : ((m : Nat) : Int) < (n : Int) := by omega
       have z5 : (j : Int) + (m : Int) + 1 < (la : Int) + 1 := by omega
       have z6 : (j : Int) + (m : Int) < (la : Int) + 1 := by omega
       have z7 : (m : Int) + 1 < (n : Int) := by omega
       have y12 : (j : Int) ≤ 200000 := by omega
       obtain ⟨nm, hnm⟩ : ∃ nm, nm = u2 * 4294967296 + u1 := ⟨_, rfl⟩
       have hsh : IntKind.u64.wrap (u2 * 4294967296) = u2 * 4294967296 := by rw [IntKind.wrap_u64]; omega
       have hor : bits .or .u64 (u2 * 4294967296) u1 = nm := by
        rw [hnm]
        exact bits_join .u64 64 (by decide) wraps_u64' 32 (u2 * 4294967296) u1 (by omega) (Int.mul_emod_left _ _) (by omega) b0 (by omega) (by omega)
       have nm0 : 0 ≤ nm := by omega
       have nm1 : nm < 18446744073709551616 := by omega
       have HG0 := hQ0 (guess_start (u0 := u0) (u2 := u2) p0 wl0 f0 wu1 a1 (show 0 < top by omega) b0 d0)
       have hgs := HG0.out
       rw [← hnm] at hgs
       obtain ⟨G, hG⟩ : ∃ G, G = nm / top := ⟨_, rfl⟩
       obtain ⟨r, hr⟩ : ∃ r, r = nm % top := ⟨_, rfl⟩
       rw [← hG, ← hr] at hgs
       have HG1 := hQ0 hgs
       have G0 : 0 ≤ G := by rw [hG]; exact Int.ediv_nonneg nm0 (by omega)
       have G1 : G ≤ nm := by rw [hG]; exact Int.ediv_le_self _ nm0
       have r0 : 0 ≤ r := by rw [hr]; exact Int.emod_nonneg _ (by omega)
       have r1 : r < top := by rw [hr]; exact Int.emod_lt_of_pos _ (by omega)
       have q1 : nm.tdiv top = G := by rw [hG]; exact Int.tdiv_eq_ediv_of_nonneg nm0
       have q2 : nm.tmod top = r := by rw [hr]; exact Int.tmod_eq_emod_of_nonneg nm0
       have q3 : IntKind.u64.wrap (nm.tdiv top) = G := by rw [q1]; exact wraps_u64' G G0 (by omega)
       have n0 : (top == 0) = false := by rw [beq_eq_false_iff_ne]; omega
       have n1 : ¬ top = 0 := by omega
       have hG' := hG.symm
       have hr' := hr.symm
       have HNMv := hQ0 hnm
       have HBUF := hQ0 hbuf
       have HROW := hQ0 hrow
       have HLV := hQ0 hv4
       have HBEL := hQ0 hbel
       have HE := hQ0 (And.intro e0 (And.intro e1 (And.intro e2 (And.intro e3 e4))))
       have HVE := hQ0 (And.intro hVe hUe)
       have HUB' := hQ0 hUB
       have HLO := hQ0 (And.intro hlo (And.intro lo0 lo1))
       have HUP := hQ0 hup
       clear hnm hgs hG hr hNM hbuf hrow hv4 hbel e0 e1 e2 e3 e4 hVe hUe hUB hlo lo0 lo1 hup hjn
       go_wp2_with fail
       refine wp_region_warm (Own wo.heap.size wo) (by kernel_rfl) (by kernel_rfl) (Own.refl (Nat.le_refl _)).drew ?_
       repeat (first | (refine wpWarm_step_off rfl (fun K hK => ?_); (go_simp; refine hK _ ?_; clear hK K)) | (apply wpWarm_step rfl; (focus (intro W' hS; have hcS := hS.cells; go_simp; (first | done | exact rfl | exact ⟨rfl, hS⟩ | (go_simp; exact rfl)))); (intro K hK; go_simp; (try go_bits); refine hK _ ?_; clear hK K)) | (apply wpWarm_step_on rfl; (focus (intro W' hS; have hcS := hS.cells; go_simp; (first | done | exact rfl | exact ⟨rfl, hS⟩ | (go_simp; exact rfl)))); (intro K hK; go_simp; (try go_bits); refine hK _ ?_; clear hK K)))
       refine wpWarm_nil ?_
       intro w5 hO5
       have hbuf5 := HBUF.out.below hO5.2
       have hlv5 := HLV.out.below hO5.2
       have HB5 := hQ0 hO5.2
       have hz5 := hO5.1
       clear c0 c1 c2 cf c5 cv1 cv2 hO5 hsh hor
       obtain ⟨gv5, ov5, he5, hgv5, cv1⟩ := hlv5 (m + 1) top HE.out.2.2.2.2
       simp only [Option.some.injEq, Addr.mk.injEq] at he5
       obtain ⟨rfl, rfl, _⟩ := he5
       go_wp2_with fail
       refine wp_region_warm (Own w5.heap.size w5) (by kernel_rfl) (by kernel_rfl) (Own.refl (Nat.le_refl _)).drew ?_
       repeat (first | (refine wpWarm_step_off rfl (fun K hK => ?_); (go_simp; refine hK _ ?_; clear hK K)) | (apply wpWarm_step rfl; (focus (intro W' hS; have hcS := hS.cells; go_simp; (first | done | exact rfl | exact ⟨rfl, hS⟩ | (go_simp; exact rfl)))); (intro K hK; go_simp; (try go_bits); refine hK _ ?_; clear hK K)) | (apply wpWarm_step_on rfl; (focus (intro W' hS; have hcS := hS.cells; go_simp; (first | done | exact rfl | exact ⟨rfl, hS⟩ | (go_simp; exact rfl)))); (intro K hK; go_simp; (try go_bits); refine hK _ ?_; clear hK K)))
       refine wpWarm_nil ?_
       intro w6 hO6
       have HB6 := hQ0 (HB5.out.trans (hO6.2.mono hz5))
       have hz6 := hO6.1
       clear hO6 cv1 hbuf5 hlv5 n0 n1 q1 q2 q3 hG' hr' hgv5
       go_upto_block 6 with fail
       go_cut [16, 17] from 119 to 299 (fun vq vr wx => ∃ gg rr : Int, vq = .int .u64 gg ∧ vr = .int .u64 rr ∧ 0 ≤ gg ∧ gg < 4294967296 ∧ Hid (Guess p wl wu top next u0 u1 u2 gg rr ∧ gg * next ≤ rr * 4294967296 + u0) ∧ Below wo.heap.size wo wx)
       case first => as_aux_lemma =>
        go_wp2_with fail
        go_loopg [16, 17] G.toNat (fun kk vq vr ws => ∃ gg rr : Int, vq = .int .u64 gg ∧ vr = .int .u64 rr ∧ gg.toNat ≤ kk ∧ 0 ≤ gg ∧ gg < 18446744073709551616 ∧ 0 ≤ rr ∧ rr < 4294967296 ∧ Hid (Guess p wl wu top next u0 u1 u2 gg rr) ∧ Below wo.heap.size wo ws)
        case atStart => exact ⟨G, r, rfl, rfl, Nat.le_refl _, G0, by omega, r0, by omega, HG1, HB6.out⟩
        case round =>
         obtain ⟨gg, rr, rfl, rfl, hkk, g0, g1, r0', r1', HGU, hbw⟩ := hrel
         have hbuf := HBUF.out.below hbw
         have hlv := HLV.out.below hbw
         have c0 := hbuf.2.1 _ _ HE.out.1
         have cf := hbuf.2.2
         have c5 := hbuf.1
         obtain ⟨gv6, ov6, he6, hgv6, cv1⟩ := hlv (m + 1) top HE.out.2.2.2.2
         obtain ⟨gv7, ov7, he7, _, cv2⟩ := hlv m next HE.out.2.2.2.1
         simp only [Option.some.injEq, Addr.mk.injEq] at he6 he7
         obtain ⟨rfl, rfl, _⟩ := he6
         obtain ⟨rfl, rfl, _⟩ := he7
         have HBW := hQ0 hbw
         have hzw := hbw.size
         clear hbuf hlv hbw
         by_cases hge : 4294967296 ≤ gg
         · have hU := guess_big p0 wl0 f0 (show 0 < top by omega) hge HUB'.out
           have HGL := hQ0 (guess_less HGU.out p0 wl0 (show 0 < top by omega) (show 1 ≤ gg by omega) hU)
           clear hU
           have hs1 : 0 ≤ gg - 1 := by omega
           have hs2 : 0 ≤ rr + top := by omega
           have hs3 : rr + top < 18446744073709551616 := by omega
           go_wp2_with fail
           refine wp_region_warm (Own wr.heap.size wr) (by kernel_rfl) (by kernel_rfl) (Own.refl (Nat.le_refl _)).drew ?_
           repeat (first | (refine wpWarm_step_off rfl (fun K hK => ?_); (go_simp; refine hK _ ?_; clear hK K)) | (apply wpWarm_step rfl; (focus (intro W' hS; have hcS := hS.cells; go_simp; (first | done | exact rfl | exact ⟨rfl, hS⟩ | (go_simp; exact rfl)))); (intro K hK; go_simp; (try go_bits); refine hK _ ?_; clear hK K)) | (apply wpWarm_step_on rfl; (focus (intro W' hS; have hcS := hS.cells; go_simp; (first | done | exact rfl | exact ⟨rfl, hS⟩ | (go_simp; exact rfl)))); (intro K hK; go_simp; (try go_bits); refine hK _ ?_; clear hK K)))
           refine wpWarm_nil ?_
           intro w7 hO7
           have HB7 := hQ0 (HBW.out.trans (hO7.2.mono hzw))
           have hlv7 := HLV.out.below HB7.out
           obtain ⟨gv7, ov7, he7, hgv7, cv7⟩ := hlv7 (m + 1) top HE.out.2.2.2.2
           simp only [Option.some.injEq, Addr.mk.injEq] at he7
           obtain ⟨rfl, rfl, _⟩ := he7
           clear hO7 hlv7 c0 cv1 cv2 cf
           by_cases hrr : 4294967296 ≤ rr + top
           · have HGR := hQ0 (guess_rest HGL.out f1 f0 a0 b1 (show 0 < top by omega) ht2 hrr)
             go_wp2_with fail
             go_meet
             exact ⟨gg - 1, rr + top, rfl, rfl, hs1, HGR.out.1, hQ0 ⟨HGL.out, HGR.out.2⟩, HB7.out⟩
           · have hrr' : ¬ 4294967296 ≤ rr + top := hrr
             go_wp2_with fail
             go_roundg (gg - 1).toNat
             case measure => omega
             case rel => exact ⟨gg - 1, rr + top, rfl, rfl, Nat.le_refl _, hs1, by omega, hs2, by omega, HGL, HB7.out⟩
         · have hge' : ¬ 4294967296 ≤ gg := hge
           have hgd : decide (4294967296 ≤ gg) = false := by simpa using hge
           obtain ⟨PR, hPR⟩ : ∃ PR, PR = gg * next := ⟨_, rfl⟩
           obtain ⟨SR, hSR⟩ : ∃ SR, SR = rr * 4294967296 + u0 := ⟨_, rfl⟩
           obtain ⟨pr0, pr1⟩ := mul_lim g0 (show gg < 4294967296 by omega) f0 f1
           have o1 : IntKind.u64.wrap (gg * next) = PR := by rw [hPR]; exact wraps_u64' _ pr0 (by omega)
           have o2 : IntKind.u64.wrap (rr * 4294967296) = rr * 4294967296 := by rw [IntKind.wrap_u64]; omega
           have o3 : bits .or .u64 (rr * 4294967296) u0 = SR := by
            rw [hSR]
            exact bits_join .u64 64 (by decide) wraps_u64' 32 (rr * 4294967296) u0 (by omega) (Int.mul_emod_left _ _) (by omega) a0 (by omega) (by omega)
           have HPS := hQ0 (And.intro hPR hSR)
           clear hPR hSR pr0 pr1
           by_cases hnx : SR < PR
           · have hU := guess_next HGU.out p0 wl0 wu1 (by rw [← HPS.out.1, ← HPS.out.2]; exact hnx)
             have hg1 : 1 ≤ gg := by
              rcases Int.lt_or_le 0 gg with h | h
              · omega
              · exfalso
                have hz0 : gg = 0 := by omega
                have h1 := HPS.out.1
                have h2 := HPS.out.2
                rw [hz0, Int.zero_mul] at h1
                omega
             have HGL := hQ0 (guess_less HGU.out p0 wl0 (show 0 < top by omega) (show 1 ≤ gg by omega) hU)
             clear hU
             have hs1 : 0 ≤ gg - 1 := by omega
             have hs2 : 0 ≤ rr + top := by omega
             have hs3 : rr + top < 18446744073709551616 := by omega
             go_wp2_with fail
             refine wp_region_warm (Own wr.heap.size wr) (by kernel_rfl) (by kernel_rfl) (Own.refl (Nat.le_refl _)).drew ?_
             repeat (first | (refine wpWarm_step_off rfl (fun K hK => ?_); (go_simp; refine hK _ ?_; clear hK K)) | (apply wpWarm_step rfl; (focus (intro W' hS; have hcS := hS.cells; go_simp; (first | done | exact rfl | exact ⟨rfl, hS⟩ | (go_simp; exact rfl)))); (intro K hK; go_simp; (try go_bits); refine hK _ ?_; clear hK K)) | (apply wpWarm_step_on rfl; (focus (intro W' hS; have hcS := hS.cells; go_simp; (first | done | exact rfl | exact ⟨rfl, hS⟩ | (go_simp; exact rfl)))); (intro K hK; go_simp; (try go_bits); refine hK _ ?_; clear hK K)))
             refine wpWarm_nil ?_
             intro w7 hO7
             have HB7 := hQ0 (HBW.out.trans (hO7.2.mono hzw))
             have hlv7 := HLV.out.below HB7.out
             obtain ⟨gv7, ov7, he7, hgv7, cv7⟩ := hlv7 (m + 1) top HE.out.2.2.2.2
             simp only [Option.some.injEq, Addr.mk.injEq] at he7
             obtain ⟨rfl, rfl, _⟩ := he7
             clear hO7 hlv7 c0 cv1 cv2 cf
             by_cases hrr : 4294967296 ≤ rr + top
             · have HGR := hQ0 (guess_rest HGL.out f1 f0 a0 b1 (show 0 < top by omega) ht2 hrr)
               go_wp2_with fail
               go_meet
               exact ⟨gg - 1, rr + top, rfl, rfl, hs1, HGR.out.1, hQ0 ⟨HGL.out, HGR.out.2⟩, HB7.out⟩
             · have hrr' : ¬ 4294967296 ≤ rr + top := hrr
               go_wp2_with fail
               go_roundg (gg - 1).toNat
               case measure => omega
               case rel => exact ⟨gg - 1, rr + top, rfl, rfl, Nat.le_refl _, hs1, by omega, hs2, by omega, HGL, HB7.out⟩
           · have hnx' : ¬ SR < PR := hnx
             have hnd : decide (SR < PR) = false := by simpa using hnx
             go_wp2_with fail
             refine wp_region_warm (Own wr.heap.size wr) (by kernel_rfl) (by kernel_rfl) (Own.refl (Nat.le_refl _)).drew ?_
             repeat (first | (refine wpWarm_step_off rfl (fun K hK => ?_); (go_simp; refine hK _ ?_; clear hK K)) | (apply wpWarm_step rfl; (focus (intro W' hS; have hcS := hS.cells; go_simp; (first | done | exact rfl | exact ⟨rfl, hS⟩ | (go_simp; exact rfl)))); (intro K hK; go_simp; (try go_bits); refine hK _ ?_; clear hK K)) | (apply wpWarm_step_on rfl; (focus (intro W' hS; have hcS := hS.cells; go_simp; (first | done | exact rfl | exact ⟨rfl, hS⟩ | (go_simp; exact rfl)))); (intro K hK; go_simp; (try go_bits); refine hK _ ?_; clear hK K)))
             refine wpWarm_nil ?_
             intro w7 hO7
             have HB7 := hQ0 (HBW.out.trans (hO7.2.mono hzw))
             clear hO7
             go_wp2_with fail
             go_meet
             exact ⟨gg, rr, rfl, rfl, g0, by omega, hQ0 ⟨HGU.out, by rw [← HPS.out.1, ← HPS.out.2]; omega⟩, HB7.out⟩
       case rest => as_aux_lemma =>
        obtain ⟨gg, rr, rfl, rfl, g0, g1, HGG, hbw⟩ := hcut
        have hbuf0 := HBUF.out.below hbw
        have hrow0 := HROW.out.below hbw
        have hbel0 := HBEL.out.trans (hbw.mono (by have := HBEL.out.size; have := HB4.out.size; omega))
        obtain ⟨wx, rfl⟩ : ∃ wx : World, wx = wc := ⟨_, rfl⟩
        obtain ⟨R, hR⟩ : ∃ R, R = mv ul := ⟨_, rfl⟩
        have HRR := hQ0 hR
        have HBF0 := hQ0 hbuf0
        have HRW0 := hQ0 hrow0
        have HBL0 := hQ0 hbel0
        have hgne : gu ≠ w4.heap.size := by omega
        have hLL : ul.length = la + 1 := HO.out.1
        have HLL := hQ0 hLL
        clear hbuf0 hrow0 hbel0 hbw hR hLL
        go_wp2_with fail
        go_loopw [18, 19, 20, 21] (fun vb vc vi _ wr => ∃ (i : Nat) (cc bo : Int) (L : List Int), i ≤ n ∧ vi = .int .i64 i ∧ vc = .int .u64 cc ∧ vb = .int .u64 bo ∧ 0 ≤ cc ∧ cc < 4294967296 ∧ 0 ≤ bo ∧ bo ≤ 1 ∧ Buf wr gu L ∧ RowL wr w4.heap.size ql ∧ Hid (L.length = la + 1 ∧ Lim L ∧ mv L = R - gg * (PB j * mv ((canN V).take i)) + PB (j + i) * (cc + bo) ∧ L.drop (j + i) = ul.drop (j + i)) ∧ Below w2.heap.size w4 wr) (fun _ _ vi _ _ => (n - (intOf vi).toNat))
        case atStart => exact ⟨0, 0, 0, ul, by omega, rfl, rfl, rfl, by omega, by omega, by omega, by omega, HBF0.out, HRW0.out, hQ0 ⟨HO.out.1, HO.out.2.2.1, by rw [HRR.out]; simp [mv], rfl⟩, HBL0.out⟩
        case round =>
         obtain ⟨i, cc, bo, L, hi, rfl, rfl, rfl, c0, c1, bo0, bo1, hbf, hrw, HM, hbl⟩ := hrel
         have HBF := hQ0 hbf
         have HRW := hQ0 hrw
         have HBLW := hQ0 hbl
         have hgul := hbf.1
         have hguf := hbf.2.2
         have s0 : (0 : Int) ≤ (i : Int) := by omega
         clear hrw hbl hbf
         by_cases hin : i < n
         · as_aux_lemma =>
           obtain ⟨x, hx⟩ : ∃ x, (canN V)[i]? = some x := ⟨(canN V)[i]'(by have := HVL.out; have := HNM.out; omega), by simp⟩
           obtain ⟨x0, x1⟩ := (canN_lim V).get hx
           obtain ⟨gv', ov', he, hgv', cx⟩ := (HOV.out.lat.below (HB24.out.trans HBLW.out)) i x hx
           simp only [Option.some.injEq, Addr.mk.injEq] at he
           obtain ⟨rfl, rfl, _⟩ := he
           have hji : j + i < la + 1 := by omega
           obtain ⟨z, hz⟩ : ∃ z, L[j + i]? = some z := ⟨L[j + i]'(by have := HM.out.1; omega), by simp⟩
           obtain ⟨z0, z1⟩ := HM.out.2.1.get hz
           have cz := HBF.out.2.1 _ _ hz
           have hcom : i + j = j + i := Nat.add_comm _ _
           rw [← hcom] at cz
           have s1 : (i : Int) < (n : Int) := by omega
           have s2 : (0 : Int) ≤ (i : Int) + (j : Int) := by omega
           have s3 : (i : Int) + (j : Int) < (la : Int) + 1 := by omega
           have s4 : (i : Int) ≤ 200000 := by omega
           obtain ⟨pr0, pr1⟩ := mul_lim g0 g1 x0 x1
           obtain ⟨PR, hPR⟩ : ∃ PR, PR = gg * x := ⟨_, rfl⟩
           rw [← hPR] at pr0 pr1
           have hPR' := hPR.symm
           obtain ⟨S, hS⟩ : ∃ S, S = cc + PR := ⟨_, rfl⟩
           have S0 : 0 ≤ S := by omega
           have S1 : S < 18446744073709551616 := by omega
           have hS' := hS.symm
           obtain ⟨M, hM⟩ : ∃ M, M = S % 4294967296 := ⟨_, rfl⟩
           have hand : bits .and .u64 S 4294967295 = M := by rw [hM]; exact bits_mask .u64 64 (by decide) wraps_u64' 32 (by decide) S S0 (by omega)
           have M0 : 0 ≤ M := by omega
           have M1 : M < 4294967296 := by omega
           obtain ⟨I, hI⟩ : ∃ I, I = IntKind.u64.wrap (z - M) := ⟨_, rfl⟩
           obtain ⟨D, hD⟩ : ∃ D, D = IntKind.u64.wrap (I - bo) := ⟨_, rfl⟩
           obtain ⟨d1, d2, d3, d4, d5⟩ := word_sub z0 z1 M0 M1 bo0 bo1 hI hD
           have HST := hQ0 (msub_step HM.out.2.2.1 hz hx (s := S) (d := D) (by rw [hS, hPR]) (by rw [hM] at d1; exact d1))
           have HZ := hQ0 hz
           have HX := hQ0 hx
           have HCM := hQ0 hcom
           replace hI := hI.symm
           replace hD := hD.symm
           clear hz hx hPR hS hM d1 hcom
           go_wp2_with fail
           clear hI hD hand hPR' hS' cx cz
           go_roundw
           case rel =>
            have hset : Buf (wr.setCell ⟨gu, i + j, none⟩ (.int .u32 (D % 4294967296))) gu (L.set (j + i) (D % 4294967296)) := by rw [HCM.out]; exact HBF.out.set HZ.out _
            exact ⟨i + 1, S / 4294967296, D / 9223372036854775808, L.set (j + i) (D % 4294967296), by omega, by go_num, rfl, rfl, by omega, by omega, d4, d5, hset, HRW.out.far (Ne.symm hgne) _, hQ0 ⟨by rw [List.length_set]; exact HM.out.1, HM.out.2.1.set _ (by omega) (by omega), HST.out, drop_set_same _ HM.out.2.2.2⟩, HBLW.out.setCell (by have := HGU.out; simp; omega) _⟩
           case measure => simp [intOf]; omega
         · as_aux_lemma =>
           obtain rfl : i = n := by omega
           have hM3 := HM.out.2.2.1
           rw [List.take_of_length_le (by have := HVL.out; have := HNM.out; omega), mv_canN] at hM3
           have hgd := guess_done HGG.out.1 p0 wl0 wl1 wu0 f0 (show 1 ≤ top by omega) g1 HGG.out.2
           have hVV := HVE.out.1
           have hUU := HVE.out.2
           obtain ⟨U, hU⟩ : ∃ U, U = mv (ul.drop j) := ⟨_, rfl⟩
           rw [← hU] at hUU
           rw [← hVV, ← hUU] at hgd
           have hzz : L[j + i]? = some u2 := by rw [get_of_drop HM.out.2.2.2]; exact HE.out.2.2.1
           have hRl : R = lo + PB j * U := by rw [HRR.out, hU]; exact HLO.out.1
           have hupL : mv (L.drop (j + i + 1)) = 0 := by
            rw [mv_drop_of HM.out.2.2.2 (by omega), show j + i + 1 = j + m + 3 by have := HNM.out; omega]
            exact HUP.out
           have htop := msub_top (d := 0) HM.out.2.1 (canN_lim V) (show (canN V).length = i by have := HVL.out; have := HNM.out; omega) (mv_canN V).symm hM3 hzz hupL hRl HLO.out.2.1 HLO.out.2.2 hgd.1 hgd.2
           have hcz := HBF.out.2.1 _ _ hzz
           have s2 : (0 : Int) ≤ (j : Int) + (i : Int) := by omega
           have s3 : (j : Int) + (i : Int) < (la : Int) + 1 := by omega
           have s4 : (i : Int) ≤ 200000 := by omega
           have HZZ := hQ0 hzz
           have HM3 := hQ0 hM3
           have HRL := hQ0 hRl
           have HGD := hQ0 hgd
           have HUPL := hQ0 hupL
           have hqj : ql[j]? = some 0 := HO.out.2.2.2.2.2.2 j (by omega)
           have HQJ := hQ0 hqj
           have hql := HO.out.2.1
           have HQX := hQ0 HO.out.2.2.2.2.2.1
           have HQZ := hQ0 HO.out.2.2.2.2.2.2
           have HQL := hQ0 HO.out.2.2.2.1
           have hcq := HRW.out.cell hqj
           have hfq := HRW.out.frozen
           have hgne' := Ne.symm hgne
           have lq := HRW.out.lt
           have hgt0 : 1 ≤ gg ∨ 0 ≤ U - gg * V := by
            rcases Int.lt_or_le gg 1 with g | g
            · right
              obtain rfl : gg = 0 := by omega
              have := mv_nonneg (HO.out.2.2.1.drop j)
              rw [Int.zero_mul]; omega
            · exact .inl g
           clear hM3 hgd hVV hUU hU hzz hRl hupL hqj
           rcases htop with ⟨tz, tU⟩ | ⟨tz, tU⟩
           · as_aux_lemma =>
             obtain ⟨I, hI⟩ : ∃ I, I = IntKind.u64.wrap (u2 - cc) := ⟨_, rfl⟩
             have hI2 : IntKind.u64.wrap (I - bo) = 0 := by rw [hI, IntKind.wrap_u64, IntKind.wrap_u64]; omega
             have hI' := hI.symm
             have HTZ := hQ0 (top_zero HM3.out HZZ.out HRL.out HLO.out.2.2 HGD.out.2 tz)
             clear hI tz tU hgt0
             go_wp2_with fail
             go_roundg j
             case measure => omega
             case rel =>
              exact ⟨j, L.set (j + i) 0, ql.set j gg, rfl, by omega, rfl, (HBF.out.set HZZ.out 0).far hgne _, (HRW.out.far hgne' _).set j gg, hQ0 ⟨by rw [List.length_set]; exact HM.out.1, by rw [List.length_set]; exact hql, HM.out.2.1.set _ (by omega) (by omega), HQL.out.set _ g0 g1, HTZ.out.2, quot_step HQX.out HQJ.out (by rw [← HRR.out]; exact HTZ.out.1), fun k hk => by rw [List.getElem?_set_ne (by omega)]; exact HQZ.out k (by omega)⟩, (HBLW.out.setCell (by have := HGU.out; simp; omega) _).setCell (by have := HB24.out.size; simp; omega) _⟩
           · as_aux_lemma =>
             have gg1 : 1 ≤ gg := by omega
             obtain ⟨I, hI⟩ : ∃ I, I = IntKind.u64.wrap (u2 - cc) := ⟨_, rfl⟩
             obtain ⟨D9, hD9⟩ : ∃ D9, D9 = IntKind.u64.wrap (I - bo) := ⟨_, rfl⟩
             have hD9' : D9 = 18446744073709551615 := by rw [hD9, hI, IntKind.wrap_u64, IntKind.wrap_u64]; omega
             have hD1 : D9 % 4294967296 = 4294967295 := by omega
             have hD2 : D9 / 9223372036854775808 = 1 := by omega
             have D90 : 0 ≤ D9 := by omega
             have D91 : D9 < 18446744073709551616 := by omega
             have hI2 := hD9.symm
             clear hD9 hD9'
             have hI' := hI.symm
             have HTN := hQ0 (top_neg HM3.out HZZ.out tz)
             have HBL2 := hQ0 (back_lim HRL.out HLO.out.2.1 HLO.out.2.2 HGD.out.1 tU)
             obtain ⟨wy, rfl⟩ : ∃ wy : World, wy = wr := ⟨_, rfl⟩
             obtain ⟨L1, hL1⟩ : ∃ L1, L1 = L.set (j + i) 4294967295 := ⟨_, rfl⟩
             have HL1 := hQ0 hL1
             have hb1 : Buf (wy.setCell ⟨gu, j + i, none⟩ (.int .u32 4294967295)) gu L1 := by rw [hL1]; exact HBF.out.set HZZ.out _
             have HBF1 := hQ0 hb1
             have HRW1 := hQ0 (HRW.out.far (x := .int .u32 4294967295) (p := ⟨gu, j + i, none⟩) hgne')
             have HLM1 := hQ0 (show L1.length = la + 1 ∧ Lim L1 by rw [hL1]; exact ⟨by rw [List.length_set]; exact HM.out.1, HM.out.2.1.set _ (by omega) (by omega)⟩)
             have HBE1 := hQ0 (HBLW.out.setCell (p := ⟨gu, j + i, none⟩) (by have := HGU.out; simp; omega) (.int .u32 4294967295))
             clear hI tz tU hgt0 hL1 hb1
             go_wp2_with fail
             clear hI2 hI' hcz hcq hD1 hD2 D90 D91
             go_loopw [23, 24] (fun vc vi wr => ∃ (t : Nat) (ca : Int) (M : List Int), t ≤ i ∧ vi = .int .i64 t ∧ vc = .int .u64 ca ∧ 0 ≤ ca ∧ ca ≤ 1 ∧ Buf wr gu M ∧ RowL wr w4.heap.size ql ∧ Hid (M.length = la + 1 ∧ Lim M ∧ mv M + PB (j + t) * ca = mv L1 + PB j * mv ((canN V).take t) ∧ M.drop (j + t) = L1.drop (j + t)) ∧ Below w2.heap.size w4 wr) (fun _ vi _ => (i - (intOf vi).toNat))
             case atStart => exact ⟨0, 0, L1, by omega, rfl, rfl, by omega, by omega, HBF1.out, HRW1.out, hQ0 ⟨HLM1.out.1, HLM1.out.2, by simp [mv], rfl⟩, HBE1.out⟩
             case round =>
              obtain ⟨t, ca, M, ht, rfl, rfl, ca0, ca1, hbf2, hrw2, HMM, hbl2⟩ := hrel
              have HBF2 := hQ0 hbf2
              have HRW2 := hQ0 hrw2
              have HBL3 := hQ0 hbl2
              have hgul2 := hbf2.1
              have hguf2 := hbf2.2.2
              have s5 : (0 : Int) ≤ (t : Int) := by omega
              have hz_wr := hbl2.size
              clear hbf2 hrw2 hbl2
              by_cases hti : t < i
              · as_aux_lemma =>
                obtain ⟨x, hx⟩ : ∃ x, (canN V)[t]? = some x := ⟨(canN V)[t]'(by have := HVL.out; have := HNM.out; omega), by simp⟩
                obtain ⟨x0, x1⟩ := (canN_lim V).get hx
                obtain ⟨gv', ov', he, hgv', cx⟩ := (HOV.out.lat.below (HB24.out.trans HBL3.out)) t x hx
                simp only [Option.some.injEq, Addr.mk.injEq] at he
                obtain ⟨rfl, rfl, _⟩ := he
                obtain ⟨z, hz⟩ : ∃ z, M[j + t]? = some z := ⟨M[j + t]'(by have := HMM.out.1; omega), by simp⟩
                obtain ⟨z0, z1⟩ := HMM.out.2.1.get hz
                have cz := HBF2.out.2.1 _ _ hz
                have hcom : t + j = j + t := Nat.add_comm _ _
                rw [← hcom] at cz
                have s6 : (t : Int) < (i : Int) := by omega
                have s7 : (0 : Int) ≤ (t : Int) + (j : Int) := by omega
                have s8 : (t : Int) + (j : Int) < (la : Int) + 1 := by omega
                have s9 : (t : Int) ≤ 200000 := by omega
                obtain ⟨S2, hS2⟩ : ∃ S2, S2 = ca + (z + x) := ⟨_, rfl⟩
                have S20 : 0 ≤ S2 := by omega
                have S21 : S2 < 8589934592 := by omega
                have q3 : 0 ≤ z + x := by omega
                have q4 : z + x < 18446744073709551616 := by omega
                have HST := hQ0 (addb_step HMM.out.2.2.1 hz hx hS2)
                have hS2' := hS2.symm
                have HZ := hQ0 hz
                have HCM := hQ0 hcom
                clear hz hx hS2 hcom
                go_wp2_with fail
                refine wp_region_warm (Own wr.heap.size wr) (by kernel_rfl) (by kernel_rfl) (Own.refl (Nat.le_refl _)).drew ?_
                repeat (first | (refine wpWarm_step_off rfl (fun K hK => ?_); (go_simp; refine hK _ ?_; clear hK K)) | (apply wpWarm_step rfl; (focus (intro W' hS; have hcS := hS.cells; go_simp; (first | done | exact rfl | exact ⟨rfl, hS⟩ | (go_simp; exact rfl)))); (intro K hK; go_simp; (try go_bits); refine hK _ ?_; clear hK K)) | (apply wpWarm_step_on rfl; (focus (intro W' hS; have hcS := hS.cells; go_simp; (first | done | exact rfl | exact ⟨rfl, hS⟩ | (go_simp; exact rfl)))); (intro K hK; go_simp; (try go_bits); refine hK _ ?_; clear hK K)))
                refine wpWarm_nil ?_
                intro w7 hO7
                have HBF7 := hQ0 (HBF2.out.below hO7.2)
                have HRW7 := hQ0 (HRW2.out.below hO7.2)
                have HBL7 := hQ0 (HBL3.out.trans (hO7.2.mono (by have := HB24.out.size; omega)))
                have cz7 := HBF7.out.2.1 _ _ HZ.out
                rw [← HCM.out] at cz7
                have hf7 := HBF7.out.2.2
                have hl7 := HBF7.out.1
                clear hO7 cx cz hS2'
                go_wp2_with fail
                go_roundw
                case rel =>
                 have hset : Buf (w7.setCell ⟨gu, t + j, none⟩ (.int .u32 (S2 % 4294967296))) gu (M.set (j + t) (S2 % 4294967296)) := by rw [HCM.out]; exact HBF7.out.set HZ.out _
                 exact ⟨t + 1, S2 / 4294967296, M.set (j + t) (S2 % 4294967296), by omega, by go_num, rfl, by omega, by omega, hset, HRW7.out.far hgne' _, hQ0 ⟨by rw [List.length_set]; exact HMM.out.1, HMM.out.2.1.set _ (by omega) (by omega), HST.out, drop_set_same _ HMM.out.2.2.2⟩, HBL7.out.setCell (by have := HGU.out; simp; omega) _⟩
                case measure => simp [intOf]; omega
              · as_aux_lemma =>
                obtain rfl : t = i := by omega
                have hz9 : M[j + t]? = some 4294967295 := by
                 rw [get_of_drop HMM.out.2.2.2, HL1.out, List.getElem?_set_self (by have := (List.getElem?_eq_some_iff.1 HZZ.out).1; exact this)]
                have hup9 : mv (M.drop (j + t + 1)) = 0 := by
                 rw [mv_drop_of HMM.out.2.2.2 (by omega), HL1.out, drop_set_same _ (rfl : L.drop (j + t) = L.drop (j + t))]
                 exact HUPL.out
                have hm9 := HMM.out.2.2.1
                rw [List.take_of_length_le (by have := HVL.out; have := HNM.out; omega), mv_canN, HL1.out, HTN.out] at hm9
                obtain ⟨hc9, hs9⟩ := addb_done (R := 0) HMM.out.2.1 (canN_lim V) (show (canN V).length = t by have := HVL.out; have := HNM.out; omega) (mv_canN V).symm hz9 hup9 hm9 ca0 ca1 HBL2.out.1
                subst hc9
                have HS9 := hQ0 hs9
                have HZ9 := hQ0 hz9
                have hcz9 := HBF2.out.2.1 _ _ hz9
                have hcq9 := HRW2.out.cell HQJ.out
                have hfq9 := HRW2.out.frozen
                have lq9 := HRW2.out.lt
                clear hz9 hup9 hm9 hs9
                go_wp2_with fail
                go_roundg j
                case measure => omega
                case rel =>
                 exact ⟨j, M.set (j + t) 0, ql.set j (gg - 1), rfl, by omega, rfl, (HBF2.out.set HZ9.out 0).far hgne _, (HRW2.out.far hgne' _).set j (gg - 1), hQ0 ⟨by rw [List.length_set]; exact HMM.out.1, by rw [List.length_set]; exact hql, HMM.out.2.1.set _ (by omega) (by omega), HQL.out.set _ (by omega) (by omega), by rw [HS9.out]; exact HBL2.out.2, quot_step HQX.out HQJ.out (by rw [← HRR.out]; exact HS9.out), fun k hk => by rw [List.getElem?_set_ne (by omega)]; exact HQZ.out k (by omega)⟩, (HBL3.out.setCell (by have := HGU.out; simp; omega) _).setCell (by have := HB24.out.size; simp; omega) _⟩
def LimOut (z : Int) (w : World) (e : Ending) (w' : World) : Prop := Below w.heap.size w w' ∧ ∃ A c, e = .returned (.tuple #[.bool (decide (z < 0)), .slice A (canN z.natAbs).length c]) ∧ (canN z.natAbs).length ≤ c ∧ LAt w' A (canN z.natAbs)
theorem limOut_mk {z : Int} {w w' : World} {A : Option Addr} {c k : Nat} {b : Bool} {l : List Int} (hb : Below w.heap.size w w') (hA : LAt w' A l) (hk : k ≤ l.length) (hc : l.length ≤ c)
  (e : l.take k = canN z.natAbs) (hbv : b = decide (z < 0)) : LimOut z w (.returned (.tuple #[.bool b, .slice A k c])) w' := by
 have hl : (canN z.natAbs).length = k := by rw [← e, List.length_take]; omega
 refine ⟨hb, A, c, by rw [hl, hbv], by omega, ?_⟩
 rw [← e]; exact hA.take k
theorem neg_some {l : List Int} {k : Nat} (hL : Lim l) (neg : Bool) (e : l.take k = canN (mv l).toNat) (hk : k ≤ l.length) : (sv neg (mv l)).natAbs = (mv l).toNat ∧ (neg && decide (0 < k)) = decide (sv neg (mv l) < 0) := by
 have hl : (canN (mv l).toNat).length = k := by rw [← e, List.length_take]; omega
 obtain ⟨s1, s2⟩ := sv_neg_mk neg l hL
 rw [hl] at s1
 exact ⟨s2, s1⟩
set_option maxHeartbeats 2000000 in
theorem wlimbs_any (n : Nat) (v : Value) (z : Int) (w : World) (h : IsZ w v n z) (hn : n ≤ 1000000) :
  Calls Tryz.prog 89 #[v] w (LimOut z w) := by
 obtain ⟨neg, A, c, l, rfl, hc, hL, hl, hA, hz⟩ := h
 have HL := hQ0 hL
 have HA := hQ0 hA
 have HZ := hQ0 hz
 clear hL hA hz
 go_enter Tryz.func89, Tryz.ntmps89; (try simp only [List.append_eq, List.cons_append, List.nil_append])
 go_wp2_with fail
 have HA1 := hQ0 (HA.out.alloc (.cells #[.bool neg, .slice A l.length c] 44))
 have HB1 := hQ0 (show Below w.heap.size w (w.alloc (.cells #[.bool neg, .slice A l.length c] 44)) by ((with_reducible (repeat (first | exact bR _ _ | apply bS | apply bA | apply bD | refine bT ?_ (by assumption) ?_ | refine bO (by assumption) ?_ ?_))) <;> (first | omega | (simp <;> omega))))
 go_loop [4] (fun vn => ∃ k : Nat, k ≤ l.length ∧ vn = .int .i64 k ∧ Hid (∀ j x, l[j]? = some x → k ≤ j → x = 0)) (fun vn => (intOf vn).toNat)
 case atStart => exact ⟨l.length, Nat.le_refl _, rfl, hQ0 (fun j x hx hj => by have := (List.getElem?_eq_some_iff.1 hx).1; omega)⟩
 case round =>
  obtain ⟨k, hk, rfl, HK⟩ := hrel
  have fin : Hid (∀ (hz : ∀ x, 0 < k → l[k - 1]? = some x → x ≠ 0), l.take k = canN (mv l).toNat) := hQ0 (fun hz => canN_take HL.out hk HK.out hz)
  have i4 : (l.length : Int) ≤ 1000000 := by omega
  rcases k with _ | j
  · have hfin := fin.out (fun x h _ => absurd h (by omega))
    have HF := hQ0 hfin
    clear hfin fin
    have b0 : decide ((0 : Int) < 0) = false := by decide
    cases neg
    all_goals
     go_wp2_with fail
     (refine pin_wp (N := _) (Nat.le_refl _) (fun w1 hb_w1 hz_w1 => ?_); (try simp at hz_w1); (with_reducible apply cal2 (b := w.heap.size) hb_w1); (focus (go_simp; try exact ⟨rfl, rfl⟩)); intro cc cc fz hl); refine wp_region_warm (Own w1.heap.size w1) (by kernel_rfl) (by kernel_rfl) (Own.refl (Nat.le_refl _)).drew ?_
     repeat (first | (refine wpWarm_step_off rfl (fun K hK => ?_); (go_simp; refine hK _ ?_; clear hK K)) | (apply wpWarm_step rfl; (focus (intro W' hS; have hcS := hS.cells; go_simp; (first | done | exact rfl | exact ⟨rfl, hS⟩ | (go_simp; exact rfl)))); (intro K hK; go_simp; (try go_bits); refine hK _ ?_; clear hK K)) | (apply wpWarm_step_on rfl; (focus (intro W' hS; have hcS := hS.cells; go_simp; (first | done | exact rfl | exact ⟨rfl, hS⟩ | (go_simp; exact rfl)))); (intro K hK; go_simp; (try go_bits); refine hK _ ?_; clear hK K)))
     (refine wpWarm_nil ?_; intro w2 hO; have hz_w2 := hO.1; have hb_w2 := hO.2; clear hO; (with_reducible apply cel2 (b := w.heap.size) hb_w2); ((try simp) <;> omega); omega; (iterate 2 (focus (go_simp; try exact rfl))); (intro o; go_simp); intro cc cc fz hl)
     go_wp2_with fail
     go_ret2
     rw [HZ.out]
     exact limOut_mk (HB1.out.trans ((hb_w1.trans (hb_w2.mono (by simp <;> omega))).mono (by simp))) (HA1.out.below (hb_w1.trans (hb_w2.mono (by simp <;> omega)))) (Nat.zero_le _) hc (by rw [(neg_some HL.out _ HF.out (Nat.zero_le _)).1]; exact HF.out) (by rw [← (neg_some HL.out _ HF.out (Nat.zero_le _)).2]; simp)
  · obtain ⟨x, hx⟩ : ∃ x, l[j]? = some x := ⟨l[j], by simp⟩
    obtain ⟨g, o, rfl, hg, hcell⟩ := HA1.out j x hx
    have HX := hQ0 hx
    have i1 : (0 : Int) ≤ (j : Int) := by omega
    have i2 : (j : Int) < (l.length : Int) := by omega
    have i3 : (0 : Int) < (j : Int) + 1 := by omega
    clear hx
    by_cases h0 : x = 0
    · subst h0
      clear fin
      go_wp2_with fail
      go_round
      case rel =>
       refine ⟨j, by omega, rfl, hQ0 (fun i y hy hj => ?_)⟩
       rcases Nat.lt_or_ge i (j + 1) with h | h
       · obtain rfl : i = j := by omega
         have := HX.out
         rw [hy] at this
         exact Option.some.inj this
       · exact HK.out i y hy h
      case measure => simp [intOf]
    · have hne : (x == 0) = false := by simp [h0]
      have hfin := fin.out (fun y _ hy => by
       rw [Nat.add_sub_cancel, HX.out] at hy
       rw [← Option.some.inj hy]; exact h0)
      have HF := hQ0 hfin
      have i6 : (0 : Int) ≤ (j : Int) + 1 := by omega
      have i7 : (j : Int) + 1 ≤ (c : Int) := by omega
      clear hfin fin h0
      cases neg
      all_goals
       go_wp2_with fail
       (refine pin_wp (N := _) (Nat.le_refl _) (fun w1 hb_w1 hz_w1 => ?_); (try simp at hz_w1); (with_reducible apply cal2 (b := w.heap.size) hb_w1); (focus (go_simp; try exact ⟨rfl, rfl⟩)); intro cc cc fz hl); refine wp_region_warm (Own w1.heap.size w1) (by kernel_rfl) (by kernel_rfl) (Own.refl (Nat.le_refl _)).drew ?_
       repeat (first | (refine wpWarm_step_off rfl (fun K hK => ?_); (go_simp; refine hK _ ?_; clear hK K)) | (apply wpWarm_step rfl; (focus (intro W' hS; have hcS := hS.cells; go_simp; (first | done | exact rfl | exact ⟨rfl, hS⟩ | (go_simp; exact rfl)))); (intro K hK; go_simp; (try go_bits); refine hK _ ?_; clear hK K)) | (apply wpWarm_step_on rfl; (focus (intro W' hS; have hcS := hS.cells; go_simp; (first | done | exact rfl | exact ⟨rfl, hS⟩ | (go_simp; exact rfl)))); (intro K hK; go_simp; (try go_bits); refine hK _ ?_; clear hK K)))
       (refine wpWarm_nil ?_; intro w2 hO; have hz_w2 := hO.1; have hb_w2 := hO.2; clear hO; (with_reducible apply cel2 (b := w.heap.size) hb_w2); ((try simp) <;> omega); omega; (iterate 2 (focus (go_simp; try exact rfl))); (intro o; go_simp); intro cc cc fz hl)
       go_wp2_with fail
       go_ret2
       rw [HZ.out]
       exact limOut_mk (HB1.out.trans ((hb_w1.trans (hb_w2.mono (by simp <;> omega))).mono (by simp))) (HA1.out.below (hb_w1.trans (hb_w2.mono (by simp <;> omega)))) hk hc (by rw [(neg_some HL.out _ HF.out hk).1]; exact HF.out) (by rw [← (neg_some HL.out _ HF.out hk).2]; simp)
theorem made_mk {neg : Bool} {l : List Int} {k : Nat} {w' : World} {A : Option Addr} {c : Nat} (hL : Lim l) (hA : LAt w' A l) (hk : k ≤ l.length) (h0 : 0 < k) (hc : k ≤ c) (e : l.take k = canN (mv l).toNat) :
  IsC w' (.agg #[.bool neg, .slice A k c]) (sv neg (mv l)) := by
 have hl : (canN (mv l).toNat).length = k := by rw [← e, List.length_take]; omega
 obtain ⟨s1, s2⟩ := sv_neg_mk neg l hL
 rw [hl, decide_eq_true h0, Bool.and_true] at s1
 rw [← s2] at hl e
 exact ⟨A, c, by rw [hl, ← s1], by omega, by rw [← e]; exact hA.take k⟩
theorem made_zero {neg : Bool} {l : List Int} (hL : Lim l) (w' : World) (e : l.take 0 = canN (mv l).toNat) : IsC w' (.agg #[.bool false, .slice none 0 0]) (sv neg (mv l)) := by
 rw [List.take_zero] at e
 have h1 := (@canN_len0 (mv l).toNat).1 (by rw [← e]; rfl)
 have h2 := mv_nonneg hL
 have e0 : sv neg (mv l) = 0 := by rw [show mv l = 0 by omega]; cases neg <;> rfl
 have e1 : canN (0 : Int).natAbs = [] := canN_zero
 rw [e0]
 exact ⟨none, 0, by rw [e1]; rfl, by rw [e1]; exact Nat.le_refl _, by rw [e1]; exact LAt.nil _ _⟩
set_option maxHeartbeats 2000000 in
theorem wmade_any (neg : Bool) (A : Option Addr) (l : List Int) (c : Nat) (w : World) (hL : Lim l) (hA : LAt w A l) (hc : l.length ≤ c) (hn : l.length ≤ 1000000) :
  Calls Tryz.prog 91 #[.bool neg, .slice A l.length c] w (ZOut (sv neg (mv l)) w) := by
 have HL := hQ0 hL
 have HA := hQ0 hA
 obtain ⟨Z, hZ⟩ : ∃ Z, Z = sv neg (mv l) := ⟨_, rfl⟩
 rw [← hZ]
 have HZ := hQ0 hZ
 clear hL hA hZ
 go_enter Tryz.func91, Tryz.ntmps91; (try simp only [List.append_eq, List.cons_append, List.nil_append])
 go_wp2_with fail
 have HA1 := hQ0 (HA.out.alloc (.cells #[.bool false, .slice none 0 0] 44))
 go_loop [5] (fun vn => ∃ k : Nat, k ≤ l.length ∧ vn = .int .i64 k ∧ Hid (∀ j x, l[j]? = some x → k ≤ j → x = 0)) (fun vn => (intOf vn).toNat)
 case atStart => exact ⟨l.length, Nat.le_refl _, rfl, hQ0 (fun j x hx hj => by have := (List.getElem?_eq_some_iff.1 hx).1; omega)⟩
 case round =>
  obtain ⟨k, hk, rfl, HK⟩ := hrel
  have fin : Hid (∀ (hz : ∀ x, 0 < k → l[k - 1]? = some x → x ≠ 0), l.take k = canN (mv l).toNat) := hQ0 (fun hz => canN_take HL.out hk HK.out hz)
  have i4 : (l.length : Int) ≤ 1000000 := by omega
  have i5 : (l.length : Int) ≤ (c : Int) := by omega
  rcases k with _ | j
  · have hfin := fin.out (fun x h _ => absurd h (by omega))
    have HF := hQ0 hfin
    clear hfin fin
    go_wp2_with fail
    refine bodyPost_ret (v := .agg #[.bool false, .slice none 0 0]) (by simp only [results, Tryz.results91]; go_simp) rfl ⟨?_, ?_⟩
    · ((with_reducible (repeat (first | exact bR _ _ | apply bS | apply bA | apply bD | refine bT ?_ (by assumption) ?_ | refine bO (by assumption) ?_ ?_))) <;> (first | omega | (simp <;> omega)))
    · rw [HZ.out]
      exact ⟨_, rfl, made_zero HL.out _ HF.out⟩
  · obtain ⟨x, hx⟩ : ∃ x, l[j]? = some x := ⟨l[j], by simp⟩
    obtain ⟨g, o, rfl, hg, hcell⟩ := HA1.out j x hx
    have HX := hQ0 hx
    have i1 : (0 : Int) ≤ (j : Int) := by omega
    have i2 : (j : Int) < (l.length : Int) := by omega
    have i3 : (0 : Int) < (j : Int) + 1 := by omega
    clear hx
    by_cases h0 : x = 0
    · subst h0
      clear fin
      go_wp2_with fail
      go_round
      case rel =>
       refine ⟨j, by omega, rfl, hQ0 (fun i y hy hj => ?_)⟩
       rcases Nat.lt_or_ge i (j + 1) with h | h
       · obtain rfl : i = j := by omega
         have := HX.out
         rw [hy] at this
         exact Option.some.inj this
       · exact HK.out i y hy h
      case measure => simp [intOf]
    · have hne : (x == 0) = false := by simp [h0]
      have hfin := fin.out (fun y _ hy => by
       rw [Nat.add_sub_cancel, HX.out] at hy
       rw [← Option.some.inj hy]; exact h0)
      have HF := hQ0 hfin
      have b0 : (((j : Int) + 1) == 0) = false := by rw [beq_eq_false_iff_ne]; omega
      clear hfin fin h0
      go_wp2_with fail
      refine bodyPost_ret (v := .agg #[.bool neg, .slice (some ⟨g, o, none⟩) (j + 1) (j + 1)]) (by simp only [results, Tryz.results91]; go_simp) rfl ⟨?_, ?_⟩
      · ((with_reducible (repeat (first | exact bR _ _ | apply bS | apply bA | apply bD | refine bT ?_ (by assumption) ?_ | refine bO (by assumption) ?_ ?_))) <;> (first | omega | (simp <;> omega)))
      · rw [HZ.out]
        exact ⟨_, rfl, made_mk HL.out (HA.out.alloc _) hk (by omega) (Nat.le_refl _) HF.out⟩
theorem wmade_two (neg : Bool) (b : Nat) (x y z : Int) (w : World) (hb : b < w.heap.size) (h0 : w.cell? ⟨b, 0, none⟩ = some (.int .u32 x)) (h1 : w.cell? ⟨b, 1, none⟩ = some (.int .u32 y))
  (x0 : 0 ≤ x) (x1 : x < 4294967296) (y0 : 0 ≤ y) (y1 : y < 4294967296) (hz : z = sv neg (x + 4294967296 * y)) :
  Calls Tryz.prog 91 #[.bool neg, .slice (some ⟨b, 0, none⟩) 2 2] w (ZOut z w) := by
 have := wmade_any neg (some ⟨b, 0, none⟩) [x, y] 2 w (Lim.cons x0 x1 (Lim.cons y0 y1 Lim.nil)) (lat_two hb h0 h1) (by simp) (by simp)
 rw [mv_two, ← hz] at this
 exact this
set_option maxHeartbeats 1000000 in
theorem wof_any (n : Int) (w : World) (h1 : -9223372036854775808 ≤ n) (h2 : n ≤ 9223372036854775807) :
  Calls Tryz.prog 57 #[.int .i64 n] w (ZOut n w) := by
 rcases Int.lt_or_le n 0 with h | h
 · have e1 : IntKind.u64.wrap (-IntKind.u64.wrap n) = -n := by rw [IntKind.wrap_u64, IntKind.wrap_u64]; omega
   go_enter Tryz.func57, Tryz.ntmps57; (try simp only [List.append_eq, List.cons_append, List.nil_append])
   go_wp2_with fail
   clear e1
   (go_at_call 91; refine (wmade_two _ _ (-n % 4294967296) (-n / 4294967296) n _ (by simp) (by go_simp) (by go_simp) (by omega) (by omega) (by omega) (by omega) (by unfold sv; rw [if_pos rfl]; omega)).mono ?_; rintro e w1 ⟨hb_w1, v1, rfl, hv1⟩; have hz_w1 := hb_w1.size; (try simp at hz_w1); (with_reducible apply cal2 (b := w.heap.size) hb_w1); (focus (go_simp; try exact ⟨rfl, rfl⟩)); intro cc cc fz hl)
   obtain ⟨A1, c1, rfl, hc1, hA1⟩ := hv1
   have HC := hQ0 hc1
   have HA1 := hQ0 hA1
   clear hc1 hA1
   go_wp2_with fail
   refine bodyPost_ret (v := .agg #[.bool (decide (n < 0)), .slice A1 (canN n.natAbs).length c1]) (by simp only [results, Tryz.results57]; go_simp) rfl ⟨?_, ?_⟩
   · ((with_reducible (repeat (first | exact bR _ _ | apply bS | apply bA | apply bD | refine bT ?_ (by assumption) ?_ | refine bO (by assumption) ?_ ?_))) <;> (first | omega | (simp <;> omega)))
   · exact ⟨_, rfl, A1, c1, rfl, HC.out, HA1.out.set2 (by assumption) (by assumption) _ _⟩
 · have hn : ¬ n < 0 := by omega
   go_enter Tryz.func57, Tryz.ntmps57; (try simp only [List.append_eq, List.cons_append, List.nil_append])
   go_wp2_with fail
   (go_at_call 91; refine (wmade_two _ _ (n % 4294967296) (n / 4294967296) n _ (by simp) (by go_simp) (by go_simp) (by omega) (by omega) (by omega) (by omega) (by unfold sv; rw [if_neg (by simp)]; omega)).mono ?_; rintro e w1 ⟨hb_w1, v1, rfl, hv1⟩; have hz_w1 := hb_w1.size; (try simp at hz_w1); (with_reducible apply cal2 (b := w.heap.size) hb_w1); (focus (go_simp; try exact ⟨rfl, rfl⟩)); intro cc cc fz hl)
   obtain ⟨A1, c1, rfl, hc1, hA1⟩ := hv1
   have HC := hQ0 hc1
   have HA1 := hQ0 hA1
   clear hc1 hA1
   go_wp2_with fail
   refine bodyPost_ret (v := .agg #[.bool (decide (n < 0)), .slice A1 (canN n.natAbs).length c1]) (by simp only [results, Tryz.results57]; go_simp) rfl ⟨?_, ?_⟩
   · ((with_reducible (repeat (first | exact bR _ _ | apply bS | apply bA | apply bD | refine bT ?_ (by assumption) ?_ | refine bO (by assumption) ?_ ?_))) <;> (first | omega | (simp <;> omega)))
   · exact ⟨_, rfl, A1, c1, rfl, HC.out, HA1.out.set2 (by assumption) (by assumption) _ _⟩
set_option maxHeartbeats 1000000 in
theorem wofuint_any (n : Int) (w : World) (h1 : 0 ≤ n) (h2 : n < 18446744073709551616) :
  Calls Tryz.prog 114 #[.int .u64 n] w (ZOut n w) := by
 go_enter Tryz.func114, Tryz.ntmps114; (try simp only [List.append_eq, List.cons_append, List.nil_append])
 go_wp2_with fail
 (go_at_call 91; refine (wmade_two _ _ (n % 4294967296) (n / 4294967296) n _ (by simp) (by go_simp) (by go_simp) (by omega) (by omega) (by omega) (by omega) (by unfold sv; rw [if_neg (by simp)]; omega)).mono ?_; rintro e w1 ⟨hb_w1, v1, rfl, hv1⟩; have hz_w1 := hb_w1.size; (try simp at hz_w1); (with_reducible apply cal2 (b := w.heap.size) hb_w1); (focus (go_simp; try exact ⟨rfl, rfl⟩)); intro cc cc fz hl)
 obtain ⟨A1, c1, rfl, hc1, hA1⟩ := hv1
 have HC := hQ0 hc1
 have HA1 := hQ0 hA1
 clear hc1 hA1
 go_wp2_with fail
 refine bodyPost_ret (v := .agg #[.bool (decide (n < 0)), .slice A1 (canN n.natAbs).length c1]) (by simp only [results, Tryz.results114]; go_simp) rfl ⟨?_, ?_⟩
 · ((with_reducible (repeat (first | exact bR _ _ | apply bS | apply bA | apply bD | refine bT ?_ (by assumption) ?_ | refine bO (by assumption) ?_ ?_))) <;> (first | omega | (simp <;> omega)))
 · exact ⟨_, rfl, A1, c1, rfl, HC.out, HA1.out.set2 (by assumption) (by assumption) _ _⟩
theorem sv_natAbs (z : Int) : sv (decide (z < 0)) (z.natAbs : Int) = z ∧ sv (!decide (z < 0)) (z.natAbs : Int) = -z ∧ sv false (z.natAbs : Int) = z.natAbs := by
 unfold sv
 refine ⟨?_, ?_, ?_⟩
 · split <;> rename_i h <;> simp at h <;> omega
 · split <;> rename_i h <;> simp at h <;> omega
 · simp
set_option maxHeartbeats 1000000 in
theorem wabs_any (n : Nat) (v : Value) (z : Int) (w : World) (h : IsZ w v n z) (hn : n ≤ 1000000) :
  Calls Tryz.prog 113 #[v] w (ZOut ((z.natAbs : Int)) w) := by
 have H := hQ0 h
 have hl := isZ_len h
 obtain ⟨p, A, c, l, rfl⟩ := isZ_val h
 have hm := fun A c w' (h' : LAt w' A (canN z.natAbs)) (hc : (canN z.natAbs).length ≤ c) => wmade_any (false) A (canN z.natAbs) c w' (canN_lim _) h' hc (by omega)
 rw [mv_canN, (sv_natAbs z).2.2] at hm
 have HM := hQ0 hm
 obtain ⟨Z, hZ⟩ : ∃ Z : Int, Z = (z.natAbs : Int) := ⟨_, rfl⟩
 rw [← hZ] at HM ⊢
 clear h hm hZ
 go_enter Tryz.func113, Tryz.ntmps113; (try simp only [List.append_eq, List.cons_append, List.nil_append])
 go_wp2_with fail
 (go_at_call 89; refine (wlimbs_any n _ z _ ((H.out.below (((Below.refl _ _).alloc (Nat.le_refl _) _).alloc (by simp) _))) hn).mono ?_; rintro e w1 ⟨hb_w1, A1, c1, rfl, hc1, hA1⟩; have hz_w1 := hb_w1.size; (try simp at hz_w1); (with_reducible apply cal2 (b := w.heap.size) hb_w1); (focus (go_simp; try exact ⟨rfl, rfl⟩)); intro cc cc fz hl; (with_reducible apply cal2 (b := w.heap.size + 1) hb_w1); (focus (go_simp; try exact ⟨rfl, rfl⟩)); intro cc cc fz hl)
 have HC1 := hQ0 hc1
 have HA1 := hQ0 hA1
 clear hc1 hA1
 go_wp2_with (at_builtin; go_must (refine wpList_append_limbs rfl _ _ rfl w1.heap.size (.slice none 0 0) [] rfl (OwnL.nil _ _) A1 c1 (canN z.natAbs) rfl HA1.out (by simp; omega) (Nat.le_refl _) ?_))
 intro v2 w2 hown hg2
 have hb_w2 : Below w1.heap.size w1 w2 := (Below.refl _ _).grown hg2 (Nat.le_refl _) (by simp [Value.ownBlock])
 have hz_w2 := hb_w2.size
 obtain ⟨A2, c2, rfl, hc2, _, hA2⟩ := lat_of_own hown
 have HC2 := hQ0 hc2
 have HA2 := hQ0 hA2
 clear hown hg2 hc2 hA2
 (with_reducible apply cel2 (b := w.heap.size) hb_w2); ((try simp) <;> omega); omega; (iterate 2 (focus (go_simp; try exact rfl))); (intro o; go_simp); intro cc cc fz hl; (with_reducible apply cel2 (b := w.heap.size + 1) hb_w2); ((try simp) <;> omega); omega; (iterate 2 (focus (go_simp; try exact rfl))); (intro o; go_simp); intro cc cc fz hl
 go_wp2_with fail
 (go_at_call 91; refine (HM.out A2 c2 w2 HA2.out HC2.out).mono ?_; rintro e w3 ⟨hb_w3, v3, rfl, hv3⟩; have hz_w3 := hb_w3.size; (try simp at hz_w3); (with_reducible apply cal2 (b := w.heap.size) hb_w3); (focus (go_simp; try exact ⟨rfl, rfl⟩)); intro cc cc fz hl; (with_reducible apply cal2 (b := w.heap.size + 1) hb_w3); (focus (go_simp; try exact ⟨rfl, rfl⟩)); intro cc cc fz hl)
 obtain ⟨A3, c3, rfl, hc3, hA3⟩ := hv3
 have HC3 := hQ0 hc3
 have HA3 := hQ0 hA3
 clear hc3 hA3
 go_wp2_with fail
 refine bodyPost_ret (v := .agg #[.bool (decide (Z < 0)), .slice A3 (canN Z.natAbs).length c3]) (by simp only [results, Tryz.results113]; go_simp) rfl ⟨?_, ?_⟩
 · ((with_reducible (repeat (first | exact bR _ _ | apply bS | apply bA | apply bD | refine bT ?_ (by assumption) ?_ | refine bO (by assumption) ?_ ?_))) <;> (first | omega | (simp <;> omega)))
 · exact ⟨_, rfl, A3, c3, rfl, HC3.out, HA3.out.set2 (by assumption) (by assumption) _ _⟩
set_option maxHeartbeats 1000000 in
theorem wsize_any (n : Nat) (v : Value) (z : Int) (w : World) (h : IsZ w v n z) (hn : n ≤ 1000000) :
  Calls Tryz.prog 93 #[v] w fun e w' => e = .returned (.int .i64 (canN z.natAbs).length) ∧ Below w.heap.size w w' := by
 have H := hQ0 h
 have hl := isZ_len h
 obtain ⟨p, A, c, l, rfl⟩ := isZ_val h
 clear h
 go_enter Tryz.func93, Tryz.ntmps93; (try simp only [List.append_eq, List.cons_append, List.nil_append])
 go_wp2_with fail
 (go_at_call 89; refine (wlimbs_any n _ z _ (H.out.below ((Below.refl _ _).alloc (Nat.le_refl _) _)) hn).mono ?_; rintro e w1 ⟨hb_w1, A1, c1, rfl, hc1, hA1⟩; have hz_w1 := hb_w1.size; (try simp at hz_w1); (with_reducible apply cal2 (b := w.heap.size) hb_w1); (focus (go_simp; try exact ⟨rfl, rfl⟩)); intro cc cc fz hl)
 clear hc1 hA1
 go_wp2_with fail
 go_ret
 exact ⟨rfl, by ((with_reducible (repeat (first | exact bR _ _ | apply bS | apply bA | apply bD | refine bT ?_ (by assumption) ?_ | refine bO (by assumption) ?_ ?_))) <;> (first | omega | (simp <;> omega)))⟩
set_option maxHeartbeats 1000000 in
theorem wsign_any (n : Nat) (v : Value) (z : Int) (w : World) (h : IsZ w v n z) (hn : n ≤ 1000000) :
  Calls Tryz.prog 92 #[v] w fun e w' => e = .returned (.int .i64 (sgn z)) ∧ Below w.heap.size w w' := by
 have H := hQ0 h
 have hl := isZ_len h
 obtain ⟨p, A, c, l, rfl⟩ := isZ_val h
 clear h
 have h00 := @canN_len0 z.natAbs
 have hm := fun w' (h' : Below w.heap.size w w') => wlimbs_any n _ z w' (H.out.below h') hn
 have hs : (sgn z = 0 ∧ (canN z.natAbs).length = 0) ∨ (sgn z = -1 ∧ (canN z.natAbs).length ≠ 0 ∧ z < 0) ∨ (sgn z = 1 ∧ (canN z.natAbs).length ≠ 0 ∧ ¬ z < 0) := by
  unfold sgn
  by_cases h0 : z = 0
  · subst h0; exact .inl ⟨rfl, h00.2 rfl⟩
  · have h1 : (canN z.natAbs).length ≠ 0 := fun e => h0 (by have := h00.1 e; omega)
    rw [if_neg h0]
    by_cases h2 : z < 0
    · exact .inr (.inl ⟨if_pos h2, h1, h2⟩)
    · exact .inr (.inr ⟨if_neg h2, h1, h2⟩)
 obtain ⟨S, hS⟩ : ∃ S, S = sgn z := ⟨_, rfl⟩
 rw [← hS] at hs ⊢
 have HM := hQ0 hm
 clear h00 hm hS
 rcases hs with ⟨rfl, h1⟩ | ⟨rfl, h1, h2⟩ | ⟨rfl, h1, h2⟩
 · have e0 : (((canN z.natAbs).length : Int) == 0) = true := by rw [h1]; rfl
   clear h1
   go_enter Tryz.func92, Tryz.ntmps92; (try simp only [List.append_eq, List.cons_append, List.nil_append])
   go_wp2_with fail
   (go_at_call 89; refine (HM.out _ ((Below.refl _ _).alloc (Nat.le_refl _) _)).mono ?_; rintro e w1 ⟨hb_w1, A1, c1, rfl, hc1, hA1⟩; have hz_w1 := hb_w1.size; (try simp at hz_w1); (with_reducible apply cal2 (b := w.heap.size) hb_w1); (focus (go_simp; try exact ⟨rfl, rfl⟩)); intro cc cc fz hl)
   clear hc1 hA1
   go_wp2_with fail
   go_ret
   exact ⟨rfl, by ((with_reducible (repeat (first | exact bR _ _ | apply bS | apply bA | apply bD | refine bT ?_ (by assumption) ?_ | refine bO (by assumption) ?_ ?_))) <;> (first | omega | (simp <;> omega)))⟩
 all_goals
  have e0 : (((canN z.natAbs).length : Int) == 0) = false := by rw [beq_eq_false_iff_ne]; omega
  clear h1
  go_enter Tryz.func92, Tryz.ntmps92; (try simp only [List.append_eq, List.cons_append, List.nil_append])
  go_wp2_with fail
  (go_at_call 89; refine (HM.out _ ((Below.refl _ _).alloc (Nat.le_refl _) _)).mono ?_; rintro e w1 ⟨hb_w1, A1, c1, rfl, hc1, hA1⟩; have hz_w1 := hb_w1.size; (try simp at hz_w1); (with_reducible apply cal2 (b := w.heap.size) hb_w1); (focus (go_simp; try exact ⟨rfl, rfl⟩)); intro cc cc fz hl)
  clear hc1 hA1
  go_wp2_with fail
  go_ret
  exact ⟨rfl, by ((with_reducible (repeat (first | exact bR _ _ | apply bS | apply bA | apply bD | refine bT ?_ (by assumption) ?_ | refine bO (by assumption) ?_ ?_))) <;> (first | omega | (simp <;> omega)))⟩
theorem take_set_succ {l : List Int} {k : Nat} (x : Int) (h : k < l.length) : (l.set k x).take (k + 1) = l.take k ++ [x] := by
 have h1 : (l.set k x)[k]? = some x := by simp [h]
 rw [take_snocI h1, List.take_set_of_le (Nat.le_refl _)]
theorem word_sub2 {x y cc I D : Int} (x0 : 0 ≤ x) (x1 : x < 4294967296) (y0 : 0 ≤ y) (y1 : y < 4294967296) (c0 : 0 ≤ cc) (c1 : cc ≤ 1) (hI : I = IntKind.u64.wrap (x - cc)) (hD : D = IntKind.u64.wrap (I - y)) :
  D % 4294967296 - 4294967296 * (D / 9223372036854775808) = x - y - cc ∧ 0 ≤ D ∧ D < 18446744073709551616 ∧ 0 ≤ D / 9223372036854775808 ∧ D / 9223372036854775808 ≤ 1 := by
 rw [IntKind.wrap_u64] at hI hD
 omega
set_option maxRecDepth 100000 in
set_option maxHeartbeats 2000000 in
theorem waddl_le (A B : Option Addr) (a b : List Int) (c d : Nat) (w : World) (ha : Lim a) (hb : Lim b) (hn : a.length ≤ 1000000) (hn1 : b.length ≤ a.length) (hA : LAt w A a) (hB : LAt w B b) :
  Calls Tryz.prog 110 #[.slice A a.length c, .slice B b.length d] w (MOut (a.length + 1) (mv a + mv b) w) := by
 have hmk := fun w => run_make_row' (P := Tryz.prog) 42 107 (.int .u32 0) 4 Tryz.underlying42 limbInfo rfl .i64 .i64 (a.length + 1) (by omega) (by omega) w
 obtain ⟨n, hnn⟩ : ∃ n, n = a.length + 1 := ⟨_, rfl⟩
 have e1 : ((a.length + 1 : Nat) : Int) = (a.length : Int) + 1 := by omega
 rw [e1] at hmk
 clear e1
 rw [← hnn] at hmk ⊢
 have n1 : (n : Int) = a.length + 1 := by omega
 have hle : b.length ≤ a.length := by omega
 have s0 : ¬ (a.length : Int) < (b.length : Int) := by omega
 have HN := hQ0 hnn
 have HA := hQ0 hA
 have HB := hQ0 hB
 have HLA := hQ0 ha
 have HLB := hQ0 hb
 have N1 := hQ0 n1
 clear hA hB ha hb hnn n1
 go_enter Tryz.func110, Tryz.ntmps110; (try simp only [List.append_eq, List.cons_append, List.nil_append])
 go_wp2_with fail
 clear hmk
 have hg0 : w.heap.size < w.heap.size + 1 := by omega
 go_loopw [6, 7, 8, 22] (fun vc _ _ vi wr => ∃ (k : Nat) (cc : Int) (L : List Int), k ≤ a.length ∧ vi = .int .i64 k ∧ vc = .int .u64 cc ∧ 0 ≤ cc ∧ cc ≤ 1 ∧ RowL wr w.heap.size L ∧ Hid (L.length = n ∧ Lim L ∧ mv (L.take k) + PB k * cc = mv (a.take k) + mv (b.take k)) ∧ Below w.heap.size w wr) (fun _ _ _ vi _ => (a.length - (intOf vi).toNat))
 case atStart => exact ⟨0, 0, List.replicate n 0, by omega, rfl, rfl, by omega, by omega, RowL.made w n, hQ0 ⟨by simp, Lim.replicate n, by simp [mv]⟩, (Below.refl _ _).alloc (Nat.le_refl _) _⟩
 case round =>
  obtain ⟨k, cc, L, hk, rfl, rfl, c0, c1, hrow, HO, hbel⟩ := hrel
  have i1 : (0 : Int) ≤ (k : Int) := by omega
  have i3 : (k : Int) ≤ 1000000 := by omega
  have hz := hbel.size
  have hlt := hrow.lt
  have hfz := hrow.frozen
  have HBE := hQ0 hbel
  have HR := hQ0 hrow
  have hkn : k < n := by have := HN.out; omega
  have HKL := hQ0 (show k < L.length by have := HO.out.1; omega)
  obtain ⟨z, hzz⟩ : ∃ z, L[k]? = some z := ⟨L[k]'HKL.out, by simp⟩
  have hc3 := hrow.cell hzz
  have j4 : (k : Int) < (n : Int) := by omega
  clear hbel hrow hzz
  by_cases hka : k < a.length
  · obtain ⟨x, hx⟩ : ∃ x, a[k]? = some x := ⟨a[k], by simp⟩
    obtain ⟨g, o, rfl, hg, hcg⟩ := HA.out.below HBE.out k x hx
    obtain ⟨x0, x1⟩ := HLA.out.get hx
    have Hx := hQ0 hx
    have j1 : (k : Int) < (a.length : Int) := by omega
    clear hx
    have q1 : 0 ≤ x + cc := by omega
    have q2 : x + cc < 18446744073709551616 := by omega
    by_cases hkb : k < b.length
    · obtain ⟨y, hx⟩ : ∃ x, b[k]? = some x := ⟨b[k], by simp⟩
      obtain ⟨f, p, rfl, hf, hcf⟩ := HB.out.below HBE.out k y hx
      obtain ⟨y0, y1⟩ := HLB.out.get hx
      have Hy := hQ0 hx
      have j2 : (k : Int) < (b.length : Int) := by omega
      clear hx
      have HST := hQ0 (add_step (s := x + cc + y) (by rw [List.length_take]; have := HKL.out; omega) HO.out.2.2 (getD_some Hx.out) (getD_some Hy.out) (by omega))
      have q3 : 0 ≤ x + cc + y := by omega
      have q4 : x + cc + y < 18446744073709551616 := by omega
      go_wp2_with fail
      go_roundw
      case rel => exact ⟨k + 1, (x + cc + y) / 4294967296, L.set k ((x + cc + y) % 4294967296), by omega, by go_num, rfl, by omega, by omega, HR.out.set _ _, hQ0 ⟨by rw [List.length_set]; exact HO.out.1, HO.out.2.1.set _ (by omega) (by omega), by rw [take_set_succ _ HKL.out]; exact HST.out⟩, HBE.out.setCell (Nat.le_refl _) _⟩
      case measure => simp [intOf]; omega
    · have j2 : ¬ (k : Int) < (b.length : Int) := by omega
      have HST := hQ0 (add_step (s := x + cc) (by rw [List.length_take]; have := HKL.out; omega) HO.out.2.2 (getD_some Hx.out) (getD_none (by omega)) (by omega))
      go_wp2_with fail
      go_roundw
      case rel => exact ⟨k + 1, (x + cc) / 4294967296, L.set k ((x + cc) % 4294967296), by omega, by go_num, rfl, by omega, by omega, HR.out.set _ _, hQ0 ⟨by rw [List.length_set]; exact HO.out.1, HO.out.2.1.set _ (by omega) (by omega), by rw [take_set_succ _ HKL.out]; exact HST.out⟩, HBE.out.setCell (Nat.le_refl _) _⟩
      case measure => simp [intOf]; omega
  · obtain rfl : k = a.length := by omega
    have HF := hQ0 (show mv (L.set a.length cc) = mv a + mv b by
     have h1 := HO.out.2.2
     rw [List.take_of_length_le (l := a) (Nat.le_refl _), List.take_of_length_le (l := b) (by omega)] at h1
     have h2 := take_set_succ cc HKL.out
     have h3 := HO.out.1
     rw [List.take_of_length_le (by rw [List.length_set]; have := HN.out; omega)] at h2
     rw [h2, mv_snoc, List.length_take, Nat.min_eq_left (by have := HN.out; omega)]
     exact h1)
    have HLL := HO.out.1
    have j5 : ¬ (a.length : Int) < (a.length : Int) := by omega
    subst HLL
    have e0 : cc % 4294967296 = cc := by omega
    go_wp2_with fail
    go_ret
    refine ⟨HBE.out.setCell (Nat.le_refl _) _, some ⟨w.heap.size, 0, none⟩, L.length, L.set a.length cc, by rw [List.length_set]; rfl, by rw [List.length_set]; exact Nat.le_refl _, HO.out.2.1.set _ (by omega) (by omega), by rw [List.length_set]; exact Nat.le_refl _, HF.out, (HR.out.set _ _).lat⟩
set_option maxRecDepth 100000 in
set_option maxHeartbeats 2000000 in
theorem waddl_gt (A B : Option Addr) (a b : List Int) (c d : Nat) (w : World) (ha : Lim a) (hb : Lim b) (hn : a.length ≤ 1000000) (hn1 : b.length < a.length) (hA : LAt w A a) (hB : LAt w B b) :
  Calls Tryz.prog 110 #[.slice B b.length d, .slice A a.length c] w (MOut (a.length + 1) (mv a + mv b) w) := by
 have hmk := fun w => run_make_row' (P := Tryz.prog) 42 107 (.int .u32 0) 4 Tryz.underlying42 limbInfo rfl .i64 .i64 (a.length + 1) (by omega) (by omega) w
 obtain ⟨n, hnn⟩ : ∃ n, n = a.length + 1 := ⟨_, rfl⟩
 have e1 : ((a.length + 1 : Nat) : Int) = (a.length : Int) + 1 := by omega
 rw [e1] at hmk
 clear e1
 rw [← hnn] at hmk ⊢
 have n1 : (n : Int) = a.length + 1 := by omega
 have hle : b.length ≤ a.length := by omega
 have s0 : (b.length : Int) < (a.length : Int) := by omega
 have HN := hQ0 hnn
 have HA := hQ0 hA
 have HB := hQ0 hB
 have HLA := hQ0 ha
 have HLB := hQ0 hb
 have N1 := hQ0 n1
 clear hA hB ha hb hnn n1
 go_enter Tryz.func110, Tryz.ntmps110; (try simp only [List.append_eq, List.cons_append, List.nil_append])
 go_wp2_with fail
 clear hmk
 have hg0 : w.heap.size < w.heap.size + 1 := by omega
 go_loopw [6, 7, 8, 22] (fun vc _ _ vi wr => ∃ (k : Nat) (cc : Int) (L : List Int), k ≤ a.length ∧ vi = .int .i64 k ∧ vc = .int .u64 cc ∧ 0 ≤ cc ∧ cc ≤ 1 ∧ RowL wr w.heap.size L ∧ Hid (L.length = n ∧ Lim L ∧ mv (L.take k) + PB k * cc = mv (a.take k) + mv (b.take k)) ∧ Below w.heap.size w wr) (fun _ _ _ vi _ => (a.length - (intOf vi).toNat))
 case atStart => exact ⟨0, 0, List.replicate n 0, by omega, rfl, rfl, by omega, by omega, RowL.made w n, hQ0 ⟨by simp, Lim.replicate n, by simp [mv]⟩, (Below.refl _ _).alloc (Nat.le_refl _) _⟩
 case round =>
  obtain ⟨k, cc, L, hk, rfl, rfl, c0, c1, hrow, HO, hbel⟩ := hrel
  have i1 : (0 : Int) ≤ (k : Int) := by omega
  have i3 : (k : Int) ≤ 1000000 := by omega
  have hz := hbel.size
  have hlt := hrow.lt
  have hfz := hrow.frozen
  have HBE := hQ0 hbel
  have HR := hQ0 hrow
  have hkn : k < n := by have := HN.out; omega
  have HKL := hQ0 (show k < L.length by have := HO.out.1; omega)
  obtain ⟨z, hzz⟩ : ∃ z, L[k]? = some z := ⟨L[k]'HKL.out, by simp⟩
  have hc3 := hrow.cell hzz
  have j4 : (k : Int) < (n : Int) := by omega
  clear hbel hrow hzz
  by_cases hka : k < a.length
  · obtain ⟨x, hx⟩ : ∃ x, a[k]? = some x := ⟨a[k], by simp⟩
    obtain ⟨g, o, rfl, hg, hcg⟩ := HA.out.below HBE.out k x hx
    obtain ⟨x0, x1⟩ := HLA.out.get hx
    have Hx := hQ0 hx
    have j1 : (k : Int) < (a.length : Int) := by omega
    clear hx
    have q1 : 0 ≤ x + cc := by omega
    have q2 : x + cc < 18446744073709551616 := by omega
    by_cases hkb : k < b.length
    · obtain ⟨y, hx⟩ : ∃ x, b[k]? = some x := ⟨b[k], by simp⟩
      obtain ⟨f, p, rfl, hf, hcf⟩ := HB.out.below HBE.out k y hx
      obtain ⟨y0, y1⟩ := HLB.out.get hx
      have Hy := hQ0 hx
      have j2 : (k : Int) < (b.length : Int) := by omega
      clear hx
      have HST := hQ0 (add_step (s := x + cc + y) (by rw [List.length_take]; have := HKL.out; omega) HO.out.2.2 (getD_some Hx.out) (getD_some Hy.out) (by omega))
      have q3 : 0 ≤ x + cc + y := by omega
      have q4 : x + cc + y < 18446744073709551616 := by omega
      go_wp2_with fail
      go_roundw
      case rel => exact ⟨k + 1, (x + cc + y) / 4294967296, L.set k ((x + cc + y) % 4294967296), by omega, by go_num, rfl, by omega, by omega, HR.out.set _ _, hQ0 ⟨by rw [List.length_set]; exact HO.out.1, HO.out.2.1.set _ (by omega) (by omega), by rw [take_set_succ _ HKL.out]; exact HST.out⟩, HBE.out.setCell (Nat.le_refl _) _⟩
      case measure => simp [intOf]; omega
    · have j2 : ¬ (k : Int) < (b.length : Int) := by omega
      have HST := hQ0 (add_step (s := x + cc) (by rw [List.length_take]; have := HKL.out; omega) HO.out.2.2 (getD_some Hx.out) (getD_none (by omega)) (by omega))
      go_wp2_with fail
      go_roundw
      case rel => exact ⟨k + 1, (x + cc) / 4294967296, L.set k ((x + cc) % 4294967296), by omega, by go_num, rfl, by omega, by omega, HR.out.set _ _, hQ0 ⟨by rw [List.length_set]; exact HO.out.1, HO.out.2.1.set _ (by omega) (by omega), by rw [take_set_succ _ HKL.out]; exact HST.out⟩, HBE.out.setCell (Nat.le_refl _) _⟩
      case measure => simp [intOf]; omega
  · obtain rfl : k = a.length := by omega
    have HF := hQ0 (show mv (L.set a.length cc) = mv a + mv b by
     have h1 := HO.out.2.2
     rw [List.take_of_length_le (l := a) (Nat.le_refl _), List.take_of_length_le (l := b) (by omega)] at h1
     have h2 := take_set_succ cc HKL.out
     have h3 := HO.out.1
     rw [List.take_of_length_le (by rw [List.length_set]; have := HN.out; omega)] at h2
     rw [h2, mv_snoc, List.length_take, Nat.min_eq_left (by have := HN.out; omega)]
     exact h1)
    have HLL := HO.out.1
    have j5 : ¬ (a.length : Int) < (a.length : Int) := by omega
    subst HLL
    have e0 : cc % 4294967296 = cc := by omega
    go_wp2_with fail
    go_ret
    refine ⟨HBE.out.setCell (Nat.le_refl _) _, some ⟨w.heap.size, 0, none⟩, L.length, L.set a.length cc, by rw [List.length_set]; rfl, by rw [List.length_set]; exact Nat.le_refl _, HO.out.2.1.set _ (by omega) (by omega), by rw [List.length_set]; exact Nat.le_refl _, HF.out, (HR.out.set _ _).lat⟩
set_option maxRecDepth 100000 in
set_option maxHeartbeats 2000000 in
theorem wsubl_any (A B : Option Addr) (a b : List Int) (c d : Nat) (w : World) (ha : Lim a) (hb : Lim b) (hn : a.length ≤ 1000000) (hn' : b.length ≤ a.length) (hle : mv b ≤ mv a) (hA : LAt w A a) (hB : LAt w B b) :
  Calls Tryz.prog 112 #[.slice A a.length c, .slice B b.length d] w (MOut a.length (mv a - mv b) w) := by
 have hmk := fun w => run_make_row' (P := Tryz.prog) 42 107 (.int .u32 0) 4 Tryz.underlying42 limbInfo rfl .i64 .i64 a.length (by omega) (by omega) w
 have HA := hQ0 hA
 have HB := hQ0 hB
 have HLA := hQ0 ha
 have HLB := hQ0 hb
 have HLE := hQ0 hle
 clear hA hB ha hb hle
 go_enter Tryz.func112, Tryz.ntmps112; (try simp only [List.append_eq, List.cons_append, List.nil_append])
 go_wp2_with fail
 clear hmk
 have hg0 : w.heap.size < w.heap.size + 1 := by omega
 go_loopw [6, 7, 8, 14] (fun vc _ _ vi wr => ∃ (k : Nat) (cc : Int) (L : List Int), k ≤ a.length ∧ vi = .int .i64 k ∧ vc = .int .u64 cc ∧ 0 ≤ cc ∧ cc ≤ 1 ∧ RowL wr w.heap.size L ∧ Hid (L.length = a.length ∧ Lim L ∧ mv (L.take k) - PB k * cc = mv (a.take k) - mv (b.take k)) ∧ Below w.heap.size w wr) (fun _ _ _ vi _ => (a.length - (intOf vi).toNat))
 case atStart => exact ⟨0, 0, List.replicate a.length 0, by omega, rfl, rfl, by omega, by omega, RowL.made w a.length, hQ0 ⟨by simp, Lim.replicate _, by simp [mv]⟩, (Below.refl _ _).alloc (Nat.le_refl _) _⟩
 case round =>
  obtain ⟨k, cc, L, hk, rfl, rfl, c0, c1, hrow, HO, hbel⟩ := hrel
  have i1 : (0 : Int) ≤ (k : Int) := by omega
  have i3 : (k : Int) ≤ 1000000 := by omega
  have hz := hbel.size
  have hlt := hrow.lt
  have hfz := hrow.frozen
  have HBE := hQ0 hbel
  have HR := hQ0 hrow
  clear hbel
  by_cases hka : k < a.length
  · have HKL := hQ0 (show k < L.length by have := HO.out.1; omega)
    obtain ⟨z, hzz⟩ : ∃ z, L[k]? = some z := ⟨L[k]'HKL.out, by simp⟩
    have hc3 := hrow.cell hzz
    obtain ⟨x, hx⟩ : ∃ x, a[k]? = some x := ⟨a[k], by simp⟩
    obtain ⟨g, o, rfl, hg, hcg⟩ := HA.out.below HBE.out k x hx
    obtain ⟨x0, x1⟩ := HLA.out.get hx
    have Hx := hQ0 hx
    have j1 : (k : Int) < (a.length : Int) := by omega
    clear hx hzz hrow
    by_cases hkb : k < b.length
    · obtain ⟨y, hx⟩ : ∃ x, b[k]? = some x := ⟨b[k], by simp⟩
      obtain ⟨f, p, rfl, hf, hcf⟩ := HB.out.below HBE.out k y hx
      obtain ⟨y0, y1⟩ := HLB.out.get hx
      have Hy := hQ0 hx
      have j2 : (k : Int) < (b.length : Int) := by omega
      clear hx
      obtain ⟨I, hI⟩ : ∃ I, I = IntKind.u64.wrap (x - cc) := ⟨_, rfl⟩
      obtain ⟨D, hD⟩ : ∃ D, D = IntKind.u64.wrap (I - y) := ⟨_, rfl⟩
      obtain ⟨d1, d2, d3, d4, d5⟩ := word_sub2 x0 x1 y0 y1 c0 c1 hI hD
      have HST := hQ0 (sub_step (by rw [List.length_take]; have := HKL.out; omega) HO.out.2.2 (getD_some Hx.out) (getD_some Hy.out) d1)
      replace hI := hI.symm
      replace hD := hD.symm
      clear d1
      go_wp2_with fail
      go_roundw
      case rel => exact ⟨k + 1, D / 9223372036854775808, L.set k (D % 4294967296), by omega, by go_num, rfl, by omega, by omega, HR.out.set _ _, hQ0 ⟨by rw [List.length_set]; exact HO.out.1, HO.out.2.1.set _ (by omega) (by omega), by rw [take_set_succ _ HKL.out]; exact HST.out⟩, HBE.out.setCell (Nat.le_refl _) _⟩
      case measure => simp [intOf]; omega
    · have j2 : ¬ (k : Int) < (b.length : Int) := by omega
      obtain ⟨D, hD⟩ : ∃ D, D = IntKind.u64.wrap (x - cc) := ⟨_, rfl⟩
      obtain ⟨d1, d2, d3, d4, d5⟩ := word_sub (y := 0) (I := x) x0 x1 (by omega) (by omega) c0 c1 (by rw [IntKind.wrap_u64]; omega) hD
      have HST := hQ0 (sub_step (by rw [List.length_take]; have := HKL.out; omega) HO.out.2.2 (getD_some Hx.out) (getD_none (by omega)) d1)
      replace hD := hD.symm
      clear d1
      go_wp2_with fail
      go_roundw
      case rel => exact ⟨k + 1, D / 9223372036854775808, L.set k (D % 4294967296), by omega, by go_num, rfl, by omega, by omega, HR.out.set _ _, hQ0 ⟨by rw [List.length_set]; exact HO.out.1, HO.out.2.1.set _ (by omega) (by omega), by rw [take_set_succ _ HKL.out]; exact HST.out⟩, HBE.out.setCell (Nat.le_refl _) _⟩
      case measure => simp [intOf]; omega
  · obtain rfl : k = a.length := by omega
    have HF := hQ0 (show mv L = mv a - mv b by
     have h := HO.out.2.2
     have hl := HO.out.1
     rw [List.take_of_length_le (Nat.le_refl _), List.take_of_length_le (by omega), List.take_of_length_le (by omega)] at h
     have h1 := mv_lt HO.out.2.1
     rw [hl] at h1
     have h2 := HLE.out
     have : cc = 0 ∨ cc = 1 := by omega
     rcases this with rfl | rfl
     · omega
     · omega)
    have HLL := HO.out.1
    have j5 : ¬ (a.length : Int) < (a.length : Int) := by omega
    have HLL2 := hQ0 HLL
    clear HLL hrow
    go_wp2_with fail
    go_ret
    exact ⟨HBE.out, some ⟨w.heap.size, 0, none⟩, a.length, L, by rw [HLL2.out]; rfl, by rw [HLL2.out]; exact Nat.le_refl _, HO.out.2.1, by rw [HLL2.out]; exact Nat.le_refl _, HF.out, HR.out.lat⟩
theorem waddl_any (A B : Option Addr) (a b : List Int) (c d : Nat) (w : World) (ha : Lim a) (hb : Lim b) (hn : a.length ≤ 1000000) (hn' : b.length ≤ 1000000) (hA : LAt w A a) (hB : LAt w B b) :
  Calls Tryz.prog 110 #[.slice A a.length c, .slice B b.length d] w (MOut (max a.length b.length + 1) (mv a + mv b) w) := by
 rcases Nat.lt_or_ge a.length b.length with h | h
 · have := waddl_gt B A b a d c w hb ha hn' h hB hA
   rw [Nat.max_eq_right (Nat.le_of_lt h), Int.add_comm]
   exact this
 · have := waddl_le A B a b c d w ha hb hn h hA hB
   rw [Nat.max_eq_left h]
   exact this
set_option maxHeartbeats 1000000 in
theorem wcmpl_same (A B : Option Addr) (l1 l2 : List Int) (c d : Nat) (w : World) (h1 : Lim l1) (h2 : Lim l2) (hl : l1.length = l2.length) (hn : l1.length ≤ 1000000) (hA : LAt w A l1) (hB : LAt w B l2) :
  Calls Tryz.prog 111 #[.slice A l1.length c, .slice B l2.length d] w fun e w' => e = .returned (.int .i64 (cmpI (mv l1) (mv l2))) ∧ Below w.heap.size w w' := by
 obtain ⟨R, hR⟩ : ∃ R, R = cmpI (mv l1) (mv l2) := ⟨_, rfl⟩
 rw [← hR]
 have HR := hQ0 hR
 have HA := hQ0 hA
 have HB := hQ0 hB
 have HLI := hQ0 h1
 have HL2 := hQ0 h2
 rw [← hl]
 have HL := hQ0 hl
 clear hR hA hB h1 h2 hl
 go_enter Tryz.func111, Tryz.ntmps111; (try simp only [List.append_eq, List.cons_append, List.nil_append])
 go_wp2_with fail
 go_loopw [5] (fun vi wr => ∃ k : Nat, k ≤ l1.length ∧ vi = .int .i64 ((k : Int) - 1) ∧ Hid (l1.drop k = l2.drop k) ∧ Below w.heap.size w wr) (fun vi _ => (intOf vi + 1).toNat)
 case atStart => exact ⟨l1.length, Nat.le_refl _, rfl, hQ0 (by rw [List.drop_length, HL.out, List.drop_length]), Below.refl _ _⟩
 case round =>
  obtain ⟨k, hk, rfl, HD, hbel⟩ := hrel
  rcases k with _ | j
  · have hfin : R = 0 := by
     have := HD.out
     rw [List.drop_zero, List.drop_zero] at this
     rw [HR.out, this]; exact cmpI_self _
    subst hfin
    go_wp2_with fail
    go_ret
    exact ⟨rfl, hbel⟩
  · obtain ⟨x, hx⟩ : ∃ x, l1[j]? = some x := ⟨l1[j], by simp⟩
    obtain ⟨y, hy⟩ : ∃ y, l2[j]? = some y := ⟨l2[j]'(by have := HL.out; omega), by simp⟩
    obtain ⟨g, o, rfl, hg, hc1⟩ := HA.out.below hbel j x hx
    obtain ⟨g', o', rfl, hg', hc2⟩ := HB.out.below hbel j y hy
    have HX := hQ0 hx
    have HY := hQ0 hy
    have HB1 := hQ0 hbel
    have i1 : (0 : Int) ≤ (j : Int) := by omega
    have i2 : (j : Int) < (l1.length : Int) := by omega
    have i3 : (l1.length : Int) ≤ 1000000 := by omega
    have hz := hbel.size
    clear hx hy hbel
    by_cases hxy : x = y
    · subst hxy
      have b1 : (x != x) = false := by simp
      go_wp2_with fail
      refine wp_region_warm (Own wr.heap.size wr) (by kernel_rfl) (by kernel_rfl) (Own.refl (Nat.le_refl _)).drew ?_
      repeat (first | (refine wpWarm_step_off rfl (fun K hK => ?_); (go_simp; refine hK _ ?_; clear hK K)) | (apply wpWarm_step rfl; (focus (intro W' hS; have hcS := hS.cells; go_simp; (first | done | exact rfl | exact ⟨rfl, hS⟩ | (go_simp; exact rfl)))); (intro K hK; go_simp; (try go_bits); refine hK _ ?_; clear hK K)) | (apply wpWarm_step_on rfl; (focus (intro W' hS; have hcS := hS.cells; go_simp; (first | done | exact rfl | exact ⟨rfl, hS⟩ | (go_simp; exact rfl)))); (intro K hK; go_simp; (try go_bits); refine hK _ ?_; clear hK K)))
      refine wpWarm_nil ?_
      intro w4 hO
      go_wp2_with fail
      go_roundw
      case rel => exact ⟨j, by omega, rfl, hQ0 (by rw [drop_consI HX.out, drop_consI HY.out, HD.out]), HB1.out.trans (hO.2.mono hz)⟩
      case measure => simp [intOf]
    · have b1 : (x != y) = true := by simp [hxy]
      have hlt : x < y → R = -1 := fun h => by rw [HR.out]; exact cmpI_lt (mv_lt_of HLI.out HL2.out HL.out HX.out HY.out HD.out h)
      have hgt : y < x → R = 1 := fun h => by rw [HR.out]; exact cmpI_gt (mv_lt_of HL2.out HLI.out HL.out.symm HY.out HX.out HD.out.symm h)
      have HLT := hQ0 hlt
      have HGT := hQ0 hgt
      have HNE := hQ0 hxy
      clear hlt hgt hxy
      go_wp2_with fail
      refine wp_region_warm (Own wr.heap.size wr) (by kernel_rfl) (by kernel_rfl) (Own.refl (Nat.le_refl _)).drew ?_
      repeat (first | (refine wpWarm_step_off rfl (fun K hK => ?_); (go_simp; refine hK _ ?_; clear hK K)) | (apply wpWarm_step rfl; (focus (intro W' hS; have hcS := hS.cells; go_simp; (first | done | exact rfl | exact ⟨rfl, hS⟩ | (go_simp; exact rfl)))); (intro K hK; go_simp; (try go_bits); refine hK _ ?_; clear hK K)) | (apply wpWarm_step_on rfl; (focus (intro W' hS; have hcS := hS.cells; go_simp; (first | done | exact rfl | exact ⟨rfl, hS⟩ | (go_simp; exact rfl)))); (intro K hK; go_simp; (try go_bits); refine hK _ ?_; clear hK K)))
      refine wpWarm_nil ?_
      intro w4 hO
      have HB4 := hQ0 (HB1.out.trans (hO.2.mono hz))
      have d1 : w4.cell? ⟨g, o + j, none⟩ = some (.int .u32 x) := by rw [hO.cells.1 g _ hg]; exact hc1
      have d2 : w4.cell? ⟨g', o' + j, none⟩ = some (.int .u32 y) := by rw [hO.cells.1 g' _ hg']; exact hc2
      have hg4 : g < w4.heap.size := Nat.lt_of_lt_of_le hg hO.1
      have hg4' : g' < w4.heap.size := Nat.lt_of_lt_of_le hg' hO.1
      have hz4 := HB4.out.size
      clear hc1 hc2 hO
      by_cases hlt : x < y
      · have hR := HLT.out hlt
        subst hR
        go_wp2_with fail
        refine wp_region_warm (Own w4.heap.size w4) (by kernel_rfl) (by kernel_rfl) (Own.refl (Nat.le_refl _)).drew ?_
        repeat (first | (refine wpWarm_step_off rfl (fun K hK => ?_); (go_simp; refine hK _ ?_; clear hK K)) | (apply wpWarm_step rfl; (focus (intro W' hS; have hcS := hS.cells; go_simp; (first | done | exact rfl | exact ⟨rfl, hS⟩ | (go_simp; exact rfl)))); (intro K hK; go_simp; (try go_bits); refine hK _ ?_; clear hK K)) | (apply wpWarm_step_on rfl; (focus (intro W' hS; have hcS := hS.cells; go_simp; (first | done | exact rfl | exact ⟨rfl, hS⟩ | (go_simp; exact rfl)))); (intro K hK; go_simp; (try go_bits); refine hK _ ?_; clear hK K)))
        refine wpWarm_nil ?_
        intro w5 hO
        go_wp2_with fail
        go_ret
        exact ⟨rfl, HB4.out.trans (hO.2.mono hz4)⟩
      · have hR := HGT.out (by have := HNE.out; omega)
        subst hR
        go_wp2_with fail
        refine wp_region_warm (Own w4.heap.size w4) (by kernel_rfl) (by kernel_rfl) (Own.refl (Nat.le_refl _)).drew ?_
        repeat (first | (refine wpWarm_step_off rfl (fun K hK => ?_); (go_simp; refine hK _ ?_; clear hK K)) | (apply wpWarm_step rfl; (focus (intro W' hS; have hcS := hS.cells; go_simp; (first | done | exact rfl | exact ⟨rfl, hS⟩ | (go_simp; exact rfl)))); (intro K hK; go_simp; (try go_bits); refine hK _ ?_; clear hK K)) | (apply wpWarm_step_on rfl; (focus (intro W' hS; have hcS := hS.cells; go_simp; (first | done | exact rfl | exact ⟨rfl, hS⟩ | (go_simp; exact rfl)))); (intro K hK; go_simp; (try go_bits); refine hK _ ?_; clear hK K)))
        refine wpWarm_nil ?_
        intro w5 hO
        go_wp2_with fail
        go_ret
        exact ⟨rfl, HB4.out.trans (hO.2.mono hz4)⟩
set_option maxHeartbeats 1000000 in
theorem wcmpl_any (A B : Option Addr) (x y c d : Nat) (w : World) (hn : (canN x).length ≤ 1000000) (hn' : (canN y).length ≤ 1000000) (hA : LAt w A (canN x)) (hB : LAt w B (canN y)) :
  Calls Tryz.prog 111 #[.slice A (canN x).length c, .slice B (canN y).length d] w fun e w' => e = .returned (.int .i64 (cmpI x y)) ∧ Below w.heap.size w w' := by
 by_cases hl : (canN x).length = (canN y).length
 · have := wcmpl_same A B (canN x) (canN y) c d w (canN_lim _) (canN_lim _) hl hn hA hB
   rw [mv_canN, mv_canN] at this
   exact this
 · have hne : (((canN x).length : Int) != ((canN y).length : Int)) = true := by rw [bne_iff_ne]; omega
   clear hA hB
   rcases Nat.lt_or_ge (canN x).length (canN y).length with h | h
   · have hR : cmpI x y = -1 := cmpI_lt (by have := canN_lt h; omega)
     rw [hR]
     have h' : ((canN x).length : Int) < ((canN y).length : Int) := by omega
     clear hR hl
     go_enter Tryz.func111, Tryz.ntmps111; (try simp only [List.append_eq, List.cons_append, List.nil_append])
     go_wp2_with fail
     go_ret
     exact ⟨rfl, Below.refl _ _⟩
   · have hR : cmpI x y = 1 := cmpI_gt (by have := canN_lt (show (canN y).length < (canN x).length by omega); omega)
     rw [hR]
     have h' : ¬ ((canN x).length : Int) < ((canN y).length : Int) := by omega
     clear hR hl
     go_enter Tryz.func111, Tryz.ntmps111; (try simp only [List.append_eq, List.cons_append, List.nil_append])
     go_wp2_with fail
     go_ret
     exact ⟨rfl, Below.refl _ _⟩
set_option maxHeartbeats 2000000 in
theorem wsum_any (p q : Bool) (A A' : Option Addr) (x y c c' : Nat) (a b : Int) (w : World) (ea : a = sv p x) (eb : b = sv q y) (hn : (canN x).length ≤ 400000) (hn' : (canN y).length ≤ 400000) (hA : LAt w A (canN x)) (hA' : LAt w A' (canN y)) :
  Calls Tryz.prog 90 #[.bool p, .slice A (canN x).length c, .bool q, .slice A' (canN y).length c'] w (ZOut (a + b) w) := by
 obtain ⟨Z, hZ⟩ : ∃ Z, Z = a + b := ⟨_, rfl⟩
 have hsum : p = q → Z = sv p ((x : Int) + y) := fun h => by subst h; rw [hZ]; exact sv_add ea eb
 have hdif : p ≠ q → Z = sv p ((x : Int) - y) ∧ Z = sv q ((y : Int) - x) := fun h => by rw [hZ]; exact sv_sub h ea eb
 rw [← hZ]
 have HS := hQ0 hsum
 have HD := hQ0 hdif
 have HA := hQ0 hA
 have HA' := hQ0 hA'
 clear hsum hdif hZ ea eb hA hA'
 by_cases hpq : p = q
 · subst hpq
   have HZ := hQ0 (HS.out rfl)
   have b0 : (p == p) = true := by simp
   clear HS HD
   go_enter Tryz.func90, Tryz.ntmps90; (try simp only [List.append_eq, List.cons_append, List.nil_append])
   go_wp2_with fail
   (go_at_call 110; refine (waddl_any A A' (canN x) (canN y) c c' _ (canN_lim _) (canN_lim _) (by omega) (by omega) (HA.out.alloc _) (HA'.out.alloc _)).mono ?_; rintro e w1 ⟨hb_w1, A3, c3, l3, rfl, hc3, hl3, hk3, hm3, hA3⟩; have hz_w1 := hb_w1.size; (try simp at hz_w1); (with_reducible apply cal2 (b := w.heap.size) hb_w1); (focus (go_simp; try exact ⟨rfl, rfl⟩)); intro cc cc fz hl)
   have hmk := fun w' (h : LAt w' A3 l3) => wmade_any p A3 l3 c3 w' hl3 h hc3 (by omega)
   rw [hm3, mv_canN, mv_canN, ← HZ.out] at hmk
   have HMK := hQ0 hmk
   have HA3 := hQ0 hA3
   clear hA3 hc3 hl3 hk3 hm3 hmk
   go_wp2_with fail
   (go_at_call 91; refine (HMK.out _ HA3.out).mono ?_; rintro e w2 ⟨hb_w2, v4, rfl, A4, c4, rfl, hc4, hA4⟩; have hz_w2 := hb_w2.size; (try simp at hz_w2); (with_reducible apply cal2 (b := w.heap.size) hb_w2); (focus (go_simp; try exact ⟨rfl, rfl⟩)); intro cc cc fz hl)
   have HC4 := hQ0 hc4
   have HA4 := hQ0 hA4
   clear hA4 hc4
   go_wp2_with fail
   refine bodyPost_ret (v := .agg #[.bool (decide (Z < 0)), .slice A4 (canN Z.natAbs).length c4]) (by simp only [results, Tryz.results90]; go_simp) rfl ⟨?_, ?_⟩
   · ((with_reducible (repeat (first | exact bR _ _ | apply bS | apply bA | apply bD | refine bT ?_ (by assumption) ?_ | refine bO (by assumption) ?_ ?_))) <;> (first | omega | (simp <;> omega)))
   · exact ⟨_, rfl, A4, c4, rfl, HC4.out, HA4.out.set2 (by assumption) (by assumption) _ _⟩
 · have hs := HD.out hpq
   have b0 : (p == q) = false := by simp [hpq]
   obtain ⟨C, hC⟩ : ∃ C, C = cmpI x y := ⟨_, rfl⟩
   have hcmp := fun w h1 h2 => wcmpl_any A A' x y c c' w (by omega) (by omega) h1 h2
   rw [← hC] at hcmp
   have HCMP := hQ0 hcmp
   rcases Int.lt_or_le (cmpI x y) 0 with hcm | hcm
   · have hxy : x < y := by unfold cmpI at hcm; split at hcm <;> (try split at hcm) <;> omega
     have HZ := hQ0 hs.2
     rw [← hC] at hcm
     have hcm' : ¬ (0 ≤ C) := by omega
     have k1 : mv (canN x) ≤ mv (canN y) := by rw [mv_canN, mv_canN]; omega
     have HXY := hQ0 k1
     have hlen : (canN x).length ≤ (canN y).length := by
      rw [canN_len]
      have := (@canN_len y (canN y).length).1 (Nat.le_refl _)
      omega
     clear hs HS HD hC hpq k1 hcmp
     go_enter Tryz.func90, Tryz.ntmps90; (try simp only [List.append_eq, List.cons_append, List.nil_append])
     go_wp2_with fail
     (go_at_call 111; refine (HCMP.out _ (HA.out.alloc _) (HA'.out.alloc _)).mono ?_; rintro e w0 ⟨rfl, hb_w0⟩; have hz_w0 := hb_w0.size; (try simp at hz_w0); (with_reducible apply cal2 (b := w.heap.size) hb_w0); (focus (go_simp; try exact ⟨rfl, rfl⟩)); intro cc cc fz hl)
     have HB0 := hQ0 (show Below w.heap.size w w0 by ((with_reducible (repeat (first | exact bR _ _ | apply bS | apply bA | apply bD | refine bT ?_ (by assumption) ?_ | refine bO (by assumption) ?_ ?_))) <;> (first | omega | (simp <;> omega))))
     go_wp2_with fail
     (go_at_call 112; refine (wsubl_any A' A (canN y) (canN x) c' c w0 (canN_lim _) (canN_lim _) (by omega) (by omega) HXY.out (HA'.out.below HB0.out) (HA.out.below HB0.out)).mono ?_; rintro e w1 ⟨hb_w1, A3, c3, l3, rfl, hc3, hl3, hk3, hm3, hA3⟩; have hz_w1 := hb_w1.size; (try simp at hz_w1); (with_reducible apply cal2 (b := w.heap.size) hb_w1); (focus (go_simp; try exact ⟨rfl, rfl⟩)); intro cc cc fz hl)
     have hmk := fun w' (h : LAt w' A3 l3) => wmade_any q A3 l3 c3 w' hl3 h hc3 (by omega)
     rw [hm3, mv_canN, mv_canN, ← HZ.out] at hmk
     have HMK := hQ0 hmk
     have HA3 := hQ0 hA3
     clear hA3 hc3 hl3 hk3 hm3 hmk
     go_wp2_with fail
     (go_at_call 91; refine (HMK.out _ HA3.out).mono ?_; rintro e w2 ⟨hb_w2, v4, rfl, A4, c4, rfl, hc4, hA4⟩; have hz_w2 := hb_w2.size; (try simp at hz_w2); (with_reducible apply cal2 (b := w.heap.size) hb_w2); (focus (go_simp; try exact ⟨rfl, rfl⟩)); intro cc cc fz hl)
     have HC4 := hQ0 hc4
     have HA4 := hQ0 hA4
     clear hA4 hc4
     go_wp2_with fail
     refine bodyPost_ret (v := .agg #[.bool (decide (Z < 0)), .slice A4 (canN Z.natAbs).length c4]) (by simp only [results, Tryz.results90]; go_simp) rfl ⟨?_, ?_⟩
     · ((with_reducible (repeat (first | exact bR _ _ | apply bS | apply bA | apply bD | refine bT ?_ (by assumption) ?_ | refine bO (by assumption) ?_ ?_))) <;> (first | omega | (simp <;> omega)))
     · exact ⟨_, rfl, A4, c4, rfl, HC4.out, HA4.out.set2 (by assumption) (by assumption) _ _⟩
   · have hxy : y ≤ x := by unfold cmpI at hcm; split at hcm <;> (try split at hcm) <;> omega
     have HZ := hQ0 hs.1
     rw [← hC] at hcm
     have k1 : mv (canN y) ≤ mv (canN x) := by rw [mv_canN, mv_canN]; omega
     have HXY := hQ0 k1
     have hlen : (canN y).length ≤ (canN x).length := by
      rw [canN_len]
      have := (@canN_len x (canN x).length).1 (Nat.le_refl _)
      omega
     clear hs HS HD hC hpq k1 hcmp
     go_enter Tryz.func90, Tryz.ntmps90; (try simp only [List.append_eq, List.cons_append, List.nil_append])
     go_wp2_with fail
     (go_at_call 111; refine (HCMP.out _ (HA.out.alloc _) (HA'.out.alloc _)).mono ?_; rintro e w0 ⟨rfl, hb_w0⟩; have hz_w0 := hb_w0.size; (try simp at hz_w0); (with_reducible apply cal2 (b := w.heap.size) hb_w0); (focus (go_simp; try exact ⟨rfl, rfl⟩)); intro cc cc fz hl)
     have HB0 := hQ0 (show Below w.heap.size w w0 by ((with_reducible (repeat (first | exact bR _ _ | apply bS | apply bA | apply bD | refine bT ?_ (by assumption) ?_ | refine bO (by assumption) ?_ ?_))) <;> (first | omega | (simp <;> omega))))
     go_wp2_with fail
     (go_at_call 112; refine (wsubl_any A A' (canN x) (canN y) c c' w0 (canN_lim _) (canN_lim _) (by omega) (by omega) HXY.out (HA.out.below HB0.out) (HA'.out.below HB0.out)).mono ?_; rintro e w1 ⟨hb_w1, A3, c3, l3, rfl, hc3, hl3, hk3, hm3, hA3⟩; have hz_w1 := hb_w1.size; (try simp at hz_w1); (with_reducible apply cal2 (b := w.heap.size) hb_w1); (focus (go_simp; try exact ⟨rfl, rfl⟩)); intro cc cc fz hl)
     have hmk := fun w' (h : LAt w' A3 l3) => wmade_any p A3 l3 c3 w' hl3 h hc3 (by omega)
     rw [hm3, mv_canN, mv_canN, ← HZ.out] at hmk
     have HMK := hQ0 hmk
     have HA3 := hQ0 hA3
     clear hA3 hc3 hl3 hk3 hm3 hmk
     go_wp2_with fail
     (go_at_call 91; refine (HMK.out _ HA3.out).mono ?_; rintro e w2 ⟨hb_w2, v4, rfl, A4, c4, rfl, hc4, hA4⟩; have hz_w2 := hb_w2.size; (try simp at hz_w2); (with_reducible apply cal2 (b := w.heap.size) hb_w2); (focus (go_simp; try exact ⟨rfl, rfl⟩)); intro cc cc fz hl)
     have HC4 := hQ0 hc4
     have HA4 := hQ0 hA4
     clear hA4 hc4
     go_wp2_with fail
     refine bodyPost_ret (v := .agg #[.bool (decide (Z < 0)), .slice A4 (canN Z.natAbs).length c4]) (by simp only [results, Tryz.results90]; go_simp) rfl ⟨?_, ?_⟩
     · ((with_reducible (repeat (first | exact bR _ _ | apply bS | apply bA | apply bD | refine bT ?_ (by assumption) ?_ | refine bO (by assumption) ?_ ?_))) <;> (first | omega | (simp <;> omega)))
     · exact ⟨_, rfl, A4, c4, rfl, HC4.out, HA4.out.set2 (by assumption) (by assumption) _ _⟩
set_option maxHeartbeats 2000000 in
theorem wadd_any (n : Nat) (u v : Value) (a b : Int) (w : World) (ha : IsZ w u n a) (hb : IsZ w v n b) (hn : n ≤ 400000) :
  Calls Tryz.prog 55 #[u, v] w (ZOut (a + b) w) := by
 have HA := hQ0 ha
 have HB := hQ0 hb
 have la := isZ_len ha
 have lb := isZ_len hb
 obtain ⟨p, A, c, l, rfl⟩ := isZ_val ha
 obtain ⟨p', A', c', l', rfl⟩ := isZ_val hb
 have hsm := fun A A' c c' w => wsum_any (decide (a < 0)) (decide (b < 0)) A A' a.natAbs b.natAbs c c' a b w (sv_natAbs a).1.symm (sv_natAbs b).1.symm (by omega) (by omega)
 have HSM := hQ0 hsm
 clear ha hb hsm
 go_enter Tryz.func55, Tryz.ntmps55; (try simp only [List.append_eq, List.cons_append, List.nil_append])
 go_wp2_with fail
 (go_at_call 89; refine (wlimbs_any n _ a _ (HA.out.below (by ((with_reducible (repeat (first | exact bR _ _ | apply bS | apply bA | apply bD | refine bT ?_ (by assumption) ?_ | refine bO (by assumption) ?_ ?_))) <;> (first | omega | (simp <;> omega))))) (by omega)).mono ?_; rintro e w1 ⟨hb_w1, A1, c1, rfl, hc1, hA1⟩; have hz_w1 := hb_w1.size; (try simp at hz_w1); (with_reducible apply cal2 (b := w.heap.size) hb_w1); (focus (go_simp; try exact ⟨rfl, rfl⟩)); intro cc cc fz hl; (with_reducible apply cal2 (b := w.heap.size + 1) hb_w1); (focus (go_simp; try exact ⟨rfl, rfl⟩)); intro cc cc fz hl; (with_reducible apply cal2 (b := w.heap.size + 1 + 1) hb_w1); (focus (go_simp; try exact ⟨rfl, rfl⟩)); intro cc cc fz hl)
 have HA1 := hQ0 hA1
 have HB1 := hQ0 (show Below w.heap.size w w1 by ((with_reducible (repeat (first | exact bR _ _ | apply bS | apply bA | apply bD | refine bT ?_ (by assumption) ?_ | refine bO (by assumption) ?_ ?_))) <;> (first | omega | (simp <;> omega))))
 clear hc1 hA1
 go_wp2_with fail
 (go_at_call 89; refine (wlimbs_any n _ b _ (HB.out.below HB1.out) (by omega)).mono ?_; rintro e w2 ⟨hb_w2, A2, c2, rfl, hc2, hA2⟩; have hz_w2 := hb_w2.size; (try simp at hz_w2); (with_reducible apply cal2 (b := w.heap.size) hb_w2); (focus (go_simp; try exact ⟨rfl, rfl⟩)); intro cc cc fz hl; (with_reducible apply cal2 (b := w.heap.size + 1) hb_w2); (focus (go_simp; try exact ⟨rfl, rfl⟩)); intro cc cc fz hl; (with_reducible apply cal2 (b := w.heap.size + 1 + 1) hb_w2); (focus (go_simp; try exact ⟨rfl, rfl⟩)); intro cc cc fz hl)
 have HA2 := hQ0 hA2
 have HA12 := hQ0 (HA1.out.below hb_w2)
 clear hc2 hA2
 go_wp2_with fail
 (go_at_call 90; refine (HSM.out A1 A2 c1 c2 w2 HA12.out HA2.out).mono ?_; rintro e w3 ⟨hb_w3, v4, rfl, A4, c4, rfl, hc4, hA4⟩; have hz_w3 := hb_w3.size; (try simp at hz_w3); (with_reducible apply cal2 (b := w.heap.size) hb_w3); (focus (go_simp; try exact ⟨rfl, rfl⟩)); intro cc cc fz hl; (with_reducible apply cal2 (b := w.heap.size + 1) hb_w3); (focus (go_simp; try exact ⟨rfl, rfl⟩)); intro cc cc fz hl; (with_reducible apply cal2 (b := w.heap.size + 1 + 1) hb_w3); (focus (go_simp; try exact ⟨rfl, rfl⟩)); intro cc cc fz hl)
 have HC4 := hQ0 hc4
 have HA4 := hQ0 hA4
 clear hA4 hc4
 go_wp2_with fail
 refine bodyPost_ret (v := .agg #[.bool (decide (a + b < 0)), .slice A4 (canN (a + b).natAbs).length c4]) (by simp only [results, Tryz.results55]; go_simp) rfl ⟨?_, ?_⟩
 · exact HB1.out.trans (by ((with_reducible (repeat (first | exact bR _ _ | apply bS | apply bA | apply bD | refine bT ?_ (by assumption) ?_ | refine bO (by assumption) ?_ ?_))) <;> (first | omega | (simp <;> omega))))
 · exact ⟨_, rfl, A4, c4, rfl, HC4.out, HA4.out.set2 (by assumption) (by assumption) _ _⟩
set_option maxHeartbeats 2000000 in
theorem wsub_any (n : Nat) (u v : Value) (a b : Int) (w : World) (ha : IsZ w u n a) (hb : IsZ w v n b) (hn : n ≤ 400000) :
  Calls Tryz.prog 88 #[u, v] w (ZOut (a - b) w) := by
 have HA := hQ0 ha
 have HB := hQ0 hb
 have la := isZ_len ha
 have lb := isZ_len hb
 obtain ⟨p, A, c, l, rfl⟩ := isZ_val ha
 obtain ⟨p', A', c', l', rfl⟩ := isZ_val hb
 have hsm := fun A A' c c' w => wsum_any (decide (a < 0)) (!decide (b < 0)) A A' a.natAbs b.natAbs c c' a (-b) w (sv_natAbs a).1.symm (sv_natAbs b).2.1.symm (by omega) (by omega)
 obtain ⟨Z, hZ⟩ : ∃ Z, Z = a - b := ⟨_, rfl⟩
 rw [← Int.sub_eq_add_neg, ← hZ] at hsm
 rw [← hZ]
 have HSM := hQ0 hsm
 clear ha hb hsm hZ
 go_enter Tryz.func88, Tryz.ntmps88; (try simp only [List.append_eq, List.cons_append, List.nil_append])
 go_wp2_with fail
 (go_at_call 89; refine (wlimbs_any n _ a _ (HA.out.below (by ((with_reducible (repeat (first | exact bR _ _ | apply bS | apply bA | apply bD | refine bT ?_ (by assumption) ?_ | refine bO (by assumption) ?_ ?_))) <;> (first | omega | (simp <;> omega))))) (by omega)).mono ?_; rintro e w1 ⟨hb_w1, A1, c1, rfl, hc1, hA1⟩; have hz_w1 := hb_w1.size; (try simp at hz_w1); (with_reducible apply cal2 (b := w.heap.size) hb_w1); (focus (go_simp; try exact ⟨rfl, rfl⟩)); intro cc cc fz hl; (with_reducible apply cal2 (b := w.heap.size + 1) hb_w1); (focus (go_simp; try exact ⟨rfl, rfl⟩)); intro cc cc fz hl; (with_reducible apply cal2 (b := w.heap.size + 1 + 1) hb_w1); (focus (go_simp; try exact ⟨rfl, rfl⟩)); intro cc cc fz hl)
 have HA1 := hQ0 hA1
 have HB1 := hQ0 (show Below w.heap.size w w1 by ((with_reducible (repeat (first | exact bR _ _ | apply bS | apply bA | apply bD | refine bT ?_ (by assumption) ?_ | refine bO (by assumption) ?_ ?_))) <;> (first | omega | (simp <;> omega))))
 clear hc1 hA1
 go_wp2_with fail
 (go_at_call 89; refine (wlimbs_any n _ b _ (HB.out.below HB1.out) (by omega)).mono ?_; rintro e w2 ⟨hb_w2, A2, c2, rfl, hc2, hA2⟩; have hz_w2 := hb_w2.size; (try simp at hz_w2); (with_reducible apply cal2 (b := w.heap.size) hb_w2); (focus (go_simp; try exact ⟨rfl, rfl⟩)); intro cc cc fz hl; (with_reducible apply cal2 (b := w.heap.size + 1) hb_w2); (focus (go_simp; try exact ⟨rfl, rfl⟩)); intro cc cc fz hl; (with_reducible apply cal2 (b := w.heap.size + 1 + 1) hb_w2); (focus (go_simp; try exact ⟨rfl, rfl⟩)); intro cc cc fz hl)
 have HA2 := hQ0 hA2
 have HA12 := hQ0 (HA1.out.below hb_w2)
 obtain ⟨bb, hbb⟩ : ∃ bb, bb = decide (b < 0) := ⟨_, rfl⟩
 rw [← hbb] at HSM ⊢
 clear hc2 hA2 hbb
 go_wp2_with fail
 (go_at_call 90; refine (HSM.out A1 A2 c1 c2 w2 HA12.out HA2.out).mono ?_; rintro e w3 ⟨hb_w3, v4, rfl, A4, c4, rfl, hc4, hA4⟩; have hz_w3 := hb_w3.size; (try simp at hz_w3); (with_reducible apply cal2 (b := w.heap.size) hb_w3); (focus (go_simp; try exact ⟨rfl, rfl⟩)); intro cc cc fz hl; (with_reducible apply cal2 (b := w.heap.size + 1) hb_w3); (focus (go_simp; try exact ⟨rfl, rfl⟩)); intro cc cc fz hl; (with_reducible apply cal2 (b := w.heap.size + 1 + 1) hb_w3); (focus (go_simp; try exact ⟨rfl, rfl⟩)); intro cc cc fz hl)
 have HC4 := hQ0 hc4
 have HA4 := hQ0 hA4
 clear hA4 hc4
 go_wp2_with fail
 refine bodyPost_ret (v := .agg #[.bool (decide (Z < 0)), .slice A4 (canN Z.natAbs).length c4]) (by simp only [results, Tryz.results88]; go_simp) rfl ⟨?_, ?_⟩
 · exact HB1.out.trans (by ((with_reducible (repeat (first | exact bR _ _ | apply bS | apply bA | apply bD | refine bT ?_ (by assumption) ?_ | refine bO (by assumption) ?_ ?_))) <;> (first | omega | (simp <;> omega))))
 · exact ⟨_, rfl, A4, c4, rfl, HC4.out, HA4.out.set2 (by assumption) (by assumption) _ _⟩
theorem canN_ne0 {x : Nat} (h : x ≠ 0) : (((canN x).length : Int) == 0) = false := by
 rw [beq_eq_false_iff_ne]
 intro e
 exact h (canN_len0.1 (by omega))
set_option maxRecDepth 100000 in
set_option maxHeartbeats 4000000 in
theorem wmul_zero (n : Nat) (u v : Value) (a b : Int) (w : World) (ha : IsZ w u n a) (hb : IsZ w v n b) (hn : n ≤ 400000) (h0 : a = 0 ∨ b = 0) :
  Calls Tryz.prog 56 #[u, v] w (ZOut 0 w) := by
 have HA := hQ0 ha
 have HB := hQ0 hb
 have la := isZ_len ha
 have lb := isZ_len hb
 obtain ⟨p, A, c, l, rfl⟩ := isZ_val ha
 obtain ⟨p', A', c', l', rfl⟩ := isZ_val hb
 have e1 : canN (0 : Int).natAbs = [] := canN_zero
 clear ha hb
 by_cases ha0 : a = 0
 · have b0 : (((canN a.natAbs).length : Int) == 0) = true := by rw [ha0, e1]; rfl
   clear h0 e1 ha0
   go_enter Tryz.func56, Tryz.ntmps56; (try simp only [List.append_eq, List.cons_append, List.nil_append])
   go_wp2_with fail
   (go_at_call 89; refine (wlimbs_any n _ a _ (HA.out.below (by ((with_reducible (repeat (first | exact bR _ _ | apply bS | apply bA | apply bD | refine bT ?_ (by assumption) ?_ | refine bO (by assumption) ?_ ?_))) <;> (first | omega | (simp <;> omega))))) (by omega)).mono ?_; rintro e w1 ⟨hb_w1, A1, c1, rfl, hc1, hA1⟩; have hz_w1 := hb_w1.size; (try simp at hz_w1); (with_reducible apply cal2 (b := w.heap.size) hb_w1); (focus (go_simp; try exact ⟨rfl, rfl⟩)); intro cc cc fz hl; (with_reducible apply cal2 (b := w.heap.size + 1) hb_w1); (focus (go_simp; try exact ⟨rfl, rfl⟩)); intro cc cc fz hl; (with_reducible apply cal2 (b := w.heap.size + 1 + 1) hb_w1); (focus (go_simp; try exact ⟨rfl, rfl⟩)); intro cc cc fz hl)
   have HB1 := hQ0 (show Below w.heap.size w w1 by ((with_reducible (repeat (first | exact bR _ _ | apply bS | apply bA | apply bD | refine bT ?_ (by assumption) ?_ | refine bO (by assumption) ?_ ?_))) <;> (first | omega | (simp <;> omega))))
   clear hc1 hA1
   go_wp2_with fail
   (go_at_call 89; refine (wlimbs_any n _ b _ (HB.out.below HB1.out) (by omega)).mono ?_; rintro e w2 ⟨hb_w2, A2, c2, rfl, hc2, hA2⟩; have hz_w2 := hb_w2.size; (try simp at hz_w2); (with_reducible apply cal2 (b := w.heap.size) hb_w2); (focus (go_simp; try exact ⟨rfl, rfl⟩)); intro cc cc fz hl; (with_reducible apply cal2 (b := w.heap.size + 1) hb_w2); (focus (go_simp; try exact ⟨rfl, rfl⟩)); intro cc cc fz hl; (with_reducible apply cal2 (b := w.heap.size + 1 + 1) hb_w2); (focus (go_simp; try exact ⟨rfl, rfl⟩)); intro cc cc fz hl)
   clear hc2 hA2
   go_wp2_with fail
   refine bodyPost_ret (v := .agg #[.bool false, .slice none 0 0]) (by simp only [results, Tryz.results56]; go_simp) rfl ⟨?_, ?_⟩
   · exact HB1.out.trans (by ((with_reducible (repeat (first | exact bR _ _ | apply bS | apply bA | apply bD | refine bT ?_ (by assumption) ?_ | refine bO (by assumption) ?_ ?_))) <;> (first | omega | (simp <;> omega))))
   · exact ⟨_, rfl, none, 0, by rw [show canN (0 : Int).natAbs = [] from canN_zero]; rfl, by rw [show canN (0 : Int).natAbs = [] from canN_zero]; exact Nat.le_refl _, by rw [show canN (0 : Int).natAbs = [] from canN_zero]; exact LAt.nil _ _⟩
 · have hb0 : b = 0 := by rcases h0 with h | h; exact absurd h ha0; exact h
   have b0 : (((canN b.natAbs).length : Int) == 0) = true := by rw [hb0, e1]; rfl
   have b1 := canN_ne0 (x := a.natAbs) (by omega)
   clear h0 e1 hb0 ha0
   go_enter Tryz.func56, Tryz.ntmps56; (try simp only [List.append_eq, List.cons_append, List.nil_append])
   go_wp2_with fail
   (go_at_call 89; refine (wlimbs_any n _ a _ (HA.out.below (by ((with_reducible (repeat (first | exact bR _ _ | apply bS | apply bA | apply bD | refine bT ?_ (by assumption) ?_ | refine bO (by assumption) ?_ ?_))) <;> (first | omega | (simp <;> omega))))) (by omega)).mono ?_; rintro e w1 ⟨hb_w1, A1, c1, rfl, hc1, hA1⟩; have hz_w1 := hb_w1.size; (try simp at hz_w1); (with_reducible apply cal2 (b := w.heap.size) hb_w1); (focus (go_simp; try exact ⟨rfl, rfl⟩)); intro cc cc fz hl; (with_reducible apply cal2 (b := w.heap.size + 1) hb_w1); (focus (go_simp; try exact ⟨rfl, rfl⟩)); intro cc cc fz hl; (with_reducible apply cal2 (b := w.heap.size + 1 + 1) hb_w1); (focus (go_simp; try exact ⟨rfl, rfl⟩)); intro cc cc fz hl)
   have HB1 := hQ0 (show Below w.heap.size w w1 by ((with_reducible (repeat (first | exact bR _ _ | apply bS | apply bA | apply bD | refine bT ?_ (by assumption) ?_ | refine bO (by assumption) ?_ ?_))) <;> (first | omega | (simp <;> omega))))
   clear hc1 hA1
   go_wp2_with fail
   (go_at_call 89; refine (wlimbs_any n _ b _ (HB.out.below HB1.out) (by omega)).mono ?_; rintro e w2 ⟨hb_w2, A2, c2, rfl, hc2, hA2⟩; have hz_w2 := hb_w2.size; (try simp at hz_w2); (with_reducible apply cal2 (b := w.heap.size) hb_w2); (focus (go_simp; try exact ⟨rfl, rfl⟩)); intro cc cc fz hl; (with_reducible apply cal2 (b := w.heap.size + 1) hb_w2); (focus (go_simp; try exact ⟨rfl, rfl⟩)); intro cc cc fz hl; (with_reducible apply cal2 (b := w.heap.size + 1 + 1) hb_w2); (focus (go_simp; try exact ⟨rfl, rfl⟩)); intro cc cc fz hl)
   clear hc2 hA2
   go_wp2_with fail
   refine bodyPost_ret (v := .agg #[.bool false, .slice none 0 0]) (by simp only [results, Tryz.results56]; go_simp) rfl ⟨?_, ?_⟩
   · exact HB1.out.trans (by ((with_reducible (repeat (first | exact bR _ _ | apply bS | apply bA | apply bD | refine bT ?_ (by assumption) ?_ | refine bO (by assumption) ?_ ?_))) <;> (first | omega | (simp <;> omega))))
   · exact ⟨_, rfl, none, 0, by rw [show canN (0 : Int).natAbs = [] from canN_zero]; rfl, by rw [show canN (0 : Int).natAbs = [] from canN_zero]; exact Nat.le_refl _, by rw [show canN (0 : Int).natAbs = [] from canN_zero]; exact LAt.nil _ _⟩
set_option maxRecDepth 100000 in
set_option maxHeartbeats 8000000 in
theorem wmul_pos (n : Nat) (u v : Value) (z1 z2 : Int) (w : World) (hza : IsZ w u n z1) (hzb : IsZ w v n z2) (hnn0 : n ≤ 400000) (ha0 : z1 ≠ 0) (hb0 : z2 ≠ 0) :
  Calls Tryz.prog 56 #[u, v] w (ZOut (z1 * z2) w) := by
 have HZA := hQ0 hza
 have HZB := hQ0 hzb
 have la := isZ_len hza
 have lb := isZ_len hzb
 obtain ⟨p0, A0, c0', l0, rfl⟩ := isZ_val hza
 obtain ⟨p', A', c', l', rfl⟩ := isZ_val hzb
 have b1 := canN_ne0 (x := z1.natAbs) (by omega)
 have b2 := canN_ne0 (x := z2.natAbs) (by omega)
 clear hza hzb
 obtain ⟨a, ha⟩ : ∃ a, a = canN z1.natAbs := ⟨_, rfl⟩
 obtain ⟨b, hb⟩ : ∃ b, b = canN z2.natAbs := ⟨_, rfl⟩
 have hml := fun w' (h : Below w.heap.size w w') => wlimbs_any n _ z1 w' (HZA.out.below h) (by omega)
 have hmr := fun w' (h : Below w.heap.size w w') => wlimbs_any n _ z2 w' (HZB.out.below h) (by omega)
 have HLA := hQ0 (show Lim a by rw [ha]; exact canN_lim _)
 have HLB := hQ0 (show Lim b by rw [hb]; exact canN_lim _)
 obtain ⟨sp, hsp⟩ : ∃ sp, sp = decide (z1 < 0) := ⟨_, rfl⟩
 obtain ⟨sq, hsq⟩ : ∃ sq, sq = decide (z2 < 0) := ⟨_, rfl⟩
 have hres : sv (sp != sq) (mv a * mv b) = z1 * z2 := by
  rw [ha, hb, mv_canN, mv_canN, hsp, hsq]
  exact (sv_mul (sv_natAbs z1).1.symm (sv_natAbs z2).1.symm).symm
 unfold LimOut at hml hmr
 rw [← ha, ← hsp] at hml
 rw [← hb, ← hsq] at hmr
 rw [← ha] at la b1
 rw [← hb] at lb b2
 obtain ⟨Z, hZ⟩ : ∃ Z, Z = z1 * z2 := ⟨_, rfl⟩
 rw [← hZ] at hres ⊢
 have HRES := hQ0 hres
 have HML := hQ0 hml
 have HMR := hQ0 hmr
 clear hml hmr hres hZ hsp hsq ha hb HZA HZB
 have hmk := fun w => run_make_row' (P := Tryz.prog) 42 107 (.int .u32 0) 4 Tryz.underlying42 limbInfo rfl .i64 .i64 (a.length + b.length) (by omega) (by omega) w
 obtain ⟨n', hnn⟩ : ∃ n, n = a.length + b.length := ⟨_, rfl⟩
 rw [Int.natCast_add] at hmk
 rw [← hnn] at hmk
 have n1 : (n' : Int) ≤ 800000 := by omega
 have HN := hQ0 hnn
 clear hnn
 go_enter Tryz.func56, Tryz.ntmps56; (try simp only [List.append_eq, List.cons_append, List.nil_append])
 go_wp2_with fail
 (go_at_call 89; refine (HML.out _ (by ((with_reducible (repeat (first | exact bR _ _ | apply bS | apply bA | apply bD | refine bT ?_ (by assumption) ?_ | refine bO (by assumption) ?_ ?_))) <;> (first | omega | (simp <;> omega))))).mono ?_; rintro e w1 ⟨hb_w1, A, c, rfl, hc1, hA1⟩; have hz_w1 := hb_w1.size; (try simp at hz_w1); (with_reducible apply cal2 (b := w.heap.size) hb_w1); (focus (go_simp; try exact ⟨rfl, rfl⟩)); intro cc cc fz hl; (with_reducible apply cal2 (b := w.heap.size + 1) hb_w1); (focus (go_simp; try exact ⟨rfl, rfl⟩)); intro cc cc fz hl; (with_reducible apply cal2 (b := w.heap.size + 1 + 1) hb_w1); (focus (go_simp; try exact ⟨rfl, rfl⟩)); intro cc cc fz hl)
 have HA1 := hQ0 hA1
 have HB1 := hQ0 (show Below w.heap.size w w1 by ((with_reducible (repeat (first | exact bR _ _ | apply bS | apply bA | apply bD | refine bT ?_ (by assumption) ?_ | refine bO (by assumption) ?_ ?_))) <;> (first | omega | (simp <;> omega))))
 clear hc1 hA1
 go_wp2_with fail
 (go_at_call 89; refine (HMR.out _ HB1.out).mono ?_; rintro e w2 ⟨hb_w2, B, c2, rfl, hc2, hA2⟩; have hz_w2 := hb_w2.size; (try simp at hz_w2); (with_reducible apply cal2 (b := w.heap.size) hb_w2); (focus (go_simp; try exact ⟨rfl, rfl⟩)); intro cc cc fz hl; (with_reducible apply cal2 (b := w.heap.size + 1) hb_w2); (focus (go_simp; try exact ⟨rfl, rfl⟩)); intro cc cc fz hl; (with_reducible apply cal2 (b := w.heap.size + 1 + 1) hb_w2); (focus (go_simp; try exact ⟨rfl, rfl⟩)); intro cc cc fz hl)
 have HB := hQ0 hA2
 have HA := hQ0 (HA1.out.below hb_w2)
 have HB2 := hQ0 (HB1.out.trans (hb_w2.mono (by have := HB1.out.size; omega)))
 have hz2 : w.heap.size + 1 + 1 + 1 ≤ w2.heap.size := by omega
 clear hc2 hA2 hb_w1 hb_w2 HA1 HB1 hz_w1 hz_w2
 go_wp2_with fail
 clear hmk
 have hg0 : w2.heap.size < w2.heap.size + 1 := by omega
 go_loopw [10, 11, 12, 13, 14, 15, 43, 48, 49, 50] (fun _ _ _ _ _ _ vi _ _ _ wr => ∃ (p : Nat) (L : List Int), p ≤ a.length ∧ vi = .int .i64 p ∧ RowL wr w2.heap.size L ∧ Hid (L.length = n' ∧ Lim L ∧ mv L = mv (a.take p) * mv b ∧ ∀ j, p + b.length ≤ j → j < n' → L[j]? = some 0) ∧ Below w2.heap.size w2 wr) (fun _ _ _ _ _ _ vi _ _ _ _ => (a.length - (intOf vi).toNat))
 case atStart => exact ⟨0, List.replicate n' 0, by omega, rfl, RowL.made w2 n', hQ0 ⟨by simp, Lim.replicate n', by rw [mv_replicate]; simp [mv], fun j _ hj => by simp [hj]⟩, (Below.refl _ _).alloc (Nat.le_refl _) _⟩
 case round =>
  obtain ⟨p, L, hp, rfl, hrow, HO, hbel⟩ := hrel
  obtain ⟨wo, rfl⟩ : ∃ wo : World, wo = wr := ⟨_, rfl⟩
  have i1 : (0 : Int) ≤ (p : Int) := by omega
  have i3 : (p : Int) ≤ 1000000 := by omega
  have HBE := hQ0 hbel
  have HR := hQ0 hrow
  clear hbel hrow
  by_cases hpa : p < a.length
  · obtain ⟨x, hx⟩ : ∃ x, a[p]? = some x := ⟨a[p], by simp⟩
    obtain ⟨x0, x1⟩ := HLA.out.get hx
    have HX := hQ0 hx
    have j1 : (p : Int) < (a.length : Int) := by omega
    clear hx
    obtain ⟨ga, oa, rfl, hga, hcga⟩ := HA.out.below HBE.out p x HX.out
    go_wp2_with fail
    clear hcga
    go_loopw [12, 13, 14, 15, 50] (fun vc _ _ _ vk ws => ∃ (k : Nat) (cc : Int) (L' : List Int), k ≤ b.length ∧ vk = .int .i64 k ∧ vc = .int .u64 cc ∧ 0 ≤ cc ∧ cc < 4294967296 ∧ RowL ws w2.heap.size L' ∧ Hid (L'.length = n' ∧ Lim L' ∧ mv L' + PB (p + k) * cc = mv (a.take p) * mv b + PB p * x * mv (b.take k) ∧ ∀ j, p + b.length ≤ j → j < n' → L'[j]? = some 0) ∧ Below w2.heap.size w2 ws) (fun _ _ _ _ vk _ => (b.length - (intOf vk).toNat))
    case atStart => exact ⟨0, 0, L, by omega, rfl, rfl, by omega, by omega, HR.out, hQ0 ⟨HO.out.1, HO.out.2.1, by rw [HO.out.2.2.1]; simp [mv], HO.out.2.2.2⟩, HBE.out⟩
    case round =>
     obtain ⟨k, cc, L', hk, rfl, rfl, c0, c1, hrow, HO', hbel⟩ := hrel
     have k1 : (0 : Int) ≤ (k : Int) := by omega
     have k2 : (k : Int) ≤ 1000000 := by omega
     have hlt := hrow.lt
     have hfz := hrow.frozen
     have hz := hbel.size
     have HBE2 := hQ0 hbel
     have HR2 := hQ0 hrow
     clear hbel hrow
     by_cases hkb : k < b.length
     · obtain ⟨y, hy⟩ : ∃ y, b[k]? = some y := ⟨b[k], by simp⟩
       obtain ⟨gb, ob, rfl, hgb, hc2⟩ := HB.out.below HBE2.out k y hy
       obtain ⟨y0, y1⟩ := HLB.out.get hy
       have hpn : p + k < n' := by have := HN.out; omega
       obtain ⟨z, hzz⟩ : ∃ z, L'[p + k]? = some z := ⟨L'[p + k]'(by have := HO'.out.1; omega), by simp⟩
       obtain ⟨z0, z1⟩ := HO'.out.2.1.get hzz
       have hc3 := HR2.out.cell hzz
       have HY := hQ0 hy
       have HZ := hQ0 hzz
       have j2 : (k : Int) < (b.length : Int) := by omega
       have j3 : (0 : Int) ≤ (p : Int) + (k : Int) := by omega
       have j4 : (p : Int) + (k : Int) < (n' : Int) := by omega
       obtain ⟨q1, q2⟩ := mul_lim x0 x1 y0 y1
       have q3 : 0 ≤ x * y + z := by omega
       have q4 : x * y + z < 18446744073709551616 := by omega
       have q5 : 0 ≤ x * y + z + cc := by omega
       have q6 : x * y + z + cc < 18446744073709551616 := by omega
       have HST := hQ0 (mul_step HO'.out.2.2.1 HZ.out HY.out (s := x * y + z + cc) (by omega))
       clear hy hzz
       go_wp2_with fail
       go_roundw
       case rel =>
        refine ⟨k + 1, (x * y + z + cc) / 4294967296, L'.set (p + k) ((x * y + z + cc) % 4294967296), by omega, by go_num, rfl, by omega, by omega, HR2.out.set _ _, hQ0 ⟨by rw [List.length_set]; exact HO'.out.1, HO'.out.2.1.set _ (by omega) (by omega), HST.out, fun j h1 h2 => ?_⟩, HBE2.out.setCell (Nat.le_refl _) _⟩
        rw [List.getElem?_set_ne (by omega)]
        exact HO'.out.2.2.2 j h1 h2
       case measure => simp [intOf]; omega
     · obtain rfl : k = b.length := by omega
       have hpn : p + b.length < n' := by have := HN.out; omega
       have hzz := HO'.out.2.2.2 (p + b.length) (Nat.le_refl _) hpn
       have hc3 := HR2.out.cell hzz
       have HZ := hQ0 hzz
       have j3 : (0 : Int) ≤ (p : Int) + (b.length : Int) := by omega
       have j4 : (p : Int) + (b.length : Int) < (n' : Int) := by omega
       have j5 : ¬ (b.length : Int) < (b.length : Int) := by omega
       clear hzz
       go_wp2_with fail
       go_roundw
       case rel =>
        refine ⟨p + 1, L'.set (p + b.length) cc, by omega, by go_num, HR2.out.set _ _, hQ0 ⟨by rw [List.length_set]; exact HO'.out.1, HO'.out.2.1.set _ (by omega) (by omega), ?_, fun j h1 h2 => ?_⟩, HBE2.out.setCell (Nat.le_refl _) _⟩
        · have h1 := HO'.out.2.2.1
          rw [List.take_length] at h1
          rw [mv_set HZ.out, mv_take_succ HX.out, Int.add_mul, Int.sub_zero]
          rw [← h1]
        · rw [List.getElem?_set_ne (by omega)]
          exact HO'.out.2.2.2 j (by omega) h2
       case measure => simp [intOf]; omega
  · obtain rfl : p = a.length := by omega
    have HF := hQ0 (show mv L = mv a * mv b by have := HO.out.2.2.1; rwa [List.take_length] at this)
    have HLL := HO.out.1
    have j5 : ¬ (a.length : Int) < (a.length : Int) := by omega
    have hmk := fun w' (h : LAt w' (some ⟨w2.heap.size, 0, none⟩) L) => wmade_any (sp != sq) (some ⟨w2.heap.size, 0, none⟩) L L.length w' HO.out.2.1 h (Nat.le_refl _) (by omega)
    rw [HF.out, HRES.out, HLL] at hmk
    have HMK := hQ0 hmk
    have HBR := hQ0 (HB2.out.trans (HBE.out.mono (by omega)))
    clear hmk HLL
    have hbq := HBE.out
    have hzq := hbq.size
    have hb_wo := HBE.out
    (with_reducible apply cel2 (b := w.heap.size) hb_wo); ((try simp) <;> omega); omega; (iterate 2 (focus (go_simp; try exact rfl))); (intro o; go_simp); intro cc cc fz hl; (with_reducible apply cel2 (b := w.heap.size + 1) hb_wo); ((try simp) <;> omega); omega; (iterate 2 (focus (go_simp; try exact rfl))); (intro o; go_simp); intro cc cc fz hl; (with_reducible apply cel2 (b := w.heap.size + 1 + 1) hb_wo); ((try simp) <;> omega); omega; (iterate 2 (focus (go_simp; try exact rfl))); (intro o; go_simp); intro cc cc fz hl
    clear hb_wo hbq
    go_wp2_with fail
    (go_at_call 91; refine (HMK.out _ HR.out.lat).mono ?_; rintro e w3 ⟨hb_w3, v4, rfl, A4, c4, rfl, hc4, hA4⟩; have hz_w3 := hb_w3.size; (try simp at hz_w3); (with_reducible apply cal2 (b := w.heap.size) hb_w3); (focus (go_simp; try exact ⟨rfl, rfl⟩)); intro cc cc fz hl; (with_reducible apply cal2 (b := w.heap.size + 1) hb_w3); (focus (go_simp; try exact ⟨rfl, rfl⟩)); intro cc cc fz hl; (with_reducible apply cal2 (b := w.heap.size + 1 + 1) hb_w3); (focus (go_simp; try exact ⟨rfl, rfl⟩)); intro cc cc fz hl)
    have HC4 := hQ0 hc4
    have HA4 := hQ0 hA4
    clear hA4 hc4
    go_wp2_with fail
    refine bodyPost_ret (v := .agg #[.bool (decide (Z < 0)), .slice A4 (canN Z.natAbs).length c4]) (by simp only [results, Tryz.results56]; go_simp) rfl ⟨?_, ?_⟩
    · exact HBR.out.trans (by ((with_reducible (repeat (first | exact bR _ _ | apply bS | apply bA | apply bD | refine bT ?_ (by assumption) ?_ | refine bO (by assumption) ?_ ?_))) <;> (first | omega | (simp <;> omega))))
    · exact ⟨_, rfl, A4, c4, rfl, HC4.out, HA4.out.set2 (by assumption) (by assumption) _ _⟩
theorem wmul_any (n : Nat) (u v : Value) (a b : Int) (w : World) (ha : IsZ w u n a) (hb : IsZ w v n b) (hn : n ≤ 400000) :
  Calls Tryz.prog 56 #[u, v] w (ZOut (a * b) w) := by
 by_cases h0 : a = 0 ∨ b = 0
 · have e : a * b = 0 := by rcases h0 with h | h <;> subst h <;> simp
   rw [e]
   exact wmul_zero n u v a b w ha hb hn h0
 · exact wmul_pos n u v a b w ha hb hn (fun h => h0 (.inl h)) (fun h => h0 (.inr h))
theorem wraps_u32' (n : Int) (h₀ : 0 ≤ n) (h₁ : n < 2 ^ 32) : IntKind.u32.wrap n = n := by rw [IntKind.wrap_u32]; omega
theorem shl_word {x z P : Int} {k : Nat} (hk : k ≤ 31) (hP : P = 2 ^ k) (x0 : 0 ≤ x) (x1 : x < 4294967296) (z0 : 0 ≤ z) (z1 : z < P) :
  IntKind.u64.wrap (x * 2 ^ k) = x * P ∧ 0 ≤ x * P ∧ x * P < 18446744073709551616 ∧ bits .or .u32 z (x * P % 4294967296) = z + x * P % 4294967296 ∧ z + x * P % 4294967296 < 4294967296 ∧ 0 ≤ x * P / 4294967296 ∧ x * P / 4294967296 < P ∧ min k 64 = k := by
 obtain ⟨p0, p1⟩ := pow2_bd hk
 obtain ⟨Q, hQ1, hQ⟩ := pow2_split hk
 rw [← hP] at p0 p1 hQ
 have m1 : x * P ≤ 4294967295 * P := Int.mul_le_mul_of_nonneg_right (by omega) (by omega)
 have m0 : 0 ≤ x * P := Int.mul_nonneg x0 (by omega)
 have e1 : x * P % 4294967296 = P * (x % Q) := by
  rw [hQ, Int.mul_comm x P]
  exact Int.mul_emod_mul_of_pos _ _ (by omega)
 have q1 := Int.emod_lt_of_pos x (show 0 < Q by omega)
 have q0 := Int.emod_nonneg x (show Q ≠ 0 by omega)
 have e2 : P * (x % Q) ≤ P * (Q - 1) := Int.mul_le_mul_of_nonneg_left (by omega) (by omega)
 rw [Int.mul_sub, Int.mul_one, ← hQ, ← e1] at e2
 refine ⟨by rw [← hP, IntKind.wrap_u64]; omega, m0, by omega, ?_, by omega, by omega, by omega, by omega⟩
 refine bits_join_low .u32 32 (by decide) wraps_u32' k z _ z0 (by rw [← hP]; exact z1) (by omega) (by omega) ?_ (by omega)
 rw [e1, ← hP]
 exact Int.mul_emod_right _ _
theorem shl_step {L m : List Int} {W i : Nat} {P x z : Int} (h : mv L = PB W * (mv (m.take i) * P)) (hx : m[i]? = some x) (hz : L[i + W]? = some z) (hz2 : L[i + W + 1]? = some 0) :
  mv ((L.set (i + W) (z + x * P % 4294967296)).set (i + W + 1) (x * P / 4294967296)) = PB W * (mv (m.take (i + 1)) * P) := by
 have h2 : (L.set (i + W) (z + x * P % 4294967296))[i + W + 1]? = some 0 := by rw [List.getElem?_set_ne (by omega)]; exact hz2
 rw [mv_set h2, mv_set hz, mv_take_succ hx, h, PB_succ, PB_add]
 obtain ⟨S, hS⟩ : ∃ S, S = x * P % 4294967296 := ⟨_, rfl⟩
 obtain ⟨T, hT⟩ : ∃ T, T = x * P / 4294967296 := ⟨_, rfl⟩
 rw [← hS, ← hT]
 have e : S = x * P - 4294967296 * T := by omega
 rw [e]
 grind
def ShOut (n : Nat) (m : Int) (w : World) (e : Ending) (w' : World) : Prop := ∃ L : List Int, e = .returned (.slice (some ⟨w.heap.size, 0, none⟩) n n) ∧ L.length = n ∧ Lim L ∧ mv L = m ∧ RowL w' w.heap.size L ∧ Below w.heap.size w w'
theorem set2_get {L : List Int} {p : Nat} {a b : Int} (hl : p + 1 < L.length) : ((L.set p a).set (p + 1) b)[p + 1]? = some b := by simp [hl]
set_option maxRecDepth 100000 in
set_option maxHeartbeats 4000000 in
theorem wshifted_any (A : Option Addr) (a : List Int) (c k : Nat) (w : World) (ha : Lim a) (hn : a.length ≤ 1000000) (hk : k ≤ 31) (hA : LAt w A a) :
  Calls Tryz.prog 119 #[.slice A a.length c, .int .i64 k] w (ShOut (a.length + 1) (mv a * 2 ^ k) w) := by
 have hmk := fun w => run_make_row' (P := Tryz.prog) 42 107 (.int .u32 0) 4 Tryz.underlying42 limbInfo rfl .i64 .i64 (a.length + 1) (by omega) (by omega) w
 obtain ⟨n, hnn⟩ : ∃ n, n = a.length + 1 := ⟨_, rfl⟩
 have e1 : ((a.length + 1 : Nat) : Int) = (a.length : Int) + 1 := by omega
 rw [e1] at hmk
 clear e1
 rw [← hnn] at hmk ⊢
 have n1 : (n : Int) = a.length + 1 := by omega
 have k0 : (0 : Int) ≤ (k : Int) := by omega
 have k1 : (k : Int) ≤ 31 := by omega
 obtain ⟨P, hP⟩ : ∃ P : Int, P = 2 ^ k := ⟨_, rfl⟩
 rw [← hP]
 have HN := hQ0 hnn
 have HA := hQ0 hA
 have HLA := hQ0 ha
 have HP := hQ0 hP
 have N1 := hQ0 n1
 have HP0 := hQ0 (show 0 < P by have := (pow2_bd hk).1; rw [← hP] at this; omega)
 have HREP := hQ0 (show (List.replicate n (0 : Int))[0]? = some 0 by rw [List.getElem?_replicate, if_pos (by omega)])
 clear hA ha hnn n1 hP
 go_enter Tryz.func119, Tryz.ntmps119; (try simp only [List.append_eq, List.cons_append, List.nil_append])
 go_wp2_with fail
 clear hmk
 have hg0 : w.heap.size < w.heap.size + 1 := by omega
 go_loopw [6, 7, 8, 15] (fun _ _ _ vi wr => ∃ (i : Nat) (L : List Int), i ≤ a.length ∧ vi = .int .i64 i ∧ RowL wr w.heap.size L ∧ Hid (L.length = n ∧ Lim L ∧ mv L = PB 0 * (mv (a.take i) * P) ∧ (∃ z, L[i]? = some z ∧ z < P) ∧ ∀ j, i < j → j < n → L[j]? = some 0) ∧ Below w.heap.size w wr) (fun _ _ _ vi _ => (a.length - (intOf vi).toNat))
 case atStart => exact ⟨0, List.replicate n 0, by omega, rfl, RowL.made w n, hQ0 ⟨by simp, Lim.replicate n, by rw [mv_replicate]; simp [mv], ⟨0, HREP.out, HP0.out⟩, fun j _ hj => by simp [hj]⟩, (Below.refl _ _).alloc (Nat.le_refl _) _⟩
 case round =>
  obtain ⟨i, L, hi, rfl, hrow, HO, hbel⟩ := hrel
  have i1 : (0 : Int) ≤ (i : Int) := by omega
  have i3 : (i : Int) ≤ 1000000 := by omega
  have hz := hbel.size
  have hlt := hrow.lt
  have hfz := hrow.frozen
  have HBE := hQ0 hbel
  have HR := hQ0 hrow
  clear hbel
  by_cases hia : i < a.length
  · obtain ⟨x, hx⟩ : ∃ x, a[i]? = some x := ⟨a[i], by simp⟩
    obtain ⟨g, o, rfl, hg, hcg⟩ := HA.out.below HBE.out i x hx
    obtain ⟨x0, x1⟩ := HLA.out.get hx
    obtain ⟨z, hzz, hzP⟩ := HO.out.2.2.2.1
    obtain ⟨z0, z1⟩ := HO.out.2.1.get hzz
    have hzz2 := HO.out.2.2.2.2 (i + 1) (by omega) (by have := HN.out; omega)
    have hc3 := hrow.cell hzz
    have hc4 := hrow.cell hzz2
    obtain ⟨q1, q2, q3, q4, q5, q6, q7, q8⟩ := shl_word hk HP.out x0 x1 z0 hzP
    have HST := hQ0 (shl_step (W := 0) HO.out.2.2.1 hx hzz hzz2)
    obtain ⟨S, hS⟩ : ∃ S, S = x * P := ⟨_, rfl⟩
    rw [← hS] at q1 q2 q3 q4 q5 q6 q7 HST
    obtain ⟨T, hT⟩ : ∃ T, T = z + S % 4294967296 := ⟨_, rfl⟩
    rw [← hT] at q4 q5 HST
    have q9 : 0 ≤ T := by omega
    have Q7 := hQ0 q7
    have q10 : S / 4294967296 < 4294967296 := by omega
    have q11 : S / 4294967296 % 4294967296 = S / 4294967296 := by omega
    have j1 : (i : Int) < (a.length : Int) := by omega
    have j2 : (i : Int) < (n : Int) := by have := HN.out; omega
    have j3 : (i : Int) + 1 < (n : Int) := by have := HN.out; omega
    have HLL := hQ0 (show i + 1 < L.length by have := HN.out; have := HO.out.1; omega)
    clear hx hzz hzz2 hS hT hrow hzP q7
    go_wp2_with fail
    go_roundw
    case rel => exact ⟨i + 1, (L.set i T).set (i + 1) (S / 4294967296), by omega, by go_num, (HR.out.set _ _).set _ _, hQ0 ⟨by rw [List.length_set, List.length_set]; exact HO.out.1, (HO.out.2.1.set _ q9 q5).set _ q6 q10, HST.out, ⟨_, set2_get HLL.out, Q7.out⟩, fun j h1 h2 => by rw [List.getElem?_set_ne (by omega), List.getElem?_set_ne (by omega)]; exact HO.out.2.2.2.2 j (by omega) h2⟩, (HBE.out.setCell (Nat.le_refl _) _).setCell (Nat.le_refl _) _⟩
    case measure => simp [intOf]; omega
  · obtain rfl : i = a.length := by omega
    have HF := hQ0 (show mv L = mv a * P by have := HO.out.2.2.1; rw [List.take_length, PB_zero, Int.one_mul] at this; exact this)
    have j5 : ¬ (a.length : Int) < (a.length : Int) := by omega
    clear hrow
    go_wp2_with fail
    go_ret
    exact ⟨L, rfl, HO.out.1, HO.out.2.1, HF.out, HR.out, HBE.out⟩
theorem canN_take_any {l : List Int} (hl : Lim l) : l.take (canN (mv l).toNat).length = canN (mv l).toNat := by
 have key : ∀ n, n ≤ l.length → (∀ k x, l[k]? = some x → n ≤ k → x = 0) → l.take (canN (mv l).toNat).length = canN (mv l).toNat := by
  intro n
  induction n with
  | zero =>
   intro hn hz
   have h := canN_take hl hn hz (fun x h => absurd h (by omega))
   rw [← h]; simp
  | succ n ih =>
   intro hn hz
   obtain ⟨x, hx⟩ : ∃ x, l[n]? = some x := ⟨l[n], by simp⟩
   by_cases h0 : x = 0
   · refine ih (by omega) (fun k y hy hk => ?_)
     rcases Nat.lt_or_ge n k with h | h
     · exact hz k y hy h
     · obtain rfl : k = n := by omega
       rw [hx] at hy
       rw [← Option.some.inj hy]; exact h0
   · have h := canN_take hl hn hz (fun y _ hy => by
      rw [Nat.add_sub_cancel, hx] at hy
      rw [← Option.some.inj hy]; exact h0)
     have hlen : (canN (mv l).toNat).length = n + 1 := by rw [← h, List.length_take]; omega
     rw [hlen]; exact h
 exact key l.length (Nat.le_refl _) (fun k x hx hk => by have := (List.getElem?_eq_some_iff.1 hx).1; omega)
def QsOut (n : Nat) (m d : Int) (w : World) (e : Ending) (w' : World) : Prop := ∃ (out : List Int) (r : Int), e = .returned (.tuple #[.slice (some ⟨w.heap.size, 0, none⟩) n n, .int .u32 r]) ∧ out.length = n ∧ Lim out ∧ m = mv out * d + r ∧ 0 ≤ r ∧ r < d ∧ RowL w' w.heap.size out ∧ Below w.heap.size w w'
set_option maxRecDepth 100000 in
set_option maxHeartbeats 2000000 in
theorem wqsmall_any (A : Option Addr) (a : List Int) (c : Nat) (b : Int) (w : World) (hLa : Lim a) (hn : a.length ≤ 1000000) (hA : LAt w A a) (hb0 : 0 < b) (hb1 : b < 4294967296) :
  Calls Tryz.prog 117 #[.slice A a.length c, .int .u32 b] w (QsOut a.length (mv a) b w) := by
 have hmk := fun w => run_make_row' (P := Tryz.prog) 42 107 (.int .u32 0) 4 Tryz.underlying42 limbInfo rfl .i64 .i64 a.length (by omega) (by omega) w
 have HA := hQ0 hA
 have HLA := hQ0 hLa
 clear hA hLa
 go_enter Tryz.func117, Tryz.ntmps117; (try simp only [List.append_eq, List.cons_append, List.nil_append])
 go_wp2_with fail
 clear hmk
 have hg0 : w.heap.size < w.heap.size + 1 := by omega
 go_loopw [7, 8, 9] (fun vr vi _ wr => ∃ (k : Nat) (r : Int) (out : List Int), k ≤ a.length ∧ vi = .int .i64 ((k : Int) - 1) ∧ vr = .int .u64 r ∧ 0 ≤ r ∧ r < b ∧ RowL wr w.heap.size out ∧ Hid (out.length = a.length ∧ Lim out ∧ mv (a.drop k) = mv (out.drop k) * b + r) ∧ Below w.heap.size w wr) (fun _ vi _ _ => (intOf vi + 1).toNat)
 case atStart => exact ⟨a.length, 0, List.replicate a.length 0, by omega, rfl, rfl, by omega, by omega, RowL.made w a.length, hQ0 ⟨by simp, Lim.replicate _, by rw [List.drop_length, List.drop_of_length_le (by simp)]; simp [mv]⟩, (Below.refl _ _).alloc (Nat.le_refl _) _⟩
 case round =>
  obtain ⟨k, r, out, hk, rfl, rfl, r0, r1, hrow, HO, hbel⟩ := hrel
  have HBE := hQ0 hbel
  have HR := hQ0 hrow
  have hsz := hbel.size
  clear hbel hrow
  rcases k with _ | j
  · have HF := hQ0 (show mv a = mv out * b + r by have := HO.out.2.2; rwa [List.drop_zero, List.drop_zero] at this)
    have e0 : r % 4294967296 = r := by omega
    go_wp2_with fail
    go_ret2
    exact ⟨out, r, rfl, HO.out.1, HO.out.2.1, HF.out, r0, r1, HR.out, HBE.out⟩
  · obtain ⟨z, hz⟩ : ∃ z, a[j]? = some z := ⟨a[j], by simp⟩
    obtain ⟨g, o, rfl, hg, hc1⟩ := HA.out.below HBE.out j z hz
    obtain ⟨z0, z1⟩ := HLA.out.get hz
    have HZ := hQ0 hz
    have hjo : j < out.length := by have := HO.out.1; omega
    have i1 : (0 : Int) ≤ (j : Int) := by omega
    have i2 : (j : Int) < (a.length : Int) := by omega
    have i3 : (a.length : Int) ≤ 1000000 := by omega
    obtain ⟨v, hv⟩ : ∃ v, v = r * 4294967296 + z := ⟨_, rfl⟩
    have hsh : IntKind.u64.wrap (r * 4294967296) = r * 4294967296 := by rw [IntKind.wrap_u64]; omega
    have hor : bits .or .u64 (r * 4294967296) z = v := by
     rw [hv]
     exact bits_join .u64 64 (by decide) wraps_u64' 32 (r * 4294967296) z (by omega) (Int.mul_emod_left _ _) (by omega) z0 (by omega) (by omega)
    have v0 : 0 ≤ v := by omega
    have v1 : v < 18446744073709551616 := by omega
    obtain ⟨q, hq⟩ : ∃ q, q = v / b := ⟨_, rfl⟩
    obtain ⟨s, hs⟩ : ∃ s, s = v % b := ⟨_, rfl⟩
    have q0 : 0 ≤ q := by rw [hq]; exact Int.ediv_nonneg v0 (by omega)
    have q1 : q < 4294967296 := by
     rw [hq]
     refine Int.ediv_lt_of_lt_mul (by omega) ?_
     have : (r + 1) * 4294967296 ≤ b * 4294967296 := Int.mul_le_mul_of_nonneg_right (by omega) (by omega)
     rw [hv]; omega
    have s0 : 0 ≤ s := by rw [hs]; exact Int.emod_nonneg _ (by omega)
    have s1 : s < b := by rw [hs]; exact Int.emod_lt_of_pos _ hb0
    have hqs : v = b * q + s := by rw [hq, hs]; exact (Int.mul_ediv_add_emod _ _).symm
    have HST := hQ0 (one_step (q := q) (r' := s) HO.out.2.2 HZ.out hjo hv hqs)
    have e1 : v.tdiv b = q := by rw [hq]; exact Int.tdiv_eq_ediv_of_nonneg v0
    have e2 : v.tmod b = s := by rw [hs]; exact Int.tmod_eq_emod_of_nonneg v0
    have e3 : IntKind.u64.wrap (v.tdiv b) = q := by rw [e1]; exact wraps_u64' q q0 (by omega)
    have n0 : (b == 0) = false := by rw [beq_eq_false_iff_ne]; omega
    have n1 : ¬ b = 0 := by omega
    have e4 : q % 4294967296 = q := by omega
    have HV := hQ0 hv
    have hq' := hq.symm
    have hs' := hs.symm
    clear hv hq hs hqs hz
    go_wp2_with fail
    refine wp_region_float (w.heap.size) 14 (by omega) (fun W => RowL W w.heap.size out) (HR.out) (fun W W' h hb => h.below hb) (by kernel_rfl) (by simp) ?_
    refine wpI_start [0, 1, 2, 3, 4, 5, 6, 7, 8, 9, 10, 11] ?_; (iterate 12 (first | (apply wpI_step rfl (by kernel_rfl) rfl; (focus (intro W' hS; have hcS := hS.cells; go_simp; (iterate 2 (first | done | exact rfl | exact bB _ | go_simp)))); intro K hK; go_simp; (try go_bits); refine hK _ ?_; clear hK K))); refine wpI_nil ?_
    apply wpF_wild (i := 12) rfl (by kernel_rfl) (by kernel_rfl); intro W hF hS; have hcS := hS.1.cells; have k0 := hF.cell (List.getElem?_eq_getElem hjo); have k1 := hF.frozen; have k2 := hF.lt; go_simp
    refine WPost.mk _ (fun W' => RowL W' w.heap.size (out.set j q)) [] (hF.set _ _) (fun W W' h hb => h.below hb) ⟨hS.1.setCell (by simp) _, fun p hp => by cases hp⟩ ?_
    clear k0 k1 k2 hcS hS hF
    intro K hK; go_simp; refine hK _ ?_; clear hK K
    refine wpI_start [13] ?_; (iterate 1 (first | (apply wpI_step rfl (by kernel_rfl) rfl; (focus (intro W' hS; have hcS := hS.cells; go_simp; (iterate 2 (first | done | exact rfl | exact bB _ | go_simp)))); intro K hK; go_simp; (try go_bits); refine hK _ ?_; clear hK K))); refine wpI_nil ?_
    refine wpF_done (by kernel_rfl) ?_
    intro w4 hF4 hSG
    have HR4 := hQ0 hF4
    have HB4 := hQ0 (HBE.out.trans hSG.1.2)
    clear hF4 hSG
    (try simp only [List.drop_succ_cons, List.drop_zero])
    go_wp2_with fail
    go_roundw
    case rel => exact ⟨j, s, out.set j q, by omega, rfl, rfl, s0, s1, HR4.out, hQ0 ⟨by rw [List.length_set]; exact HO.out.1, HO.out.2.1.set _ q0 q1, HST.out⟩, HB4.out⟩
    case measure => simp [intOf]
def WDivOut (kx ky : Nat) (q r : Int) (w : World) (e : Ending) (w' : World) : Prop := Below w.heap.size w w' ∧ ∃ A1 c1 l1 A2 c2 l2, e = .returned (.tuple #[.slice A1 l1.length c1, .slice A2 l2.length c2]) ∧ l1.length ≤ c1 ∧ l2.length ≤ c2 ∧ Lim l1 ∧ Lim l2 ∧ mv l1 = q ∧ mv l2 = r ∧ l1.length ≤ kx ∧ l2.length ≤ ky ∧ LAt w' A1 l1 ∧ LAt w' A2 l2
set_option maxRecDepth 100000 in
set_option maxHeartbeats 1000000 in
theorem wquol_less (A B : Option Addr) (x y c d : Nat) (w : World) (hn : (canN x).length ≤ 400000) (hn' : (canN y).length ≤ 400000) (hA : LAt w A (canN x)) (hB : LAt w B (canN y)) (hxy : x < y) :
  Calls Tryz.prog 95 #[.slice A (canN x).length c, .slice B (canN y).length d] w (WDivOut 400000 400000 ((x / y : Nat) : Int) ((x % y : Nat) : Int) w) := by
 have hcm := fun w' h h' => wcmpl_any A B x y c d w' (by omega) (by omega) h h'
 rw [cmpI_lt (show (x : Int) < (y : Int) by omega)] at hcm
 have HCM := hQ0 hcm
 have HA := hQ0 hA
 have HB := hQ0 hB
 clear hcm hA hB
 rw [Nat.div_eq_of_lt hxy, Nat.mod_eq_of_lt hxy]
 go_enter Tryz.func95, Tryz.ntmps95; (try simp only [List.append_eq, List.cons_append, List.nil_append])
 go_wp2_with fail
 (go_at_call 111; refine (HCM.out _ HA.out HB.out).mono ?_; rintro e w1 ⟨rfl, hb_w1⟩; have hz_w1 := hb_w1.size; (try simp at hz_w1); skip)
 have HB1 := hQ0 hb_w1
 have HA1 := hQ0 (HA.out.below hb_w1)
 clear hb_w1
 go_wp2_with (at_builtin; go_must (refine wpList_append_limbs rfl _ _ rfl w1.heap.size (.slice none 0 0) [] rfl (OwnL.nil _ _) A c (canN x) rfl HA1.out (by simp; omega) (Nat.le_refl _) ?_))
 intro v2 w2 hown hg2
 have HB2 := hQ0 (HB1.out.trans (((Below.refl w1.heap.size w1).grown hg2 (Nat.le_refl _) (by simp [Value.ownBlock])).mono (by omega)))
 obtain ⟨A2, c2, rfl, hc2, _, hA2⟩ := lat_of_own hown
 have HC2 := hQ0 hc2
 have HA2 := hQ0 hA2
 clear hown hg2 hc2 hA2
 go_wp2_with fail
 go_ret2
 refine ⟨HB2.out, none, 0, [], A2, c2, canN x, rfl, Nat.le_refl _, HC2.out, Lim.nil, canN_lim _, rfl, mv_canN x, by simp, hn, LAt.nil _ _, HA2.out⟩
set_option maxRecDepth 100000 in
set_option maxHeartbeats 1000000 in
theorem wquol_one (A B : Option Addr) (x y c d : Nat) (w : World) (hn : (canN x).length ≤ 400000) (hA : LAt w A (canN x)) (hB : LAt w B (canN y)) (hxy : y ≤ x) (hy1 : (canN y).length = 1) :
  Calls Tryz.prog 95 #[.slice A (canN x).length c, .slice B (canN y).length d] w (WDivOut 400000 400000 ((x / y : Nat) : Int) ((x % y : Nat) : Int) w) := by
 have hcm := fun w' h h' => wcmpl_any A B x y c d w' (by omega) (by omega) h h'
 obtain ⟨cm, hcc⟩ : ∃ cm, cm = cmpI x y := ⟨_, rfl⟩
 have cm0 : 0 ≤ cm := by rw [hcc]; unfold cmpI; rw [if_neg (by omega)]; split <;> omega
 rw [← hcc] at hcm
 obtain ⟨a, ha⟩ : ∃ a, a = canN x := ⟨_, rfl⟩
 have hLa : Lim a := by rw [ha]; exact canN_lim x
 have hva : mv a = x := by rw [ha]; exact mv_canN x
 obtain ⟨b, hb⟩ : ∃ b, canN y = [b] := by
  match h : canN y, hy1 with
  | [b], _ => exact ⟨b, rfl⟩
 have hyb : (y : Int) = b := by have := mv_canN y; rw [hb, mv_one] at this; omega
 have hb1 : b < 4294967296 := by have := (canN_lim y) b (by rw [hb]; simp); omega
 have hb0 : 0 < b := by
  have := canN_last y b (by rw [hb]; rfl)
  have := (canN_lim y) b (by rw [hb]; simp)
  omega
 have hqs := fun w' h => wqsmall_any A a c b w' hLa (by rw [ha]; omega) h hb0 hb1
 rw [hb, ← ha] at hcm
 rw [hb] at hB
 rw [← ha] at hA hn
 rw [hb, ← ha]
 have HQS := hQ0 hqs
 have HCM := hQ0 hcm
 have HA := hQ0 hA
 have HB := hQ0 hB
 have HVA := hQ0 hva
 have HYB := hQ0 hyb
 clear hcm hA hB hcc ha hva hyb hLa hb hy1 hqs
 go_enter Tryz.func95, Tryz.ntmps95; (try simp only [List.append_eq, List.cons_append, List.nil_append])
 go_wp2_with fail
 (go_at_call 111; refine (HCM.out _ HA.out HB.out).mono ?_; rintro e w1 ⟨rfl, hb_w1⟩; have hz_w1 := hb_w1.size; (try simp at hz_w1); skip)
 have HB1 := hQ0 hb_w1
 have HA1 := hQ0 (HA.out.below hb_w1)
 obtain ⟨g', o', rfl, hg', hc2⟩ := HB.out.below hb_w1 0 b rfl
 rw [Nat.add_zero] at hc2
 clear hb_w1
 go_wp2_with fail
 clear hc2
 (go_at_call 117; refine (HQS.out _ HA1.out).mono ?_; rintro e w2 ⟨out, r, rfl, hol, hlo, hval, r0, r1, hrow, hb_w2⟩; have hz_w2 := hb_w2.size; (try simp at hz_w2); skip)
 have HF := hQ0 (show mv out = ((x / y : Nat) : Int) ∧ r = ((x % y : Nat) : Int) by
  rw [HVA.out, ← HYB.out] at hval
  rw [← HYB.out] at r1
  have hm0 := mv_nonneg hlo
  obtain ⟨Q, hQ⟩ := Int.eq_ofNat_of_zero_le hm0
  obtain ⟨R, hR⟩ := Int.eq_ofNat_of_zero_le r0
  rw [hQ, hR] at hval
  rw [hQ, hR]
  rw [hR] at r1
  have hyp : 0 < y := by have := HYB.out; omega
  have h1 : x = y * Q + R := by
   have : (x : Int) = ((y * Q + R : Nat) : Int) := by rw [hval, Int.natCast_add, Int.natCast_mul, Int.mul_comm]
   exact_mod_cast this
  have h2 : R < y := by omega
  rw [h1, Nat.mul_add_div hyp, Nat.div_eq_of_lt h2, Nat.mul_add_mod, Nat.mod_eq_of_lt h2]
  simp)
 have HLO := hQ0 hlo
 have HOL := hQ0 hol
 have HRW := hQ0 hrow.lat
 have HB2 := hQ0 (HB1.out.trans (hb_w2.mono HB1.out.size))
 have hr1 : r < 4294967296 := by omega
 clear hval hlo hol hrow hb_w2
 go_wp2_with fail
 go_ret2
 refine ⟨HB2.out.alloc (HB2.out.size) _, some ⟨w1.heap.size, 0, none⟩, a.length, out, some ⟨w2.heap.size, 0, none⟩, 1, [r], by rw [HOL.out]; rfl, by rw [HOL.out]; exact Nat.le_refl _, Nat.le_refl _, HLO.out, Lim.cons r0 hr1 Lim.nil, HF.out.1, by rw [mv_one]; exact HF.out.2, by rw [HOL.out]; exact hn, by simp, HRW.out.alloc _, lat_one (by simp) (by go_simp)⟩
end Go.Proofs.YtgejdaincnclpaaGreat
