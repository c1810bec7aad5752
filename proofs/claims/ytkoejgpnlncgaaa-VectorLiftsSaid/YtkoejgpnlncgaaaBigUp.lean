/- The contract of pinballref01.Up. -/
import Derived.Test.YtkoejgpnlncgaaaBigU
import Derived.Test.YtkoejgpnlncgaaaBigX
import Derived.Lib.EndianBits
namespace Go.Proofs.Ytkoejgpnlncgaaa
open Go Go.RowKit
set_option linter.unusedVariables false
theorem madeCells_list (W : Nat) : (madeCells #[Value.int .u32 0] W).toList = (List.replicate W 0).map (Value.int .u32) := by
  apply List.ext_getElem?
  intro i
  simp [madeCells, Nat.mod_one]
  rcases Nat.lt_or_ge i W with h | h
  · simp [h]
  · simp [Nat.not_lt.2 h]
theorem OwnL.made {w : World} {base : Nat} (W : Nat) (hb : base ≤ w.heap.size) (hW : W ≤ 1000000000) : OwnL (w.alloc (.cells (madeCells #[.int .u32 0] W) 87)) base (.slice (some ⟨w.heap.size, 0, none⟩) W W) (List.replicate W 0) := by
  have h2 : (madeCells #[Value.int .u32 0] W).size = W * 1 := by rw [size_madeCells, Nat.mul_one]
  refine ⟨by simp, .inr ⟨w.heap.size, W, madeCells #[.int .u32 0] W, by simp, hb, heap_alloc_new w _, by simp, by unfold maxLen; omega, h2, ?_⟩⟩
  rw [List.length_replicate, Nat.mul_one, List.take_of_length_le (by rw [Array.length_toList, size_madeCells]; exact Nat.le_refl _)]
  exact madeCells_list W
theorem pow2_bd {k : Nat} (h : k ≤ 31) : 1 ≤ (2 : Int) ^ k ∧ (2 : Int) ^ k ≤ 2147483648 := by
  have h1 : (2 : Nat) ^ k ≤ 2147483648 := Nat.le_trans (Nat.pow_le_pow_right (by omega) h) (by decide)
  have h2 : 1 ≤ (2 : Nat) ^ k := Nat.one_le_two_pow
  have e : ((2 ^ k : Nat) : Int) = (2 : Int) ^ k := by rw [Int.natCast_pow]; rfl
  omega
theorem wraps_u64' (n : Int) (h₀ : 0 ≤ n) (h₁ : n < 2 ^ 64) : IntKind.u64.wrap n = n := by rw [IntKind.wrap_u64]; omega
/-- A limb shifted, with what came over from the one before. -/
theorem up_word {x cc P : Int} {k : Nat} (hk : k ≤ 31) (hP : P = 2 ^ k) (x0 : 0 ≤ x) (x1 : x < 4294967296) (c0 : 0 ≤ cc) (c1 : cc < P) :
    IntKind.u64.wrap (x * 2 ^ k) = x * P ∧ bits .or .u64 (x * P) cc = x * P + cc ∧ 0 ≤ x * P + cc ∧ x * P + cc < 18446744073709551616 ∧ (x * P + cc) / 4294967296 < P ∧ 0 ≤ x * P ∧ min k 64 = k := by
  obtain ⟨p0, p1⟩ := pow2_bd hk
  rw [← hP] at p0 p1 ⊢
  have m1 : x * P ≤ 4294967295 * P := Int.mul_le_mul_of_nonneg_right (by omega) (by omega)
  have m0 : 0 ≤ x * P := Int.mul_nonneg x0 (by omega)
  refine ⟨by rw [IntKind.wrap_u64]; omega, ?_, by omega, by omega, by omega, m0, by omega⟩
  refine bits_join .u64 64 (by decide) wraps_u64' k (x * P) cc m0 ?_ (by omega) c0 (by rw [← hP]; exact c1) (by omega)
  rw [hP]
  exact Int.mul_emod_left _ _
theorem up_step {m out : List Int} {W i : Nat} {P cc x s : Int} (ho : out.length = W + i) (h : mv out + PB (W + i) * cc = PB W * (mv (m.take i) * P)) (hx : m[i]? = some x) (hs : s = x * P + cc) :
    mv (out ++ [s % 4294967296]) + PB (W + (i + 1)) * (s / 4294967296) = PB W * (mv (m.take (i + 1)) * P) := by
  rw [mv_snoc, ho, ← Nat.add_assoc, PB_succ, mv_take_succ hx]
  have e : s = s % 4294967296 + 4294967296 * (s / 4294967296) := by omega
  obtain ⟨S, hS⟩ : ∃ S, S = s % 4294967296 := ⟨_, rfl⟩
  obtain ⟨T, hT⟩ : ∃ T, T = s / 4294967296 := ⟨_, rfl⟩
  rw [← hS, ← hT] at e
  rw [← hS, ← hT]
  have e1 : S = x * P + cc - 4294967296 * T := by omega
  have e2 : PB (W + i) = PB W * PB i := PB_add _ _
  rw [e2] at h ⊢
  rw [e1]
  grind
set_option maxRecDepth 100000 in
set_option maxHeartbeats 1000000 in
theorem up_own (n : Nat) (u : Value) (a : Int) (wd k : Nat) (w : World) (ha : IsZ w u n a) (hn : n ≤ 400000) (hk : k ≤ 31) (hW : wd ≤ 400000) :
    Calls Try.prog 69 #[u, .int .i64 (32 * (wd : Int) + (k : Int))] w (ZOwn (a * (PB wd * 2 ^ k)) w) := by
  obtain ⟨p, A, c, l, rfl, hc, hL, hl, hAt, ea, ma, ca⟩ := isZ_open ha
  have hma := fun w' (h : Below w.heap.size w w') => mag_own A l c w' hL (hAt.below h) hc (by omega)
  rw [ma] at hma
  obtain ⟨x, hx⟩ : ∃ x, x = a.natAbs := ⟨_, rfl⟩
  rw [← hx] at hma ca ea
  obtain ⟨P, hP⟩ : ∃ P : Int, P = 2 ^ k := ⟨_, rfl⟩
  obtain ⟨Z, hZ⟩ : ∃ Z, Z = a * (PB wd * 2 ^ k) := ⟨_, rfl⟩
  have hz : Z = sv p (PB wd * ((x : Int) * P)) := by
    rw [hZ, ea, hP]
    unfold sv
    split <;> grind
  rw [← hZ]
  obtain ⟨N, hN⟩ : ∃ N : Int, N = 32 * (wd : Int) + (k : Int) := ⟨_, rfl⟩
  rw [← hN]
  have n0 : 0 ≤ N := by omega
  have n1 : N ≤ 100000000 := by omega
  have nq : N / 32 = (wd : Int) := by omega
  have nr : N % 32 = (k : Int) := by omega
  have k0 : (0 : Int) ≤ (k : Int) := by omega
  have k1 : (k : Int) ≤ 31 := by omega
  have hmk := fun w => run_make_row' (P := Try.prog) 63 87 (.int .u32 0) 4 Try.underlying63 limbInfo rfl .i64 .i64 wd (by omega) (by omega) w
  have HMA := Lib.hid hma
  have HZ := Lib.hid hz
  have HP := Lib.hid hP
  clear hma hz ma hx hZ ea hAt hL ha hP hN
  go_enter Try.func69, Try.ntmps69; (try simp only [List.append_eq, List.cons_append, List.nil_append])
  go_wp2_with fail
  clear hmk nq nr
  -- own blocks: w.heap.size:2, w.heap.size + 1:2
  have HOW := Lib.hid (show OwnL (((w.alloc (.cells #[.bool p, .slice A l.length c] 65)).alloc (.cells #[.bool false, .slice none 0 0] 65)).alloc (.cells (madeCells #[.int .u32 0] wd) 87)) (w.heap.size + 1 + 1) (.slice (some ⟨w.heap.size + 1 + 1, 0, none⟩) wd wd) (List.replicate wd 0) from by
    have h := OwnL.made (w := (w.alloc (.cells #[.bool p, .slice A l.length c] 65)).alloc (.cells #[.bool false, .slice none 0 0] 65)) (base := w.heap.size + 1 + 1) wd (by simp) (by omega)
    simpa using h)
  have HB0 := Lib.hid (show Below w.heap.size w (((w.alloc (.cells #[.bool p, .slice A l.length c] 65)).alloc (.cells #[.bool false, .slice none 0 0] 65)).alloc (.cells (madeCells #[.int .u32 0] wd) 87)) by ((with_reducible (repeat (first | exact bR _ _ | refine bS ?_ ?_ _ | refine bA ?_ ?_ _ | refine bD ?_ | refine bT ?_ (by assumption) ?_ | refine bO (by assumption) ?_ ?_))) <;> (first | omega | (simp; done) | (simp <;> omega))))
  (go_at_call 90; refine (HMA.out _ HB0.out).mono ?_; rintro e w4 ⟨hb_w4, A1, c1, rfl, hc1, hA1⟩; have hz_w4 := hb_w4.size; (try simp at hz_w4); (with_reducible apply cel2 (b := w.heap.size) hb_w4); (focus ((try simp) <;> omega)); (focus omega); (focus (go_simp; try exact rfl)); (focus (go_simp; try exact rfl)); (focus (intro o; go_simp)); intro cc cc fz hl; (with_reducible apply cel2 (b := w.heap.size + 1) hb_w4); (focus ((try simp) <;> omega)); (focus omega); (focus (go_simp; try exact rfl)); (focus (go_simp; try exact rfl)); (focus (intro o; go_simp)); intro cc cc fz hl)
  have HOW4 := Lib.hid (HOW.out.below hb_w4)
  have HB4 := Lib.hid (HB0.out.trans (hb_w4.mono (by simp <;> omega)))
  have HAG := Lib.hid (show ∀ g o, A1 = some ⟨g, o, none⟩ → w.heap.size + 1 + 1 + 1 ≤ g ∧ g < w4.heap.size from by simpa using hA1.addr)
  have HA1 := Lib.hid hA1.lat
  have HC1 := Lib.hid hc1
  have hz4 : w.heap.size + 1 + 1 + 1 ≤ w4.heap.size := by simpa using hb_w4.size
  clear hb_w4 hA1 hc1 HOW HB0
  have cx : (canN x).length ≤ 400000 := by omega
  go_wp2_with fail
  go_loopw [5, 6, 9, 10] (fun v vc vi _ wr => ∃ (i : Nat) (cy : Int) (out : List Int), i ≤ (canN x).length ∧ vi = .int .i64 i ∧ vc = .int .u32 cy ∧ 0 ≤ cy ∧ cy < 2147483648 ∧ OwnL wr (w.heap.size + 1 + 1) v out ∧ Hid (cy < P ∧ Lim out ∧ out.length = wd + i ∧ mv out + PB (wd + i) * cy = PB wd * (mv ((canN x).take i) * P)) ∧ w4.heap.size ≤ wr.heap.size ∧ Below (w.heap.size + 1 + 1) w4 wr ∧ LAt wr A1 (canN x) ∧ Hid (∀ g, v.ownBlock = some g → g = w.heap.size + 1 + 1 ∨ w4.heap.size ≤ g)) (fun _ _ vi _ _ => ((canN x).length - (intOf vi).toNat))
  case atStart => exact ⟨0, 0, List.replicate wd 0, by omega, rfl, rfl, by omega, by omega, HOW4.out, Lib.hid ⟨by have := (pow2_bd hk).1; rw [HP.out]; omega, Lim.replicate wd, by simp, by rw [mv_replicate]; simp [mv]⟩, Nat.le_refl _, Below.refl _ _, HA1.out, Lib.hid (fun g hg => by simp [Value.ownBlock] at hg; omega)⟩
  case round =>
    obtain ⟨i, cy, out, hi, rfl, rfl, c0, c1', hown, HO, hsz, hbel, hlat, HG⟩ := hrel
    have i1 : (0 : Int) ≤ (i : Int) := by omega
    have i3 : (i : Int) ≤ 400000 := by omega
    have HBE := Lib.hid hbel
    have HOW := Lib.hid hown
    have HLA := Lib.hid hlat
    clear hbel hown hlat
    by_cases hil : i < (canN x).length
    · obtain ⟨y, hy⟩ : ∃ y, (canN x)[i]? = some y := ⟨(canN x)[i], by simp⟩
      obtain ⟨g, o, rfl, hg, hcell⟩ := HLA.out i y hy
      obtain ⟨y0, y1⟩ := (canN_lim x).get hy
      obtain ⟨q1, q2, q3, q4, q5, q6, q7⟩ := up_word (x := y) (cc := cy) hk HP.out y0 y1 c0 HO.out.1
      obtain ⟨S, hS⟩ : ∃ S, S = y * P + cy := ⟨_, rfl⟩
      have HST := Lib.hid (up_step HO.out.2.2.1 HO.out.2.2.2 hy hS)
      rw [← hS] at q2 q3 q4 q5
      have q8 : S / 4294967296 < 2147483648 := by have := (pow2_bd hk).2; rw [← HP.out] at this; omega
      have q9 : 0 ≤ S / 4294967296 := by omega
      have Q5 := Lib.hid q5
      have j1 : (i : Int) < ((canN x).length : Int) := by omega
      have HY := Lib.hid hy
      have hol : out.length ≤ 800000 := by have := HO.out.2.2.1; omega
      clear hy hS q5
      go_wp2_with (at_builtin; go_must (refine wpList_append_limbs2 rfl _ _ rfl (w.heap.size + 1 + 1) _ out rfl (HOW.out.alloc _) (some ⟨wr.heap.size, 0, none⟩) 1 [S % 4294967296] rfl (lat_one (by simp) (by go_simp)) (by simp; omega) (by simp; omega) ?_))
      intro v1 w1 hown1 hg1 hat1
      have HB1 := Lib.hid ((HBE.out.alloc (by omega) _).grown hg1 (by simp; omega) HOW.out.fresh)
      have hag := HAG.out g o rfl
      have HL1 := Lib.hid ((HLA.out.alloc _).grown hg1 (fun g' o' he hh => by
        have h1 := HAG.out g' o' he
        rcases HG.out g' hh.symm with h2 | h2 <;> omega))
      have hsz1 : w4.heap.size ≤ w1.heap.size := by have := hg1.size; simp at this; omega
      have HG1 := Lib.hid (show ∀ g, v1.ownBlock = some g → g = w.heap.size + 1 + 1 ∨ w4.heap.size ≤ g from fun g' hh => by
        rcases hat1 with h1 | h1
        · rw [h1] at hh; exact HG.out g' hh
        · rw [h1] at hh; simp at hh; omega)
      have HO1 := Lib.hid hown1
      clear hg1 hown1 hat1 hag
      go_wp2_with fail
      go_roundw
      case rel => exact ⟨i + 1, S / 4294967296, out ++ [S % 4294967296], by omega, by go_num, rfl, q9, q8, HO1.out, Lib.hid ⟨Q5.out, HO.out.2.1.snoc (by omega) (by omega), by rw [List.length_append, HO.out.2.2.1]; rfl, HST.out⟩, hsz1, HB1.out, HL1.out, HG1⟩
      case measure => simp [intOf]; omega
    · obtain rfl : i = (canN x).length := by omega
      have HF := Lib.hid (show sv p (mv (out ++ [cy])) = Z by
        have h := HO.out.2.2.2
        rw [List.take_length, mv_canN] at h
        rw [mv_snoc, HO.out.2.2.1, h, HZ.out])
      have hlm := Lib.hid (HO.out.2.1.snoc (x := cy) c0 (by omega))
      have hol : out.length ≤ 800000 := by have := HO.out.2.2.1; omega
      have hb_wr := HBE.out
      (with_reducible apply cel2 (b := w.heap.size) hb_wr); (focus ((try simp) <;> omega)); (focus omega); (focus (go_simp; try exact rfl)); (focus (go_simp; try exact rfl)); (focus (intro o; go_simp)); intro cc cc fz hl; (with_reducible apply cel2 (b := w.heap.size + 1) hb_wr); (focus ((try simp) <;> omega)); (focus omega); (focus (go_simp; try exact rfl)); (focus (go_simp; try exact rfl)); (focus (intro o; go_simp)); intro cc cc fz hl
      clear hb_wr
      go_wp2_with fail
      refine wp_region_float (w.heap.size + 1 + 1) 7 (by omega) (fun W => OwnL W (w.heap.size + 1 + 1) _ out) (HOW.out) (OwnL.cl _ _ _) (by kernel_rfl) (by simp) ?_
      refine wpI_start [0, 1, 2, 3] ?_; (iterate 4 (first | (refine wpI_off rfl (by kernel_rfl) rfl (fun K hK => ?_); go_simp; refine hK _ ?_; clear hK K) | ((first | apply wpI_step rfl (by kernel_rfl) rfl | apply wpI_on rfl (by kernel_rfl) rfl); (focus (intro W' hS; have hcS := hS.cells.1; have hfS := hS.cells.2; go_simp; (first | done | exact rfl | exact ⟨rfl, Below.refl _ _⟩ | (go_simp; first | done | exact rfl | exact ⟨rfl, Below.refl _ _⟩)))); intro K hK; go_simp; (try go_bits); refine hK _ ?_; clear hK K))); refine wpI_nil ?_
      apply wpF_wild (i := 4) rfl (by kernel_rfl) (by kernel_rfl); intro W hF hS; have hcS := hS.1.cells.1; have hfS := hS.1.cells.2; go_simp
      refine WPost.mk _ (fun W' => OwnL W' (w.heap.size + 1 + 1) _ out ∧ LAt W' (some ⟨W.heap.size, 0, none⟩) [cy]) [] ⟨hF.alloc _, lat_one (by simp) (by go_simp)⟩ ((OwnL.cl _ _ _).and (LAt.cl _ _)) ⟨hS.1.alloc _, fun p hp => by cases hp⟩ ?_
      obtain ⟨g4, hg4⟩ : ∃ g4, g4 = W.heap.size := ⟨_, rfl⟩
      rw [← hg4]
      clear hcS hfS hS hF hg4
      intro K hK; go_simp; refine hK _ ?_; clear hK K
      apply wpF_wild (i := 5) rfl (by kernel_rfl) (by kernel_rfl); intro W hF hS; have hcS := hS.1.cells.1; have hfS := hS.1.cells.2; skip
      refine givesW_append _ _ rfl (w.heap.size + 1 + 1) _ out rfl hF.1 (some ⟨g4, 0, none⟩) 1 [cy] rfl hF.2 (by simp; omega) hS.1.1 ?_
      intro v' w' hown' hg' _
      obtain ⟨A5, c5, rfl, hc5, _, _⟩ := lat_of_own hown'
      refine WPost.mk _ (fun W' => OwnL W' (w.heap.size + 1 + 1) (.slice A5 (out ++ [cy]).length c5) (out ++ [cy])) [] hown' (OwnL.cl _ _ _) ⟨⟨Nat.le_trans hS.1.1 hg'.size, (hS.1.2).grown hg' hS.1.1 hF.1.fresh⟩, fun p hp => by cases hp⟩ ?_
      clear hcS hfS hS hF hown' hg'
      have HC5 := Lib.hid hc5
      clear hc5
      intro K hK; go_simp; refine hK _ ?_; clear hK K
      have hmk := fun w' (h : LAt w' A5 (out ++ [cy])) => make1_own p A5 (out ++ [cy]) c5 w' hlm.out h HC5.out (by rw [List.length_append]; simp; omega)
      rw [HF.out, show (out ++ [cy]).length = out.length + 1 by simp] at hmk
      have HMK := Lib.hid hmk
      clear hmk
      apply wpF_call (i := 6) rfl (by kernel_rfl) (by kernel_rfl); intro W hF hS; have hcS := hS.1.cells.1; have hfS := hS.1.cells.2; go_simp; (go_at_call 89; refine (HMK.out _ hF.lat).mono ?_; rintro e w10 ⟨hb_w10, A6, c6, rfl, hc6, hO6⟩; refine XPost.mk _ (fun W' => OwnL W' (w.heap.size + 1 + 1) (.slice A6 (canN Z.natAbs).length c6) (canN Z.natAbs)) hb_w10 (hO6.weak hS.1.1) (OwnL.cl _ _ _) ?_); clear hb_w10 hcS hfS hS hF
      intro K hK; go_simp; (try go_bits); refine hK _ ?_; clear hK K
      have HC6 := Lib.hid hc6
      clear hc6 hO6
      refine wpF_done (by kernel_rfl) ?_
      intro w11 hF11 hSG
      have hb_w11 := HBE.out.trans hSG.1.2
      have hz_w11 : w.heap.size + 1 + 1 ≤ w11.heap.size := hSG.1.1
      (with_reducible apply cel2 (b := w.heap.size) hb_w11); (focus ((try simp) <;> omega)); (focus omega); (focus (go_simp; try exact rfl)); (focus (go_simp; try exact rfl)); (focus (intro o; go_simp)); intro cc cc fz hl; (with_reducible apply cel2 (b := w.heap.size + 1) hb_w11); (focus ((try simp) <;> omega)); (focus omega); (focus (go_simp; try exact rfl)); (focus (go_simp; try exact rfl)); (focus (intro o; go_simp)); intro cc cc fz hl
      have HB11 := Lib.hid (HB4.out.trans (hb_w11.mono (by omega)))
      have HO11 := Lib.hid hF11.2
      clear hb_w11 hF11 hSG
      (try simp only [List.drop_succ_cons, List.drop_zero])
      go_wp2_with fail
      refine bodyPost_ret (v := .agg #[.bool (decide (Z < 0)), .slice A6 (canN Z.natAbs).length c6]) (by simp only [results, Try.results69]; go_simp) rfl ⟨?_, ?_⟩
      · exact (HB11.out.setCell (by simp <;> omega) _).setCell (by simp <;> omega) _
      · exact ⟨A6, c6, rfl, HC6.out, ((HO11.out.setCell (by simp) _).setCell (by simp) _).weak (by omega)⟩
theorem up_any (n : Nat) (u : Value) (a : Int) (wd k : Nat) (w : World) (ha : IsZ w u n a) (hn : n ≤ 400000) (hk : k ≤ 31) (hW : wd ≤ 400000) :
    Calls Try.prog 69 #[u, .int .i64 (32 * (wd : Int) + (k : Int))] w (ZOut (a * (PB wd * 2 ^ k)) w) := (up_own n u a wd k w ha hn hk hW).mono fun _ _ h => h.out
end Go.Proofs.Ytkoejgpnlncgaaa
