/- Law 17: within, usual, flip, flips, and the reference's Same at equal plans. -/
import Derived.Test.YtklkhnhieihfoaaSupF
namespace Go.Proofs.Ytklkhnhieihfoaa
open Go Go.RowKit
set_option linter.unusedVariables false
set_option maxHeartbeats 400000 in
theorem lwithin_any (x y n : Int) (w : World) (h0 : 0 ≤ n) (h1 : n ≤ 1000000000) :
    Calls Try.prog 13 #[.agg #[.int .i64 x, .int .i64 y], .int .i64 n] w fun e w' => e = .returned (.bool (withinB x y n)) ∧ Below w.heap.size w w' := by
  go_enter Try.func13, Try.ntmps13; (try simp only [List.append_eq, List.cons_append, List.nil_append])
  go_wp2
  all_goals
    go_ret
    refine ⟨ret_bool (bool_iff ?_), (Below.refl _ _).alloc (Nat.le_refl _) _⟩
    simp only [withinB, decide_eq_true_eq, Bool.false_eq_true, false_iff]; omega
def usualB (px py vx vy hx hy : Int) : Bool := withinB px py 1048576 && withinB vx vy 16384 && withinB hx hy 1024
set_option maxHeartbeats 400000 in
theorem usual_any (px py vx vy hx hy : Int) (w : World) :
    Calls Try.prog 12 #[.agg #[.int .i64 px, .int .i64 py, .int .i64 vx, .int .i64 vy, .int .i64 hx, .int .i64 hy]] w fun e w' => e = .returned (.bool (usualB px py vx vy hx hy)) ∧ Below w.heap.size w w' := by
  go_enter Try.func12, Try.ntmps12; (try simp only [List.append_eq, List.cons_append, List.nil_append])
  go_wp2_with (first | (go_at_call 13; refine (lwithin_any _ _ _ _ (by omega) (by omega)).mono ?_; rintro e w1 ⟨rfl, hb1⟩; have hz1 : w.heap.size + 1 ≤ w1.heap.size := (by have h := hb1.size; (try simp at h); omega); have hbb := Below.mono hb1 (B' := w.heap.size + 1) (by (try simp) <;> omega); clear hb1; (with_reducible apply cel6 (b := w.heap.size) hbb); (focus ((try simp) <;> omega)); (focus omega); (focus (go_simp; try exact rfl)); (focus (go_simp; try exact rfl)); (focus (go_simp; try exact rfl)); (focus (go_simp; try exact rfl)); (focus (go_simp; try exact rfl)); (focus (go_simp; try exact rfl)); (focus (intro o; go_simp)); intro cc cc cc cc cc cc fz hl))
  all_goals
    go_ret
    refine ⟨ret_bool ?_, ?_⟩
    · simp_all [usualB]
    · ((with_reducible (repeat (first | exact bR _ _ | refine bS ?_ ?_ _ | refine bA ?_ ?_ _ | refine bD ?_ | refine bT ?_ (by assumption) ?_ | refine bO (by assumption) ?_ ?_))) <;> (first | omega | (simp; done) | (simp <;> omega)))
theorem lflip_sm (a b : Int) (w : World) (h : smallB a b = true) :
    Calls Try.prog 16 #[.agg #[.int .i64 a, .int .i64 b]] w fun e w' => e = .returned (.agg #[.int .i64 (-a), .int .i64 b]) ∧ Below w.heap.size w w' := by
  obtain ⟨q1, q2, q3, q4⟩ := small_bd h
  go_enter Try.func16, Try.ntmps16; (try simp only [List.append_eq, List.cons_append, List.nil_append])
  go_wp2_with fail
  refine bodyPost_ret (v := .agg #[.int .i64 (-a), .int .i64 b]) (by simp only [results, Try.results16]; go_simp) rfl ⟨?_, ?_⟩
  · rfl
  · ((with_reducible (repeat (first | exact bR _ _ | refine bS ?_ ?_ _ | refine bA ?_ ?_ _ | refine bD ?_ | refine bT ?_ (by assumption) ?_ | refine bO (by assumption) ?_ ?_))) <;> (first | omega | (simp; done) | (simp <;> omega)))
set_option maxHeartbeats 2000000 in
theorem lflips_any (l : List V2) (A : Option Addr) (c : Nat) (w : World) (hl : l.length ≤ 1000) (hV : VAt w A l) (hs : ∀ n ∈ l, smB n = true) :
    Calls Try.prog 17 #[.slice A l.length c] w (FOut (l.map flipV) w) := by
  obtain ⟨i0, hi0, hy0, hy1, hy2⟩ := info_parts vecInfo
  have HV := Lib.hid hV
  have HS := Lib.hid hs
  clear hV hs
  go_enter Try.func17, Try.ntmps17; (try simp only [List.append_eq, List.cons_append, List.nil_append])
  go_wp2_with fail
  go_loopw [3, 4] (fun v vi wr => ∃ k : Nat, k ≤ l.length ∧ vi = .int .i64 k ∧ wr.ownsRow w.heap.size 23 2 v k (flatV ((l.take k).map flipV)) ∧ Below w.heap.size w wr) (fun _ vi _ => l.length - (intOf vi).toNat)
  case atStart => exact ⟨0, by omega, rfl, World.ownsRow_nil _ _ _ _, Below.refl _ _⟩
  case round =>
    obtain ⟨k, hk, rfl, hown, hbel⟩ := hrel
    have hz := hbel.size
    have HO := Lib.hid hown
    have HB := Lib.hid hbel
    have i1 : (0 : Int) ≤ (k : Int) := by omega
    by_cases hlt : k < l.length
    · obtain ⟨⟨xa, xb⟩, hx⟩ : ∃ x, l[k]? = some x := ⟨l[k], by simp⟩
      obtain ⟨g, o, rfl, hg, c0, c1⟩ := (HV.out.below hbel (Nat.le_refl _)) k _ hx
      have hsx : smallB xa xb = true := HS.out _ (List.mem_of_getElem? hx)
      have HX := Lib.hid hx
      have i2 : (k : Int) < (l.length : Int) := by omega
      clear hx hown hbel
      simp only at c0 c1
      go_wp2_with fail
      -- own blocks: 
      (go_at_call 16; refine (lflip_sm _ _ _ hsx).mono ?_; rintro e w2 ⟨rfl, hb_w2⟩; have hz_w2 := hb_w2.size; (try simp at hz_w2); skip)
      have HO2 := Lib.hid (own_below HO.out hb_w2 (Nat.le_refl _))
      have HB2 := Lib.hid (HB.out.trans (hb_w2.mono hz))
      have hz2 := HB2.out.size
      clear hb_w2 c0 c1
      go_wp2_with (at_builtin; go_must (refine wpList_append_own _ rfl _ _ 30 rfl w.heap.size 23 i0 _ 2 16 Try.underlying30 hi0 hy0 hy1 hy2 rfl (by decide) _ _ _ rfl (HO2.out.alloc _) ⟨w2.heap.size, 0, none⟩ 1 1 (cellsOfV (flipV (xa, xb))) rfl rfl (cells_new (cellsOfV (flipV (xa, xb))) 23 w2.heap.size rfl) ?c2 ?c3 ?c4 ?c5 ?_))
      case c2 => first | exact ⟨rfl, rfl⟩ | (intro u hu; simp [cellsOfV] at hu; rcases hu with rfl | rfl <;> rfl)
      case c3 => simp [maxLen]; omega
      case c4 => omega
      case c5 => first | omega | (simp; omega)
      intro v3 w3 hown3 hg3 _
      have HB3 := Lib.hid ((HB2.out.alloc (by omega) _).grown hg3 (by simp; omega) (own_fresh HO2.out))
      clear hg3
      go_wp2_with fail
      go_roundw
      case rel =>
        refine ⟨k + 1, by omega, by go_num, ?_, HB3.out⟩
        rw [List.take_add_one, HX.out]
        simp only [Option.toList_some, List.map_append, List.map_cons, List.map_nil, flatV_snoc]
        rw [List.map_take]
        exact hown3
      case measure => simp [intOf]; omega
    · obtain rfl : k = l.length := by omega
      rw [List.take_length] at HO
      obtain ⟨A', c', rfl⟩ := own_slice HO.out
      have hv : VAt wr A' (l.map flipV) := own_vat (by rw [List.length_map]; exact HO.out)
      have HV2 := Lib.hid hv
      have e1 : (l.map flipV).length = l.length := List.length_map ..
      have H1 := Lib.hid e1
      clear hown hbel hv e1
      go_wp2_with fail
      go_ret
      exact ⟨HB.out, A', c', by rw [List.length_map]; rfl, HV2.out⟩
set_option maxRecDepth 100000 in
set_option maxHeartbeats 8000000 in
theorem same_pl (P : Pl) (u v : Value) (w : World) (hu : PlAt w u P) (hv : PlAt w v P) (hk : P.ks.length ≤ 1000) (hn : P.ns.length ≤ 1000) :
    Calls Try.prog 22 #[u, v] w fun e w' => e = .returned (.bool true) ∧ Below w.heap.size w w' := by
  obtain ⟨A, c, B, e, rfl, hA, hB⟩ := hu
  obtain ⟨A', c', B', e', rfl, hA', hB'⟩ := hv
  obtain ⟨p1, p2, v1, v2, h1, h2, f1, f2, b1, b2, ks, ns, t, d⟩ := P
  simp only [plV] at *
  have HA := Lib.hid hA
  have HB := Lib.hid hB
  have HA' := Lib.hid hA'
  have HB' := Lib.hid hB'
  obtain ⟨n, hnn⟩ : ∃ n, n = ks.length := ⟨_, rfl⟩
  obtain ⟨m, hmm⟩ : ∃ n, n = ns.length := ⟨_, rfl⟩
  rw [← hnn, ← hmm]
  have HN := Lib.hid (And.intro hnn hmm)
  have i1 : (n : Int) ≤ 1000 := by omega
  have i2 : (m : Int) ≤ 1000 := by omega
  clear hA hB hA' hB' hnn hmm
  go_enter Try.func22, Try.ntmps22; (try simp only [List.append_eq, List.cons_append, List.nil_append])
  go_wp2_with fail
  -- own blocks: w.heap.size:14, w.heap.size + 1:14
  (refine pin_wp (N := _) (Nat.le_refl _) (fun w1 hb_w1 hz_w1 => ?_); (try simp at hz_w1); (with_reducible apply cel14 (b := w.heap.size) hb_w1); (focus ((try simp) <;> omega)); (focus omega); (focus (go_simp; try exact rfl)); (focus (go_simp; try exact rfl)); (focus (go_simp; try exact rfl)); (focus (go_simp; try exact rfl)); (focus (go_simp; try exact rfl)); (focus (go_simp; try exact rfl)); (focus (go_simp; try exact rfl)); (focus (go_simp; try exact rfl)); (focus (go_simp; try exact rfl)); (focus (go_simp; try exact rfl)); (focus (go_simp; try exact rfl)); (focus (go_simp; try exact rfl)); (focus (go_simp; try exact rfl)); (focus (go_simp; try exact rfl)); (focus (intro o; go_simp)); intro cc cc cc cc cc cc cc cc cc cc cc cc cc cc fz hl; (with_reducible apply cel14 (b := w.heap.size + 1) hb_w1); (focus ((try simp) <;> omega)); (focus omega); (focus (go_simp; try exact rfl)); (focus (go_simp; try exact rfl)); (focus (go_simp; try exact rfl)); (focus (go_simp; try exact rfl)); (focus (go_simp; try exact rfl)); (focus (go_simp; try exact rfl)); (focus (go_simp; try exact rfl)); (focus (go_simp; try exact rfl)); (focus (go_simp; try exact rfl)); (focus (go_simp; try exact rfl)); (focus (go_simp; try exact rfl)); (focus (go_simp; try exact rfl)); (focus (go_simp; try exact rfl)); (focus (go_simp; try exact rfl)); (focus (intro o; go_simp)); intro cc cc cc cc cc cc cc cc cc cc cc cc cc cc fz hl)
  have HB1 := Lib.hid (show Below w.heap.size w w1 by ((with_reducible (repeat (first | exact bR _ _ | refine bS ?_ ?_ _ | refine bA ?_ ?_ _ | refine bD ?_ | refine bT ?_ (by assumption) ?_ | refine bO (by assumption) ?_ ?_))) <;> (first | omega | (simp; done) | (simp <;> omega))))
  clear hb_w1
  go_loopw [5] (fun vi wr => ∃ k : Nat, k ≤ n ∧ vi = .int .i64 k ∧ Below w1.heap.size w1 wr) (fun vi _ => n - (intOf vi).toNat)
  case atStart => exact ⟨0, by omega, rfl, Below.refl _ _⟩
  case round =>
    obtain ⟨k, hk, rfl, hb_wr⟩ := hrel
    have hz_wr := hb_wr.size
    have HBW := Lib.hid hb_wr
    (with_reducible apply cel14 (b := w.heap.size) hb_wr); (focus ((try simp) <;> omega)); (focus omega); (focus (go_simp; try exact rfl)); (focus (go_simp; try exact rfl)); (focus (go_simp; try exact rfl)); (focus (go_simp; try exact rfl)); (focus (go_simp; try exact rfl)); (focus (go_simp; try exact rfl)); (focus (go_simp; try exact rfl)); (focus (go_simp; try exact rfl)); (focus (go_simp; try exact rfl)); (focus (go_simp; try exact rfl)); (focus (go_simp; try exact rfl)); (focus (go_simp; try exact rfl)); (focus (go_simp; try exact rfl)); (focus (go_simp; try exact rfl)); (focus (intro o; go_simp)); intro cc cc cc cc cc cc cc cc cc cc cc cc cc cc fz hl; (with_reducible apply cel14 (b := w.heap.size + 1) hb_wr); (focus ((try simp) <;> omega)); (focus omega); (focus (go_simp; try exact rfl)); (focus (go_simp; try exact rfl)); (focus (go_simp; try exact rfl)); (focus (go_simp; try exact rfl)); (focus (go_simp; try exact rfl)); (focus (go_simp; try exact rfl)); (focus (go_simp; try exact rfl)); (focus (go_simp; try exact rfl)); (focus (go_simp; try exact rfl)); (focus (go_simp; try exact rfl)); (focus (go_simp; try exact rfl)); (focus (go_simp; try exact rfl)); (focus (go_simp; try exact rfl)); (focus (go_simp; try exact rfl)); (focus (intro o; go_simp)); intro cc cc cc cc cc cc cc cc cc cc cc cc cc cc fz hl
    have j1 : (0 : Int) ≤ (k : Int) := by omega
    by_cases hlt : k < n
    · obtain ⟨x, hx⟩ : ∃ x, ks[k]? = some x := ⟨ks[k]'(by have := HN.out; omega), by simp⟩
      have hbb := HB1.out.trans (hb_wr.mono (by omega))
      obtain ⟨g, o, rfl, hg, a0⟩ := (HA.out.below hbb (Nat.le_refl _)) k x hx
      obtain ⟨g', o', rfl, hg', b0⟩ := (HA'.out.below hbb (Nat.le_refl _)) k x hx
      have j2 : (k : Int) < (n : Int) := by omega
      clear hb_wr hx hbb
      go_wp2_with fail
      refine wp_region_warm (Own wr.heap.size wr) (by kernel_rfl) (by kernel_rfl) (Own.refl (Nat.le_refl _)).drew ?_
      repeat (first | (refine wpWarm_step_off rfl (fun K hK => ?_); (go_simp; refine hK _ ?_; clear hK K)) | (apply wpWarm_step rfl; (focus (intro W' hS; have hcS := hS.cells.1; have hfS := hS.cells.2; go_simp; (first | done | exact rfl | exact ⟨rfl, hS⟩ | (go_simp; exact rfl)))); (intro K hK; go_simp; (try go_bits); refine hK _ ?_; clear hK K)) | (apply wpWarm_step_on rfl; (focus (intro W' hS; have hcS := hS.cells.1; have hfS := hS.cells.2; go_simp; (first | done | exact rfl | exact ⟨rfl, hS⟩ | (go_simp; exact rfl)))); (intro K hK; go_simp; (try go_bits); refine hK _ ?_; clear hK K)))
      refine wpWarm_nil ?_
      intro w7 hO7
      have HB7 := Lib.hid (HBW.out.trans (hO7.2.mono hz_wr))
      clear hO7
      go_wp2_with fail
      go_roundw
      case rel => exact ⟨k + 1, by omega, by go_num, HB7.out⟩
      case measure => simp [intOf] <;> omega
    · obtain rfl : k = n := by omega
      clear hb_wr
      go_wp2_with fail
      go_loopw [6] (fun vi wk => ∃ i : Nat, i ≤ m ∧ vi = .int .i64 i ∧ Below w1.heap.size w1 wk) (fun vi _ => m - (intOf vi).toNat)
      case atStart => exact ⟨0, by omega, rfl, HBW.out⟩
      case round =>
        obtain ⟨i, hi, rfl, hb_wr⟩ := hrel
        have hz_wr := hb_wr.size
        have HBW2 := Lib.hid hb_wr
        (with_reducible apply cel14 (b := w.heap.size) hb_wr); (focus ((try simp) <;> omega)); (focus omega); (focus (go_simp; try exact rfl)); (focus (go_simp; try exact rfl)); (focus (go_simp; try exact rfl)); (focus (go_simp; try exact rfl)); (focus (go_simp; try exact rfl)); (focus (go_simp; try exact rfl)); (focus (go_simp; try exact rfl)); (focus (go_simp; try exact rfl)); (focus (go_simp; try exact rfl)); (focus (go_simp; try exact rfl)); (focus (go_simp; try exact rfl)); (focus (go_simp; try exact rfl)); (focus (go_simp; try exact rfl)); (focus (go_simp; try exact rfl)); (focus (intro o; go_simp)); intro cc cc cc cc cc cc cc cc cc cc cc cc cc cc fz hl; (with_reducible apply cel14 (b := w.heap.size + 1) hb_wr); (focus ((try simp) <;> omega)); (focus omega); (focus (go_simp; try exact rfl)); (focus (go_simp; try exact rfl)); (focus (go_simp; try exact rfl)); (focus (go_simp; try exact rfl)); (focus (go_simp; try exact rfl)); (focus (go_simp; try exact rfl)); (focus (go_simp; try exact rfl)); (focus (go_simp; try exact rfl)); (focus (go_simp; try exact rfl)); (focus (go_simp; try exact rfl)); (focus (go_simp; try exact rfl)); (focus (go_simp; try exact rfl)); (focus (go_simp; try exact rfl)); (focus (go_simp; try exact rfl)); (focus (intro o; go_simp)); intro cc cc cc cc cc cc cc cc cc cc cc cc cc cc fz hl
        have j3 : (0 : Int) ≤ (i : Int) := by omega
        by_cases hlt2 : i < m
        · obtain ⟨x, hx⟩ : ∃ x, ns[i]? = some x := ⟨ns[i]'(by have := HN.out; omega), by simp⟩
          have hbb := HB1.out.trans (hb_wr.mono (by omega))
          obtain ⟨g, o, rfl, hg, a0, a1⟩ := (HB.out.below hbb (Nat.le_refl _)) i x hx
          obtain ⟨g', o', rfl, hg', b0, b1⟩ := (HB'.out.below hbb (Nat.le_refl _)) i x hx
          have j4 : (i : Int) < (m : Int) := by omega
          clear hb_wr hx hbb
          go_wp2_with fail
          refine wp_region_warm (Own wr.heap.size wr) (by kernel_rfl) (by kernel_rfl) (Own.refl (Nat.le_refl _)).drew ?_
          repeat (first | (refine wpWarm_step_off rfl (fun K hK => ?_); (go_simp; refine hK _ ?_; clear hK K)) | (apply wpWarm_step rfl; (focus (intro W' hS; have hcS := hS.cells.1; have hfS := hS.cells.2; go_simp; (first | done | exact rfl | exact ⟨rfl, hS⟩ | (go_simp; exact rfl)))); (intro K hK; go_simp; (try go_bits); refine hK _ ?_; clear hK K)) | (apply wpWarm_step_on rfl; (focus (intro W' hS; have hcS := hS.cells.1; have hfS := hS.cells.2; go_simp; (first | done | exact rfl | exact ⟨rfl, hS⟩ | (go_simp; exact rfl)))); (intro K hK; go_simp; (try go_bits); refine hK _ ?_; clear hK K)))
          refine wpWarm_nil ?_
          intro w7 hO7
          have HB7 := Lib.hid (HBW2.out.trans (hO7.2.mono hz_wr))
          clear hO7
          go_wp2_with fail
          go_roundw
          case rel => exact ⟨i + 1, by omega, by go_num, HB7.out⟩
          case measure => simp [intOf] <;> omega
        · obtain rfl : i = m := by omega
          clear hb_wr
          go_wp2_with fail
          go_ret
          exact ⟨rfl, HB1.out.trans (HBW2.out.mono (by omega))⟩
end Go.Proofs.Ytklkhnhieihfoaa
