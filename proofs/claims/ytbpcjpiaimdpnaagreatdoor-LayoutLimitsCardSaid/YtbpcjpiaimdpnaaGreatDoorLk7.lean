/- Law LayoutLimits returns true for every two integers; they read afterwards as they read before. The rows' listed variables are tied to the program's text. Merged texts: Limw Laid LawLMw (what no proof of the claim needs is left out). -/
import Derived.Test.YtbpcjpiaimdpnaaGreatDoorLk6
import Derived.Deep.Cut
import Derived.Test.YtbpcjpiaimdpnaaGreatDoorRows
import Derived.Test.YtbpcjpiaimdpnaaGreatDoorTie
import Derived.ProofKit
import Derived.LaidMore
import Derived.Stop.Joined
import Derived.Stop.LaidErr
import Derived.SevenTiedAt
import Derived.Test.YtbpcjpiaimdpnaaGreatDoorCards
import Derived.ShutString
set_option linter.unusedSimpArgs false
set_option linter.unusedVariables false
namespace Go.Proofs.YtbpcjpiaimdpnaaGreatDoor
open Go Go.RowKit
set_option linter.unusedVariables false
set_option maxHeartbeats 1000000 in
theorem place_any (x : Int) (h0 : -9223372036854775808 ≤ x) (h1 : x ≤ 9223372036854775807) (w : World) :
  Calls Tryz.prog 20 #[.int .i64 x, .int .i64 5] w fun e w' => e = .returned (.int .i64 (x % 5)) ∧ Below w.heap.size w w' := by
 have e1 : x = 5 * x.tdiv 5 + x.tmod 5 := (Int.mul_tdiv_add_tmod x 5).symm
 have e2 : x.tmod 5 < 5 := Int.tmod_lt_of_pos x (by decide)
 have e3 : -5 < x.tmod 5 := by
  have := Int.tmod_lt_of_pos (-x) (by decide : (0 : Int) < 5)
  rw [Int.neg_tmod] at this
  omega
 obtain ⟨r, hr⟩ : ∃ r, r = x % 5 := ⟨_, rfl⟩
 rw [← hr]
 by_cases h : x.tmod 5 < 0
 · have hv : x.tmod 5 + 5 = r := by omega
   clear e1 hr
   go_enter Tryz.func20, Tryz.ntmps20; (try simp only [List.append_eq, List.cons_append, List.nil_append])
   go_wp2_with fail
   refine bodyPost_ret (v := .int .i64 r) (by simp only [results, Tryz.results20]; go_simp) rfl ⟨?_, ?_⟩
   · rw [← hv]
   · ((with_reducible (repeat (first | exact bR _ _ | apply bS | apply bA | apply bD | refine bT ?_ (by assumption) ?_ | refine bO (by assumption) ?_ ?_))) <;> (first | omega | (simp <;> omega)))
 · have hv : x.tmod 5 = r := by omega
   clear e1 hr
   go_enter Tryz.func20, Tryz.ntmps20; (try simp only [List.append_eq, List.cons_append, List.nil_append])
   go_wp2_with fail
   refine bodyPost_ret (v := .int .i64 r) (by simp only [results, Tryz.results20]; go_simp) rfl ⟨?_, ?_⟩
   · rw [← hv]
   · ((with_reducible (repeat (first | exact bR _ _ | apply bS | apply bA | apply bD | refine bT ?_ (by assumption) ?_ | refine bO (by assumption) ?_ ?_))) <;> (first | omega | (simp <;> omega)))
theorem u8_nat (m : Nat) (h : m < 256) : ((UInt8.ofNat m).toNat : Int) = (m : Int) := by
 have : (UInt8.ofNat m).toNat = m := by simp [UInt8.toNat_ofNat', Nat.mod_eq_of_lt h]
 rw [this]
theorem str_two (w : World) (k : Nat) (h : k ≤ 100) : (convert 51 9 (.slice (some ⟨w.heap.size, 0, none⟩) 2 2)).run Tryz.prog (w.alloc (.cells #[.int .u8 (97 + (k : Int) / 26), .int .u8 (97 + (k : Int) % 26)] 5)) = .ok (.string ⟨#[UInt8.ofNat (97 + k / 26), UInt8.ofNat (97 + k % 26)]⟩) (w.alloc (.cells #[.int .u8 (97 + (k : Int) / 26), .int .u8 (97 + (k : Int) % 26)] 5)) := by
 have hb := BoxAt.new w [.int .u8 (97 + (k : Int) / 26), .int .u8 (97 + (k : Int) % 26)] 5
 have e1 : ((UInt8.ofNat (97 + k / 26)).toNat : Int) = 97 + (k : Int) / 26 := (u8_nat _ (by omega)).trans (by omega)
 have e2 : ((UInt8.ofNat (97 + k % 26)).toNat : Int) = 97 + (k : Int) % 26 := (u8_nat _ (by omega)).trans (by omega)
 refine run_convert_bytes_back (P := Tryz.prog) _ 51 9 5 ⟨w.heap.size, 0, none⟩ 2 [UInt8.ofNat (97 + k / 26), UInt8.ofNat (97 + k % 26)] Tryz.underlying51 Tryz.underlying5 Tryz.underlying9 (fun j hj => ?_)
 rw [show (⟨w.heap.size, 0, none⟩ : Addr).add j = ⟨w.heap.size, j, none⟩ by unfold Addr.add; split <;> simp_all]
 match j, hj with
 | 0, _ => exact (hb.c 0 _ rfl).trans (by rw [← e1]; rfl)
 | 1, _ => exact (hb.c 1 _ rfl).trans (by rw [← e2]; rfl)
theorem nm_cat (k : Nat) : (⟨#[101]⟩ : ByteArray) ++ ⟨#[UInt8.ofNat (97 + k / 26), UInt8.ofNat (97 + k % 26)]⟩ = nmL k := ByteArray.ext (by rw [ByteArray.data_append]; rfl)
theorem t64_new (w : World) (tb : Nat) (htb : tb = w.heap.size) {W : World} (hW : W = w.alloc (.cells #[.int .i64 0, .int .i64 0, .int .i64 0, .int .i64 0, .int .i64 0, .int .i64 0, .int .i64 0, .slice none 0 0, .slice none 0 0, .slice none 0 0, .slice none 0 0, .slice none 0 0, .slice none 0 0, .slice none 0 0, .slice none 0 0, .slice none 0 0, .slice none 0 0, .slice none 0 0] 36)) : TbO (W.setCells tb 0 (t64.cells a0)) (tb + 1) tb t64 a0 := by
 have h := tbo_new w tb htb
 rw [← hW] at h
 exact ⟨stored_tb tb _ t64 a0 W h.bx rfl, World.ownsRow_nil _ _ _ _, World.ownsRow_nil _ _ _ _, World.ownsRow_nil _ _ _ _, World.ownsRow_nil _ _ _ _, World.ownsRow_nil _ _ _ _, World.ownsRow_nil _ _ _ _, World.ownsRow_nil _ _ _ _, World.ownsRow_nil _ _ _ _, World.ownsRow_nil _ _ _ _, World.ownsRow_nil _ _ _ _, World.ownsRow_nil _ _ _ _⟩
set_option maxRecDepth 100000 in
set_option maxHeartbeats 8000000 in
theorem limits_walk (n which : Int) (hn0 : -9223372036854775808 ≤ n) (hn1 : n ≤ 9223372036854775807) (hc0 : -9223372036854775808 ≤ which) (hc1 : which ≤ 9223372036854775807) (w : World) (ht : Tabs w) :
  Calls Tryz.prog 7 #[.int .i64 n, .int .i64 which] w fun e w' => e = .returned (.bool true) ∧ Below w.heap.size w w' := by
 have KP1 := place_any which hc0 hc1
 have KP2 := place_any n hn0 hn1
 obtain ⟨d, hd, hd5⟩ : ∃ d : Nat, n % 5 = (d : Int) ∧ d < 5 := ⟨(n % 5).toNat, by omega, by omega⟩
 rw [hd] at KP2
 have HP1 := hQ0 KP1
 have HP2 := hQ0 KP2
 have KA := hQ0 (awake09_any w ht)
 clear KP1 KP2 hd ht
 go_enter Tryz.func7, Tryz.ntmps7; (try simp only [List.append_eq, List.cons_append, List.nil_append])
 go_upto_region 3 with (go_at_call 9; refine KA.out.mono ?_; rintro e w1 ⟨rfl, hb1⟩)
 have HB1 := hQ0 hb1
 have hw1 : w.heap.size ≤ w1.heap.size := hb1.size
 clear hb1
 refine wp_region_lit ?_
 refine wpList_plain rfl fun K hK => ?_; go_simp; refine hK _ _ ?_; clear hK K
 refine wpList_plain rfl fun K hK => ?_; go_simp; refine hK _ _ ?_; clear hK K
 have HW : Hid (Below w1.heap.size w1 (w1.alloc (.cells #[.int .i64 0, .int .i64 0, .int .i64 0, .int .i64 0, .int .i64 0, .int .i64 0, .int .i64 0, .slice none 0 0, .slice none 0 0, .slice none 0 0, .slice none 0 0, .slice none 0 0, .slice none 0 0, .slice none 0 0, .slice none 0 0, .slice none 0 0, .slice none 0 0, .slice none 0 0] 36))) := hQ0 ((Below.refl w1.heap.size w1).alloc (Nat.le_refl _) _)
 have HX2 : Hid (BoxAt (w1.alloc (.cells #[.int .i64 0, .int .i64 0, .int .i64 0, .int .i64 0, .int .i64 0, .int .i64 0, .int .i64 0, .slice none 0 0, .slice none 0 0, .slice none 0 0, .slice none 0 0, .slice none 0 0, .slice none 0 0, .slice none 0 0, .slice none 0 0, .slice none 0 0, .slice none 0 0, .slice none 0 0] 36)) w1.heap.size (tb0.cells a0)) := hQ0 (BoxAt.new w1 (tb0.cells a0) 36)
 obtain ⟨w2, hw2⟩ : ∃ z, z = w1.alloc (.cells #[.int .i64 0, .int .i64 0, .int .i64 0, .int .i64 0, .int .i64 0, .int .i64 0, .int .i64 0, .slice none 0 0, .slice none 0 0, .slice none 0 0, .slice none 0 0, .slice none 0 0, .slice none 0 0, .slice none 0 0, .slice none 0 0, .slice none 0 0, .slice none 0 0, .slice none 0 0] 36) := ⟨_, rfl⟩
 rw [← hw2] at HW HX2 ⊢
 obtain ⟨tb, htb⟩ : ∃ z, z = w1.heap.size := ⟨_, rfl⟩
 have HO3 := hQ0 (t64_new w1 tb htb hw2)
 rw [← htb] at HX2 ⊢
 refine wpList_store_tb rfl (.tmp 5) (.tmp 14) rfl tb _ (by go_simp) t64 a0 (by go_simp; first | done | rfl) HX2.out rfl ?_
 have HTB := hQ0 htb
 have HB3 := hQ0 (HB1.out.trans ((below_setCells (b := tb) (by omega) (t64.cells a0) 0 HW.out).mono HB1.out.size))
 have hsz3 : tb + 1 ≤ (w2.setCells tb 0 (t64.cells a0)).heap.size := by rw [size_setCells, hw2, htb]; simp
 clear HW HX2 hw2 htb HB1
 generalize w2.setCells tb 0 (t64.cells a0) = w3 at HO3 HB3 hsz3 ⊢
 go_simp
 go_upto_region 5 with (go_at_call 20; refine (HP1.out _).mono ?_; rintro e w4 ⟨rfl, hb4⟩)
 have HO4 := hQ0 (HO3.out.below hb4 (Nat.le_refl _))
 have HB4 := hQ0 (HB3.out.trans (hb4.mono HB3.out.size))
 have hsz4 : tb + 1 ≤ w4.heap.size := Nat.le_trans hsz3 hb4.size
 have htw : w.heap.size ≤ tb := by have := HTB.out; omega
 clear hb4 HO3 HB3 hsz3 KA
 have hW : which % 5 = 0 ∨ which % 5 = 1 ∨ which % 5 = 2 ∨ which % 5 = 3 ∨ which % 5 = 4 := by omega
 clear HP1
 rcases hW with hW | hW | hW | hW | hW
 · rw [hW]
   clear hW
   have ix : ∀ w' : World, (Instr.index 50 (.agg #[.int .i64 64, .int .i64 32, .int .i64 24, .int .i64 16, .int .i64 4]) (.int .i64 0)).run Tryz.prog w' = .ok (.int .i64 64) w' := by
    intro w'
    simp [Instr.index, asIntOf, run_underlying Tryz.underlying50, go_sem]
   go_upto_region 7 with (go_at_call 20; refine (HP2.out _).mono ?_; rintro e w5 ⟨rfl, hb5⟩)
   have HO5 := hQ0 (HO4.out.below hb5 (Nat.le_refl _))
   have HB5 := hQ0 (HB4.out.trans (hb5.mono HB4.out.size))
   have hsz5 : tb + 1 ≤ w5.heap.size := Nat.le_trans hsz4 hb5.size
   clear hb5 HO4 HB4 hsz4 HP2
   go_wp2_with fail
   go_loopg [9] (62 + d + 1) (fun gk ti wr => ∃ (k : Nat) (a : TbA), k ≤ 62 + d ∧ 62 + d - k < gk ∧ ti = .int .i64 k ∧ Hid (Below w.heap.size w wr) ∧ tb + 1 ≤ wr.heap.size ∧ Hid (TbO wr (tb + 1) tb (tabWl k) a))
   case atStart => exact ⟨0, a0, by omega, by omega, rfl, HB5, hsz5, HO5⟩
   case round =>
    obtain ⟨wq, rfl⟩ : ∃ z, z = wr := ⟨_, rfl⟩
    obtain ⟨k, a, hk, hkk, rfl, HB, hsz, HO⟩ := hrel
    by_cases hlt : k < 62 + d
    · have i1 : (k : Int) < ((62 + d : Nat) : Int) := by omega
      have cv := str_two wq k (by omega)
      have ca := nm_cat k
      obtain ⟨nm, hnm⟩ : ∃ z, z = nmL k := ⟨_, rfl⟩
      rw [← hnm] at ca
      obtain ⟨B1, hB1⟩ : ∃ z, z = UInt8.ofNat (97 + k / 26) := ⟨_, rfl⟩
      obtain ⟨B2, hB2⟩ : ∃ z, z = UInt8.ofNat (97 + k % 26) := ⟨_, rfl⟩
      rw [← hB1, ← hB2] at cv ca
      clear hB1 hB2
      have HNM := hQ0 hnm
      clear hnm
      go_upto_region 13 with (fail)
      (refine pin_eqT (fun w6 hE => ?_))
      have hb6 : Below wq.heap.size wq w6 := by rw [hE]; exact (Below.refl _ _).alloc (Nat.le_refl _) _
      have HO6 := hQ0 (HO.out.below hb6 (Nat.le_refl _))
      have HB6 := hQ0 (HB.out.trans (hb6.mono HB.out.size))
      have hsz6 : tb + 1 ≤ w6.heap.size := Nat.le_trans hsz hb6.size
      clear hE hb6 cv ca HB HO
      have ts := HO6.out.bx.c 8 (.slice a.ws (tabWl k).ws.length a.wsc) rfl
      refine wp_region_lit ?_
      iterate 5 (refine wpList_plain rfl fun K hK => ?_; go_simp; refine hK _ _ ?_; clear hK K)
      refine wpList_plain rfl fun K hK => ?_; go_simp; refine hK _ _ ?_; clear hK K
      have hb7 : Below w6.heap.size w6 (w6.alloc (.cells (Wl.cells (elWl k)).toArray 53)) := (Below.refl w6.heap.size w6).alloc (Nat.le_refl _) _
      have HO7 := hQ0 (HO6.out.below hb7 (Nat.le_refl _))
      have HY7 := hQ0 (BoxAt.new w6 (Wl.cells (elWl k)) 53)
      have hsz7 : tb + 1 ≤ (w6.alloc (.cells (Wl.cells (elWl k)).toArray 53)).heap.size := Nat.le_trans hsz6 hb7.size
      have HB7 := hQ0 (HB6.out.trans (hb7.mono HB6.out.size))
      have hW7 : w6.alloc (.cells (Wl.cells (elWl k)).toArray 53) = w6.alloc (.cells #[.string nm, .int .i64 1, .int .i64 0, .int .i64 0, .int .i64 0, .int .i64 1, .int .i64 0, .int .i64 0, .int .i64 0, .int .i64 0, .int .i64 0, .int .i64 (-1), .int .i64 (-1)] 53) := by rw [HNM.out]; rfl
      rw [hW7] at HO7 HY7 HB7 hsz7
      clear hb7 hW7 ts
      generalize w6.alloc (.cells #[.string nm, .int .i64 1, .int .i64 0, .int .i64 0, .int .i64 0, .int .i64 1, .int .i64 0, .int .i64 0, .int .i64 0, .int .i64 0, .int .i64 0, .int .i64 (-1), .int .i64 (-1)] 53) = w7 at HO7 HY7 HB7 hsz7 ⊢
      refine wpList_append_one rfl (.tmp 45) (.tmp 49) 25 53 _ 13 _ rfl Tryz.underlying25 infWl rfl (by decide) (by decide) (tb + 1) (.slice a.ws (tabWl k).ws.length a.wsc) (tabWl k).ws.length ((tabWl k).ws.flatMap Wl.cells) (Wl.cells (elWl k)) (by go_simp) HO7.out.ws w6.heap.size 1 (by go_simp) rfl HY7.out.c (by simp [elWl, Wl.cells, Value.oneCell']) (by rw [tabWl_len]; omega) hsz7 ?_
      intro v' w8 hown' hgr' hbk'
      obtain ⟨A', c', rfl, hput⟩ := HO7.out.put_ws (Nat.lt_succ_self _) (elWl k) hown' hgr'
      have hrow : ∀ j, (Value.slice a.ws (tabWl k).ws.length a.wsc).ownBlock = some j → tb + 1 ≤ j := fun j hj => (World.ownsRow.lt HO7.out.ws j hj).1
      have hbx8 := boxAt_grown HO7.out.bx hgr' (fun j hj e => by have := hrow j hj; omega)
      have HB8 := hQ0 (HB7.out.trans (below_grown (tb := w.heap.size) hgr' (fun j hj => by have := hrow j hj; omega) HB7.out.size))
      have hsz8 : tb + 1 ≤ w8.heap.size := Nat.le_trans hsz7 hgr'.size
      have s8 := hbx8.c 8 _ rfl
      have fz8 := hbx8.fz
      have lt8 := hbx8.lt
      rw [tabWl_s] at hput
      have HP8 := hQ0 hput
      clear hown' hgr' hbk' hput hrow hbx8 HO7 HY7 HB7 HO6 HB6 hsz7 hsz6
      go_simp
      iterate 2 (refine wpList_plain rfl fun K hK => ?_; go_simp; refine hK _ _ ?_; clear hK K)
      refine wpList_nil ?_
      (try go_simp)
      go_wp2_with fail
      go_roundg (62 + d - (k + 1) + 1)
      case measure => omega
      case rel => exact ⟨k + 1, _, by omega, by omega, by go_num, hQ0 (HB8.out.setCell (by omega) _), by simpa using hsz8, HP8⟩
    · obtain rfl : k = 62 + d := by omega
      have hlim := limWl d hd5
      have KC := check_any (tabWl (62 + d)) a wq HO.out.at HO.out.cap (smallWl _ (by omega)) ⟨Nat.le_refl _, Nat.le_refl _, Nat.le_refl _, Nat.le_refl _, Nat.le_refl _⟩
      rw [hlim] at KC
      have i1 : ¬ (((62 + d : Nat) : Int) < 62 + (d : Int)) := by omega
      have HX := hQ0 HO.out.bx
      clear hlim HO
      by_cases h2 : 2 < d
      · rw [if_pos h2] at KC
        have i2 : (64 : Int) < 62 + (d : Int) := by omega
        go_upto_region 25 with (fail)
        refine wp_region_lit ?_
        apply wpL_maybe true (by exact rfl) ((tabWl (62 + d)).v a)
        (case h => intro _; exact load_tb _ _ 5 rfl tb (by first | rfl | (go_simp; done)) (tabWl (62 + d)) a _ HX.out)
        intro K hK; (try simp only [opt_true]); go_simp; refine hK _ _ ?_; clear hK K
        refine wpList_plain rfl fun K hK => ?_
        go_simp
        (go_at_call 11; refine KC.mono ?_; rintro e w9 ⟨rfl, hb9⟩)
        go_simp
        refine hK _ _ ?_
        clear hK K KC
        iterate 3 (refine wpList_plain rfl fun K hK => ?_; go_simp; refine hK _ _ ?_; clear hK K)
        refine wpList_nil ?_
        (try go_simp)
        go_wp2_with fail
        go_ret
        exact ⟨rfl, HB.out.trans (hb9.mono HB.out.size)⟩
      · rw [if_neg h2] at KC
        have i2 : ¬ (64 : Int) < 62 + (d : Int) := by omega
        go_upto_region 25 with (fail)
        refine wp_region_lit ?_
        apply wpL_maybe true (by exact rfl) ((tabWl (62 + d)).v a)
        (case h => intro _; exact load_tb _ _ 5 rfl tb (by first | rfl | (go_simp; done)) (tabWl (62 + d)) a _ HX.out)
        intro K hK; (try simp only [opt_true]); go_simp; refine hK _ _ ?_; clear hK K
        refine wpList_plain rfl fun K hK => ?_
        go_simp
        (go_at_call 11; refine KC.mono ?_; rintro e w9 ⟨rfl, hb9⟩)
        go_simp
        refine hK _ _ ?_
        clear hK K KC
        iterate 3 (refine wpList_plain rfl fun K hK => ?_; go_simp; refine hK _ _ ?_; clear hK K)
        refine wpList_nil ?_
        (try go_simp)
        go_wp2_with fail
        go_ret
        exact ⟨rfl, HB.out.trans (hb9.mono HB.out.size)⟩
 · rw [hW]
   clear hW
   have ix : ∀ w' : World, (Instr.index 50 (.agg #[.int .i64 64, .int .i64 32, .int .i64 24, .int .i64 16, .int .i64 4]) (.int .i64 1)).run Tryz.prog w' = .ok (.int .i64 32) w' := by
    intro w'
    simp [Instr.index, asIntOf, run_underlying Tryz.underlying50, go_sem]
   go_upto_region 7 with (go_at_call 20; refine (HP2.out _).mono ?_; rintro e w5 ⟨rfl, hb5⟩)
   have HO5 := hQ0 (HO4.out.below hb5 (Nat.le_refl _))
   have HB5 := hQ0 (HB4.out.trans (hb5.mono HB4.out.size))
   have hsz5 : tb + 1 ≤ w5.heap.size := Nat.le_trans hsz4 hb5.size
   clear hb5 HO4 HB4 hsz4 HP2
   go_wp2_with fail
   go_loopg [9] (30 + d + 1) (fun gk ti wr => ∃ (k : Nat) (a : TbA), k ≤ 30 + d ∧ 30 + d - k < gk ∧ ti = .int .i64 k ∧ Hid (Below w.heap.size w wr) ∧ tb + 1 ≤ wr.heap.size ∧ Hid (TbO wr (tb + 1) tb (tabPs k) a))
   case atStart => exact ⟨0, a0, by omega, by omega, rfl, HB5, hsz5, HO5⟩
   case round =>
    obtain ⟨wq, rfl⟩ : ∃ z, z = wr := ⟨_, rfl⟩
    obtain ⟨k, a, hk, hkk, rfl, HB, hsz, HO⟩ := hrel
    by_cases hlt : k < 30 + d
    · have i1 : (k : Int) < ((30 + d : Nat) : Int) := by omega
      have cv := str_two wq k (by omega)
      have ca := nm_cat k
      obtain ⟨nm, hnm⟩ : ∃ z, z = nmL k := ⟨_, rfl⟩
      rw [← hnm] at ca
      obtain ⟨B1, hB1⟩ : ∃ z, z = UInt8.ofNat (97 + k / 26) := ⟨_, rfl⟩
      obtain ⟨B2, hB2⟩ : ∃ z, z = UInt8.ofNat (97 + k % 26) := ⟨_, rfl⟩
      rw [← hB1, ← hB2] at cv ca
      clear hB1 hB2
      have HNM := hQ0 hnm
      clear hnm
      go_upto_region 15 with (fail)
      (refine pin_eqT (fun w6 hE => ?_))
      have hb6 : Below wq.heap.size wq w6 := by rw [hE]; exact (Below.refl _ _).alloc (Nat.le_refl _) _
      have HO6 := hQ0 (HO.out.below hb6 (Nat.le_refl _))
      have HB6 := hQ0 (HB.out.trans (hb6.mono HB.out.size))
      have hsz6 : tb + 1 ≤ w6.heap.size := Nat.le_trans hsz hb6.size
      clear hE hb6 cv ca HB HO
      have ts := HO6.out.bx.c 10 (.slice a.ps (tabPs k).ps.length a.psc) rfl
      refine wp_region_lit ?_
      iterate 4 (refine wpList_plain rfl fun K hK => ?_; go_simp; refine hK _ _ ?_; clear hK K)
      refine wpList_plain rfl fun K hK => ?_; go_simp; refine hK _ _ ?_; clear hK K
      have hb7 : Below w6.heap.size w6 (w6.alloc (.cells (Ps.cells (elPs k)).toArray 55)) := (Below.refl w6.heap.size w6).alloc (Nat.le_refl _) _
      have HO7 := hQ0 (HO6.out.below hb7 (Nat.le_refl _))
      have HY7 := hQ0 (BoxAt.new w6 (Ps.cells (elPs k)) 55)
      have hsz7 : tb + 1 ≤ (w6.alloc (.cells (Ps.cells (elPs k)).toArray 55)).heap.size := Nat.le_trans hsz6 hb7.size
      have HB7 := hQ0 (HB6.out.trans (hb7.mono HB6.out.size))
      have hW7 : w6.alloc (.cells (Ps.cells (elPs k)).toArray 55) = w6.alloc (.cells #[.string nm, .int .i64 0, .int .i64 0, .int .i64 0, .int .i64 0, .int .i64 0, .int .i64 0, .int .i64 0, .int .i64 0, .int .i64 (-1), .int .i64 (-1)] 55) := by rw [HNM.out]; rfl
      rw [hW7] at HO7 HY7 HB7 hsz7
      clear hb7 hW7 ts
      generalize w6.alloc (.cells #[.string nm, .int .i64 0, .int .i64 0, .int .i64 0, .int .i64 0, .int .i64 0, .int .i64 0, .int .i64 0, .int .i64 0, .int .i64 (-1), .int .i64 (-1)] 55) = w7 at HO7 HY7 HB7 hsz7 ⊢
      refine wpList_append_one rfl (.tmp 55) (.tmp 58) 27 55 _ 11 _ rfl Tryz.underlying27 infPs rfl (by decide) (by decide) (tb + 1) (.slice a.ps (tabPs k).ps.length a.psc) (tabPs k).ps.length ((tabPs k).ps.flatMap Ps.cells) (Ps.cells (elPs k)) (by go_simp) HO7.out.ps w6.heap.size 1 (by go_simp) rfl HY7.out.c (by simp [elPs, Ps.cells, Value.oneCell']) (by rw [tabPs_len]; omega) hsz7 ?_
      intro v' w8 hown' hgr' hbk'
      obtain ⟨A', c', rfl, hput⟩ := HO7.out.put_ps (Nat.lt_succ_self _) (elPs k) hown' hgr'
      have hrow : ∀ j, (Value.slice a.ps (tabPs k).ps.length a.psc).ownBlock = some j → tb + 1 ≤ j := fun j hj => (World.ownsRow.lt HO7.out.ps j hj).1
      have hbx8 := boxAt_grown HO7.out.bx hgr' (fun j hj e => by have := hrow j hj; omega)
      have HB8 := hQ0 (HB7.out.trans (below_grown (tb := w.heap.size) hgr' (fun j hj => by have := hrow j hj; omega) HB7.out.size))
      have hsz8 : tb + 1 ≤ w8.heap.size := Nat.le_trans hsz7 hgr'.size
      have s8 := hbx8.c 10 _ rfl
      have fz8 := hbx8.fz
      have lt8 := hbx8.lt
      rw [tabPs_s] at hput
      have HP8 := hQ0 hput
      clear hown' hgr' hbk' hput hrow hbx8 HO7 HY7 HB7 HO6 HB6 hsz7 hsz6
      go_simp
      iterate 2 (refine wpList_plain rfl fun K hK => ?_; go_simp; refine hK _ _ ?_; clear hK K)
      refine wpList_nil ?_
      (try go_simp)
      go_wp2_with fail
      go_roundg (30 + d - (k + 1) + 1)
      case measure => omega
      case rel => exact ⟨k + 1, _, by omega, by omega, by go_num, hQ0 (HB8.out.setCell (by omega) _), by simpa using hsz8, HP8⟩
    · obtain rfl : k = 30 + d := by omega
      have hlim := limPs d hd5
      have KC := check_any (tabPs (30 + d)) a wq HO.out.at HO.out.cap (smallPs _ (by omega)) ⟨Nat.le_refl _, Nat.le_refl _, Nat.le_refl _, Nat.le_refl _, Nat.le_refl _⟩
      rw [hlim] at KC
      have i1 : ¬ (((30 + d : Nat) : Int) < 30 + (d : Int)) := by omega
      have HX := hQ0 HO.out.bx
      clear hlim HO
      by_cases h2 : 2 < d
      · rw [if_pos h2] at KC
        have i2 : (32 : Int) < 30 + (d : Int) := by omega
        go_upto_region 25 with (fail)
        refine wp_region_lit ?_
        apply wpL_maybe true (by exact rfl) ((tabPs (30 + d)).v a)
        (case h => intro _; exact load_tb _ _ 5 rfl tb (by first | rfl | (go_simp; done)) (tabPs (30 + d)) a _ HX.out)
        intro K hK; (try simp only [opt_true]); go_simp; refine hK _ _ ?_; clear hK K
        refine wpList_plain rfl fun K hK => ?_
        go_simp
        (go_at_call 11; refine KC.mono ?_; rintro e w9 ⟨rfl, hb9⟩)
        go_simp
        refine hK _ _ ?_
        clear hK K KC
        iterate 3 (refine wpList_plain rfl fun K hK => ?_; go_simp; refine hK _ _ ?_; clear hK K)
        refine wpList_nil ?_
        (try go_simp)
        go_wp2_with fail
        go_ret
        exact ⟨rfl, HB.out.trans (hb9.mono HB.out.size)⟩
      · rw [if_neg h2] at KC
        have i2 : ¬ (32 : Int) < 30 + (d : Int) := by omega
        go_upto_region 25 with (fail)
        refine wp_region_lit ?_
        apply wpL_maybe true (by exact rfl) ((tabPs (30 + d)).v a)
        (case h => intro _; exact load_tb _ _ 5 rfl tb (by first | rfl | (go_simp; done)) (tabPs (30 + d)) a _ HX.out)
        intro K hK; (try simp only [opt_true]); go_simp; refine hK _ _ ?_; clear hK K
        refine wpList_plain rfl fun K hK => ?_
        go_simp
        (go_at_call 11; refine KC.mono ?_; rintro e w9 ⟨rfl, hb9⟩)
        go_simp
        refine hK _ _ ?_
        clear hK K KC
        iterate 3 (refine wpList_plain rfl fun K hK => ?_; go_simp; refine hK _ _ ?_; clear hK K)
        refine wpList_nil ?_
        (try go_simp)
        go_wp2_with fail
        go_ret
        exact ⟨rfl, HB.out.trans (hb9.mono HB.out.size)⟩
 · rw [hW]
   clear hW
   have ix : ∀ w' : World, (Instr.index 50 (.agg #[.int .i64 64, .int .i64 32, .int .i64 24, .int .i64 16, .int .i64 4]) (.int .i64 2)).run Tryz.prog w' = .ok (.int .i64 24) w' := by
    intro w'
    simp [Instr.index, asIntOf, run_underlying Tryz.underlying50, go_sem]
   go_upto_region 7 with (go_at_call 20; refine (HP2.out _).mono ?_; rintro e w5 ⟨rfl, hb5⟩)
   have HO5 := hQ0 (HO4.out.below hb5 (Nat.le_refl _))
   have HB5 := hQ0 (HB4.out.trans (hb5.mono HB4.out.size))
   have hsz5 : tb + 1 ≤ w5.heap.size := Nat.le_trans hsz4 hb5.size
   clear hb5 HO4 HB4 hsz4 HP2
   go_wp2_with fail
   go_loopg [9] (22 + d + 1) (fun gk ti wr => ∃ (k : Nat) (a : TbA), k ≤ 22 + d ∧ 22 + d - k < gk ∧ ti = .int .i64 k ∧ Hid (Below w.heap.size w wr) ∧ tb + 1 ≤ wr.heap.size ∧ Hid (TbO wr (tb + 1) tb (tabLa k) a))
   case atStart => exact ⟨0, a0, by omega, by omega, rfl, HB5, hsz5, HO5⟩
   case round =>
    obtain ⟨wq, rfl⟩ : ∃ z, z = wr := ⟨_, rfl⟩
    obtain ⟨k, a, hk, hkk, rfl, HB, hsz, HO⟩ := hrel
    by_cases hlt : k < 22 + d
    · have i1 : (k : Int) < ((22 + d : Nat) : Int) := by omega
      have cv := str_two wq k (by omega)
      have ca := nm_cat k
      obtain ⟨nm, hnm⟩ : ∃ z, z = nmL k := ⟨_, rfl⟩
      rw [← hnm] at ca
      obtain ⟨B1, hB1⟩ : ∃ z, z = UInt8.ofNat (97 + k / 26) := ⟨_, rfl⟩
      obtain ⟨B2, hB2⟩ : ∃ z, z = UInt8.ofNat (97 + k % 26) := ⟨_, rfl⟩
      rw [← hB1, ← hB2] at cv ca
      clear hB1 hB2
      have HNM := hQ0 hnm
      clear hnm
      go_upto_region 17 with (fail)
      (refine pin_eqT (fun w6 hE => ?_))
      have hb6 : Below wq.heap.size wq w6 := by rw [hE]; exact (Below.refl _ _).alloc (Nat.le_refl _) _
      have HO6 := hQ0 (HO.out.below hb6 (Nat.le_refl _))
      have HB6 := hQ0 (HB.out.trans (hb6.mono HB.out.size))
      have hsz6 : tb + 1 ≤ w6.heap.size := Nat.le_trans hsz hb6.size
      clear hE hb6 cv ca HB HO
      have ts := HO6.out.bx.c 14 (.slice a.las (tabLa k).las.length a.lasc) rfl
      refine wp_region_lit ?_
      iterate 4 (refine wpList_plain rfl fun K hK => ?_; go_simp; refine hK _ _ ?_; clear hK K)
      refine wpList_plain rfl fun K hK => ?_; go_simp; refine hK _ _ ?_; clear hK K
      have hb7 : Below w6.heap.size w6 (w6.alloc (.cells (La.cells (elLa k)).toArray 57)) := (Below.refl w6.heap.size w6).alloc (Nat.le_refl _) _
      have HO7 := hQ0 (HO6.out.below hb7 (Nat.le_refl _))
      have HY7 := hQ0 (BoxAt.new w6 (La.cells (elLa k)) 57)
      have hsz7 : tb + 1 ≤ (w6.alloc (.cells (La.cells (elLa k)).toArray 57)).heap.size := Nat.le_trans hsz6 hb7.size
      have HB7 := hQ0 (HB6.out.trans (hb7.mono HB6.out.size))
      have hW7 : w6.alloc (.cells (La.cells (elLa k)).toArray 57) = w6.alloc (.cells #[.string nm, .int .i64 0, .int .i64 0, .int .i64 0, .int .i64 1, .int .i64 0] 57) := by rw [HNM.out]; rfl
      rw [hW7] at HO7 HY7 HB7 hsz7
      clear hb7 hW7 ts
      generalize w6.alloc (.cells #[.string nm, .int .i64 0, .int .i64 0, .int .i64 0, .int .i64 1, .int .i64 0] 57) = w7 at HO7 HY7 HB7 hsz7 ⊢
      refine wpList_append_one rfl (.tmp 64) (.tmp 67) 31 57 _ 6 _ rfl Tryz.underlying31 infLa rfl (by decide) (by decide) (tb + 1) (.slice a.las (tabLa k).las.length a.lasc) (tabLa k).las.length ((tabLa k).las.flatMap La.cells) (La.cells (elLa k)) (by go_simp) HO7.out.las w6.heap.size 1 (by go_simp) rfl HY7.out.c (by simp [elLa, La.cells, Value.oneCell']) (by rw [tabLa_len]; omega) hsz7 ?_
      intro v' w8 hown' hgr' hbk'
      obtain ⟨A', c', rfl, hput⟩ := HO7.out.put_las (Nat.lt_succ_self _) (elLa k) hown' hgr'
      have hrow : ∀ j, (Value.slice a.las (tabLa k).las.length a.lasc).ownBlock = some j → tb + 1 ≤ j := fun j hj => (World.ownsRow.lt HO7.out.las j hj).1
      have hbx8 := boxAt_grown HO7.out.bx hgr' (fun j hj e => by have := hrow j hj; omega)
      have HB8 := hQ0 (HB7.out.trans (below_grown (tb := w.heap.size) hgr' (fun j hj => by have := hrow j hj; omega) HB7.out.size))
      have hsz8 : tb + 1 ≤ w8.heap.size := Nat.le_trans hsz7 hgr'.size
      have s8 := hbx8.c 14 _ rfl
      have fz8 := hbx8.fz
      have lt8 := hbx8.lt
      rw [tabLa_s] at hput
      have HP8 := hQ0 hput
      clear hown' hgr' hbk' hput hrow hbx8 HO7 HY7 HB7 HO6 HB6 hsz7 hsz6
      go_simp
      iterate 2 (refine wpList_plain rfl fun K hK => ?_; go_simp; refine hK _ _ ?_; clear hK K)
      refine wpList_nil ?_
      (try go_simp)
      go_wp2_with fail
      go_roundg (22 + d - (k + 1) + 1)
      case measure => omega
      case rel => exact ⟨k + 1, _, by omega, by omega, by go_num, hQ0 (HB8.out.setCell (by omega) _), by simpa using hsz8, HP8⟩
    · obtain rfl : k = 22 + d := by omega
      have hlim := limLa d hd5
      have KC := check_any (tabLa (22 + d)) a wq HO.out.at HO.out.cap (smallLa _ (by omega)) ⟨Nat.le_refl _, Nat.le_refl _, Nat.le_refl _, Nat.le_refl _, Nat.le_refl _⟩
      rw [hlim] at KC
      have i1 : ¬ (((22 + d : Nat) : Int) < 22 + (d : Int)) := by omega
      have HX := hQ0 HO.out.bx
      clear hlim HO
      by_cases h2 : 2 < d
      · rw [if_pos h2] at KC
        have i2 : (24 : Int) < 22 + (d : Int) := by omega
        go_upto_region 25 with (fail)
        refine wp_region_lit ?_
        apply wpL_maybe true (by exact rfl) ((tabLa (22 + d)).v a)
        (case h => intro _; exact load_tb _ _ 5 rfl tb (by first | rfl | (go_simp; done)) (tabLa (22 + d)) a _ HX.out)
        intro K hK; (try simp only [opt_true]); go_simp; refine hK _ _ ?_; clear hK K
        refine wpList_plain rfl fun K hK => ?_
        go_simp
        (go_at_call 11; refine KC.mono ?_; rintro e w9 ⟨rfl, hb9⟩)
        go_simp
        refine hK _ _ ?_
        clear hK K KC
        iterate 3 (refine wpList_plain rfl fun K hK => ?_; go_simp; refine hK _ _ ?_; clear hK K)
        refine wpList_nil ?_
        (try go_simp)
        go_wp2_with fail
        go_ret
        exact ⟨rfl, HB.out.trans (hb9.mono HB.out.size)⟩
      · rw [if_neg h2] at KC
        have i2 : ¬ (24 : Int) < 22 + (d : Int) := by omega
        go_upto_region 25 with (fail)
        refine wp_region_lit ?_
        apply wpL_maybe true (by exact rfl) ((tabLa (22 + d)).v a)
        (case h => intro _; exact load_tb _ _ 5 rfl tb (by first | rfl | (go_simp; done)) (tabLa (22 + d)) a _ HX.out)
        intro K hK; (try simp only [opt_true]); go_simp; refine hK _ _ ?_; clear hK K
        refine wpList_plain rfl fun K hK => ?_
        go_simp
        (go_at_call 11; refine KC.mono ?_; rintro e w9 ⟨rfl, hb9⟩)
        go_simp
        refine hK _ _ ?_
        clear hK K KC
        iterate 3 (refine wpList_plain rfl fun K hK => ?_; go_simp; refine hK _ _ ?_; clear hK K)
        refine wpList_nil ?_
        (try go_simp)
        go_wp2_with fail
        go_ret
        exact ⟨rfl, HB.out.trans (hb9.mono HB.out.size)⟩
 · rw [hW]
   clear hW
   have ix : ∀ w' : World, (Instr.index 50 (.agg #[.int .i64 64, .int .i64 32, .int .i64 24, .int .i64 16, .int .i64 4]) (.int .i64 3)).run Tryz.prog w' = .ok (.int .i64 16) w' := by
    intro w'
    simp [Instr.index, asIntOf, run_underlying Tryz.underlying50, go_sem]
   go_upto_region 7 with (go_at_call 20; refine (HP2.out _).mono ?_; rintro e w5 ⟨rfl, hb5⟩)
   have HO5 := hQ0 (HO4.out.below hb5 (Nat.le_refl _))
   have HB5 := hQ0 (HB4.out.trans (hb5.mono HB4.out.size))
   have hsz5 : tb + 1 ≤ w5.heap.size := Nat.le_trans hsz4 hb5.size
   clear hb5 HO4 HB4 hsz4 HP2
   go_wp2_with fail
   go_loopg [9] (14 + d + 1) (fun gk ti wr => ∃ (k : Nat) (a : TbA), k ≤ 14 + d ∧ 14 + d - k < gk ∧ ti = .int .i64 k ∧ Hid (Below w.heap.size w wr) ∧ tb + 1 ≤ wr.heap.size ∧ Hid (TbO wr (tb + 1) tb (tabZn k) a))
   case atStart => exact ⟨0, a0, by omega, by omega, rfl, HB5, hsz5, HO5⟩
   case round =>
    obtain ⟨wq, rfl⟩ : ∃ z, z = wr := ⟨_, rfl⟩
    obtain ⟨k, a, hk, hkk, rfl, HB, hsz, HO⟩ := hrel
    by_cases hlt : k < 14 + d
    · have i1 : (k : Int) < ((14 + d : Nat) : Int) := by omega
      have cv := str_two wq k (by omega)
      have ca := nm_cat k
      obtain ⟨nm, hnm⟩ : ∃ z, z = nmL k := ⟨_, rfl⟩
      rw [← hnm] at ca
      obtain ⟨B1, hB1⟩ : ∃ z, z = UInt8.ofNat (97 + k / 26) := ⟨_, rfl⟩
      obtain ⟨B2, hB2⟩ : ∃ z, z = UInt8.ofNat (97 + k % 26) := ⟨_, rfl⟩
      rw [← hB1, ← hB2] at cv ca
      clear hB1 hB2
      have HNM := hQ0 hnm
      clear hnm
      go_upto_region 19 with (fail)
      (refine pin_eqT (fun w6 hE => ?_))
      have hb6 : Below wq.heap.size wq w6 := by rw [hE]; exact (Below.refl _ _).alloc (Nat.le_refl _) _
      have HO6 := hQ0 (HO.out.below hb6 (Nat.le_refl _))
      have HB6 := hQ0 (HB.out.trans (hb6.mono HB.out.size))
      have hsz6 : tb + 1 ≤ w6.heap.size := Nat.le_trans hsz hb6.size
      clear hE hb6 cv ca HB HO
      have ts := HO6.out.bx.c 12 (.slice a.zs (tabZn k).zs.length a.zsc) rfl
      refine wp_region_lit ?_
      iterate 5 (refine wpList_plain rfl fun K hK => ?_; go_simp; refine hK _ _ ?_; clear hK K)
      refine wpList_plain rfl fun K hK => ?_; go_simp; refine hK _ _ ?_; clear hK K
      have hb7 : Below w6.heap.size w6 (w6.alloc (.cells (Zn.cells (elZn k)).toArray 59)) := (Below.refl w6.heap.size w6).alloc (Nat.le_refl _) _
      have HO7 := hQ0 (HO6.out.below hb7 (Nat.le_refl _))
      have HY7 := hQ0 (BoxAt.new w6 (Zn.cells (elZn k)) 59)
      have hsz7 : tb + 1 ≤ (w6.alloc (.cells (Zn.cells (elZn k)).toArray 59)).heap.size := Nat.le_trans hsz6 hb7.size
      have HB7 := hQ0 (HB6.out.trans (hb7.mono HB6.out.size))
      have hW7 : w6.alloc (.cells (Zn.cells (elZn k)).toArray 59) = w6.alloc (.cells #[.string nm, .int .i64 0, .int .i64 0, .int .i64 0, .int .i64 1, .int .i64 1, .int .i64 0, .int .i64 0, .int .i64 (-1)] 59) := by rw [HNM.out]; rfl
      rw [hW7] at HO7 HY7 HB7 hsz7
      clear hb7 hW7 ts
      generalize w6.alloc (.cells #[.string nm, .int .i64 0, .int .i64 0, .int .i64 0, .int .i64 1, .int .i64 1, .int .i64 0, .int .i64 0, .int .i64 (-1)] 59) = w7 at HO7 HY7 HB7 hsz7 ⊢
      refine wpList_append_one rfl (.tmp 73) (.tmp 77) 29 59 _ 9 _ rfl Tryz.underlying29 infZn rfl (by decide) (by decide) (tb + 1) (.slice a.zs (tabZn k).zs.length a.zsc) (tabZn k).zs.length ((tabZn k).zs.flatMap Zn.cells) (Zn.cells (elZn k)) (by go_simp) HO7.out.zs w6.heap.size 1 (by go_simp) rfl HY7.out.c (by simp [elZn, Zn.cells, Value.oneCell']) (by rw [tabZn_len]; omega) hsz7 ?_
      intro v' w8 hown' hgr' hbk'
      obtain ⟨A', c', rfl, hput⟩ := HO7.out.put_zs (Nat.lt_succ_self _) (elZn k) hown' hgr'
      have hrow : ∀ j, (Value.slice a.zs (tabZn k).zs.length a.zsc).ownBlock = some j → tb + 1 ≤ j := fun j hj => (World.ownsRow.lt HO7.out.zs j hj).1
      have hbx8 := boxAt_grown HO7.out.bx hgr' (fun j hj e => by have := hrow j hj; omega)
      have HB8 := hQ0 (HB7.out.trans (below_grown (tb := w.heap.size) hgr' (fun j hj => by have := hrow j hj; omega) HB7.out.size))
      have hsz8 : tb + 1 ≤ w8.heap.size := Nat.le_trans hsz7 hgr'.size
      have s8 := hbx8.c 12 _ rfl
      have fz8 := hbx8.fz
      have lt8 := hbx8.lt
      rw [tabZn_s] at hput
      have HP8 := hQ0 hput
      clear hown' hgr' hbk' hput hrow hbx8 HO7 HY7 HB7 HO6 HB6 hsz7 hsz6
      go_simp
      iterate 2 (refine wpList_plain rfl fun K hK => ?_; go_simp; refine hK _ _ ?_; clear hK K)
      refine wpList_nil ?_
      (try go_simp)
      go_wp2_with fail
      go_roundg (14 + d - (k + 1) + 1)
      case measure => omega
      case rel => exact ⟨k + 1, _, by omega, by omega, by go_num, hQ0 (HB8.out.setCell (by omega) _), by simpa using hsz8, HP8⟩
    · obtain rfl : k = 14 + d := by omega
      have hlim := limZn d hd5
      have KC := check_any (tabZn (14 + d)) a wq HO.out.at HO.out.cap (smallZn _ (by omega)) ⟨Nat.le_refl _, Nat.le_refl _, Nat.le_refl _, Nat.le_refl _, Nat.le_refl _⟩
      rw [hlim] at KC
      have i1 : ¬ (((14 + d : Nat) : Int) < 14 + (d : Int)) := by omega
      have HX := hQ0 HO.out.bx
      clear hlim HO
      by_cases h2 : 2 < d
      · rw [if_pos h2] at KC
        have i2 : (16 : Int) < 14 + (d : Int) := by omega
        go_upto_region 25 with (fail)
        refine wp_region_lit ?_
        apply wpL_maybe true (by exact rfl) ((tabZn (14 + d)).v a)
        (case h => intro _; exact load_tb _ _ 5 rfl tb (by first | rfl | (go_simp; done)) (tabZn (14 + d)) a _ HX.out)
        intro K hK; (try simp only [opt_true]); go_simp; refine hK _ _ ?_; clear hK K
        refine wpList_plain rfl fun K hK => ?_
        go_simp
        (go_at_call 11; refine KC.mono ?_; rintro e w9 ⟨rfl, hb9⟩)
        go_simp
        refine hK _ _ ?_
        clear hK K KC
        iterate 3 (refine wpList_plain rfl fun K hK => ?_; go_simp; refine hK _ _ ?_; clear hK K)
        refine wpList_nil ?_
        (try go_simp)
        go_wp2_with fail
        go_ret
        exact ⟨rfl, HB.out.trans (hb9.mono HB.out.size)⟩
      · rw [if_neg h2] at KC
        have i2 : ¬ (16 : Int) < 14 + (d : Int) := by omega
        go_upto_region 25 with (fail)
        refine wp_region_lit ?_
        apply wpL_maybe true (by exact rfl) ((tabZn (14 + d)).v a)
        (case h => intro _; exact load_tb _ _ 5 rfl tb (by first | rfl | (go_simp; done)) (tabZn (14 + d)) a _ HX.out)
        intro K hK; (try simp only [opt_true]); go_simp; refine hK _ _ ?_; clear hK K
        refine wpList_plain rfl fun K hK => ?_
        go_simp
        (go_at_call 11; refine KC.mono ?_; rintro e w9 ⟨rfl, hb9⟩)
        go_simp
        refine hK _ _ ?_
        clear hK K KC
        iterate 3 (refine wpList_plain rfl fun K hK => ?_; go_simp; refine hK _ _ ?_; clear hK K)
        refine wpList_nil ?_
        (try go_simp)
        go_wp2_with fail
        go_ret
        exact ⟨rfl, HB.out.trans (hb9.mono HB.out.size)⟩
 · rw [hW]
   clear hW
   have ix : ∀ w' : World, (Instr.index 50 (.agg #[.int .i64 64, .int .i64 32, .int .i64 24, .int .i64 16, .int .i64 4]) (.int .i64 4)).run Tryz.prog w' = .ok (.int .i64 4) w' := by
    intro w'
    simp [Instr.index, asIntOf, run_underlying Tryz.underlying50, go_sem]
   go_upto_region 7 with (go_at_call 20; refine (HP2.out _).mono ?_; rintro e w5 ⟨rfl, hb5⟩)
   have HO5 := hQ0 (HO4.out.below hb5 (Nat.le_refl _))
   have HB5 := hQ0 (HB4.out.trans (hb5.mono HB4.out.size))
   have hsz5 : tb + 1 ≤ w5.heap.size := Nat.le_trans hsz4 hb5.size
   clear hb5 HO4 HB4 hsz4 HP2
   go_wp2_with fail
   go_loopg [9] (2 + d + 1) (fun gk ti wr => ∃ (k : Nat) (a : TbA), k ≤ 2 + d ∧ 2 + d - k < gk ∧ ti = .int .i64 k ∧ Hid (Below w.heap.size w wr) ∧ tb + 1 ≤ wr.heap.size ∧ Hid (TbO wr (tb + 1) tb (tabDr k) a))
   case atStart => exact ⟨0, a0, by omega, by omega, rfl, HB5, hsz5, HO5⟩
   case round =>
    obtain ⟨wq, rfl⟩ : ∃ z, z = wr := ⟨_, rfl⟩
    obtain ⟨k, a, hk, hkk, rfl, HB, hsz, HO⟩ := hrel
    by_cases hlt : k < 2 + d
    · have i1 : (k : Int) < ((2 + d : Nat) : Int) := by omega
      have cv := str_two wq k (by omega)
      have ca := nm_cat k
      obtain ⟨nm, hnm⟩ : ∃ z, z = nmL k := ⟨_, rfl⟩
      rw [← hnm] at ca
      obtain ⟨B1, hB1⟩ : ∃ z, z = UInt8.ofNat (97 + k / 26) := ⟨_, rfl⟩
      obtain ⟨B2, hB2⟩ : ∃ z, z = UInt8.ofNat (97 + k % 26) := ⟨_, rfl⟩
      rw [← hB1, ← hB2] at cv ca
      clear hB1 hB2
      have HNM := hQ0 hnm
      clear hnm
      go_upto_region 21 with (fail)
      (refine pin_eqT (fun w6 hE => ?_))
      have hb6 : Below wq.heap.size wq w6 := by rw [hE]; exact (Below.refl _ _).alloc (Nat.le_refl _) _
      have HO6 := hQ0 (HO.out.below hb6 (Nat.le_refl _))
      have HB6 := hQ0 (HB.out.trans (hb6.mono HB.out.size))
      have hsz6 : tb + 1 ≤ w6.heap.size := Nat.le_trans hsz hb6.size
      clear hE hb6 cv ca HB HO
      have ts := HO6.out.bx.c 16 (.slice a.ds (tabDr k).ds.length a.dsc) rfl
      refine wp_region_lit ?_
      iterate 4 (refine wpList_plain rfl fun K hK => ?_; go_simp; refine hK _ _ ?_; clear hK K)
      refine wpList_plain rfl fun K hK => ?_; go_simp; refine hK _ _ ?_; clear hK K
      have hb7 : Below w6.heap.size w6 (w6.alloc (.cells (Dr.cells (elDr k)).toArray 61)) := (Below.refl w6.heap.size w6).alloc (Nat.le_refl _) _
      have HO7 := hQ0 (HO6.out.below hb7 (Nat.le_refl _))
      have HY7 := hQ0 (BoxAt.new w6 (Dr.cells (elDr k)) 61)
      have hsz7 : tb + 1 ≤ (w6.alloc (.cells (Dr.cells (elDr k)).toArray 61)).heap.size := Nat.le_trans hsz6 hb7.size
      have HB7 := hQ0 (HB6.out.trans (hb7.mono HB6.out.size))
      have hW7 : w6.alloc (.cells (Dr.cells (elDr k)).toArray 61) = w6.alloc (.cells #[.string nm, .int .i64 0, .int .i64 0, .int .i64 0, .int .i64 1] 61) := by rw [HNM.out]; rfl
      rw [hW7] at HO7 HY7 HB7 hsz7
      clear hb7 hW7 ts
      generalize w6.alloc (.cells #[.string nm, .int .i64 0, .int .i64 0, .int .i64 0, .int .i64 1] 61) = w7 at HO7 HY7 HB7 hsz7 ⊢
      refine wpList_append_one rfl (.tmp 83) (.tmp 86) 33 61 _ 5 _ rfl Tryz.underlying33 infDr rfl (by decide) (by decide) (tb + 1) (.slice a.ds (tabDr k).ds.length a.dsc) (tabDr k).ds.length ((tabDr k).ds.flatMap Dr.cells) (Dr.cells (elDr k)) (by go_simp) HO7.out.ds w6.heap.size 1 (by go_simp) rfl HY7.out.c (by simp [elDr, Dr.cells, Value.oneCell']) (by rw [tabDr_len]; omega) hsz7 ?_
      intro v' w8 hown' hgr' hbk'
      obtain ⟨A', c', rfl, hput⟩ := HO7.out.put_ds (Nat.lt_succ_self _) (elDr k) hown' hgr'
      have hrow : ∀ j, (Value.slice a.ds (tabDr k).ds.length a.dsc).ownBlock = some j → tb + 1 ≤ j := fun j hj => (World.ownsRow.lt HO7.out.ds j hj).1
      have hbx8 := boxAt_grown HO7.out.bx hgr' (fun j hj e => by have := hrow j hj; omega)
      have HB8 := hQ0 (HB7.out.trans (below_grown (tb := w.heap.size) hgr' (fun j hj => by have := hrow j hj; omega) HB7.out.size))
      have hsz8 : tb + 1 ≤ w8.heap.size := Nat.le_trans hsz7 hgr'.size
      have s8 := hbx8.c 16 _ rfl
      have fz8 := hbx8.fz
      have lt8 := hbx8.lt
      rw [tabDr_s] at hput
      have HP8 := hQ0 hput
      clear hown' hgr' hbk' hput hrow hbx8 HO7 HY7 HB7 HO6 HB6 hsz7 hsz6
      go_simp
      iterate 2 (refine wpList_plain rfl fun K hK => ?_; go_simp; refine hK _ _ ?_; clear hK K)
      refine wpList_nil ?_
      (try go_simp)
      go_wp2_with fail
      go_roundg (2 + d - (k + 1) + 1)
      case measure => omega
      case rel => exact ⟨k + 1, _, by omega, by omega, by go_num, hQ0 (HB8.out.setCell (by omega) _), by simpa using hsz8, HP8⟩
    · obtain rfl : k = 2 + d := by omega
      have hlim := limDr d hd5
      have KC := check_any (tabDr (2 + d)) a wq HO.out.at HO.out.cap (smallDr _ (by omega)) ⟨Nat.le_refl _, Nat.le_refl _, Nat.le_refl _, Nat.le_refl _, Nat.le_refl _⟩
      rw [hlim] at KC
      have i1 : ¬ (((2 + d : Nat) : Int) < 2 + (d : Int)) := by omega
      have HX := hQ0 HO.out.bx
      clear hlim HO
      by_cases h2 : 2 < d
      · rw [if_pos h2] at KC
        have i2 : (4 : Int) < 2 + (d : Int) := by omega
        go_upto_region 25 with (fail)
        refine wp_region_lit ?_
        apply wpL_maybe true (by exact rfl) ((tabDr (2 + d)).v a)
        (case h => intro _; exact load_tb _ _ 5 rfl tb (by first | rfl | (go_simp; done)) (tabDr (2 + d)) a _ HX.out)
        intro K hK; (try simp only [opt_true]); go_simp; refine hK _ _ ?_; clear hK K
        refine wpList_plain rfl fun K hK => ?_
        go_simp
        (go_at_call 11; refine KC.mono ?_; rintro e w9 ⟨rfl, hb9⟩)
        go_simp
        refine hK _ _ ?_
        clear hK K KC
        iterate 3 (refine wpList_plain rfl fun K hK => ?_; go_simp; refine hK _ _ ?_; clear hK K)
        refine wpList_nil ?_
        (try go_simp)
        go_wp2_with fail
        go_ret
        exact ⟨rfl, HB.out.trans (hb9.mono HB.out.size)⟩
      · rw [if_neg h2] at KC
        have i2 : ¬ (4 : Int) < 2 + (d : Int) := by omega
        go_upto_region 25 with (fail)
        refine wp_region_lit ?_
        apply wpL_maybe true (by exact rfl) ((tabDr (2 + d)).v a)
        (case h => intro _; exact load_tb _ _ 5 rfl tb (by first | rfl | (go_simp; done)) (tabDr (2 + d)) a _ HX.out)
        intro K hK; (try simp only [opt_true]); go_simp; refine hK _ _ ?_; clear hK K
        refine wpList_plain rfl fun K hK => ?_
        go_simp
        (go_at_call 11; refine KC.mono ?_; rintro e w9 ⟨rfl, hb9⟩)
        go_simp
        refine hK _ _ ?_
        clear hK K KC
        iterate 3 (refine wpList_plain rfl fun K hK => ?_; go_simp; refine hK _ _ ?_; clear hK K)
        refine wpList_nil ?_
        (try go_simp)
        go_wp2_with fail
        go_ret
        exact ⟨rfl, HB.out.trans (hb9.mono HB.out.size)⟩
end Go.Proofs.YtbpcjpiaimdpnaaGreatDoor
namespace Go.Proofs.YtbpcjpiaimdpnaaGreatDoor
open Go Go.RowKit
set_option linter.unusedVariables false
abbrev laids : List (String × DataW Unit) := [("math/bits.deBruijn32tab", Rows.laid_math_bits_deBruijn32tab), ("math/bits.deBruijn64tab", Rows.laid_math_bits_deBruijn64tab), ("internal/strconv.uint64pow10", Rows.laid_internal_strconv_uint64pow10), ("unicode.White_Space", Rows.laid_unicode_White_Space), ("strings.asciiSpace", Rows.laid_strings_asciiSpace)]
theorem door_met (os : Os) (args : Array Value) : laidMetH Tryz.prog laids ((World.doorLaid Tryz.prog 400 os).forCall (fun _ _ => 0) ⟨#[], args, []⟩).memory :=
 laidMetH_of_parts3 (fuel := 8) (laidMet_of_run' 8 (by kernel_rfl) (by kernel_rfl)) (by kernel_rfl) (by kernel_rfl)
theorem pow_data : (Rows.laid_internal_strconv_uint64pow10 : DataW Unit) = Lib.tabData .u64 Lib.pow10Tab := by kernel_rfl
theorem spc_data : (Rows.laid_strings_asciiSpace : DataW Unit) = Lib.tabData .u8 Lib.asciiSpaceTab := by kernel_rfl
theorem tabs_of_laid {W : World} (h : laidMetH Tryz.prog laids W) : Tabs W := by
 rw [MakeChecks.laidMetH_plain _ _ _ (by kernel_rfl)] at h
 have h3 := laidMet.tail (laidMet.tail h)
 have h5 := laidMet.tail (laidMet.tail h3)
 rw [pow_data] at h3
 rw [spc_data] at h5
 exact ⟨Lib.tabIs_of_head (t := 286) (e := 5) (n := 256) gSp (by kernel_rfl) (by kernel_rfl) (by kernel_rfl) (by kernel_rfl) (by kernel_rfl) h5, Lib.tabIs_of_head (t := 302) (e := 284) (n := 20) gPw (by kernel_rfl) (by kernel_rfl) (by kernel_rfl) (by kernel_rfl) (by kernel_rfl) h3⟩
end Go.Proofs.YtbpcjpiaimdpnaaGreatDoor
namespace Go.Proofs.YtbpcjpiaimdpnaaGreatDoor.lawLM
open Go.ChangeShapes Go.WideShapes Go.ChangeAt Go.RowKit
open Go.ChangeMaps (open_string shut_string)
set_option linter.unusedVariables false
theorem walk (w : World) (n : Int) (h1 : (Lit.int .i64 n).wf = true) (which : Int) (h2 : (Lit.int .i64 which).wf = true) (ht : Tabs w) :
  Calls Tryz.prog 7 #[.int .i64 n, .int .i64 which] w fun e w' => e = .returned (.bool true) ∧ Below w.heap.size w w' := by
 obtain ⟨a0, a1⟩ := wf_bd h1
 obtain ⟨b0, b1⟩ := wf_bd h2
 exact limits_walk n which a0 a1 b0 b1 w ht
theorem own : ownKnob Tryz.prog.godebug = none := by kernel_rfl
theorem laidOut : laidOutB Tryz.prog = true := by kernel_rfl
set_option maxRecDepth 100000 in
theorem lifted (os : Os) (started : os.Started) (H : Type) (enc : TypeId × Value → H) :
  ReturnsInHanded {} Tryz.checked os 7 .any (fun w args => (Rows.layoutLimitsSpec.pre enc Tryz.prog Tryz.f7 [] false w args ∧ laidMetH Tryz.prog laids w) ∧ sizedMet enc Tryz.prog Tryz.f7 (OpenSpec.ofChange Rows.layoutLimitsSpec) false w args)
   (Rows.layoutLimitsSpec.post enc Tryz.prog Tryz.f7 false true false false) := by
 refine returnsInHanded_of_change_and (C := Tryz.checked) (X := fun w _ => laidMetH Tryz.prog laids w) (fun _ _ _ hh h => h.of_heap hh) own started (by kernel_rfl) Tryz.func7
  (ChangeSpec.witness_shaped (enc := enc) (C := Tryz.checked) (os := os) (X := fun w _ => laidMetH Tryz.prog laids w) false (World.doorLaid Tryz.prog 400 os) #[.int .i64 0, .int .i64 0] 8 rfl (World.shaped_of_RefB (by kernel_rfl) (by kernel_rfl)) (by kernel_rfl) (by kernel_rfl) (by kernel_rfl) (door_met os _)) ?_
 intro W base args ds gs before hval0 hW _ _ hL _
 have ht := tabs_of_laid hL
 have hval : ∀ (j : Nat) t v, Tryz.f7.params[j]? = some t → args[j]? = some v → Value.okWide Tryz.prog W .any base t v := hval0
 have hW' := hW
 obtain ⟨p, q, hA0, hV, rfl, hfz, hnd⟩ := hW
 have hA : DataW.TrodAll enc Tryz.prog W 0 (fun _ => true) true Tryz.f7.params.toList args.toList ds p := hA0
 rw [Tryz.params7] at hA hval


 obtain ⟨v0, vs0, d0, ds0, p0, q0, hargs, rfl, rfl, h0, r0⟩ := trodAll_cons hA
 obtain ⟨v1, vs1, d1, ds1, p1, q1, rfl, rfl, rfl, h1, r1⟩ := trodAll_cons r0
 obtain ⟨rfl, rfl, rfl⟩ := trodAll_nil r1
 obtain rfl : args = #[v0, v1] := by cases args; simp_all
 obtain ⟨rfl, rfl⟩ := trodVars_none hV
 obtain ⟨a0, rfl, rfl, rfl, w0⟩ := open_int Tryz.underlying3 (hval 0 3 v0 rfl rfl) h0
 obtain ⟨a1, rfl, rfl, rfl, w1⟩ := open_int Tryz.underlying3 (hval 1 3 v1 rfl rfl) h1
 clear hA0 hval0
 refine (walk W a0 w0 a1 w1 ht).mono fun e W' ⟨he, bel⟩ => ?_
 subst he
 exact ⟨_, rfl, _, _, _, [], _, [], hW', trodAll_mk1 (shut_bool Tryz.underlying4 _), (trodAll_cons_mk (shut_int Tryz.underlying3 w0) (trodAll_cons_mk (shut_int Tryz.underlying3 w1) trodAll_mk0)), rfl, bel.frame _, fun h => by cases h⟩
theorem over : Rows.layoutLimitsRow.holds Tryz.pinned (OpenSpec.ofChange Rows.layoutLimitsSpec) :=
 OpenClaim.holds_of_wide 7 Tryz.f7 rfl rfl rfl rfl rfl rfl rfl ⟨rfl, rfl, rfl, rfl, rfl⟩ rfl rfl rfl rfl rfl (by kernel_rfl) Tryz.func7 (by kernel_rfl)
  (of_decide_eq_true (by kernel_rfl)) (by unfold Func.isWrapper; first | (rw [if_pos (by decide +kernel)]; kernel_rfl) | (rw [if_neg (by decide +kernel)]; exact ⟨rfl, rfl⟩))
  (fun os started H enc _ => lifted os started H enc)
theorem proved : Rows.LayoutLimitsCardSaid :=
 Claim7.holds_tied_plain_at .later [] [.data, .data, .data, .listed, .data] true (true, "4ffa0a240c363f7bc4c1e5ce10cebaf26484fe1eb9c5358c8204ed8c115b2db5") true
  over (fun _ h => by cases h) (by kernel_rfl) (fun _ h => by cases h) layoutLimits_row_tie rfl ⟨rfl, rfl⟩ (by kernel_rfl) rfl
  (fun f fn hf hfn => by
   obtain rfl : f = 7 := Option.some.inj ((show Tryz.prog.funcNamed "pinball/pinballlaw09.LayoutLimits" = some 7 by kernel_rfl).symm.trans hf) |>.symm
   obtain rfl : fn = Tryz.f7 := (Option.some.inj (Tryz.func7.symm.trans hfn)).symm
   exact ⟨by kernel_rfl, fun j t ht => by
    rw [Tryz.params7] at ht
    have hm : t ∈ [3, 3] := by simpa using Array.mem_of_getElem? ht
    have hall : ([3, 3].all fun u => !Tryz.prog.wantsStandIn u) = true := by kernel_rfl
    exact (show Tryz.prog.wantsStandIn t = false by simpa using List.all_eq_true.1 hall t hm)⟩)
  (by kernel_rfl)
#print axioms proved
end Go.Proofs.YtbpcjpiaimdpnaaGreatDoor.lawLM
