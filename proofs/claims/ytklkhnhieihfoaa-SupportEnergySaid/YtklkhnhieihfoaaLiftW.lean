/- The contract of vector.Lift. -/
import Derived.Test.YtklkhnhieihfoaaLiftA
namespace Go.Proofs.Ytklkhnhieihfoaa
open Go.RowKit
set_option linter.unusedVariables false
def cellsOfV (p : V2) : List Value := [.int .i64 p.1, .int .i64 p.2]
def flatV (l : List V2) : List Value := l.flatMap cellsOfV
theorem flatV_snoc (l : List V2) (p : V2) : flatV (l ++ [p]) = flatV l ++ cellsOfV p := by simp [flatV]
theorem flatV_len (l : List V2) : (flatV l).length = l.length * 2 := by
  induction l with
  | nil => rfl
  | cons x l ih => simp only [flatV, List.flatMap_cons, List.length_append, List.length_cons] at *; rw [ih]; simp [cellsOfV]; omega
theorem flatV_get {l : List V2} {k j : Nat} {x : V2} (h : l[k]? = some x) (hj : j < 2) : (flatV l)[k * 2 + j]? = (cellsOfV x)[j]? := by
  induction l generalizing k with
  | nil => simp at h
  | cons y l ih =>
    simp only [flatV, List.flatMap_cons]
    cases k with
    | zero =>
      simp only [List.getElem?_cons_zero, Option.some.injEq] at h
      subst h
      rw [List.getElem?_append_left (by simp [cellsOfV]; omega)]
      simp
    | succ k =>
      simp only [List.getElem?_cons_succ] at h
      rw [List.getElem?_append_right (by simp [cellsOfV]; omega)]
      have := ih h
      simp only [flatV] at this
      rw [← this]
      congr 1
      simp [cellsOfV]; omega
theorem own_vsAt {w : World} {base : Nat} {e : TypeId} {cap g : Nat} {l : List V2} (h : w.ownsRow base e 2 (.slice (some ⟨g, 0, none⟩) l.length cap) l.length (flatV l)) : VsAt w g 0 l := by
  intro k x hx
  have hk := (List.getElem?_eq_some_iff.1 hx).1
  rw [Nat.zero_add]
  refine ⟨?_, ?_⟩
  · rw [h.cellAt (k * 2) (by omega)]; exact flatV_get (j := 0) hx (by omega)
  · rw [h.cellAt (k * 2 + 1) (by omega)]; exact flatV_get hx (by omega)
theorem own_formS {w : World} {base size : Nat} {e : TypeId} {n : Nat} {v : Value} {xs : List Value} (h : w.ownsRow base e size v n xs) : (n = 0 ∧ ∃ A c, v = .slice A 0 c) ∨ (0 < n ∧ ∃ g c, v = .slice (some ⟨g, 0, none⟩) n c ∧ n ≤ c ∧ g < w.heap.size ∧ base ≤ g) := by
  rcases Nat.eq_zero_or_pos n with h0 | h0
  · subst h0
    rcases h.2 with ⟨hv, _⟩ | ⟨g, cap, cur, hv, _⟩
    · exact .inl ⟨rfl, none, 0, hv⟩
    · exact .inl ⟨rfl, _, _, hv⟩
  · rcases h.2 with ⟨_, hn⟩ | ⟨g, cap, cur, hv, hb, hh, hc, _⟩
    · omega
    · refine .inr ⟨h0, g, cap, hv, hc, ?_, hb⟩
      rcases Nat.lt_or_ge g w.heap.size with h | h
      · exact h
      · rw [Array.getElem?_eq_none h] at hh; cases hh
theorem own_below {w w1 : World} {base B : Nat} {e : TypeId} {size n : Nat} {v : Value} {xs : List Value} (h : w.ownsRow base e size v n xs) (hb : Below B w w1) (hB : w.heap.size ≤ B) : w1.ownsRow base e size v n xs := by
  obtain ⟨h1, h2⟩ := h
  refine ⟨h1, ?_⟩
  rcases h2 with h2 | ⟨g, cap, cur, hv, hg, hh, r⟩
  · exact .inl h2
  · have hlt : g < w.heap.size := by
      rcases Nat.lt_or_ge g w.heap.size with h | h
      · exact h
      · rw [Array.getElem?_eq_none h] at hh; cases hh
    exact .inr ⟨g, cap, cur, hv, hg, by rw [hb.block g (by omega)]; exact hh, r⟩
theorem own_new (w : World) (base : Nat) (e : TypeId) (size n : Nat) (cs : Array Value) (hb : base ≤ w.heap.size) (hc : cs.size = n * size) (hn : n ≤ maxLen) : (w.alloc (.cells cs e)).ownsRow base e size (.slice (some ⟨w.heap.size, 0, none⟩) n n) n cs.toList := by
  refine ⟨by simpa using hc, .inr ⟨w.heap.size, n, cs, rfl, hb, ?_, Nat.le_refl _, hn, hc, ?_⟩⟩
  · exact heap_alloc_new w _
  · rw [List.take_of_length_le]; simp [hc]
theorem own_fresh {w : World} {base : Nat} {e : TypeId} {size n : Nat} {v : Value} {xs : List Value} (h : w.ownsRow base e size v n xs) : ∀ k, v.ownBlock = some k → base ≤ k := fun k hk => (h.lt k hk).1
theorem cells_new {W : World} (cs : List Value) (E : TypeId) (b : Nat) (hb : b = W.heap.size) : ∀ (j : Nat) (u : Value), cs[j]? = some u → (W.alloc (.cells cs.toArray E)).cell? ((⟨b, 0, none⟩ : Addr).add j) = some u := by
  intro j u hu
  subst hb
  have : (⟨W.heap.size, 0, none⟩ : Addr).add j = ⟨W.heap.size, j, none⟩ := by unfold Addr.add; split <;> simp_all
  rw [this, World.cell?_alloc_new]
  simpa using hu
theorem cmpI_cases (a b : Int) : cmpV a b = -1 ∨ cmpV a b = 0 ∨ cmpV a b = 1 := by
  unfold cmpV
  split
  · exact .inl rfl
  · split
    · exact .inr (.inr rfl)
    · exact .inr (.inl rfl)
theorem orderR_cases (x1 x2 a1 a2 b1 b2 : Int) : orderR x1 x2 a1 a2 b1 b2 = -1 ∨ orderR x1 x2 a1 a2 b1 b2 = 0 ∨ orderR x1 x2 a1 a2 b1 b2 = 1 := by
  unfold orderR
  split <;> exact cmpI_cases _ _
theorem corner_facts (x n : V2) (hx : smB x = true) (hn : smB n = true) (hneg : vd x n < 0) : ∃ C D xl xh yl yh : Int,
    Hid (∀ w : World, Calls Try.prog 109 #[.agg #[.int .i64 n.1, .int .i64 n.2], .agg #[.int .i64 x.1, .int .i64 x.2]] w fun e w' => e = .returned (.int .i64 C) ∧ Below w.heap.size w w') ∧
    Hid (∀ w : World, Calls Try.prog 19 #[.agg #[.int .i64 n.1, .int .i64 n.2], .agg #[.int .i64 n.1, .int .i64 n.2]] w fun e w' => e = .returned (.int .i64 D) ∧ Below w.heap.size w w') ∧
    Hid (∀ w : World, Calls Try.prog 110 #[.int .i64 (-C), .int .i64 n.2, .int .i64 D] w fun e w' => e = .returned (.tuple #[.int .i64 xl, .int .i64 xh]) ∧ Below w.heap.size w w') ∧
    Hid (∀ w : World, Calls Try.prog 110 #[.int .i64 C, .int .i64 n.1, .int .i64 D] w fun e w' => e = .returned (.tuple #[.int .i64 yl, .int .i64 yh]) ∧ Below w.heap.size w w') ∧
    Hid (cornersR x n = [(xl, yl), (xl, yh), (xh, yl), (xh, yh)]) ∧ -2305843009213693952 ≤ C ∧ C ≤ 2305843009213693952 := by
  obtain ⟨q1, q2, q3, q4⟩ := small_bd hx
  obtain ⟨r1, r2, r3, r4⟩ := small_bd hn
  obtain ⟨m1, m2⟩ := mul_bd n.1 x.2 1073741824 1073741824 r1 r2 q3 q4
  obtain ⟨m3, m4⟩ := mul_bd n.2 x.1 1073741824 1073741824 r3 r4 q1 q2
  have s1 : n.1 * n.1 = (n.1.natAbs : Int) * (n.1.natAbs : Int) := by rw [← Int.natCast_mul]; exact Int.natAbs_mul_self.symm
  have s2 : n.2 * n.2 = (n.2.natAbs : Int) * (n.2.natAbs : Int) := by rw [← Int.natCast_mul]; exact Int.natAbs_mul_self.symm
  have d1 : (n.1.natAbs : Int) ≤ n.1 * n.1 := by
    rw [s1]
    rcases Nat.eq_zero_or_pos n.1.natAbs with h | h
    · rw [h]; simp
    · have := Int.mul_le_mul_of_nonneg_right (show (1 : Int) ≤ (n.1.natAbs : Int) by omega) (show (0 : Int) ≤ (n.1.natAbs : Int) by omega); omega
  have d2 : (n.2.natAbs : Int) ≤ n.2 * n.2 := by
    rw [s2]
    rcases Nat.eq_zero_or_pos n.2.natAbs with h | h
    · rw [h]; simp
    · have := Int.mul_le_mul_of_nonneg_right (show (1 : Int) ≤ (n.2.natAbs : Int) by omega) (show (0 : Int) ≤ (n.2.natAbs : Int) by omega); omega
  have hD : vd n n = n.1 * n.1 + n.2 * n.2 := rfl
  have hDb := vd_bd hn hn
  have hpos : 0 < vd n n := by
    rcases Int.lt_or_le 0 (vd n n) with h | h
    · exact h
    · have e1 : n.1 = 0 := by omega
      have e2 : n.2 = 0 := by omega
      unfold vd at hneg
      rw [e1, e2] at hneg
      simp at hneg
  obtain ⟨D, hDD⟩ : ∃ D, D = vd n n := ⟨_, rfl⟩
  obtain ⟨C, hC⟩ : ∃ C, C = n.1 * x.2 - n.2 * x.1 := ⟨_, rfl⟩
  have cb : -2305843009213693952 ≤ C ∧ C ≤ 2305843009213693952 := by omega
  have hcr := fun w => cross_in n.1 n.2 x.1 x.2 w hn hx
  have hdd := fun w => dot_vd n n w hn hn
  rw [← hC] at hcr
  rw [← hDD] at hdd hpos hDb hD
  have k1 : (-C).natAbs * n.2.natAbs ≤ D.natAbs * 4611686018427387904 := by
    rw [Nat.mul_comm D.natAbs]
    exact Nat.mul_le_mul (by omega) (by omega)
  have k2 : C.natAbs * n.1.natAbs ≤ D.natAbs * 4611686018427387904 := by
    rw [Nat.mul_comm D.natAbs]
    exact Nat.mul_le_mul (by omega) (by omega)
  refine ⟨C, D, _, _, _, _, Lib.hid hcr, Lib.hid hdd, Lib.hid (fun w => floors_in (-C) n.2 D w (by omega) (by omega) (by omega) (by omega) hpos (by omega) k1), Lib.hid (fun w => floors_in C n.1 D w (by omega) (by omega) (by omega) (by omega) hpos (by omega) k2), Lib.hid ?_, cb⟩
  unfold cornersR
  rw [← hC, ← hDD]
theorem idx0 (w : World) (a b c d e f g h : Value) : (Instr.index 115 (.agg #[a, b, c, d, e, f, g, h]) (.int .i64 0)).run Try.prog w = .ok (.agg #[a, b]) w := by
  simp [Instr.index, asIntOf, run_underlying Try.underlying115, go_sem]
theorem idx1 (w : World) (a b c d e f g h : Value) : (Instr.index 115 (.agg #[a, b, c, d, e, f, g, h]) (.int .i64 1)).run Try.prog w = .ok (.agg #[c, d]) w := by
  simp [Instr.index, asIntOf, run_underlying Try.underlying115, go_sem]
theorem idx2 (w : World) (a b c d e f g h : Value) : (Instr.index 115 (.agg #[a, b, c, d, e, f, g, h]) (.int .i64 2)).run Try.prog w = .ok (.agg #[e, f]) w := by
  simp [Instr.index, asIntOf, run_underlying Try.underlying115, go_sem]
theorem idx3 (w : World) (a b c d e f g h : Value) : (Instr.index 115 (.agg #[a, b, c, d, e, f, g, h]) (.int .i64 3)).run Try.prog w = .ok (.agg #[g, h]) w := by
  simp [Instr.index, asIntOf, run_underlying Try.underlying115, go_sem]
attribute [local go_sem] idx0 idx1 idx2 idx3
theorem vecInfo : (Try.prog.info? 23).map (fun i => (i.zero, i.size, i.bytes)) = some (some (.agg #[.int .i64 0, .int .i64 0]), 2, 16) := by kernel_rfl
set_option maxRecDepth 100000 in
set_option maxHeartbeats 4000000 in
theorem lift_some (x : V2) (l : List V2) (g o c : Nat) (w : World) (hn : 0 < l.length) (hl100 : l.length ≤ 1000) (hg : g < w.heap.size) (hV : VsAt w g o l) (hxb : -9223372036854775808 ≤ x.1 ∧ x.1 ≤ 9223372036854775807 ∧ -9223372036854775808 ≤ x.2 ∧ x.2 ≤ 9223372036854775807) :
    Calls Try.prog 60 #[.agg #[.int .i64 x.1, .int .i64 x.2], .slice (some ⟨g, o, none⟩) l.length c] w fun e w' => e = .returned (.agg #[.int .i64 (liftR x l).1, .int .i64 (liftR x l).2]) ∧ Below w.heap.size w w' := by
  obtain ⟨i0, hi0, hy0, hy1, hy2⟩ := info_parts vecInfo
  have HV := Lib.hid hV
  clear hV
  obtain ⟨R, hR⟩ : ∃ R, R = liftR x l := ⟨_, rfl⟩
  rw [← hR]
  cases hxs : smB x
  · have hfin : R = (0, 0) := by rw [hR]; unfold liftR; rw [if_pos hxs]
    subst hfin
    have hsm := fun w => small_any x.1 x.2 w
    rw [show smallB x.1 x.2 = false from hxs] at hsm
    have HSM := Lib.hid hsm
    clear hR hsm hxs
    go_enter Try.func60, Try.ntmps60; (try simp only [List.append_eq, List.cons_append, List.nil_append])
    go_wp2_with (first | (go_at_call 67; refine (HSM.out _).mono ?_; rintro e w1 ⟨rfl, hb1⟩; have hz1 : w.heap.size + 2 ≤ w1.heap.size := (by have h := hb1.size; (try simp at h); omega); have hbb := Below.mono hb1 (B' := w.heap.size + 2) (by (try simp) <;> omega); clear hb1; (with_reducible apply cel2 (b := w.heap.size) hbb); (focus ((try simp) <;> omega)); (focus omega); (focus (go_simp; try exact rfl)); (focus (go_simp; try exact rfl)); (focus (intro o; go_simp)); intro cc cc fz hl; (with_reducible apply cel2 (b := w.heap.size + 1) hbb); (focus ((try simp) <;> omega)); (focus omega); (focus (go_simp; try exact rfl)); (focus (go_simp; try exact rfl)); (focus (intro o; go_simp)); intro cc cc fz hl))
    refine bodyPost_ret (v := .agg #[.int .i64 0, .int .i64 0]) (by simp only [results, Try.results60]; go_simp) rfl ⟨?_, ?_⟩
    · rfl
    · ((with_reducible (repeat (first | exact bR _ _ | refine bS ?_ ?_ _ | refine bA ?_ ?_ _ | refine bD ?_ | refine bT ?_ (by assumption) ?_ | refine bO (by assumption) ?_ ?_))) <;> (first | omega | (simp; done) | (simp <;> omega)))
  · have hsm := fun w => small_any x.1 x.2 w
    rw [show smallB x.1 x.2 = true from hxs] at hsm
    have HSM := Lib.hid hsm
    have HXS := Lib.hid hxs
    have HR := Lib.hid hR
    clear hR hsm hxs
    obtain ⟨R1, R2⟩ := R
    go_enter Try.func60, Try.ntmps60; (try simp only [List.append_eq, List.cons_append, List.nil_append])
    go_wp2_with fail
    -- own blocks: w.heap.size:2, w.heap.size + 1:2
    (go_at_call 67; refine (HSM.out _).mono ?_; rintro e w1 ⟨rfl, hb_w1⟩; have hz_w1 := hb_w1.size; (try simp at hz_w1); (with_reducible apply cel2 (b := w.heap.size) hb_w1); (focus ((try simp) <;> omega)); (focus omega); (focus (go_simp; try exact rfl)); (focus (go_simp; try exact rfl)); (focus (intro o; go_simp)); intro cc cc fz hl; (with_reducible apply cel2 (b := w.heap.size + 1) hb_w1); (focus ((try simp) <;> omega)); (focus omega); (focus (go_simp; try exact rfl)); (focus (go_simp; try exact rfl)); (focus (intro o; go_simp)); intro cc cc fz hl)
    have HB1 := Lib.hid (((((Below.refl w.heap.size w).alloc (Nat.le_refl _) _).alloc (by simp) _)).trans (hb_w1.mono (by simp; omega)))
    clear hb_w1
    go_wp2_with fail
    go_loopw [5, 26] (fun vf vk wr => ∃ k : Nat, k ≤ l.length ∧ vk = .int .i64 k ∧ vf = .bool (allowedR x (l.take k)) ∧ Hid (∀ n ∈ l.take k, smB n = true) ∧ Below (w.heap.size + 2) w1 wr) (fun _ vk _ => l.length - (intOf vk).toNat)
    case atStart => exact ⟨0, by omega, rfl, rfl, Lib.hid (by simp), Below.refl _ _⟩
    case round =>
      obtain ⟨k, hk, rfl, rfl, HS, hb_wr⟩ := hrel
      have hz_wr := hb_wr.size
      (with_reducible apply cel2 (b := w.heap.size) hb_wr); (focus ((try simp) <;> omega)); (focus omega); (focus (go_simp; try exact rfl)); (focus (go_simp; try exact rfl)); (focus (intro o; go_simp)); intro cc cc fz hl; (with_reducible apply cel2 (b := w.heap.size + 1) hb_wr); (focus ((try simp) <;> omega)); (focus omega); (focus (go_simp; try exact rfl)); (focus (go_simp; try exact rfl)); (focus (intro o; go_simp)); intro cc cc fz hl
      have HBW := Lib.hid hb_wr
      clear hb_wr
      by_cases hlt : k < l.length
      · obtain ⟨⟨a, b⟩, hx⟩ : ∃ x, l[k]? = some x := ⟨l[k], by simp⟩
        obtain ⟨a0, a1⟩ := (HV.out.below (HB1.out.trans (HBW.out.mono (by omega))) hg) k _ hx
        have HX := Lib.hid hx
        have i1 : (0 : Int) ≤ (k : Int) := by omega
        have i2 : (k : Int) < (l.length : Int) := by omega
        have l1 : g < wr.heap.size := by omega
        clear hx
        go_wp2_with fail
        -- own blocks: w.heap.size:2, w.heap.size + 1:2, wr.heap.size:2
        have hsn := fun w => small_any a b w
        cases hsm : smallB a b
        · rw [hsm] at hsn
          have hfin : R1 = 0 ∧ R2 = 0 := by
            have h1 := HR.out
            unfold liftR at h1
            rw [if_neg (by rw [HXS.out]; simp), if_pos (by rw [List.all_eq_false]; exact ⟨(a, b), List.mem_of_getElem? HX.out, by rw [show smB (a, b) = false from hsm]; simp⟩)] at h1
            exact Prod.mk.inj h1
          obtain ⟨rfl, rfl⟩ := hfin
          have HSN := Lib.hid hsn
          clear hsn hsm
          (go_at_call 67; refine (HSN.out _).mono ?_; rintro e w2 ⟨rfl, hb_w2⟩; have hz_w2 := hb_w2.size; (try simp at hz_w2); (with_reducible apply cel2 (b := w.heap.size) hb_w2); (focus ((try simp) <;> omega)); (focus omega); (focus (go_simp; try exact rfl)); (focus (go_simp; try exact rfl)); (focus (intro o; go_simp)); intro cc cc fz hl; (with_reducible apply cel2 (b := w.heap.size + 1) hb_w2); (focus ((try simp) <;> omega)); (focus omega); (focus (go_simp; try exact rfl)); (focus (go_simp; try exact rfl)); (focus (intro o; go_simp)); intro cc cc fz hl; (with_reducible apply cel2 (b := wr.heap.size) hb_w2); (focus ((try simp) <;> omega)); (focus omega); (focus (go_simp; try exact rfl)); (focus (go_simp; try exact rfl)); (focus (intro o; go_simp)); intro cc cc fz hl)
          have HB2 := Lib.hid (HB1.out.trans ((HBW.out.mono (by omega)).trans ((((Below.refl wr.heap.size wr).alloc (Nat.le_refl _) _).trans (hb_w2.mono (by simp))).mono (by omega))))
          clear hb_w2
          go_wp2_with fail
          refine bodyPost_ret (v := .agg #[.int .i64 0, .int .i64 0]) (by simp only [results, Try.results60]; go_simp) rfl ⟨?_, ?_⟩
          · rfl
          · have hb := HB2.out
            ((with_reducible (repeat (first | exact bR _ _ | refine bS ?_ ?_ _ | refine bA ?_ ?_ _ | refine bD ?_ | refine bT ?_ (by assumption) ?_ | refine bO (by assumption) ?_ ?_))) <;> (first | omega | (simp; done) | (simp <;> omega)))
        · rw [hsm] at hsn
          have HSN := Lib.hid hsn
          have hsm' : smB (a, b) = true := hsm
          have HSA := Lib.hid hsm'
          have hNS : ∀ n ∈ l.take (k + 1), smB n = true := by
            intro n hn
            rw [List.take_add_one, HX.out] at hn
            rcases List.mem_append.1 hn with h | h
            · exact HS.out n h
            · obtain rfl : n = (a, b) := by simpa using h
              exact hsm'
          have HNS := Lib.hid hNS
          have hall := all_take_succ (p := fun n => decide (0 ≤ vd x n)) HX.out
          have HALL := Lib.hid hall
          clear hsn hsm hsm' hNS hall
          (go_at_call 67; refine (HSN.out _).mono ?_; rintro e w2 ⟨rfl, hb_w2⟩; have hz_w2 := hb_w2.size; (try simp at hz_w2); (with_reducible apply cel2 (b := w.heap.size) hb_w2); (focus ((try simp) <;> omega)); (focus omega); (focus (go_simp; try exact rfl)); (focus (go_simp; try exact rfl)); (focus (intro o; go_simp)); intro cc cc fz hl; (with_reducible apply cel2 (b := w.heap.size + 1) hb_w2); (focus ((try simp) <;> omega)); (focus omega); (focus (go_simp; try exact rfl)); (focus (go_simp; try exact rfl)); (focus (intro o; go_simp)); intro cc cc fz hl; (with_reducible apply cel2 (b := wr.heap.size) hb_w2); (focus ((try simp) <;> omega)); (focus omega); (focus (go_simp; try exact rfl)); (focus (go_simp; try exact rfl)); (focus (intro o; go_simp)); intro cc cc fz hl)
          have HB2 := Lib.hid (show Below wr.heap.size wr w2 from ((Below.refl wr.heap.size wr).alloc (Nat.le_refl _) _).trans (hb_w2.mono (by simp)))
          clear hb_w2
          cases hA : allowedR x (l.take k)
          · have HN : Hid (allowedR x (l.take (k + 1)) = false) := Lib.hid (by unfold allowedR at hA ⊢; rw [HALL.out, hA]; rfl)
            clear hA
            go_wp2_with fail
            go_roundw
            case rel => exact ⟨k + 1, by omega, by go_num, by rw [HN.out], HNS, by have hb := HBW.out.trans (HB2.out.mono (by omega)); ((with_reducible (repeat (first | exact bR _ _ | refine bS ?_ ?_ _ | refine bA ?_ ?_ _ | refine bD ?_ | refine bT ?_ (by assumption) ?_ | refine bO (by assumption) ?_ ?_))) <;> (first | omega | (simp; done) | (simp <;> omega)))⟩
            case measure => simp [intOf]; omega
          · obtain ⟨V, hVd⟩ : ∃ V, V = vd x (a, b) := ⟨_, rfl⟩
            have hdot := fun w => dot_vd x (a, b) w HXS.out HSA.out
            rw [← hVd] at hdot
            have HDOT := Lib.hid hdot
            have HN : Hid (allowedR x (l.take (k + 1)) = decide (0 ≤ V)) := Lib.hid (by unfold allowedR at hA ⊢; rw [HALL.out, hA, Bool.true_and, hVd])
            clear hA hdot hVd
            go_wp2_with fail
            (go_at_call 19; refine (HDOT.out _).mono ?_; rintro e w4 ⟨rfl, hb_w4⟩; have hz_w4 := hb_w4.size; (try simp at hz_w4); (with_reducible apply cel2 (b := w.heap.size) hb_w4); (focus ((try simp) <;> omega)); (focus omega); (focus (go_simp; try exact rfl)); (focus (go_simp; try exact rfl)); (focus (intro o; go_simp)); intro cc cc fz hl; (with_reducible apply cel2 (b := w.heap.size + 1) hb_w4); (focus ((try simp) <;> omega)); (focus omega); (focus (go_simp; try exact rfl)); (focus (go_simp; try exact rfl)); (focus (intro o; go_simp)); intro cc cc fz hl; (with_reducible apply cel2 (b := wr.heap.size) hb_w4); (focus ((try simp) <;> omega)); (focus omega); (focus (go_simp; try exact rfl)); (focus (go_simp; try exact rfl)); (focus (intro o; go_simp)); intro cc cc fz hl)
            have HB4 := Lib.hid (HB2.out.trans (hb_w4.mono (by omega)))
            clear hb_w4
            by_cases hv : 0 ≤ V
            · have HN2 : Hid (allowedR x (l.take (k + 1)) = true) := Lib.hid (by rw [HN.out]; exact decide_eq_true hv)
              go_wp2_with fail
              go_roundw
              case rel => exact ⟨k + 1, by omega, by go_num, by rw [HN2.out], HNS, by have hb := HBW.out.trans (HB4.out.mono (by omega)); ((with_reducible (repeat (first | exact bR _ _ | refine bS ?_ ?_ _ | refine bA ?_ ?_ _ | refine bD ?_ | refine bT ?_ (by assumption) ?_ | refine bO (by assumption) ?_ ?_))) <;> (first | omega | (simp; done) | (simp <;> omega)))⟩
              case measure => simp [intOf]; omega
            · have HN2 : Hid (allowedR x (l.take (k + 1)) = false) := Lib.hid (by rw [HN.out]; exact decide_eq_false hv)
              go_wp2_with fail
              go_roundw
              case rel => exact ⟨k + 1, by omega, by go_num, by rw [HN2.out]; first | done | exact congrArg Value.bool (decide_eq_false (by omega)), HNS, by have hb := HBW.out.trans (HB4.out.mono (by omega)); ((with_reducible (repeat (first | exact bR _ _ | refine bS ?_ ?_ _ | refine bA ?_ ?_ _ | refine bD ?_ | refine bT ?_ (by assumption) ?_ | refine bO (by assumption) ?_ ?_))) <;> (first | omega | (simp; done) | (simp <;> omega)))⟩
              case measure => simp [intOf]; omega
      · obtain rfl : k = l.length := by omega
        rw [List.take_length] at HS
        cases hA : allowedR x (l.take l.length)
        · rw [List.take_length] at hA
          have HRL : Hid (liftR x l = pickR (bestR x l)) := Lib.hid (by unfold liftR; rw [if_neg (fun h => by rw [HXS.out] at h; cases h), if_neg (fun h => by rw [List.all_eq_true.2 HS.out] at h; cases h), if_neg (fun h => by rw [hA] at h; cases h)])
          clear hA
          obtain ⟨w3, rfl⟩ : ∃ w3, w3 = wr := ⟨_, rfl⟩
          have HB3 := Lib.hid (HB1.out.trans (HBW.out.mono (by omega)))
          go_wp2_with fail
          go_loopw [8, 48] (fun vb vk wr => ∃ (k : Nat) (best : List V2), k ≤ l.length ∧ vk = .int .i64 k ∧ wr.ownsRow (w.heap.size + 2) 23 2 vb best.length (flatV best) ∧ 0 < best.length ∧ best.length ≤ 1 + 4 * k ∧ Hid (∀ y ∈ best, smB y = true) ∧ Hid (best = (l.take k).foldl (stepR x l) [(0, 0)]) ∧ Below (w.heap.size + 2) w3 wr) (fun _ vk _ => l.length - (intOf vk).toNat)
          case atStart =>
            have hnew := own_new w3 (w.heap.size + 2) 23 2 1 #[.int .i64 0, .int .i64 0] (by omega) rfl (by decide)
            exact ⟨0, [(0, 0)], by omega, rfl, hnew, by simp, by simp, Lib.hid (by intro y hy; obtain rfl : y = (0, 0) := (by simpa using hy); rfl), Lib.hid rfl, (Below.refl _ _).alloc (by omega) _⟩
          case round =>
            obtain ⟨k, best, hk, rfl, hown, hb0, hbl, HBS, HFB, hb_wr⟩ := hrel
            have hz_wr := hb_wr.size
            -- own blocks: w.heap.size:2, w.heap.size + 1:2
            (with_reducible apply cel2 (b := w.heap.size) hb_wr); (focus ((try simp) <;> omega)); (focus omega); (focus (go_simp; try exact rfl)); (focus (go_simp; try exact rfl)); (focus (intro o; go_simp)); intro cc cc fz hl; (with_reducible apply cel2 (b := w.heap.size + 1) hb_wr); (focus ((try simp) <;> omega)); (focus omega); (focus (go_simp; try exact rfl)); (focus (go_simp; try exact rfl)); (focus (intro o; go_simp)); intro cc cc fz hl
            have HBW := Lib.hid hb_wr
            have HOW := Lib.hid hown
            clear hb_wr hown
            by_cases hlt : k < l.length
            · obtain ⟨⟨a, b⟩, hx⟩ : ∃ x, l[k]? = some x := ⟨l[k], by simp⟩
              have HVR := Lib.hid (HV.out.below (HB3.out.trans (HBW.out.mono (by omega))) hg)
              obtain ⟨a0, a1⟩ := HVR.out k _ hx
              have hsn : smB (a, b) = true := HS.out _ (List.mem_of_getElem? hx)
              have HSA := Lib.hid hsn
              have hfold : (l.take (k + 1)).foldl (stepR x l) [(0, 0)] = stepR x l best (a, b) := by
                rw [List.take_add_one, hx, HFB.out]; simp
              have HFD := Lib.hid hfold
              have i1 : (0 : Int) ≤ (k : Int) := by omega
              have i2 : (k : Int) < (l.length : Int) := by omega
              have l1 : g < wr.heap.size := by omega
              obtain ⟨V, hVd⟩ : ∃ V, V = vd x (a, b) := ⟨_, rfl⟩
              have hdot := fun w => dot_vd x (a, b) w HXS.out HSA.out
              rw [← hVd] at hdot
              have HDOT := Lib.hid hdot
              have HVD := Lib.hid hVd
              clear hdot hVd hx hfold hsn
              go_wp2_with fail
              -- own blocks: w.heap.size:2, w.heap.size + 1:2, wr.heap.size:2
              (go_at_call 19; refine (HDOT.out _).mono ?_; rintro e w4 ⟨rfl, hb_w4⟩; have hz_w4 := hb_w4.size; (try simp at hz_w4); (with_reducible apply cel2 (b := w.heap.size) hb_w4); (focus ((try simp) <;> omega)); (focus omega); (focus (go_simp; try exact rfl)); (focus (go_simp; try exact rfl)); (focus (intro o; go_simp)); intro cc cc fz hl; (with_reducible apply cel2 (b := w.heap.size + 1) hb_w4); (focus ((try simp) <;> omega)); (focus omega); (focus (go_simp; try exact rfl)); (focus (go_simp; try exact rfl)); (focus (intro o; go_simp)); intro cc cc fz hl; (with_reducible apply cel2 (b := wr.heap.size) hb_w4); (focus ((try simp) <;> omega)); (focus omega); (focus (go_simp; try exact rfl)); (focus (go_simp; try exact rfl)); (focus (intro o; go_simp)); intro cc cc fz hl)
              have HB4 := Lib.hid (show Below wr.heap.size wr w4 from ((Below.refl wr.heap.size wr).alloc (Nat.le_refl _) _).trans (hb_w4.mono (by simp)))
              clear hb_w4
              by_cases hv : 0 ≤ V
              · have HST : Hid (stepR x l best (a, b) = best) := Lib.hid (by unfold stepR; exact if_pos (by rw [← HVD.out]; exact hv))
                go_wp2_with fail
                go_roundw
                case rel => exact ⟨k + 1, best, by omega, by go_num, own_below HOW.out HB4.out (Nat.le_refl _), hb0, by omega, HBS, Lib.hid (by rw [HFD.out, HST.out]), HBW.out.trans (HB4.out.mono (by omega))⟩
                case measure => simp [intOf]; omega
              · have HST : Hid (stepR x l best (a, b) = (cornersR x (a, b)).foldl (candR x l) best) := Lib.hid (by unfold stepR; exact if_neg (by rw [← HVD.out]; exact hv))
                obtain ⟨C, D, xl, xh, yl, yh, HCR, HDD, HF1, HF2, HCO, cb1, cb2⟩ := corner_facts x (a, b) HXS.out HSA.out (by rw [← HVD.out]; omega)
                simp only at HCR HDD HF1 HF2
                go_wp2_with fail
                (go_at_call 109; refine (HCR.out _).mono ?_; rintro e w5 ⟨rfl, hb_w5⟩; have hz_w5 := hb_w5.size; (try simp at hz_w5); (with_reducible apply cel2 (b := w.heap.size) hb_w5); (focus ((try simp) <;> omega)); (focus omega); (focus (go_simp; try exact rfl)); (focus (go_simp; try exact rfl)); (focus (intro o; go_simp)); intro cc cc fz hl; (with_reducible apply cel2 (b := w.heap.size + 1) hb_w5); (focus ((try simp) <;> omega)); (focus omega); (focus (go_simp; try exact rfl)); (focus (go_simp; try exact rfl)); (focus (intro o; go_simp)); intro cc cc fz hl; (with_reducible apply cel2 (b := wr.heap.size) hb_w5); (focus ((try simp) <;> omega)); (focus omega); (focus (go_simp; try exact rfl)); (focus (go_simp; try exact rfl)); (focus (intro o; go_simp)); intro cc cc fz hl)
                have HB5 := Lib.hid (HB4.out.trans (hb_w5.mono (by omega)))
                clear hb_w5
                go_wp2_with fail
                refine wp_region_warm (Own w5.heap.size w5) (by kernel_rfl) (by kernel_rfl) (Own.refl (Nat.le_refl _)).drew ?_
                repeat (first | (refine wpWarm_step_off rfl (fun K hK => ?_); (go_simp; refine hK _ ?_; clear hK K)) | (apply wpWarm_step rfl; (focus (intro W' hS; have hcS := hS.cells.1; have hfS := hS.cells.2; go_simp; (first | done | exact rfl | exact ⟨rfl, hS⟩ | (go_at_call 19; exact (HDD.out _).mono (fun _ _ h => ⟨h.1, hS.call h.2⟩)) | (go_at_call 110; exact (HF1.out _).mono (fun _ _ h => ⟨h.1, hS.call h.2⟩)) | (go_simp; exact rfl)))); (intro K hK; go_simp; (try go_bits); refine hK _ ?_; clear hK K)) | (apply wpWarm_step_on rfl; (focus (intro W' hS; have hcS := hS.cells.1; have hfS := hS.cells.2; go_simp; (first | done | exact rfl | exact ⟨rfl, hS⟩ | (go_at_call 19; exact (HDD.out _).mono (fun _ _ h => ⟨h.1, hS.call h.2⟩)) | (go_at_call 110; exact (HF1.out _).mono (fun _ _ h => ⟨h.1, hS.call h.2⟩)) | (go_simp; exact rfl)))); (intro K hK; go_simp; (try go_bits); refine hK _ ?_; clear hK K)))
                (refine wpWarm_nil ?_; intro w6 hO; have hz_w6 := hO.1; have hb_w6 := hO.2; clear hO; (with_reducible apply cel2 (b := w.heap.size) hb_w6); (focus ((try simp) <;> omega)); (focus omega); (focus (go_simp; try exact rfl)); (focus (go_simp; try exact rfl)); (focus (intro o; go_simp)); intro cc cc fz hl; (with_reducible apply cel2 (b := w.heap.size + 1) hb_w6); (focus ((try simp) <;> omega)); (focus omega); (focus (go_simp; try exact rfl)); (focus (go_simp; try exact rfl)); (focus (intro o; go_simp)); intro cc cc fz hl; (with_reducible apply cel2 (b := wr.heap.size) hb_w6); (focus ((try simp) <;> omega)); (focus omega); (focus (go_simp; try exact rfl)); (focus (go_simp; try exact rfl)); (focus (intro o; go_simp)); intro cc cc fz hl)
                have HB6 := Lib.hid (HB5.out.trans (hb_w6.mono (by omega)))
                clear hb_w6
                go_wp2_with fail
                refine wp_region_warm (Own w6.heap.size w6) (by kernel_rfl) (by kernel_rfl) (Own.refl (Nat.le_refl _)).drew ?_
                repeat (first | (refine wpWarm_step_off rfl (fun K hK => ?_); (go_simp; refine hK _ ?_; clear hK K)) | (apply wpWarm_step rfl; (focus (intro W' hS; have hcS := hS.cells.1; have hfS := hS.cells.2; go_simp; (first | done | exact rfl | exact ⟨rfl, hS⟩ | (go_at_call 19; exact (HDD.out _).mono (fun _ _ h => ⟨h.1, hS.call h.2⟩)) | (go_at_call 110; exact (HF2.out _).mono (fun _ _ h => ⟨h.1, hS.call h.2⟩)) | (go_simp; exact rfl)))); (intro K hK; go_simp; (try go_bits); refine hK _ ?_; clear hK K)) | (apply wpWarm_step_on rfl; (focus (intro W' hS; have hcS := hS.cells.1; have hfS := hS.cells.2; go_simp; (first | done | exact rfl | exact ⟨rfl, hS⟩ | (go_at_call 19; exact (HDD.out _).mono (fun _ _ h => ⟨h.1, hS.call h.2⟩)) | (go_at_call 110; exact (HF2.out _).mono (fun _ _ h => ⟨h.1, hS.call h.2⟩)) | (go_simp; exact rfl)))); (intro K hK; go_simp; (try go_bits); refine hK _ ?_; clear hK K)))
                (refine wpWarm_nil ?_; intro w7 hO; have hz_w7 := hO.1; have hb_w7 := hO.2; clear hO; (with_reducible apply cel2 (b := w.heap.size) hb_w7); (focus ((try simp) <;> omega)); (focus omega); (focus (go_simp; try exact rfl)); (focus (go_simp; try exact rfl)); (focus (intro o; go_simp)); intro cc cc fz hl; (with_reducible apply cel2 (b := w.heap.size + 1) hb_w7); (focus ((try simp) <;> omega)); (focus omega); (focus (go_simp; try exact rfl)); (focus (go_simp; try exact rfl)); (focus (intro o; go_simp)); intro cc cc fz hl; (with_reducible apply cel2 (b := wr.heap.size) hb_w7); (focus ((try simp) <;> omega)); (focus omega); (focus (go_simp; try exact rfl)); (focus (go_simp; try exact rfl)); (focus (intro o; go_simp)); intro cc cc fz hl)
                have HB7 := Lib.hid (HB6.out.trans (hb_w7.mono (by omega)))
                clear hb_w7
                have HO7 := Lib.hid (own_below HOW.out HB7.out (Nat.le_refl _))
                have HBW7 := Lib.hid (HBW.out.trans (HB7.out.mono (by omega)))
                have HVR7 := Lib.hid (HVR.out.below HB7.out l1)
                clear HVR HBW HOW HB4 HB5 HB6 HB7 HCR HDD HF1 HF2
                go_wp2_with fail
                go_loopw [8, 93] (fun vb vj wr => ∃ (j : Nat) (bs : List V2), j ≤ 4 ∧ vj = .int .i64 j ∧ wr.ownsRow (w.heap.size + 2) 23 2 vb bs.length (flatV bs) ∧ 0 < bs.length ∧ bs.length ≤ 1 + 4 * k + j ∧ Hid (∀ y ∈ bs, smB y = true) ∧ Hid (bs = ((cornersR x (a, b)).take j).foldl (candR x l) best) ∧ Below (w.heap.size + 2) w7 wr) (fun _ vj _ => 4 - (intOf vj).toNat)
                case atStart => exact ⟨0, best, by omega, rfl, HO7.out, hb0, by omega, HBS, Lib.hid rfl, Below.refl _ _⟩
                case round =>
                  have HBS0 := HBS
                  have HFB0 := HFB
                  have hb00 := hb0
                  have hbl0 := hbl
                  clear HBS HFB hb0 hbl
                  obtain ⟨j, bs, hj, rfl, hown, hb0, hbl, HBS, HFB, hb_wr⟩ := hrel
                  have hzj := hb_wr.size
                  -- own blocks: w.heap.size:2, w.heap.size + 1:2
                  (with_reducible apply cel2 (b := w.heap.size) hb_wr); (focus ((try simp) <;> omega)); (focus omega); (focus (go_simp; try exact rfl)); (focus (go_simp; try exact rfl)); (focus (intro o; go_simp)); intro cc cc fz hl; (with_reducible apply cel2 (b := w.heap.size + 1) hb_wr); (focus ((try simp) <;> omega)); (focus omega); (focus (go_simp; try exact rfl)); (focus (go_simp; try exact rfl)); (focus (intro o; go_simp)); intro cc cc fz hl
                  have HBJ := Lib.hid hb_wr
                  have HOW := Lib.hid hown
                  have HVR := Lib.hid (HVR7.out.below hb_wr (by omega))
                  clear hb_wr hown
                  by_cases hlt : j < 4
                  · have l1 : g < wr.heap.size := by omega
                    rcases (by omega : j = 0 ∨ j = 1 ∨ j = 2 ∨ j = 3) with rfl | rfl | rfl | rfl
                    · go_wp2_with fail
                      have hsn := fun w => small_any xl yl w
                      have HFK : Hid (((cornersR x (a, b)).take 1).foldl (candR x l) best = candR x l (((cornersR x (a, b)).take 0).foldl (candR x l) best) (xl, yl)) := Lib.hid (by rw [HCO.out]; rfl)
                      rw [← HFB.out] at HFK
                      cases hsm : smallB xl yl
                      · rw [hsm] at hsn
                        have HKE : Hid (candR x l bs (xl, yl) = bs) := Lib.hid (by unfold candR; rw [if_neg (by rw [show smB (xl, yl) = false from hsm]; simp)])
                        have HSN := Lib.hid hsn
                        clear hsn hsm
                        -- own blocks: w.heap.size:2, w.heap.size + 1:2, wr.heap.size:2
                        (go_at_call 67; refine (HSN.out _).mono ?_; rintro e wa ⟨rfl, hb_wa⟩; have hz_wa := hb_wa.size; (try simp at hz_wa); (with_reducible apply cel2 (b := w.heap.size) hb_wa); (focus ((try simp) <;> omega)); (focus omega); (focus (go_simp; try exact rfl)); (focus (go_simp; try exact rfl)); (focus (intro o; go_simp)); intro cc cc fz hl; (with_reducible apply cel2 (b := w.heap.size + 1) hb_wa); (focus ((try simp) <;> omega)); (focus omega); (focus (go_simp; try exact rfl)); (focus (go_simp; try exact rfl)); (focus (intro o; go_simp)); intro cc cc fz hl; (with_reducible apply cel2 (b := wr.heap.size) hb_wa); (focus ((try simp) <;> omega)); (focus omega); (focus (go_simp; try exact rfl)); (focus (go_simp; try exact rfl)); (focus (intro o; go_simp)); intro cc cc fz hl)
                        have HBA := Lib.hid (show Below wr.heap.size wr wa from ((Below.refl wr.heap.size wr).alloc (Nat.le_refl _) _).trans (hb_wa.mono (by simp)))
                        clear hb_wa
                        go_wp2_with fail
                        go_roundw
                        case rel => exact ⟨1, bs, by omega, by go_num, own_below HOW.out HBA.out (Nat.le_refl _), hb0, by omega, HBS, Lib.hid (by rw [HFK.out, HKE.out]), HBJ.out.trans (HBA.out.mono (by omega))⟩
                        case measure => simp [intOf]
                      · rw [hsm] at hsn
                        have hsy : smB (xl, yl) = true := hsm
                        have HSY := Lib.hid hsy
                        have HSN := Lib.hid hsn
                        clear hsn hsm hsy
                        -- own blocks: w.heap.size:2, w.heap.size + 1:2, wr.heap.size:2
                        (go_at_call 67; refine (HSN.out _).mono ?_; rintro e wa ⟨rfl, hb_wa⟩; have hz_wa := hb_wa.size; (try simp at hz_wa); (with_reducible apply cel2 (b := w.heap.size) hb_wa); (focus ((try simp) <;> omega)); (focus omega); (focus (go_simp; try exact rfl)); (focus (go_simp; try exact rfl)); (focus (intro o; go_simp)); intro cc cc fz hl; (with_reducible apply cel2 (b := w.heap.size + 1) hb_wa); (focus ((try simp) <;> omega)); (focus omega); (focus (go_simp; try exact rfl)); (focus (go_simp; try exact rfl)); (focus (intro o; go_simp)); intro cc cc fz hl; (with_reducible apply cel2 (b := wr.heap.size) hb_wa); (focus ((try simp) <;> omega)); (focus omega); (focus (go_simp; try exact rfl)); (focus (go_simp; try exact rfl)); (focus (intro o; go_simp)); intro cc cc fz hl)
                        have HBA0 := Lib.hid (show Below wr.heap.size wr wa from ((Below.refl wr.heap.size wr).alloc (Nat.le_refl _) _).trans (hb_wa.mono (by simp)))
                        clear hb_wa
                        go_wp2_with fail
                        have HVA := Lib.hid (HVR.out.below HBA0.out (by omega))
                        have hall := fun (h : VsAt wa g o l) => allowed_some (xl, yl) l g o c wa hn hl100 (by omega) h HSY.out HS.out
                        have HAL := Lib.hid (hall HVA.out)
                        clear hall
                        cases hA : allowedR (xl, yl) l
                        · rw [hA] at HAL
                          have HKE : Hid (candR x l bs (xl, yl) = bs) := Lib.hid (by unfold candR; rw [if_neg (by rw [hA]; simp)])
                          clear hA
                          (go_at_call 111; refine (HAL.out).mono ?_; rintro e wb ⟨rfl, hb_wb⟩; have hz_wb := hb_wb.size; (try simp at hz_wb); (with_reducible apply cel2 (b := w.heap.size) hb_wb); (focus ((try simp) <;> omega)); (focus omega); (focus (go_simp; try exact rfl)); (focus (go_simp; try exact rfl)); (focus (intro o; go_simp)); intro cc cc fz hl; (with_reducible apply cel2 (b := w.heap.size + 1) hb_wb); (focus ((try simp) <;> omega)); (focus omega); (focus (go_simp; try exact rfl)); (focus (go_simp; try exact rfl)); (focus (intro o; go_simp)); intro cc cc fz hl; (with_reducible apply cel2 (b := wr.heap.size) hb_wb); (focus ((try simp) <;> omega)); (focus omega); (focus (go_simp; try exact rfl)); (focus (go_simp; try exact rfl)); (focus (intro o; go_simp)); intro cc cc fz hl)
                          have HBA := Lib.hid (HBA0.out.trans (hb_wb.mono (by omega)))
                          clear hb_wb
                          go_wp2_with fail
                          go_roundw
                          case rel => exact ⟨1, bs, by omega, by go_num, own_below HOW.out HBA.out (Nat.le_refl _), hb0, by omega, HBS, Lib.hid (by rw [HFK.out, HKE.out]), HBJ.out.trans (HBA.out.mono (by omega))⟩
                          case measure => simp [intOf]
                        · rw [hA] at HAL
                          have hcd : candR x l bs (xl, yl) = if orderR x.1 x.2 xl yl (bs.headD (0, 0)).1 (bs.headD (0, 0)).2 = -1 then [(xl, yl)] else if orderR x.1 x.2 xl yl (bs.headD (0, 0)).1 (bs.headD (0, 0)).2 = 0 then bs ++ [(xl, yl)] else bs := by
                            unfold candR; rw [if_pos ⟨HSY.out, hA⟩]
                          have HCD := Lib.hid hcd
                          clear hA hcd
                          (go_at_call 111; refine (HAL.out).mono ?_; rintro e wb ⟨rfl, hb_wb⟩; have hz_wb := hb_wb.size; (try simp at hz_wb); (with_reducible apply cel2 (b := w.heap.size) hb_wb); (focus ((try simp) <;> omega)); (focus omega); (focus (go_simp; try exact rfl)); (focus (go_simp; try exact rfl)); (focus (intro o; go_simp)); intro cc cc fz hl; (with_reducible apply cel2 (b := w.heap.size + 1) hb_wb); (focus ((try simp) <;> omega)); (focus omega); (focus (go_simp; try exact rfl)); (focus (go_simp; try exact rfl)); (focus (intro o; go_simp)); intro cc cc fz hl; (with_reducible apply cel2 (b := wr.heap.size) hb_wb); (focus ((try simp) <;> omega)); (focus omega); (focus (go_simp; try exact rfl)); (focus (go_simp; try exact rfl)); (focus (intro o; go_simp)); intro cc cc fz hl)
                          have HBB := Lib.hid (HBA0.out.trans (hb_wb.mono (by omega)))
                          clear hb_wb
                          have hown := own_below HOW.out HBB.out (Nat.le_refl _)
                          have HOWB := Lib.hid hown
                          rcases own_formS hown with ⟨hz0, _⟩ | ⟨_, gb, cb, rfl, hcb, kb1, kb2⟩
                          · omega
                          · obtain ⟨⟨h1, h2⟩, hh⟩ : ∃ h, bs[0]? = some h := ⟨bs[0], by simp⟩
                            obtain ⟨d0, d1⟩ := own_vsAt hown 0 _ hh
                            simp only [Nat.zero_mul, Nat.zero_add, Nat.add_zero] at d0 d1
                            have hhd : bs.headD (0, 0) = (h1, h2) := by cases bs <;> simp_all
                            have hor := fun w => order_in x.1 x.2 xl yl h1 h2 w HXS.out HSY.out (HBS.out _ (List.mem_of_getElem? hh))
                            rw [hhd] at HCD
                            obtain ⟨O, hO⟩ : ∃ O, O = orderR x.1 x.2 xl yl h1 h2 := ⟨_, rfl⟩
                            have hO3 := orderR_cases x.1 x.2 xl yl h1 h2
                            simp only [← hO] at hor hO3 HCD
                            have HOR := Lib.hid hor
                            clear hor hO hh hhd hown
                            go_wp2_with fail
                            refine wp_region_warm (Own wb.heap.size wb) (by kernel_rfl) (by kernel_rfl) (Own.refl (Nat.le_refl _)).drew ?_
                            repeat (first | (refine wpWarm_step_off rfl (fun K hK => ?_); (go_simp; refine hK _ ?_; clear hK K)) | (apply wpWarm_step rfl; (focus (intro W' hS; have hcS := hS.cells.1; have hfS := hS.cells.2; go_simp; (first | done | exact rfl | exact ⟨rfl, hS⟩ | (go_at_call 112; exact (HOR.out _).mono (fun _ _ h => ⟨h.1, hS.call h.2⟩)) | (go_simp; exact rfl)))); (intro K hK; go_simp; (try go_bits); refine hK _ ?_; clear hK K)) | (apply wpWarm_step_on rfl; (focus (intro W' hS; have hcS := hS.cells.1; have hfS := hS.cells.2; go_simp; (first | done | exact rfl | exact ⟨rfl, hS⟩ | (go_at_call 112; exact (HOR.out _).mono (fun _ _ h => ⟨h.1, hS.call h.2⟩)) | (go_simp; exact rfl)))); (intro K hK; go_simp; (try go_bits); refine hK _ ?_; clear hK K)))
                            (refine wpWarm_nil ?_; intro wc hO; have hz_wc := hO.1; have hb_wc := hO.2; clear hO; (with_reducible apply cel2 (b := w.heap.size) hb_wc); (focus ((try simp) <;> omega)); (focus omega); (focus (go_simp; try exact rfl)); (focus (go_simp; try exact rfl)); (focus (intro o; go_simp)); intro cc cc fz hl; (with_reducible apply cel2 (b := w.heap.size + 1) hb_wc); (focus ((try simp) <;> omega)); (focus omega); (focus (go_simp; try exact rfl)); (focus (go_simp; try exact rfl)); (focus (intro o; go_simp)); intro cc cc fz hl; (with_reducible apply cel2 (b := wr.heap.size) hb_wc); (focus ((try simp) <;> omega)); (focus omega); (focus (go_simp; try exact rfl)); (focus (go_simp; try exact rfl)); (focus (intro o; go_simp)); intro cc cc fz hl)
                            have HBC := Lib.hid (HBB.out.trans (hb_wc.mono (by omega)))
                            have HOWC := Lib.hid (own_below HOWB.out hb_wc (Nat.le_refl _))
                            clear hb_wc d0 d1
                            rcases hO3 with rfl | rfl | rfl
                            · have HKE : Hid (candR x l bs (xl, yl) = [(xl, yl)]) := Lib.hid (by rw [HCD.out]; exact if_pos rfl)
                              go_wp2_with fail
                              go_roundw
                              case rel =>
                                have hnew := own_new wc (w.heap.size + 2) 23 2 1 #[.int .i64 xl, .int .i64 yl] (by omega) rfl (by decide)
                                exact ⟨1, [(xl, yl)], by omega, by go_num, hnew, by simp, by (simp <;> omega), Lib.hid (by intro y hy; obtain rfl : y = (xl, yl) := (by simpa using hy); exact HSY.out), Lib.hid (by rw [HFK.out, HKE.out]), by have hb := HBJ.out.trans (HBC.out.mono (by omega)); exact hb.alloc (by omega) _⟩
                              case measure => simp [intOf]
                            · have HKE : Hid (candR x l bs (xl, yl) = bs ++ [(xl, yl)]) := Lib.hid (by rw [HCD.out]; rfl)
                              go_wp2_with (at_builtin; go_must (refine wpList_append_own _ rfl _ _ 30 rfl (w.heap.size + 2) 23 i0 _ 2 16 Try.underlying30 hi0 hy0 hy1 hy2 rfl (by decide) _ _ _ rfl (HOWC.out.alloc _) ⟨wc.heap.size, 0, none⟩ 1 1 [.int .i64 xl, .int .i64 yl] rfl rfl (cells_new [.int .i64 xl, .int .i64 yl] 23 wc.heap.size rfl) ?c2_0 ?c3_0 ?c4_0 ?c5_0 ?_))
                              case c2_0 => first | exact ⟨rfl, rfl⟩ | (intro u hu; simp at hu; rcases hu with rfl | rfl <;> rfl)
                              case c3_0 => simp [maxLen]; omega
                              case c4_0 => omega
                              case c5_0 => first | omega | (simp; omega)
                              intro v2 w2 hown2 hg2 _
                              have hbel2 : Below (w.heap.size + 2) w7 w2 := ((HBJ.out.trans (HBC.out.mono (by omega))).alloc (by omega) _).grown hg2 (by simp; omega) (own_fresh HOWC.out)
                              have hz2 := hbel2.size
                              clear hg2
                              go_wp2_with fail
                              go_roundw
                              case rel =>
                                have hall2 : ∀ y ∈ bs ++ [(xl, yl)], smB y = true := by
                                  intro y hy
                                  rcases List.mem_append.1 hy with h | h
                                  · exact HBS.out y h
                                  · obtain rfl : y = (xl, yl) := by simpa using h
                                    exact HSY.out
                                exact ⟨1, bs ++ [(xl, yl)], by omega, by go_num, by rw [flatV_snoc, List.length_append]; exact hown2, by simp, by simp; omega, Lib.hid hall2, Lib.hid (by rw [HFK.out, HKE.out]), hbel2⟩
                              case measure => simp [intOf]
                            · have HKE : Hid (candR x l bs (xl, yl) = bs) := Lib.hid (by rw [HCD.out]; rfl)
                              go_wp2_with fail
                              go_roundw
                              case rel => exact ⟨1, bs, by omega, by go_num, HOWC.out, hb0, by omega, HBS, Lib.hid (by rw [HFK.out, HKE.out]), HBJ.out.trans (HBC.out.mono (by omega))⟩
                              case measure => simp [intOf]
                    · go_wp2_with fail
                      have hsn := fun w => small_any xl yh w
                      have HFK : Hid (((cornersR x (a, b)).take 2).foldl (candR x l) best = candR x l (((cornersR x (a, b)).take 1).foldl (candR x l) best) (xl, yh)) := Lib.hid (by rw [HCO.out]; rfl)
                      rw [← HFB.out] at HFK
                      cases hsm : smallB xl yh
                      · rw [hsm] at hsn
                        have HKE : Hid (candR x l bs (xl, yh) = bs) := Lib.hid (by unfold candR; rw [if_neg (by rw [show smB (xl, yh) = false from hsm]; simp)])
                        have HSN := Lib.hid hsn
                        clear hsn hsm
                        -- own blocks: w.heap.size:2, w.heap.size + 1:2, wr.heap.size:2
                        (go_at_call 67; refine (HSN.out _).mono ?_; rintro e wa ⟨rfl, hb_wa⟩; have hz_wa := hb_wa.size; (try simp at hz_wa); (with_reducible apply cel2 (b := w.heap.size) hb_wa); (focus ((try simp) <;> omega)); (focus omega); (focus (go_simp; try exact rfl)); (focus (go_simp; try exact rfl)); (focus (intro o; go_simp)); intro cc cc fz hl; (with_reducible apply cel2 (b := w.heap.size + 1) hb_wa); (focus ((try simp) <;> omega)); (focus omega); (focus (go_simp; try exact rfl)); (focus (go_simp; try exact rfl)); (focus (intro o; go_simp)); intro cc cc fz hl; (with_reducible apply cel2 (b := wr.heap.size) hb_wa); (focus ((try simp) <;> omega)); (focus omega); (focus (go_simp; try exact rfl)); (focus (go_simp; try exact rfl)); (focus (intro o; go_simp)); intro cc cc fz hl)
                        have HBA := Lib.hid (show Below wr.heap.size wr wa from ((Below.refl wr.heap.size wr).alloc (Nat.le_refl _) _).trans (hb_wa.mono (by simp)))
                        clear hb_wa
                        go_wp2_with fail
                        go_roundw
                        case rel => exact ⟨2, bs, by omega, by go_num, own_below HOW.out HBA.out (Nat.le_refl _), hb0, by omega, HBS, Lib.hid (by rw [HFK.out, HKE.out]), HBJ.out.trans (HBA.out.mono (by omega))⟩
                        case measure => simp [intOf]
                      · rw [hsm] at hsn
                        have hsy : smB (xl, yh) = true := hsm
                        have HSY := Lib.hid hsy
                        have HSN := Lib.hid hsn
                        clear hsn hsm hsy
                        -- own blocks: w.heap.size:2, w.heap.size + 1:2, wr.heap.size:2
                        (go_at_call 67; refine (HSN.out _).mono ?_; rintro e wa ⟨rfl, hb_wa⟩; have hz_wa := hb_wa.size; (try simp at hz_wa); (with_reducible apply cel2 (b := w.heap.size) hb_wa); (focus ((try simp) <;> omega)); (focus omega); (focus (go_simp; try exact rfl)); (focus (go_simp; try exact rfl)); (focus (intro o; go_simp)); intro cc cc fz hl; (with_reducible apply cel2 (b := w.heap.size + 1) hb_wa); (focus ((try simp) <;> omega)); (focus omega); (focus (go_simp; try exact rfl)); (focus (go_simp; try exact rfl)); (focus (intro o; go_simp)); intro cc cc fz hl; (with_reducible apply cel2 (b := wr.heap.size) hb_wa); (focus ((try simp) <;> omega)); (focus omega); (focus (go_simp; try exact rfl)); (focus (go_simp; try exact rfl)); (focus (intro o; go_simp)); intro cc cc fz hl)
                        have HBA0 := Lib.hid (show Below wr.heap.size wr wa from ((Below.refl wr.heap.size wr).alloc (Nat.le_refl _) _).trans (hb_wa.mono (by simp)))
                        clear hb_wa
                        go_wp2_with fail
                        have HVA := Lib.hid (HVR.out.below HBA0.out (by omega))
                        have hall := fun (h : VsAt wa g o l) => allowed_some (xl, yh) l g o c wa hn hl100 (by omega) h HSY.out HS.out
                        have HAL := Lib.hid (hall HVA.out)
                        clear hall
                        cases hA : allowedR (xl, yh) l
                        · rw [hA] at HAL
                          have HKE : Hid (candR x l bs (xl, yh) = bs) := Lib.hid (by unfold candR; rw [if_neg (by rw [hA]; simp)])
                          clear hA
                          (go_at_call 111; refine (HAL.out).mono ?_; rintro e wb ⟨rfl, hb_wb⟩; have hz_wb := hb_wb.size; (try simp at hz_wb); (with_reducible apply cel2 (b := w.heap.size) hb_wb); (focus ((try simp) <;> omega)); (focus omega); (focus (go_simp; try exact rfl)); (focus (go_simp; try exact rfl)); (focus (intro o; go_simp)); intro cc cc fz hl; (with_reducible apply cel2 (b := w.heap.size + 1) hb_wb); (focus ((try simp) <;> omega)); (focus omega); (focus (go_simp; try exact rfl)); (focus (go_simp; try exact rfl)); (focus (intro o; go_simp)); intro cc cc fz hl; (with_reducible apply cel2 (b := wr.heap.size) hb_wb); (focus ((try simp) <;> omega)); (focus omega); (focus (go_simp; try exact rfl)); (focus (go_simp; try exact rfl)); (focus (intro o; go_simp)); intro cc cc fz hl)
                          have HBA := Lib.hid (HBA0.out.trans (hb_wb.mono (by omega)))
                          clear hb_wb
                          go_wp2_with fail
                          go_roundw
                          case rel => exact ⟨2, bs, by omega, by go_num, own_below HOW.out HBA.out (Nat.le_refl _), hb0, by omega, HBS, Lib.hid (by rw [HFK.out, HKE.out]), HBJ.out.trans (HBA.out.mono (by omega))⟩
                          case measure => simp [intOf]
                        · rw [hA] at HAL
                          have hcd : candR x l bs (xl, yh) = if orderR x.1 x.2 xl yh (bs.headD (0, 0)).1 (bs.headD (0, 0)).2 = -1 then [(xl, yh)] else if orderR x.1 x.2 xl yh (bs.headD (0, 0)).1 (bs.headD (0, 0)).2 = 0 then bs ++ [(xl, yh)] else bs := by
                            unfold candR; rw [if_pos ⟨HSY.out, hA⟩]
                          have HCD := Lib.hid hcd
                          clear hA hcd
                          (go_at_call 111; refine (HAL.out).mono ?_; rintro e wb ⟨rfl, hb_wb⟩; have hz_wb := hb_wb.size; (try simp at hz_wb); (with_reducible apply cel2 (b := w.heap.size) hb_wb); (focus ((try simp) <;> omega)); (focus omega); (focus (go_simp; try exact rfl)); (focus (go_simp; try exact rfl)); (focus (intro o; go_simp)); intro cc cc fz hl; (with_reducible apply cel2 (b := w.heap.size + 1) hb_wb); (focus ((try simp) <;> omega)); (focus omega); (focus (go_simp; try exact rfl)); (focus (go_simp; try exact rfl)); (focus (intro o; go_simp)); intro cc cc fz hl; (with_reducible apply cel2 (b := wr.heap.size) hb_wb); (focus ((try simp) <;> omega)); (focus omega); (focus (go_simp; try exact rfl)); (focus (go_simp; try exact rfl)); (focus (intro o; go_simp)); intro cc cc fz hl)
                          have HBB := Lib.hid (HBA0.out.trans (hb_wb.mono (by omega)))
                          clear hb_wb
                          have hown := own_below HOW.out HBB.out (Nat.le_refl _)
                          have HOWB := Lib.hid hown
                          rcases own_formS hown with ⟨hz0, _⟩ | ⟨_, gb, cb, rfl, hcb, kb1, kb2⟩
                          · omega
                          · obtain ⟨⟨h1, h2⟩, hh⟩ : ∃ h, bs[0]? = some h := ⟨bs[0], by simp⟩
                            obtain ⟨d0, d1⟩ := own_vsAt hown 0 _ hh
                            simp only [Nat.zero_mul, Nat.zero_add, Nat.add_zero] at d0 d1
                            have hhd : bs.headD (0, 0) = (h1, h2) := by cases bs <;> simp_all
                            have hor := fun w => order_in x.1 x.2 xl yh h1 h2 w HXS.out HSY.out (HBS.out _ (List.mem_of_getElem? hh))
                            rw [hhd] at HCD
                            obtain ⟨O, hO⟩ : ∃ O, O = orderR x.1 x.2 xl yh h1 h2 := ⟨_, rfl⟩
                            have hO3 := orderR_cases x.1 x.2 xl yh h1 h2
                            simp only [← hO] at hor hO3 HCD
                            have HOR := Lib.hid hor
                            clear hor hO hh hhd hown
                            go_wp2_with fail
                            refine wp_region_warm (Own wb.heap.size wb) (by kernel_rfl) (by kernel_rfl) (Own.refl (Nat.le_refl _)).drew ?_
                            repeat (first | (refine wpWarm_step_off rfl (fun K hK => ?_); (go_simp; refine hK _ ?_; clear hK K)) | (apply wpWarm_step rfl; (focus (intro W' hS; have hcS := hS.cells.1; have hfS := hS.cells.2; go_simp; (first | done | exact rfl | exact ⟨rfl, hS⟩ | (go_at_call 112; exact (HOR.out _).mono (fun _ _ h => ⟨h.1, hS.call h.2⟩)) | (go_simp; exact rfl)))); (intro K hK; go_simp; (try go_bits); refine hK _ ?_; clear hK K)) | (apply wpWarm_step_on rfl; (focus (intro W' hS; have hcS := hS.cells.1; have hfS := hS.cells.2; go_simp; (first | done | exact rfl | exact ⟨rfl, hS⟩ | (go_at_call 112; exact (HOR.out _).mono (fun _ _ h => ⟨h.1, hS.call h.2⟩)) | (go_simp; exact rfl)))); (intro K hK; go_simp; (try go_bits); refine hK _ ?_; clear hK K)))
                            (refine wpWarm_nil ?_; intro wc hO; have hz_wc := hO.1; have hb_wc := hO.2; clear hO; (with_reducible apply cel2 (b := w.heap.size) hb_wc); (focus ((try simp) <;> omega)); (focus omega); (focus (go_simp; try exact rfl)); (focus (go_simp; try exact rfl)); (focus (intro o; go_simp)); intro cc cc fz hl; (with_reducible apply cel2 (b := w.heap.size + 1) hb_wc); (focus ((try simp) <;> omega)); (focus omega); (focus (go_simp; try exact rfl)); (focus (go_simp; try exact rfl)); (focus (intro o; go_simp)); intro cc cc fz hl; (with_reducible apply cel2 (b := wr.heap.size) hb_wc); (focus ((try simp) <;> omega)); (focus omega); (focus (go_simp; try exact rfl)); (focus (go_simp; try exact rfl)); (focus (intro o; go_simp)); intro cc cc fz hl)
                            have HBC := Lib.hid (HBB.out.trans (hb_wc.mono (by omega)))
                            have HOWC := Lib.hid (own_below HOWB.out hb_wc (Nat.le_refl _))
                            clear hb_wc d0 d1
                            rcases hO3 with rfl | rfl | rfl
                            · have HKE : Hid (candR x l bs (xl, yh) = [(xl, yh)]) := Lib.hid (by rw [HCD.out]; exact if_pos rfl)
                              go_wp2_with fail
                              go_roundw
                              case rel =>
                                have hnew := own_new wc (w.heap.size + 2) 23 2 1 #[.int .i64 xl, .int .i64 yh] (by omega) rfl (by decide)
                                exact ⟨2, [(xl, yh)], by omega, by go_num, hnew, by simp, by (simp <;> omega), Lib.hid (by intro y hy; obtain rfl : y = (xl, yh) := (by simpa using hy); exact HSY.out), Lib.hid (by rw [HFK.out, HKE.out]), by have hb := HBJ.out.trans (HBC.out.mono (by omega)); exact hb.alloc (by omega) _⟩
                              case measure => simp [intOf]
                            · have HKE : Hid (candR x l bs (xl, yh) = bs ++ [(xl, yh)]) := Lib.hid (by rw [HCD.out]; rfl)
                              go_wp2_with (at_builtin; go_must (refine wpList_append_own _ rfl _ _ 30 rfl (w.heap.size + 2) 23 i0 _ 2 16 Try.underlying30 hi0 hy0 hy1 hy2 rfl (by decide) _ _ _ rfl (HOWC.out.alloc _) ⟨wc.heap.size, 0, none⟩ 1 1 [.int .i64 xl, .int .i64 yh] rfl rfl (cells_new [.int .i64 xl, .int .i64 yh] 23 wc.heap.size rfl) ?c2_1 ?c3_1 ?c4_1 ?c5_1 ?_))
                              case c2_1 => first | exact ⟨rfl, rfl⟩ | (intro u hu; simp at hu; rcases hu with rfl | rfl <;> rfl)
                              case c3_1 => simp [maxLen]; omega
                              case c4_1 => omega
                              case c5_1 => first | omega | (simp; omega)
                              intro v2 w2 hown2 hg2 _
                              have hbel2 : Below (w.heap.size + 2) w7 w2 := ((HBJ.out.trans (HBC.out.mono (by omega))).alloc (by omega) _).grown hg2 (by simp; omega) (own_fresh HOWC.out)
                              have hz2 := hbel2.size
                              clear hg2
                              go_wp2_with fail
                              go_roundw
                              case rel =>
                                have hall2 : ∀ y ∈ bs ++ [(xl, yh)], smB y = true := by
                                  intro y hy
                                  rcases List.mem_append.1 hy with h | h
                                  · exact HBS.out y h
                                  · obtain rfl : y = (xl, yh) := by simpa using h
                                    exact HSY.out
                                exact ⟨2, bs ++ [(xl, yh)], by omega, by go_num, by rw [flatV_snoc, List.length_append]; exact hown2, by simp, by simp; omega, Lib.hid hall2, Lib.hid (by rw [HFK.out, HKE.out]), hbel2⟩
                              case measure => simp [intOf]
                            · have HKE : Hid (candR x l bs (xl, yh) = bs) := Lib.hid (by rw [HCD.out]; rfl)
                              go_wp2_with fail
                              go_roundw
                              case rel => exact ⟨2, bs, by omega, by go_num, HOWC.out, hb0, by omega, HBS, Lib.hid (by rw [HFK.out, HKE.out]), HBJ.out.trans (HBC.out.mono (by omega))⟩
                              case measure => simp [intOf]
                    · go_wp2_with fail
                      have hsn := fun w => small_any xh yl w
                      have HFK : Hid (((cornersR x (a, b)).take 3).foldl (candR x l) best = candR x l (((cornersR x (a, b)).take 2).foldl (candR x l) best) (xh, yl)) := Lib.hid (by rw [HCO.out]; rfl)
                      rw [← HFB.out] at HFK
                      cases hsm : smallB xh yl
                      · rw [hsm] at hsn
                        have HKE : Hid (candR x l bs (xh, yl) = bs) := Lib.hid (by unfold candR; rw [if_neg (by rw [show smB (xh, yl) = false from hsm]; simp)])
                        have HSN := Lib.hid hsn
                        clear hsn hsm
                        -- own blocks: w.heap.size:2, w.heap.size + 1:2, wr.heap.size:2
                        (go_at_call 67; refine (HSN.out _).mono ?_; rintro e wa ⟨rfl, hb_wa⟩; have hz_wa := hb_wa.size; (try simp at hz_wa); (with_reducible apply cel2 (b := w.heap.size) hb_wa); (focus ((try simp) <;> omega)); (focus omega); (focus (go_simp; try exact rfl)); (focus (go_simp; try exact rfl)); (focus (intro o; go_simp)); intro cc cc fz hl; (with_reducible apply cel2 (b := w.heap.size + 1) hb_wa); (focus ((try simp) <;> omega)); (focus omega); (focus (go_simp; try exact rfl)); (focus (go_simp; try exact rfl)); (focus (intro o; go_simp)); intro cc cc fz hl; (with_reducible apply cel2 (b := wr.heap.size) hb_wa); (focus ((try simp) <;> omega)); (focus omega); (focus (go_simp; try exact rfl)); (focus (go_simp; try exact rfl)); (focus (intro o; go_simp)); intro cc cc fz hl)
                        have HBA := Lib.hid (show Below wr.heap.size wr wa from ((Below.refl wr.heap.size wr).alloc (Nat.le_refl _) _).trans (hb_wa.mono (by simp)))
                        clear hb_wa
                        go_wp2_with fail
                        go_roundw
                        case rel => exact ⟨3, bs, by omega, by go_num, own_below HOW.out HBA.out (Nat.le_refl _), hb0, by omega, HBS, Lib.hid (by rw [HFK.out, HKE.out]), HBJ.out.trans (HBA.out.mono (by omega))⟩
                        case measure => simp [intOf]
                      · rw [hsm] at hsn
                        have hsy : smB (xh, yl) = true := hsm
                        have HSY := Lib.hid hsy
                        have HSN := Lib.hid hsn
                        clear hsn hsm hsy
                        -- own blocks: w.heap.size:2, w.heap.size + 1:2, wr.heap.size:2
                        (go_at_call 67; refine (HSN.out _).mono ?_; rintro e wa ⟨rfl, hb_wa⟩; have hz_wa := hb_wa.size; (try simp at hz_wa); (with_reducible apply cel2 (b := w.heap.size) hb_wa); (focus ((try simp) <;> omega)); (focus omega); (focus (go_simp; try exact rfl)); (focus (go_simp; try exact rfl)); (focus (intro o; go_simp)); intro cc cc fz hl; (with_reducible apply cel2 (b := w.heap.size + 1) hb_wa); (focus ((try simp) <;> omega)); (focus omega); (focus (go_simp; try exact rfl)); (focus (go_simp; try exact rfl)); (focus (intro o; go_simp)); intro cc cc fz hl; (with_reducible apply cel2 (b := wr.heap.size) hb_wa); (focus ((try simp) <;> omega)); (focus omega); (focus (go_simp; try exact rfl)); (focus (go_simp; try exact rfl)); (focus (intro o; go_simp)); intro cc cc fz hl)
                        have HBA0 := Lib.hid (show Below wr.heap.size wr wa from ((Below.refl wr.heap.size wr).alloc (Nat.le_refl _) _).trans (hb_wa.mono (by simp)))
                        clear hb_wa
                        go_wp2_with fail
                        have HVA := Lib.hid (HVR.out.below HBA0.out (by omega))
                        have hall := fun (h : VsAt wa g o l) => allowed_some (xh, yl) l g o c wa hn hl100 (by omega) h HSY.out HS.out
                        have HAL := Lib.hid (hall HVA.out)
                        clear hall
                        cases hA : allowedR (xh, yl) l
                        · rw [hA] at HAL
                          have HKE : Hid (candR x l bs (xh, yl) = bs) := Lib.hid (by unfold candR; rw [if_neg (by rw [hA]; simp)])
                          clear hA
                          (go_at_call 111; refine (HAL.out).mono ?_; rintro e wb ⟨rfl, hb_wb⟩; have hz_wb := hb_wb.size; (try simp at hz_wb); (with_reducible apply cel2 (b := w.heap.size) hb_wb); (focus ((try simp) <;> omega)); (focus omega); (focus (go_simp; try exact rfl)); (focus (go_simp; try exact rfl)); (focus (intro o; go_simp)); intro cc cc fz hl; (with_reducible apply cel2 (b := w.heap.size + 1) hb_wb); (focus ((try simp) <;> omega)); (focus omega); (focus (go_simp; try exact rfl)); (focus (go_simp; try exact rfl)); (focus (intro o; go_simp)); intro cc cc fz hl; (with_reducible apply cel2 (b := wr.heap.size) hb_wb); (focus ((try simp) <;> omega)); (focus omega); (focus (go_simp; try exact rfl)); (focus (go_simp; try exact rfl)); (focus (intro o; go_simp)); intro cc cc fz hl)
                          have HBA := Lib.hid (HBA0.out.trans (hb_wb.mono (by omega)))
                          clear hb_wb
                          go_wp2_with fail
                          go_roundw
                          case rel => exact ⟨3, bs, by omega, by go_num, own_below HOW.out HBA.out (Nat.le_refl _), hb0, by omega, HBS, Lib.hid (by rw [HFK.out, HKE.out]), HBJ.out.trans (HBA.out.mono (by omega))⟩
                          case measure => simp [intOf]
                        · rw [hA] at HAL
                          have hcd : candR x l bs (xh, yl) = if orderR x.1 x.2 xh yl (bs.headD (0, 0)).1 (bs.headD (0, 0)).2 = -1 then [(xh, yl)] else if orderR x.1 x.2 xh yl (bs.headD (0, 0)).1 (bs.headD (0, 0)).2 = 0 then bs ++ [(xh, yl)] else bs := by
                            unfold candR; rw [if_pos ⟨HSY.out, hA⟩]
                          have HCD := Lib.hid hcd
                          clear hA hcd
                          (go_at_call 111; refine (HAL.out).mono ?_; rintro e wb ⟨rfl, hb_wb⟩; have hz_wb := hb_wb.size; (try simp at hz_wb); (with_reducible apply cel2 (b := w.heap.size) hb_wb); (focus ((try simp) <;> omega)); (focus omega); (focus (go_simp; try exact rfl)); (focus (go_simp; try exact rfl)); (focus (intro o; go_simp)); intro cc cc fz hl; (with_reducible apply cel2 (b := w.heap.size + 1) hb_wb); (focus ((try simp) <;> omega)); (focus omega); (focus (go_simp; try exact rfl)); (focus (go_simp; try exact rfl)); (focus (intro o; go_simp)); intro cc cc fz hl; (with_reducible apply cel2 (b := wr.heap.size) hb_wb); (focus ((try simp) <;> omega)); (focus omega); (focus (go_simp; try exact rfl)); (focus (go_simp; try exact rfl)); (focus (intro o; go_simp)); intro cc cc fz hl)
                          have HBB := Lib.hid (HBA0.out.trans (hb_wb.mono (by omega)))
                          clear hb_wb
                          have hown := own_below HOW.out HBB.out (Nat.le_refl _)
                          have HOWB := Lib.hid hown
                          rcases own_formS hown with ⟨hz0, _⟩ | ⟨_, gb, cb, rfl, hcb, kb1, kb2⟩
                          · omega
                          · obtain ⟨⟨h1, h2⟩, hh⟩ : ∃ h, bs[0]? = some h := ⟨bs[0], by simp⟩
                            obtain ⟨d0, d1⟩ := own_vsAt hown 0 _ hh
                            simp only [Nat.zero_mul, Nat.zero_add, Nat.add_zero] at d0 d1
                            have hhd : bs.headD (0, 0) = (h1, h2) := by cases bs <;> simp_all
                            have hor := fun w => order_in x.1 x.2 xh yl h1 h2 w HXS.out HSY.out (HBS.out _ (List.mem_of_getElem? hh))
                            rw [hhd] at HCD
                            obtain ⟨O, hO⟩ : ∃ O, O = orderR x.1 x.2 xh yl h1 h2 := ⟨_, rfl⟩
                            have hO3 := orderR_cases x.1 x.2 xh yl h1 h2
                            simp only [← hO] at hor hO3 HCD
                            have HOR := Lib.hid hor
                            clear hor hO hh hhd hown
                            go_wp2_with fail
                            refine wp_region_warm (Own wb.heap.size wb) (by kernel_rfl) (by kernel_rfl) (Own.refl (Nat.le_refl _)).drew ?_
                            repeat (first | (refine wpWarm_step_off rfl (fun K hK => ?_); (go_simp; refine hK _ ?_; clear hK K)) | (apply wpWarm_step rfl; (focus (intro W' hS; have hcS := hS.cells.1; have hfS := hS.cells.2; go_simp; (first | done | exact rfl | exact ⟨rfl, hS⟩ | (go_at_call 112; exact (HOR.out _).mono (fun _ _ h => ⟨h.1, hS.call h.2⟩)) | (go_simp; exact rfl)))); (intro K hK; go_simp; (try go_bits); refine hK _ ?_; clear hK K)) | (apply wpWarm_step_on rfl; (focus (intro W' hS; have hcS := hS.cells.1; have hfS := hS.cells.2; go_simp; (first | done | exact rfl | exact ⟨rfl, hS⟩ | (go_at_call 112; exact (HOR.out _).mono (fun _ _ h => ⟨h.1, hS.call h.2⟩)) | (go_simp; exact rfl)))); (intro K hK; go_simp; (try go_bits); refine hK _ ?_; clear hK K)))
                            (refine wpWarm_nil ?_; intro wc hO; have hz_wc := hO.1; have hb_wc := hO.2; clear hO; (with_reducible apply cel2 (b := w.heap.size) hb_wc); (focus ((try simp) <;> omega)); (focus omega); (focus (go_simp; try exact rfl)); (focus (go_simp; try exact rfl)); (focus (intro o; go_simp)); intro cc cc fz hl; (with_reducible apply cel2 (b := w.heap.size + 1) hb_wc); (focus ((try simp) <;> omega)); (focus omega); (focus (go_simp; try exact rfl)); (focus (go_simp; try exact rfl)); (focus (intro o; go_simp)); intro cc cc fz hl; (with_reducible apply cel2 (b := wr.heap.size) hb_wc); (focus ((try simp) <;> omega)); (focus omega); (focus (go_simp; try exact rfl)); (focus (go_simp; try exact rfl)); (focus (intro o; go_simp)); intro cc cc fz hl)
                            have HBC := Lib.hid (HBB.out.trans (hb_wc.mono (by omega)))
                            have HOWC := Lib.hid (own_below HOWB.out hb_wc (Nat.le_refl _))
                            clear hb_wc d0 d1
                            rcases hO3 with rfl | rfl | rfl
                            · have HKE : Hid (candR x l bs (xh, yl) = [(xh, yl)]) := Lib.hid (by rw [HCD.out]; exact if_pos rfl)
                              go_wp2_with fail
                              go_roundw
                              case rel =>
                                have hnew := own_new wc (w.heap.size + 2) 23 2 1 #[.int .i64 xh, .int .i64 yl] (by omega) rfl (by decide)
                                exact ⟨3, [(xh, yl)], by omega, by go_num, hnew, by simp, by (simp <;> omega), Lib.hid (by intro y hy; obtain rfl : y = (xh, yl) := (by simpa using hy); exact HSY.out), Lib.hid (by rw [HFK.out, HKE.out]), by have hb := HBJ.out.trans (HBC.out.mono (by omega)); exact hb.alloc (by omega) _⟩
                              case measure => simp [intOf]
                            · have HKE : Hid (candR x l bs (xh, yl) = bs ++ [(xh, yl)]) := Lib.hid (by rw [HCD.out]; rfl)
                              go_wp2_with (at_builtin; go_must (refine wpList_append_own _ rfl _ _ 30 rfl (w.heap.size + 2) 23 i0 _ 2 16 Try.underlying30 hi0 hy0 hy1 hy2 rfl (by decide) _ _ _ rfl (HOWC.out.alloc _) ⟨wc.heap.size, 0, none⟩ 1 1 [.int .i64 xh, .int .i64 yl] rfl rfl (cells_new [.int .i64 xh, .int .i64 yl] 23 wc.heap.size rfl) ?c2_2 ?c3_2 ?c4_2 ?c5_2 ?_))
                              case c2_2 => first | exact ⟨rfl, rfl⟩ | (intro u hu; simp at hu; rcases hu with rfl | rfl <;> rfl)
                              case c3_2 => simp [maxLen]; omega
                              case c4_2 => omega
                              case c5_2 => first | omega | (simp; omega)
                              intro v2 w2 hown2 hg2 _
                              have hbel2 : Below (w.heap.size + 2) w7 w2 := ((HBJ.out.trans (HBC.out.mono (by omega))).alloc (by omega) _).grown hg2 (by simp; omega) (own_fresh HOWC.out)
                              have hz2 := hbel2.size
                              clear hg2
                              go_wp2_with fail
                              go_roundw
                              case rel =>
                                have hall2 : ∀ y ∈ bs ++ [(xh, yl)], smB y = true := by
                                  intro y hy
                                  rcases List.mem_append.1 hy with h | h
                                  · exact HBS.out y h
                                  · obtain rfl : y = (xh, yl) := by simpa using h
                                    exact HSY.out
                                exact ⟨3, bs ++ [(xh, yl)], by omega, by go_num, by rw [flatV_snoc, List.length_append]; exact hown2, by simp, by simp; omega, Lib.hid hall2, Lib.hid (by rw [HFK.out, HKE.out]), hbel2⟩
                              case measure => simp [intOf]
                            · have HKE : Hid (candR x l bs (xh, yl) = bs) := Lib.hid (by rw [HCD.out]; rfl)
                              go_wp2_with fail
                              go_roundw
                              case rel => exact ⟨3, bs, by omega, by go_num, HOWC.out, hb0, by omega, HBS, Lib.hid (by rw [HFK.out, HKE.out]), HBJ.out.trans (HBC.out.mono (by omega))⟩
                              case measure => simp [intOf]
                    · go_wp2_with fail
                      have hsn := fun w => small_any xh yh w
                      have HFK : Hid (((cornersR x (a, b)).take 4).foldl (candR x l) best = candR x l (((cornersR x (a, b)).take 3).foldl (candR x l) best) (xh, yh)) := Lib.hid (by rw [HCO.out]; rfl)
                      rw [← HFB.out] at HFK
                      cases hsm : smallB xh yh
                      · rw [hsm] at hsn
                        have HKE : Hid (candR x l bs (xh, yh) = bs) := Lib.hid (by unfold candR; rw [if_neg (by rw [show smB (xh, yh) = false from hsm]; simp)])
                        have HSN := Lib.hid hsn
                        clear hsn hsm
                        -- own blocks: w.heap.size:2, w.heap.size + 1:2, wr.heap.size:2
                        (go_at_call 67; refine (HSN.out _).mono ?_; rintro e wa ⟨rfl, hb_wa⟩; have hz_wa := hb_wa.size; (try simp at hz_wa); (with_reducible apply cel2 (b := w.heap.size) hb_wa); (focus ((try simp) <;> omega)); (focus omega); (focus (go_simp; try exact rfl)); (focus (go_simp; try exact rfl)); (focus (intro o; go_simp)); intro cc cc fz hl; (with_reducible apply cel2 (b := w.heap.size + 1) hb_wa); (focus ((try simp) <;> omega)); (focus omega); (focus (go_simp; try exact rfl)); (focus (go_simp; try exact rfl)); (focus (intro o; go_simp)); intro cc cc fz hl; (with_reducible apply cel2 (b := wr.heap.size) hb_wa); (focus ((try simp) <;> omega)); (focus omega); (focus (go_simp; try exact rfl)); (focus (go_simp; try exact rfl)); (focus (intro o; go_simp)); intro cc cc fz hl)
                        have HBA := Lib.hid (show Below wr.heap.size wr wa from ((Below.refl wr.heap.size wr).alloc (Nat.le_refl _) _).trans (hb_wa.mono (by simp)))
                        clear hb_wa
                        go_wp2_with fail
                        go_roundw
                        case rel => exact ⟨4, bs, by omega, by go_num, own_below HOW.out HBA.out (Nat.le_refl _), hb0, by omega, HBS, Lib.hid (by rw [HFK.out, HKE.out]), HBJ.out.trans (HBA.out.mono (by omega))⟩
                        case measure => simp [intOf]
                      · rw [hsm] at hsn
                        have hsy : smB (xh, yh) = true := hsm
                        have HSY := Lib.hid hsy
                        have HSN := Lib.hid hsn
                        clear hsn hsm hsy
                        -- own blocks: w.heap.size:2, w.heap.size + 1:2, wr.heap.size:2
                        (go_at_call 67; refine (HSN.out _).mono ?_; rintro e wa ⟨rfl, hb_wa⟩; have hz_wa := hb_wa.size; (try simp at hz_wa); (with_reducible apply cel2 (b := w.heap.size) hb_wa); (focus ((try simp) <;> omega)); (focus omega); (focus (go_simp; try exact rfl)); (focus (go_simp; try exact rfl)); (focus (intro o; go_simp)); intro cc cc fz hl; (with_reducible apply cel2 (b := w.heap.size + 1) hb_wa); (focus ((try simp) <;> omega)); (focus omega); (focus (go_simp; try exact rfl)); (focus (go_simp; try exact rfl)); (focus (intro o; go_simp)); intro cc cc fz hl; (with_reducible apply cel2 (b := wr.heap.size) hb_wa); (focus ((try simp) <;> omega)); (focus omega); (focus (go_simp; try exact rfl)); (focus (go_simp; try exact rfl)); (focus (intro o; go_simp)); intro cc cc fz hl)
                        have HBA0 := Lib.hid (show Below wr.heap.size wr wa from ((Below.refl wr.heap.size wr).alloc (Nat.le_refl _) _).trans (hb_wa.mono (by simp)))
                        clear hb_wa
                        go_wp2_with fail
                        have HVA := Lib.hid (HVR.out.below HBA0.out (by omega))
                        have hall := fun (h : VsAt wa g o l) => allowed_some (xh, yh) l g o c wa hn hl100 (by omega) h HSY.out HS.out
                        have HAL := Lib.hid (hall HVA.out)
                        clear hall
                        cases hA : allowedR (xh, yh) l
                        · rw [hA] at HAL
                          have HKE : Hid (candR x l bs (xh, yh) = bs) := Lib.hid (by unfold candR; rw [if_neg (by rw [hA]; simp)])
                          clear hA
                          (go_at_call 111; refine (HAL.out).mono ?_; rintro e wb ⟨rfl, hb_wb⟩; have hz_wb := hb_wb.size; (try simp at hz_wb); (with_reducible apply cel2 (b := w.heap.size) hb_wb); (focus ((try simp) <;> omega)); (focus omega); (focus (go_simp; try exact rfl)); (focus (go_simp; try exact rfl)); (focus (intro o; go_simp)); intro cc cc fz hl; (with_reducible apply cel2 (b := w.heap.size + 1) hb_wb); (focus ((try simp) <;> omega)); (focus omega); (focus (go_simp; try exact rfl)); (focus (go_simp; try exact rfl)); (focus (intro o; go_simp)); intro cc cc fz hl; (with_reducible apply cel2 (b := wr.heap.size) hb_wb); (focus ((try simp) <;> omega)); (focus omega); (focus (go_simp; try exact rfl)); (focus (go_simp; try exact rfl)); (focus (intro o; go_simp)); intro cc cc fz hl)
                          have HBA := Lib.hid (HBA0.out.trans (hb_wb.mono (by omega)))
                          clear hb_wb
                          go_wp2_with fail
                          go_roundw
                          case rel => exact ⟨4, bs, by omega, by go_num, own_below HOW.out HBA.out (Nat.le_refl _), hb0, by omega, HBS, Lib.hid (by rw [HFK.out, HKE.out]), HBJ.out.trans (HBA.out.mono (by omega))⟩
                          case measure => simp [intOf]
                        · rw [hA] at HAL
                          have hcd : candR x l bs (xh, yh) = if orderR x.1 x.2 xh yh (bs.headD (0, 0)).1 (bs.headD (0, 0)).2 = -1 then [(xh, yh)] else if orderR x.1 x.2 xh yh (bs.headD (0, 0)).1 (bs.headD (0, 0)).2 = 0 then bs ++ [(xh, yh)] else bs := by
                            unfold candR; rw [if_pos ⟨HSY.out, hA⟩]
                          have HCD := Lib.hid hcd
                          clear hA hcd
                          (go_at_call 111; refine (HAL.out).mono ?_; rintro e wb ⟨rfl, hb_wb⟩; have hz_wb := hb_wb.size; (try simp at hz_wb); (with_reducible apply cel2 (b := w.heap.size) hb_wb); (focus ((try simp) <;> omega)); (focus omega); (focus (go_simp; try exact rfl)); (focus (go_simp; try exact rfl)); (focus (intro o; go_simp)); intro cc cc fz hl; (with_reducible apply cel2 (b := w.heap.size + 1) hb_wb); (focus ((try simp) <;> omega)); (focus omega); (focus (go_simp; try exact rfl)); (focus (go_simp; try exact rfl)); (focus (intro o; go_simp)); intro cc cc fz hl; (with_reducible apply cel2 (b := wr.heap.size) hb_wb); (focus ((try simp) <;> omega)); (focus omega); (focus (go_simp; try exact rfl)); (focus (go_simp; try exact rfl)); (focus (intro o; go_simp)); intro cc cc fz hl)
                          have HBB := Lib.hid (HBA0.out.trans (hb_wb.mono (by omega)))
                          clear hb_wb
                          have hown := own_below HOW.out HBB.out (Nat.le_refl _)
                          have HOWB := Lib.hid hown
                          rcases own_formS hown with ⟨hz0, _⟩ | ⟨_, gb, cb, rfl, hcb, kb1, kb2⟩
                          · omega
                          · obtain ⟨⟨h1, h2⟩, hh⟩ : ∃ h, bs[0]? = some h := ⟨bs[0], by simp⟩
                            obtain ⟨d0, d1⟩ := own_vsAt hown 0 _ hh
                            simp only [Nat.zero_mul, Nat.zero_add, Nat.add_zero] at d0 d1
                            have hhd : bs.headD (0, 0) = (h1, h2) := by cases bs <;> simp_all
                            have hor := fun w => order_in x.1 x.2 xh yh h1 h2 w HXS.out HSY.out (HBS.out _ (List.mem_of_getElem? hh))
                            rw [hhd] at HCD
                            obtain ⟨O, hO⟩ : ∃ O, O = orderR x.1 x.2 xh yh h1 h2 := ⟨_, rfl⟩
                            have hO3 := orderR_cases x.1 x.2 xh yh h1 h2
                            simp only [← hO] at hor hO3 HCD
                            have HOR := Lib.hid hor
                            clear hor hO hh hhd hown
                            go_wp2_with fail
                            refine wp_region_warm (Own wb.heap.size wb) (by kernel_rfl) (by kernel_rfl) (Own.refl (Nat.le_refl _)).drew ?_
                            repeat (first | (refine wpWarm_step_off rfl (fun K hK => ?_); (go_simp; refine hK _ ?_; clear hK K)) | (apply wpWarm_step rfl; (focus (intro W' hS; have hcS := hS.cells.1; have hfS := hS.cells.2; go_simp; (first | done | exact rfl | exact ⟨rfl, hS⟩ | (go_at_call 112; exact (HOR.out _).mono (fun _ _ h => ⟨h.1, hS.call h.2⟩)) | (go_simp; exact rfl)))); (intro K hK; go_simp; (try go_bits); refine hK _ ?_; clear hK K)) | (apply wpWarm_step_on rfl; (focus (intro W' hS; have hcS := hS.cells.1; have hfS := hS.cells.2; go_simp; (first | done | exact rfl | exact ⟨rfl, hS⟩ | (go_at_call 112; exact (HOR.out _).mono (fun _ _ h => ⟨h.1, hS.call h.2⟩)) | (go_simp; exact rfl)))); (intro K hK; go_simp; (try go_bits); refine hK _ ?_; clear hK K)))
                            (refine wpWarm_nil ?_; intro wc hO; have hz_wc := hO.1; have hb_wc := hO.2; clear hO; (with_reducible apply cel2 (b := w.heap.size) hb_wc); (focus ((try simp) <;> omega)); (focus omega); (focus (go_simp; try exact rfl)); (focus (go_simp; try exact rfl)); (focus (intro o; go_simp)); intro cc cc fz hl; (with_reducible apply cel2 (b := w.heap.size + 1) hb_wc); (focus ((try simp) <;> omega)); (focus omega); (focus (go_simp; try exact rfl)); (focus (go_simp; try exact rfl)); (focus (intro o; go_simp)); intro cc cc fz hl; (with_reducible apply cel2 (b := wr.heap.size) hb_wc); (focus ((try simp) <;> omega)); (focus omega); (focus (go_simp; try exact rfl)); (focus (go_simp; try exact rfl)); (focus (intro o; go_simp)); intro cc cc fz hl)
                            have HBC := Lib.hid (HBB.out.trans (hb_wc.mono (by omega)))
                            have HOWC := Lib.hid (own_below HOWB.out hb_wc (Nat.le_refl _))
                            clear hb_wc d0 d1
                            rcases hO3 with rfl | rfl | rfl
                            · have HKE : Hid (candR x l bs (xh, yh) = [(xh, yh)]) := Lib.hid (by rw [HCD.out]; exact if_pos rfl)
                              go_wp2_with fail
                              go_roundw
                              case rel =>
                                have hnew := own_new wc (w.heap.size + 2) 23 2 1 #[.int .i64 xh, .int .i64 yh] (by omega) rfl (by decide)
                                exact ⟨4, [(xh, yh)], by omega, by go_num, hnew, by simp, by (simp <;> omega), Lib.hid (by intro y hy; obtain rfl : y = (xh, yh) := (by simpa using hy); exact HSY.out), Lib.hid (by rw [HFK.out, HKE.out]), by have hb := HBJ.out.trans (HBC.out.mono (by omega)); exact hb.alloc (by omega) _⟩
                              case measure => simp [intOf]
                            · have HKE : Hid (candR x l bs (xh, yh) = bs ++ [(xh, yh)]) := Lib.hid (by rw [HCD.out]; rfl)
                              go_wp2_with (at_builtin; go_must (refine wpList_append_own _ rfl _ _ 30 rfl (w.heap.size + 2) 23 i0 _ 2 16 Try.underlying30 hi0 hy0 hy1 hy2 rfl (by decide) _ _ _ rfl (HOWC.out.alloc _) ⟨wc.heap.size, 0, none⟩ 1 1 [.int .i64 xh, .int .i64 yh] rfl rfl (cells_new [.int .i64 xh, .int .i64 yh] 23 wc.heap.size rfl) ?c2_3 ?c3_3 ?c4_3 ?c5_3 ?_))
                              case c2_3 => first | exact ⟨rfl, rfl⟩ | (intro u hu; simp at hu; rcases hu with rfl | rfl <;> rfl)
                              case c3_3 => simp [maxLen]; omega
                              case c4_3 => omega
                              case c5_3 => first | omega | (simp; omega)
                              intro v2 w2 hown2 hg2 _
                              have hbel2 : Below (w.heap.size + 2) w7 w2 := ((HBJ.out.trans (HBC.out.mono (by omega))).alloc (by omega) _).grown hg2 (by simp; omega) (own_fresh HOWC.out)
                              have hz2 := hbel2.size
                              clear hg2
                              go_wp2_with fail
                              go_roundw
                              case rel =>
                                have hall2 : ∀ y ∈ bs ++ [(xh, yh)], smB y = true := by
                                  intro y hy
                                  rcases List.mem_append.1 hy with h | h
                                  · exact HBS.out y h
                                  · obtain rfl : y = (xh, yh) := by simpa using h
                                    exact HSY.out
                                exact ⟨4, bs ++ [(xh, yh)], by omega, by go_num, by rw [flatV_snoc, List.length_append]; exact hown2, by simp, by simp; omega, Lib.hid hall2, Lib.hid (by rw [HFK.out, HKE.out]), hbel2⟩
                              case measure => simp [intOf]
                            · have HKE : Hid (candR x l bs (xh, yh) = bs) := Lib.hid (by rw [HCD.out]; rfl)
                              go_wp2_with fail
                              go_roundw
                              case rel => exact ⟨4, bs, by omega, by go_num, HOWC.out, hb0, by omega, HBS, Lib.hid (by rw [HFK.out, HKE.out]), HBJ.out.trans (HBC.out.mono (by omega))⟩
                              case measure => simp [intOf]
                  · obtain rfl : j = 4 := by omega
                    have HFF : Hid (bs = (cornersR x (a, b)).foldl (candR x l) best) := Lib.hid (by rw [HFB.out, HCO.out]; rfl)
                    go_wp2_with fail
                    go_roundw
                    case rel => exact ⟨k + 1, bs, by omega, by go_num, HOW.out, hb0, by omega, HBS, Lib.hid (by rw [HFD.out, HST.out]; exact HFF.out), HBW7.out.trans HBJ.out⟩
                    case measure => simp [intOf]; omega
            · obtain rfl : k = l.length := by omega
              rw [List.take_length] at HFB
              obtain ⟨w8, rfl⟩ : ∃ w8, w8 = wr := ⟨_, rfl⟩
              rcases own_formS HOW.out with ⟨hz0, _⟩ | ⟨_, gb, cb, rfl, hcb, kb1, kb2⟩
              · omega
              · have HVB := Lib.hid (own_vsAt HOW.out)
                obtain ⟨⟨h1, h2⟩, hh⟩ : ∃ h, best[0]? = some h := ⟨best[0], by simp⟩
                have hhd : best.headD (0, 0) = (h1, h2) := by cases best <;> simp_all
                have HHD := Lib.hid hhd
                have HHH := Lib.hid hh
                have HRP : Hid ((R1, R2) = pickR best) := Lib.hid (by rw [HR.out, HRL.out, HFB.out]; rfl)
                have hbn : best.length ≤ 5000 := by omega
                clear hh hhd
                go_wp2_with fail
                go_loopw [125] (fun vi wr => ∃ i : Nat, i ≤ best.length ∧ vi = .int .i64 i ∧ Hid (∀ y ∈ best.take i, y = (h1, h2)) ∧ Below w8.heap.size w8 wr) (fun vi _ => best.length - (intOf vi).toNat)
                case atStart => exact ⟨0, by omega, rfl, Lib.hid (by simp), Below.refl _ _⟩
                case round =>
                  obtain ⟨i, hi, rfl, HEQ, hb_wr⟩ := hrel
                  have hzi := hb_wr.size
                  -- own blocks: w.heap.size:2, w.heap.size + 1:2
                  (with_reducible apply cel2 (b := w.heap.size) hb_wr); (focus ((try simp) <;> omega)); (focus omega); (focus (go_simp; try exact rfl)); (focus (go_simp; try exact rfl)); (focus (intro o; go_simp)); intro cc cc fz hl; (with_reducible apply cel2 (b := w.heap.size + 1) hb_wr); (focus ((try simp) <;> omega)); (focus omega); (focus (go_simp; try exact rfl)); (focus (go_simp; try exact rfl)); (focus (intro o; go_simp)); intro cc cc fz hl
                  have HBI := Lib.hid hb_wr
                  have hvw := HVB.out
                  clear hb_wr
                  have hws := HVB.out.below HBI.out (by omega)
                  obtain ⟨e0, e1⟩ := hws 0 _ HHH.out
                  simp only [Nat.zero_mul, Nat.zero_add, Nat.add_zero] at e0 e1
                  by_cases hlt : i < best.length
                  · obtain ⟨⟨ya, yb⟩, hy⟩ : ∃ y, best[i]? = some y := ⟨best[i], by simp⟩
                    obtain ⟨d0, d1⟩ := hws i _ hy
                    simp only [Nat.zero_add] at d0 d1
                    have HYY := Lib.hid hy
                    have i1 : (0 : Int) ≤ (i : Int) := by omega
                    have i2 : (i : Int) < (best.length : Int) := by omega
                    have l1 : gb < wr.heap.size := by omega
                    clear hws hy hvw
                    by_cases hyeq : ya = h1 ∧ yb = h2
                    · obtain ⟨rfl, rfl⟩ := hyeq
                      go_wp2_with fail
                      -- own blocks: w.heap.size:2, w.heap.size + 1:2, wr.heap.size:2
                      refine pin_wp (N := _) (Nat.le_refl _) (fun w9 hb_w9 hz_w9 => ?_)
                      simp at hz_w9
                      (with_reducible apply cel2 (b := w.heap.size) hb_w9); (focus ((try simp) <;> omega)); (focus omega); (focus (go_simp; try exact rfl)); (focus (go_simp; try exact rfl)); (focus (intro o; go_simp)); intro cc cc fz hl; (with_reducible apply cel2 (b := w.heap.size + 1) hb_w9); (focus ((try simp) <;> omega)); (focus omega); (focus (go_simp; try exact rfl)); (focus (go_simp; try exact rfl)); (focus (intro o; go_simp)); intro cc cc fz hl; (with_reducible apply cel2 (b := wr.heap.size) hb_w9); (focus ((try simp) <;> omega)); (focus omega); (focus (go_simp; try exact rfl)); (focus (go_simp; try exact rfl)); (focus (intro o; go_simp)); intro cc cc fz hl
                      have HB9 := Lib.hid (show Below wr.heap.size wr w9 from ((Below.refl wr.heap.size wr).alloc (Nat.le_refl _) _).trans (hb_w9.mono (by simp)))
                      have g0 := HB9.out.cell (p := ⟨gb, 0, none⟩) (by simpa using l1)
                      have g1 := HB9.out.cell (p := ⟨gb, 1, none⟩) (by simpa using l1)
                      rw [e0] at g0
                      rw [e1] at g1
                      have l9 : gb < w9.heap.size := by omega
                      clear hb_w9 e0 e1 d0 d1
                      refine wp_region_warm (Own w9.heap.size w9) (by kernel_rfl) (by kernel_rfl) (Own.refl (Nat.le_refl _)).drew ?_
                      repeat (first | (refine wpWarm_step_off rfl (fun K hK => ?_); (go_simp; refine hK _ ?_; clear hK K)) | (apply wpWarm_step rfl; (focus (intro W' hS; have hcS := hS.cells.1; have hfS := hS.cells.2; go_simp; (first | done | exact rfl | exact ⟨rfl, hS⟩ | (go_simp; exact rfl)))); (intro K hK; go_simp; (try go_bits); refine hK _ ?_; clear hK K)) | (apply wpWarm_step_on rfl; (focus (intro W' hS; have hcS := hS.cells.1; have hfS := hS.cells.2; go_simp; (first | done | exact rfl | exact ⟨rfl, hS⟩ | (go_simp; exact rfl)))); (intro K hK; go_simp; (try go_bits); refine hK _ ?_; clear hK K)))
                      (refine wpWarm_nil ?_; intro wa hO; have hz_wa := hO.1; have hb_wa := hO.2; clear hO; (with_reducible apply cel2 (b := w.heap.size) hb_wa); (focus ((try simp) <;> omega)); (focus omega); (focus (go_simp; try exact rfl)); (focus (go_simp; try exact rfl)); (focus (intro o; go_simp)); intro cc cc fz hl; (with_reducible apply cel2 (b := w.heap.size + 1) hb_wa); (focus ((try simp) <;> omega)); (focus omega); (focus (go_simp; try exact rfl)); (focus (go_simp; try exact rfl)); (focus (intro o; go_simp)); intro cc cc fz hl; (with_reducible apply cel2 (b := wr.heap.size) hb_wa); (focus ((try simp) <;> omega)); (focus omega); (focus (go_simp; try exact rfl)); (focus (go_simp; try exact rfl)); (focus (intro o; go_simp)); intro cc cc fz hl)
                      have HBA := Lib.hid (HB9.out.trans (hb_wa.mono (by omega)))
                      clear hb_wa
                      go_wp2_with fail
                      go_roundw
                      case rel =>
                        refine ⟨i + 1, by omega, by go_num, Lib.hid ?_, HBI.out.trans (HBA.out.mono (by omega))⟩
                        intro y hy
                        rw [List.take_add_one, HYY.out] at hy
                        rcases List.mem_append.1 hy with h | h
                        · exact HEQ.out y h
                        · simpa using h
                      case measure => simp [intOf]; omega
                    · have hfin : R1 = 0 ∧ R2 = 0 := by
                        have h1' := HRP.out
                        unfold pickR at h1'
                        rw [HHD.out, if_neg (fun h => by
                          have := List.all_eq_true.1 h _ (List.mem_of_getElem? HYY.out)
                          exact hyeq (by simpa using this))] at h1'
                        exact Prod.mk.inj h1'
                      obtain ⟨rfl, rfl⟩ := hfin
                      by_cases hy1 : ya = h1
                      · have hy2 : ¬ yb = h2 := fun h => hyeq ⟨hy1, h⟩
                        subst hy1
                        have hb2 : (yb == h2) = false := by simp [hy2]
                        clear hyeq
                        go_wp2_with fail
                        -- own blocks: w.heap.size:2, w.heap.size + 1:2, wr.heap.size:2
                        refine pin_wp (N := _) (Nat.le_refl _) (fun w9 hb_w9 hz_w9 => ?_)
                        simp at hz_w9
                        (with_reducible apply cel2 (b := w.heap.size) hb_w9); (focus ((try simp) <;> omega)); (focus omega); (focus (go_simp; try exact rfl)); (focus (go_simp; try exact rfl)); (focus (intro o; go_simp)); intro cc cc fz hl; (with_reducible apply cel2 (b := w.heap.size + 1) hb_w9); (focus ((try simp) <;> omega)); (focus omega); (focus (go_simp; try exact rfl)); (focus (go_simp; try exact rfl)); (focus (intro o; go_simp)); intro cc cc fz hl; (with_reducible apply cel2 (b := wr.heap.size) hb_w9); (focus ((try simp) <;> omega)); (focus omega); (focus (go_simp; try exact rfl)); (focus (go_simp; try exact rfl)); (focus (intro o; go_simp)); intro cc cc fz hl
                        have HB9 := Lib.hid (show Below wr.heap.size wr w9 from ((Below.refl wr.heap.size wr).alloc (Nat.le_refl _) _).trans (hb_w9.mono (by simp)))
                        have g0 := HB9.out.cell (p := ⟨gb, 0, none⟩) (by simpa using l1)
                        have g1 := HB9.out.cell (p := ⟨gb, 1, none⟩) (by simpa using l1)
                        rw [e0] at g0
                        rw [e1] at g1
                        have l9 : gb < w9.heap.size := by omega
                        clear hb_w9 e0 e1 d0 d1
                        refine wp_region_warm (Own w9.heap.size w9) (by kernel_rfl) (by kernel_rfl) (Own.refl (Nat.le_refl _)).drew ?_
                        repeat (first | (refine wpWarm_step_off rfl (fun K hK => ?_); (go_simp; refine hK _ ?_; clear hK K)) | (apply wpWarm_step rfl; (focus (intro W' hS; have hcS := hS.cells.1; have hfS := hS.cells.2; go_simp; (first | done | exact rfl | exact ⟨rfl, hS⟩ | (go_simp; exact rfl)))); (intro K hK; go_simp; (try go_bits); refine hK _ ?_; clear hK K)) | (apply wpWarm_step_on rfl; (focus (intro W' hS; have hcS := hS.cells.1; have hfS := hS.cells.2; go_simp; (first | done | exact rfl | exact ⟨rfl, hS⟩ | (go_simp; exact rfl)))); (intro K hK; go_simp; (try go_bits); refine hK _ ?_; clear hK K)))
                        (refine wpWarm_nil ?_; intro wa hO; have hz_wa := hO.1; have hb_wa := hO.2; clear hO; (with_reducible apply cel2 (b := w.heap.size) hb_wa); (focus ((try simp) <;> omega)); (focus omega); (focus (go_simp; try exact rfl)); (focus (go_simp; try exact rfl)); (focus (intro o; go_simp)); intro cc cc fz hl; (with_reducible apply cel2 (b := w.heap.size + 1) hb_wa); (focus ((try simp) <;> omega)); (focus omega); (focus (go_simp; try exact rfl)); (focus (go_simp; try exact rfl)); (focus (intro o; go_simp)); intro cc cc fz hl; (with_reducible apply cel2 (b := wr.heap.size) hb_wa); (focus ((try simp) <;> omega)); (focus omega); (focus (go_simp; try exact rfl)); (focus (go_simp; try exact rfl)); (focus (intro o; go_simp)); intro cc cc fz hl)
                        have HBA := Lib.hid (HB9.out.trans (hb_wa.mono (by omega)))
                        clear hb_wa
                        go_wp2_with fail
                        refine bodyPost_ret (v := .agg #[.int .i64 0, .int .i64 0]) (by simp only [results, Try.results60]; go_simp) rfl ⟨?_, ?_⟩
                        · rfl
                        · have hb := HB3.out.trans ((HBW.out.mono (by omega)).trans ((HBI.out.trans (HBA.out.mono (by omega))).mono (by omega)))
                          ((with_reducible (repeat (first | exact bR _ _ | refine bS ?_ ?_ _ | refine bA ?_ ?_ _ | refine bD ?_ | refine bT ?_ (by assumption) ?_ | refine bO (by assumption) ?_ ?_))) <;> (first | omega | (simp; done) | (simp <;> omega)))
                      · have hb1 : (ya == h1) = false := by simp [hy1]
                        clear hyeq
                        go_wp2_with fail
                        -- own blocks: w.heap.size:2, w.heap.size + 1:2, wr.heap.size:2
                        refine pin_wp (N := _) (Nat.le_refl _) (fun w9 hb_w9 hz_w9 => ?_)
                        simp at hz_w9
                        (with_reducible apply cel2 (b := w.heap.size) hb_w9); (focus ((try simp) <;> omega)); (focus omega); (focus (go_simp; try exact rfl)); (focus (go_simp; try exact rfl)); (focus (intro o; go_simp)); intro cc cc fz hl; (with_reducible apply cel2 (b := w.heap.size + 1) hb_w9); (focus ((try simp) <;> omega)); (focus omega); (focus (go_simp; try exact rfl)); (focus (go_simp; try exact rfl)); (focus (intro o; go_simp)); intro cc cc fz hl; (with_reducible apply cel2 (b := wr.heap.size) hb_w9); (focus ((try simp) <;> omega)); (focus omega); (focus (go_simp; try exact rfl)); (focus (go_simp; try exact rfl)); (focus (intro o; go_simp)); intro cc cc fz hl
                        have HB9 := Lib.hid (show Below wr.heap.size wr w9 from ((Below.refl wr.heap.size wr).alloc (Nat.le_refl _) _).trans (hb_w9.mono (by simp)))
                        have g0 := HB9.out.cell (p := ⟨gb, 0, none⟩) (by simpa using l1)
                        have g1 := HB9.out.cell (p := ⟨gb, 1, none⟩) (by simpa using l1)
                        rw [e0] at g0
                        rw [e1] at g1
                        have l9 : gb < w9.heap.size := by omega
                        clear hb_w9 e0 e1 d0 d1
                        refine wp_region_warm (Own w9.heap.size w9) (by kernel_rfl) (by kernel_rfl) (Own.refl (Nat.le_refl _)).drew ?_
                        repeat (first | (refine wpWarm_step_off rfl (fun K hK => ?_); (go_simp; refine hK _ ?_; clear hK K)) | (apply wpWarm_step rfl; (focus (intro W' hS; have hcS := hS.cells.1; have hfS := hS.cells.2; go_simp; (first | done | exact rfl | exact ⟨rfl, hS⟩ | (go_simp; exact rfl)))); (intro K hK; go_simp; (try go_bits); refine hK _ ?_; clear hK K)) | (apply wpWarm_step_on rfl; (focus (intro W' hS; have hcS := hS.cells.1; have hfS := hS.cells.2; go_simp; (first | done | exact rfl | exact ⟨rfl, hS⟩ | (go_simp; exact rfl)))); (intro K hK; go_simp; (try go_bits); refine hK _ ?_; clear hK K)))
                        (refine wpWarm_nil ?_; intro wa hO; have hz_wa := hO.1; have hb_wa := hO.2; clear hO; (with_reducible apply cel2 (b := w.heap.size) hb_wa); (focus ((try simp) <;> omega)); (focus omega); (focus (go_simp; try exact rfl)); (focus (go_simp; try exact rfl)); (focus (intro o; go_simp)); intro cc cc fz hl; (with_reducible apply cel2 (b := w.heap.size + 1) hb_wa); (focus ((try simp) <;> omega)); (focus omega); (focus (go_simp; try exact rfl)); (focus (go_simp; try exact rfl)); (focus (intro o; go_simp)); intro cc cc fz hl; (with_reducible apply cel2 (b := wr.heap.size) hb_wa); (focus ((try simp) <;> omega)); (focus omega); (focus (go_simp; try exact rfl)); (focus (go_simp; try exact rfl)); (focus (intro o; go_simp)); intro cc cc fz hl)
                        have HBA := Lib.hid (HB9.out.trans (hb_wa.mono (by omega)))
                        clear hb_wa
                        go_wp2_with fail
                        refine bodyPost_ret (v := .agg #[.int .i64 0, .int .i64 0]) (by simp only [results, Try.results60]; go_simp) rfl ⟨?_, ?_⟩
                        · rfl
                        · have hb := HB3.out.trans ((HBW.out.mono (by omega)).trans ((HBI.out.trans (HBA.out.mono (by omega))).mono (by omega)))
                          ((with_reducible (repeat (first | exact bR _ _ | refine bS ?_ ?_ _ | refine bA ?_ ?_ _ | refine bD ?_ | refine bT ?_ (by assumption) ?_ | refine bO (by assumption) ?_ ?_))) <;> (first | omega | (simp; done) | (simp <;> omega)))
                  · obtain rfl : i = best.length := by omega
                    rw [List.take_length] at HEQ
                    have hfin : R1 = h1 ∧ R2 = h2 := by
                      have h1' := HRP.out
                      unfold pickR at h1'
                      rw [HHD.out, if_pos (List.all_eq_true.2 (fun y hy => by simpa using HEQ.out y hy))] at h1'
                      exact Prod.mk.inj h1'
                    obtain ⟨rfl, rfl⟩ := hfin
                    have l1 : gb < wr.heap.size := by omega
                    have l2 : (0 : Int) < (best.length : Int) := by omega
                    have HBF := Lib.hid (HB3.out.trans ((HBW.out.mono (by omega)).trans (HBI.out.mono (by omega))))
                    clear hws hvw
                    go_wp2_with fail
                    refine bodyPost_ret (v := .agg #[.int .i64 R1, .int .i64 R2]) (by simp only [results, Try.results60]; go_simp) rfl ⟨?_, ?_⟩
                    · rfl
                    · have hb := HBF.out
                      ((with_reducible (repeat (first | exact bR _ _ | refine bS ?_ ?_ _ | refine bA ?_ ?_ _ | refine bD ?_ | refine bT ?_ (by assumption) ?_ | refine bO (by assumption) ?_ ?_))) <;> (first | omega | (simp; done) | (simp <;> omega)))
        · rw [List.take_length] at hA
          have hfin : R1 = x.1 ∧ R2 = x.2 := by
            have h1 := HR.out
            unfold liftR at h1
            rw [if_neg (fun h => by rw [HXS.out] at h; cases h), if_neg (fun h => by rw [List.all_eq_true.2 HS.out] at h; cases h), if_pos hA] at h1
            rw [← h1]; exact ⟨rfl, rfl⟩
          obtain ⟨rfl, rfl⟩ := hfin
          have HB3 := Lib.hid (HB1.out.trans (HBW.out.mono (by omega)))
          clear hA
          go_wp2_with fail
          refine bodyPost_ret (v := .agg #[.int .i64 x.1, .int .i64 x.2]) (by simp only [results, Try.results60]; go_simp) rfl ⟨?_, ?_⟩
          · rfl
          · have hb := HB3.out
            ((with_reducible (repeat (first | exact bR _ _ | refine bS ?_ ?_ _ | refine bA ?_ ?_ _ | refine bD ?_ | refine bT ?_ (by assumption) ?_ | refine bO (by assumption) ?_ ?_))) <;> (first | omega | (simp; done) | (simp <;> omega)))
end Go.Proofs.Ytklkhnhieihfoaa
