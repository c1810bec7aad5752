/- The contract of wide.Digits. -/
import Derived.Test.YtadkcipjcmkoiaaWg
import Derived.Deep.LoopGhost
import Derived.WalkSpells
import Derived.Laws.OwnMore
import Derived.Lib.IndexBytes
namespace Go.Proofs.Ytadkcipjcmkoiaa
open Go Go.RowKit
set_option linter.unusedVariables false
def digF (a : Int) (b : UInt8) : Int := 10 * a + ((b.toNat : Int) - 48)
/-- The number of decimal digits. -/
def valI (l : List UInt8) : Int := l.foldl digF 0
def Dig (l : List UInt8) : Prop := ∀ b ∈ l, 48 ≤ b.toNat ∧ b.toNat ≤ 57
theorem valI_nil : valI [] = 0 := rfl
theorem valI_snoc (l : List UInt8) (b : UInt8) : valI (l ++ [b]) = 10 * valI l + ((b.toNat : Int) - 48) := by unfold valI; rw [List.foldl_append]; rfl
theorem valI_from (b : List UInt8) : ∀ a : Int, b.foldl digF a = a * 10 ^ b.length + valI b := by
  induction b with
  | nil => intro a; simp [valI]
  | cons x b ih =>
    intro a
    have h1 := ih (digF a x)
    have h2 := ih (digF 0 x)
    unfold valI
    rw [List.foldl_cons, List.foldl_cons, h1, h2, List.length_cons, Int.pow_succ]
    unfold digF
    grind
theorem valI_append (a b : List UInt8) : valI (a ++ b) = valI a * 10 ^ b.length + valI b := by
  rw [← valI_from]; unfold valI; rw [List.foldl_append]
theorem valI_bd {l : List UInt8} (h : Dig l) : 0 ≤ valI l ∧ valI l < 10 ^ l.length := by
  have key : ∀ (k : Nat), k ≤ l.length → 0 ≤ valI (l.take k) ∧ valI (l.take k) < 10 ^ k := by
    intro k
    induction k with
    | zero => intro _; simp [valI]
    | succ k ih =>
      intro hk
      obtain ⟨b, hb⟩ : ∃ b, l[k]? = some b := ⟨l[k], by simp⟩
      have h1 := h b (List.mem_of_getElem? hb)
      have h2 := ih (by omega)
      rw [List.take_add_one, hb]
      show 0 ≤ valI (l.take k ++ [b]) ∧ valI (l.take k ++ [b]) < _
      rw [valI_snoc, Int.pow_succ]
      omega
  have := key l.length (Nat.le_refl _)
  rwa [List.take_length] at this
theorem Dig.take {l : List UInt8} (h : Dig l) (k : Nat) : Dig (l.take k) := fun b hb => h b (List.mem_of_mem_take hb)
theorem Dig.drop {l : List UInt8} (h : Dig l) (k : Nat) : Dig (l.drop k) := fun b hb => h b (List.mem_of_mem_drop hb)
theorem OwnL.stored {w : World} {base g n c : Nat} {l : List Int} (h : OwnL w base (.slice (some ⟨g, 0, none⟩) n c) l) (j : Nat) (x : Int) (hn : l.length = n) : OwnL (w.setCell ⟨g, j, none⟩ (.int .u32 x)) base (.slice (some ⟨g, 0, none⟩) n c) (l.set j x) := by
  unfold OwnL at h ⊢
  rw [hn] at h
  rw [List.length_set, hn, List.map_set]
  exact (World.ownsRow.stored h j _).1
theorem OwnL.frozen {w : World} {base g n c : Nat} {l : List Int} (h : OwnL w base (.slice (some ⟨g, 0, none⟩) n c) l) (hn : l.length = n) : ∀ o, w.frozen? ⟨g, o, none⟩ = false := fun o => by
  unfold OwnL at h
  rw [hn] at h
  exact World.ownsRow.frozenAt h o
theorem mulsc_step {L L' : List Int} {k : Nat} {sc ad cc x v : Int} (h : mv (L'.take k) + PB k * cc = mv (L.take k) * sc + ad) (hx : L[k]? = some x) (hk : k < L'.length) (hv : v = x * sc + cc) :
    mv ((L'.set k (v % 4294967296)).take (k + 1)) + PB (k + 1) * (v / 4294967296) = mv (L.take (k + 1)) * sc + ad := by
  rw [take_set_succ _ hk, mv_snoc, List.length_take, Nat.min_eq_left (by omega), mv_take_succ hx, PB_succ]
  have e : v = v % 4294967296 + 4294967296 * (v / 4294967296) := by omega
  obtain ⟨p, hp⟩ : ∃ p, p = v % 4294967296 := ⟨_, rfl⟩
  obtain ⟨q, hq⟩ : ∃ q, q = v / 4294967296 := ⟨_, rfl⟩
  rw [← hp, ← hq] at e
  rw [← hp, ← hq]
  have e2 : p = x * sc + cc - 4294967296 * q := by omega
  rw [e2]
  grind
theorem mulsc_bd {x sc cc : Int} (x0 : 0 ≤ x) (x1 : x < 4294967296) (s1 : 1 ≤ sc) (s2 : sc ≤ 1000000000) (c0 : 0 ≤ cc) (c1 : cc ≤ sc) :
    0 ≤ x * sc ∧ x * sc < 4294967296000000000 ∧ 0 ≤ x * sc + cc ∧ x * sc + cc < 18446744073709551616 ∧ (x * sc + cc) / 4294967296 ≤ sc ∧ 0 ≤ (x * sc + cc) / 4294967296 := by
  have h1 : x * sc ≤ 4294967295 * sc := Int.mul_le_mul_of_nonneg_right (by omega) (by omega)
  have h0 : 0 ≤ x * sc := Int.mul_nonneg x0 (by omega)
  refine ⟨h0, by omega, by omega, by omega, by omega, by omega⟩
set_option maxRecDepth 100000 in
set_option maxHeartbeats 4000000 in
theorem wdigits_any (s : ByteArray) (w : World) (hs : s.size ≤ 100000) (hd : Dig s.data.toList) :
    Calls Try.prog 46 #[.string s] w (ZOut (valI s.data.toList) w) := by
  obtain ⟨V, hV⟩ : ∃ V, V = valI s.data.toList := ⟨_, rfl⟩
  rw [← hV]
  have HV := Lib.hid hV
  have HD := Lib.hid hd
  have HSZ := Lib.hid (show s.data.toList.length = s.size by simp)
  clear hV hd
  go_enter Try.func46, Try.ntmps46; (try simp only [List.append_eq, List.cons_append, List.nil_append])
  go_wp2_with fail
  -- own blocks: w.heap.size:2
  have HB0 := Lib.hid (show Below w.heap.size w (w.alloc (.cells #[.bool false, .slice none 0 0] 24)) by ((with_reducible (repeat (first | exact bR _ _ | refine bS ?_ ?_ _ | refine bA ?_ ?_ _ | refine bD ?_ | refine bT ?_ (by assumption) ?_ | refine bO (by assumption) ?_ ?_))) <;> (first | omega | (simp; done) | (simp <;> omega))))
  (refine pin_wp (N := _) (Nat.le_refl _) (fun w1 hb_w1 hz_w1 => ?_); (try simp at hz_w1); (with_reducible apply cel2 (b := w.heap.size) hb_w1); (focus ((try simp) <;> omega)); (focus omega); (focus (go_simp; try exact rfl)); (focus (go_simp; try exact rfl)); (focus (intro o; go_simp)); intro cc cc fz hl)
  have HB1 := Lib.hid (HB0.out.trans (hb_w1.mono (by simp)))
  have hz1 : w.heap.size + 1 ≤ w1.heap.size := by omega
  clear hb_w1 hz_w1 HB0
  go_loopg [0, 3] s.size (fun gk vs vl wr => ∃ (t : ByteArray) (k : Nat) (L : List Int) (A : Option Addr) (c : Nat), t.size = gk ∧ vs = .string t ∧ vl = .slice A L.length c ∧ OwnL wr w1.heap.size (.slice A L.length c) L ∧ Hid (t.data.toList = s.data.toList.drop k ∧ Lim L ∧ mv L = valI (s.data.toList.take k) ∧ k + t.size = s.size) ∧ L.length ≤ k ∧ k ≤ 100000 ∧ Below w1.heap.size w1 wr)
  case atStart => exact ⟨s, 0, [], none, 0, rfl, rfl, rfl, OwnL.nil _ _, Lib.hid ⟨rfl, Lim.nil, rfl, by omega⟩, by simp, by omega, Below.refl _ _⟩
  case round =>
    obtain ⟨t, k, L, A, c, hgk, rfl, rfl, hown, HI, hLk, hk, hbel⟩ := hrel
    subst hgk
    obtain ⟨wo, rfl⟩ : ∃ wo : World, wo = wr := ⟨_, rfl⟩
    have HBE := Lib.hid hbel
    have HOW := Lib.hid hown
    have hz := hbel.size
    have htl := Lib.hid (show t.data.toList.length = t.size by simp)
    have t0 : (0 : Int) ≤ (t.size : Int) := by omega
    have t1 : (t.size : Int) ≤ 100000 := by have := HI.out.2.2.2; omega
    clear hbel hown
    by_cases h0 : t.size = 0
    · have e0 : ¬ (0 : Int) < (t.size : Int) := by omega
      have HF := Lib.hid (show sv false (mv L) = V by
        have h1 := HI.out.2.2.1
        rw [List.take_of_length_le (by have := HI.out.2.2.2; have := HSZ.out; omega)] at h1
        rw [HV.out, ← h1]; rfl)
      obtain ⟨_, _, hsl, hlc, _, _⟩ := lat_of_own HOW.out
      have hlc2 : L.length ≤ c := by injection hsl; omega
      have hmk := fun w' (h : LAt w' A L) => wmade_any false A L c w' HI.out.2.1 h hlc2 (by omega)
      rw [HF.out] at hmk
      have HMK := Lib.hid hmk
      have hb_wo := HBE.out
      -- own blocks: w.heap.size:2
      (with_reducible apply cel2 (b := w.heap.size) hb_wo); (focus ((try simp) <;> omega)); (focus omega); (focus (go_simp; try exact rfl)); (focus (go_simp; try exact rfl)); (focus (intro o; go_simp)); intro cc cc fz hl
      clear hmk hsl hb_wo h0
      go_wp2_with fail
      (go_at_call 76; refine (HMK.out _ HOW.out.lat).mono ?_; rintro e w5 ⟨hb_w5, v5, rfl, A5, c5, rfl, hc5, hA5⟩; have hz_w5 := hb_w5.size; (try simp at hz_w5); (with_reducible apply cel2 (b := w.heap.size) hb_w5); (focus ((try simp) <;> omega)); (focus omega); (focus (go_simp; try exact rfl)); (focus (go_simp; try exact rfl)); (focus (intro o; go_simp)); intro cc cc fz hl)
      have HC5 := Lib.hid hc5
      have HA5 := Lib.hid hA5
      clear hc5 hA5
      go_wp2_with fail
      refine bodyPost_ret (v := .agg #[.bool (decide (V < 0)), .slice A5 (canN V.natAbs).length c5]) (by simp only [results, Try.results46]; go_simp) rfl ⟨?_, ?_⟩
      · exact (HB1.out.trans (HBE.out.mono (by omega))).trans (by ((with_reducible (repeat (first | exact bR _ _ | refine bS ?_ ?_ _ | refine bA ?_ ?_ _ | refine bD ?_ | refine bT ?_ (by assumption) ?_ | refine bO (by assumption) ?_ ?_))) <;> (first | omega | (simp; done) | (simp <;> omega))))
      · exact ⟨_, rfl, A5, c5, rfl, HC5.out, HA5.out.set2 (by assumption) (by assumption) _ _⟩
    · have e0 : (0 : Int) < (t.size : Int) := by omega
      have e01 : decide ((0 : Int) < (t.size : Int)) = true := by rw [decide_eq_true_eq]; omega
      have e02 : decide (0 < t.size) = true := by rw [decide_eq_true_eq]; omega
      have e03 : 0 < t.size := by omega
      obtain ⟨n, hn⟩ : ∃ n, n = min t.size 9 := ⟨_, rfl⟩
      have n1 : 1 ≤ n := by omega
      have n9 : n ≤ 9 := by omega
      have nt : n ≤ t.size := by omega
      have hmin : min (t.size : Int) 9 = (n : Int) := by omega
      clear hn h0
      go_wp2_with fail
      clear hmin
      go_loopw [5, 6, 7] (fun vc va vi ws => ∃ (i : Nat) (sc ad : Int), i ≤ n ∧ vi = .int .i64 i ∧ vc = .int .u64 sc ∧ va = .int .u64 ad ∧ 1 ≤ sc ∧ sc ≤ 1000000000 ∧ 0 ≤ ad ∧ ad < sc ∧ Hid (sc = 10 ^ i ∧ ad = valI (t.data.toList.take i)) ∧ Below wo.heap.size wo ws) (fun _ _ vi _ => (n - (intOf vi).toNat))
      case atStart => exact ⟨0, 1, 0, by omega, rfl, rfl, rfl, by omega, by omega, by omega, by omega, Lib.hid ⟨rfl, rfl⟩, Below.refl _ _⟩
      case round =>
        obtain ⟨i, sc, ad, hi, rfl, rfl, rfl, s1, s2, a0, a1, HSA, hbw⟩ := hrel
        have HBW := Lib.hid hbw
        have hzw := hbw.size
        have i0 : (0 : Int) ≤ (i : Int) := by omega
        clear hbw
        by_cases hin : i < n
        · have hit : i < t.size := by omega
          have hbyte : t.data.toList[i]? = some t[i] := by
            rw [List.getElem?_eq_getElem (by rw [htl.out]; exact hit)]; rfl
          have hdg : Dig t.data.toList := by rw [HI.out.1]; exact HD.out.drop k
          obtain ⟨d0, d1⟩ := hdg _ (List.mem_of_getElem? hbyte)
          obtain ⟨b, hb⟩ : ∃ b : Int, b = (t[i].toNat : Int) := ⟨_, rfl⟩
          have b0 : 48 ≤ b := by omega
          have b1 : b ≤ 57 := by omega
          have HST := Lib.hid (show 10 * ad + (b - 48) = valI (t.data.toList.take (i + 1)) ∧ sc * 10 = 10 ^ (i + 1) by
            rw [List.take_add_one, hbyte]
            show _ = valI (t.data.toList.take i ++ [t[i]]) ∧ _
            rw [valI_snoc, ← HSA.out.2, ← hb, HSA.out.1, Int.pow_succ]
            exact ⟨rfl, rfl⟩)
          have HSB := Lib.hid (show sc ≤ 100000000 by
            rw [HSA.out.1]
            have : i ≤ 8 := by omega
            rcases (show i = 0 ∨ i = 1 ∨ i = 2 ∨ i = 3 ∨ i = 4 ∨ i = 5 ∨ i = 6 ∨ i = 7 ∨ i = 8 by omega) with h | h | h | h | h | h | h | h | h <;> rw [h] <;> decide)
          have hsb := HSB.out
          have hb' := hb.symm
          have j1 : (i : Int) < (n : Int) := by omega
          have j2 : (i : Int) < (t.size : Int) := by omega
          clear hbyte hdg d0 d1 hb
          go_wp2_with fail
          refine wp_region_warm (Own wr.heap.size wr) (by kernel_rfl) (by kernel_rfl) (Own.refl (Nat.le_refl _)).drew ?_
          repeat (first | (refine wpWarm_step_off rfl (fun K hK => ?_); (go_simp; refine hK _ ?_; clear hK K)) | (apply wpWarm_step rfl; (focus (intro W' hS; have hcS := hS.cells.1; have hfS := hS.cells.2; go_simp; (first | done | exact rfl | exact ⟨rfl, hS⟩ | (go_simp; exact rfl)))); (intro K hK; go_simp; (try go_bits); refine hK _ ?_; clear hK K)) | (apply wpWarm_step_on rfl; (focus (intro W' hS; have hcS := hS.cells.1; have hfS := hS.cells.2; go_simp; (first | done | exact rfl | exact ⟨rfl, hS⟩ | (go_simp; exact rfl)))); (intro K hK; go_simp; (try go_bits); refine hK _ ?_; clear hK K)))
          refine wpWarm_nil ?_
          intro w4 hO
          have HB4 := Lib.hid (HBW.out.trans (hO.2.mono hzw))
          clear hO
          go_wp2_with fail
          go_roundw
          case rel => exact ⟨i + 1, sc * 10, ad * 10 + (b - 48), by omega, by go_num, rfl, rfl, by omega, by omega, by omega, by omega, Lib.hid ⟨HST.out.2, by rw [← HST.out.1]; omega⟩, HB4.out⟩
          case measure => simp [intOf]; omega
        · obtain rfl : i = n := by omega
          have j1 : ¬ (i : Int) < (i : Int) := by omega
          have HL4 := Lib.hid (HOW.out.below HBW.out)
          have HB4 := Lib.hid (HBE.out.trans (HBW.out.mono hz))
          have hz4 := HB4.out.size
          obtain ⟨n, rfl⟩ : ∃ n, n = i := ⟨_, rfl⟩
          have HAD := Lib.hid (show ad = valI (t.data.toList.take n) ∧ sc = 10 ^ n from ⟨HSA.out.2, HSA.out.1⟩)
          go_wp2_with fail
          go_loopw [8, 9, 10, 38] (fun vc _ _ vi ws => ∃ (j : Nat) (cc : Int) (L' : List Int), j ≤ L.length ∧ vi = .int .i64 j ∧ vc = .int .u64 cc ∧ 0 ≤ cc ∧ cc ≤ sc ∧ L'.length = L.length ∧ OwnL ws w1.heap.size (.slice A L.length c) L' ∧ Hid (Lim L' ∧ mv (L'.take j) + PB j * cc = mv (L.take j) * sc + ad ∧ L'.drop j = L.drop j) ∧ Below w1.heap.size w1 ws) (fun _ _ _ vi _ => (L.length - (intOf vi).toNat))
          case atStart => exact ⟨0, ad, L, by omega, rfl, rfl, a0, by omega, rfl, HL4.out, Lib.hid ⟨HI.out.2.1, by simp [mv, PB_zero], rfl⟩, HB4.out⟩
          case round =>
            obtain ⟨j, cc, L', hj, rfl, rfl, c0, c1, hl', hown, HC, hbel⟩ := hrel
            have HOW5 := Lib.hid hown
            have HBE5 := Lib.hid hbel
            have hz5 := hbel.size
            have k0 : (0 : Int) ≤ (j : Int) := by omega
            have k1 : (j : Int) ≤ 100000 := by omega
            clear hbel
            by_cases hjl : j < L.length
            · obtain ⟨x, hx⟩ : ∃ x, L[j]? = some x := ⟨L[j], by simp⟩
              have hx' : L'[j]? = some x := by rw [get_of_drop HC.out.2.2]; exact hx
              obtain ⟨x0, x1⟩ := HI.out.2.1.get hx
              obtain ⟨g, o, rfl, hg, hcell⟩ := hown.lat j x hx'
              have ho : o = 0 := by
                rcases hown.2 with ⟨hv, _⟩ | ⟨g', cap, cur, hv, _⟩
                · simp at hv
                · injection hv with h1 _ _; injection h1 with h1; injection h1 with _ h1 _
              subst ho
              rw [Nat.zero_add] at hcell
              have hfz := hown.frozen hl'
              have j1 : (j : Int) < (L.length : Int) := by omega
              obtain ⟨q1, q2, q3, q4, q5, q6⟩ := mulsc_bd x0 x1 s1 s2 c0 c1
              obtain ⟨v, hv⟩ : ∃ v, v = x * sc + cc := ⟨_, rfl⟩
              have HST := Lib.hid (mulsc_step HC.out.2.1 hx (by omega) hv)
              rw [← hv] at q3 q4 q5 q6
              have hm : IntKind.u64.wrap (x * sc) = x * sc := wraps_u64' _ q1 (by omega)
              have hv' := hv.symm
              have HX := Lib.hid hx
              clear hx hx' hv hown
              go_wp2_with fail
              go_roundw
              case rel => exact ⟨j + 1, v / 4294967296, L'.set j (v % 4294967296), by omega, by go_num, rfl, q6, q5, by rw [List.length_set]; exact hl', HOW5.out.stored j _ hl', Lib.hid ⟨HC.out.1.set _ (by omega) (by omega), HST.out, drop_set_same _ HC.out.2.2⟩, HBE5.out.setCell (by have := (HOW5.out.addr g 0 rfl).1; exact this) _⟩
              case measure => simp [intOf]; omega
            · obtain rfl : j = L.length := by omega
              have j1 : ¬ (L.length : Int) < (L.length : Int) := by omega
              have HF := Lib.hid (show mv L' + PB L.length * cc = valI (s.data.toList.take (k + n)) by
                have h1 := HC.out.2.1
                rw [List.take_of_length_le (l := L') (by omega), List.take_length, HI.out.2.2.1, HAD.out.1, HAD.out.2] at h1
                rw [h1]
                have h2 : s.data.toList.take (k + n) = s.data.toList.take k ++ t.data.toList.take n := by rw [HI.out.1, List.take_add]
                have h3 : (t.data.toList.take n).length = n := by rw [List.length_take, htl.out]; omega
                rw [h2, valI_append, h3])
              have HT := Lib.hid (show (t.extract n t.size).data.toList = s.data.toList.drop (k + n) by
                rw [Go.Lib.extract_to_end, HI.out.1, List.drop_drop])
              have hts : (t.extract n t.size).size = t.size - n := by rw [ByteArray.size_extract]; omega
              have HTS := Lib.hid hts
              clear hown hts
              by_cases hcc : 0 < cc
              · have e1 : cc % 4294967296 = cc := by omega
                go_wp2_with (at_builtin; go_must (refine wpList_append_limbs rfl _ _ rfl w1.heap.size _ L' rfl (HOW5.out.alloc _) (some ⟨wr.heap.size, 0, none⟩) 1 [cc] rfl (lat_one (by simp) (by go_simp)) (by simp; omega) (by simp; omega) ?_))
                intro v5 w5 hown5 hg5
                have HB5 := Lib.hid ((HBE5.out.alloc hz5 _).grown hg5 (by simp; omega) HOW5.out.fresh)
                obtain ⟨A6, c6, rfl, hc6, _, _⟩ := lat_of_own hown5
                have HO6 := Lib.hid hown5
                clear hg5 hown5
                go_wp2_with fail
                go_roundg (t.size - n)
                case measure => omega
                case rel => exact ⟨t.extract n t.size, k + n, L' ++ [cc], A6, c6, HTS.out, rfl, rfl, HO6.out, Lib.hid ⟨HT.out, HC.out.1.snoc c0 (by omega), by rw [mv_snoc, hl']; exact HF.out, by have := HTS.out; have := HI.out.2.2.2; omega⟩, by simp; omega, by have := HI.out.2.2.2; omega, HB5.out⟩
              · have hc0 : cc = 0 := by omega
                have e1 : ¬ (0 : Int) < cc := hcc
                go_wp2_with fail
                go_roundg (t.size - n)
                case measure => omega
                case rel => exact ⟨t.extract n t.size, k + n, L', A, c, HTS.out, rfl, by rw [hl'], by rw [hl']; exact HOW5.out, Lib.hid ⟨HT.out, HC.out.1, by have := HF.out; rw [hc0, Int.mul_zero, Int.add_zero] at this; exact this, by have := HTS.out; have := HI.out.2.2.2; omega⟩, by omega, by have := HI.out.2.2.2; omega, HBE5.out⟩
end Go.Proofs.Ytadkcipjcmkoiaa
