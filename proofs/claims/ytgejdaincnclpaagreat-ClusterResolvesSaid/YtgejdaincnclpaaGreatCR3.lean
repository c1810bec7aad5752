/- Law ClusterResolves returns true for every list of meetings and every list of vectors; each argument reads afterwards as it read before. No conditions. Merged texts: ClRc ClRd ClRe ClRg ClRw LawCR (what no proof of the claim needs is left out). -/
import Derived.Test.YtgejdaincnclpaaGreatCh8
import Derived.Test.YtgejdaincnclpaaGreatCR2
import Derived.Test.YtgejdaincnclpaaGreatRows
set_option maxRecDepth 100000
set_option maxHeartbeats 40000000
namespace Go.Proofs.YtgejdaincnclpaaGreat
open Go Go.RowKit
set_option linter.unusedVariables false
def fitsR (l : List Mt) (v : List V2) : Int := if 16 < l.length ∨ 64 < v.length then 2 else if v.all (nearB 1048576) = true ∧ l.all (fun m => permM m v.length) = true then 0 else 1
theorem fits_code (l : List Mt) (v : List V2) : (resR l v).2.2 = fitsR l v := by
 unfold resR fitsR
 split
 · rfl
 · split <;> rfl
def accB (l : List Mt) (v : List V2) (k : Nat) : Bool := v.all (nearB 1048576) && (l.take k).all (fun m => permM m v.length)
theorem accB_suc {l : List Mt} {v : List V2} {k : Nat} {m : Mt} (h : l[k]? = some m) : accB l v (k + 1) = (accB l v k && permM m v.length) := by
 unfold accB
 rw [List.take_add_one, h, List.all_append, Bool.and_assoc]
 simp
theorem fits_any (l : List Mt) (A : Option Addr) (c : Nat) (v : List V2) (B : Option Addr) (d : Nat) (w : World) (hM : MAt w A l) (hV : VAt w B v) :
  Calls Tryz.prog 27 #[.slice A l.length c, .slice B v.length d] w fun e w' => e = .returned (.int .i64 (fitsR l v)) ∧ Below w.heap.size w w' := by
 have HM := hQ0 hM
 have HV := hQ0 hV
 clear hM hV
 by_cases hs : 16 < l.length ∨ 64 < v.length
 · have hR : fitsR l v = 2 := by unfold fitsR; rw [if_pos hs]
   rw [hR]
   have hcase : (16 < (l.length : Int)) ∨ (¬ 16 < (l.length : Int) ∧ 64 < (v.length : Int)) := by omega
   clear hs
   rcases hcase with h | ⟨h, h2⟩
   all_goals
    go_enter Tryz.func27, Tryz.ntmps27; (try simp only [List.append_eq, List.cons_append, List.nil_append])
    go_wp2_with fail
    go_ret
    exact ⟨rfl, Below.refl _ _⟩
 · have s1 : ¬ 16 < (l.length : Int) := by omega
   have s2 : ¬ 64 < (v.length : Int) := by omega
   obtain ⟨F, hF⟩ : ∃ F, F = fitsR l v := ⟨_, rfl⟩
   rw [← hF]
   unfold fitsR at hF
   rw [if_neg hs] at hF
   have HFI := hQ0 hF
   have ks := fun (a b : Int) (w : World) => rspeed_any a b w
   have kd := fun (a b : Int) (w : World) => rdirection_any a b w
   have KS := hQ0 ks
   have KD := hQ0 kd
   clear hs hF ks kd
   go_enter Tryz.func27, Tryz.ntmps27; (try simp only [List.append_eq, List.cons_append, List.nil_append])
   go_wp2_with fail
   go_loopw [5, 6] (fun t5 t6 wr => ∃ (k : Nat), k ≤ v.length ∧ t6 = .int .i64 k ∧ t5 = .bool ((v.take k).all (nearB 1048576)) ∧ Hid (Below w.heap.size w wr)) (fun _ t6 _ => v.length - (intOf t6).toNat)
   case atStart => exact ⟨0, by omega, rfl, rfl, hQ0 (Below.refl _ _)⟩
   case round =>
    obtain ⟨k, hk, rfl, rfl, HW⟩ := hrel
    obtain ⟨w2, rfl⟩ : ∃ z, z = wr := ⟨_, rfl⟩
    have k1 : (0 : Int) ≤ (k : Int) := by omega
    by_cases hkl : k < v.length
    · have k2 : (k : Int) < (v.length : Int) := by omega
      obtain ⟨⟨x, y⟩, hx⟩ : ∃ x, v[k]? = some x := ⟨v[k], by simp⟩
      obtain ⟨g, o, rfl, hg, c0, c1⟩ := (HV.out.below HW.out (Nat.le_refl _)) k _ hx
      have HT := hQ0 (all_take_succ (p := nearB 1048576) hx)
      simp only at c0 c1
      generalize (v.take k).all (nearB 1048576) = ac at *
      have kx := fun w => KS.out x y w
      obtain ⟨b, hb⟩ : ∃ b, b = withinB x y 1048576 := ⟨_, rfl⟩
      simp only [← hb] at kx
      have HBB := hQ0 (show nearB 1048576 (x, y) = b from hb.symm)
      have KX := hQ0 kx
      clear hx kx hb
      cases ac
      · go_wp2_with fail
        go_roundw
        case rel => exact ⟨k + 1, by omega, by go_num, by rw [HT.out]; simp, HW⟩
        case measure => simp [intOf]; omega
      · go_wp2_with fail
        (go_at_call 34; refine (KX.out _).mono ?_; rintro e w4 ⟨rfl, hb_w4⟩; have hz_w4 := hb_w4.size; (try simp at hz_w4); skip)
        have HB4 := hQ0 (HW.out.trans (hb_w4.mono HW.out.size))
        clear hb_w4
        go_wp2_with fail
        go_roundw
        case rel => exact ⟨k + 1, by omega, by go_num, by rw [HT.out, HBB.out]; simp, HB4⟩
        case measure => simp [intOf]; omega
    · obtain rfl : k = v.length := by omega
      have e0 : (v.take v.length).all (nearB 1048576) = accB l v 0 := by unfold accB; simp
      rw [e0]
      have HN0 := hQ0 HW.out
      generalize hac : accB l v 0 = ac0
      have HAC := hQ0 hac
      clear e0 hac HW
      go_wp2_with fail
      go_loopw [5, 7] (fun t5 t7 wr => ∃ (k : Nat), k ≤ l.length ∧ t7 = .int .i64 k ∧ t5 = .bool (accB l v k) ∧ Hid (Below w.heap.size w wr)) (fun _ t7 _ => l.length - (intOf t7).toNat)
      case atStart => exact ⟨0, by omega, rfl, by rw [HAC.out], hQ0 HN0.out⟩
      case round =>
       obtain ⟨k, hk, rfl, rfl, HB3⟩ := hrel
       obtain ⟨w3, rfl⟩ : ∃ z, z = wr := ⟨_, rfl⟩
       have k1 : (0 : Int) ≤ (k : Int) := by omega
       have hz3 := HB3.out.size
       by_cases hkl : k < l.length
       · have k2 : (k : Int) < (l.length : Int) := by omega
         obtain ⟨m, hm⟩ : ∃ m, l[k]? = some m := ⟨l[k], by simp⟩
         obtain ⟨gm, om, rfl, hgm, m0, m1, m2, m3, m4, m5, m6, m7, m8, m9⟩ := (HM.out.below HB3.out (Nat.le_refl _)) k m hm
         have HT := hQ0 (accB_suc (v := v) hm)
         generalize accB l v k = ac at *
         obtain ⟨a, b, n1, n2, x1, x2, y1, y2, e, f⟩ := m
         simp only at m0 m1 m2 m3 m4 m5 m6 m7 m8 m9
         obtain ⟨R, hR⟩ : ∃ R, R = permM ⟨a, b, n1, n2, x1, x2, y1, y2, e, f⟩ v.length := ⟨_, rfl⟩
         rw [← hR] at HT
         clear hm
         cases ac
         · clear hR
           go_wp2_with fail
           go_roundw
           case rel => exact ⟨k + 1, by omega, by go_num, by rw [HT.out]; simp, hQ0 (HB3.out.trans ((show Below w3.heap.size w3 _ by ((with_reducible (repeat (first | exact bR _ _ | apply bS | apply bA | apply bD | refine bT ?_ (by assumption) ?_ | refine bO (by assumption) ?_ ?_))) <;> (first | omega | (simp <;> omega)))).mono HB3.out.size))⟩
           case measure => simp [intOf]; omega
         · rw [Bool.true_and] at HT
           unfold permM at hR
           simp only at hR
           by_cases hA : 0 ≤ a ∧ a < v.length ∧ -1 ≤ b ∧ b < v.length ∧ ¬ a = b
           · rw [decide_eq_true hA, Bool.true_and] at hR
             obtain ⟨a1, a2, b1, b2, ab⟩ := hA
             have hab : (a != b) = true := by rw [bne_iff_ne]; exact ab
             have kn := fun w => KD.out n1 n2 w
             have kw := fun w => KS.out x1 x2 w
             have kk := fun w => KS.out y1 y2 w
             generalize withinB n1 n2 2097152 = c1 at *
             generalize hc2 : withinB x1 x2 1048576 = c2 at *
             generalize hc3 : withinB y1 y2 1048576 = c3 at *
             have KN := hQ0 kn
             have KW := hQ0 kw
             have KK := hQ0 kk
             have hcase : (b = -1) ∨ (¬ b = -1 ∧ ¬ x1 = 0) ∨ (¬ b = -1 ∧ x1 = 0 ∧ ¬ x2 = 0) ∨ (¬ b = -1 ∧ x1 = 0 ∧ x2 = 0 ∧ ¬ y1 = 0) ∨ (¬ b = -1 ∧ x1 = 0 ∧ x2 = 0 ∧ y1 = 0 ∧ ¬ y2 = 0) ∨ (¬ b = -1 ∧ x1 = 0 ∧ x2 = 0 ∧ y1 = 0 ∧ y2 = 0) := by omega
             clear kn kw kk hc2 hc3
             rcases hcase with h | ⟨h, h2⟩ | ⟨h, rfl, h2⟩ | ⟨h, rfl, rfl, h2⟩ | ⟨h, rfl, rfl, rfl, h2⟩ | ⟨h, rfl, rfl, rfl, rfl⟩
             case inr.inl | inr.inr.inl | inr.inr.inr.inl | inr.inr.inr.inr.inl =>
              have hfin : R = false := by rw [hR]; simp [h, h2]
              subst hfin
              have hb1 : (b == -1) = false := by rw [beq_eq_false_iff_ne]; exact h
              clear hR
              go_wp2_with fail
              go_roundw
              case rel => exact ⟨k + 1, by omega, by go_num, by rw [HT.out], hQ0 (HB3.out.trans ((show Below w3.heap.size w3 _ by ((with_reducible (repeat (first | exact bR _ _ | apply bS | apply bA | apply bD | refine bT ?_ (by assumption) ?_ | refine bO (by assumption) ?_ ?_))) <;> (first | omega | (simp <;> omega)))).mono HB3.out.size))⟩
              case measure => simp [intOf]; omega
             all_goals
              have hfin : R = (c1 && (c2 && c3) && (sixB e && sixB f)) := by rw [hR]; simp [h]
              have HF := hQ0 hfin
              clear hR hfin
              first
               | subst h
               | have hb1 : (b == -1) = false := by rw [beq_eq_false_iff_ne]; exact h
              go_wp2_with fail
              (go_at_call 35; refine (KN.out _).mono ?_; rintro e w4 ⟨rfl, hb_w4⟩; have hz_w4 := hb_w4.size; (try simp at hz_w4); (with_reducible apply cel10 (b := w3.heap.size) hb_w4); ((try simp) <;> omega); omega; (iterate 10 (focus (go_simp; try exact rfl))); (intro o; go_simp); intro cc cc cc cc cc cc cc cc cc cc fz hl)
              have HB4 := hQ0 (show Below w3.heap.size w3 w4 by ((with_reducible (repeat (first | exact bR _ _ | apply bS | apply bA | apply bD | refine bT ?_ (by assumption) ?_ | refine bO (by assumption) ?_ ?_))) <;> (first | omega | (simp <;> omega))))
              clear hb_w4
              cases c1
              · have hr : R = false := by rw [HF.out]; rfl
                subst hr
                go_wp2_with fail
                go_roundw
                case rel => exact ⟨k + 1, by omega, by go_num, by rw [HT.out], hQ0 (HB3.out.trans (HB4.out.mono HB3.out.size))⟩
                case measure => simp [intOf]; omega
              · go_wp2_with fail
                (go_at_call 34; refine (KW.out _).mono ?_; rintro e w5 ⟨rfl, hb_w5⟩; have hz_w5 := hb_w5.size; (try simp at hz_w5); (with_reducible apply cel10 (b := w3.heap.size) hb_w5); ((try simp) <;> omega); omega; (iterate 10 (focus (go_simp; try exact rfl))); (intro o; go_simp); intro cc cc cc cc cc cc cc cc cc cc fz hl)
                have HB5 := hQ0 (HB4.out.trans (hb_w5.mono HB4.out.size))
                clear hb_w5
                cases c2
                · have hr : R = false := by rw [HF.out]; rfl
                  subst hr
                  go_wp2_with fail
                  go_roundw
                  case rel => exact ⟨k + 1, by omega, by go_num, by rw [HT.out], hQ0 (HB3.out.trans (HB5.out.mono HB3.out.size))⟩
                  case measure => simp [intOf]; omega
                · go_wp2_with fail
                  (go_at_call 34; refine (KK.out _).mono ?_; rintro e w6 ⟨rfl, hb_w6⟩; have hz_w6 := hb_w6.size; (try simp at hz_w6); (with_reducible apply cel10 (b := w3.heap.size) hb_w6); ((try simp) <;> omega); omega; (iterate 10 (focus (go_simp; try exact rfl))); (intro o; go_simp); intro cc cc cc cc cc cc cc cc cc cc fz hl)
                  have HB6 := hQ0 (HB3.out.trans ((HB5.out.trans (hb_w6.mono HB5.out.size)).mono HB3.out.size))
                  clear hb_w6
                  cases c3
                  · have hr : R = false := by rw [HF.out]; rfl
                    subst hr
                    go_wp2_with fail
                    go_roundw
                    case rel => exact ⟨k + 1, by omega, by go_num, by rw [HT.out], HB6⟩
                    case measure => simp [intOf]; omega
                  · have h4 : e < 0 ∨ (0 ≤ e ∧ 15 < e) ∨ (0 ≤ e ∧ e ≤ 15 ∧ f < 0) ∨ (0 ≤ e ∧ e ≤ 15 ∧ 0 ≤ f ∧ 15 < f) ∨ (0 ≤ e ∧ e ≤ 15 ∧ 0 ≤ f ∧ f ≤ 15) := by omega
                    rcases h4 with h4 | ⟨h4, h5⟩ | ⟨h4, h5, h6⟩ | ⟨h4, h5, h6, h7⟩ | ⟨h4, h5, h6, h7⟩
                    case inr.inr.inr.inr =>
                     have hr : R = true := by rw [HF.out]; simp only [sixB, Bool.true_and, Bool.and_eq_true, decide_eq_true_eq]; omega
                     subst hr
                     go_wp2_with fail
                     go_roundw
                     case rel => exact ⟨k + 1, by omega, by go_num, by rw [HT.out], HB6⟩
                     case measure => simp [intOf]; omega
                    all_goals
                     have hr : R = false := by rw [HF.out]; simp only [sixB, Bool.true_and, Bool.and_eq_false_iff, decide_eq_false_iff_not]; omega
                     subst hr
                     go_wp2_with fail
                     go_roundw
                     case rel => exact ⟨k + 1, by omega, by go_num, by rw [HT.out] <;> first | rfl | (simp; omega), HB6⟩
                     case measure => simp [intOf]; omega
           · have hfin : R = false := by rw [hR, decide_eq_false hA]; rfl
             subst hfin
             have h4 : a < 0 ∨ (0 ≤ a ∧ v.length ≤ a) ∨ (0 ≤ a ∧ a < v.length ∧ b < -1) ∨ (0 ≤ a ∧ a < v.length ∧ -1 ≤ b ∧ v.length ≤ b) ∨ (0 ≤ a ∧ a < v.length ∧ -1 ≤ b ∧ b < v.length ∧ a = b) := by omega
             clear hA hR
             rcases h4 with h4 | ⟨h4, h5⟩ | ⟨h4, h5, h6⟩ | ⟨h4, h5, h6, h7⟩ | ⟨h4, h5, h6, h7, h8⟩
             case' inr.inr.inr.inr => subst h8
             all_goals
              go_wp2_with fail
              go_roundw
              case rel => exact ⟨k + 1, by omega, by go_num, by rw [HT.out], hQ0 (HB3.out.trans ((show Below w3.heap.size w3 _ by ((with_reducible (repeat (first | exact bR _ _ | apply bS | apply bA | apply bD | refine bT ?_ (by assumption) ?_ | refine bO (by assumption) ?_ ?_))) <;> (first | omega | (simp <;> omega)))).mono HB3.out.size))⟩
              case measure => simp [intOf]; omega
       · obtain rfl : k = l.length := by omega
         have e1 : accB l v l.length = (v.all (nearB 1048576) && l.all (fun m => permM m v.length)) := by unfold accB; rw [List.take_length]
         obtain ⟨ac, hac⟩ : ∃ ac, ac = accB l v l.length := ⟨_, rfl⟩
         rw [← hac]
         have HE := hQ0 (hac.trans e1)
         clear e1 hac
         cases ac
         · have hf : F = 1 := by
            rw [HFI.out, if_neg]
            intro h
            have := HE.out
            rw [h.1, h.2] at this
            exact absurd this (by decide)
           subst hf
           go_wp2_with fail
           go_ret
           exact ⟨rfl, HB3.out⟩
         · have hf : F = 0 := by
            rw [HFI.out, if_pos]
            have := HE.out.symm
            rw [Bool.and_eq_true] at this
            exact this
           subst hf
           go_wp2_with fail
           go_ret
           exact ⟨rfl, HB3.out⟩
structure AtI (l : List Int) (n : Int) (k : Nat) : Prop where
  le : k ≤ l.length
  lo : ∀ (j : Nat) (x : Int), j < k → l[j]? = some x → x < n
  hi : ∀ x, l[k]? = some x → n ≤ x
theorem put_in {l : List Int} {n : Int} {k : Nat} (ha : l.Pairwise (fun x y => x < y)) (h : l[k]? = some n) : setI (l ++ [n]) = l := by
 refine setI_eq ha fun x => ?_
 have := List.mem_of_getElem? h
 rw [List.mem_append, List.mem_singleton]
 constructor
 · rintro (h | rfl)
   · exact h
   · exact this
 · exact .inl
theorem put_new {l : List Int} {n : Int} {k : Nat} (ha : l.Pairwise (fun x y => x < y)) (h : AtI l n k) (hn : ¬ l[k]? = some n) : setI (l ++ [n]) = l.take k ++ [n] ++ l.drop k := by
 obtain ⟨h1, h2, h3⟩ := h
 have hsplit := List.take_append_drop k l
 have hd : ∀ y ∈ l.drop k, n < y := fun y hy => by
  obtain ⟨j, hj⟩ := List.getElem?_of_mem hy
  rw [List.getElem?_drop] at hj
  rcases Nat.eq_zero_or_pos j with rfl | hjp
  · have := h3 y hj
    rcases Int.lt_or_eq_of_le this with h | h
    · exact h
    · rw [Nat.add_zero, ← h] at hj; exact absurd hj hn
  · have hk : k < l.length := by have := (List.getElem?_eq_some_iff.1 hj).1; omega
    have hkk : l[k]? = some l[k] := by simp [hk]
    have h4 := h3 _ hkk
    have hjl := (List.getElem?_eq_some_iff.1 hj)
    obtain ⟨hl, e⟩ := hjl
    have := List.pairwise_iff_getElem.1 ha k (k + j) hk hl (by omega)
    rw [e] at this
    omega
 have ht : ∀ y ∈ l.take k, y < n := fun y hy => by
  obtain ⟨j, hj⟩ := List.getElem?_of_mem hy
  have hjk : j < k := by have := (List.getElem?_eq_some_iff.1 hj).1; rw [List.length_take] at this; omega
  rw [List.getElem?_take, if_pos hjk] at hj
  exact h2 j y hjk hj
 refine setI_eq ?_ fun x => ?_
 · rw [← hsplit] at ha
   obtain ⟨a1, a2, a3⟩ := List.pairwise_append.1 ha
   rw [List.append_assoc]
   refine List.pairwise_append.2 ⟨a1, ?_, fun x hx y hy => ?_⟩
   · rw [List.singleton_append]
     exact List.pairwise_cons.2 ⟨hd, a2⟩
   · rw [List.singleton_append, List.mem_cons] at hy
     rcases hy with rfl | hy
     · exact ht x hx
     · exact a3 x hx y hy
 · rw [List.mem_append, List.mem_append, List.mem_append, List.mem_singleton]
   conv => lhs; rw [← hsplit, List.mem_append]
   constructor
   · rintro ((h | h) | h)
     · exact .inl (.inl h)
     · exact .inr h
     · exact .inl (.inr h)
   · rintro ((h | h) | h)
     · exact .inl (.inl h)
     · exact .inr h
     · exact .inl (.inr h)
theorem run_append_void {W : World} {A : Option Addr} {n c : Nat} {t : TypeId} (hc : n ≤ c) : (Builtin.append_ #[33, 33] t #[.slice A n c, .slice none 0 0]).run Tryz.prog W = .ok (.slice A n c) W := by
 cases A <;> simp [Builtin.append_, run_underlying Tryz.underlying33, sizeOf, Builtin.lenOf, Builtin.firstCells, loadCells, storeCells, hc]
theorem gX_nil {W : World} {o : Oper} {a : Act} {K : Value → (World → Prop) → Prop} (s x : Operand) (ho : o.op = .call { callee := .builtin .append, args := #[s, x], argTypes := #[33, 33] })
  (N : Nat) (hN : N ≤ W.heap.size) (hs : a.eval s = .slice none 0 0) (g p c : Nat) (ns : List Int) (hx : a.eval x = .slice (some ⟨g, p, none⟩) ns.length c)
  (hc : ∀ (j : Nat) (u : Int), ns[j]? = some u → W.cell? ⟨g, p + j, none⟩ = some (.int .i64 u)) (hl : ns.length ≤ 1000000)
  (h : ∀ A c', ns.length ≤ c' → K (.slice A ns.length c') (fun W => OwnI W N A c' ns)) : givesX Tryz.prog W K ((execOp a.eval o).run Tryz.prog W) := by
 obtain ⟨i, hi, hz, hsi, hb⟩ := info_parts infI
 obtain ⟨v', w', hrun, h2, h3, _⟩ := run_append_own_at (P := Tryz.prog) W N 33 o.type 3 i _ 1 8 Tryz.underlying33 hi hz hsi hb rfl (by decide) (.slice none 0 0) 0 [] (World.ownsRow_nil _ _ _ _) ⟨g, p, none⟩ ns.length c (ns.map (Value.int .i64)) (by simp) (fun j u hu => by
   rw [List.getElem?_map] at hu
   rcases hj : ns[j]? with _ | y
   · rw [hj] at hu; cases hu
   · rw [hj] at hu
     simp only [Option.map_some, Option.some.injEq] at hu
     subst hu
     rw [show (⟨g, p, none⟩ : Addr).add j = ⟨g, p + j, none⟩ by unfold Addr.add; split <;> simp_all]
     exact hc j y hj) (fun u hu => by obtain ⟨y, _, rfl⟩ := List.mem_map.1 hu; rfl) (by unfold maxLen; omega) (by omega) hN
 rw [Nat.zero_add, List.nil_append] at h2
 obtain ⟨A, c', rfl⟩ := own_slice h2
 unfold execOp
 simp only [ho, resolve, invoke, builtin, Sem.run_bind, Sem.run_pure, Result.andThen_ok, List.map_toArray, List.map_cons, List.map_nil, hs, hx, hrun]
 have hcc : ns.length ≤ c' := by
  rcases own_formS h2 with ⟨hn, _⟩ | ⟨_, g', c2, hv, hlc, _⟩
  · omega
  · simp only [Value.slice.injEq, true_and] at hv
    rw [hv.2]; exact hlc
 exact ⟨_, (Below.refl W.heap.size W).grown h3 (Nat.le_refl _) (fun k hk => by cases hk), h2, fun W W' k hb => OwnI.bel k hb (Nat.le_refl _), h A c' hcc⟩
theorem gW_own {N : Nat} {W0 W : World} {o : Oper} {a : Act} {G : List (Nat × Obj)} {K : Value → (World → Prop) → List (Nat × Obj) → Prop} (s x : Operand) (ho : o.op = .call { callee := .builtin .append, args := #[s, x], argTypes := #[33, 33] })
  (hS : SG N W0 G W) (A : Option Addr) (c0 : Nat) (l : List Int) (hs : a.eval s = .slice A l.length c0) (hown : OwnI W N A c0 l) (g p c : Nat) (ns : List Int) (hx : a.eval x = .slice (some ⟨g, p, none⟩) ns.length c)
  (hc : ∀ (j : Nat) (u : Int), ns[j]? = some u → W.cell? ⟨g, p + j, none⟩ = some (.int .i64 u)) (hl : l.length + ns.length ≤ 1000000)
  (h : ∀ A' c', (l ++ ns).length ≤ c' → K (.slice A' (l ++ ns).length c') (fun W => OwnI W N A' c' (l ++ ns)) []) : givesW Tryz.prog N W0 K ((execOp a.eval o).run Tryz.prog W) := by
 obtain ⟨i, hi, hz, hsi, hb⟩ := info_parts infI
 obtain ⟨v', w', hrun, h2, h3, _⟩ := run_append_own_at (P := Tryz.prog) W N 33 o.type 3 i _ 1 8 Tryz.underlying33 hi hz hsi hb rfl (by decide) (.slice A l.length c0) l.length (l.map (Value.int .i64)) hown ⟨g, p, none⟩ ns.length c (ns.map (Value.int .i64)) (by simp) (fun j u hu => by
   rw [List.getElem?_map] at hu
   rcases hj : ns[j]? with _ | y
   · rw [hj] at hu; cases hu
   · rw [hj] at hu
     simp only [Option.map_some, Option.some.injEq] at hu
     subst hu
     rw [show (⟨g, p, none⟩ : Addr).add j = ⟨g, p + j, none⟩ by unfold Addr.add; split <;> simp_all]
     exact hc j y hj) (fun u hu => by obtain ⟨y, _, rfl⟩ := List.mem_map.1 hu; rfl) (by unfold maxLen; omega) (by omega) hS.1.1
 rw [← List.map_append, ← List.length_append] at h2
 obtain ⟨A', c', rfl⟩ := own_slice h2
 unfold execOp
 simp only [ho, resolve, invoke, builtin, Sem.run_bind, Sem.run_pure, Result.andThen_ok, List.map_toArray, List.map_cons, List.map_nil, hs, hx, hrun]
 have hcc : (l ++ ns).length ≤ c' := by
  rcases own_formS h2 with ⟨hn, _⟩ | ⟨_, g', c2, hv, hlc, _⟩
  · omega
  · simp only [Value.slice.injEq, true_and] at hv
    rw [hv.2]; exact hlc
 exact ⟨_, _, [], rfl, h2, fun W W' k hb => OwnI.bel k hb (Nat.le_refl _), ⟨⟨Nat.le_trans hS.1.1 h3.size, hS.1.2.grown h3 hS.1.1 (OwnI.fresh hown)⟩, fun p hp => by cases hp⟩, h A' c' hcc⟩
def PutOut (N : Nat) (R : List Int) (w : World) (e : Ending) (w' : World) : Prop := Below w.heap.size w w' ∧ ∃ A c, e = .returned (.slice A R.length c) ∧ IAt w' A R ∧ R.length ≤ c ∧ ∀ ad : Addr, A = some ad → N ≤ ad.block
theorem own_fr {w : World} {base N : Nat} {A : Option Addr} {c : Nat} {l : List Int} (h : OwnI w base A c l) (hl : 0 < l.length) (hN : N ≤ base) : ∀ ad : Addr, A = some ad → N ≤ ad.block := fun ad ha => by
 rcases own_formS h with ⟨hn, _⟩ | ⟨_, g, c', hv, _, _, hb⟩
 · omega
 · simp only [Value.slice.injEq, true_and] at hv
   rw [hv.1] at ha
   cases ha
   exact Nat.le_trans hN hb
theorem put_any (l : List Int) (n : Int) (A : Option Addr) (c : Nat) (w : World) (hA : IAt w A l) (hc : l.length ≤ c) (h0 : 0 < l.length) (hasc : l.Pairwise (fun x y => x < y)) (hl : l.length ≤ 1000) (N : Nat) (hN : N ≤ w.heap.size) (hfr : ∀ ad : Addr, A = some ad → N ≤ ad.block) :
  Calls Tryz.prog 33 #[.slice A l.length c, .int .i64 n] w (PutOut N (setI (l ++ [n])) w) := by
 have HA := hQ0 hA
 have HAS := hQ0 hasc
 have HFR := hQ0 hfr
 have HNN := hQ0 hN
 clear hfr hN
 obtain ⟨R, hR⟩ : ∃ R, R = setI (l ++ [n]) := ⟨_, rfl⟩
 rw [← hR]
 have HR := hQ0 hR
 obtain ⟨g, o, hAe, hg, _⟩ := hA 0 l[0] (by simp)
 subst hAe
 have HC := hQ0 (fun (j : Nat) (x : Int) (hj : l[j]? = some x) => (show w.cell? ⟨g, o + j, none⟩ = some (.int .i64 x) from by
  obtain ⟨g', o', e, _, hc⟩ := hA j x hj
  simp only [Option.some.injEq, Addr.mk.injEq, and_true] at e
  obtain ⟨rfl, rfl⟩ := e
  exact hc))
 clear hA hasc hR
 go_enter Tryz.func33, Tryz.ntmps33; (try simp only [List.append_eq, List.cons_append, List.nil_append])
 go_wp2_with fail
 go_loopw [5] (fun t5 wr => ∃ k : Nat, k ≤ l.length ∧ t5 = .int .i64 k ∧ Hid ((∀ (j : Nat) (x : Int), j < k → l[j]? = some x → x < n) ∧ Below w.heap.size w wr)) (fun t5 _ => l.length - (intOf t5).toNat)
 case atStart => exact ⟨0, by omega, rfl, hQ0 ⟨fun j x hj => by omega, Below.refl _ _⟩⟩
 case round =>
  obtain ⟨k, hk, rfl, HI⟩ := hrel
  obtain ⟨w2, rfl⟩ : ∃ z, z = wr := ⟨_, rfl⟩
  have k1 : (0 : Int) ≤ (k : Int) := by omega
  have hz2 := HI.out.2.size
  have hg2 : g < w2.heap.size := by omega
  by_cases hkl : k < l.length
  · have k2 : (k : Int) < (l.length : Int) := by omega
    obtain ⟨x, hx⟩ : ∃ x, l[k]? = some x := ⟨l[k], by simp⟩
    have c0 : w2.cell? ⟨g, o + k, none⟩ = some (.int .i64 x) := (HI.out.2.cell (p := ⟨g, o + k, none⟩) hg).trans (HC.out k x hx)
    have HX := hQ0 hx
    clear hx
    by_cases hxn : x < n
    · have HLO := hQ0 (show ∀ (j : Nat) (y : Int), j < k + 1 → l[j]? = some y → y < n from fun j y hj hy => by
       rcases Nat.lt_or_eq_of_le (Nat.le_of_lt_succ hj) with h | rfl
       · exact HI.out.1 j y h hy
       · rw [HX.out] at hy; cases hy; exact hxn)
      go_wp2_with fail
      go_roundw
      case rel => exact ⟨k + 1, by omega, by go_num, hQ0 ⟨HLO.out, HI.out.2⟩⟩
      case measure => simp [intOf]; omega
    · have HAT := hQ0 (AtI.mk hk HI.out.1 (fun y hy => by rw [HX.out] at hy; cases hy; omega))
      have HB2 := hQ0 HI.out.2
      have hnlt : ¬ x < n := hxn
      by_cases hxe : x = n
      · subst hxe
        have hr : R = l := HR.out.trans (put_in HAS.out HX.out)
        subst hr
        have hxx : (x == x) = true := by simp
        go_wp2_with fail
        refine bodyPost_ret (v := .slice (some ⟨g, o, none⟩) R.length c) (by (try simp only [results, Tryz.results33]); (try go_simp)) rfl ⟨?_, ?_⟩
        · exact HB2.out
        · exact ⟨_, _, rfl, HA.out.below HB2.out (Nat.le_refl _), hc, HFR.out⟩
      · have hr : R = l.take k ++ [n] ++ l.drop k := HR.out.trans (put_new HAS.out HAT.out (fun h => hxe (by rw [HX.out] at h; exact Option.some.inj h)))
        have hxf : (x == n) = false := by rw [beq_eq_false_iff_ne]; exact hxe
        have hkc : k ≤ c := by omega
        have HDR := hQ0 (show (l.drop k).length = l.length - k from List.length_drop)
        obtain ⟨p, hp, hcp⟩ : ∃ p, (if c = k then (some ⟨g, o, none⟩ : Option Addr) else some ⟨g, o + k, none⟩) = some ⟨g, p, none⟩ ∧ ∀ (j : Nat) (u : Int), (l.drop k)[j]? = some u → w.cell? ⟨g, p + j, none⟩ = some (.int .i64 u) := by
         by_cases hck : c = k
         · refine ⟨o, by rw [if_pos hck], fun j u hu => ?_⟩
           rw [List.getElem?_drop] at hu
           have := (List.getElem?_eq_some_iff.1 hu).1
           omega
         · refine ⟨o + k, by rw [if_neg hck], fun j u hu => ?_⟩
           rw [List.getElem?_drop] at hu
           rw [Nat.add_assoc]
           exact HC.out _ u hu
        have HCP := hQ0 hcp
        have HCT := hQ0 (show ∀ (j : Nat) (u : Int), (l.take k)[j]? = some u → w.cell? ⟨g, o + j, none⟩ = some (.int .i64 u) from fun j u hu => by
         rw [List.getElem?_take] at hu
         split at hu
         · exact HC.out j u hu
         · cases hu)
        have HTK := hQ0 (show (l.take k).length = k by rw [List.length_take]; omega)
        have HLL := hQ0 hl
        clear hcp
        generalize l.take k = T1 at *
        generalize l.drop k = T2 at *
        subst hr
        go_wp2_with fail
        (refine pin_wp (N := _) (Nat.le_refl _) (fun w3 hb_w3 hz_w3 => ?_); (try simp at hz_w3); skip); refine wp_region_floatQ w3.heap.size 11 [11] (Nat.le_refl _) (fun _ => True) trivial Cl.tt (by kernel_rfl) (by kernel_rfl) ?_
        have HB3 := hQ0 (HB2.out.trans (hb_w3.mono HB2.out.size))
        have HN3 := hQ0 HB3.out.size
        clear hb_w3
        refine wpQI_start [0, 1, 2] ?_; (iterate 3 (first | (apply wpQI_step (zA rfl) (by kernel_rfl) (by exact rfl); (focus (intro W' hS; have hcS := hS.cells; go_simp; (iterate 2 (first | done | exact rfl | exact bB _ | go_simp)))); intro K hK; go_simp; (try go_bits); refine hK _ ?_; clear hK K))); refine wpQI_nil ?_
        refine wpQI_start [4] ?_; (iterate 1 (first | (apply wpQI_step (zA rfl) (by kernel_rfl) (by exact rfl); (focus (intro W' hS; have hcS := hS.cells; go_simp; (iterate 2 (first | done | exact rfl | exact bB _ | go_simp)))); intro K hK; go_simp; (try go_bits); refine hK _ ?_; clear hK K))); refine wpQI_nil ?_
        refine wpQI_start [7, 8, 9] ?_; (iterate 3 (first | (apply wpQI_step (zA rfl) (by kernel_rfl) (by exact rfl); (focus (intro W' hS; have hcS := hS.cells; go_simp; (iterate 2 (first | done | exact rfl | exact bB _ | go_simp)))); intro K hK; go_simp; (try go_bits); refine hK _ ?_; clear hK K))); refine wpQI_nil ?_
        apply wpQ_call (i := 3) (zA rfl) (by kernel_rfl) (by exact rfl)
        intro W hF hS
        have HBW := hQ0 (HB3.out.trans (hS.1.2.mono HB3.out.size))
        refine gX_nil _ _ rfl w3.heap.size hS.1.1 rfl g o c T1 (by rw [HTK.out]; rfl) (fun j u hu => (HBW.out.cell (p := ⟨g, o + j, none⟩) hg).trans (HCT.out j u hu)) (by rw [HTK.out]; omega) ?_
        clear hF hS HBW
        intro A3 c3 hc3 K hK
        go_simp
        refine hK _ ?_
        clear hK K
        apply wpQ_fresh (i := 5) LInv.std (zA rfl) (by kernel_rfl) (fun g => Value.slice (some ⟨g, 0, none⟩) 1 1) (by exact rfl); (focus (intro W; go_simp; first | done | exact rfl | exact ⟨rfl, rfl⟩))
        intro g_5 hN_5 hG_5 K hK
        go_simp; refine hK _ ?_; clear hK K
        apply wpQ_wild (i := 6) (zA rfl) (by kernel_rfl) (by kernel_rfl)
        intro W hF hS
        have hb0 := (hS.2 _ (List.mem_cons_self ..)).2
        simp only at hb0
        refine gW_own _ _ rfl hS A3 c3 T1 rfl hF.2 g_5 0 1 [n] rfl (fun j u hu => ?_) (by have := HTK.out; simp only [List.length_singleton]; omega) ?_
        · rcases j with _ | j
          · simp only [List.getElem?_cons_zero, Option.some.injEq] at hu
            subst hu
            exact cell_of_row W g_5 0 _ _ _ hb0
          · simp at hu
        clear hF hS hb0
        intro A6 c6 hc6 K hK
        go_simp
        refine hK _ ?_
        clear hK K
        apply wpQ_wild (i := 10) (zA rfl) (by kernel_rfl) (by kernel_rfl)
        intro W hF hS
        have HBW := hQ0 (HB3.out.trans (hS.1.2.mono HB3.out.size))
        refine gW_own _ _ rfl hS A6 c6 (T1 ++ [n]) (by simp; rfl) hF g p _ T2 (by rw [HDR.out]; first | rfl | (rw [Nat.sub_self]; rfl)) (fun j u hu => (HBW.out.cell (p := ⟨g, p + j, none⟩) hg).trans (HCP.out j u hu)) (by rw [List.length_append, HTK.out, HDR.out]; simp; omega) ?_
        clear hF hS HBW
        intro A7 c7 hc7 K hK
        go_simp
        refine hK _ ?_
        clear hK K
        refine wpQ_done (by kernel_rfl) ?_
        intro w4 hF_w4 hSG
        have hz_w4 := hSG.1.1
        have hb_w4 := hSG.1.2
        clear hSG
        skip
        (try simp only [List.filterMap_cons, List.filterMap_nil, List.getElem?_cons_succ, List.getElem?_cons_zero])
        have HO := hQ0 (show OwnI w4 w3.heap.size A7 c7 (T1 ++ [n] ++ T2) from hF_w4)
        have HB4 := hQ0 (HB3.out.trans (hb_w4.mono HB3.out.size))
        clear hF_w4 hb_w4
        go_wp2_with fail
        refine bodyPost_ret (v := .slice A7 (T1 ++ [n] ++ T2).length c7) (by (try simp only [results, Tryz.results33]); (try go_simp)) rfl ⟨?_, ?_⟩
        · exact HB4.out
        · exact ⟨_, _, rfl, HO.out.iat, hc7, own_fr HO.out (by simp only [List.length_append, List.length_cons, List.length_nil]; omega) (Nat.le_trans HNN.out HN3.out)⟩
  · obtain rfl : k = l.length := by omega
    have HAT := hQ0 (AtI.mk (Nat.le_refl _) HI.out.1 (fun y hy => by rw [List.getElem?_eq_none (Nat.le_refl _)] at hy; cases hy))
    have hr : R = l.take l.length ++ [n] ++ l.drop l.length := HR.out.trans (put_new HAS.out HAT.out (fun h => by rw [List.getElem?_eq_none (Nat.le_refl _)] at h; cases h))
    have HB2 := hQ0 HI.out.2
    have hkc : l.length ≤ c := by omega
    have HDR := hQ0 (show (l.drop l.length).length = l.length - l.length from List.length_drop)
    obtain ⟨p, hp, hcp⟩ : ∃ p, (if c = l.length then (some ⟨g, o, none⟩ : Option Addr) else some ⟨g, o + l.length, none⟩) = some ⟨g, p, none⟩ ∧ ∀ (j : Nat) (u : Int), (l.drop l.length)[j]? = some u → w.cell? ⟨g, p + j, none⟩ = some (.int .i64 u) := by
     by_cases hck : c = l.length
     · refine ⟨o, by rw [if_pos hck], fun j u hu => ?_⟩
       rw [List.getElem?_drop] at hu
       have := (List.getElem?_eq_some_iff.1 hu).1
       omega
     · refine ⟨o + l.length, by rw [if_neg hck], fun j u hu => ?_⟩
       rw [List.getElem?_drop] at hu
       rw [Nat.add_assoc]
       exact HC.out _ u hu
    have HCP := hQ0 hcp
    have HCT := hQ0 (show ∀ (j : Nat) (u : Int), (l.take l.length)[j]? = some u → w.cell? ⟨g, o + j, none⟩ = some (.int .i64 u) from fun j u hu => by
     rw [List.getElem?_take] at hu
     split at hu
     · exact HC.out j u hu
     · cases hu)
    have HTK := hQ0 (show (l.take l.length).length = l.length by rw [List.length_take]; omega)
    have HLL := hQ0 hl
    clear hcp
    generalize l.take l.length = T1 at *
    generalize l.drop l.length = T2 at *
    subst hr
    go_wp2_with fail
    (refine pin_wp (N := _) (Nat.le_refl _) (fun w3 hb_w3 hz_w3 => ?_); (try simp at hz_w3); skip); refine wp_region_floatQ w3.heap.size 11 [11] (Nat.le_refl _) (fun _ => True) trivial Cl.tt (by kernel_rfl) (by kernel_rfl) ?_
    have HB3 := hQ0 (HB2.out.trans (hb_w3.mono HB2.out.size))
    have HN3 := hQ0 HB3.out.size
    clear hb_w3
    refine wpQI_start [0, 1, 2] ?_; (iterate 3 (first | (apply wpQI_step (zA rfl) (by kernel_rfl) (by exact rfl); (focus (intro W' hS; have hcS := hS.cells; go_simp; (iterate 2 (first | done | exact rfl | exact bB _ | go_simp)))); intro K hK; go_simp; (try go_bits); refine hK _ ?_; clear hK K))); refine wpQI_nil ?_
    refine wpQI_start [4] ?_; (iterate 1 (first | (apply wpQI_step (zA rfl) (by kernel_rfl) (by exact rfl); (focus (intro W' hS; have hcS := hS.cells; go_simp; (iterate 2 (first | done | exact rfl | exact bB _ | go_simp)))); intro K hK; go_simp; (try go_bits); refine hK _ ?_; clear hK K))); refine wpQI_nil ?_
    refine wpQI_start [7, 8, 9] ?_; (iterate 3 (first | (apply wpQI_step (zA rfl) (by kernel_rfl) (by exact rfl); (focus (intro W' hS; have hcS := hS.cells; go_simp; (iterate 2 (first | done | exact rfl | exact bB _ | go_simp)))); intro K hK; go_simp; (try go_bits); refine hK _ ?_; clear hK K))); refine wpQI_nil ?_
    apply wpQ_call (i := 3) (zA rfl) (by kernel_rfl) (by exact rfl)
    intro W hF hS
    have HBW := hQ0 (HB3.out.trans (hS.1.2.mono HB3.out.size))
    refine gX_nil _ _ rfl w3.heap.size hS.1.1 rfl g o c T1 (by rw [HTK.out]; rfl) (fun j u hu => (HBW.out.cell (p := ⟨g, o + j, none⟩) hg).trans (HCT.out j u hu)) (by rw [HTK.out]; omega) ?_
    clear hF hS HBW
    intro A3 c3 hc3 K hK
    go_simp
    refine hK _ ?_
    clear hK K
    apply wpQ_fresh (i := 5) LInv.std (zA rfl) (by kernel_rfl) (fun g => Value.slice (some ⟨g, 0, none⟩) 1 1) (by exact rfl); (focus (intro W; go_simp; first | done | exact rfl | exact ⟨rfl, rfl⟩))
    intro g_5 hN_5 hG_5 K hK
    go_simp; refine hK _ ?_; clear hK K
    apply wpQ_wild (i := 6) (zA rfl) (by kernel_rfl) (by kernel_rfl)
    intro W hF hS
    have hb0 := (hS.2 _ (List.mem_cons_self ..)).2
    simp only at hb0
    refine gW_own _ _ rfl hS A3 c3 T1 rfl hF.2 g_5 0 1 [n] rfl (fun j u hu => ?_) (by have := HTK.out; simp only [List.length_singleton]; omega) ?_
    · rcases j with _ | j
      · simp only [List.getElem?_cons_zero, Option.some.injEq] at hu
        subst hu
        exact cell_of_row W g_5 0 _ _ _ hb0
      · simp at hu
    clear hF hS hb0
    intro A6 c6 hc6 K hK
    go_simp
    refine hK _ ?_
    clear hK K
    apply wpQ_wild (i := 10) (zA rfl) (by kernel_rfl) (by kernel_rfl)
    intro W hF hS
    have HBW := hQ0 (HB3.out.trans (hS.1.2.mono HB3.out.size))
    refine gW_own _ _ rfl hS A6 c6 (T1 ++ [n]) (by simp; rfl) hF g p _ T2 (by rw [HDR.out]; first | rfl | (rw [Nat.sub_self]; rfl)) (fun j u hu => (HBW.out.cell (p := ⟨g, p + j, none⟩) hg).trans (HCP.out j u hu)) (by rw [List.length_append, HTK.out, HDR.out]; simp; omega) ?_
    clear hF hS HBW
    intro A7 c7 hc7 K hK
    go_simp
    refine hK _ ?_
    clear hK K
    refine wpQ_done (by kernel_rfl) ?_
    intro w4 hF_w4 hSG
    have hz_w4 := hSG.1.1
    have hb_w4 := hSG.1.2
    clear hSG
    skip
    (try simp only [List.filterMap_cons, List.filterMap_nil, List.getElem?_cons_succ, List.getElem?_cons_zero])
    have HO := hQ0 (show OwnI w4 w3.heap.size A7 c7 (T1 ++ [n] ++ T2) from hF_w4)
    have HB4 := hQ0 (HB3.out.trans (hb_w4.mono HB3.out.size))
    clear hF_w4 hb_w4
    go_wp2_with fail
    refine bodyPost_ret (v := .slice A7 (T1 ++ [n] ++ T2).length c7) (by (try simp only [results, Tryz.results33]); (try go_simp)) rfl ⟨?_, ?_⟩
    · exact HB4.out
    · exact ⟨_, _, rfl, HO.out.iat, hc7, own_fr HO.out (by simp only [List.length_append, List.length_cons, List.length_nil]; omega) (Nat.le_trans HNN.out HN3.out)⟩
attribute [local go_sem] run_append_void in
theorem put_nil (n : Int) (w : World) (N : Nat) (hN : N ≤ w.heap.size) : Calls Tryz.prog 33 #[.slice none 0 0, .int .i64 n] w (PutOut N [n] w) := by
 have HNN := hQ0 hN
 clear hN
 go_enter Tryz.func33, Tryz.ntmps33; (try simp only [List.append_eq, List.cons_append, List.nil_append])
 go_wp2_with fail
 go_loopw [5] (fun t5 wr => t5 = .int .i64 0 ∧ Hid (Below w.heap.size w wr)) (fun t5 _ => 0)
 case atStart => exact ⟨rfl, hQ0 (Below.refl _ _)⟩
 case round =>
  obtain ⟨rfl, HB2⟩ := hrel
  obtain ⟨w2, rfl⟩ : ∃ z, z = wr := ⟨_, rfl⟩
  have hz2 := HB2.out.size
  go_wp2_with fail
  (refine pin_wp (N := _) (Nat.le_refl _) (fun w3 hb_w3 hz_w3 => ?_); (try simp at hz_w3); skip); refine wp_region_floatQ w3.heap.size 11 [11] (Nat.le_refl _) (fun _ => True) trivial Cl.tt (by kernel_rfl) (by kernel_rfl) ?_
  have HB3 := hQ0 (HB2.out.trans (hb_w3.mono HB2.out.size))
  have HN3 := hQ0 HB3.out.size
  clear hb_w3
  refine wpQI_start [0, 1, 2, 3, 4] ?_; (iterate 5 (first | (apply wpQI_step (zA rfl) (by kernel_rfl) (by exact rfl); (focus (intro W' hS; have hcS := hS.cells; go_simp; (iterate 2 (first | done | exact rfl | exact bB _ | go_simp)))); intro K hK; go_simp; (try go_bits); refine hK _ ?_; clear hK K))); refine wpQI_nil ?_
  refine wpQI_start [7, 8, 9] ?_; (iterate 3 (first | (apply wpQI_step (zA rfl) (by kernel_rfl) (by exact rfl); (focus (intro W' hS; have hcS := hS.cells; go_simp; (iterate 2 (first | done | exact rfl | exact bB _ | go_simp)))); intro K hK; go_simp; (try go_bits); refine hK _ ?_; clear hK K))); refine wpQI_nil ?_
  apply wpQ_fresh (i := 5) LInv.std (zA rfl) (by kernel_rfl) (fun g => Value.slice (some ⟨g, 0, none⟩) 1 1) (by exact rfl); (focus (intro W; go_simp; first | done | exact rfl | exact ⟨rfl, rfl⟩))
  intro g_5 hN_5 hG_5 K hK
  go_simp; refine hK _ ?_; clear hK K
  apply wpQ_wild (i := 6) (zA rfl) (by kernel_rfl) (by kernel_rfl)
  intro W hF hS
  have hb0 := (hS.2 _ (List.mem_cons_self ..)).2
  simp only at hb0
  refine gW_own _ _ rfl hS none 0 [] rfl (World.ownsRow_nil _ _ _ _) g_5 0 1 [n] rfl (fun j u hu => ?_) (by simp) ?_
  · rcases j with _ | j
    · simp only [List.getElem?_cons_zero, Option.some.injEq] at hu
      subst hu
      exact cell_of_row W g_5 0 _ _ _ hb0
    · simp at hu
  clear hF hS hb0
  intro A6 c6 hc6 K hK
  have hc6' : 1 ≤ c6 := hc6
  simp only [List.nil_append, List.length_singleton] at hK ⊢
  go_simp
  refine hK _ ?_
  clear hK K
  rcases A6 with _ | ad
  · refine wpQI_start [10] ?_; (iterate 1 (first | (apply wpQI_step (zA rfl) (by kernel_rfl) (by exact rfl); (focus (intro W' hS; have hcS := hS.cells; go_simp; (iterate 2 (first | done | exact rfl | exact bB _ | go_simp)))); intro K hK; go_simp; (try go_bits); refine hK _ ?_; clear hK K))); refine wpQI_nil ?_
    refine wpQ_done (by kernel_rfl) ?_
    intro w4 hF_w4 hSG
    have hz_w4 := hSG.1.1
    have hb_w4 := hSG.1.2
    clear hSG
    skip
    (try simp only [List.filterMap_cons, List.filterMap_nil, List.getElem?_cons_succ, List.getElem?_cons_zero])
    have HO := hQ0 (show OwnI w4 w3.heap.size (none) c6 [n] from hF_w4)
    have HB4 := hQ0 (HB3.out.trans (hb_w4.mono HB3.out.size))
    clear hF_w4 hb_w4
    go_wp2_with fail
    refine bodyPost_ret (v := .slice none 1 c6) (by (try simp only [results, Tryz.results33]); (try go_simp)) rfl ⟨?_, ?_⟩
    · exact HB4.out
    · exact ⟨_, _, rfl, HO.out.iat, hc6', own_fr HO.out (by simp only [List.length_cons, List.length_nil]; omega) (Nat.le_trans HNN.out HN3.out)⟩
  · refine wpQI_start [10] ?_; (iterate 1 (first | (apply wpQI_step (zA rfl) (by kernel_rfl) (by exact rfl); (focus (intro W' hS; have hcS := hS.cells; go_simp; (iterate 2 (first | done | exact rfl | exact bB _ | go_simp)))); intro K hK; go_simp; (try go_bits); refine hK _ ?_; clear hK K))); refine wpQI_nil ?_
    refine wpQ_done (by kernel_rfl) ?_
    intro w4 hF_w4 hSG
    have hz_w4 := hSG.1.1
    have hb_w4 := hSG.1.2
    clear hSG
    skip
    (try simp only [List.filterMap_cons, List.filterMap_nil, List.getElem?_cons_succ, List.getElem?_cons_zero])
    have HO := hQ0 (show OwnI w4 w3.heap.size ((some ad)) c6 [n] from hF_w4)
    have HB4 := hQ0 (HB3.out.trans (hb_w4.mono HB3.out.size))
    clear hF_w4 hb_w4
    go_wp2_with fail
    refine bodyPost_ret (v := .slice (some ad) 1 c6) (by (try simp only [results, Tryz.results33]); (try go_simp)) rfl ⟨?_, ?_⟩
    · exact HB4.out
    · exact ⟨_, _, rfl, HO.out.iat, hc6', own_fr HO.out (by simp only [List.length_cons, List.length_nil]; omega) (Nat.le_trans HNN.out HN3.out)⟩
theorem put_both (l : List Int) (n : Int) (A : Option Addr) (c : Nat) (w : World) (hA : IAt w A l) (hc : l.length ≤ c) (h0 : l = [] → A = none ∧ c = 0) (hasc : l.Pairwise (fun x y => x < y)) (hl : l.length ≤ 1000) (N : Nat) (hN : N ≤ w.heap.size) (hfr : ∀ ad : Addr, A = some ad → N ≤ ad.block) :
  Calls Tryz.prog 33 #[.slice A l.length c, .int .i64 n] w (PutOut N (setI (l ++ [n])) w) := by
 by_cases h : l = []
 · obtain ⟨rfl, rfl⟩ := h0 h
   subst h
   have e : setI ([] ++ [n]) = [n] := setI_eq (by simp) fun x => by simp
   rw [e]
   exact put_nil n w N hN
 · exact put_any l n A c w hA hc (List.length_pos_iff.2 h) hasc hl N hN hfr
theorem setI_app (x y : List Int) : setI (setI x ++ y) = setI (x ++ y) := setI_congr fun z => by rw [List.mem_append, List.mem_append, setI_mem]
theorem setI_ne {l : List Int} {n : Int} : setI (l ++ [n]) ≠ [] := fun h => by
 have : n ∈ setI (l ++ [n]) := (setI_mem _ _).2 (by simp)
 rw [h] at this; cases this
theorem rballs_any (l : List Mt) (A : Option Addr) (c : Nat) (w : World) (hV : MAt w A l) (hl : l.length ≤ 100) :
  Calls Tryz.prog 12 #[.slice A l.length c] w (PutOut w.heap.size (setI (ballsL l)) w) := by
 have HM := hQ0 hV
 have kp := fun (l : List Int) (n : Int) (A : Option Addr) (c : Nat) (w : World) h1 h2 h3 h4 h5 N h6 h7 => put_both l n A c w h1 h2 h3 h4 h5 N h6 h7
 have KP := hQ0 kp
 clear hV kp
 go_enter Tryz.func12, Tryz.ntmps12; (try simp only [List.append_eq, List.cons_append, List.nil_append])
 go_wp2_with fail
 go_loopw [3, 4] (fun t3 t4 wr => ∃ (k : Nat) (B : Option Addr) (d : Nat), k ≤ l.length ∧ t4 = .int .i64 k ∧ t3 = .slice B (setI (ballsL (l.take k))).length d ∧ Hid (IAt wr B (setI (ballsL (l.take k))) ∧ (setI (ballsL (l.take k))).length ≤ d ∧ (setI (ballsL (l.take k)) = [] → B = none ∧ d = 0) ∧ Below w.heap.size w wr ∧ ∀ ad : Addr, B = some ad → w.heap.size ≤ ad.block)) (fun _ t4 _ => l.length - (intOf t4).toNat)
 case atStart =>
  have hs0 : setI (ballsL (l.take 0)) = [] := setI_eq (by simp) fun x => by simp [ballsL]
  exact ⟨0, none, 0, by omega, rfl, by rw [hs0]; rfl, hQ0 ⟨by rw [hs0]; exact fun k x hx => (by cases hx), by rw [hs0]; exact Nat.le_refl _, fun _ => ⟨rfl, rfl⟩, Below.refl _ _, fun ad h => by cases h⟩⟩
 case round =>
  obtain ⟨k, B, d, hk, rfl, rfl, HI⟩ := hrel
  obtain ⟨w2, rfl⟩ : ∃ z, z = wr := ⟨_, rfl⟩
  have HB2 := hQ0 HI.out.2.2.2.1
  have HF2 := hQ0 HI.out.2.2.2.2
  have hz2 := HB2.out.size
  have k1 : (0 : Int) ≤ (k : Int) := by omega
  have hlk : (setI (ballsL (l.take k))).length ≤ 400 := by have h1 := setI_len (ballsL (l.take k)); have h2 := ballsL_len (l.take k); rw [List.length_take] at h2; omega
  have HAS := hQ0 (setI_asc (ballsL (l.take k)))
  by_cases hkl : k < l.length
  · have k2 : (k : Int) < (l.length : Int) := by omega
    obtain ⟨m, hm⟩ : ∃ m, l[k]? = some m := ⟨l[k], by simp⟩
    obtain ⟨gm, om, rfl, hgm, m0, m1, _⟩ := (HM.out.below HB2.out (Nat.le_refl _)) k m hm
    have HT := hQ0 (show setI (ballsL (l.take (k + 1))) = setI (setI (ballsL (l.take k)) ++ (if m.b = -1 then [m.a] else [m.a, m.b])) by rw [ballsL_take hm, setI_app])
    generalize setI (ballsL (l.take k)) = L at *
    obtain ⟨ma, mb, n1, n2, x1, x2, y1, y2, e, f⟩ := m
    simp only at m0 m1 HT
    clear hm
    go_wp2_with fail
    (go_at_call 33; refine (KP.out L ma B d _ HI.out.1 HI.out.2.1 HI.out.2.2.1 HAS.out (by omega) _ hz2 HF2.out).mono ?_; rintro e w3 ⟨hb_w3, B3, d3, rfl, hi3, hd3, hf3⟩; have hz_w3 := hb_w3.size; (try simp at hz_w3); skip)
    have HF3 := hQ0 hf3
    have HB3 := hQ0 (HB2.out.trans (hb_w3.mono hz2))
    have m1' := (hb_w3.cell (p := ⟨gm, om + k * 10 + 1, none⟩) hgm).trans m1
    have hgm3 : gm < w3.heap.size := by omega
    have HI3 := hQ0 hi3
    have hL3 : (setI (L ++ [ma])).length ≤ 401 := by have h1 := setI_len (L ++ [ma]); simp at h1; omega
    have HA3 := hQ0 (setI_asc (L ++ [ma]))
    have HN3 := hQ0 (setI_ne (l := L) (n := ma))
    have HD3 := hQ0 hd3
    clear hb_w3 hi3 hd3 hf3 m0 m1 hgm
    by_cases hmb : mb = -1
    · subst hmb
      rw [if_pos rfl] at HT
      go_wp2_with fail
      go_roundw
      case rel => exact ⟨k + 1, B3, d3, by omega, by go_num, by rw [HT.out], hQ0 ⟨by rw [HT.out]; exact HI3.out, by rw [HT.out]; exact HD3.out, fun h => absurd (HT.out.symm.trans h) HN3.out, HB3.out, HF3.out⟩⟩
      case measure => simp [intOf]; omega
    · have hb1 : (mb != -1) = true := by rw [bne_iff_ne]; exact hmb
      rw [if_neg hmb] at HT
      have HT2 := hQ0 (show setI (ballsL (l.take (k + 1))) = setI (setI (L ++ [ma]) ++ [mb]) by rw [HT.out, setI_app, List.append_assoc]; rfl)
      clear hmb
      generalize setI (L ++ [ma]) = L3 at *
      go_wp2_with fail
      (go_at_call 33; refine (KP.out L3 mb B3 d3 _ HI3.out HD3.out (fun h => absurd h HN3.out) HA3.out (by omega) _ HB3.out.size HF3.out).mono ?_; rintro e w4 ⟨hb_w4, B4, d4, rfl, hi4, hd4, hf4⟩; have hz_w4 := hb_w4.size; (try simp at hz_w4); skip)
      have HF4 := hQ0 hf4
      have HB4 := hQ0 (HB3.out.trans (hb_w4.mono HB3.out.size))
      have HI4 := hQ0 hi4
      have HD4 := hQ0 hd4
      have HN4 := hQ0 (setI_ne (l := L3) (n := mb))
      clear hb_w4 hi4 hd4 hf4
      go_wp2_with fail
      go_roundw
      case rel => exact ⟨k + 1, B4, d4, by omega, by go_num, by rw [HT2.out], hQ0 ⟨by rw [HT2.out]; exact HI4.out, by rw [HT2.out]; exact HD4.out, fun h => absurd (HT2.out.symm.trans h) HN4.out, HB4.out, HF4.out⟩⟩
      case measure => simp [intOf]; omega
  · obtain rfl : k = l.length := by omega
    have HI' := HI.out
    rw [List.take_length] at HI' ⊢
    clear HI HAS hlk
    generalize setI (ballsL l) = L at *
    go_wp2_with fail
    refine bodyPost_ret (v := .slice B L.length d) (by (try simp only [results, Tryz.results12]); (try go_simp)) rfl ⟨?_, ?_⟩
    · exact HB2.out
    · exact ⟨B, d, rfl, HI'.1, HI'.2.1, HF2.out⟩
theorem ralone_val {m : Mt} {v : List V2} {k : Int} (hp : PermM m v.length) (hv : v.all (nearB 1048576) = true) (h0 : 0 ≤ k) (h1 : k < v.length) : Val (raloneR m v k) := by
 have hao := (alone_ok hp hv h0 h1).1
 unfold aloneR at hao
 unfold raloneR
 split
 · rename_i h; rw [if_pos h] at hao; exact hao
 · rename_i h
   rw [if_neg h] at hao
   split
   · rename_i h2; rw [if_pos h2] at hao; exact hao
   · rename_i h2
     rw [if_neg h2] at hao
     split
     · rename_i h3
       have na := near_get hv hp.a0 hp.a1
       obtain ⟨hl, hd⟩ := stat_lens (v.getD m.a.toNat (0, 0)).1 (v.getD m.a.toNat (0, 0)).2 m.w1 m.w2 m.n1 m.n2 m.e m.g
       have hd := hd (permB_of na hp.w hp.nn) hp.e hp.g
       have hk := within_bd2 hp.k
       have hlk : Lens (m.k1, m.k2, 1) := lens_vec ⟨hk.1, hk.2.1⟩ hk.2.2
       have hdd : 0 < (statR (v.getD m.a.toNat (0, 0)).1 (v.getD m.a.toNat (0, 0)).2 m.w1 m.w2 m.n1 m.n2 m.e m.g).2.2 * (m.k1, m.k2, (1 : Int)).2.2 := by simp only; omega
       obtain ⟨q1, q2, q3, q4⟩ := sumR_lens hl hlk hdd
       exact ⟨q1, Nat.le_trans q2 (by omega), Nat.le_trans q3 (by omega), Nat.le_trans q4 (by omega)⟩
     · rename_i h3; rw [if_neg h3] at hao; exact hao
theorem ralls_ok {l : List Mt} {v : List V2} (hp : ∀ m ∈ l, PermM m v.length) (hv : v.all (nearB 1048576) = true) {k : Int} (h0 : 0 ≤ k) (h1 : k < v.length) : (∀ r ∈ (effL l v).map (fun m => raloneR m v k), Val r) ∧ meanR ((effL l v).map fun m => raloneR m v k) = meanR ((effL l v).map fun m => aloneR m v k) :=
 ⟨fun r hr => by
  obtain ⟨m, hm, rfl⟩ := List.mem_map.1 hr
  exact ralone_val (hp m (List.mem_filter.1 hm).1) hv h0 h1, (mean_sameQ _ fun m hm => alone_same (hp m (List.mem_filter.1 hm).1) hv h0 h1).symm⟩
theorem run_copy_void {W : World} {t : TypeId} {d : Nat} : (Builtin.append_ #[23, 23] t #[.slice none 0 0, .slice none 0 d]).run Tryz.prog W = .ok (.slice none 0 0) W := by
 simp [Builtin.append_, run_underlying Tryz.underlying23, sizeOf, Builtin.lenOf, Builtin.firstCells]
theorem infV' : (Tryz.prog.info? 38).map (fun i => (i.zero, i.size, i.bytes)) = some (some (.agg #[.int .i64 0, .int .i64 0]), 2, 16) := by kernel_rfl
theorem wpList_copy {w : World} {ops : Array Oper} {rest : List Oper} {o : Oper} {a : Act} {Q : Exit → Act → World → Prop} (hgd : o.guard = none) (s x : Operand)
  (ho : o.op = .call { callee := .builtin .append, args := #[s, x], argTypes := #[23, 23] }) (hs : a.eval s = .slice none 0 0) (v : List V2) (B : Option Addr) (d : Nat) (hx : a.eval x = .slice B v.length d) (hV : VAt w B v) (hl : v.length ≤ 1000)
  (h : ∀ A c w', OwnW w' w.heap.size A c v → w.grownBy w' none → wpList Tryz.prog ops Q rest (a.put o.dst (.slice A v.length c)) w') : wpList Tryz.prog ops Q (o :: rest) a w := by
 refine wpList_plain hgd fun K hK => ?_
 obtain ⟨i, hi, hz, hsi, hb⟩ := info_parts infV'
 have key : ∃ A c w', (Builtin.append_ #[23, 23] o.type #[.slice none 0 0, .slice B v.length d]).run Tryz.prog w = .ok (.slice A v.length c) w' ∧ OwnW w' w.heap.size A c v ∧ w.grownBy w' none := by
  rcases B with _ | ad
  · have hv : v = [] := by
     cases v with
     | nil => rfl
     | cons x v => obtain ⟨g, o, e, _⟩ := hV 0 x rfl; cases e
    subst hv
    exact ⟨none, 0, w, run_copy_void, World.ownsRow_nil _ _ _ _, ⟨rfl, rfl, rfl, Nat.le_refl _, fun _ _ _ => rfl⟩⟩
  · obtain ⟨v', w', hrun, h2, h3, _⟩ := run_append_own_at (P := Tryz.prog) w w.heap.size 23 o.type 38 i _ 2 16 Tryz.underlying23 hi hz hsi hb rfl (by decide) (.slice none 0 0) 0 [] (World.ownsRow_nil _ _ _ _) ad v.length d (flatV v) (by rw [flatV_len]) (fun j u hu => by
     have hj : j < v.length * 2 := by have := (List.getElem?_eq_some_iff.1 hu).1; rw [flatV_len] at this; exact this
     obtain ⟨x, hxx⟩ : ∃ x, v[j / 2]? = some x := ⟨v[j / 2]'(by omega), by simp⟩
     obtain ⟨g, o, e, hg, c0, c1⟩ := hV _ x hxx
     simp only [Option.some.injEq] at e
     subst e
     have h1 := flatV_get (j := j % 2) hxx (by omega)
     rw [show j / 2 * 2 + j % 2 = j by omega, hu] at h1
     rw [show (⟨g, o, none⟩ : Addr).add j = ⟨g, o + j, none⟩ by unfold Addr.add; split <;> simp_all]
     rcases (by omega : j % 2 = 0 ∨ j % 2 = 1) with e0 | e0
     · rw [e0] at h1
       rw [show o + j = o + j / 2 * 2 by omega, c0, h1]; rfl
     · rw [e0] at h1
       rw [show o + j = o + j / 2 * 2 + 1 by omega, c1, h1]; rfl) (fun u hu => by
     obtain ⟨j, hj⟩ := List.getElem?_of_mem hu
     have hjl : j < v.length * 2 := by have := (List.getElem?_eq_some_iff.1 hj).1; rw [flatV_len] at this; exact this
     obtain ⟨x, hxx⟩ : ∃ x, v[j / 2]? = some x := ⟨v[j / 2]'(by omega), by simp⟩
     have h1 := flatV_get (j := j % 2) hxx (by omega)
     rw [show j / 2 * 2 + j % 2 = j by omega, hj] at h1
     rcases (by omega : j % 2 = 0 ∨ j % 2 = 1) with e0 | e0 <;> (rw [e0] at h1; cases h1; rfl)) (by unfold maxLen; omega) (by omega) (Nat.le_refl _)
    rw [Nat.zero_add, List.nil_append] at h2
    obtain ⟨A, c', rfl⟩ := own_slice h2
    exact ⟨A, c', w', hrun, h2, h3⟩
 obtain ⟨A, c, w', hrun, h2, h3⟩ := key
 unfold Oper.wp execOp
 simp only [ho, resolve, invoke, builtin, Sem.run_bind, Sem.run_pure, Result.andThen_ok, List.map_toArray, List.map_cons, List.map_nil, hs, hx, hrun]
 exact hK _ _ (h A c w' h2 h3)
theorem iat_store {W : World} {A : Option Addr} {l : List Int} (h : IAt W A l) {p : Addr} {u : Value} (hn : ∀ ad : Addr, A = some ad → ¬ ad.block = p.block) : IAt (W.setCell p u) A l := fun k x hx => by
 obtain ⟨g, o, hA, hg, hc⟩ := h k x hx
 have hne := hn _ hA
 simp only at hne
 have hne' : ¬ p.block = g := fun e => hne e.symm
 refine ⟨g, o, hA, by simpa using hg, ?_⟩
 obtain ⟨pb, po, ps⟩ := p
 simp only at hne hne'
 go_simp
theorem rresolve_any (l : List Mt) (A : Option Addr) (c : Nat) (v : List V2) (B : Option Addr) (d : Nat) (w : World) (hM : MAt w A l) (hV : VAt w B v) :
  Calls Tryz.prog 7 #[.slice A l.length c, .slice B v.length d] w (RsvOut (resR l v) w) := by
 have HM := hQ0 hM
 have HV := hQ0 hV
 have kf := fun w' (h : Below w.heap.size w w') => fits_any l A c v B d w' (hM.below h (Nat.le_refl _)) (hV.below h (Nat.le_refl _))
 rw [← fits_code] at kf
 by_cases hok : (resR l v).2.2 = 0
 case neg =>
  obtain ⟨e1, e2⟩ := resR_err hok
  obtain ⟨R, hR⟩ : ∃ R, R = resR l v := ⟨_, rfl⟩
  rw [← hR] at kf hok e1 e2 ⊢
  obtain ⟨o1, ch, code⟩ := R
  simp only at kf hok e1 e2
  subst e1 e2
  have KF := hQ0 kf
  have hc1 : (code != 0) = true := by rw [bne_iff_ne]; exact hok
  clear hM hV kf hR hok
  go_enter Tryz.func7, Tryz.ntmps7; (try simp only [List.append_eq, List.cons_append, List.nil_append])
  go_wp2_with fail
  (go_at_call 27; refine (KF.out _ (Below.refl _ _)).mono ?_; rintro e w1 ⟨rfl, hb_w1⟩; have hz_w1 := hb_w1.size; (try simp at hz_w1); skip)
  go_wp2_with fail
  refine bodyPost_ret (v := .tuple #[.slice none 0 0, .bool false, .int .i64 code]) (by (try simp only [results, Tryz.results7]); (try go_simp)) rfl ⟨?_, ?_⟩
  · ((with_reducible (repeat (first | exact bR _ _ | apply bS | apply bA | apply bD | refine bT ?_ (by assumption) ?_ | refine bO (by assumption) ?_ ?_))) <;> (first | omega | (simp <;> omega)))
  · exact ⟨none, 0, rfl, VAt.nil _ _⟩
 case pos =>
  rw [hok] at kf
  obtain ⟨hsz, hva, hpl⟩ := resR_ok hok
  have l1 : l.length ≤ 16 := by omega
  have l2 : v.length ≤ 64 := by omega
  have HR := hQ0 (resR_val hsz hva hpl)
  have HVA := hQ0 hva
  have HPL := hQ0 hpl
  rw [HR.out]
  have kt := fun (m : Mt) (w' : World) (h : Below w.heap.size w w') (h1 : -1 ≤ m.b) (h2 : m.b < v.length) => rother_any m v B d w' (hV.below h (Nat.le_refl _)) h1 h2
  have ka := fun (a b c d e f : Int) (w : World) => rapproaches_any a b c d e f w
  have KF := hQ0 kf
  have KT := hQ0 kt
  have KA := hQ0 ka
  clear hM hV kf hok hsz hva hpl kt ka
  go_enter Tryz.func7, Tryz.ntmps7; (try simp only [List.append_eq, List.cons_append, List.nil_append])
  go_wp2_with fail
  (go_at_call 27; refine (KF.out _ (Below.refl _ _)).mono ?_; rintro e w1 ⟨rfl, hb_w1⟩; have hz_w1 := hb_w1.size; (try simp at hz_w1); skip)
  have HB1 := hQ0 (show Below w.heap.size w w1 by ((with_reducible (repeat (first | exact bR _ _ | apply bS | apply bA | apply bD | refine bT ?_ (by assumption) ?_ | refine bO (by assumption) ?_ ?_))) <;> (first | omega | (simp <;> omega))))
  clear hb_w1 KF
  go_wp2_with fail
  go_loopw [8, 9] (fun t8 t9 wr => ∃ (k : Nat) (E : Option Addr) (q : Nat), k ≤ l.length ∧ t9 = .int .i64 k ∧ t8 = .slice E (effL (l.take k) v).length q ∧ Hid (OwnMr wr w1.heap.size E q (effL (l.take k) v) ∧ Below w1.heap.size w1 wr)) (fun _ t9 _ => l.length - (intOf t9).toNat)
  case atStart => exact ⟨0, none, 0, by omega, rfl, rfl, hQ0 ⟨OwnMr.nil _ _, Below.refl _ _⟩⟩
  case round =>
   obtain ⟨k, E, q, hk, rfl, rfl, HI⟩ := hrel
   obtain ⟨w2, rfl⟩ : ∃ z, z = wr := ⟨_, rfl⟩
   have HB2 := hQ0 (HB1.out.trans (HI.out.2.mono (by have := HB1.out.size; omega)))
   have k1 : (0 : Int) ≤ (k : Int) := by omega
   have hz12 : w1.heap.size ≤ w2.heap.size := HI.out.2.size
   by_cases hkl : k < l.length
   · have k2 : (k : Int) < (l.length : Int) := by omega
     obtain ⟨m, hm⟩ : ∃ m, l[k]? = some m := ⟨l[k], by simp⟩
     obtain ⟨gm, om, rfl, hgm, m0, m1, m2, m3, m4, m5, m6, m7, m8, m9⟩ := (HM.out.below HB2.out (Nat.le_refl _)) k m hm
     have hP := HPL.out m (List.mem_of_getElem? hm)
     obtain ⟨ga, oa, rfl, hga, a0, a1⟩ := vat_cell (HV.out.below HB2.out (Nat.le_refl _)) hP.a0 hP.a1
     have i1 := hP.a0
     have i2 := hP.a1
     have kt := fun w' h => KT.out m w' h hP.b0 hP.b1
     have ka := fun w' => KA.out (v.getD m.a.toNat (0, 0)).1 (v.getD m.a.toNat (0, 0)).2 (surfM m v).1 (surfM m v).2 m.n1 m.n2 w'
     obtain ⟨ap, hap⟩ : ∃ b, b = apprM v m := ⟨_, rfl⟩
     rw [show apprB (v.getD m.a.toNat (0, 0)).1 (v.getD m.a.toNat (0, 0)).2 (surfM m v).1 (surfM m v).2 m.n1 m.n2 = ap by rw [hap]; rfl] at ka
     have HTK := hQ0 (effL_take (v := v) hm)
     rw [← hap] at HTK
     generalize (v.getD m.a.toNat (0, 0)).1 = va1 at *
     generalize (v.getD m.a.toNat (0, 0)).2 = va2 at *
     generalize (surfM m v).1 = s1' at *
     generalize (surfM m v).2 = s2' at *
     have KTM := hQ0 kt
     have KAM := hQ0 ka
     have hel := effL_len (l.take k) v
     rw [List.length_take] at hel
     generalize effL (l.take k) v = L at *
     clear kt ka hap hP hm
     obtain ⟨ma, mb, n1, n2, x1, x2, y1, y2, e, f⟩ := m
     simp only [Mt.v] at *
     go_wp2_with fail
     refine wp_region_warm (Own w2.heap.size w2) (by kernel_rfl) (by kernel_rfl) (Own.refl (Nat.le_refl _)).drew ?_
     repeat (first | (refine wpWarm_step_off rfl (fun K hK => ?_); (go_simp; refine hK _ ?_; clear hK K)) | (apply wpWarm_step rfl; (focus (intro W' hS; have hcS := hS.cells; go_simp; (first | done | exact rfl | exact ⟨rfl, hS⟩ | (go_at_call 28; exact (KTM.out _ (HB2.out.trans (hS.2.mono (by have := HB2.out.size; omega)))).mono (fun _ _ h => ⟨h.1, hS.call h.2⟩)) | (go_at_call 13; exact (KAM.out _).mono (fun _ _ h => ⟨h.1, hS.call h.2⟩)) | (go_simp; exact rfl)))); (intro K hK; go_simp; (try go_bits); refine hK _ ?_; clear hK K)) | (apply wpWarm_step_on rfl; (focus (intro W' hS; have hcS := hS.cells; go_simp; (first | done | exact rfl | exact ⟨rfl, hS⟩ | (go_at_call 28; exact (KTM.out _ (HB2.out.trans (hS.2.mono (by have := HB2.out.size; omega)))).mono (fun _ _ h => ⟨h.1, hS.call h.2⟩)) | (go_at_call 13; exact (KAM.out _).mono (fun _ _ h => ⟨h.1, hS.call h.2⟩)) | (go_simp; exact rfl)))); (intro K hK; go_simp; (try go_bits); refine hK _ ?_; clear hK K)))
     (refine wpWarm_nil ?_; intro w4 hO; have hz_w4 := hO.1; have hb_w4 := hO.2; clear hO; skip)
     have HB4 := hQ0 (HB2.out.trans (hb_w4.mono (by have := HB2.out.size; omega)))
     have HC4 := hQ0 (HI.out.2.trans (hb_w4.mono (by omega)))
     have HO4 := hQ0 (HI.out.1.bel hb_w4 (Nat.le_refl _))
     cases ap
     · clear hb_w4
       go_wp2_with fail
       go_roundw
       case rel =>
        have e1 : effL (l.take (k + 1)) v = L := by rw [HTK.out, if_neg (by decide), List.append_nil]
        exact ⟨k + 1, E, q, by omega, by go_num, by rw [e1], hQ0 ⟨by rw [e1]; exact HO4.out, HC4.out⟩⟩
       case measure => simp [intOf]; omega
     · have p0 := (hb_w4.cell (p := ⟨gm, om + k * 10, none⟩) hgm).trans m0
       have p1 := (hb_w4.cell (p := ⟨gm, om + k * 10 + 1, none⟩) hgm).trans m1
       have p2 := (hb_w4.cell (p := ⟨gm, om + k * 10 + 2, none⟩) hgm).trans m2
       have p3 := (hb_w4.cell (p := ⟨gm, om + k * 10 + 3, none⟩) hgm).trans m3
       have p4 := (hb_w4.cell (p := ⟨gm, om + k * 10 + 4, none⟩) hgm).trans m4
       have p5 := (hb_w4.cell (p := ⟨gm, om + k * 10 + 5, none⟩) hgm).trans m5
       have p6 := (hb_w4.cell (p := ⟨gm, om + k * 10 + 6, none⟩) hgm).trans m6
       have p7 := (hb_w4.cell (p := ⟨gm, om + k * 10 + 7, none⟩) hgm).trans m7
       have p8 := (hb_w4.cell (p := ⟨gm, om + k * 10 + 8, none⟩) hgm).trans m8
       have p9 := (hb_w4.cell (p := ⟨gm, om + k * 10 + 9, none⟩) hgm).trans m9
       have hgm4 : gm < w4.heap.size := by omega
       have hz4 : w1.heap.size ≤ w4.heap.size := HC4.out.size
       clear hb_w4 m0 m1 m2 m3 m4 m5 m6 m7 m8 m9
       go_wp2_with (at_builtin; go_must (refine wpList_append_one rfl _ _ 29 72 _ 10 80 rfl Tryz.underlying29 infMr rfl (by decide) (by decide) w1.heap.size _ L.length (flatM L) (Mt.cells ⟨ma, mb, n1, n2, x1, x2, y1, y2, e, f⟩) rfl (OwnMr.bel HO4.out (show Below w4.heap.size w4 _ by ((with_reducible (repeat (first | exact bR _ _ | apply bS | apply bA | apply bD | refine bT ?_ (by assumption) ?_ | refine bO (by assumption) ?_ ?_))) <;> (first | omega | (simp <;> omega)))) (Nat.le_refl _)) _ 1 rfl rfl (cell10 (m := ⟨ma, mb, n1, n2, x1, x2, y1, y2, e, f⟩) (by go_simp) (by go_simp) (by go_simp) (by go_simp) (by go_simp) (by go_simp) (by go_simp) (by go_simp) (by go_simp) (by go_simp)) one10 (by omega) (by simp; omega) ?_))
       intro v1' w6 hown6 hg6 _
       obtain ⟨P, hBP, hgP⟩ : ∃ P : World, Below w4.heap.size w4 P ∧ P.grownBy w6 (Value.ownBlock (.slice E L.length q)) := ⟨_, (by ((with_reducible (repeat (first | exact bR _ _ | apply bS | apply bA | apply bD | refine bT ?_ (by assumption) ?_ | refine bO (by assumption) ?_ ?_))) <;> (first | omega | (simp <;> omega)))), hg6⟩
       obtain ⟨E6, q6, rfl, ho6⟩ := ownmr_snoc hown6
       have HO6 := hQ0 ho6
       have HB6 := hQ0 ((HC4.out.trans (hBP.mono hz4)).grown hgP (by have := hBP.size; omega) (HO4.out.fresh))
       have e1 : effL (l.take (k + 1)) v = L ++ [⟨ma, mb, n1, n2, x1, x2, y1, y2, e, f⟩] := by rw [HTK.out, if_pos (by first | rfl | trivial)]
       have HE1 := hQ0 e1
       clear hown6 ho6 hg6 hBP hgP e1 p0 p1 p2 p3 p4 p5 p6 p7 p8 p9
       go_wp2_with fail
       go_roundw
       case rel => exact ⟨k + 1, E6, q6, by omega, by go_num, by rw [HE1.out], hQ0 ⟨by rw [HE1.out]; exact HO6.out, HB6.out⟩⟩
       case measure => simp [intOf]; omega
   · obtain rfl : k = l.length := by omega
     have HI' := HI.out
     rw [List.take_length] at HI'
     have HBI := hQ0 (fun b (hb : b ∈ ballsE l v) => balls_in HPL.out hb)
     have hel := effL_len l v
     have HPE := hQ0 (show ∀ m ∈ effL l v, PermM m v.length from fun m hm => HPL.out m (List.mem_filter.1 hm).1)
     have HAP := hQ0 (show ∀ m ∈ effL l v, apprM v m = true from fun m hm => (List.mem_filter.1 hm).2)
     have HAO := hQ0 (fun (b : Int) h0 h1 => alls_ok (k := b) HPL.out HVA.out h0 h1)
     have HRO := hQ0 (fun (b : Int) h0 h1 => ralls_ok (k := b) HPL.out HVA.out h0 h1)
     have HBE := hQ0 (show ballsE l v = setI (ballsL (effL l v)) from rfl)
     rw [List.take_length]
     generalize ballsE l v = bs at *
     generalize effL l v = F at *
     have hbl : bs.length ≤ 64 := by rw [HBE.out]; have h1 := setI_len (ballsL F); have h2 := ballsL_len F; omega
     have HE := hQ0 HI'.1.mat
     have hz12 : w1.heap.size ≤ w2.heap.size := HI'.2.size
     have kb := fun w' (h : Below w2.heap.size w2 w') => rballs_any F E q w' (HE.out.below h (Nat.le_refl _)) (by omega)
     rw [← HBE.out] at kb
     have KB := hQ0 kb
     clear kb HI' HI KT KA HM
     go_wp2_with (at_builtin; go_must (refine wpList_copy rfl _ _ rfl rfl v B d rfl (HV.out.below HB2.out (Nat.le_refl _)) (by omega) ?_))
     intro O qo w3 ho3 hg3
     have HB3 := hQ0 ((Below.refl w2.heap.size w2).grown hg3 (Nat.le_refl _) (fun k hk => by cases hk))
     have HO3 := hQ0 ho3
     have HOG := hQ0 (show 0 < v.length → ∃ go, O = some ⟨go, 0, none⟩ ∧ w2.heap.size ≤ go ∧ go < w3.heap.size from fun h => by
      rcases own_formS HO3.out with ⟨hn, _⟩ | ⟨_, g, c', hv', _, hg, hb⟩
      · omega
      · simp only [Value.slice.injEq, true_and] at hv'
        exact ⟨g, hv'.1, hb, hg⟩)
     clear hg3 ho3
     go_wp2_with fail
     (go_at_call 12; refine (KB.out _ HB3.out).mono ?_; rintro e w4 ⟨hb_w4, G, qg, rfl, hg4, _, hf4⟩; have hz_w4 := hb_w4.size; (try simp at hz_w4); skip)
     have HB4 := hQ0 (HB3.out.trans (hb_w4.mono (by have := HB3.out.size; omega)))
     have HO4 := hQ0 (HO3.out.bel hb_w4 (Nat.le_refl _))
     have HG4 := hQ0 hg4
     have HGF := hQ0 hf4
     have hz3 := HB3.out.size
     clear hb_w4 hg4 hf4 KB
     go_wp2_with fail
     go_loopw [12, 13] (fun t12 t13 wr => ∃ (j : Nat), j ≤ bs.length ∧ t13 = .int .i64 j ∧ t12 = .bool (chgV F v (bs.take j)) ∧ Hid (OwnW wr w2.heap.size O qo (putV F v (bs.take j) v) ∧ IAt wr G bs ∧ Below w2.heap.size w2 wr ∧ w3.heap.size ≤ wr.heap.size)) (fun _ t13 _ => bs.length - (intOf t13).toNat)
     case atStart => exact ⟨0, by omega, rfl, rfl, hQ0 ⟨HO4.out, HG4.out, HB4.out, hz_w4⟩⟩
     case round =>
      clear HO4 HG4 HB4 HO3 HB3
      obtain ⟨j, hj, rfl, rfl, HJ⟩ := hrel
      obtain ⟨w5, rfl⟩ : ∃ z, z = wr := ⟨_, rfl⟩
      have j1 : (0 : Int) ≤ (j : Int) := by omega
      by_cases hjl : j < bs.length
      · have j2 : (j : Int) < (bs.length : Int) := by omega
        obtain ⟨b, hb⟩ : ∃ b, bs[j]? = some b := ⟨bs[j], by simp⟩
        obtain ⟨b0, b1, hF1⟩ := HBI.out b (List.mem_of_getElem? hb)
        obtain ⟨gb, ob, rfl, hgb, cb⟩ := HJ.out.2.1 j b hb
        obtain ⟨gv, ov, rfl, hgv, v0, v1⟩ := vat_cell HV.out b0 b1
        have HB5 := hQ0 (HB2.out.trans (HJ.out.2.2.1.mono (by have := HB2.out.size; omega)))
        have hvl : 0 < v.length := by omega
        obtain ⟨go, hOO, hgo, hgo2⟩ := HOG.out hvl
        subst hOO
        have hgbf : w3.heap.size ≤ gb := HGF.out ⟨gb, ob, none⟩ rfl
        have HTA := hQ0 (putV_take (l := F) (v := v) (o := v) hb)
        have HTC := hQ0 (chgV_take (l := F) (v := v) hb)
        have kal := fun (m : Mt) (hp : PermM m v.length) (hap : apprM v m = true) (w' : World) (h : Below w5.heap.size w5 w') => ralone_any m v (some ⟨gv, ov, none⟩) d b w' (HV.out.below (HB5.out.trans (h.mono (by have := HB5.out.size; omega))) (Nat.le_refl _)) hp HVA.out b0 b1 (apprM_s hap) (apprM_t hap)
        have KAL := hQ0 kal
        have hPl : (putV F v (bs.take j) v).length = v.length := putV_len _ _ _ _
        have HPl := hQ0 hPl
        clear hb kal hPl
        go_wp2_with fail
        go_loopw [14, 15] (fun t14 t15 wr => ∃ (k : Nat) (A' : Option Addr) (c' : Nat) (xs : List Value), k ≤ F.length ∧ t15 = .int .i64 k ∧ t14 = .slice A' ((F.take k).map fun m => raloneR m v b).length c' ∧ Hid (RsOwn wr w5.heap.size A' c' ((F.take k).map fun m => raloneR m v b) xs ∧ Below w5.heap.size w5 wr)) (fun _ t15 _ => F.length - (intOf t15).toNat)
        case atStart => exact ⟨0, none, 0, [], by omega, rfl, rfl, hQ0 ⟨RsOwn.nil _ _, Below.refl _ _⟩⟩
        case round =>
         obtain ⟨k, A', c', xs, hk, rfl, rfl, HK⟩ := hrel
         obtain ⟨w6, rfl⟩ : ∃ z, z = wr := ⟨_, rfl⟩
         have k1 : (0 : Int) ≤ (k : Int) := by omega
         have HB6 := hQ0 (HJ.out.2.2.1.trans (HK.out.2.mono (by have := HJ.out.2.2.1.size; omega)))
         have hz56 := HK.out.2.size
         by_cases hkl : k < F.length
         · have k2 : (k : Int) < (F.length : Int) := by omega
           obtain ⟨m, hm⟩ : ∃ m, F[k]? = some m := ⟨F[k], by simp⟩
           obtain ⟨gm, om, rfl, hgm, m0, m1, m2, m3, m4, m5, m6, m7, m8, m9⟩ := (HE.out.below HB6.out (Nat.le_refl _)) k m hm
           have ka := fun w' h => KAL.out m (HPE.out m (List.mem_of_getElem? hm)) (HAP.out m (List.mem_of_getElem? hm)) w' h
           have HTK := hQ0 (show ((F.take (k + 1)).map fun m => raloneR m v b) = ((F.take k).map fun m => raloneR m v b) ++ [raloneR m v b] from map_take_suc (f := fun m => raloneR m v b) hm)
           have hml : ((F.take k).map fun m => raloneR m v b).length ≤ 16 := by rw [List.length_map, List.length_take]; omega
           have cb6 : w6.cell? ⟨gb, ob + j, none⟩ = some (.int .i64 b) := (HK.out.2.cell (p := ⟨gb, ob + j, none⟩) hgb).trans cb
           have hgb6 : gb < w6.heap.size := by omega
           unfold TOut at ka
           generalize ((F.take k).map fun m => raloneR m v b) = L at *
           generalize raloneR m v b = r at *
           obtain ⟨r1, r2, r3⟩ := r
           have KA := hQ0 ka
           clear hm ka
           obtain ⟨ma, mb, n1, n2, x1, x2, y1, y2, e, f⟩ := m
           simp only [Mt.v] at *
           go_wp2_with fail
           (refine pin_wp (N := _) (Nat.le_refl _) (fun w7 hb_w7 hz_w7 => ?_); (try simp at hz_w7); skip); refine wp_region_floatQ w7.heap.size 12 [12, 13] (Nat.le_refl _) (fun _ => True) trivial Cl.tt (by kernel_rfl) (by kernel_rfl) ?_
           have n0 := (hb_w7.cell (p := ⟨gm, om + k * 10, none⟩) hgm).trans m0
           have n1' := (hb_w7.cell (p := ⟨gm, om + k * 10 + 1, none⟩) hgm).trans m1
           have n2' := (hb_w7.cell (p := ⟨gm, om + k * 10 + 2, none⟩) hgm).trans m2
           have n3 := (hb_w7.cell (p := ⟨gm, om + k * 10 + 3, none⟩) hgm).trans m3
           have n4 := (hb_w7.cell (p := ⟨gm, om + k * 10 + 4, none⟩) hgm).trans m4
           have n5 := (hb_w7.cell (p := ⟨gm, om + k * 10 + 5, none⟩) hgm).trans m5
           have n6 := (hb_w7.cell (p := ⟨gm, om + k * 10 + 6, none⟩) hgm).trans m6
           have n7 := (hb_w7.cell (p := ⟨gm, om + k * 10 + 7, none⟩) hgm).trans m7
           have n8 := (hb_w7.cell (p := ⟨gm, om + k * 10 + 8, none⟩) hgm).trans m8
           have n9 := (hb_w7.cell (p := ⟨gm, om + k * 10 + 9, none⟩) hgm).trans m9
           have cb7 := (hb_w7.cell (p := ⟨gb, ob + j, none⟩) hgb6).trans cb6
           have hgm7 : gm < w7.heap.size := by omega
           have hgb7 : gb < w7.heap.size := by omega
           have HB7 := hQ0 (HK.out.2.trans (hb_w7.mono hz56))
           have HR7 := hQ0 (HK.out.1.below hb_w7)
           have hz57 := HB7.out.size
           clear hb_w7 m0 m1 m2 m3 m4 m5 m6 m7 m8 m9 cb6 hgb6 hgm
           refine wpQI_start [0, 1, 2, 3, 4, 5, 6, 7, 8, 9] ?_; (iterate 10 (first | (refine wpQI_off (zA rfl) (by kernel_rfl) (by exact rfl) (fun K hK => ?_); go_simp; refine hK _ ?_; clear hK K) | ((first | apply wpQI_step (zA rfl) (by kernel_rfl) (by exact rfl) | apply wpQI_on (zA rfl) (by kernel_rfl) (by exact rfl)); (focus (intro W' hS; have hcS := hS.cells; go_simp; (iterate 2 (first | done | exact rfl | exact bB _ | go_simp)))); intro K hK; go_simp; (try go_bits); refine hK _ ?_; clear hK K))); refine wpQI_nil ?_
           apply wpQ_call (i := 10) (zA rfl) (by kernel_rfl) (by exact rfl); intro W hF hS; have hcS := hS.1.cells; go_simp; (go_at_call 29; refine (KA.out _ (HB7.out.trans (hS.1.2.mono HB7.out.size))).mono ?_; rintro e w8 ⟨hb_w8, u8, rfl, hu8⟩; refine XPost.mk _ (fun W => RAt W u8 (r1) (r2) (r3)) hb_w8 (hu8) (RAt.cl _ _ _ _) ?_); clear hb_w8 hcS hS hF
           intro K hK; go_simp; (try go_bits); refine hK _ ?_; clear hK K
           obtain ⟨spx, Apx, npx, cpx, spy, Apy, npy, cpy, spd, Apd, npd, cpd, rfl⟩ := RAt.val hu8
           clear hu8
           apply wpQ_fresh (i := 11) LInv.std (zA rfl) (by kernel_rfl) (fun g => Value.slice (some ⟨g, 0, none⟩) 1 1) (by exact rfl); (focus (intro W; go_simp; first | done | exact rfl | exact ⟨rfl, rfl⟩))
           intro g_11 hN_11 hG_11 K hK
           go_simp; refine hK _ ?_; clear hK K
           refine wpQ_done (by kernel_rfl) ?_
           intro w9 hF_w9 hSG
           have hz_w9 := hSG.1.1
           have hb_w9 := hSG.1.2
           have hB_11 := (hSG.2 _ (List.mem_cons_self ..)).2; simp only at hB_11; have hl_11 := (hSG.size (List.mem_cons_self ..)); simp only at hl_11
           have cc := cell_of_row w9 g_11 0 _ _ _ hB_11; simp only [List.getElem?_toArray, List.getElem?_cons_zero] at cc
           have cc := cell_of_row w9 g_11 1 _ _ _ hB_11; simp only [List.getElem?_toArray, List.getElem?_cons_zero, List.getElem?_cons_succ] at cc
           have cc := cell_of_row w9 g_11 2 _ _ _ hB_11; simp only [List.getElem?_toArray, List.getElem?_cons_zero, List.getElem?_cons_succ] at cc
           have cc := cell_of_row w9 g_11 3 _ _ _ hB_11; simp only [List.getElem?_toArray, List.getElem?_cons_zero, List.getElem?_cons_succ] at cc
           have cc := cell_of_row w9 g_11 4 _ _ _ hB_11; simp only [List.getElem?_toArray, List.getElem?_cons_zero, List.getElem?_cons_succ] at cc
           have cc := cell_of_row w9 g_11 5 _ _ _ hB_11; simp only [List.getElem?_toArray, List.getElem?_cons_zero, List.getElem?_cons_succ] at cc
           have fz : (∀ o, w9.frozen? ⟨g_11, o, none⟩ = false) := (fun o => frozen_of_row w9 g_11 o _ _ hB_11); have HH_11 := hQ0 hB_11; clear hB_11
           clear hSG
           skip
           (try simp only [List.filterMap_cons, List.filterMap_nil, List.getElem?_cons_succ, List.getElem?_cons_zero])
           have HV9 := hQ0 (show RAt w9 (.agg #[.bool spx, .slice Apx npx cpx, .bool spy, .slice Apy npy cpy, .bool spd, .slice Apd npd cpd]) (r1) (r2) (r3) from hF_w9)
           have HB9 := hQ0 (HB7.out.trans (hb_w9.mono hz57))
           have HR9 := hQ0 (HR7.out.below hb_w9)
           have hz59 := HB9.out.size
           clear hF_w9 hb_w9 n0 n1' n2' n3 n4 n5 n6 n7 n8 n9 cb7
           go_wp2_with (at_builtin; go_must (refine wpList_append_u rfl _ _ 52 46 _ 6 96 rfl Tryz.underlying52 infR rfl zuR (by decide) (by decide) w5.heap.size _ L.length xs [.bool spx, .slice Apx npx cpx, .bool spy, .slice Apy npy cpy, .bool spd, .slice Apd npd cpd] rfl HR9.out.1 _ 1 rfl rfl (cell6 (by go_simp) (by go_simp) (by go_simp) (by go_simp) (by go_simp) (by go_simp)) (by intro u hu; simp at hu; rcases hu with rfl | rfl | rfl | rfl | rfl | rfl <;> rfl) (by intro u hu x; simp at hu; rcases hu with rfl | rfl | rfl | rfl | rfl | rfl <;> simp) (by omega) (by omega) ?_))
           intro v1' w10 hown10 hg10 hk10
           obtain ⟨A8, c8, rfl, hrs8⟩ := RsOwn.snoc (r := (r1, r2, r3)) HR9.out HV9.out hown10 hk10
           have HRS8 := hQ0 hrs8
           have HB10 := hQ0 (HB9.out.grown hg10 (by omega) (fun b hb => (HR9.out.1.own.lt b hb).1))
           clear hg10 hk10 hown10 hrs8 HH_11 hG_11 hN_11
           go_wp2_with fail
           go_roundw
           case rel => exact ⟨k + 1, A8, c8, _, by omega, by go_num, by rw [HTK.out], hQ0 ⟨by rw [HTK.out]; exact HRS8.out, HB10.out⟩⟩
           case measure => simp [intOf]; omega
         · obtain rfl : k = F.length := by omega
           have HK' := HK.out
           rw [List.take_length] at HK' ⊢
           have HRA := hQ0 HK'.1.at
           have HB6' := hQ0 HK'.2
           obtain ⟨hval, hmean⟩ := HRO.out b b0 b1
           have hall := HAO.out b b0 b1
           have hmw := within_up (mean_within (by rw [List.length_map]; exact hF1) (fun r hr => ⟨(hall r hr).1.d, (hall r hr).2⟩)) (show (8388608 : Int) ≤ 1073741824 by omega)
           have HNV := hQ0 (show newV F v b = (clampR (meanR (F.map fun m => raloneR m v b)).1, clampR (meanR (F.map fun m => raloneR m v b)).2) from by rw [hmean]; rfl)
           rw [← hmean] at hmw
           have kt := fun w' (h : Below w6.heap.size w6 w') => rmean_ok (F.map fun m => raloneR m v b) A' c' w' (by rw [List.length_map]; exact hF1) (by rw [List.length_map]; omega) (HRA.out.below h) hval hmw
           clear hall HK HK' hmean hval hmw
           generalize (meanR (F.map fun m => raloneR m v b)).1 = mx at *
           generalize (meanR (F.map fun m => raloneR m v b)).2 = my at *
           generalize (F.map fun m => raloneR m v b) = L at *
           have KT := hQ0 kt
           have kl := fun w => limit_any mx w
           have kl2 := fun w => limit_any my w
           obtain ⟨X, hX⟩ : ∃ X, X = clampR mx := ⟨_, rfl⟩
           obtain ⟨Y, hY⟩ : ∃ Y, Y = clampR my := ⟨_, rfl⟩
           simp only [← hX] at kl
           simp only [← hY] at kl2
           rw [← hX, ← hY] at HNV
           have KL := hQ0 kl
           have KL2 := hQ0 kl2
           clear kt kl kl2 hX hY
           go_wp2_with fail
           (go_at_call 17; refine (KT.out _ (Below.refl _ _)).mono ?_; rintro e w7 ⟨rfl, hb_w7⟩; have hz_w7 := hb_w7.size; (try simp at hz_w7); skip)
           have HB7 := hQ0 (HB6'.out.trans (hb_w7.mono (by have := HB6'.out.size; omega)))
           have hz57 := HB7.out.size
           clear hb_w7
           go_wp2_with fail
           (refine pin_wp (N := _) (Nat.le_refl _) (fun w8 hb_w8 hz_w8 => ?_); (try simp at hz_w8); (with_reducible apply cal2 (b := w7.heap.size) hb_w8); (focus (go_simp; try exact ⟨rfl, rfl⟩)); intro cc cc fz hl); refine wp_region_floatQ w8.heap.size 13 [13] (Nat.le_refl _) (fun _ => True) trivial Cl.tt (by kernel_rfl) (by kernel_rfl) ?_
           have HB8 := hQ0 (HB7.out.trans ((show Below w7.heap.size w7 w8 by ((with_reducible (repeat (first | exact bR _ _ | apply bS | apply bA | apply bD | refine bT ?_ (by assumption) ?_ | refine bO (by assumption) ?_ ?_))) <;> (first | omega | (simp <;> omega)))).mono hz57))
           have cb8 := (HB8.out.cell (p := ⟨gb, ob + j, none⟩) hgb).trans cb
           have hgb8 : gb < w8.heap.size := by have := HB8.out.size; omega
           clear hb_w8
           refine wpQI_start [0, 1, 2, 3, 4, 5, 6] ?_; (iterate 7 (first | (refine wpQI_off (zA rfl) (by kernel_rfl) (by exact rfl) (fun K hK => ?_); go_simp; refine hK _ ?_; clear hK K) | ((first | apply wpQI_step (zA rfl) (by kernel_rfl) (by exact rfl) | apply wpQI_on (zA rfl) (by kernel_rfl) (by exact rfl)); (focus (intro W' hS; have hcS := hS.cells; go_simp; (iterate 2 (first | done | exact rfl | exact bB _ | go_simp)))); intro K hK; go_simp; (try go_bits); refine hK _ ?_; clear hK K))); refine wpQI_nil ?_
           refine wpQI_start [7] ?_; (iterate 1 (first | (refine wpQI_off (zA rfl) (by kernel_rfl) (by exact rfl) (fun K hK => ?_); go_simp; refine hK _ ?_; clear hK K) | ((first | apply wpQI_step (zA rfl) (by kernel_rfl) (by exact rfl) | apply wpQI_on (zA rfl) (by kernel_rfl) (by exact rfl)); (focus (intro W' hS; have hcS := hS.cells; go_simp; (first | done | exact rfl | exact ⟨rfl, Below.refl _ _⟩ | (go_at_call 30; exact (KL.out _).mono (fun _ _ h => ⟨h.1, h.2⟩)) | (go_simp; first | done | exact rfl | exact ⟨rfl, Below.refl _ _⟩)))); intro K hK; go_simp; (try go_bits); refine hK _ ?_; clear hK K))); refine wpQI_nil ?_
           refine wpQI_start [8, 9] ?_; (iterate 2 (first | (refine wpQI_off (zA rfl) (by kernel_rfl) (by exact rfl) (fun K hK => ?_); go_simp; refine hK _ ?_; clear hK K) | ((first | apply wpQI_step (zA rfl) (by kernel_rfl) (by exact rfl) | apply wpQI_on (zA rfl) (by kernel_rfl) (by exact rfl)); (focus (intro W' hS; have hcS := hS.cells; go_simp; (iterate 2 (first | done | exact rfl | exact bB _ | go_simp)))); intro K hK; go_simp; (try go_bits); refine hK _ ?_; clear hK K))); refine wpQI_nil ?_
           refine wpQI_start [10] ?_; (iterate 1 (first | (refine wpQI_off (zA rfl) (by kernel_rfl) (by exact rfl) (fun K hK => ?_); go_simp; refine hK _ ?_; clear hK K) | ((first | apply wpQI_step (zA rfl) (by kernel_rfl) (by exact rfl) | apply wpQI_on (zA rfl) (by kernel_rfl) (by exact rfl)); (focus (intro W' hS; have hcS := hS.cells; go_simp; (first | done | exact rfl | exact ⟨rfl, Below.refl _ _⟩ | (go_at_call 30; exact (KL2.out _).mono (fun _ _ h => ⟨h.1, h.2⟩)) | (go_simp; first | done | exact rfl | exact ⟨rfl, Below.refl _ _⟩)))); intro K hK; go_simp; (try go_bits); refine hK _ ?_; clear hK K))); refine wpQI_nil ?_
           refine wpQI_start [11, 12] ?_; (iterate 2 (first | (refine wpQI_off (zA rfl) (by kernel_rfl) (by exact rfl) (fun K hK => ?_); go_simp; refine hK _ ?_; clear hK K) | ((first | apply wpQI_step (zA rfl) (by kernel_rfl) (by exact rfl) | apply wpQI_on (zA rfl) (by kernel_rfl) (by exact rfl)); (focus (intro W' hS; have hcS := hS.cells; go_simp; (iterate 2 (first | done | exact rfl | exact bB _ | go_simp)))); intro K hK; go_simp; (try go_bits); refine hK _ ?_; clear hK K))); refine wpQI_nil ?_
           refine wpQ_done (by kernel_rfl) ?_
           intro w9 hF_w9 hSG
           have hz_w9 := hSG.1.1
           have hb_w9 := hSG.1.2
           clear hSG
           (with_reducible apply cel2 (b := w7.heap.size) hb_w9); ((try simp) <;> omega); omega; (iterate 2 (focus (go_simp; try exact rfl))); (intro o; go_simp); intro cc cc fz hl
           (try simp only [List.filterMap_cons, List.filterMap_nil, List.getElem?_cons_succ, List.getElem?_cons_zero])
           have HB9 := hQ0 (HB8.out.trans (hb_w9.mono (by have := HB8.out.size; omega)))
           have hz59 := HB9.out.size
           clear hb_w9 cb8
           have hO9 := HJ.out.1.bel HB9.out (Nat.le_refl _)
           obtain ⟨y1, y2, hy⟩ := near_sub (l := putV F v (bs.take j) v) (k := b.toNat) (by rw [HPl.out]; omega)
           have hat := hO9.vat _ _ hy
           obtain ⟨g', o', eg, hg', o0, o1⟩ := hat
           obtain ⟨rfl, rfl⟩ : go = g' ∧ 0 = o' := by simpa using eg
           have ofz : ∀ o, w9.frozen? ⟨go, o, none⟩ = false := fun o => World.ownsRow.frozenAt hO9 o
           rw [Nat.zero_add] at o0 o1
           simp only at o0 o1
           have hgv9 : gv < w9.heap.size := by have := HB5.out.size; omega
           have v0' : w9.cell? ⟨gv, ov + b.toNat * 2, none⟩ = _ := ((HB5.out.trans (HB9.out.mono (by have := HB5.out.size; omega))).cell (p := ⟨gv, ov + b.toNat * 2, none⟩) hgv).trans v0
           have v1' : w9.cell? ⟨gv, ov + b.toNat * 2 + 1, none⟩ = _ := ((HB5.out.trans (HB9.out.mono (by have := HB5.out.size; omega))).cell (p := ⟨gv, ov + b.toNat * 2 + 1, none⟩) hgv).trans v1
           have cb9 : w9.cell? ⟨gb, ob + j, none⟩ = some (.int .i64 b) := (HB9.out.cell (p := ⟨gb, ob + j, none⟩) hgb).trans cb
           have hgb9 : gb < w9.heap.size := by omega
           have hww := HB2.out.size
           have hne : ¬ gv = go := by omega
           have hne2 : ¬ go = gv := by omega
           have hne3 : ¬ gb = go := by omega
           have hne4 : ¬ go = gb := by omega
           have HST := hQ0 (OwnW.stored hO9 (k := b.toNat) (by rw [HPl.out]; omega) X Y)
           rw [← HNV.out, ← HTA.out] at HST
           clear hO9 hy eg
           have HVD := hQ0 (show v.getD b.toNat (0, 0) = ((v.getD b.toNat (0, 0)).1, (v.getD b.toNat (0, 0)).2) from rfl)
           generalize hch : chgV F v (bs.take j) = ch at *
           generalize (v.getD b.toNat (0, 0)).1 = p at *
           generalize (v.getD b.toNat (0, 0)).2 = q' at *
           have HI9 := hQ0 (iat_store (iat_store (HJ.out.2.1.below HB9.out (Nat.le_refl _)) (p := ⟨go, b.toNat * 2, none⟩) (u := .int .i64 X) (fun ad h => by cases h; exact hne3)) (p := ⟨go, b.toNat * 2 + 1, none⟩) (u := .int .i64 Y) (fun ad h => by cases h; exact hne3))
           have HB29 := hQ0 (HJ.out.2.2.1.trans (HB9.out.mono (by have := HJ.out.2.2.1.size; omega)))
           have hgo9 : go < w9.heap.size := hg'
           have h35 := HJ.out.2.2.2
           go_wp2_with fail
           clear hch
           (refine pin_wp (N := _) (Nat.le_refl _) (fun w10 hb_w10 hz_w10 => ?_); (try simp at hz_w10))
           have p0 : w10.cell? ⟨go, b.toNat * 2, none⟩ = some (.int .i64 X) := (hb_w10.cell (by simp; omega)).trans (by go_simp)
           have p1 : w10.cell? ⟨go, b.toNat * 2 + 1, none⟩ = some (.int .i64 Y) := (hb_w10.cell (by simp; omega)).trans (by go_simp)
           have q0 : w10.cell? ⟨gv, ov + b.toNat * 2, none⟩ = some (.int .i64 p) := (hb_w10.cell (by simp; omega)).trans (by go_simp)
           have q1 : w10.cell? ⟨gv, ov + b.toNat * 2 + 1, none⟩ = some (.int .i64 q') := (hb_w10.cell (by simp; omega)).trans (by go_simp)
           have cb10 : w10.cell? ⟨gb, ob + j, none⟩ = some (.int .i64 b) := (hb_w10.cell (by simp; omega)).trans (by go_simp)
           have HO10 := hQ0 (HST.out.bel hb_w10 (Nat.le_refl _))
           have HI10 := hQ0 (HI9.out.below hb_w10 (Nat.le_refl _))
           have HB10 := hQ0 (((HB29.out.setCell (p := ⟨go, b.toNat * 2, none⟩) hgo (.int .i64 X)).setCell (p := ⟨go, b.toNat * 2 + 1, none⟩) hgo (.int .i64 Y)).trans (hb_w10.mono (by have := HB29.out.size; simp; omega)))
           have hgo10 : go < w10.heap.size := by omega
           have hgv10 : gv < w10.heap.size := by omega
           have hgb10 : gb < w10.heap.size := by omega
           clear o0 o1 v0' v1' v0 v1 hb_w10 ofz cb cb9 hgb9 hg'
           have hcase : ch = true ∨ (ch = false ∧ ¬ X = p) ∨ (ch = false ∧ X = p ∧ ¬ Y = q') ∨ (ch = false ∧ X = p ∧ Y = q') := by
            cases ch
            · by_cases h1 : X = p
              · by_cases h2 : Y = q'
                · exact .inr (.inr (.inr ⟨rfl, h1, h2⟩))
                · exact .inr (.inr (.inl ⟨rfl, h1, h2⟩))
              · exact .inr (.inl ⟨rfl, h1⟩)
            · exact .inl rfl
           have HCC := hQ0 HTC.out
           rw [HNV.out, HVD.out] at HCC
           clear HTC HNV HVD HTA HST
           rcases hcase with rfl | ⟨rfl, hx1⟩ | ⟨rfl, rfl, hx1⟩ | ⟨rfl, rfl, rfl⟩
           all_goals
            refine wp_region_warm (Own w10.heap.size w10) (by kernel_rfl) (by kernel_rfl) (Own.refl (Nat.le_refl _)).drew ?_
            repeat (first | (refine wpWarm_step_off rfl (fun K hK => ?_); (go_simp; refine hK _ ?_; clear hK K)) | (apply wpWarm_step rfl; (focus (intro W' hS; have hcS := hS.cells; go_simp; (first | done | exact rfl | exact ⟨rfl, hS⟩ | (go_simp; exact rfl)))); (intro K hK; go_simp; (try go_bits); refine hK _ ?_; clear hK K)) | (apply wpWarm_step_on rfl; (focus (intro W' hS; have hcS := hS.cells; go_simp; (first | done | exact rfl | exact ⟨rfl, hS⟩ | (go_simp; exact rfl)))); (intro K hK; go_simp; (try go_bits); refine hK _ ?_; clear hK K)))
            (refine wpWarm_nil ?_; intro w11 hO; have hz_w11 := hO.1; have hb_w11 := hO.2; clear hO; skip)
            have HB11 := hQ0 (HB10.out.trans (hb_w11.mono (by have := HB10.out.size; omega)))
            have HO11 := hQ0 (HO10.out.bel hb_w11 (Nat.le_refl _))
            have HI11 := hQ0 (HI10.out.below hb_w11 (Nat.le_refl _))
            have hz311 : w3.heap.size ≤ w11.heap.size := by omega
            clear hb_w11 p0 p1 q0 q1 cb10
            go_wp2_with fail
            go_roundw
            case rel => exact ⟨j + 1, by omega, by go_num, by rw [HCC.out]; simp_all, hQ0 ⟨HO11.out, HI11.out, HB11.out, hz311⟩⟩
            case measure => simp [intOf]; omega
      · obtain rfl : j = bs.length := by omega
        have HJ' := HJ.out
        rw [List.take_length] at HJ' ⊢
        have HPl := hQ0 (show (putV F v bs v).length = v.length from putV_len _ _ _ _)
        have HO9 := hQ0 HJ'.1
        have HB9 := hQ0 (HB2.out.trans (HJ'.2.2.1.mono (by have := HB2.out.size; omega)))
        clear HJ HJ' HBI HAO HPE HRO
        go_wp2_with fail
        refine bodyPost_ret (v := .tuple #[.slice O v.length qo, .bool (chgV F v bs), .int .i64 0]) (by (try simp only [results, Tryz.results7]); (try go_simp)) rfl ⟨?_, ?_⟩
        · exact HB9.out
        · exact ⟨O, qo, by rw [HPl.out], HO9.out.vat⟩
theorem resolves_law (l : List Mt) (A : Option Addr) (c : Nat) (v : List V2) (B : Option Addr) (d : Nat) (w : World) (hM : MAt w A l) (hV : VAt w B v) :
  Calls Tryz.prog 3 #[.slice A l.length c, .slice B v.length d] w fun e w' => e = .returned (.bool true) ∧ Below w.heap.size w w' := by
 have HM := hQ0 hM
 have HV := hQ0 hV
 have ka := fun w => awake16_any w
 have KA := hQ0 ka
 clear ka hM hV
 by_cases hs : 30 < l.length ∨ 70 < v.length
 · have hcase : (30 < (l.length : Int)) ∨ (¬ 30 < (l.length : Int) ∧ 70 < (v.length : Int)) := by omega
   clear hs
   rcases hcase with h | ⟨h, h2⟩
   all_goals
    go_enter Tryz.func3, Tryz.ntmps3; (try simp only [List.append_eq, List.cons_append, List.nil_append])
    go_wp2_with fail
    (go_at_call 5; refine (KA.out _).mono ?_; rintro e w1 ⟨rfl, hb_w1⟩; have hz_w1 := hb_w1.size; (try simp at hz_w1); skip)
    go_wp2_with fail
    (go_at_call 5; refine (KA.out _).mono ?_; rintro e w2 ⟨rfl, hb_w2⟩; have hz_w2 := hb_w2.size; (try simp at hz_w2); skip)
    go_wp2_with fail
    go_ret
    exact ⟨rfl, by ((with_reducible (repeat (first | exact bR _ _ | apply bS | apply bA | apply bD | refine bT ?_ (by assumption) ?_ | refine bO (by assumption) ?_ ?_))) <;> (first | omega | (simp <;> omega)))⟩
 · have s1 : ¬ 30 < (l.length : Int) := by omega
   have s2 : ¬ 70 < (v.length : Int) := by omega
   have l1 : l.length ≤ 30 := by omega
   have l2 : v.length ≤ 70 := by omega
   have kr := fun w' (h : Below w.heap.size w w') => resolve_any l A c v B d w' (HM.out.below h (Nat.le_refl _)) (HV.out.below h (Nat.le_refl _))
   have km := fun w' (h : Below w.heap.size w w') => meetings_any l A c w' (HM.out.below h (Nat.le_refl _)) (by omega)
   have kq := fun (E : Option Addr) (q : Nat) (w' : World) (hE : MAt w' E l) (h : Below w.heap.size w w') => rresolve_any l E q v B d w' hE (HV.out.below h (Nat.le_refl _))
   have kb := fun w' (h : Below w.heap.size w w') => balls_any l A c w' (HM.out.below h (Nat.le_refl _)) (by omega)
   have kc := fun (E : Option Addr) (q : Nat) (w' : World) (hE : MAt w' E l) => rballs_any l E q w' hE (by omega)
   have hol : (resR l v).1.length ≤ 100 := by
    by_cases hc : (resR l v).2.2 = 0
    · have := (res_near hc).2; omega
    · rw [(resR_err hc).1]; simp
   have hbl : (setI (ballsL l)).length ≤ 100 := by have h1 := setI_len (ballsL l); have h2 := ballsL_len l; omega
   generalize resR l v = R at *
   generalize setI (ballsL l) = bs at *
   obtain ⟨o1, ch, code⟩ := R
   simp only at hol
   have KR := hQ0 kr
   have KM := hQ0 km
   have KQ := hQ0 kq
   have KB := hQ0 kb
   have KC := hQ0 kc
   have ksm := fun (A B : Option Addr) (c d : Nat) (w : World) h1 h2 => same_yes o1 A B c d w h1 h2 (by omega)
   have KSM := hQ0 ksm
   have kn := fun (A B : Option Addr) (c d : Nat) (w : World) h1 h2 => numbers_yes bs A B c d w h1 h2 (by omega)
   have KN := hQ0 kn
   have hcc : (ch == ch) = true := by simp
   have hee : (code == code) = true := by simp
   clear kr km kq kb kc ksm kn hs
   go_enter Tryz.func3, Tryz.ntmps3; (try simp only [List.append_eq, List.cons_append, List.nil_append])
   go_wp2_with fail
   (go_at_call 5; refine (KA.out _).mono ?_; rintro e w1 ⟨rfl, hb_w1⟩; have hz_w1 := hb_w1.size; (try simp at hz_w1); skip)
   have HB1 := hQ0 (show Below w.heap.size w w1 by ((with_reducible (repeat (first | exact bR _ _ | apply bS | apply bA | apply bD | refine bT ?_ (by assumption) ?_ | refine bO (by assumption) ?_ ?_))) <;> (first | omega | (simp <;> omega))))
   clear hb_w1
   go_wp2_with fail
   (go_at_call 6; refine (KR.out _ HB1.out).mono ?_; rintro e w2 ⟨hb_w2, O, qo, rfl, ho⟩; have hz_w2 := hb_w2.size; (try simp at hz_w2); skip)
   have HB2 := hQ0 (HB1.out.trans (hb_w2.mono HB1.out.size))
   have HO2 := hQ0 (show VAt w2 O o1 from ho)
   clear hb_w2 ho KR
   (try simp only)
   go_wp2_with fail
   (go_at_call 8; refine (KM.out _ HB2.out).mono ?_; rintro e w3 ⟨hb_w3, E, q, rfl, he⟩; have hz_w3 := hb_w3.size; (try simp at hz_w3); skip)
   have HB3 := hQ0 (HB2.out.trans (hb_w3.mono HB2.out.size))
   have HO3 := hQ0 (HO2.out.below hb_w3 (Nat.le_refl _))
   have HE3 := hQ0 he
   clear hb_w3 he HO2
   go_wp2_with fail
   (go_at_call 7; refine (KQ.out _ _ _ HE3.out HB3.out).mono ?_; rintro e w4 ⟨hb_w4, P, qp, rfl, hp⟩; have hz_w4 := hb_w4.size; (try simp at hz_w4); skip)
   have HB4 := hQ0 (HB3.out.trans (hb_w4.mono HB3.out.size))
   have HO4 := hQ0 (HO3.out.below hb_w4 (Nat.le_refl _))
   have HP4 := hQ0 (show VAt w4 P o1 from hp)
   clear hb_w4 hp HO3 HE3 KQ
   (try simp only)
   go_wp2_with fail
   (go_at_call 9; refine (KSM.out _ _ _ _ _ HO4.out HP4.out).mono ?_; rintro e w5 ⟨rfl, hb_w5⟩; have hz_w5 := hb_w5.size; (try simp at hz_w5); skip)
   have HB5 := hQ0 (HB4.out.trans (hb_w5.mono HB4.out.size))
   clear hb_w5 HO4 HP4 KSM
   go_wp2_with fail
   (go_at_call 11; refine (KB.out _ HB5.out).mono ?_; rintro e w6 ⟨hb_w6, X, qx, rfl, hx⟩; have hz_w6 := hb_w6.size; (try simp at hz_w6); skip)
   have HB6 := hQ0 (HB5.out.trans (hb_w6.mono HB5.out.size))
   have HX6 := hQ0 hx.iat
   clear hb_w6 hx KB
   go_wp2_with fail
   (go_at_call 8; refine (KM.out _ HB6.out).mono ?_; rintro e w7 ⟨hb_w7, E2, q2, rfl, he⟩; have hz_w7 := hb_w7.size; (try simp at hz_w7); skip)
   have HB7 := hQ0 (HB6.out.trans (hb_w7.mono HB6.out.size))
   have HX7 := hQ0 (HX6.out.below hb_w7 (Nat.le_refl _))
   have HE7 := hQ0 he
   clear hb_w7 he HX6
   go_wp2_with fail
   (go_at_call 12; refine (KC.out _ _ _ HE7.out).mono ?_; rintro e w8 ⟨hb_w8, Y, qy, rfl, hy, _, _⟩; have hz_w8 := hb_w8.size; (try simp at hz_w8); skip)
   have HB8 := hQ0 (HB7.out.trans (hb_w8.mono HB7.out.size))
   have HX8 := hQ0 (HX7.out.below hb_w8 (Nat.le_refl _))
   have HY8 := hQ0 hy
   clear hb_w8 hy HX7 HE7
   go_wp2_with fail
   (go_at_call 10; refine (KN.out _ _ _ _ _ HX8.out HY8.out).mono ?_; rintro e w9 ⟨rfl, hb_w9⟩; have hz_w9 := hb_w9.size; (try simp at hz_w9); skip)
   have HB9 := hQ0 (HB8.out.trans (hb_w9.mono HB8.out.size))
   clear hb_w9
   go_wp2_with fail
   go_ret
   exact ⟨rfl, HB9.out⟩
end Go.Proofs.YtgejdaincnclpaaGreat
namespace Go.Proofs.YtgejdaincnclpaaGreat.lawCR
open Go.ChangeShapes Go.WideShapes Go.ChangeAt Go.RowKit
set_option linter.unusedVariables false
theorem walk (w : World) (a0 : Option Addr) (len0 cap0 n0 : Nat) (w0 : RowIs Tryz.prog w n0 22 [.slice a0 len0 cap0]) (a1 : Option Addr) (len1 cap1 n1 : Nat) (w1 : RowIs Tryz.prog w n1 23 [.slice a1 len1 cap1]) :
  Calls Tryz.prog 3 #[.slice a0 len0 cap0, .slice a1 len1 cap1] w fun e w' => e = .returned (.bool true) ∧ Below w.heap.size w w' := by
 obtain ⟨hm, l, rfl, hM, _⟩ := meetings_open w0
 obtain ⟨_, v, rfl, hV, _⟩ := vs_open w1
 exact resolves_law l a0 cap0 v a1 cap1 w hM hV
theorem own : ownKnob Tryz.prog.godebug = none := by kernel_rfl
theorem laidOut : laidOutB Tryz.prog = true := by kernel_rfl
theorem lifted (os : Os) (started : os.Started) (H : Type) (enc : TypeId × Value → H) :
  ReturnsInHanded {} Tryz.checked os 3 .any (Rows.clusterResolvesSpec.pre6 enc Tryz.prog Tryz.f3 Rows.clusterResolvesRow.domain false) (Rows.clusterResolvesSpec.post enc Tryz.prog Tryz.f3 false true false false) := by
 refine returnsInHanded_of_change (C := Tryz.checked) own started (by kernel_rfl) Tryz.func3
  (ChangeSpec.witness6 (enc := enc) (C := Tryz.checked) false ⟨#[], #[.slice none 0 0, .slice none 0 0], []⟩ 8 (by kernel_rfl) (by kernel_rfl) (by kernel_rfl) (by kernel_rfl)) ?_
 intro W base args ds gs before hval0 hW hcnd _
 have hval : ∀ (j : Nat) t v, Tryz.f3.params[j]? = some t → args[j]? = some v → Value.okWide Tryz.prog W .any base t v := hval0
 have hW' := hW
 obtain ⟨p, q, hA0, hV, rfl, hfz, hnd⟩ := hW
 have hA : DataW.TrodAll enc Tryz.prog W 0 (fun _ => true) true Tryz.f3.params.toList args.toList ds p := hA0
 rw [Tryz.params3] at hA hval


 obtain ⟨v0, vs0, d0, ds0, p0, q0, hargs, rfl, rfl, h0, r0⟩ := trodAll_cons hA
 obtain ⟨v1, vs1, d1, ds1, p1, q1, rfl, rfl, rfl, h1, r1⟩ := trodAll_cons r0
 obtain ⟨rfl, rfl, rfl⟩ := trodAll_nil r1
 obtain rfl : args = #[v0, v1] := by cases args; simp_all
 obtain ⟨rfl, rfl⟩ := trodVars_none hV
 obtain ⟨a0, len0, cap0, rfl⟩ := okWide_slice Tryz.underlying22 (hval 0 22 v0 rfl rfl)
 have k0 := h0
 have lt0 : ∀ x ∈ p0, x.block < W.heap.size := by obtain ⟨m, hm⟩ := k0; exact DataW.trod_lt m _ _ _ hm
 obtain ⟨n0, w0⟩ : ∃ n, RowIs Tryz.prog W n 22 [.slice a0 len0 cap0] := by obtain ⟨fuel, hf⟩ := h0; exact ⟨fuel, rowIs_of_trod fuel _ _ _ hf⟩
 obtain ⟨a1, len1, cap1, rfl⟩ := okWide_slice Tryz.underlying23 (hval 1 23 v1 rfl rfl)
 have k1 := h1
 have lt1 : ∀ x ∈ p1, x.block < W.heap.size := by obtain ⟨m, hm⟩ := k1; exact DataW.trod_lt m _ _ _ hm
 obtain ⟨n1, w1⟩ : ∃ n, RowIs Tryz.prog W n 23 [.slice a1 len1 cap1] := by obtain ⟨fuel, hf⟩ := h1; exact ⟨fuel, rowIs_of_trod fuel _ _ _ hf⟩
 clear hA0 hval0
 refine (walk W a0 len0 cap0 n0 w0 a1 len1 cap1 n1 w1).mono fun e W' ⟨he, bel⟩ => ?_
 subst he
 exact ⟨_, rfl, _, _, _, [], _, [], hW', trodAll_mk1 (shut_bool Tryz.underlying4 _), (trodAll_cons_mk (Below.trod laidOut (by kernel_rfl) (of_decide_eq_true (by kernel_rfl)) k0 bel lt0) (trodAll_cons_mk (Below.trod laidOut (by kernel_rfl) (of_decide_eq_true (by kernel_rfl)) k1 bel lt1) trodAll_mk0)), rfl, bel.frame _, fun h => by cases h⟩
theorem over : Rows.clusterResolvesRow.holds Tryz.pinned (OpenSpec.ofChange Rows.clusterResolvesSpec) :=
 OpenClaim.holds_of_wide 3 Tryz.f3 rfl rfl rfl rfl rfl rfl rfl ⟨rfl, rfl, rfl, rfl, rfl⟩ rfl rfl rfl rfl rfl (by kernel_rfl) Tryz.func3 (by kernel_rfl)
  (of_decide_eq_true (by kernel_rfl)) (by unfold Func.isWrapper; first | (rw [if_pos (by decide +kernel)]; kernel_rfl) | (rw [if_neg (by decide +kernel)]; exact ⟨rfl, rfl⟩))
  (fun os started H enc _ => lifted os started H enc)
theorem proved : Rows.ClusterResolvesSaid := over
#print axioms proved
end Go.Proofs.YtgejdaincnclpaaGreat.lawCR
