/- The reference's table: entries, Keys. -/
import Derived.Test.YteondblmcooklaaDoorSrcX
import Derived.Test.YteondblmcooklaaDoorScanL
namespace Go.Proofs.YteondblmcooklaaDoor
open Go Go.RowKit
set_option linter.unusedVariables false
section
variable {P : Program} {ops : Array Oper} {md : Region.Mode} {S : World → Prop} {Q : Exit → Act → World → Prop}
/-- Two operations may come now. -/
theorem wpZ_two {i j f : Nat} {n : List Nat} {oi oj : Oper} {L : Act → World → Prop} {listed : Array Bool} {a : Act} {w : World} (hi : ops[i]? = some oi) (hj : ops[j]? = some oj) (hB : decide (Region.ready md ops listed = [i, j]) = true) (gi : oi.guard = none) (gj : oj.guard = none)
    (ki : ∀ K : Act → World → Prop, (∀ a w, wpZ P md ops S Q n L f (listed.setIfInBounds i true) a w → K a w) → Oper.upon P oi a (fun a' w' => S w' ∧ K a' w') Q ((execOp a.eval oi).run P w))
    (kj : ∀ K : Act → World → Prop, (∀ a w, wpZ P md ops S Q n L f (listed.setIfInBounds j true) a w → K a w) → Oper.upon P oj a (fun a' w' => S w' ∧ K a' w') Q ((execOp a.eval oj).run P w)) : wpZ P md ops S Q n L (f + 1) listed a w := by
  rw [decide_eq_true_eq] at hB
  refine ⟨fun h0 => (by rw [h0] at hB; cases hB), fun k hk => ?_⟩
  rw [hB] at hk
  have hk' : k = i ∨ k = j := by simpa using hk
  unfold wpOp
  rcases hk' with rfl | rfl
  · simp only [hi]
    rw [if_pos (by simp [Region.wanted, gi])]
    exact .inl (ki _ fun _ _ h => h)
  · simp only [hj]
    rw [if_pos (by simp [Region.wanted, gj])]
    exact .inl (kj _ fun _ _ h => h)
end
/-- 'append(v, x)' of one element, in a region. -/
theorem up_append_one {w : World} {o : Oper} {a : Act} {Post : Act → World → Prop} {Q : Exit → Act → World → Prop} (s x : Operand) (t e : TypeId) (z : Value) (size bytes : Nat)
    (ho : o.op = .call { callee := .builtin .append, args := #[s, x], argTypes := #[t, t] })
    (ht : Tryd.prog.underlying t = some (.slice e)) (hinfo : (Tryd.prog.info? e).map (fun i => (i.zero, i.size, i.bytes)) = some (some z, size, bytes)) (hzs : z.cells.size = size) (hsz : 0 < size) (hby : bytes ≤ 1000)
    (base : Nat) (v : Value) (n : Nat) (xs cs : List Value) (hs : a.eval s = v) (hown : w.ownsRow base e size v n xs)
    (g c : Nat) (hx : a.eval x = .slice (some ⟨g, 0, none⟩) 1 c) (hl : cs.length = size) (hcell : ∀ j u, cs[j]? = some u → w.cell? ⟨g, j, none⟩ = some u) (h1 : ∀ u ∈ cs, u.oneCell' = true) (h63 : n ≤ 1000000) (hbase : base ≤ w.heap.size)
    (h : ∀ v' w', w'.ownsRow base e size v' (n + 1) (xs ++ cs) → w.grownBy w' v.ownBlock → Post (a.put o.dst v') w') : Oper.upon Tryd.prog o a Post Q ((execOp a.eval o).run Tryd.prog w) := by
  obtain ⟨i, hi, hz, hsi, hb⟩ := info_parts hinfo
  have hbytes : (n + 1) * bytes ≤ 140737488355328 := by
    have := Nat.mul_le_mul (show n + 1 ≤ 1000001 by omega) hby
    omega
  obtain ⟨v', w', hrun, h2, h3, _, h5⟩ := run_append_own_at (P := Tryd.prog) w base t o.type e i _ size bytes ht hi hz hsi hb hzs hsz v n xs hown ⟨g, 0, none⟩ 1 c cs (by rw [hl, Nat.one_mul]) (fun j u hu => by
      rw [show (⟨g, 0, none⟩ : Addr).add j = ⟨g, j, none⟩ by unfold Addr.add; split <;> simp_all]
      exact hcell j u hu) h1 (by unfold maxLen; omega) hbytes hbase
  unfold execOp
  simp only [ho, resolve, invoke, builtin, Sem.run_bind, Sem.run_pure, Result.andThen_ok, List.map_toArray, List.map_cons, List.map_nil, hs, hx, hrun]
  exact h v' w' h2 h3
theorem own_lt_of {w : World} {base size n k : Nat} {e : TypeId} {v : Value} {xs : List Value} (h : w.ownsRow base e size v n xs) (hk : some k = v.ownBlock) : k < w.heap.size := (h.lt k hk.symm).2
def StrAt (w : World) (A : Option Addr) (l : List ByteArray) : Prop := ∀ k x, l[k]? = some x → ∃ g o, A = some ⟨g, o, none⟩ ∧ g < w.heap.size ∧ w.cell? ⟨g, o + k, none⟩ = some (.string x)
theorem StrAt.below {w w1 : World} {A : Option Addr} {l : List ByteArray} {B : Nat} (h : StrAt w A l) (hb : Below B w w1) (hB : w.heap.size ≤ B) : StrAt w1 A l := fun k x hx => by
  obtain ⟨g, o, hA, hg, h0⟩ := h k x hx
  exact ⟨g, o, hA, Nat.lt_of_lt_of_le hg hb.size, (hb.cell (p := ⟨g, o + k, none⟩) (Nat.lt_of_lt_of_le hg hB)).trans h0⟩
def OwnS (w : World) (base : Nat) (A : Option Addr) (c : Nat) (l : List ByteArray) : Prop := w.ownsRow base 9 1 (.slice A l.length c) l.length (l.map Value.string)
theorem OwnS.sat {w : World} {base : Nat} {A : Option Addr} {c : Nat} {l : List ByteArray} (h : OwnS w base A c l) : StrAt w A l := fun k x hx => by
  have hk := (List.getElem?_eq_some_iff.1 hx).1
  obtain ⟨g, hA, hg, _, _, hc⟩ := own_cells h (by omega)
  exact ⟨g, 0, hA, hg, by rw [Nat.zero_add]; exact hc k _ (by rw [List.getElem?_map, hx]; rfl)⟩
def entL : List ByteArray := txtTab.flatMap fun p => [p.1, p.2]
set_option maxRecDepth 100000 in
theorem entries_any (w : World) : Calls Tryd.prog 46 #[] w fun e w' => e = .returned (.slice (some ⟨w.heap.size, 0, none⟩) 28 28) ∧ w' = w.alloc (.cells (entL.map Value.string).toArray 9) := by
  go_enter Tryd.func46, Tryd.ntmps46; (try simp only [List.append_eq, List.cons_append, List.nil_append])
  go_wp2_with fail
  go_ret
  exact ⟨rfl, rfl⟩
theorem ent_at (w : World) (k : Nat) (p : ByteArray × ByteArray) (hk : txtTab[k]? = some p) : (w.alloc (.cells (entL.map Value.string).toArray 9)).cell? ⟨w.heap.size, k * 2, none⟩ = some (.string p.1) ∧ (w.alloc (.cells (entL.map Value.string).toArray 9)).cell? ⟨w.heap.size, k * 2 + 1, none⟩ = some (.string p.2) := by
  have he : entL.map Value.string = txtTab.flatMap fun p => [Value.string p.1, Value.string p.2] := by rfl
  have hc : ∀ j u, [Value.string p.1, Value.string p.2][j]? = some u → (w.alloc (.cells (entL.map Value.string).toArray 9)).cell? ⟨w.heap.size, k * 2 + j, none⟩ = some u := fun j u hu => by
    rw [World.cell?_alloc_new, he, List.getElem?_toArray]
    exact flat_get (fun p : ByteArray × ByteArray => [Value.string p.1, Value.string p.2]) 2 (fun _ => rfl) txtTab k j p u hk hu
  exact ⟨hc 0 _ rfl, hc 1 _ rfl⟩
structure EntAt (w w' : World) : Prop where
  bel : Below w.heap.size w w'
  lt : w.heap.size < w'.heap.size
  at_ : ∀ k p, txtTab[k]? = some p → w'.cell? ⟨w.heap.size, k * 2, none⟩ = some (.string p.1) ∧ w'.cell? ⟨w.heap.size, k * 2 + 1, none⟩ = some (.string p.2)
theorem entries_at (w : World) : Calls Tryd.prog 46 #[] w fun e w' => e = .returned (.slice (some ⟨w.heap.size, 0, none⟩) 28 28) ∧ EntAt w w' :=
  (entries_any w).mono fun e w' ⟨he, hw⟩ => by
    subst hw
    exact ⟨he, (Below.refl _ _).alloc (Nat.le_refl _) _, by simp, fun k p hk => ent_at w k p hk⟩
theorem tab_of {p : ByteArray × ByteArray} (h : p ∈ txtTab) : txtOf p.1 = p.2 ∧ isWord p.1 = true := by
  simp only [txtTab, List.mem_cons, List.not_mem_nil, or_false] at h
  rcases h with rfl | rfl | rfl | rfl | rfl | rfl | rfl | rfl | rfl | rfl | rfl | rfl | rfl | rfl
  all_goals exact ⟨by kernel_rfl, by kernel_rfl⟩
def pairs : List WV → List (ByteArray × Int)
  | x :: y :: r => (x.text, y.num) :: pairs r
  | _ => []
set_option maxRecDepth 100000 in
theorem words_txt {p : ByteArray × ByteArray} (h : p ∈ txtTab) : pairs (scanR p.2).1 = (ksOf p.1).map (fun q => (q.1, (q.2 : Int))) ∧ (scanR p.2).1.length = (ksOf p.1).length * 2 ∧ p.2.size ≤ 200 := by
  simp only [txtTab, List.mem_cons, List.not_mem_nil, or_false] at h
  rcases h with rfl | rfl | rfl | rfl | rfl | rfl | rfl | rfl | rfl | rfl | rfl | rfl | rfl | rfl
  all_goals exact ⟨by kernel_rfl, by kernel_rfl, by decide⟩
theorem pairs_get : ∀ (l : List WV) (k : Nat) (q : ByteArray × Int), (pairs l)[k]? = some q → ∃ x y, l[k * 2]? = some x ∧ l[k * 2 + 1]? = some y ∧ x.text = q.1 ∧ y.num = q.2
  | [], k, q, h => by simp [pairs] at h
  | [x], k, q, h => by simp [pairs] at h
  | x :: y :: r, 0, q, h => by
    simp only [pairs, List.getElem?_cons_zero, Option.some.injEq] at h
    subst h
    exact ⟨x, y, rfl, rfl, rfl, rfl⟩
  | x :: y :: r, k + 1, q, h => by
    simp only [pairs, List.getElem?_cons_succ] at h
    obtain ⟨x', y', h1, h2, h3, h4⟩ := pairs_get r k q h
    refine ⟨x', y', ?_, ?_, h3, h4⟩
    · rw [show (k + 1) * 2 = k * 2 + 1 + 1 by omega]; simpa using h1
    · rw [show (k + 1) * 2 + 1 = k * 2 + 1 + 1 + 1 by omega]; simpa using h2
def KeysOut (word : ByteArray) (w : World) (e : Ending) (w' : World) : Prop := Below w.heap.size w w' ∧
  (isWord word = true → ∃ A c B d, e = .returned (.tuple #[.slice A (ksOf word).length c, .slice B (ksOf word).length d, .bool true]) ∧ StrAt w' A ((ksOf word).map (·.1)) ∧ IAt w' B ((ksOf word).map fun q => (q.2 : Int))) ∧
  (isWord word = false → e = .returned (.tuple #[.slice none 0 0, .slice none 0 0, .bool false]))
theorem strInfo : (Tryd.prog.info? 9).map (fun i => (i.zero, i.size, i.bytes)) = some (some (.string ⟨#[]⟩), 1, 16) := by kernel_rfl
theorem tab_len : txtTab.length = 14 := rfl
set_option maxRecDepth 100000 in
set_option maxHeartbeats 8000000 in
theorem rkeys_any (word : ByteArray) (w : World) : Calls Tryd.prog 32 #[.string word] w (KeysOut word w) := by
  go_enter Tryd.func32, Tryd.ntmps32; (try simp only [List.append_eq, List.cons_append, List.nil_append])
  go_wp2_with (go_at_call 46; refine (entries_at _).mono ?_; rintro e w1 ⟨rfl, hE⟩)
  have hs1 := hE.lt
  have HA := Lib.hid hE.at_
  have HB1 := Lib.hid hE.bel
  clear hE
  go_loop [6] (fun t => ∃ k : Nat, k ≤ 14 ∧ t = .int .i64 ((k * 2 : Nat) : Int) ∧ Hid (∀ i p, i < k → txtTab[i]? = some p → ¬ word = p.1)) (fun t => 28 - (intOf t).toNat)
  case atStart => exact ⟨0, by omega, rfl, Lib.hid (fun i p h => by omega)⟩
  case round =>
    obtain ⟨k, hk, rfl, HN⟩ := hrel
    by_cases hlt : k < 14
    · obtain ⟨p, hp⟩ : ∃ p, txtTab[k]? = some p := ⟨txtTab[k]'(by rw [tab_len]; exact hlt), by simp⟩
      obtain ⟨c0, c1⟩ := HA.out k p hp
      have hmem := List.mem_of_getElem? hp
      have i1 : ((k * 2 : Nat) : Int) < 28 := by omega
      have HP := Lib.hid hp
      clear hp
      by_cases he : word = p.1
      · obtain ⟨ht, hw⟩ := tab_of hmem
        obtain ⟨hw1, hw2, hw3⟩ := words_txt hmem
        have b1 : (p.1.toList == word.toList) = true := by rw [he]; exact beq_self_eq_true _
        have hkl := (txt_ok word).2.2.1
        have KW := fun W : World => rwords_any p.2 W (by unfold maxLen; omega)
        obtain ⟨⟨L, er, pl⟩, hR⟩ : ∃ R, R = scanR p.2 := ⟨_, rfl⟩
        rw [← hR] at KW hw1 hw2
        (try simp only at hw1 hw2)
        rw [← he] at hw1 hw2 hw
        obtain ⟨ks, hks⟩ : ∃ ks, ks = ksOf word := ⟨_, rfl⟩
        rw [← hks] at hw1 hw2 hkl
        have HKS := Lib.hid hks
        have HPR := Lib.hid hw1
        have HIW := Lib.hid hw
        clear he ht hw hw1 hw3 HN hR hks HP HA
        go_wp2_with (go_at_call 26; refine (KW _).mono ?_; rintro e w2 ⟨hb2, v2, rfl, ho2⟩; obtain ⟨A7, c7, rfl⟩ := own_sl ho2)
        (try simp only at ho2)
        have HO2 := Lib.hid ho2
        have HB2 := Lib.hid hb2
        have hs2 := hb2.size
        (try rw [hw2])
        clear hb2 ho2 b1 c0 c1 KW
        go_loopw [10, 11, 12] (fun v10 v11 t12 wr => ∃ (j J : Nat) (B1 : Option Addr) (d1 : Nat) (B2 : Option Addr) (d2 : Nat) (ns : List ByteArray) (ms : List Int), j ≤ ks.length ∧ Hid (J = j * 2) ∧ t12 = .int .i64 (J : Int) ∧ v10 = .slice B1 ns.length d1 ∧ v11 = .slice B2 ms.length d2 ∧ Hid (ns = (ks.take j).map (·.1)) ∧ Hid (ms = (ks.take j).map fun q => (q.2 : Int)) ∧ Below w2.heap.size w2 wr ∧ Hid (OwnS wr w2.heap.size B1 d1 ns) ∧ Hid (OwnI wr w2.heap.size B2 d2 ms)) (fun _ _ t _ => ks.length * 2 - (intOf t).toNat)
        case atStart => exact ⟨0, 0, none, 0, none, 0, [], [], by omega, Lib.hid rfl, rfl, rfl, rfl, Lib.hid rfl, Lib.hid rfl, Below.refl _ _, Lib.hid (World.ownsRow_nil _ _ _ _), Lib.hid (World.ownsRow_nil _ _ _ _)⟩
        case round =>
          obtain ⟨j, J, B1, d1, B2, d2, ns, ms, hj, HJ, rfl, rfl, rfl, HNs, HMs, hbr, HOs, HOi⟩ := hrel
          have hzr := hbr.size
          by_cases hjl : j < ks.length
          · obtain ⟨q, hq⟩ : ∃ q, ks[j]? = some q := ⟨ks[j], by simp⟩
            obtain ⟨x, y, hx, hy, hxt, hyn⟩ := pairs_get L j (q.1, (q.2 : Int)) (by rw [HPR.out, List.getElem?_map, hq]; rfl)
            (try simp only at hxt hyn)
            obtain ⟨gw, rfl, hgw, _, hcw, hcell⟩ := own_cells HO2.out (by omega)
            have k0 := hcell _ _ (flat_get cellsOfW 4 (fun _ => rfl) L (j * 2) 1 x _ hx rfl)
            have k1 := hcell _ _ (flat_get cellsOfW 4 (fun _ => rfl) L (j * 2 + 1) 2 y _ hy rfl)
            rw [hxt, ← HJ.out] at k0
            rw [hyn, ← HJ.out] at k1
            have hJb : J ≤ 100 := by have := HJ.out; omega
            have hJc : j * 2 = J := HJ.out.symm
            have HJc := Lib.hid hJc
            have hwr : IntKind.i64.wrap ((J : Int) + 1) = ((J + 1 : Nat) : Int) := by rw [IntKind.wrap_i64]; omega
            have hso : ∀ W, Below w2.heap.size w2 W → W.cell? ⟨gw, J * 4 + 1, none⟩ = some (.string q.1) ∧ W.cell? ⟨gw, (J + 1) * 4 + 2, none⟩ = some (.int .i64 (q.2 : Int)) := fun W h => ⟨(h.cell (p := ⟨gw, J * 4 + 1, none⟩) hgw).trans k0, (h.cell (p := ⟨gw, (J + 1) * 4 + 2, none⟩) hgw).trans k1⟩
            have HSo := Lib.hid hso
            have hnl : ns.length = j := by rw [HNs.out, List.length_map, List.length_take]; omega
            have hml : ms.length = j := by rw [HMs.out, List.length_map, List.length_take]; omega
            have hnn : ns.length ≤ 1000000 := by omega
            have hmn : ms.length ≤ 1000000 := by omega
            have HNs' : Hid (ns ++ [q.1] = (ks.take (j + 1)).map (·.1)) := Lib.hid (by rw [take_snoc hq, List.map_append, HNs.out]; rfl)
            have HMs' : Hid (ms ++ [(q.2 : Int)] = (ks.take (j + 1)).map fun q => (q.2 : Int)) := Lib.hid (by rw [take_snoc hq, List.map_append, HMs.out]; rfl)
            have i2 : (J : Int) + 1 < (ks.length : Int) * 2 := by omega
            have i3 : (J : Int) < (ks.length : Int) * 2 := by omega
            have hkl2 : ks.length ≤ 20 := hkl
            clear hJc
            have HB := Lib.hid hbr
            clear hx hy hxt hyn hcell k0 k1 hso hq hnl hml hbr HNs HMs
            go_wp2_with fail
            obtain ⟨w5, hw5⟩ : ∃ w5, w5 = wr.drew := ⟨_, rfl⟩
            have hb5 : Below w2.heap.size w2 w5 := by rw [hw5]; exact HB.out.drew
            have oS5 : OwnS w5 w2.heap.size B1 d1 ns := by rw [hw5]; exact own_below HOs.out ((Below.refl wr.heap.size wr).drew) (Nat.le_refl _)
            have oI5 : OwnI w5 w2.heap.size B2 d2 ms := by rw [hw5]; exact own_below HOi.out ((Below.refl wr.heap.size wr).drew) (Nat.le_refl _)
            have oS6 := oS5
            unfold OwnS at oS5 oS6
            unfold OwnI at oI5
            have hs5 := hb5.size
            have hS0 := HSo.out _ hb5
            refine wp_region_Z (fun W => W.cell? ⟨gw, J * 4 + 1, none⟩ = some (.string q.1) ∧ W.cell? ⟨gw, (J + 1) * 4 + 2, none⟩ = some (.int .i64 (q.2 : Int))) 16 [16, 17, 18] (by kernel_rfl) (by kernel_rfl) ?_
            rw [← hw5]
            clear hw5
            (apply wpZ_step (i := 0) rfl (by kernel_rfl) rfl; (case h => (intro W hW; obtain ⟨s0, s1⟩ := hW; go_simp; first | done | exact rfl)); (case hQ => (exact fun _ _ _ h => h)); (case hS => assumption); intro K hK; go_simp; refine hK _ _ ?_; clear hK K)
            (apply wpZ_step (i := 1) rfl (by kernel_rfl) rfl; (case h => (intro W hW; obtain ⟨s0, s1⟩ := hW; go_simp; first | done | exact rfl)); (case hQ => (exact fun _ _ _ h => h)); (case hS => assumption); intro K hK; go_simp; refine hK _ _ ?_; clear hK K)
            (apply wpZ_step (i := 2) rfl (by kernel_rfl) rfl; (case h => (intro W hW; obtain ⟨s0, s1⟩ := hW; go_simp; first | done | exact rfl)); (case hQ => (exact fun _ _ _ h => h)); (case hS => assumption); intro K hK; go_simp; refine hK _ _ ?_; clear hK K)
            (apply wpZ_step (i := 3) rfl (by kernel_rfl) rfl; (case h => (intro W hW; obtain ⟨s0, s1⟩ := hW; go_simp; first | done | exact rfl)); (case hQ => (exact fun _ _ _ h => h)); (case hS => assumption); intro K hK; go_simp; refine hK _ _ ?_; clear hK K)
            (apply wpZ_step (i := 4) rfl (by kernel_rfl) rfl; (case h => (intro W hW; obtain ⟨s0, s1⟩ := hW; go_simp; first | done | exact rfl)); (case hQ => (exact fun _ _ _ h => h)); (case hS => assumption); intro K hK; go_simp; refine hK _ _ ?_; clear hK K)
            (apply wpZ_step (i := 5) rfl (by kernel_rfl) rfl; (case h => (intro W hW; obtain ⟨s0, s1⟩ := hW; go_simp; first | done | exact rfl)); (case hQ => (exact fun _ _ _ h => h)); (case hS => assumption); intro K hK; go_simp; refine hK _ _ ?_; clear hK K)
            (apply wpZ_step (i := 8) rfl (by kernel_rfl) rfl; (case h => (intro W hW; obtain ⟨s0, s1⟩ := hW; go_simp; first | done | exact rfl)); (case hQ => (exact fun _ _ _ h => h)); (case hS => assumption); intro K hK; go_simp; refine hK _ _ ?_; clear hK K)
            (apply wpZ_step (i := 9) rfl (by kernel_rfl) rfl; (case h => (intro W hW; obtain ⟨s0, s1⟩ := hW; go_simp; first | done | exact rfl)); (case hQ => (exact fun _ _ _ h => h)); (case hS => assumption); intro K hK; go_simp; refine hK _ _ ?_; clear hK K)
            (apply wpZ_step (i := 10) rfl (by kernel_rfl) rfl; (case h => (intro W hW; obtain ⟨s0, s1⟩ := hW; go_simp; first | done | exact rfl)); (case hQ => (exact fun _ _ _ h => h)); (case hS => assumption); intro K hK; go_simp; refine hK _ _ ?_; clear hK K)
            (apply wpZ_step (i := 11) rfl (by kernel_rfl) rfl; (case h => (intro W hW; obtain ⟨s0, s1⟩ := hW; go_simp; first | done | exact rfl)); (case hQ => (exact fun _ _ _ h => h)); (case hS => assumption); intro K hK; go_simp; refine hK _ _ ?_; clear hK K)
            (apply wpZ_step (i := 12) rfl (by kernel_rfl) rfl; (case h => (intro W hW; obtain ⟨s0, s1⟩ := hW; go_simp; first | done | exact rfl)); (case hQ => (exact fun _ _ _ h => h)); (case hS => assumption); intro K hK; go_simp; refine hK _ _ ?_; clear hK K)
            (apply wpZ_step (i := 13) rfl (by kernel_rfl) rfl; (case h => (intro W hW; obtain ⟨s0, s1⟩ := hW; go_simp; first | done | exact rfl)); (case hQ => (exact fun _ _ _ h => h)); (case hS => assumption); intro K hK; go_simp; refine hK _ _ ?_; clear hK K)
            (apply wpZ_step (i := 14) rfl (by kernel_rfl) rfl; (case h => (intro W hW; obtain ⟨s0, s1⟩ := hW; go_simp; first | done | exact rfl)); (case hQ => (exact fun _ _ _ h => h)); (case hS => assumption); intro K hK; go_simp; refine hK _ _ ?_; clear hK K)
            refine wpZ_two (i := 6) (j := 15) rfl rfl (by kernel_rfl) rfl rfl (fun K hK => ?_) (fun K hK => ?_)
            · (try go_simp)
              (first | refine ⟨HSo.out _ (hb5.alloc hs5 _), hK _ _ ?_⟩ | refine hK _ _ ?_)
              clear hK K
              refine wpZ_two (i := 7) (j := 15) rfl rfl (by kernel_rfl) rfl rfl (fun K hK => ?_) (fun K hK => ?_)
              · refine up_append_one _ _ 74 9 _ 1 16 rfl Tryd.underlying74 strInfo rfl (by decide) (by decide) w2.heap.size (.slice B1 ns.length d1) ns.length (ns.map Value.string) [.string q.1] rfl (oS6.alloc _) w5.heap.size 1 rfl rfl (cells1 (by go_simp)) (by simp [Value.oneCell']) hnn (by simp; omega) ?_
                intro v7 w7 ho7 hg7
                have hb7 := (hb5.alloc hs5 (.cells #[.string q.1] 9)).grown hg7 (by simp; omega) (own_fresh oS5)
                have oI7 := own_kept (oI5.alloc (.cells #[.string q.1] 9)) (oS5.alloc _) (by decide) hg7
                obtain ⟨B7, e7, rfl⟩ := own_sl ho7
                have hs7 := hb7.size
                refine ⟨HSo.out _ hb7, hK _ _ ?_⟩
                clear hK K
                (try go_simp)
                refine wpZ_one (i := 15) rfl (by kernel_rfl) rfl (fun K hK => ?_)
                (try go_simp)
                (first | refine ⟨HSo.out _ (hb7.alloc hs7 _), hK _ _ ?_⟩ | refine hK _ _ ?_)
                clear hK K
                refine wpZ_nil (by kernel_rfl) ?_
                (try simp only [List.filterMap_cons, List.filterMap_nil, List.getElem?_cons_succ, List.getElem?_cons_zero])
                refine wpList_append_one rfl _ _ 37 3 _ 1 8 rfl Tryd.underlying37 intInfo rfl (by decide) (by decide) w2.heap.size (.slice B2 ms.length d2) ms.length (ms.map (Value.int .i64)) [.int .i64 (q.2 : Int)] rfl (oI7.alloc _) w7.heap.size 1 rfl rfl (cells1 (by go_simp)) (by simp [Value.oneCell']) hmn (by simp; omega) ?_
                intro v8 w8 ho8 hg8 _
                have hb8 := (hb7.alloc hs7 (.cells #[.int .i64 (q.2 : Int)] 3)).grown hg8 (by simp; omega) (own_fresh oI7)
                have oS8 := own_kept (ho7.alloc (.cells #[.int .i64 (q.2 : Int)] 3)) (oI7.alloc _) (by decide) hg8
                obtain ⟨B8, e8, rfl⟩ := own_sl ho8
                clear hg7 hg8
                have HOS : Hid (OwnS w8 w2.heap.size B7 e7 (ns ++ [q.1])) := Lib.hid (by unfold OwnS; rw [List.map_append, List.length_append]; exact oS8)
                have HOI : Hid (OwnI w8 w2.heap.size B8 e8 (ms ++ [(q.2 : Int)])) := Lib.hid (by unfold OwnI; rw [List.map_append, List.length_append]; exact ho8)
                have HB8 := Lib.hid hb8
                clear ho7 ho8 oS8 oI7 hb7 hb8
                (try go_simp)
                go_wp2_with fail
                go_roundw
                case rel => exact ⟨j + 1, J + 2, B7, e7, B8, e8, ns ++ [q.1], ms ++ [(q.2 : Int)], by omega, Lib.hid (by rw [HJ.out]; omega), by go_num, by simp, by simp, HNs', HMs', HB8.out, HOS, HOI⟩
                case measure => simp [intOf]; omega
              · (try go_simp)
                (first | refine ⟨HSo.out _ ((hb5.alloc hs5 _).alloc (by simp; omega) _), hK _ _ ?_⟩ | refine hK _ _ ?_)
                clear hK K
                refine wpZ_one (i := 7) rfl (by kernel_rfl) rfl (fun K hK => ?_)
                refine up_append_one _ _ 74 9 _ 1 16 rfl Tryd.underlying74 strInfo rfl (by decide) (by decide) w2.heap.size (.slice B1 ns.length d1) ns.length (ns.map Value.string) [.string q.1] rfl ((oS5.alloc _).alloc _) w5.heap.size 1 rfl rfl (cells1 (by go_simp)) (by simp [Value.oneCell']) hnn (by simp; omega) ?_
                intro v7 w7 ho7 hg7
                have hb7 := ((hb5.alloc hs5 (.cells #[.string q.1] 9)).alloc (by simp; omega) (.cells #[.int .i64 (q.2 : Int)] 3)).grown hg7 (by simp; omega) (own_fresh oS5)
                have oI7 := own_kept ((oI5.alloc (.cells #[.string q.1] 9)).alloc (.cells #[.int .i64 (q.2 : Int)] 3)) ((oS5.alloc _).alloc _) (by decide) hg7
                have hc7 : w7.cell? ⟨w5.heap.size + 1, 0, none⟩ = some (.int .i64 (q.2 : Int)) := by
                  rw [World.cell?_of_block (a := ⟨w5.heap.size + 1, 0, none⟩) (hg7.block (w5.heap.size + 1) (by simp) (by intro e; have := own_lt_of oS5 e; omega))]
                  go_simp
                obtain ⟨B7, e7, rfl⟩ := own_sl ho7
                have hs7 := hb7.size
                refine ⟨HSo.out _ hb7, hK _ _ ?_⟩
                clear hK K
                (try go_simp)
                refine wpZ_nil (by kernel_rfl) ?_
                (try simp only [List.filterMap_cons, List.filterMap_nil, List.getElem?_cons_succ, List.getElem?_cons_zero])
                refine wpList_append_one rfl _ _ 37 3 _ 1 8 rfl Tryd.underlying37 intInfo rfl (by decide) (by decide) w2.heap.size (.slice B2 ms.length d2) ms.length (ms.map (Value.int .i64)) [.int .i64 (q.2 : Int)] rfl oI7 (w5.heap.size + 1) 1 rfl rfl (cells1 hc7) (by simp [Value.oneCell']) hmn (by omega) ?_
                intro v8 w8 ho8 hg8 _
                have hb8 := hb7.grown hg8 hs7 (own_fresh oI7)
                have oS8 := own_kept ho7 oI7 (by decide) hg8
                obtain ⟨B8, e8, rfl⟩ := own_sl ho8
                clear hg7 hg8
                have HOS : Hid (OwnS w8 w2.heap.size B7 e7 (ns ++ [q.1])) := Lib.hid (by unfold OwnS; rw [List.map_append, List.length_append]; exact oS8)
                have HOI : Hid (OwnI w8 w2.heap.size B8 e8 (ms ++ [(q.2 : Int)])) := Lib.hid (by unfold OwnI; rw [List.map_append, List.length_append]; exact ho8)
                have HB8 := Lib.hid hb8
                clear ho7 ho8 oS8 oI7 hb7 hb8
                (try go_simp)
                go_wp2_with fail
                go_roundw
                case rel => exact ⟨j + 1, J + 2, B7, e7, B8, e8, ns ++ [q.1], ms ++ [(q.2 : Int)], by omega, Lib.hid (by rw [HJ.out]; omega), by go_num, by simp, by simp, HNs', HMs', HB8.out, HOS, HOI⟩
                case measure => simp [intOf]; omega
            · (try go_simp)
              (first | refine ⟨HSo.out _ (hb5.alloc hs5 _), hK _ _ ?_⟩ | refine hK _ _ ?_)
              clear hK K
              refine wpZ_one (i := 6) rfl (by kernel_rfl) rfl (fun K hK => ?_)
              (try go_simp)
              (first | refine ⟨HSo.out _ ((hb5.alloc hs5 _).alloc (by simp; omega) _), hK _ _ ?_⟩ | refine hK _ _ ?_)
              clear hK K
              refine wpZ_one (i := 7) rfl (by kernel_rfl) rfl (fun K hK => ?_)
              refine up_append_one _ _ 74 9 _ 1 16 rfl Tryd.underlying74 strInfo rfl (by decide) (by decide) w2.heap.size (.slice B1 ns.length d1) ns.length (ns.map Value.string) [.string q.1] rfl ((oS5.alloc _).alloc _) (w5.heap.size + 1) 1 rfl rfl (cells1 (by go_simp)) (by simp [Value.oneCell']) hnn (by simp; omega) ?_
              intro v7 w7 ho7 hg7
              have hb7 := ((hb5.alloc hs5 (.cells #[.int .i64 (q.2 : Int)] 3)).alloc (by simp; omega) (.cells #[.string q.1] 9)).grown hg7 (by simp; omega) (own_fresh oS5)
              have oI7 := own_kept ((oI5.alloc (.cells #[.int .i64 (q.2 : Int)] 3)).alloc (.cells #[.string q.1] 9)) ((oS5.alloc _).alloc _) (by decide) hg7
              have hc7 : w7.cell? ⟨w5.heap.size, 0, none⟩ = some (.int .i64 (q.2 : Int)) := by
                rw [World.cell?_of_block (a := ⟨w5.heap.size, 0, none⟩) (hg7.block w5.heap.size (by simp; omega) (by intro e; have := own_lt_of oS5 e; omega))]
                go_simp
              obtain ⟨B7, e7, rfl⟩ := own_sl ho7
              have hs7 := hb7.size
              refine ⟨HSo.out _ hb7, hK _ _ ?_⟩
              clear hK K
              (try go_simp)
              refine wpZ_nil (by kernel_rfl) ?_
              (try simp only [List.filterMap_cons, List.filterMap_nil, List.getElem?_cons_succ, List.getElem?_cons_zero])
              refine wpList_append_one rfl _ _ 37 3 _ 1 8 rfl Tryd.underlying37 intInfo rfl (by decide) (by decide) w2.heap.size (.slice B2 ms.length d2) ms.length (ms.map (Value.int .i64)) [.int .i64 (q.2 : Int)] rfl oI7 w5.heap.size 1 rfl rfl (cells1 hc7) (by simp [Value.oneCell']) hmn (by omega) ?_
              intro v8 w8 ho8 hg8 _
              have hb8 := hb7.grown hg8 hs7 (own_fresh oI7)
              have oS8 := own_kept ho7 oI7 (by decide) hg8
              obtain ⟨B8, e8, rfl⟩ := own_sl ho8
              clear hg7 hg8
              have HOS : Hid (OwnS w8 w2.heap.size B7 e7 (ns ++ [q.1])) := Lib.hid (by unfold OwnS; rw [List.map_append, List.length_append]; exact oS8)
              have HOI : Hid (OwnI w8 w2.heap.size B8 e8 (ms ++ [(q.2 : Int)])) := Lib.hid (by unfold OwnI; rw [List.map_append, List.length_append]; exact ho8)
              have HB8 := Lib.hid hb8
              clear ho7 ho8 oS8 oI7 hb7 hb8
              (try go_simp)
              go_wp2_with fail
              go_roundw
              case rel => exact ⟨j + 1, J + 2, B7, e7, B8, e8, ns ++ [q.1], ms ++ [(q.2 : Int)], by omega, Lib.hid (by rw [HJ.out]; omega), by go_num, by simp, by simp, HNs', HMs', HB8.out, HOS, HOI⟩
              case measure => simp [intOf]; omega
          · obtain rfl : j = ks.length := by omega
            have i2 : ¬ (J : Int) + 1 < (ks.length : Int) * 2 := by have := HJ.out; omega
            have hJb : J ≤ 100 := by have := HJ.out; omega
            have hns := HNs.out
            have hms := HMs.out
            rw [List.take_length] at hns hms
            go_wp2_with fail
            go_ret3
            have HKS' := HKS.out
            subst HKS'
            subst hns
            subst hms
            refine ⟨(HB1.out.trans (HB2.out.mono (by omega))).trans (hbr.mono (by omega)), ?_, ?_⟩
            · intro _
              refine ⟨B1, d1, B2, d2, ?_, HOs.out.sat, HOi.out.iat⟩
              rfl
            · intro h; rw [HIW.out] at h; cases h
      · have b1 : (p.1.toList == word.toList) = false := txt_neT (fun e => he e.symm)
        have HN' : Hid (∀ i q, i < k + 1 → txtTab[i]? = some q → ¬ word = q.1) := Lib.hid (fun i q h1 h2 => by
          rcases Nat.lt_or_ge i k with h | h
          · exact HN.out i q h h2
          · obtain rfl : i = k := by omega
            rw [HP.out] at h2
            obtain rfl := Option.some.inj h2
            exact he)
        clear he
        go_wp2_with fail
        go_round
        case rel => exact ⟨k + 1, by omega, by go_num, HN'⟩
        case measure => simp [intOf]; omega
    · obtain rfl : k = 14 := by omega
      have hno : isWord word = false := by
        rcases word_cases word with ⟨p, hp, he⟩ | h
        · obtain ⟨i, hi⟩ := List.getElem?_of_mem hp
          have := (List.getElem?_eq_some_iff.1 hi).1
          rw [tab_len] at this
          exact absurd he (HN.out i p this hi)
        · exact h.2.2
      go_wp2_with fail
      go_ret3
      refine ⟨HB1.out, ?_, ?_⟩
      · intro h; rw [hno] at h; cases h
      · intro _; rfl
end Go.Proofs.YteondblmcooklaaDoor
