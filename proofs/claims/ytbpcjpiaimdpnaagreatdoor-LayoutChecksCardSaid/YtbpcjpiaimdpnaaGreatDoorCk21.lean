/- Merged texts: ElE RcD Rov. -/
import Derived.Test.YtbpcjpiaimdpnaaGreatDoorCk8
import Derived.Test.YtbpcjpiaimdpnaaGreatDoorCk16
import Derived.Test.YtbpcjpiaimdpnaaGreatDoorCk17
import Derived.Test.YtbpcjpiaimdpnaaGreatDoorCk13
import Derived.Laws.AppendOwnNone
import Derived.BigQuiet
import Derived.Deep.QuietTactic
import Derived.Deep.Cut
import Derived.BigRegion
set_option linter.unusedSimpArgs false
set_option linter.unusedVariables false
namespace Go.Proofs.YtbpcjpiaimdpnaaGreatDoor
open Go Go.RowKit
set_option linter.unusedVariables false
structure TbLen (t : Tb) (n : Nat) : Prop where
  ws : t.ws.length ≤ n
  ars : t.ars.length ≤ n
  ps : t.ps.length ≤ n
  fs : t.fs.length ≤ n
  zs : t.zs.length ≤ n
  ss : t.ss.length ≤ n
  las : t.las.length ≤ n
  rs : t.rs.length ≤ n
  ds : t.ds.length ≤ n
  lns : t.lns.length ≤ n
theorem add_zero_at (g j : Nat) : (⟨g, 0, none⟩ : Addr).add j = ⟨g, j, none⟩ := by
 unfold Addr.add
 split <;> simp_all
theorem wpList_append_els {w : World} {ops : Array Oper} {rest : List Oper} {o : Oper} {a : Act} {Q : Exit → Act → World → Prop} (s x : Operand) (ho : o = { dst := o.dst, op := .call { callee := .builtin .append, args := #[s, x], argTypes := #[88, 88] }, type := o.type, pos := o.pos, after := o.after, guard := none })
  (base : Nat) (L M : List El) (A : Option Addr) (c : Nat) (B : Option Addr) (d : Nat) (hs : a.eval s = .slice A L.length c) (hL : ElOwn w base A c L) (hx : a.eval x = .slice B M.length d) (bm : Nat) (hM : ElOwn w bm B d M)
  (h63 : L.length + M.length ≤ maxLen) (hby : (L.length + M.length) * 24 ≤ 140737488355328) (hb : base ≤ w.heap.size)
  (h : ∀ A' c' w', w.grownBy w' (Value.slice A L.length c).ownBlock → ElOwn w' base A' c' (L ++ M) → wpList Tryz.prog ops Q rest (a.put o.dst (.slice A' (L ++ M).length c')) w') : wpList Tryz.prog ops Q (o :: rest) a w := by
 have hgd : o.guard = none := by rw [ho]
 have hop : o.op = .call { callee := .builtin .append, args := #[s, x], argTypes := #[88, 88] } := by rw [ho]
 obtain ⟨i, hi, hz, hsz, hbt⟩ : ∃ i, Tryz.prog.info? 91 = some i ∧ i.zero = some (.agg #[.string ⟨#[]⟩, .bool false, .bool false]) ∧ i.size = 3 ∧ i.bytes = 24 := by
  have h := infEl
  cases hq : Tryz.prog.info? 91 with
  | none => rw [hq] at h; cases h
  | some i =>
   rw [hq] at h
   simp only [Option.map_some, Option.some.injEq, Prod.mk.injEq] at h
   exact ⟨i, rfl, h.1, h.2.1, h.2.2⟩
 rcases Nat.eq_zero_or_pos M.length with h0 | h0
 · have hM0 : M = [] := List.length_eq_zero_iff.1 h0
   subst hM0
   rcases hM.2 with ⟨hv, _⟩ | ⟨g, cap, cur, hv, _⟩
   · simp only [Value.slice.injEq] at hv
     obtain ⟨rfl, _, rfl⟩ := hv
     refine wpList_append_own_none hgd s x 88 hop base 91 i 3 Tryz.underlying88 hi (.slice A L.length c) L.length (L.flatMap El.cells) hs hL hx ?_
     have h1 := h A c w (World.grownBy.refl _ _) (by rw [List.append_nil]; exact hL)
     rwa [List.append_nil] at h1
   · simp only [Value.slice.injEq] at hv
     obtain ⟨rfl, _, rfl⟩ := hv
     refine wpList_append_own _ hgd s x 88 hop base 91 i _ 3 24 Tryz.underlying88 hi hz hsz hbt rfl (by decide) (.slice A L.length c) L.length (L.flatMap El.cells) hs hL ⟨g, 0, none⟩ 0 d [] hx rfl (fun j u hu => by simp at hu) (fun u hu => by simp at hu) h63 hby hb ?_
     intro v' w' ho' hg' _
     obtain ⟨A', c', rfl⟩ := own_sl ho'
     have h1 := h A' c' w' hg' (by rw [List.append_nil]; simpa [ElOwn] using ho')
     rwa [List.append_nil] at h1
 · obtain ⟨g, rfl, hg, hbg, hc, hcell⟩ := own_cells hM h0
   refine wpList_append_own _ hgd s x 88 hop base 91 i _ 3 24 Tryz.underlying88 hi hz hsz hbt rfl (by decide) (.slice A L.length c) L.length (L.flatMap El.cells) hs hL ⟨g, 0, none⟩ M.length d (M.flatMap El.cells) hx hM.1 (fun j u hu => by
    have := hcell j u hu
    rwa [add_zero_at]) (fun u hu => by
    obtain ⟨x, _, hu⟩ := List.mem_flatMap.1 hu
    simp only [El.cells, List.mem_cons, List.not_mem_nil, or_false] at hu
    rcases hu with rfl | rfl | rfl <;> rfl) h63 hby hb ?_
   intro v' w' ho' hg' _
   obtain ⟨A', c', rfl⟩ := own_sl ho'
   have e : L.length + M.length = (L ++ M).length := by simp
   rw [e] at ho' ⊢
   exact h A' c' w' hg' (by unfold ElOwn; rw [List.flatMap_append]; exact ho')
set_option maxRecDepth 100000 in
set_option maxHeartbeats 8000000 in
theorem rplaces_any (t : Tb) (a : TbA) (w : World) (hA : TbAt w t a) (hl : TbLen t 1000) (hr : 0 ≤ t.rad ∧ t.rad ≤ 32768) :
  Calls Tryz.prog 86 #[t.v a] w fun e w' => ∃ A c, e = .returned (.slice A t.elems2.length c) ∧ Below w.heap.size w w' ∧ ElOwn w' (w.heap.size + 1) A c t.elems2 := by
 have HA := hQ0 hA
 have HL := hQ0 hl
 have HR := hQ0 hr
 clear hA hl hr
 obtain ⟨TC, hTC⟩ : ∃ z : List Value, z = t.cells a := ⟨_, rfl⟩
 have HTC := hQ0 hTC
 clear hTC
 go_enter Tryz.func86, Tryz.ntmps86; (try simp only [List.append_eq, List.cons_append, List.nil_append])
 go_upto_region 2 with (fail)
 (refine pin_eqT (fun v0 hE => ?_))
 have HX0 : Hid (BoxAt v0 w.heap.size TC) := hQ0 (by rw [hE, HTC.out]; exact BoxAt.new _ _ _)
 have HB0 : Hid (Below w.heap.size w v0) := hQ0 (by rw [hE]; ((with_reducible (repeat (first | exact bR _ _ | apply bS | apply bA | apply bD | refine bT ?_ (by assumption) ?_ | refine bO (by assumption) ?_ ?_))) <;> (first | omega | (simp <;> omega))))
 have hs0 : w.heap.size + 1 ≤ v0.heap.size := by rw [hE]; simp
 clear hE
 obtain ⟨L0, hL0⟩ : ∃ L : List El, L = [] := ⟨_, rfl⟩
 have HE0 : Hid (L0 = ([] : List El)) := hQ0 hL0
 have HN0 : Hid (L0.length ≤ 0) := hQ0 (by rw [hL0]; simp)
 have HO0 : Hid (ElOwn v0 (w.heap.size + 1) none 0 L0) := hQ0 (by rw [hL0]; exact World.ownsRow_nil _ _ _ _)
 obtain ⟨nl, hnl⟩ : ∃ z : Nat, z = L0.length := ⟨_, rfl⟩
 have hnl0 : nl = 0 := by rw [hnl, hL0]; rfl
 clear hL0
 as_aux_lemma =>
  obtain rfl : L0 = [] := HE0.out
  refine wp_region_lit ?_
  refine wpList_plain rfl fun K hK => ?_; go_simp; apply hK; clear hK K
  refine wpList_nil ?_
  (try go_simp)
  go_step
  refine wp_of_end (le_zs w v0 (w.heap.size + 1) a.zs none a.zsc 0 t.zs [] TC _ _ (by rfl) (by rfl) (by rfl) (by rfl) (by rw [HTC.out]; rfl) HA.out.zs HL.out.zs (by have := HN0.out; omega) (by omega) HB0.out hs0 HX0.out HO0.out _ ?_) (fun _ _ h => h)
  intro F_ v1 A1 c1 hF_ h1_ h2_ h3_ hb_ hs1 hx_ ho_
  obtain ⟨s0, rfl⟩ := fr291_ex F_ hF_
  have e1_ : s0 1 = .pointer (some ⟨w.heap.size, 0, none⟩) := Option.some.inj h1_
  have e2_ : s0 2 = .slice none 0 0 := Option.some.inj h2_
  obtain ⟨L1, hL_⟩ : ∃ L : List El, L = [] ++ t.zs.map Zn.el := ⟨_, rfl⟩
  rw [← hL_] at h3_ ho_
  have e3_ : s0 3 = .slice A1 L1.length c1 := Option.some.inj h3_
  have HE1 := hQ0 hL_
  have HN1 : Hid (L1.length ≤ 1000) := hQ0 (by rw [hL_]; have h1 := HL.out.zs; have h2 := HN0.out; simp only [List.length_append, List.length_map, List.length_nil] at *; omega)
  have HB1 := hQ0 hb_
  have HX1 := hQ0 hx_
  have HO1 := hQ0 ho_
  clear hb_ hx_ ho_ hL_ h1_ h2_ h3_ hF_ HX0 HB0 HO0
  unfold fr291
  rw [e1_, e2_, e3_]
  clear e1_ e2_ e3_
  show _
  as_aux_lemma =>
   go_upto_region 8 with (fail)
   refine wp_region_lit ?_
   refine wpList_plain rfl fun K hK => ?_; go_simp; apply hK; clear hK K
   refine wpList_nil ?_
   (try go_simp)
   go_step
   refine wp_of_end (le_ss w v1 (w.heap.size + 1) a.ss A1 a.ssc c1 t.ss L1 TC t.rad _ _ (by rfl) (by rfl) (by rfl) (by rfl) (by rw [HTC.out]; rfl) (by rw [HTC.out]; rfl) HR.out.1 HR.out.2 HA.out.ss HL.out.ss (by have := HN1.out; omega) (by omega) HB1.out hs1 HX1.out HO1.out _ ?_) (fun _ _ h => h)
   intro F_ v2 A2 c2 hF_ h1_ h2_ h3_ hb_ hs2 hx_ ho_
   obtain ⟨s1, rfl⟩ := fr291_ex F_ hF_
   have e1_ : s1 1 = .pointer (some ⟨w.heap.size, 0, none⟩) := Option.some.inj h1_
   have e2_ : s1 2 = .slice none 0 0 := Option.some.inj h2_
   obtain ⟨L2, hL_⟩ : ∃ L : List El, L = L1 ++ t.ss.map (Sc.el t.rad) := ⟨_, rfl⟩
   rw [← hL_] at h3_ ho_
   have e3_ : s1 3 = .slice A2 L2.length c2 := Option.some.inj h3_
   have HE2 := hQ0 hL_
   have HN2 : Hid (L2.length ≤ 2000) := hQ0 (by rw [hL_]; have h1 := HL.out.ss; have h2 := HN1.out; simp only [List.length_append, List.length_map, List.length_nil] at *; omega)
   have HB2 := hQ0 hb_
   have HX2 := hQ0 hx_
   have HO2 := hQ0 ho_
   clear hb_ hx_ ho_ hL_ h1_ h2_ h3_ hF_ HX1 HB1 HO1
   unfold fr291
   rw [e1_, e2_, e3_]
   clear e1_ e2_ e3_
   show _
   as_aux_lemma =>
    go_upto_region 14 with (fail)
    refine wp_region_lit ?_
    refine wpList_plain rfl fun K hK => ?_; go_simp; apply hK; clear hK K
    refine wpList_nil ?_
    (try go_simp)
    go_step
    refine wp_of_end (le_las w v2 (w.heap.size + 1) a.las A2 a.lasc c2 t.las L2 TC _ _ (by rfl) (by rfl) (by rfl) (by rfl) (by rw [HTC.out]; rfl) HA.out.las HL.out.las (by have := HN2.out; omega) (by omega) HB2.out hs2 HX2.out HO2.out _ ?_) (fun _ _ h => h)
    intro F_ v3 A3 c3 hF_ h1_ h2_ h3_ hb_ hs3 hx_ ho_
    obtain ⟨s2, rfl⟩ := fr291_ex F_ hF_
    have e1_ : s2 1 = .pointer (some ⟨w.heap.size, 0, none⟩) := Option.some.inj h1_
    have e2_ : s2 2 = .slice none 0 0 := Option.some.inj h2_
    obtain ⟨L3, hL_⟩ : ∃ L : List El, L = L2 ++ t.las.map La.el := ⟨_, rfl⟩
    rw [← hL_] at h3_ ho_
    have e3_ : s2 3 = .slice A3 L3.length c3 := Option.some.inj h3_
    have HE3 := hQ0 hL_
    have HN3 : Hid (L3.length ≤ 3000) := hQ0 (by rw [hL_]; have h1 := HL.out.las; have h2 := HN2.out; simp only [List.length_append, List.length_map, List.length_nil] at *; omega)
    have HB3 := hQ0 hb_
    have HX3 := hQ0 hx_
    have HO3 := hQ0 ho_
    clear hb_ hx_ ho_ hL_ h1_ h2_ h3_ hF_ HX2 HB2 HO2
    unfold fr291
    rw [e1_, e2_, e3_]
    clear e1_ e2_ e3_
    show _
    as_aux_lemma =>
     go_upto_region 19 with (fail)
     refine wp_region_lit ?_
     refine wpList_plain rfl fun K hK => ?_; go_simp; apply hK; clear hK K
     refine wpList_nil ?_
     (try go_simp)
     go_step
     refine wp_of_end (le_rs w v3 (w.heap.size + 1) a.rs A3 a.rsc c3 t.rs L3 TC _ _ (by rfl) (by rfl) (by rfl) (by rfl) (by rw [HTC.out]; rfl) HA.out.rs HL.out.rs (by have := HN3.out; omega) (by omega) HB3.out hs3 HX3.out HO3.out _ ?_) (fun _ _ h => h)
     intro F_ v4 A4 c4 hF_ h1_ h2_ h3_ hb_ hs4 hx_ ho_
     obtain ⟨s3, rfl⟩ := fr291_ex F_ hF_
     have e1_ : s3 1 = .pointer (some ⟨w.heap.size, 0, none⟩) := Option.some.inj h1_
     have e2_ : s3 2 = .slice none 0 0 := Option.some.inj h2_
     obtain ⟨L4, hL_⟩ : ∃ L : List El, L = L3 ++ t.rs.map Ra.el := ⟨_, rfl⟩
     rw [← hL_] at h3_ ho_
     have e3_ : s3 3 = .slice A4 L4.length c4 := Option.some.inj h3_
     have HE4 := hQ0 hL_
     have HN4 : Hid (L4.length ≤ 4000) := hQ0 (by rw [hL_]; have h1 := HL.out.rs; have h2 := HN3.out; simp only [List.length_append, List.length_map, List.length_nil] at *; omega)
     have HB4 := hQ0 hb_
     have HX4 := hQ0 hx_
     have HO4 := hQ0 ho_
     clear hb_ hx_ ho_ hL_ h1_ h2_ h3_ hF_ HX3 HB3 HO3
     unfold fr291
     rw [e1_, e2_, e3_]
     clear e1_ e2_ e3_
     show _
     as_aux_lemma =>
      go_upto_region 25 with (fail)
      refine wp_region_lit ?_
      refine wpList_plain rfl fun K hK => ?_; go_simp; apply hK; clear hK K
      refine wpList_nil ?_
      (try go_simp)
      go_step
      refine wp_of_end (le_ds w v4 (w.heap.size + 1) a.ds A4 a.dsc c4 t.ds L4 TC _ _ (by rfl) (by rfl) (by rfl) (by rfl) (by rw [HTC.out]; rfl) HA.out.ds HL.out.ds (by have := HN4.out; omega) (by omega) HB4.out hs4 HX4.out HO4.out _ ?_) (fun _ _ h => h)
      intro F_ v5 A5 c5 hF_ h1_ h2_ h3_ hb_ hs5 hx_ ho_
      obtain ⟨s4, rfl⟩ := fr291_ex F_ hF_
      have e1_ : s4 1 = .pointer (some ⟨w.heap.size, 0, none⟩) := Option.some.inj h1_
      have e2_ : s4 2 = .slice none 0 0 := Option.some.inj h2_
      obtain ⟨L5, hL_⟩ : ∃ L : List El, L = L4 ++ t.ds.map Dr.el := ⟨_, rfl⟩
      rw [← hL_] at h3_ ho_
      have e3_ : s4 3 = .slice A5 L5.length c5 := Option.some.inj h3_
      have HE5 := hQ0 hL_
      have HN5 : Hid (L5.length ≤ 5000) := hQ0 (by rw [hL_]; have h1 := HL.out.ds; have h2 := HN4.out; simp only [List.length_append, List.length_map, List.length_nil] at *; omega)
      have HB5 := hQ0 hb_
      have HX5 := hQ0 hx_
      have HO5 := hQ0 ho_
      clear hb_ hx_ ho_ hL_ h1_ h2_ h3_ hF_ HX4 HB4 HO4
      unfold fr291
      rw [e1_, e2_, e3_]
      clear e1_ e2_ e3_
      show _
      as_aux_lemma =>
       go_upto_region 30 with (fail)
       refine wp_region_lit ?_
       refine wpList_plain rfl fun K hK => ?_; go_simp; apply hK; clear hK K
       refine wpList_nil ?_
       (try go_simp)
       go_step
       refine wp_of_end (le_lns w v5 (w.heap.size + 1) a.lns A5 a.lnsc c5 t.lns L5 TC _ _ (by rfl) (by rfl) (by rfl) (by rfl) (by rw [HTC.out]; rfl) HA.out.lns HL.out.lns (by have := HN5.out; omega) (by omega) HB5.out hs5 HX5.out HO5.out _ ?_) (fun _ _ h => h)
       intro F_ v6 A6 c6 hF_ h1_ h2_ h3_ hb_ hs6 hx_ ho_
       obtain ⟨s5, rfl⟩ := fr291_ex F_ hF_
       have e1_ : s5 1 = .pointer (some ⟨w.heap.size, 0, none⟩) := Option.some.inj h1_
       have e2_ : s5 2 = .slice none 0 0 := Option.some.inj h2_
       obtain ⟨L6, hL_⟩ : ∃ L : List El, L = L5 ++ t.lns.map Ln.el := ⟨_, rfl⟩
       rw [← hL_] at h3_ ho_
       have e3_ : s5 3 = .slice A6 L6.length c6 := Option.some.inj h3_
       have HE6 := hQ0 hL_
       have HN6 : Hid (L6.length ≤ 6000) := hQ0 (by rw [hL_]; have h1 := HL.out.lns; have h2 := HN5.out; simp only [List.length_append, List.length_map, List.length_nil] at *; omega)
       have HB6 := hQ0 hb_
       have HX6 := hQ0 hx_
       have HO6 := hQ0 ho_
       clear hb_ hx_ ho_ hL_ h1_ h2_ h3_ hF_ HX5 HB5 HO5
       unfold fr291
       rw [e1_, e2_, e3_]
       clear e1_ e2_ e3_
       show _
       as_aux_lemma =>
        have hE : L6 = t.elems2 := by rw [HE6.out, HE5.out, HE4.out, HE3.out, HE2.out, HE1.out]; rfl
        have hO := HO6.out
        have hB := HB6.out
        rw [hE] at hO ⊢
        go_wp2_with fail
        go_ret
        exact ⟨A6, c6, rfl, hB, hO⟩
set_option maxRecDepth 100000 in
set_option maxHeartbeats 8000000 in
theorem relements_any (t : Tb) (a : TbA) (w : World) (hA : TbAt w t a) (hl : TbLen t 1000) (hr : 0 ≤ t.rad ∧ t.rad ≤ 32768) :
  Calls Tryz.prog 36 #[t.v a] w fun e w' => ∃ A c, e = .returned (.slice A t.elems.length c) ∧ Below w.heap.size w w' ∧ ElOwn w' (w.heap.size + 1) A c t.elems := by
 have HA := hQ0 hA
 have HL := hQ0 hl
 have HR := hQ0 hr
 clear hA hl hr
 obtain ⟨TC, hTC⟩ : ∃ z : List Value, z = t.cells a := ⟨_, rfl⟩
 have HTC := hQ0 hTC
 clear hTC
 go_enter Tryz.func36, Tryz.ntmps36; (try simp only [List.append_eq, List.cons_append, List.nil_append])
 go_upto_region 2 with (fail)
 (refine pin_eqT (fun v0 hE => ?_))
 have HX0 : Hid (BoxAt v0 w.heap.size TC) := hQ0 (by rw [hE, HTC.out]; exact BoxAt.new _ _ _)
 have HB0 : Hid (Below w.heap.size w v0) := hQ0 (by rw [hE]; ((with_reducible (repeat (first | exact bR _ _ | apply bS | apply bA | apply bD | refine bT ?_ (by assumption) ?_ | refine bO (by assumption) ?_ ?_))) <;> (first | omega | (simp <;> omega))))
 have hs0 : w.heap.size + 1 ≤ v0.heap.size := by rw [hE]; simp
 clear hE
 obtain ⟨L0, hL0⟩ : ∃ L : List El, L = [] := ⟨_, rfl⟩
 have HE0 : Hid (L0 = ([] : List El)) := hQ0 hL0
 have HN0 : Hid (L0.length ≤ 0) := hQ0 (by rw [hL0]; simp)
 have HO0 : Hid (ElOwn v0 (w.heap.size + 1) none 0 L0) := hQ0 (by rw [hL0]; exact World.ownsRow_nil _ _ _ _)
 obtain ⟨nl, hnl⟩ : ∃ z : Nat, z = L0.length := ⟨_, rfl⟩
 have hnl0 : nl = 0 := by rw [hnl, hL0]; rfl
 clear hL0
 as_aux_lemma =>
  obtain rfl : L0 = [] := HE0.out
  refine wp_region_lit ?_
  refine wpList_plain rfl fun K hK => ?_; go_simp; apply hK; clear hK K
  refine wpList_nil ?_
  (try go_simp)
  go_step
  refine wp_of_end (le_ws w v0 (w.heap.size + 1) a.ws none a.wsc 0 t.ws [] TC _ _ (by rfl) (by rfl) (by rfl) (by rfl) (by rw [HTC.out]; rfl) HA.out.ws HL.out.ws (by have := HN0.out; omega) (by omega) HB0.out hs0 HX0.out HO0.out _ ?_) (fun _ _ h => h)
  intro F_ v1 A1 c1 hF_ h1_ h2_ h3_ hb_ hs1 hx_ ho_
  obtain ⟨s0, rfl⟩ := fr266_ex F_ hF_
  have e1_ : s0 1 = .pointer (some ⟨w.heap.size, 0, none⟩) := Option.some.inj h1_
  have e2_ : s0 2 = .slice none 0 0 := Option.some.inj h2_
  obtain ⟨L1, hL_⟩ : ∃ L : List El, L = [] ++ t.ws.map Wl.el := ⟨_, rfl⟩
  rw [← hL_] at h3_ ho_
  have e3_ : s0 3 = .slice A1 L1.length c1 := Option.some.inj h3_
  have HE1 := hQ0 hL_
  have HN1 : Hid (L1.length ≤ 1000) := hQ0 (by rw [hL_]; have h1 := HL.out.ws; have h2 := HN0.out; simp only [List.length_append, List.length_map, List.length_nil] at *; omega)
  have HB1 := hQ0 hb_
  have HX1 := hQ0 hx_
  have HO1 := hQ0 ho_
  clear hb_ hx_ ho_ hL_ h1_ h2_ h3_ hF_ HX0 HB0 HO0
  unfold fr266
  rw [e1_, e2_, e3_]
  clear e1_ e2_ e3_
  show _
  as_aux_lemma =>
   go_upto_region 8 with (fail)
   refine wp_region_lit ?_
   refine wpList_plain rfl fun K hK => ?_; go_simp; apply hK; clear hK K
   refine wpList_nil ?_
   (try go_simp)
   go_step
   refine wp_of_end (le_ars w v1 (w.heap.size + 1) a.ars A1 a.arsc c1 t.ars L1 TC t.rad _ _ (by rfl) (by rfl) (by rfl) (by rfl) (by rw [HTC.out]; rfl) (by rw [HTC.out]; rfl) HR.out.1 HR.out.2 HA.out.ars HL.out.ars (by have := HN1.out; omega) (by omega) HB1.out hs1 HX1.out HO1.out _ ?_) (fun _ _ h => h)
   intro F_ v2 A2 c2 hF_ h1_ h2_ h3_ hb_ hs2 hx_ ho_
   obtain ⟨s1, rfl⟩ := fr266_ex F_ hF_
   have e1_ : s1 1 = .pointer (some ⟨w.heap.size, 0, none⟩) := Option.some.inj h1_
   have e2_ : s1 2 = .slice none 0 0 := Option.some.inj h2_
   obtain ⟨L2, hL_⟩ : ∃ L : List El, L = L1 ++ t.ars.map (Ac.el t.rad) := ⟨_, rfl⟩
   rw [← hL_] at h3_ ho_
   have e3_ : s1 3 = .slice A2 L2.length c2 := Option.some.inj h3_
   have HE2 := hQ0 hL_
   have HN2 : Hid (L2.length ≤ 2000) := hQ0 (by rw [hL_]; have h1 := HL.out.ars; have h2 := HN1.out; simp only [List.length_append, List.length_map, List.length_nil] at *; omega)
   have HB2 := hQ0 hb_
   have HX2 := hQ0 hx_
   have HO2 := hQ0 ho_
   clear hb_ hx_ ho_ hL_ h1_ h2_ h3_ hF_ HX1 HB1 HO1
   unfold fr266
   rw [e1_, e2_, e3_]
   clear e1_ e2_ e3_
   show _
   as_aux_lemma =>
    go_upto_region 14 with (fail)
    refine wp_region_lit ?_
    refine wpList_plain rfl fun K hK => ?_; go_simp; apply hK; clear hK K
    refine wpList_nil ?_
    (try go_simp)
    go_step
    refine wp_of_end (le_ps w v2 (w.heap.size + 1) a.ps A2 a.psc c2 t.ps L2 TC _ _ (by rfl) (by rfl) (by rfl) (by rfl) (by rw [HTC.out]; rfl) HA.out.ps HL.out.ps (by have := HN2.out; omega) (by omega) HB2.out hs2 HX2.out HO2.out _ ?_) (fun _ _ h => h)
    intro F_ v3 A3 c3 hF_ h1_ h2_ h3_ hb_ hs3 hx_ ho_
    obtain ⟨s2, rfl⟩ := fr266_ex F_ hF_
    have e1_ : s2 1 = .pointer (some ⟨w.heap.size, 0, none⟩) := Option.some.inj h1_
    have e2_ : s2 2 = .slice none 0 0 := Option.some.inj h2_
    obtain ⟨L3, hL_⟩ : ∃ L : List El, L = L2 ++ t.ps.map Ps.el := ⟨_, rfl⟩
    rw [← hL_] at h3_ ho_
    have e3_ : s2 3 = .slice A3 L3.length c3 := Option.some.inj h3_
    have HE3 := hQ0 hL_
    have HN3 : Hid (L3.length ≤ 3000) := hQ0 (by rw [hL_]; have h1 := HL.out.ps; have h2 := HN2.out; simp only [List.length_append, List.length_map, List.length_nil] at *; omega)
    have HB3 := hQ0 hb_
    have HX3 := hQ0 hx_
    have HO3 := hQ0 ho_
    clear hb_ hx_ ho_ hL_ h1_ h2_ h3_ hF_ HX2 HB2 HO2
    unfold fr266
    rw [e1_, e2_, e3_]
    clear e1_ e2_ e3_
    show _
    as_aux_lemma =>
     go_upto_region 20 with (fail)
     refine wp_region_lit ?_
     refine wpList_plain rfl fun K hK => ?_; go_simp; apply hK; clear hK K
     refine wpList_nil ?_
     (try go_simp)
     go_step
     refine wp_of_end (le_fs w v3 (w.heap.size + 1) a.fs A3 a.fsc c3 t.fs L3 TC _ _ (by rfl) (by rfl) (by rfl) (by rfl) (by rw [HTC.out]; rfl) HA.out.fs HL.out.fs (by have := HN3.out; omega) (by omega) HB3.out hs3 HX3.out HO3.out _ ?_) (fun _ _ h => h)
     intro F_ v4 A4 c4 hF_ h1_ h2_ h3_ hb_ hs4 hx_ ho_
     obtain ⟨s3, rfl⟩ := fr266_ex F_ hF_
     have e1_ : s3 1 = .pointer (some ⟨w.heap.size, 0, none⟩) := Option.some.inj h1_
     have e2_ : s3 2 = .slice none 0 0 := Option.some.inj h2_
     obtain ⟨L4, hL_⟩ : ∃ L : List El, L = L3 ++ t.fs.map Fl.el := ⟨_, rfl⟩
     rw [← hL_] at h3_ ho_
     have e3_ : s3 3 = .slice A4 L4.length c4 := Option.some.inj h3_
     have HE4 := hQ0 hL_
     have HN4 : Hid (L4.length ≤ 4000) := hQ0 (by rw [hL_]; have h1 := HL.out.fs; have h2 := HN3.out; simp only [List.length_append, List.length_map, List.length_nil] at *; omega)
     have HB4 := hQ0 hb_
     have HX4 := hQ0 hx_
     have HO4 := hQ0 ho_
     clear hb_ hx_ ho_ hL_ h1_ h2_ h3_ hF_ HX3 HB3 HO3
     unfold fr266
     rw [e1_, e2_, e3_]
     clear e1_ e2_ e3_
     show _
     as_aux_lemma =>
      have hE : L4 = t.elems1 := by rw [HE4.out, HE3.out, HE2.out, HE1.out]; rfl
      obtain ⟨nL, hnL⟩ : ∃ z, z = L4.length := ⟨_, rfl⟩
      have hT_ := HX4.out
      rw [HTC.out] at hT_
      have KP := rplaces_any t a v4 (HA.out.below HB4.out (Nat.le_refl _)) HL.out HR.out
      have HKP := hQ0 KP
      have HTT := hQ0 hT_
      clear KP hT_
      go_upto_region 26 with (fail)
      refine wp_region_lit ?_
      refine wpList_plain rfl fun K hK => ?_; go_simp; apply hK; clear hK K
      apply wpL_maybe true (by exact rfl) (t.v a)
      (case h => intro _; exact load_tb _ _ 1 rfl w.heap.size (by first | rfl | (go_simp; done)) t a _ HTT.out)
      intro K hK; go_simp; apply hK; clear hK K
      refine wpList_plain rfl fun K hK => ?_
      go_simp
      go_at_call 86
      refine HKP.out.mono ?_
      rintro e v9 ⟨A9, c9, rfl, hb9, ho9⟩
      refine hK _ _ ?_
      clear hK K
      have HB9 := hQ0 (HB4.out.trans (hb9.mono (by have := HB4.out.size; omega)))
      have HO9 : Hid (ElOwn v9 (w.heap.size + 1) A4 c4 L4) := hQ0 (own_below HO4.out hb9 (Nat.le_refl _))
      have hs9 : w.heap.size + 1 ≤ v9.heap.size := Nat.le_trans hs4 hb9.size
      have HP9 := hQ0 ho9
      clear ho9 hb9
      have HLA : Hid (L4.length + t.elems2.length ≤ maxLen ∧ (L4.length + t.elems2.length) * 24 ≤ 140737488355328) := hQ0 (by
       have h1 := HN4.out
       have h2 := HL.out.zs
       have h3 := HL.out.ss
       have h4 := HL.out.las
       have h5 := HL.out.rs
       have h6 := HL.out.ds
       have h7 := HL.out.lns
       unfold Tb.elems2
       simp only [List.length_append, List.length_map]
       unfold maxLen
       omega)
      go_simp
      refine wpList_append_els (.tmp 262) (.tmp 264) rfl (w.heap.size + 1) L4 t.elems2 A4 c4 A9 c9 (by go_simp; try exact rfl) HO9.out (by go_simp; try exact rfl) _ HP9.out HLA.out.1 HLA.out.2 hs9 ?_
      intro A5 c5 v' hg5 ho5
      have hE2 : L4 ++ t.elems2 = t.elems := by rw [hE]; rfl
      rw [hE2] at ho5 ⊢
      have HO5 := hQ0 ho5
      have hfr : ∀ j, (Value.slice A4 L4.length c4).ownBlock = some j → w.heap.size + 1 ≤ j := fun j hj => (World.ownsRow.lt HO9.out j hj).1
      have HB5 : Hid (Below w.heap.size w v') := hQ0 (HB9.out.trans (below_grown hg5 (fun j hj => by have := hfr j hj; omega) HB9.out.size))
      clear hg5 ho5
      go_simp
      refine wpList_plain rfl fun K hK => ?_; go_simp; apply hK; clear hK K
      refine wpList_nil ?_
      (try go_simp)
      go_wp2_with fail
      go_ret
      exact ⟨A5, c5, rfl, HB5.out, HO5.out⟩
theorem pin_cwS {P : Program} {f : FuncId} {args : Array Value} {w : World} {Q : Ending → World → Prop} (h : ∀ w0, w0 = w → Calls P f args w0 Q) : Calls P f args w Q := h w rfl
set_option maxRecDepth 100000 in
set_option maxHeartbeats 4000000 in
theorem rnearer_any (a b : Vc) (n : Int) (w : World) (ha : nearV 1048576 a = true) (hb : nearV 1048576 b = true) (h0 : 0 < n) (h1 : n ≤ 1048576) :
  Calls Tryz.prog 89 #[.agg #[.int .i64 a.x, .int .i64 a.y], .agg #[.int .i64 b.x, .int .i64 b.y], .int .i64 n] w fun e w' => e = .returned (.bool (nearR a b n)) ∧ Below w.heap.size w w' := by
 rw [← nearer_eq ha hb h0]
 have hs := nearV_sm ha
 have ht := nearV_sm hb
 unfold nearerR
 rw [hs, ht]
 clear hs ht
 obtain ⟨a1, a2, a3, a4⟩ := nearV_bd ha
 obtain ⟨b1, b2, b3, b4⟩ := nearV_bd hb
 obtain ⟨ax, ay⟩ := a
 obtain ⟨bx, bY⟩ := b
 simp only at a1 a2 a3 a4 b1 b2 b3 b4
 have hsa : smallB ax ay = true := small_of (by omega)
 have hsb : smallB bx bY = true := small_of (by omega)
 have HA := hQ0 (fun W => by have := rsmall_any ax ay W; rwa [hsa] at this)
 have HB := hQ0 (fun W => by have := rsmall_any bx bY W; rwa [hsb] at this)
 clear ha hb hsa hsb
 simp only [Bool.true_and]
 obtain ⟨x, hx⟩ : ∃ z, z = ax - bx := ⟨_, rfl⟩
 obtain ⟨y, hy⟩ : ∃ z, z = ay - bY := ⟨_, rfl⟩
 have x1 : -2097152 ≤ x ∧ x ≤ 2097152 := by omega
 have y1 : -2097152 ≤ y ∧ y ≤ 2097152 := by omega
 rw [← hx, ← hy]
 have ex : IntKind.i64.wrap (ax - bx) = x := by rw [← hx, IntKind.wrap_i64]; omega
 have ey : IntKind.i64.wrap (ay - bY) = y := by rw [← hy, IntKind.wrap_i64]; omega
 have m1 := mul_bd x x 2097152 2097152 (by omega) (by omega) (by omega) (by omega)
 have m2 := mul_bd y y 2097152 2097152 (by omega) (by omega) (by omega) (by omega)
 have m3 := mul_bd n n 1048576 1048576 (by omega) (by omega) (by omega) (by omega)
 obtain ⟨x1a, x1b⟩ := x1
 obtain ⟨y1a, y1b⟩ := y1
 obtain ⟨m1a, m1b⟩ := m1
 obtain ⟨m2a, m2b⟩ := m2
 obtain ⟨m3a, m3b⟩ := m3
 have hx' := hx.symm
 have hy' := hy.symm
 clear hx hy
 obtain ⟨R, hR⟩ : ∃ z, z = (decide (max x (-x) < n) && decide (max y (-y) < n) && decide (x * x + y * y < n * n)) := ⟨_, rfl⟩
 rw [← hR]
 have HR := hQ0 hR
 clear hR
 go_enter Tryz.func89, Tryz.ntmps89; (try simp only [List.append_eq, List.cons_append, List.nil_append])
 go_upto_region 3 with (first | (have hq_ := hb1; go_at_call 152; refine (HB.out _).mono ?_; rintro e w2 ⟨rfl, hb2⟩) | (go_at_call 152; refine pin_cwS (fun W0 hW => ?_); refine (HA.out _).mono ?_; rintro e w1 ⟨rfl, hb1⟩; have X0 : BoxAt W0 w.heap.size [.int .i64 ax, .int .i64 ay] := (by rw [hW]; exact (BoxAt.new w [.int .i64 ax, .int .i64 ay] 23).alloc _); have Y0 : BoxAt W0 (w.heap.size + 1) [.int .i64 bx, .int .i64 bY] := (by rw [hW]; exact (by simpa using BoxAt.new (w.alloc _) [.int .i64 bx, .int .i64 bY] 23)); have B0 : Below w.heap.size w W0 := (by rw [hW]; ((with_reducible (repeat (first | exact bR _ _ | apply bS | apply bA | apply bD | refine bT ?_ (by assumption) ?_ | refine bO (by assumption) ?_ ?_))) <;> (first | omega | (simp <;> omega)))); clear hW; have X1 := X0.below hb1 X0.lt; have Y1 := Y0.below hb1 Y0.lt; have B1 := B0.trans (hb1.mono B0.size); have c0 := X1.c 0 _ rfl; have c1 := X1.c 1 _ rfl; have d0 := Y1.c 0 _ rfl; have d1 := Y1.c 1 _ rfl))
 have X2 := X1.below hb2 X1.lt
 have Y2 := Y1.below hb2 Y1.lt
 have HB2 := hQ0 (B1.trans (hb2.mono B1.size))
 clear c0 c1 d0 d1 X0 Y0 B0 X1 Y1 B1 hb1 hb2 hq_ HA HB
 have c0 := X2.c 0 _ rfl
 have c1 := X2.c 1 _ rfl
 have d0 := Y2.c 0 _ rfl
 have d1 := Y2.c 1 _ rfl
 clear X2 Y2
 go_quiet (fail)
 go_upto_region 4 with (fail)
 (refine pin_eqT (fun w3 hE => ?_))
 have HB3 : Hid (Below w.heap.size w w3) := hQ0 (by rw [hE]; first | exact HB2.out.drewN _ | exact HB2.out.trans (below_drewN _ _ _) | exact below_drewN HB2.out _ | exact below_drewN' HB2.out _ | exact HB2.out.drew | exact HB2.out)
 clear hE c0 c1 d0 d1 HB2
 by_cases q1 : max x (-x) < n
 · by_cases q2 : max y (-y) < n
   · by_cases q3 : x * x + y * y < n * n
     · obtain rfl : R = true := by rw [HR.out]; simp only [q1, q2, q3, decide_true, Bool.and_self]
       go_wp2_with fail
       all_goals first | (go_ret; exact ⟨rfl, HB3.out⟩) | (exfalso; omega)
     · obtain rfl : R = false := by rw [HR.out]; simp only [q1, q2, q3, decide_true, decide_false, Bool.and_false]
       go_wp2_with fail
       all_goals first | (go_ret; exact ⟨rfl, HB3.out⟩) | (exfalso; omega)
   · obtain rfl : R = false := by rw [HR.out]; simp only [q1, q2, decide_true, decide_false, Bool.and_false, Bool.false_and]
     go_wp2_with fail
     all_goals first | (go_ret; exact ⟨rfl, HB3.out⟩) | (exfalso; omega)
 · obtain rfl : R = false := by rw [HR.out]; simp only [q1, decide_false, Bool.false_and]
   go_wp2_with fail
   all_goals first | (go_ret; exact ⟨rfl, HB3.out⟩) | (exfalso; omega)
attribute [local go_sem ↓] evalL getL64 setL64
attribute [local go_sem ↓] getL8 setL8
attribute [local go_sem ↓] getL1 getL0
theorem BoxAt.two_l (w : World) (l m : List Value) (s t : TypeId) : BoxAt ((w.alloc (.cells l.toArray s)).alloc (.cells m.toArray t)).drew w.heap.size l := ((BoxAt.new w l s).alloc _).drew
theorem BoxAt.two_r (w : World) (l m : List Value) (s t : TypeId) : BoxAt ((w.alloc (.cells l.toArray s)).alloc (.cells m.toArray t)).drew (w.heap.size + 1) m := by
 have h := (BoxAt.new (w.alloc (.cells l.toArray s)) m t).drew
 simpa using h
def OvR (t : Tb) : Prop := (∀ x ∈ t.ss, nearV 1048576 ⟨x.c1, x.c2⟩ = true ∧ 1 ≤ x.sz ∧ x.sz ≤ 262144) ∧ (∀ x ∈ t.rs, nearV 1048576 ⟨x.c1, x.c2⟩ = true ∧ 1 ≤ x.sz ∧ x.sz ≤ 262144) ∧ (∀ x ∈ t.lns, nearV 1048576 ⟨x.a1, x.a2⟩ = true) ∧ 1 ≤ t.rad ∧ t.rad ≤ 32768
set_option maxRecDepth 100000 in
set_option maxHeartbeats 8000000 in
theorem roverlap_any (t : Tb) (a : TbA) (w : World) (hA : TbAt w t a) (ho : OvR t) (hl : t.ss.length ≤ 64 ∧ t.rs.length ≤ 64 ∧ t.lns.length ≤ 64) :
    Calls Tryz.prog 38 #[t.v a] w fun e w' => e = .returned (.bool t.over) ∧ Below w.heap.size w w' := by
  have HA := hQ0 hA
  have HO := hQ0 ho
  clear hA ho
  obtain ⟨rad, bal, rst, gx, gy, drg, shf, tr, ws, ars, ps, fs, zs, ss, las, rs, ds, lns⟩ := t
  obtain ⟨Atr, ctr, Aws, cws, Aars, cars, Aps, cps, Afs, cfs, Azs, czs, Ass, css, Alas, clas, Ars, crs, Ads, cds, Alns, clns⟩ := a
  unfold Tb.v Tb.over
  simp only at hl ⊢
  obtain ⟨hl1, hl2, hl3⟩ := hl
  obtain ⟨R1, hR1⟩ : ∃ b, b = overA Sc.ov [] ss := ⟨_, rfl⟩
  obtain ⟨R2, hR2⟩ : ∃ b, b = overA Ra.ov [] rs := ⟨_, rfl⟩
  obtain ⟨R3, hR3⟩ : ∃ b, b = overA (Ln.ov rad) [] lns := ⟨_, rfl⟩
  rw [← hR1, ← hR2, ← hR3]
  have HR1 : Hid (overA Sc.ov (ss.take 0) (ss.drop 0) = R1) := hQ0 (by rw [hR1]; rfl)
  have HR2 : Hid (overA Ra.ov (rs.take 0) (rs.drop 0) = R2) := hQ0 (by rw [hR2]; rfl)
  have HR3 : Hid (overA (Ln.ov rad) (lns.take 0) (lns.drop 0) = R3) := hQ0 (by rw [hR3]; rfl)
  clear hR1 hR2 hR3
  obtain ⟨TC, hTC⟩ : ∃ z : List Value, z = [.int .i64 rad, .int .i64 bal, .int .i64 rst, .int .i64 gx, .int .i64 gy, .int .i64 drg, .int .i64 shf, .slice Atr tr.length ctr, .slice Aws ws.length cws, .slice Aars ars.length cars, .slice Aps ps.length cps, .slice Afs fs.length cfs, .slice Azs zs.length czs, .slice Ass ss.length css, .slice Alas las.length clas, .slice Ars rs.length crs, .slice Ads ds.length cds, .slice Alns lns.length clns] := ⟨_, rfl⟩
  have HTC := hQ0 hTC
  clear hTC
  go_enter Tryz.func38, Tryz.ntmps38; (try simp only [List.append_eq, List.cons_append, List.nil_append])
  go_upto_region 1 with (fail)
  (refine pin_eqT (fun w1 hE_w1 => ?_))
  have hT : BoxAt w1 w.heap.size TC := by rw [hE_w1, HTC.out]; exact BoxAt.new _ _ _
  have hb : Below w.heap.size w w1 := by rw [hE_w1]; ((with_reducible (repeat (first | exact bR _ _ | apply bS | apply bA | apply bD | refine bT ?_ (by assumption) ?_ | refine bO (by assumption) ?_ ?_))) <;> (first | omega | (simp <;> omega)))
  clear hE_w1
  have ta := hT.c 13 (.slice Ass ss.length css) (by rw [HTC.out]; rfl)
  have hlt_ := hT.lt
  go_wp2_with fail
  go_loopg [3] (ss.length + 1) (fun gk tt wr => ∃ k : Nat, k ≤ ss.length ∧ ss.length - k < gk ∧ tt = .int .i64 k ∧ Below w.heap.size w wr ∧ BoxAt wr w.heap.size TC ∧ Hid (overA Sc.ov (ss.take k) (ss.drop k) = R1))
  case atStart => exact ⟨0, by omega, by omega, rfl, hb, hT, HR1⟩
  case round =>
    obtain ⟨ws_, rfl⟩ : ∃ z, z = wr := ⟨_, rfl⟩
    clear hb hT ta hlt_ HR1
    obtain ⟨k, hk, hkk, rfl, hb_ws, hTr, HJ⟩ := hrel
    have hz_ws := hb_ws.size
    have ta := hTr.c 13 (.slice Ass ss.length css) (by rw [HTC.out]; rfl)
    have hltT := hTr.lt
    by_cases hlt : k < ss.length
    · as_aux_lemma =>
        obtain ⟨x, hx⟩ : ∃ x, ss[k]? = some x := ⟨ss[k], by simp⟩
        have i1 : (k : Int) < (ss.length : Int) := by omega
        have HX := hQ0 hx
        have HOX := hQ0 (HO.out.1 x (List.mem_of_getElem? hx))
        clear hx
        have HJ2 : Hid ((((ss.take k).drop 0).any (Sc.ov x) || overA Sc.ov (ss.take (k + 1)) (ss.drop (k + 1))) = R1) := hQ0 (by rw [← HJ.out, overA_step HX.out]; rfl)
        have HBe := hQ0 hb_ws
        have HTr := hQ0 hTr
        clear hb_ws hTr
        go_wp2_with fail
        go_loopg [4] (k + 1) (fun gj tt wr => ∃ j : Nat, j ≤ k ∧ k - j < gj ∧ tt = .int .i64 j ∧ Below w.heap.size w wr ∧ BoxAt wr w.heap.size TC ∧ Hid ((((ss.take k).drop j).any (Sc.ov x) || overA Sc.ov (ss.take (k + 1)) (ss.drop (k + 1))) = R1))
        case atStart => exact ⟨0, by omega, by omega, rfl, HBe.out, HTr.out, HJ2⟩
        case round =>
          obtain ⟨wj_, rfl⟩ : ∃ z, z = wr := ⟨_, rfl⟩
          clear ta hltT HJ2 HBe HTr
          obtain ⟨j, hj, hjj, rfl, hb_wj, hTj, HJj⟩ := hrel
          have hz_wj := hb_wj.size
          by_cases hjk : j < k
          · obtain ⟨y, hy⟩ : ∃ y, ss[j]? = some y := ⟨ss[j]'(by omega), by simp⟩
            have ta := hTj.c 13 (.slice Ass ss.length css) (by rw [HTC.out]; rfl)
            have hltT := hTj.lt
            obtain ⟨g, o, hAe, hg, c0, c1, c2, c3, c4, c5, c6, c7, c8, c9⟩ := Sc.get (HA.out.ss.below hb_wj (Nat.le_refl _)) HX.out
            obtain ⟨g', o', hAe', hg', d0, d1, d2, d3, d4, d5, d6, d7, d8, d9⟩ := Sc.get (HA.out.ss.below hb_wj (Nat.le_refl _)) hy
            simp only at hAe hAe'
            subst hAe
            simp only [Option.some.injEq, Addr.mk.injEq, and_true] at hAe'
            obtain ⟨rfl, rfl⟩ := hAe'
            have i3 : (j : Int) < (k : Int) := by omega
            have i4 : (j : Int) < (ss.length : Int) := by omega
            have HY := hQ0 hy
            have HBj := hQ0 hb_wj
            have HTj := hQ0 hTj
            have HOY := hQ0 (HO.out.1 y (List.mem_of_getElem? hy))
            have HB0 : Hid (1 ≤ x.sz ∧ x.sz ≤ 262144 ∧ 1 ≤ y.sz ∧ y.sz ≤ 262144) := hQ0 ⟨HOX.out.2.1, HOX.out.2.2, HOY.out.2.1, HOY.out.2.2⟩
            have HD : Hid (IntKind.i64.wrap (x.sz + y.sz) = (x.sz + y.sz)) := hQ0 (by have := HB0.out; rw [IntKind.wrap_i64]; omega)
            clear hy hb_wj hTj
            go_upto_region 7 with (fail)
            go_region
            all_goals (
              go_upto_region 8 with (fail)
              refine pin_eqT (fun w5 hE_w5 => ?_)
              obtain ⟨ga, hga⟩ : ∃ z, z = wj_.heap.size := ⟨_, rfl⟩
              obtain ⟨gb, hgb⟩ : ∃ z, z = wj_.heap.size + 1 := ⟨_, rfl⟩
              rw [← hgb, ← hga]
              first
              | (have HX5 : Hid (BoxAt w5 ga x.cells) := hQ0 (by rw [hE_w5, hga]; exact BoxAt.two_l wj_ x.cells y.cells _ _)
                 have HY5 : Hid (BoxAt w5 gb y.cells) := hQ0 (by rw [hE_w5, hgb]; exact BoxAt.two_r wj_ x.cells y.cells _ _))
              | (have HX5 : Hid (BoxAt w5 gb x.cells) := hQ0 (by rw [hE_w5, hgb]; exact BoxAt.two_r wj_ y.cells x.cells _ _)
                 have HY5 : Hid (BoxAt w5 ga y.cells) := hQ0 (by rw [hE_w5, hga]; exact BoxAt.two_l wj_ y.cells x.cells _ _))
              have HT5 : Hid (BoxAt w5 w.heap.size TC) := hQ0 (by rw [hE_w5]; exact (((HTj.out.alloc _).alloc _).drew))
              have HB5 : Hid (Below w.heap.size w w5) := hQ0 (by rw [hE_w5]; exact (((HBj.out.alloc hz_wj _).alloc (by simp; omega) _).drew))
              clear hgb hga hE_w5 c0 c1 c2 c3 c4 c5 c6 c7 c8 c9 d0 d1 d2 d3 d4 d5 d6 d7 d8 d9 HBj HTj ta hltT hg hg'
              obtain ⟨p1, hp1⟩ : ∃ b, b = nearR ⟨x.c1, x.c2⟩ ⟨y.c1, y.c2⟩ (x.sz + y.sz) := ⟨_, rfl⟩
              have KN := fun W => rnearer_any ⟨x.c1, x.c2⟩ ⟨y.c1, y.c2⟩ (x.sz + y.sz) W HOX.out.1 HOY.out.1 (by have := HB0.out; omega) (by have := HB0.out; omega)
              rw [← hp1] at KN
              have hD : Sc.ov x y = (decide (x.lv = y.lv) && p1) := by rw [hp1]; rfl
              have HJn := any_step (f := Sc.ov x) hjk HY.out
              have hJ := HJj.out
              rw [HJn, hD] at hJ
              have HN2 := hQ0 hJ
              clear hp1 hD HJn hJ
              have u1 := HX5.out.c 1 (.int .i64 x.lv) rfl
              have v1 := HY5.out.c 1 (.int .i64 y.lv) rfl
              have u2 := HX5.out.c 2 (.int .i64 x.c1) rfl
              have v2 := HY5.out.c 2 (.int .i64 y.c1) rfl
              have u3 := HX5.out.c 3 (.int .i64 x.c2) rfl
              have v3 := HY5.out.c 3 (.int .i64 y.c2) rfl
              have u4 := HX5.out.c 4 (.int .i64 x.sz) rfl
              have v4 := HY5.out.c 4 (.int .i64 y.sz) rfl
              have lx_ := HX5.out.lt
              have ly_ := HY5.out.lt
              have lt_ := HT5.out.lt
              have hw_ := HD.out
              cases q0 : decide (x.lv = y.lv)
              rotate_left
              cases p1
              all_goals (
                have hN3 := HN2.out
                simp only [q0, Bool.and_true, Bool.true_and, Bool.false_and, Bool.false_or, Bool.true_or] at hN3
                have HN3 := hQ0 hN3
                clear hN3
                first | have q9 := of_decide_eq_false q0 | have q9 := of_decide_eq_true q0
                have hbb := Below.refl w5.heap.size w5
                go_wp2_with (go_at_call 89; refine (KN _).mono ?_; rintro e w9 ⟨rfl, hb9⟩; replace hbb := hbb.trans (hb9.mono hbb.size); clear hb9)
                first
                | (go_ret
                   exact ⟨by rw [← HN3.out] <;> rfl, HB5.out.trans (hbb.mono HB5.out.size)⟩)
                | (go_roundg (k - (j + 1) + 1)
                   case measure => omega
                   case rel => exact ⟨j + 1, by omega, by omega, by go_num, HB5.out.trans (hbb.mono HB5.out.size), HT5.out.below hbb HT5.out.lt, HN3⟩)))
          · obtain rfl : j = k := by omega
            have HJ4 : Hid (overA Sc.ov (ss.take (j + 1)) (ss.drop (j + 1)) = R1) := hQ0 (by rw [← HJj.out, any_end (Nat.le_refl _)]; rfl)
            have HBj := hQ0 hb_wj
            have HTj := hQ0 hTj
            clear hb_wj hTj
            go_wp2_with fail
            go_roundg (ss.length - (j + 1) + 1)
            case measure => omega
            case rel => exact ⟨j + 1, by omega, by omega, by go_num, HBj.out, HTj.out, HJ4⟩
    · obtain rfl : k = ss.length := by omega
      obtain rfl : R1 = false := by rw [← HJ.out]; exact overA_end (Nat.le_refl _)
      have hb := hb_ws
      have hT := hTr
      clear HJ
      go_upto_region 10 with (fail)
      clear ta hltT hb_ws hTr
      as_aux_lemma =>
        have ta := hT.c 15 (.slice Ars rs.length crs) (by rw [HTC.out]; rfl)
        have hlt_ := hT.lt
        go_wp2_with fail
        go_loopg [7] (rs.length + 1) (fun gk tt wr => ∃ k : Nat, k ≤ rs.length ∧ rs.length - k < gk ∧ tt = .int .i64 k ∧ Below w.heap.size w wr ∧ BoxAt wr w.heap.size TC ∧ Hid (overA Ra.ov (rs.take k) (rs.drop k) = R2))
        case atStart => exact ⟨0, by omega, by omega, rfl, hb, hT, HR2⟩
        case round =>
          obtain ⟨ws_, rfl⟩ : ∃ z, z = wr := ⟨_, rfl⟩
          clear hb hT ta hlt_ HR2
          obtain ⟨k, hk, hkk, rfl, hb_ws, hTr, HJ⟩ := hrel
          have hz_ws := hb_ws.size
          have ta := hTr.c 15 (.slice Ars rs.length crs) (by rw [HTC.out]; rfl)
          have hltT := hTr.lt
          by_cases hlt : k < rs.length
          · as_aux_lemma =>
              obtain ⟨x, hx⟩ : ∃ x, rs[k]? = some x := ⟨rs[k], by simp⟩
              have i1 : (k : Int) < (rs.length : Int) := by omega
              have HX := hQ0 hx
              have HOX := hQ0 (HO.out.2.1 x (List.mem_of_getElem? hx))
              clear hx
              have HJ2 : Hid ((((rs.take k).drop 0).any (Ra.ov x) || overA Ra.ov (rs.take (k + 1)) (rs.drop (k + 1))) = R2) := hQ0 (by rw [← HJ.out, overA_step HX.out]; rfl)
              have HBe := hQ0 hb_ws
              have HTr := hQ0 hTr
              clear hb_ws hTr
              go_wp2_with fail
              go_loopg [8] (k + 1) (fun gj tt wr => ∃ j : Nat, j ≤ k ∧ k - j < gj ∧ tt = .int .i64 j ∧ Below w.heap.size w wr ∧ BoxAt wr w.heap.size TC ∧ Hid ((((rs.take k).drop j).any (Ra.ov x) || overA Ra.ov (rs.take (k + 1)) (rs.drop (k + 1))) = R2))
              case atStart => exact ⟨0, by omega, by omega, rfl, HBe.out, HTr.out, HJ2⟩
              case round =>
                obtain ⟨wj_, rfl⟩ : ∃ z, z = wr := ⟨_, rfl⟩
                clear ta hltT HJ2 HBe HTr
                obtain ⟨j, hj, hjj, rfl, hb_wj, hTj, HJj⟩ := hrel
                have hz_wj := hb_wj.size
                by_cases hjk : j < k
                · obtain ⟨y, hy⟩ : ∃ y, rs[j]? = some y := ⟨rs[j]'(by omega), by simp⟩
                  have ta := hTj.c 15 (.slice Ars rs.length crs) (by rw [HTC.out]; rfl)
                  have hltT := hTj.lt
                  obtain ⟨g, o, hAe, hg, c0, c1, c2, c3, c4, c5, c6, c7⟩ := Ra.get (HA.out.rs.below hb_wj (Nat.le_refl _)) HX.out
                  obtain ⟨g', o', hAe', hg', d0, d1, d2, d3, d4, d5, d6, d7⟩ := Ra.get (HA.out.rs.below hb_wj (Nat.le_refl _)) hy
                  simp only at hAe hAe'
                  subst hAe
                  simp only [Option.some.injEq, Addr.mk.injEq, and_true] at hAe'
                  obtain ⟨rfl, rfl⟩ := hAe'
                  have i3 : (j : Int) < (k : Int) := by omega
                  have i4 : (j : Int) < (rs.length : Int) := by omega
                  have HY := hQ0 hy
                  have HBj := hQ0 hb_wj
                  have HTj := hQ0 hTj
                  have HOY := hQ0 (HO.out.2.1 y (List.mem_of_getElem? hy))
                  have HB0 : Hid (1 ≤ x.sz ∧ x.sz ≤ 262144 ∧ 1 ≤ y.sz ∧ y.sz ≤ 262144) := hQ0 ⟨HOX.out.2.1, HOX.out.2.2, HOY.out.2.1, HOY.out.2.2⟩
                  have HD : Hid (IntKind.i64.wrap (x.sz + y.sz) = (x.sz + y.sz)) := hQ0 (by have := HB0.out; rw [IntKind.wrap_i64]; omega)
                  clear hy hb_wj hTj
                  go_upto_region 16 with (fail)
                  go_region
                  all_goals (
                    go_upto_region 17 with (fail)
                    refine pin_eqT (fun w5 hE_w5 => ?_)
                    obtain ⟨ga, hga⟩ : ∃ z, z = wj_.heap.size := ⟨_, rfl⟩
                    obtain ⟨gb, hgb⟩ : ∃ z, z = wj_.heap.size + 1 := ⟨_, rfl⟩
                    rw [← hgb, ← hga]
                    first
                    | (have HX5 : Hid (BoxAt w5 ga x.cells) := hQ0 (by rw [hE_w5, hga]; exact BoxAt.two_l wj_ x.cells y.cells _ _)
                       have HY5 : Hid (BoxAt w5 gb y.cells) := hQ0 (by rw [hE_w5, hgb]; exact BoxAt.two_r wj_ x.cells y.cells _ _))
                    | (have HX5 : Hid (BoxAt w5 gb x.cells) := hQ0 (by rw [hE_w5, hgb]; exact BoxAt.two_r wj_ y.cells x.cells _ _)
                       have HY5 : Hid (BoxAt w5 ga y.cells) := hQ0 (by rw [hE_w5, hga]; exact BoxAt.two_l wj_ y.cells x.cells _ _))
                    have HT5 : Hid (BoxAt w5 w.heap.size TC) := hQ0 (by rw [hE_w5]; exact (((HTj.out.alloc _).alloc _).drew))
                    have HB5 : Hid (Below w.heap.size w w5) := hQ0 (by rw [hE_w5]; exact (((HBj.out.alloc hz_wj _).alloc (by simp; omega) _).drew))
                    clear hgb hga hE_w5 c0 c1 c2 c3 c4 c5 c6 c7 d0 d1 d2 d3 d4 d5 d6 d7 HBj HTj ta hltT hg hg'
                    obtain ⟨p1, hp1⟩ : ∃ b, b = nearR ⟨x.c1, x.c2⟩ ⟨y.c1, y.c2⟩ (x.sz + y.sz) := ⟨_, rfl⟩
                    have KN := fun W => rnearer_any ⟨x.c1, x.c2⟩ ⟨y.c1, y.c2⟩ (x.sz + y.sz) W HOX.out.1 HOY.out.1 (by have := HB0.out; omega) (by have := HB0.out; omega)
                    rw [← hp1] at KN
                    have hD : Ra.ov x y = (decide (x.fr = y.fr) && p1) := by rw [hp1]; rfl
                    have HJn := any_step (f := Ra.ov x) hjk HY.out
                    have hJ := HJj.out
                    rw [HJn, hD] at hJ
                    have HN2 := hQ0 hJ
                    clear hp1 hD HJn hJ
                    have u1 := HX5.out.c 1 (.int .i64 x.fr) rfl
                    have v1 := HY5.out.c 1 (.int .i64 y.fr) rfl
                    have u3 := HX5.out.c 3 (.int .i64 x.c1) rfl
                    have v3 := HY5.out.c 3 (.int .i64 y.c1) rfl
                    have u4 := HX5.out.c 4 (.int .i64 x.c2) rfl
                    have v4 := HY5.out.c 4 (.int .i64 y.c2) rfl
                    have u5 := HX5.out.c 5 (.int .i64 x.sz) rfl
                    have v5 := HY5.out.c 5 (.int .i64 y.sz) rfl
                    have lx_ := HX5.out.lt
                    have ly_ := HY5.out.lt
                    have lt_ := HT5.out.lt
                    have hw_ := HD.out
                    cases q0 : decide (x.fr = y.fr)
                    rotate_left
                    cases p1
                    all_goals (
                      have hN3 := HN2.out
                      simp only [q0, Bool.and_true, Bool.true_and, Bool.false_and, Bool.false_or, Bool.true_or] at hN3
                      have HN3 := hQ0 hN3
                      clear hN3
                      first | have q9 := of_decide_eq_false q0 | have q9 := of_decide_eq_true q0
                      have hbb := Below.refl w5.heap.size w5
                      go_wp2_with (go_at_call 89; refine (KN _).mono ?_; rintro e w9 ⟨rfl, hb9⟩; replace hbb := hbb.trans (hb9.mono hbb.size); clear hb9)
                      first
                      | (go_ret
                         exact ⟨by rw [← HN3.out] <;> rfl, HB5.out.trans (hbb.mono HB5.out.size)⟩)
                      | (go_roundg (k - (j + 1) + 1)
                         case measure => omega
                         case rel => exact ⟨j + 1, by omega, by omega, by go_num, HB5.out.trans (hbb.mono HB5.out.size), HT5.out.below hbb HT5.out.lt, HN3⟩)))
                · obtain rfl : j = k := by omega
                  have HJ4 : Hid (overA Ra.ov (rs.take (j + 1)) (rs.drop (j + 1)) = R2) := hQ0 (by rw [← HJj.out, any_end (Nat.le_refl _)]; rfl)
                  have HBj := hQ0 hb_wj
                  have HTj := hQ0 hTj
                  clear hb_wj hTj
                  go_wp2_with fail
                  go_roundg (rs.length - (j + 1) + 1)
                  case measure => omega
                  case rel => exact ⟨j + 1, by omega, by omega, by go_num, HBj.out, HTj.out, HJ4⟩
          · obtain rfl : k = rs.length := by omega
            obtain rfl : R2 = false := by rw [← HJ.out]; exact overA_end (Nat.le_refl _)
            have hb := hb_ws
            have hT := hTr
            clear HJ
            go_upto_region 19 with (fail)
            clear ta hltT hb_ws hTr
            as_aux_lemma =>
              have ta := hT.c 17 (.slice Alns lns.length clns) (by rw [HTC.out]; rfl)
              have hlt_ := hT.lt
              go_wp2_with fail
              go_loopg [11] (lns.length + 1) (fun gk tt wr => ∃ k : Nat, k ≤ lns.length ∧ lns.length - k < gk ∧ tt = .int .i64 k ∧ Below w.heap.size w wr ∧ BoxAt wr w.heap.size TC ∧ Hid (overA (Ln.ov rad) (lns.take k) (lns.drop k) = R3))
              case atStart => exact ⟨0, by omega, by omega, rfl, hb, hT, HR3⟩
              case round =>
                obtain ⟨ws_, rfl⟩ : ∃ z, z = wr := ⟨_, rfl⟩
                clear hb hT ta hlt_ HR3
                obtain ⟨k, hk, hkk, rfl, hb_ws, hTr, HJ⟩ := hrel
                have hz_ws := hb_ws.size
                have ta := hTr.c 17 (.slice Alns lns.length clns) (by rw [HTC.out]; rfl)
                have hltT := hTr.lt
                by_cases hlt : k < lns.length
                · as_aux_lemma =>
                    obtain ⟨x, hx⟩ : ∃ x, lns[k]? = some x := ⟨lns[k], by simp⟩
                    have i1 : (k : Int) < (lns.length : Int) := by omega
                    have HX := hQ0 hx
                    have HOX := hQ0 (HO.out.2.2.1 x (List.mem_of_getElem? hx))
                    clear hx
                    have HJ2 : Hid ((((lns.take k).drop 0).any ((Ln.ov rad) x) || overA (Ln.ov rad) (lns.take (k + 1)) (lns.drop (k + 1))) = R3) := hQ0 (by rw [← HJ.out, overA_step HX.out]; rfl)
                    have HBe := hQ0 hb_ws
                    have HTr := hQ0 hTr
                    clear hb_ws hTr
                    go_wp2_with fail
                    go_loopg [12] (k + 1) (fun gj tt wr => ∃ j : Nat, j ≤ k ∧ k - j < gj ∧ tt = .int .i64 j ∧ Below w.heap.size w wr ∧ BoxAt wr w.heap.size TC ∧ Hid ((((lns.take k).drop j).any ((Ln.ov rad) x) || overA (Ln.ov rad) (lns.take (k + 1)) (lns.drop (k + 1))) = R3))
                    case atStart => exact ⟨0, by omega, by omega, rfl, HBe.out, HTr.out, HJ2⟩
                    case round =>
                      obtain ⟨wj_, rfl⟩ : ∃ z, z = wr := ⟨_, rfl⟩
                      clear ta hltT HJ2 HBe HTr
                      obtain ⟨j, hj, hjj, rfl, hb_wj, hTj, HJj⟩ := hrel
                      have hz_wj := hb_wj.size
                      by_cases hjk : j < k
                      · obtain ⟨y, hy⟩ : ∃ y, lns[j]? = some y := ⟨lns[j]'(by omega), by simp⟩
                        have ta := hTj.c 17 (.slice Alns lns.length clns) (by rw [HTC.out]; rfl)
                        have hltT := hTj.lt
                        obtain ⟨g, o, hAe, hg, c0, c1, c2, c3, c4, c5, c6⟩ := Ln.get (HA.out.lns.below hb_wj (Nat.le_refl _)) HX.out
                        obtain ⟨g', o', hAe', hg', d0, d1, d2, d3, d4, d5, d6⟩ := Ln.get (HA.out.lns.below hb_wj (Nat.le_refl _)) hy
                        simp only at hAe hAe'
                        subst hAe
                        simp only [Option.some.injEq, Addr.mk.injEq, and_true] at hAe'
                        obtain ⟨rfl, rfl⟩ := hAe'
                        have i3 : (j : Int) < (k : Int) := by omega
                        have i4 : (j : Int) < (lns.length : Int) := by omega
                        have HY := hQ0 hy
                        have HBj := hQ0 hb_wj
                        have HTj := hQ0 hTj
                        have HOY := hQ0 (HO.out.2.2.1 y (List.mem_of_getElem? hy))
                        have HB0 : Hid (1 ≤ rad ∧ rad ≤ 32768) := hQ0 ⟨HO.out.2.2.2.1, HO.out.2.2.2.2⟩
                        have HD : Hid (IntKind.i64.wrap (2 * rad) = (2 * rad)) := hQ0 (by have := HB0.out; rw [IntKind.wrap_i64]; omega)
                        clear hy hb_wj hTj
                        go_upto_region 25 with (fail)
                        go_region
                        all_goals (
                          go_upto_region 26 with (fail)
                          refine pin_eqT (fun w5 hE_w5 => ?_)
                          obtain ⟨ga, hga⟩ : ∃ z, z = wj_.heap.size := ⟨_, rfl⟩
                          obtain ⟨gb, hgb⟩ : ∃ z, z = wj_.heap.size + 1 := ⟨_, rfl⟩
                          rw [← hgb, ← hga]
                          first
                          | (have HX5 : Hid (BoxAt w5 ga x.cells) := hQ0 (by rw [hE_w5, hga]; exact BoxAt.two_l wj_ x.cells y.cells _ _)
                             have HY5 : Hid (BoxAt w5 gb y.cells) := hQ0 (by rw [hE_w5, hgb]; exact BoxAt.two_r wj_ x.cells y.cells _ _))
                          | (have HX5 : Hid (BoxAt w5 gb x.cells) := hQ0 (by rw [hE_w5, hgb]; exact BoxAt.two_r wj_ y.cells x.cells _ _)
                             have HY5 : Hid (BoxAt w5 ga y.cells) := hQ0 (by rw [hE_w5, hga]; exact BoxAt.two_l wj_ y.cells x.cells _ _))
                          have HT5 : Hid (BoxAt w5 w.heap.size TC) := hQ0 (by rw [hE_w5]; exact (((HTj.out.alloc _).alloc _).drew))
                          have HB5 : Hid (Below w.heap.size w w5) := hQ0 (by rw [hE_w5]; exact (((HBj.out.alloc hz_wj _).alloc (by simp; omega) _).drew))
                          clear hgb hga hE_w5 c0 c1 c2 c3 c4 c5 c6 d0 d1 d2 d3 d4 d5 d6 HBj HTj ta hltT hg hg'
                          obtain ⟨p1, hp1⟩ : ∃ b, b = nearR ⟨x.a1, x.a2⟩ ⟨y.a1, y.a2⟩ (2 * rad) := ⟨_, rfl⟩
                          have KN := fun W => rnearer_any ⟨x.a1, x.a2⟩ ⟨y.a1, y.a2⟩ (2 * rad) W HOX.out HOY.out (by have := HB0.out; omega) (by have := HB0.out; omega)
                          rw [← hp1] at KN
                          have hD : (Ln.ov rad) x y = (decide (x.lv = y.lv) && p1) := by rw [hp1]; rfl
                          have HJn := any_step (f := (Ln.ov rad) x) hjk HY.out
                          have hJ := HJj.out
                          rw [HJn, hD] at hJ
                          have HN2 := hQ0 hJ
                          clear hp1 hD HJn hJ
                          have u1 := HX5.out.c 1 (.int .i64 x.lv) rfl
                          have v1 := HY5.out.c 1 (.int .i64 y.lv) rfl
                          have u2 := HX5.out.c 2 (.int .i64 x.a1) rfl
                          have v2 := HY5.out.c 2 (.int .i64 y.a1) rfl
                          have u3 := HX5.out.c 3 (.int .i64 x.a2) rfl
                          have v3 := HY5.out.c 3 (.int .i64 y.a2) rfl
                          have t0 := HT5.out.c 0 (.int .i64 rad) (by rw [HTC.out]; rfl)
                          have lx_ := HX5.out.lt
                          have ly_ := HY5.out.lt
                          have lt_ := HT5.out.lt
                          have hw_ := HD.out
                          cases q0 : decide (x.lv = y.lv)
                          rotate_left
                          cases p1
                          all_goals (
                            have hN3 := HN2.out
                            simp only [q0, Bool.and_true, Bool.true_and, Bool.false_and, Bool.false_or, Bool.true_or] at hN3
                            have HN3 := hQ0 hN3
                            clear hN3
                            first | have q9 := of_decide_eq_false q0 | have q9 := of_decide_eq_true q0
                            have hbb := Below.refl w5.heap.size w5
                            go_wp2_with (go_at_call 89; refine (KN _).mono ?_; rintro e w9 ⟨rfl, hb9⟩; replace hbb := hbb.trans (hb9.mono hbb.size); clear hb9)
                            first
                            | (go_ret
                               exact ⟨by rw [← HN3.out] <;> rfl, HB5.out.trans (hbb.mono HB5.out.size)⟩)
                            | (go_roundg (k - (j + 1) + 1)
                               case measure => omega
                               case rel => exact ⟨j + 1, by omega, by omega, by go_num, HB5.out.trans (hbb.mono HB5.out.size), HT5.out.below hbb HT5.out.lt, HN3⟩)))
                      · obtain rfl : j = k := by omega
                        have HJ4 : Hid (overA (Ln.ov rad) (lns.take (j + 1)) (lns.drop (j + 1)) = R3) := hQ0 (by rw [← HJj.out, any_end (Nat.le_refl _)]; rfl)
                        have HBj := hQ0 hb_wj
                        have HTj := hQ0 hTj
                        clear hb_wj hTj
                        go_wp2_with fail
                        go_roundg (lns.length - (j + 1) + 1)
                        case measure => omega
                        case rel => exact ⟨j + 1, by omega, by omega, by go_num, HBj.out, HTj.out, HJ4⟩
                · obtain rfl : k = lns.length := by omega
                  obtain rfl : R3 = false := by rw [← HJ.out]; exact overA_end (Nat.le_refl _)
                  have hb := hb_ws
                  have hT := hTr
                  clear HJ
                  have HB := hQ0 hb
                  clear hb hT
                  go_wp2_with fail
                  clear ta hltT hb_ws hTr
                  go_ret
                  exact ⟨rfl, HB.out⟩
end Go.Proofs.YtbpcjpiaimdpnaaGreatDoor
