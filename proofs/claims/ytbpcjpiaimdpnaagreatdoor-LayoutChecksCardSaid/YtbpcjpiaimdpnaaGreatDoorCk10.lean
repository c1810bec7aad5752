/- Merged texts: LtT0w Ltwsw. -/
import Derived.Test.YtbpcjpiaimdpnaaGreatDoorCk9
import Derived.Deep.Cut
set_option linter.unusedSimpArgs false
set_option linter.unusedVariables false
namespace Go.Proofs.YtbpcjpiaimdpnaaGreatDoor
open Go Go.RowKit
set_option linter.unusedVariables false
def reg? (n : Nat) : Code → Option Code
  | .region k o b => if k = n then some (.region k o b) else none
  | .seq a b => match reg? n a with
    | some c => some c
    | none => reg? n b
  | .cond _ a b => match reg? n a with
    | some c => some c
    | none => reg? n b
  | .block _ b => reg? n b
  | .loop b => reg? n b
  | .scope b => reg? n b
  | _ => none
def regOf (n : Nat) (f : Func) : Code := match f.body with
  | some c => (match reg? n c with
    | some x => x
    | none => .skip)
  | none => .skip
attribute [local go_sem ↓] evalL getL64 setL64
attribute [local go_sem ↓] getL8 setL8
attribute [local go_sem ↓] getL1 getL0
set_option maxRecDepth 100000 in
set_option maxHeartbeats 8000000 in
theorem stmt_tb (w5 : World) (tb mb bs : Nat) (t : Tb) (a : TbA) (TC : List Value) (tk : ByteArray) (tvals : List Int) (tA : Option Addr) (tq : Nat) (df : List Deferred) (F : List Value) (hF : F.length = 501) (f1 : F[1]? = some (.pointer (some ⟨tb, 0, none⟩))) (f4 : F[4]? = some (.pointer (some ⟨mb, 0, none⟩)))
  (hTC : TC = t.cells a) (hT : BoxAt w5 tb TC) (hM : BoxAt w5 mb [.string tk, .slice tA tvals.length tq, .int .i64 0]) (hTO : OwnI w5 bs tA tq tvals) (hbs5 : bs ≤ w5.heap.size) (htk : tk = if 0 < t.tr.length then k_trough else ⟨#[]⟩) (htv : tvals = t.tr.take 1) (R : Act → World → Prop)
  (hR : ∀ (F' : List Value) (w' : World) (A' : Option Addr) (c' : Nat), F'.length = 501 → F'[1]? = some (.pointer (some ⟨tb, 0, none⟩)) → F'[2]? = F[2]? → F'[3]? = F[3]? → F'[5]? = some (.slice A' [itTb t].length c') → Below w5.heap.size w5 w' → XsOwn w' bs 97 120 A' c' [itTb t] → R ⟨F'.toArray, df⟩ w') :
  (regOf 4 Tryz.f17).wp Tryz.prog (AtEnd R) ⟨F.toArray, df⟩ w5 := by
 obtain ⟨s, rfl⟩ := fr501_ex F hF
 have e1 : s 1 = .pointer (some ⟨tb, 0, none⟩) := Option.some.inj f1
 have e4 : s 4 = .pointer (some ⟨mb, 0, none⟩) := Option.some.inj f4
 unfold fr501
 rw [e1, e4]
 clear hF e1 f1 e4 f4
 have hIT : itTb t = ⟨t_table, ⟨#[]⟩, [kv1 k_radius t.rad, kv1 k_balls t.bal, kv2 k_gravity t.gx t.gy, kv2 k_drag t.drg t.shf, kv1 k_rest t.rst] ++ (if tk = ⟨#[]⟩ then [] else [⟨tk, tvals, 0⟩]), 0⟩ := by
  rw [htk, htv]
  unfold itTb
  cases t.tr with
  | nil => rfl
  | cons a1 r => rfl
 clear htk htv
 have HIT := hQ0 hIT
 have HR := hQ0 hR
 clear hIT hR
 obtain ⟨rad, bal, rst, gx, gy, drg, shf, tr, ws, ars, ps, fs, zs, ss, las, rs, ds, lns⟩ := t
 obtain ⟨Atr, ctr, Aws, cws, Aars, cars, Aps, cps, Afs, cfs, Azs, czs, Ass, css, Alas, clas, Ars, crs, Ads, cds, Alns, clns⟩ := a
 rw [hTC] at hT
 have hTO' : ∀ W : World, Below w5.heap.size w5 W → OwnI W bs tA tq tvals := fun W hb => own_below hTO hb (Nat.le_refl _)
 clear hTO hTC
 have hTO := hTO'
 clear hTO'
 have t0 := hT.c 0 (.int .i64 rad) rfl
 have t1 := hT.c 1 (.int .i64 bal) rfl
 have t2 := hT.c 2 (.int .i64 rst) rfl
 have t3 := hT.c 3 (.int .i64 gx) rfl
 have t4 := hT.c 4 (.int .i64 gy) rfl
 have t5 := hT.c 5 (.int .i64 drg) rfl
 have t6 := hT.c 6 (.int .i64 shf) rfl
 have t7 := hT.c 7 (.slice Atr tr.length ctr) rfl
 have t8 := hT.c 8 (.slice Aws ws.length cws) rfl
 have t9 := hT.c 9 (.slice Aars ars.length cars) rfl
 have t10 := hT.c 10 (.slice Aps ps.length cps) rfl
 have t11 := hT.c 11 (.slice Afs fs.length cfs) rfl
 have t12 := hT.c 12 (.slice Azs zs.length czs) rfl
 have t13 := hT.c 13 (.slice Ass ss.length css) rfl
 have t14 := hT.c 14 (.slice Alas las.length clas) rfl
 have t15 := hT.c 15 (.slice Ars rs.length crs) rfl
 have t16 := hT.c 16 (.slice Ads ds.length cds) rfl
 have t17 := hT.c 17 (.slice Alns lns.length clns) rfl
 have hltT := hT.lt
 have z0 := hM.c 0 _ rfl
 have z1 := hM.c 1 _ rfl
 have z2 := hM.c 2 _ rfl
 have hltm := hM.lt
 clear hT hM
 conv in (regOf _ _) => whnf
 refine wp_region_floatT w5.heap.size 25 [25] (Nat.le_refl _) (by kernel_rfl) (by kernel_rfl) (tailBJ_of (nx := [1, 2, 3, 7, 5, 6, 7, 10, 9, 10, 16, 12, 15, 14, 15, 16, 20, 18, 19, 20, 22, 22, 23, 24, 25, 0]) (by kernel_rfl)) (by kernel_rfl) ?_; intro hT_ hD_; refine wpT_start hT_ hD_ [0, 1, 4, 5, 8, 9, 11, 12, 13, 14, 17, 18, 21, 2, 3, 6, 7, 10, 15, 16, 19, 20, 22, 23, 24] ?_; clear hT_ hD_
 iterate 13 (apply wpT_step (zA rfl) (by kernel_rfl) rfl; (focus (intro W' hS; have hcS := hS.cells; go_simp; first | done | exact rfl | exact ⟨rfl, Below.refl _ _⟩)); intro K hK; go_simp; refine hK _ ?_; clear hK K)
 apply wpT_fresh LInv.std (zA rfl) (by kernel_rfl) (fun g => Value.slice (some ⟨g, 0, none⟩) 1 1) (by exact rfl); (focus (intro W; go_simp; first | done | exact rfl | exact ⟨rfl, rfl⟩)); intro g_2 hN_2 hG_2; intro K hK; go_simp; refine hK _ ?_; clear hK K
 apply wpT_step (zA rfl) (by kernel_rfl) rfl; (focus (intro W' hS; go_simp; go_at_call 56; exact (numA _ _ _ _ _).mono (fun _ _ h => ⟨h.1, h.2⟩))); intro K hK; go_simp; refine hK _ ?_; clear hK K
 apply wpT_fresh LInv.std (zA rfl) (by kernel_rfl) (fun g => Value.slice (some ⟨g, 0, none⟩) 1 1) (by exact rfl); (focus (intro W; go_simp; first | done | exact rfl | exact ⟨rfl, rfl⟩)); intro g_6 hN_6 hG_6; intro K hK; go_simp; refine hK _ ?_; clear hK K
 apply wpT_step (zA rfl) (by kernel_rfl) rfl; (focus (intro W' hS; go_simp; go_at_call 56; exact (numA _ _ _ _ _).mono (fun _ _ h => ⟨h.1, h.2⟩))); intro K hK; go_simp; refine hK _ ?_; clear hK K
 apply wpT_call (zA rfl) (by kernel_rfl); intro W hF hS; have hcS := hS.1.cells; go_simp; (go_at_call 58; refine (vecA _ gx gy w5.heap.size W hS.1.1).mono ?_; rintro e wv0 ⟨AV0, q0, rfl, hb_wv0, hV0⟩; refine XPost.mk _ (fun W => OwnI W w5.heap.size AV0 q0 [gx, gy]) hb_wv0 (hV0) (cl_owni _ _ _ _) ?_); clear hb_wv0 hcS hS hF; intro K hK; go_simp; refine hK _ ?_; clear hK K
 apply wpT_fresh LInv.std (zA rfl) (by kernel_rfl) (fun g => Value.slice (some ⟨g, 0, none⟩) 2 2) (by exact rfl); (focus (intro W; go_simp; first | done | exact rfl | exact ⟨rfl, rfl⟩)); intro g_15 hN_15 hG_15; intro K hK; go_simp; refine hK _ ?_; clear hK K
 apply wpT_step (zA rfl) (by kernel_rfl) rfl; (focus (intro W' hS; go_simp; go_at_call 56; exact (numA _ _ _ _ _).mono (fun _ _ h => ⟨h.1, h.2⟩))); intro K hK; go_simp; refine hK _ ?_; clear hK K
 apply wpT_fresh LInv.std (zA rfl) (by kernel_rfl) (fun g => Value.slice (some ⟨g, 0, none⟩) 1 1) (by exact rfl); (focus (intro W; go_simp; first | done | exact rfl | exact ⟨rfl, rfl⟩)); intro g_19 hN_19 hG_19; intro K hK; go_simp; refine hK _ ?_; clear hK K
 apply wpT_step (zA rfl) (by kernel_rfl) rfl; (focus (intro W' hS; go_simp; go_at_call 56; exact (numA _ _ _ _ _).mono (fun _ _ h => ⟨h.1, h.2⟩))); intro K hK; go_simp; refine hK _ ?_; clear hK K
 apply wpT_fresh LInv.std (zA rfl) (by kernel_rfl) (fun g => Value.slice (some ⟨g, 0, none⟩) 6 6) (by exact rfl); (focus (intro W; go_simp; first | done | exact rfl | exact ⟨rfl, rfl⟩)); intro g_22 hN_22 hG_22; intro K hK; go_simp; refine hK _ ?_; clear hK K
 apply wpT_wild (zA rfl) (by kernel_rfl) (by kernel_rfl); intro W hF hS; have hcS := hS.1.cells; go_simp; (go_at_call 57; refine (st_any t_table (⟨#[]⟩ : ByteArray) [(kv1 k_radius rad, some ⟨g_2, 0, none⟩, 1), (kv1 k_balls bal, some ⟨g_6, 0, none⟩, 1), (kv2 k_gravity gx gy, AV0, q0), (kv2 k_drag drg shf, some ⟨g_15, 0, none⟩, 2), (kv1 k_rest rst, some ⟨g_19, 0, none⟩, 1)] [] (⟨tk, tvals, 0⟩, tA, tq) g_22 bs 6 W rfl (own_blk (n := 6) (size := 3) (hS.2 _ (List.mem_cons_self ..)).2 (Nat.le_trans hbs5 (hS.2 _ (List.mem_cons_self ..)).1) (by omega) rfl) (by omega) (nk (by kernel_rfl)) (nk (by kernel_rfl))).mono ?_; rintro e ws_ hs_; have hF2 := hF; obtain ⟨hw0, -⟩ : _ ∧ True := ⟨hF2, trivial⟩; obtain ⟨cS, mS, hmS_, rfl, hbt_, hK_⟩ := ksown_any hs_ (hS.2 _ (List.mem_cons_self ..)).2 (List.forall_mem_cons.2 ⟨OwnI.blk1 (hS.2 _ (List.mem_cons_of_mem _ (List.mem_cons_of_mem _ (List.mem_cons_of_mem _ (List.mem_cons_of_mem _ (List.mem_cons_self ..)))))).2 (Nat.le_trans hbs5 (hS.2 _ (List.mem_cons_of_mem _ (List.mem_cons_of_mem _ (List.mem_cons_of_mem _ (List.mem_cons_of_mem _ (List.mem_cons_self ..)))))).1), List.forall_mem_cons.2 ⟨OwnI.blk1 (hS.2 _ (List.mem_cons_of_mem _ (List.mem_cons_of_mem _ (List.mem_cons_of_mem _ (List.mem_cons_self ..))))).2 (Nat.le_trans hbs5 (hS.2 _ (List.mem_cons_of_mem _ (List.mem_cons_of_mem _ (List.mem_cons_of_mem _ (List.mem_cons_self ..))))).1), List.forall_mem_cons.2 ⟨hw0.weaker hbs5, List.forall_mem_cons.2 ⟨OwnI.blk2 (hS.2 _ (List.mem_cons_of_mem _ (List.mem_cons_of_mem _ (List.mem_cons_self ..)))).2 (Nat.le_trans hbs5 (hS.2 _ (List.mem_cons_of_mem _ (List.mem_cons_of_mem _ (List.mem_cons_self ..)))).1), List.forall_mem_cons.2 ⟨OwnI.blk1 (hS.2 _ (List.mem_cons_of_mem _ (List.mem_cons_self ..))).2 (Nat.le_trans hbs5 (hS.2 _ (List.mem_cons_of_mem _ (List.mem_cons_self ..))).1), List.forall_mem_cons.2 ⟨hTO W hS.1.2, List.forall_mem_nil _⟩⟩⟩⟩⟩⟩); refine WPost.mk _ (fun W => KsOwn W bs 120 (some ⟨g_22, 0, none⟩) cS _) _ hK_ (cl_ksown _ _ _ _) (hS.but hbt_ hG_22) ?_); have HmS := hQ0 hmS_; clear hbt_ hK_ hs_ hcS hS hmS_; intro K hK; go_simp; refine hK _ ?_; clear hK K
 apply wpT_fresh LInv.std (zA rfl) (by kernel_rfl) (fun g => Value.slice (some ⟨g, 0, none⟩) 1 1) (by exact rfl); (focus (intro W; go_simp; first | done | exact rfl | exact ⟨rfl, rfl⟩)); intro g_24 hN_24 hG_24; intro K hK; go_simp; refine hK _ ?_; clear hK K
 refine wpT_done (by kernel_rfl) ?_; intro w4 hF_w4 hSG; have hz_w4 := hSG.1.1; have hb_w4 := hSG.1.2
 have HH_24 := hQ0 (hSG.2 _ (List.mem_cons_self ..)).2; have hl_24 := hSG.size (List.mem_cons_self ..)
 have HH_19 := hQ0 (hSG.2 _ (List.mem_cons_of_mem _ (List.mem_cons_self ..))).2; have hl_19 := hSG.size (List.mem_cons_of_mem _ (List.mem_cons_self ..))
 have HH_15 := hQ0 (hSG.2 _ (List.mem_cons_of_mem _ (List.mem_cons_of_mem _ (List.mem_cons_self ..)))).2; have hl_15 := hSG.size (List.mem_cons_of_mem _ (List.mem_cons_of_mem _ (List.mem_cons_self ..)))
 have HH_6 := hQ0 (hSG.2 _ (List.mem_cons_of_mem _ (List.mem_cons_of_mem _ (List.mem_cons_of_mem _ (List.mem_cons_self ..))))).2; have hl_6 := hSG.size (List.mem_cons_of_mem _ (List.mem_cons_of_mem _ (List.mem_cons_of_mem _ (List.mem_cons_self ..))))
 have HH_2 := hQ0 (hSG.2 _ (List.mem_cons_of_mem _ (List.mem_cons_of_mem _ (List.mem_cons_of_mem _ (List.mem_cons_of_mem _ (List.mem_cons_self ..)))))).2; have hl_2 := hSG.size (List.mem_cons_of_mem _ (List.mem_cons_of_mem _ (List.mem_cons_of_mem _ (List.mem_cons_of_mem _ (List.mem_cons_self ..)))))
 clear hSG; (try simp only [List.filterMap_cons, List.filterMap_nil, List.getElem?_cons_succ, List.getElem?_cons_zero])
 have hIL : (itTb ⟨rad, bal, rst, gx, gy, drg, shf, tr, ws, ars, ps, fs, zs, ss, las, rs, ds, lns⟩).keys = (([(kv1 k_radius rad, some ⟨g_2, 0, none⟩, 1), (kv1 k_balls bal, some ⟨g_6, 0, none⟩, 1), (kv2 k_gravity gx gy, AV0, q0), (kv2 k_drag drg shf, some ⟨g_15, 0, none⟩, 2), (kv1 k_rest rst, some ⟨g_19, 0, none⟩, 1)] ++ (if tk = ⟨#[]⟩ then [] else [(⟨tk, tvals, 0⟩, tA, tq)]) : List KP).map (·.1)) := by
  rw [HIT.out]
  by_cases h0 : tk = ⟨#[]⟩
  · rw [if_pos h0, if_pos h0]; rfl
  · rw [if_neg h0, if_neg h0]; rfl
 have hIX : itTb ⟨rad, bal, rst, gx, gy, drg, shf, tr, ws, ars, ps, fs, zs, ss, las, rs, ds, lns⟩ = ⟨t_table, ⟨#[]⟩, (itTb ⟨rad, bal, rst, gx, gy, drg, shf, tr, ws, ars, ps, fs, zs, ss, las, rs, ds, lns⟩).keys, 0⟩ := by rw [HIT.out]
 have HIL := hQ0 hIL
 have HIX := hQ0 hIX
 have hk5 : KsOwn w4 bs 120 (some ⟨g_22, 0, none⟩) cS (([(kv1 k_radius rad, some ⟨g_2, 0, none⟩, 1), (kv1 k_balls bal, some ⟨g_6, 0, none⟩, 1), (kv2 k_gravity gx gy, AV0, q0), (kv2 k_drag drg shf, some ⟨g_15, 0, none⟩, 2), (kv1 k_rest rst, some ⟨g_19, 0, none⟩, 1)] ++ (if tk = ⟨#[]⟩ then [] else [(⟨tk, tvals, 0⟩, tA, tq)]) : List KP).map (·.1)) := hF_w4
 have hg5 := HH_24.out
 simp only at hg5
 rw [HmS.out, ← List.length_map (·.1)] at hg5
 rw [← hIL] at hk5
 have hg6 : w4.heap[g_24]? = some (.cells #[.string t_table, .string ⟨#[]⟩, .slice (some ⟨g_22, 0, none⟩) (itTb ⟨rad, bal, rst, gx, gy, drg, shf, tr, ws, ars, ps, fs, zs, ss, las, rs, ds, lns⟩).keys.length cS, .int .i64 0] 97) := by rw [hIL]; exact hg5
 have hx5 : XsOwn w4 bs 97 120 (some ⟨g_24, 0, none⟩) 1 [itTb ⟨rad, bal, rst, gx, gy, drg, shf, tr, ws, ars, ps, fs, zs, ss, las, rs, ds, lns⟩] := by
  refine ⟨[(itTb ⟨rad, bal, rst, gx, gy, drg, shf, tr, ws, ars, ps, fs, zs, ss, las, rs, ds, lns⟩, some ⟨g_22, 0, none⟩, cS)], rfl, ?_, ?_⟩
  · have h := own_blk (base := bs) (n := 1) (size := 4) hg6 (by omega) (by omega) rfl
    have hc : cellsOfX (itTb ⟨rad, bal, rst, gx, gy, drg, shf, tr, ws, ars, ps, fs, zs, ss, las, rs, ds, lns⟩) (some ⟨g_22, 0, none⟩) cS = [.string t_table, .string ⟨#[]⟩, .slice (some ⟨g_22, 0, none⟩) (itTb ⟨rad, bal, rst, gx, gy, drg, shf, tr, ws, ars, ps, fs, zs, ss, las, rs, ds, lns⟩).keys.length cS, .int .i64 0] := by
     unfold cellsOfX
     rw [HIX.out]
    show w4.ownsRow bs 97 4 (.slice (some ⟨g_24, 0, none⟩) 1 1) 1 (cellsOfX (itTb ⟨rad, bal, rst, gx, gy, drg, shf, tr, ws, ars, ps, fs, zs, ss, las, rs, ds, lns⟩) (some ⟨g_22, 0, none⟩) cS ++ [])
    rw [List.append_nil, hc]
    exact h
  · intro p hp
    rw [List.mem_singleton.1 hp]
    exact hk5
 have HX5 := hQ0 hx5
 have HB4 := hQ0 hb_w4
 clear hx5 hk5 hg5 hg6 hF_w4 hIL hIX hb_w4
 go_wp2_with fail
 show R _ _
 exact HR.out _ _ (some ⟨g_24, 0, none⟩) 1 rfl rfl rfl rfl rfl HB4.out HX5.out
attribute [local go_sem ↓] evalL getL64 setL64
attribute [local go_sem ↓] getL8 setL8
attribute [local go_sem ↓] getL1 getL0
set_option maxRecDepth 100000 in
set_option maxHeartbeats 8000000 in
theorem lt_ws (w wr : World) (base : Nat) (A A0 : Option Addr) (c c0 : Nat) (l : List Wl) (L0 : List IV) (TC : List Value) (df : List Deferred) (F : List Value) (hF : F.length = 501) (f5 : F[5]? = some (.slice A0 L0.length c0)) (f70 : F[70]? = some (.slice A l.length c)) (f71 : F[71]? = some (.int .i64 (l.length : Int))) (f72 : F[72]? = some (.int .i64 0))
  (hA : RowsAt 13 Wl.cells w A l) (hl : l.length ≤ 1000) (hL : L0.length ≤ 100000) (hwb : w.heap.size < base) (hb : Below w.heap.size w wr) (hbs : base ≤ wr.heap.size) (hT : BoxAt wr w.heap.size TC) (hX : XsOwn wr base 97 120 A0 c0 L0) (Q : Exit → Act → World → Prop)
  (hE : (¬ ∀ x ∈ l, in1 1 4 x.kd = true) → ∀ (F' : List Value) (w' : World), F'.length = 501 → F'[2]? = some (.string ⟨#[]⟩) → F'[3]? = some (.bool false) → Below w.heap.size w w' → Q .ret ⟨F'.toArray, df⟩ w')
  (hR : (∀ x ∈ l, in1 1 4 x.kd = true) → ∀ (F' : List Value) (w' : World) (A' : Option Addr) (c' : Nat), F'.length = 501 → F'[1]? = F[1]? → F'[4]? = F[4]? → F'[5]? = some (.slice A' (L0 ++ l.map itWl).length c') → Below w.heap.size w w' → base ≤ w'.heap.size → BoxAt w' w.heap.size TC → XsOwn w' base 97 120 A' c' (L0 ++ l.map itWl) → Q .normal ⟨F'.toArray, df⟩ w') :
  (blkOf 0 Tryz.f17).wp Tryz.prog Q ⟨F.toArray, df⟩ wr := by
 obtain ⟨s, rfl⟩ := fr501_ex F hF
 have e5 : s 5 = .slice A0 L0.length c0 := Option.some.inj f5
 have e70 : s 70 = .slice A l.length c := Option.some.inj f70
 have e71 : s 71 = .int .i64 (l.length : Int) := Option.some.inj f71
 have e72 : s 72 = .int .i64 0 := Option.some.inj f72
 unfold fr501
 rw [e5, e70, e71, e72]
 clear hF e5 f5 e70 f70 e71 f71 e72 f72
 have HA := hQ0 hA
 have HR := hQ0 hR
 have HQE := hQ0 hE
 clear hE
 have HLl := hQ0 hL
 have HT := hQ0 hT
 have HX := hQ0 hX
 have HB := hQ0 hb
 clear hA hR hL hT hX hb
 conv in (blkOf _ _) => whnf
 go_wp2_with fail
 go_loopg [5, 72] (l.length + 1) (fun gk t5 tt wr => ∃ (k : Nat) (A1 : Option Addr) (c1 : Nat), k ≤ l.length ∧ l.length - k < gk ∧ t5 = .slice A1 (L0 ++ (l.take k).map itWl).length c1 ∧ tt = .int .i64 k ∧ Hid (∀ x ∈ l.take k, in1 1 4 x.kd = true) ∧ base ≤ wr.heap.size ∧ Hid (Below w.heap.size w wr ∧ BoxAt wr w.heap.size TC ∧ XsOwn wr base 97 120 A1 c1 (L0 ++ (l.take k).map itWl)))
 case atStart => exact ⟨0, A0, c0, by omega, by omega, by simp, rfl, hQ0 (fun x hx => by simp at hx), hbs, hQ0 ⟨HB.out, HT.out, by simpa using HX.out⟩⟩
 case round =>
  obtain ⟨wq, rfl⟩ : ∃ z, z = wr := ⟨_, rfl⟩
  clear HB HT HX hbs
  obtain ⟨k, A1, c1_, hk, hkk, rfl, rfl, HKD, hbs, HJ⟩ := hrel
  have hz_wq := HJ.out.1.size
  obtain ⟨L, hL⟩ : ∃ L : List IV, L = L0 ++ (l.take k).map itWl := ⟨_, rfl⟩
  rw [← hL] at HJ ⊢
  have HL := hQ0 hL
  clear hL
  by_cases hlt : k < l.length
  · obtain ⟨x, hx⟩ : ∃ x, l[k]? = some x := ⟨l[k], by simp⟩
    obtain ⟨g, o, rfl, hg, c0, c1, c2, c3, c4, c5, c6, c7, c8, c9, c10, c11, c12⟩ := Wl.get (HA.out.below HJ.out.1 (Nat.le_refl _)) hx
    have i1 : (k : Int) < (l.length : Int) := by omega
    have HXX := hQ0 hx
    clear hx
    go_upto_region 8 with (fail)
    (refine pin_eqT (fun w3 hE_w3 => ?_))
    obtain ⟨gb, hgb⟩ : ∃ z, z = wq.heap.size := ⟨_, rfl⟩
    rw [← hgb]
    have hX3 : BoxAt w3 gb x.cells := by rw [hE_w3, hgb]; exact BoxAt.new _ _ _
    have HJ3 : Hid (Below w.heap.size w w3 ∧ BoxAt w3 w.heap.size TC ∧ XsOwn w3 base 97 120 A1 c1_ L) := hQ0 (by
     rw [hE_w3]
     exact ⟨HJ.out.1.alloc hz_wq _, HJ.out.2.1.alloc _, HJ.out.2.2.below ((Below.refl _ _).alloc (Nat.le_refl _) _) (Nat.le_refl _)⟩)
    have hz3 : wq.heap.size < w3.heap.size := by rw [hE_w3]; simp
    clear hgb hE_w3 c0 c1 c2 c3 c4 c5 c6 c7 c8 c9 c10 c11 c12 hg
    have x0 := hX3.c 0 (.string x.nm) rfl
    have x1 := hX3.c 1 (.int .i64 x.kd) rfl
    have x2 := hX3.c 2 (.int .i64 x.lv) rfl
    have x3 := hX3.c 3 (.int .i64 x.a1) rfl
    have x4 := hX3.c 4 (.int .i64 x.a2) rfl
    have x5 := hX3.c 5 (.int .i64 x.b1) rfl
    have x6 := hX3.c 6 (.int .i64 x.b2) rfl
    have x7 := hX3.c 7 (.int .i64 x.rs) rfl
    have x8 := hX3.c 8 (.int .i64 x.gr) rfl
    have x9 := hX3.c 9 (.int .i64 x.kk) rfl
    have x10 := hX3.c 10 (.int .i64 x.mn) rfl
    have x11 := hX3.c 11 (.int .i64 x.cl) rfl
    have x12 := hX3.c 12 (.int .i64 x.sw) rfl
    have hltx := hX3.lt
    have HX3_ := hQ0 hX3
    clear hX3
    obtain ⟨bk, hbk⟩ : ∃ b, b = in1 1 4 x.kd := ⟨_, rfl⟩
    have HBK := hQ0 hbk
    clear hbk
    cases bk
    · go_wp2_with (go_at_call 25; refine (in_new1' 1 4 x.kd _ _ false HBK.out (by simp)).mono ?_; rintro e w5 ⟨rfl, rfl⟩)
      show Q .ret _ _
      exact HQE.out (fun h => by have := HBK.out; rw [h x (List.mem_of_getElem? HXX.out)] at this; cases this) _ _ rfl rfl rfl (HJ3.out.1.alloc (by omega) _)
    · go_upto_region 10 with (go_at_call 25; refine (in_new1' 1 4 x.kd _ _ true HBK.out (by simp)).mono ?_; rintro e w5 ⟨rfl, rfl⟩)
      (refine pin_eqT (fun w6 hE_w6 => ?_))
      have hk14 : in1 1 4 x.kd = true := HBK.out.symm
      simp only [in1, Bool.and_eq_true, decide_eq_true_eq] at hk14
      obtain ⟨kn, hkn⟩ : ∃ n : Nat, x.kd = (n : Int) := ⟨x.kd.toNat, by omega⟩
      have hn14 : 1 ≤ kn ∧ kn ≤ 4 := by omega
      have HKN : Hid ((kn : Int) = x.kd) := hQ0 hkn.symm
      obtain ⟨wd, hwd⟩ : ∃ z, z = wlW x.kd := ⟨_, rfl⟩
      have HWD := hQ0 hwd
      have hB6 : Below w3.heap.size w3 w6 := by rw [hE_w6]; exact (Below.refl _ _).alloc (Nat.le_refl _) _
      have HX6 : Hid (BoxAt w6 gb [.string x.nm, .int .i64 (kn : Int), .int .i64 x.lv, .int .i64 x.a1, .int .i64 x.a2, .int .i64 x.b1, .int .i64 x.b2, .int .i64 x.rs, .int .i64 x.gr, .int .i64 x.kk, .int .i64 x.mn, .int .i64 x.cl, .int .i64 x.sw]) := hQ0 (by rw [HKN.out]; exact HX3_.out.below hB6 hltx)
      have hz6 : w3.heap.size ≤ w6.heap.size := hB6.size
      have HB6 := hQ0 hB6
      have hn5 : (kn : Int) < 5 := by omega
      clear hE_w6 hwd hkn hk14 hB6 x0 x1 x2 x3 x4 x5 x6 x7 x8 x9 x10 x11 x12
      refine wp_region_lit ?_
      have hS_ : Below w6.heap.size w6 w6 := Below.refl _ _
      apply wpL_freshm (S := Below w6.heap.size w6)  true (by exact rfl)
      (case h => intro _; generalize hev_ : Act.eval _ = ev_; have vc_ := evC hev_; clear hev_; go_simp; first | done | exact rfl | exact ⟨rfl, rfl⟩); (case hS => exact hS_); (case hS' => exact (hS_).alloc (hS_).size _)
      intro K hK w_ hS2_ hw0_; have hw_ := hQ0 hw0_; clear hw0_; go_simp; apply hK; clear hK K hS_; have hS_ := hS2_; clear hS2_
      have hE_ := hw_.out rfl
      have hcw_ : w_.cell? ⟨w6.heap.size, kn, none⟩ = some (.string wd) := by
       rw [hE_, World.cell?_alloc_new, HWD.out, ← HKN.out]
       have h14 := hn14
       match kn, h14 with
       | 1, _ => rfl
       | 2, _ => rfl
       | 3, _ => rfl
       | 4, _ => rfl
      clear hE_ hw_
      iterate 5 (apply wpL_maybe true (by exact rfl); (case h => intro _; have hcW_ := (bcellW hS_).1; have hY_ := (HX6.out).below hS_ (HX6.out.lt); have y0_ := hY_.c 1 (.int .i64 (kn : Int)) (rfl); go_simp; try exact rfl); intro K hK; go_simp; apply hK; clear hK K)
      refine wpList_nil ?_
      (try go_simp)
      have hS6 := hS_
      clear hS_
      (try go_step)
      obtain ⟨w8, hw8⟩ : ∃ z, z = w_ := ⟨_, rfl⟩
      rw [← hw8] at hS6 ⊢
      clear hw8
      have hX8 := HX6.out.below hS6 HX6.out.lt
      have hz8 : w3.heap.size ≤ w8.heap.size := Nat.le_trans hz6 hS6.size
      have HJ8 : Hid (Below w.heap.size w w8 ∧ BoxAt w8 w.heap.size TC ∧ XsOwn w8 base 97 120 A1 c1_ L) := hQ0 (by
       have h3 := HB6.out.trans (hS6.mono hz6)
       exact ⟨HJ3.out.1.trans (h3.mono (by omega)), HJ3.out.2.1.below h3 (by omega), HJ3.out.2.2.below h3 (Nat.le_refl _)⟩)
      have x0 := hX8.c 0 (.string x.nm) rfl
      have x1 := hX8.c 1 (.int .i64 (kn : Int)) rfl
      have x2 := hX8.c 2 (.int .i64 x.lv) rfl
      have x3 := hX8.c 3 (.int .i64 x.a1) rfl
      have x4 := hX8.c 4 (.int .i64 x.a2) rfl
      have x5 := hX8.c 5 (.int .i64 x.b1) rfl
      have x6 := hX8.c 6 (.int .i64 x.b2) rfl
      have x7 := hX8.c 7 (.int .i64 x.rs) rfl
      have x8 := hX8.c 8 (.int .i64 x.gr) rfl
      have x9 := hX8.c 9 (.int .i64 x.kk) rfl
      have x10 := hX8.c 10 (.int .i64 x.mn) rfl
      have x11 := hX8.c 11 (.int .i64 x.cl) rfl
      have x12 := hX8.c 12 (.int .i64 x.sw) rfl
      have hltx8 := hX8.lt
      clear hX8 hS6
      refine wp_region_floatT w8.heap.size 41 [41, 42] (Nat.le_refl _) (by kernel_rfl) (by kernel_rfl) (tailBJ_of2 (t := 41) (nx := [41, 39, 3, 39, 5, 6, 7, 10, 9, 10, 13, 12, 13, 17, 15, 16, 17, 21, 19, 20, 21, 25, 23, 24, 25, 29, 27, 28, 29, 33, 31, 32, 33, 37, 35, 36, 37, 38, 39, 40, 41]) (by kernel_rfl)) (by kernel_rfl) ?_; intro hT_ hD_; refine wpT_start hT_ hD_ [0, 1, 2, 3, 4, 5, 8, 9, 11, 12, 14, 15, 18, 19, 22, 23, 26, 27, 30, 31, 34, 35, 6, 7, 10, 13, 16, 17, 20, 21, 24, 25, 28, 29, 32, 33, 36, 37, 38, 39, 40] ?_; clear hT_ hD_
      iterate 22 (apply wpT_step (zA rfl) (by kernel_rfl) rfl; (focus (intro W' hS; have hcS := hS.cells; go_simp; first | done | exact rfl | exact ⟨rfl, Below.refl _ _⟩)); intro K hK; go_simp; refine hK _ ?_; clear hK K)
      apply wpT_fresh LInv.std (zA rfl) (by kernel_rfl) (fun g => Value.slice (some ⟨g, 0, none⟩) 1 1) (by exact rfl); (focus (intro W; go_simp; first | done | exact rfl | exact ⟨rfl, rfl⟩)); intro g_6 hN_6 hG_6; intro K hK; go_simp; refine hK _ ?_; clear hK K
      apply wpT_step (zA rfl) (by kernel_rfl) rfl; (focus (intro W' hS; go_simp; go_at_call 56; exact (numA _ _ _ _ _).mono (fun _ _ h => ⟨h.1, h.2⟩))); intro K hK; go_simp; refine hK _ ?_; clear hK K
      apply wpT_call (zA rfl) (by kernel_rfl); intro W hF hS; have hcS := hS.1.cells; go_simp; (go_at_call 58; refine (vecA _ x.a1 x.a2 w8.heap.size W hS.1.1).mono ?_; rintro e wv0 ⟨AV0, q0, rfl, hb_wv0, hV0⟩; refine XPost.mk _ (fun W => OwnI W w8.heap.size AV0 q0 [x.a1, x.a2]) hb_wv0 (hV0) (cl_owni _ _ _ _) ?_); clear hb_wv0 hcS hS hF; intro K hK; go_simp; refine hK _ ?_; clear hK K
      apply wpT_call (zA rfl) (by kernel_rfl); intro W hF hS; have hcS := hS.1.cells; go_simp; (go_at_call 58; refine (vecA _ x.b1 x.b2 w8.heap.size W hS.1.1).mono ?_; rintro e wv1 ⟨AV1, q1, rfl, hb_wv1, hV1⟩; refine XPost.mk _ (fun W => OwnI W w8.heap.size AV1 q1 [x.b1, x.b2]) hb_wv1 (hV1) (cl_owni _ _ _ _) ?_); clear hb_wv1 hcS hS hF; intro K hK; go_simp; refine hK _ ?_; clear hK K
      apply wpT_fresh LInv.std (zA rfl) (by kernel_rfl) (fun g => Value.slice (some ⟨g, 0, none⟩) 1 1) (by exact rfl); (focus (intro W; go_simp; first | done | exact rfl | exact ⟨rfl, rfl⟩)); intro g_16 hN_16 hG_16; intro K hK; go_simp; refine hK _ ?_; clear hK K
      apply wpT_step (zA rfl) (by kernel_rfl) rfl; (focus (intro W' hS; go_simp; go_at_call 56; exact (numA _ _ _ _ _).mono (fun _ _ h => ⟨h.1, h.2⟩))); intro K hK; go_simp; refine hK _ ?_; clear hK K
      apply wpT_fresh LInv.std (zA rfl) (by kernel_rfl) (fun g => Value.slice (some ⟨g, 0, none⟩) 1 1) (by exact rfl); (focus (intro W; go_simp; first | done | exact rfl | exact ⟨rfl, rfl⟩)); intro g_20 hN_20 hG_20; intro K hK; go_simp; refine hK _ ?_; clear hK K
      apply wpT_step (zA rfl) (by kernel_rfl) rfl; (focus (intro W' hS; go_simp; go_at_call 56; exact (numA _ _ _ _ _).mono (fun _ _ h => ⟨h.1, h.2⟩))); intro K hK; go_simp; refine hK _ ?_; clear hK K
      apply wpT_fresh LInv.std (zA rfl) (by kernel_rfl) (fun g => Value.slice (some ⟨g, 0, none⟩) 1 1) (by exact rfl); (focus (intro W; go_simp; first | done | exact rfl | exact ⟨rfl, rfl⟩)); intro g_24 hN_24 hG_24; intro K hK; go_simp; refine hK _ ?_; clear hK K
      apply wpT_step (zA rfl) (by kernel_rfl) rfl; (focus (intro W' hS; go_simp; go_at_call 56; exact (numA _ _ _ _ _).mono (fun _ _ h => ⟨h.1, h.2⟩))); intro K hK; go_simp; refine hK _ ?_; clear hK K
      apply wpT_fresh LInv.std (zA rfl) (by kernel_rfl) (fun g => Value.slice (some ⟨g, 0, none⟩) 1 1) (by exact rfl); (focus (intro W; go_simp; first | done | exact rfl | exact ⟨rfl, rfl⟩)); intro g_28 hN_28 hG_28; intro K hK; go_simp; refine hK _ ?_; clear hK K
      apply wpT_step (zA rfl) (by kernel_rfl) rfl; (focus (intro W' hS; go_simp; go_at_call 56; exact (numA _ _ _ _ _).mono (fun _ _ h => ⟨h.1, h.2⟩))); intro K hK; go_simp; refine hK _ ?_; clear hK K
      apply wpT_fresh LInv.std (zA rfl) (by kernel_rfl) (fun g => Value.slice (some ⟨g, 0, none⟩) 1 1) (by exact rfl); (focus (intro W; go_simp; first | done | exact rfl | exact ⟨rfl, rfl⟩)); intro g_32 hN_32 hG_32; intro K hK; go_simp; refine hK _ ?_; clear hK K
      apply wpT_step (zA rfl) (by kernel_rfl) rfl; (focus (intro W' hS; go_simp; go_at_call 56; exact (numA _ _ _ _ _).mono (fun _ _ h => ⟨h.1, h.2⟩))); intro K hK; go_simp; refine hK _ ?_; clear hK K
      apply wpT_fresh LInv.std (zA rfl) (by kernel_rfl) (fun g => Value.slice (some ⟨g, 0, none⟩) 1 1) (by exact rfl); (focus (intro W; go_simp; first | done | exact rfl | exact ⟨rfl, rfl⟩)); intro g_36 hN_36 hG_36; intro K hK; go_simp; refine hK _ ?_; clear hK K
      apply wpT_step (zA rfl) (by kernel_rfl) rfl; (focus (intro W' hS; go_simp; go_at_call 56; exact (numA _ _ _ _ _).mono (fun _ _ h => ⟨h.1, h.2⟩))); intro K hK; go_simp; refine hK _ ?_; clear hK K
      apply wpT_fresh LInv.std (zA rfl) (by kernel_rfl) (fun g => Value.slice (some ⟨g, 0, none⟩) 9 9) (by exact rfl); (focus (intro W; go_simp; first | done | exact rfl | exact ⟨rfl, rfl⟩)); intro g_38 hN_38 hG_38; intro K hK; go_simp; refine hK _ ?_; clear hK K
      apply wpT_call (zA rfl) (by kernel_rfl); intro W hF hS; have hcS := hS.1.cells; go_simp; (go_at_call 57; refine (st_noneB wd x.nm [(kv1 k_level x.lv, some ⟨g_6, 0, none⟩, 1), (kv2 k_from x.a1 x.a2, AV0, q0), (kv2 k_to x.b1 x.b2, AV1, q1), (kv1 k_rest x.rs, some ⟨g_16, 0, none⟩, 1), (kv1 k_grip x.gr, some ⟨g_20, 0, none⟩, 1), (kv1 k_kick x.kk, some ⟨g_24, 0, none⟩, 1), (kv1 k_min x.mn, some ⟨g_28, 0, none⟩, 1), (kv1 k_coil x.cl, some ⟨g_32, 0, none⟩, 1), (kv1 k_switch x.sw, some ⟨g_36, 0, none⟩, 1)] g_38 9 W (rows_blk _ (hS.2 _ (List.mem_cons_self ..)).2 rfl) (by show _ ≤ 1000; simp) (nk (by kernel_rfl))).mono ?_; rintro e ws_ ⟨rfl, hb_ws_⟩; refine XPost.mk _ (fun W => True) hb_ws_ (trivial) (Cl.tt) ?_); clear hb_ws_ hcS hS hF; intro K hK; go_simp; refine hK _ ?_; clear hK K
      apply wpT_fresh LInv.std (zA rfl) (by kernel_rfl) (fun g => Value.slice (some ⟨g, 0, none⟩) 1 1) (by exact rfl); (focus (intro W; go_simp; first | done | exact rfl | exact ⟨rfl, rfl⟩)); intro g_40 hN_40 hG_40; intro K hK; go_simp; refine hK _ ?_; clear hK K
      refine wpT_done (by kernel_rfl) ?_; intro w4 hF_w4 hSG; have hz_w4 := hSG.1.1; have hb_w4 := hSG.1.2
      have HH_40 := hQ0 (hSG.2 _ (List.mem_cons_self ..)).2; have hl_40 := hSG.size (List.mem_cons_self ..)
      have HH_38 := hQ0 (hSG.2 _ (List.mem_cons_of_mem _ (List.mem_cons_self ..))).2; have hl_38 := hSG.size (List.mem_cons_of_mem _ (List.mem_cons_self ..))
      have HH_36 := hQ0 (hSG.2 _ (List.mem_cons_of_mem _ (List.mem_cons_of_mem _ (List.mem_cons_self ..)))).2; have hl_36 := hSG.size (List.mem_cons_of_mem _ (List.mem_cons_of_mem _ (List.mem_cons_self ..)))
      have HH_32 := hQ0 (hSG.2 _ (List.mem_cons_of_mem _ (List.mem_cons_of_mem _ (List.mem_cons_of_mem _ (List.mem_cons_self ..))))).2; have hl_32 := hSG.size (List.mem_cons_of_mem _ (List.mem_cons_of_mem _ (List.mem_cons_of_mem _ (List.mem_cons_self ..))))
      have HH_28 := hQ0 (hSG.2 _ (List.mem_cons_of_mem _ (List.mem_cons_of_mem _ (List.mem_cons_of_mem _ (List.mem_cons_of_mem _ (List.mem_cons_self ..)))))).2; have hl_28 := hSG.size (List.mem_cons_of_mem _ (List.mem_cons_of_mem _ (List.mem_cons_of_mem _ (List.mem_cons_of_mem _ (List.mem_cons_self ..)))))
      have HH_24 := hQ0 (hSG.2 _ (List.mem_cons_of_mem _ (List.mem_cons_of_mem _ (List.mem_cons_of_mem _ (List.mem_cons_of_mem _ (List.mem_cons_of_mem _ (List.mem_cons_self ..))))))).2; have hl_24 := hSG.size (List.mem_cons_of_mem _ (List.mem_cons_of_mem _ (List.mem_cons_of_mem _ (List.mem_cons_of_mem _ (List.mem_cons_of_mem _ (List.mem_cons_self ..))))))
      have HH_20 := hQ0 (hSG.2 _ (List.mem_cons_of_mem _ (List.mem_cons_of_mem _ (List.mem_cons_of_mem _ (List.mem_cons_of_mem _ (List.mem_cons_of_mem _ (List.mem_cons_of_mem _ (List.mem_cons_self ..)))))))).2; have hl_20 := hSG.size (List.mem_cons_of_mem _ (List.mem_cons_of_mem _ (List.mem_cons_of_mem _ (List.mem_cons_of_mem _ (List.mem_cons_of_mem _ (List.mem_cons_of_mem _ (List.mem_cons_self ..)))))))
      have HH_16 := hQ0 (hSG.2 _ (List.mem_cons_of_mem _ (List.mem_cons_of_mem _ (List.mem_cons_of_mem _ (List.mem_cons_of_mem _ (List.mem_cons_of_mem _ (List.mem_cons_of_mem _ (List.mem_cons_of_mem _ (List.mem_cons_self ..))))))))).2; have hl_16 := hSG.size (List.mem_cons_of_mem _ (List.mem_cons_of_mem _ (List.mem_cons_of_mem _ (List.mem_cons_of_mem _ (List.mem_cons_of_mem _ (List.mem_cons_of_mem _ (List.mem_cons_of_mem _ (List.mem_cons_self ..))))))))
      have HH_6 := hQ0 (hSG.2 _ (List.mem_cons_of_mem _ (List.mem_cons_of_mem _ (List.mem_cons_of_mem _ (List.mem_cons_of_mem _ (List.mem_cons_of_mem _ (List.mem_cons_of_mem _ (List.mem_cons_of_mem _ (List.mem_cons_of_mem _ (List.mem_cons_self ..)))))))))).2; have hl_6 := hSG.size (List.mem_cons_of_mem _ (List.mem_cons_of_mem _ (List.mem_cons_of_mem _ (List.mem_cons_of_mem _ (List.mem_cons_of_mem _ (List.mem_cons_of_mem _ (List.mem_cons_of_mem _ (List.mem_cons_of_mem _ (List.mem_cons_self ..)))))))))
      clear hSG; (try simp only [List.filterMap_cons, List.filterMap_nil, List.getElem?_cons_succ, List.getElem?_cons_zero])
      obtain ⟨⟨hv0, hv1⟩, _⟩ := hF_w4
      have HK4 : Hid (KsOwn w4 base 120 (some ⟨g_38, 0, none⟩) 9 (itWl x).keys) := hQ0 (KsOwn.blk [(kv1 k_level x.lv, some ⟨g_6, 0, none⟩, 1), (kv2 k_from x.a1 x.a2, AV0, q0), (kv2 k_to x.b1 x.b2, AV1, q1), (kv1 k_rest x.rs, some ⟨g_16, 0, none⟩, 1), (kv1 k_grip x.gr, some ⟨g_20, 0, none⟩, 1), (kv1 k_kick x.kk, some ⟨g_24, 0, none⟩, 1), (kv1 k_min x.mn, some ⟨g_28, 0, none⟩, 1), (kv1 k_coil x.cl, some ⟨g_32, 0, none⟩, 1), (kv1 k_switch x.sw, some ⟨g_36, 0, none⟩, 1)] HH_38.out rfl (by omega) (by show _ ≤ 1000; simp) (List.forall_mem_cons.2 ⟨OwnI.blk1 HH_6.out (by omega), List.forall_mem_cons.2 ⟨hv0.weaker (by omega), List.forall_mem_cons.2 ⟨hv1.weaker (by omega), List.forall_mem_cons.2 ⟨OwnI.blk1 HH_16.out (by omega), List.forall_mem_cons.2 ⟨OwnI.blk1 HH_20.out (by omega), List.forall_mem_cons.2 ⟨OwnI.blk1 HH_24.out (by omega), List.forall_mem_cons.2 ⟨OwnI.blk1 HH_28.out (by omega), List.forall_mem_cons.2 ⟨OwnI.blk1 HH_32.out (by omega), List.forall_mem_cons.2 ⟨OwnI.blk1 HH_36.out (by omega), List.forall_mem_nil _⟩⟩⟩⟩⟩⟩⟩⟩⟩))
      have hg5 := HH_40.out
      rw [HWD.out] at hg5
      have HJ4 : Hid (Below w.heap.size w w4 ∧ BoxAt w4 w.heap.size TC ∧ XsOwn w4 base 97 120 A1 c1_ L) := hQ0 ⟨HJ8.out.1.trans (hb_w4.mono (by omega)), HJ8.out.2.1.below hb_w4 (by omega), HJ8.out.2.2.below hb_w4 (Nat.le_refl _)⟩
      have HLL : Hid (L.length ≤ 1000000) := hQ0 (by rw [HL.out, List.length_append, List.length_map, List.length_take]; have := HLl.out; omega)
      obtain ⟨xs, hxs, hmore⟩ := HJ4.out.2.2.more (by decide) (by decide)
      have HM := hQ0 hmore
      have HXS := hQ0 hxs
      have HBS : Hid (base ≤ w4.heap.size) := hQ0 (by omega)
      have HG := hQ0 hg5
      clear hmore hxs hb_w4 hg5 hv0 hv1
      go_wp2_with (at_builtin; go_must (refine wpList_append_one rfl _ _ 92 97 _ 4 64 rfl Tryz.underlying92 itemInfo rfl (by decide) (by decide) base (.slice A1 L.length c1_) L.length xs (cellsOfX (itWl x) (some ⟨g_38, 0, none⟩) 9) rfl HXS.out g_40 1 rfl rfl (fun j u hu => (cell_of_row w4 g_40 j _ _ (0, 0) HG.out).trans (by rw [← Array.getElem?_toList]; exact hu)) (by simp [cellsOfX, Value.oneCell']) HLL.out HBS.out ?_))
      intro v7 w7 ho7 hg7 _
      obtain ⟨A2, c2, rfl, hX7⟩ := HM.out (itWl x) _ _ v7 w7 HK4.out ho7 hg7
      have hfr := own_fresh HXS.out
      have hE : L ++ [itWl x] = L0 ++ (l.take (k + 1)).map itWl := by rw [HL.out, map_snoc itWl HXX.out, List.append_assoc]
      rw [hE] at hX7 ⊢
      have HJ7 : Hid (Below w.heap.size w w7 ∧ BoxAt w7 w.heap.size TC ∧ XsOwn w7 base 97 120 A2 c2 (L0 ++ (l.take (k + 1)).map itWl)) := hQ0 ⟨HJ4.out.1.trans (below_grown hg7 (fun k hk => by have := hfr k hk; omega) HJ4.out.1.size), boxAt_grown HJ4.out.2.1 hg7 (fun k hk e => by have := hfr k hk; omega), hX7⟩
      have hbs7 : base ≤ w7.heap.size := Nat.le_trans HBS.out hg7.size
      obtain ⟨n7, hn7⟩ : ∃ n, n = (L0 ++ (l.take (k + 1)).map itWl).length := ⟨_, rfl⟩
      rw [← hn7]
      have HN7 := hQ0 hn7
      clear hX7 hfr hE ho7 hg7 hn7
      go_wp2_with fail
      go_roundg (l.length - (k + 1) + 1)
      case measure => omega
      case rel => exact ⟨k + 1, A2, c2, by omega, by omega, by rw [HN7.out], by go_num, hQ0 (fun z hz => by
        obtain ⟨h1, h2⟩ := List.getElem?_eq_some_iff.1 HXX.out
        rw [List.take_succ_eq_append_getElem h1] at hz
        rcases List.mem_append.1 hz with h | h
        · exact HKD.out z h
        · rw [List.mem_singleton.1 h, h2]; exact HBK.out.symm), hbs7, HJ7⟩
  · obtain rfl : k = l.length := by omega
    go_wp2_with fail
    show Q .normal _ _
    have hj := HJ.out
    have hL2 : L = L0 ++ l.map itWl := by rw [HL.out, List.take_length]
    rw [hL2] at hj ⊢
    exact HR.out (by have := HKD.out; rwa [List.take_length] at this) _ _ A1 c1_ rfl rfl rfl rfl hj.1 hbs hj.2.1 hj.2.2
end Go.Proofs.YtbpcjpiaimdpnaaGreatDoor
