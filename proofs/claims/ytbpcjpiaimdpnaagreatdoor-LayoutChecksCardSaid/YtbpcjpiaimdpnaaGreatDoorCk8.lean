/- Merged texts: Inf0w LcLw LcRw SrcK LnA LnB LnC LcNw FrB LtPw LtZw LmP MpAw MpBw MpCw. -/
import Derived.Test.YtbpcjpiaimdpnaaGreatDoorCk7
import Derived.Deep.Cut
import Derived.Laws.Concat
import Derived.Lib.SliceRun
import Derived.Shelf.SlicesE.Clone
import Derived.BigRegion
import Derived.ChangeAlike
import Derived.Deep.RegionWith
set_option linter.unusedSimpArgs false
set_option linter.unusedVariables false
namespace Go.Proofs.YtbpcjpiaimdpnaaGreatDoor
open Go Go.RowKit
theorem infAc : (Tryz.prog.info? 76).map (fun i => (i.zero, i.size, i.bytes)) = some (some (.agg #[.string ⟨#[]⟩, .int .i64 0, .int .i64 0, .int .i64 0, .int .i64 0, .int .i64 0, .int .i64 0, .int .i64 0, .int .i64 0, .int .i64 0, .int .i64 0, .int .i64 0]), 12, 104) := by kernel_rfl
theorem infPs : (Tryz.prog.info? 55).map (fun i => (i.zero, i.size, i.bytes)) = some (some (.agg #[.string ⟨#[]⟩, .int .i64 0, .int .i64 0, .int .i64 0, .int .i64 0, .int .i64 0, .int .i64 0, .int .i64 0, .int .i64 0, .int .i64 0, .int .i64 0]), 11, 96) := by kernel_rfl
theorem infFl : (Tryz.prog.info? 79).map (fun i => (i.zero, i.size, i.bytes)) = some (some (.agg #[.string ⟨#[]⟩, .int .i64 0, .int .i64 0, .int .i64 0, .int .i64 0, .bool false, .int .i64 0, .int .i64 0, .int .i64 0, .int .i64 0, .int .i64 0, .int .i64 0, .int .i64 0, .int .i64 0, .int .i64 0]), 15, 128) := by kernel_rfl
theorem infZn : (Tryz.prog.info? 59).map (fun i => (i.zero, i.size, i.bytes)) = some (some (.agg #[.string ⟨#[]⟩, .int .i64 0, .int .i64 0, .int .i64 0, .int .i64 0, .int .i64 0, .int .i64 0, .int .i64 0, .int .i64 0]), 9, 80) := by kernel_rfl
theorem infSc : (Tryz.prog.info? 81).map (fun i => (i.zero, i.size, i.bytes)) = some (some (.agg #[.string ⟨#[]⟩, .int .i64 0, .int .i64 0, .int .i64 0, .int .i64 0, .int .i64 0, .int .i64 0, .int .i64 0, .int .i64 0, .int .i64 0]), 10, 88) := by kernel_rfl
theorem infLa : (Tryz.prog.info? 57).map (fun i => (i.zero, i.size, i.bytes)) = some (some (.agg #[.string ⟨#[]⟩, .int .i64 0, .int .i64 0, .int .i64 0, .int .i64 0, .int .i64 0]), 6, 56) := by kernel_rfl
theorem infRa : (Tryz.prog.info? 83).map (fun i => (i.zero, i.size, i.bytes)) = some (some (.agg #[.string ⟨#[]⟩, .int .i64 0, .int .i64 0, .int .i64 0, .int .i64 0, .int .i64 0, .int .i64 0, .int .i64 0]), 8, 72) := by kernel_rfl
theorem infDr : (Tryz.prog.info? 61).map (fun i => (i.zero, i.size, i.bytes)) = some (some (.agg #[.string ⟨#[]⟩, .int .i64 0, .int .i64 0, .int .i64 0, .int .i64 0]), 5, 48) := by kernel_rfl
theorem infLn : (Tryz.prog.info? 85).map (fun i => (i.zero, i.size, i.bytes)) = some (some (.agg #[.string ⟨#[]⟩, .int .i64 0, .int .i64 0, .int .i64 0, .int .i64 0, .int .i64 0, .int .i64 0]), 7, 64) := by kernel_rfl
end Go.Proofs.YtbpcjpiaimdpnaaGreatDoor
namespace Go.Proofs.YtbpcjpiaimdpnaaGreatDoor
open Go Go.RowKit
set_option linter.unusedVariables false
attribute [local go_sem ↓] evalL getL64 setL64
attribute [local go_sem ↓] getL8 setL8
attribute [local go_sem ↓] getL1 getL0
set_option maxRecDepth 100000 in
set_option maxHeartbeats 8000000 in
theorem add_table (w : World) (base tb : Nat) (t : Tb) (a : TbA) (x : IV) (B : Option Addr) (d : Nat) (hO : TbO w base tb t a) (hlt : tb < base) (hbw : base ≤ w.heap.size) (hK : ∃ w0 : World, KsAt w0 B x.keys ∧ Below w0.heap.size w0 w ∧ w0.heap.size ≤ tb) (hi : ItOk x) (hw : x.word = t_table) (hl : t.tr.length ≤ 100000) (q : Nat) (wz : World) (hOz : TbO wz base tb t a) (hqz : wz.heap.size ≤ q) (hq : q < w.heap.size) :
  Calls Tryz.prog 40 #[.pointer (some ⟨tb, 0, none⟩), vOfX x B d] w (AddOut (putR t x) (!missAll x) base tb q w) := by
 have hzt := hOz.bx.lt
 have HOZ := hQ0 hOz
 clear hOz
 have HO := hQ0 hO
 have HK := hQ0 hK
 have HI := hQ0 hi
 have ho := hi.iv
 have H1 := hQ0 (ar_has hi.ar).1
 have HW := hQ0 hw
 have HL := hQ0 hl
 clear hO hK hi hl
 unfold vOfX
 have b_table : (x.word.toList == ([116, 97, 98, 108, 101] : List UInt8)) = true := by rw [hw]; kernel_rfl
 clear hw
 go_enter Tryz.func40, Tryz.ntmps40; (try simp only [List.append_eq, List.cons_append, List.nil_append])
 go_upto_region 2 with (fail)
 (refine pin_eqT (fun w1 hE_w1 => ?_))
 have HX1 : Hid (BoxAt w1 w.heap.size [.string x.word, .string x.name, .slice B x.keys.length d, .int .i64 x.at_]) := hQ0 (by rw [hE_w1]; exact (BoxAt.new _ _ _).alloc _)
 have HB1 : Hid (Below w.heap.size w w1) := hQ0 (by rw [hE_w1]; ((with_reducible (repeat (first | exact bR _ _ | apply bS | apply bA | apply bD | refine bT ?_ (by assumption) ?_ | refine bO (by assumption) ?_ ?_))) <;> (first | omega | (simp <;> omega))))
 obtain ⟨vb, hvb⟩ : ∃ z, z = w.heap.size + 1 := ⟨_, rfl⟩
 have HV1 : Hid (VAt w1 vb x B d false) := hQ0 (by
  obtain ⟨w0, q1, q2, q3⟩ := HK.out
  rw [hE_w1, hvb]
  refine ⟨?_, w0, q1, (q2.alloc (by have := q2.size; omega) _).alloc (by have := q2.size; simp; omega) _, by have := q2.size; omega⟩
  have := BoxAt.new (w.alloc (.cells #[.string x.word, .string x.name, .slice B x.keys.length d, .int .i64 x.at_] 97)) [.string x.word, .string x.name, .slice B x.keys.length d, .int .i64 x.at_, .bool false] 163
  have hsz : (w.alloc (.cells #[.string x.word, .string x.name, .slice B x.keys.length d, .int .i64 x.at_] 97)).heap.size = w.heap.size + 1 := by simp
  rw [hsz] at this
  exact this)
 have hvw : w.heap.size < vb := by omega
 rw [← hvb]
 clear hE_w1 hvb
 have x0 := HX1.out.c 0 (.string x.word) rfl
 have hltX := HX1.out.lt
 go_upto_region 7 with (first | (go_at_call 94; refine (vbounce_any _ _ x B d _ HV1.out ho (H1.out _ (by simp [keys1])) (H1.out _ (by simp [keys1]))).mono ?_; rintro e w2 ⟨rfl, hb2⟩; have HV2 := hQ0 (HV1.out.below hb2); have HX2 := hQ0 (HX1.out.below hb2 HX1.out.lt)) | (go_at_call 95; refine (vports_any _ _ x B d _ HV2.out ho (H1.out _ (by simp [keys1])) (H1.out _ (by simp [keys1]))).mono ?_; rintro e w3 ⟨rfl, hb3⟩; have HV3 := hQ0 (HV2.out.below hb3); have HX3 := hQ0 (HX2.out.below hb3 HX2.out.lt)) | (go_at_call 96; refine (or_any _ _ x B d _ k_min 0 HV3.out ho (H1.out _ (by simp [keys1])).ne).mono ?_; rintro e w4 ⟨rfl, hb4⟩; have HV4 := hQ0 (HV3.out.below hb4); have HX4 := hQ0 (HX3.out.below hb4 HX3.out.lt); have x04 := HX4.out.c 0 (.string x.word) rfl))
 have HB4 : Hid (Below w.heap.size w w4) := hQ0 (((HB1.out.trans (hb2.mono HB1.out.size)).trans (hb3.mono (by have := HB1.out.size; have := hb2.size; omega))).trans (hb4.mono (by have := HB1.out.size; have := hb2.size; have := hb3.size; omega)))
 have HK4 : Hid (∃ w0 : World, KsAt w0 B x.keys ∧ Below w0.heap.size w0 w4 ∧ w0.heap.size ≤ tb) := hQ0 (by
  obtain ⟨w0, q1, q2, q3⟩ := HK.out
  exact ⟨w0, q1, q2.trans (HB4.out.mono q2.size), q3⟩)
 clear HV1 HV2 HV3 HX1 HX2 HX3 HX4 hb2 hb3 hb4 x0 x04 hltX HB1
 go_wp2_with (go_at_call 97; refine (head_any w4 w base tb vb t a x B d false HO.out HB4.out (by omega) hlt (by have := HB4.out.size; omega) HV4.out HK4.out ho HI.out.ar HI.out.tr HL.out q wz HOZ.out hqz hq).mono ?_; rintro e w5 ⟨rfl, hb5, hV5, a', hO5⟩; have HV5 := hQ0 hV5; have HO5 := hQ0 hO5; clear hV5 hO5; have v9 := HV5.out.bx.c 4 (.bool (missR x k_radius false)) rfl; have hltV := HV5.out.bx.lt; obtain ⟨M, hM⟩ : ∃ z, z = missR x k_radius false := ⟨_, rfl⟩; rw [← hM] at v9; have HM := hQ0 hM; clear hM)
 go_ret
 have hm : missAll x = M := by rw [HM.out]; unfold missAll missR; rw [HW.out, show reqR t_table = [k_radius] from by kernel_rfl]; simp
 refine ⟨(show _ = Ending.returned (.bool (!M)) from rfl).trans (by rw [hm]), (BelQ.of HB4.out (by omega) hq).trans hb5, a', ?_⟩
 have e : putR t x = headR t x := by unfold putR; rw [HW.out]; kernel_rfl
 rw [e]
 exact HO5.out
theorem sub_mem {l m : List ByteArray} (h : l.all (fun k => m.any fun q => decide (q = k)) = true) {k : ByteArray} (hk : k ∈ l) : k ∈ m := by
 have h1 := List.all_eq_true.1 h k hk
 obtain ⟨q, hq, e⟩ := List.any_eq_true.1 h1
 rw [← of_decide_eq_true e]
 exact hq
structure Tb.le (t : Tb) (n : Nat) : Prop where
  tr : t.tr.length ≤ 7 * n
  ws : t.ws.length ≤ n
  ars : t.ars.length ≤ n
  ps : t.ps.length ≤ n
  fs : t.fs.length ≤ n
  zs : t.zs.length ≤ n
  ss : t.ss.length ≤ n
  las : t.las.length ≤ n
  rs : t.rs.length ≤ n
  ds : t.ds.length ≤ n
  lns : t.lns.length ≤ n
theorem add_any (w : World) (base tb n : Nat) (t : Tb) (a : TbA) (x : IV) (B : Option Addr) (d : Nat) (hO : TbO w base tb t a) (hlt : tb < base) (hbw : base ≤ w.heap.size) (hK : ∃ w0 : World, KsAt w0 B x.keys ∧ Below w0.heap.size w0 w ∧ w0.heap.size ≤ tb) (hi : ItOk x) (hl : t.le n) (hn : n ≤ 10000) (q : Nat) (wz : World) (hOz : TbO wz base tb t a) (hqz : wz.heap.size ≤ q) (hq : q < w.heap.size) :
  Calls Tryz.prog 40 #[.pointer (some ⟨tb, 0, none⟩), vOfX x B d] w (AddOut (putR t x) (!missAll x) base tb q w) := by
 have h1 := (ar_has hi.ar).1
 have h2 := (ar_has hi.ar).2
 have g1 : ∀ k ∈ [k_level, k_rest, k_grip, k_coil, k_switch, k_min, k_kick, k_size, k_into, k_limit], Has1 x k := fun k hk => h1 k (sub_mem (by kernel_rfl) hk)
 have g2 : ∀ k ∈ [k_center, k_from, k_to, k_half, k_out, k_dir], Has2 x k := fun k hk => h2 k (sub_mem (by kernel_rfl) hk)
 obtain ⟨l0, l1, l2, l3, l4, l5, l6, l7, l8, l9, l10⟩ := hl
 rcases hi.ww with h | h
 · exact add_table w base tb t a x B d hO hlt hbw hK hi h (by omega) q wz hOz hqz hq
 · exact add_wall w base tb t a x B d hO hlt hbw hK hi.iv h q wz hOz hqz hq g1 g2 (by omega)
attribute [local go_sem ↓] evalL getL64 setL64
attribute [local go_sem ↓] getL8 setL8
attribute [local go_sem ↓] getL1 getL0
def sameR (t u : Tb) : Bool := eqI t.rad u.rad && eqI t.bal u.bal && eqI t.rst u.rst && (eqI t.gx u.gx && eqI t.gy u.gy) && eqI t.drg u.drg && eqI t.shf u.shf && eqL eqI t.tr u.tr && eqL Wl.eqB t.ws u.ws && eqL Ac.eqB t.ars u.ars && eqL Ps.eqB t.ps u.ps && eqL Fl.eqB t.fs u.fs && eqL Zn.eqB t.zs u.zs && eqL Sc.eqB t.ss u.ss && eqL La.eqB t.las u.las && eqL Ra.eqB t.rs u.rs && eqL Dr.eqB t.ds u.ds && eqL Ln.eqB t.lns u.lns
theorem eqL_iff {α : Type} {f : α → α → Bool} (hf : ∀ x y, f x y = true ↔ x = y) : ∀ {l m : List α}, eqL f l m = true ↔ l = m
 | [], [] => by simp [eqL]
 | [], y :: m => by simp [eqL]
 | x :: l, [] => by simp [eqL]
 | x :: l, y :: m => by simp [eqL, hf, eqL_iff hf (l := l) (m := m)]
theorem sameR_iff {t u : Tb} : sameR t u = true ↔ t = u := by
 unfold sameR
 simp only [Bool.and_eq_true, eqI_iff, eqL_iff (fun _ _ => eqI_iff), eqL_iff (fun _ _ => Wl.eqB_iff), eqL_iff (fun _ _ => Ac.eqB_iff), eqL_iff (fun _ _ => Ps.eqB_iff), eqL_iff (fun _ _ => Fl.eqB_iff), eqL_iff (fun _ _ => Zn.eqB_iff), eqL_iff (fun _ _ => Sc.eqB_iff), eqL_iff (fun _ _ => La.eqB_iff), eqL_iff (fun _ _ => Ra.eqB_iff), eqL_iff (fun _ _ => Dr.eqB_iff), eqL_iff (fun _ _ => Ln.eqB_iff)]
 constructor
 · rintro ⟨⟨⟨⟨⟨⟨⟨⟨⟨⟨⟨⟨⟨⟨⟨⟨h0, h1⟩, h2⟩, h3⟩, h4⟩, h5⟩, h6⟩, h7⟩, h8⟩, h9⟩, h10⟩, h11⟩, h12⟩, h13⟩, h14⟩, h15⟩, h16⟩
   cases t; cases u
   simp_all
 · rintro rfl
   simp
set_option maxRecDepth 100000 in
set_option maxHeartbeats 8000000 in
theorem same_any (t u : Tb) (a b : TbA) (n : Nat) (w : World) (hA : TbAt w t a) (hB : TbAt w u b) (h1 : t.le n) (h2 : u.le n) (hn : n ≤ 10000) (h9 : u.only9) :
  Calls Tryz.prog 16 #[t.v a, u.v b] w fun e w' => e = .returned (.bool (sameR t u)) ∧ Below w.heap.size w w' := by
 have HA := hQ0 hA
 have HB := hQ0 hB
 have H1 := hQ0 h1
 have H2 := hQ0 h2
 have H9 := hQ0 h9
 have HN := hQ0 hn
 obtain ⟨R, hR⟩ : ∃ R, R = sameR t u := ⟨_, rfl⟩
 rw [← hR]
 unfold sameR at hR
 clear hA hB h1 h2 h9
 unfold Tb.v
 go_enter Tryz.func16, Tryz.ntmps16; (try simp only [List.append_eq, List.cons_append, List.nil_append])
 go_upto_region 1 with (fail)
 (refine pin_eqT (fun w1 hE_w1 => ?_))
 have HT1 : Hid (BoxAt w1 w.heap.size (t.cells a)) := hQ0 (by rw [hE_w1]; exact (BoxAt.new w (t.cells a) 36).alloc _)
 have HU1 : Hid (BoxAt w1 (w.heap.size + 1) (u.cells b)) := hQ0 (by
  rw [hE_w1]
  have := BoxAt.new (w.alloc (.cells (t.cells a).toArray 36)) (u.cells b) 36
  rwa [show (w.alloc (.cells (t.cells a).toArray 36)).heap.size = w.heap.size + 1 by simp] at this)
 have HB1 : Hid (Below w.heap.size w w1) := hQ0 (by rw [hE_w1]; ((with_reducible (repeat (first | exact bR _ _ | apply bS | apply bA | apply bD | refine bT ?_ (by assumption) ?_ | refine bO (by assumption) ?_ ?_))) <;> (first | omega | (simp <;> omega))))
 have hz1 := HB1.out.size
 have q1 := HT1.out.lt
 have q2 := HU1.out.lt
 clear hE_w1
 have K0 := fun W (hb : Below w1.heap.size w1 W) => eq_is t.tr u.tr a.tr b.tr a.trc b.trc W (HA.out.tr.below (HB1.out.trans (hb.mono hz1)) (Nat.le_refl _)) (HB.out.tr.below (HB1.out.trans (hb.mono hz1)) (Nat.le_refl _)) (by have := H1.out.tr; have := HN.out; omega) (by have := H2.out.tr; have := HN.out; omega)
 obtain ⟨p0, hp0⟩ : ∃ b, b = eqL eqI t.tr u.tr := ⟨_, rfl⟩
 rw [← hp0] at K0 hR
 have K0 := hQ0 K0
 clear hp0
 have K1 := fun W (hb : Below w1.heap.size w1 W) => eq_ws t.ws u.ws a.ws b.ws a.wsc b.wsc W (HA.out.ws.below (HB1.out.trans (hb.mono hz1)) (Nat.le_refl _)) (HB.out.ws.below (HB1.out.trans (hb.mono hz1)) (Nat.le_refl _)) (by have := H1.out.ws; have := HN.out; omega) (by have := H2.out.ws; have := HN.out; omega)
 obtain ⟨p1, hp1⟩ : ∃ b, b = eqL Wl.eqB t.ws u.ws := ⟨_, rfl⟩
 rw [← hp1] at K1 hR
 have K1 := hQ0 K1
 clear hp1
 have K2 := fun W (hb : Below w1.heap.size w1 W) => eq_ars t.ars u.ars a.ars b.ars a.arsc b.arsc W (by have := H1.out.ars; have := HN.out; omega) H9.out.ars
 obtain ⟨p2, hp2⟩ : ∃ b, b = eqL Ac.eqB t.ars u.ars := ⟨_, rfl⟩
 rw [← hp2] at K2 hR
 have K2 := hQ0 K2
 clear hp2
 have K3 := fun W (hb : Below w1.heap.size w1 W) => eq_ps t.ps u.ps a.ps b.ps a.psc b.psc W (by have := H1.out.ps; have := HN.out; omega) H9.out.ps
 obtain ⟨p3, hp3⟩ : ∃ b, b = eqL Ps.eqB t.ps u.ps := ⟨_, rfl⟩
 rw [← hp3] at K3 hR
 have K3 := hQ0 K3
 clear hp3
 have K4 := fun W (hb : Below w1.heap.size w1 W) => eq_fs t.fs u.fs a.fs b.fs a.fsc b.fsc W (by have := H1.out.fs; have := HN.out; omega) H9.out.fs
 obtain ⟨p4, hp4⟩ : ∃ b, b = eqL Fl.eqB t.fs u.fs := ⟨_, rfl⟩
 rw [← hp4] at K4 hR
 have K4 := hQ0 K4
 clear hp4
 have K5 := fun W (hb : Below w1.heap.size w1 W) => eq_zs t.zs u.zs a.zs b.zs a.zsc b.zsc W (by have := H1.out.zs; have := HN.out; omega) H9.out.zs
 obtain ⟨p5, hp5⟩ : ∃ b, b = eqL Zn.eqB t.zs u.zs := ⟨_, rfl⟩
 rw [← hp5] at K5 hR
 have K5 := hQ0 K5
 clear hp5
 have K6 := fun W (hb : Below w1.heap.size w1 W) => eq_ss t.ss u.ss a.ss b.ss a.ssc b.ssc W (by have := H1.out.ss; have := HN.out; omega) H9.out.ss
 obtain ⟨p6, hp6⟩ : ∃ b, b = eqL Sc.eqB t.ss u.ss := ⟨_, rfl⟩
 rw [← hp6] at K6 hR
 have K6 := hQ0 K6
 clear hp6
 have K7 := fun W (hb : Below w1.heap.size w1 W) => eq_las t.las u.las a.las b.las a.lasc b.lasc W (by have := H1.out.las; have := HN.out; omega) H9.out.las
 obtain ⟨p7, hp7⟩ : ∃ b, b = eqL La.eqB t.las u.las := ⟨_, rfl⟩
 rw [← hp7] at K7 hR
 have K7 := hQ0 K7
 clear hp7
 have K8 := fun W (hb : Below w1.heap.size w1 W) => eq_rs t.rs u.rs a.rs b.rs a.rsc b.rsc W (by have := H1.out.rs; have := HN.out; omega) H9.out.rs
 obtain ⟨p8, hp8⟩ : ∃ b, b = eqL Ra.eqB t.rs u.rs := ⟨_, rfl⟩
 rw [← hp8] at K8 hR
 have K8 := hQ0 K8
 clear hp8
 have K9 := fun W (hb : Below w1.heap.size w1 W) => eq_ds t.ds u.ds a.ds b.ds a.dsc b.dsc W (by have := H1.out.ds; have := HN.out; omega) H9.out.ds
 obtain ⟨p9, hp9⟩ : ∃ b, b = eqL Dr.eqB t.ds u.ds := ⟨_, rfl⟩
 rw [← hp9] at K9 hR
 have K9 := hQ0 K9
 clear hp9
 have K10 := fun W (hb : Below w1.heap.size w1 W) => eq_lns t.lns u.lns a.lns b.lns a.lnsc b.lnsc W (by have := H1.out.lns; have := HN.out; omega) H9.out.lns
 obtain ⟨p10, hp10⟩ : ∃ b, b = eqL Ln.eqB t.lns u.lns := ⟨_, rfl⟩
 rw [← hp10] at K10 hR
 have K10 := hQ0 K10
 clear hp10
 unfold eqI at hR
 revert hR
 have hbb := Below.refl w1.heap.size w1
 cases q_0 : decide (t.rad = u.rad)
 rotate_left
 cases q_1 : decide (t.bal = u.bal)
 rotate_left
 cases q_2 : decide (t.rst = u.rst)
 rotate_left
 cases q_3 : decide (t.gx = u.gx)
 rotate_left
 cases q_4 : decide (t.gy = u.gy)
 rotate_left
 cases q_5 : decide (t.drg = u.drg)
 rotate_left
 cases q_6 : decide (t.shf = u.shf)
 rotate_left
 cases p0
 rotate_left
 cases p1
 rotate_left
 cases p2
 rotate_left
 cases p3
 rotate_left
 cases p4
 rotate_left
 cases p5
 rotate_left
 cases p6
 rotate_left
 cases p7
 rotate_left
 cases p8
 rotate_left
 cases p9
 rotate_left
 cases p10
 rotate_left
 all_goals (as_aux_lemma =>
  intro hR
  simp only [Bool.and_true, Bool.true_and, Bool.false_and, Bool.and_false] at hR
  have HR := hQ0 hR
  clear hR
  first | have r_ := of_decide_eq_false q_0 | have r_ := of_decide_eq_false q_1 | have r_ := of_decide_eq_false q_2 | have r_ := of_decide_eq_false q_3 | have r_ := of_decide_eq_false q_4 | have r_ := of_decide_eq_false q_5 | have r_ := of_decide_eq_false q_6 | skip
  try have s0_ := of_decide_eq_true q_0
  try have s1_ := of_decide_eq_true q_1
  try have s2_ := of_decide_eq_true q_2
  try have s3_ := of_decide_eq_true q_3
  try have s4_ := of_decide_eq_true q_4
  try have s5_ := of_decide_eq_true q_5
  try have s6_ := of_decide_eq_true q_6
  have t0 := HT1.out.c 0 (.int .i64 t.rad) rfl
  have u0 := HU1.out.c 0 (.int .i64 u.rad) rfl
  have t1 := HT1.out.c 1 (.int .i64 t.bal) rfl
  have u1 := HU1.out.c 1 (.int .i64 u.bal) rfl
  have t2 := HT1.out.c 2 (.int .i64 t.rst) rfl
  have u2 := HU1.out.c 2 (.int .i64 u.rst) rfl
  have t3 := HT1.out.c 3 (.int .i64 t.gx) rfl
  have u3 := HU1.out.c 3 (.int .i64 u.gx) rfl
  have t4 := HT1.out.c 4 (.int .i64 t.gy) rfl
  have u4 := HU1.out.c 4 (.int .i64 u.gy) rfl
  have t5 := HT1.out.c 5 (.int .i64 t.drg) rfl
  have u5 := HU1.out.c 5 (.int .i64 u.drg) rfl
  have t6 := HT1.out.c 6 (.int .i64 t.shf) rfl
  have u6 := HU1.out.c 6 (.int .i64 u.shf) rfl
  have t7 := HT1.out.c 7 (.slice a.tr t.tr.length a.trc) rfl
  have u7 := HU1.out.c 7 (.slice b.tr u.tr.length b.trc) rfl
  have t8 := HT1.out.c 8 (.slice a.ws t.ws.length a.wsc) rfl
  have u8 := HU1.out.c 8 (.slice b.ws u.ws.length b.wsc) rfl
  have t9 := HT1.out.c 9 (.slice a.ars t.ars.length a.arsc) rfl
  have u9 := HU1.out.c 9 (.slice b.ars u.ars.length b.arsc) rfl
  have t10 := HT1.out.c 10 (.slice a.ps t.ps.length a.psc) rfl
  have u10 := HU1.out.c 10 (.slice b.ps u.ps.length b.psc) rfl
  have t11 := HT1.out.c 11 (.slice a.fs t.fs.length a.fsc) rfl
  have u11 := HU1.out.c 11 (.slice b.fs u.fs.length b.fsc) rfl
  have t12 := HT1.out.c 12 (.slice a.zs t.zs.length a.zsc) rfl
  have u12 := HU1.out.c 12 (.slice b.zs u.zs.length b.zsc) rfl
  have t13 := HT1.out.c 13 (.slice a.ss t.ss.length a.ssc) rfl
  have u13 := HU1.out.c 13 (.slice b.ss u.ss.length b.ssc) rfl
  have t14 := HT1.out.c 14 (.slice a.las t.las.length a.lasc) rfl
  have u14 := HU1.out.c 14 (.slice b.las u.las.length b.lasc) rfl
  have t15 := HT1.out.c 15 (.slice a.rs t.rs.length a.rsc) rfl
  have u15 := HU1.out.c 15 (.slice b.rs u.rs.length b.rsc) rfl
  have t16 := HT1.out.c 16 (.slice a.ds t.ds.length a.dsc) rfl
  have u16 := HU1.out.c 16 (.slice b.ds u.ds.length b.dsc) rfl
  have t17 := HT1.out.c 17 (.slice a.lns t.lns.length a.lnsc) rfl
  have u17 := HU1.out.c 17 (.slice b.lns u.lns.length b.lnsc) rfl
  go_wp2_with ((first
   | (go_at_call 45; refine (K0.out _ hbb).mono ?_; rintro e w9 ⟨rfl, hb9⟩)
   | (go_at_call 46; refine (K1.out _ hbb).mono ?_; rintro e w9 ⟨rfl, hb9⟩)
   | (go_at_call 47; refine (K2.out _ hbb).mono ?_; rintro e w9 ⟨rfl, hb9⟩)
   | (go_at_call 48; refine (K3.out _ hbb).mono ?_; rintro e w9 ⟨rfl, hb9⟩)
   | (go_at_call 49; refine (K4.out _ hbb).mono ?_; rintro e w9 ⟨rfl, hb9⟩)
   | (go_at_call 50; refine (K5.out _ hbb).mono ?_; rintro e w9 ⟨rfl, hb9⟩)
   | (go_at_call 51; refine (K6.out _ hbb).mono ?_; rintro e w9 ⟨rfl, hb9⟩)
   | (go_at_call 52; refine (K7.out _ hbb).mono ?_; rintro e w9 ⟨rfl, hb9⟩)
   | (go_at_call 53; refine (K8.out _ hbb).mono ?_; rintro e w9 ⟨rfl, hb9⟩)
   | (go_at_call 54; refine (K9.out _ hbb).mono ?_; rintro e w9 ⟨rfl, hb9⟩)
   | (go_at_call 55; refine (K10.out _ hbb).mono ?_; rintro e w9 ⟨rfl, hb9⟩)); replace hbb := hbb.trans (hb9.mono hbb.size); clear hb9; (try clear hcW); have hcW := (bcellW hbb).1)
  go_ret
  exact ⟨by rw [HR.out] <;> rfl, HB1.out.trans (hbb.mono hz1)⟩)
def valsB (l : List Int) : List UInt8 := l.flatMap fun n => 32 :: Lib.itoa n
def keyB (k : KV) : List UInt8 := 32 :: k.key.data.toList ++ valsB k.vals
def headB (x : IV) : List UInt8 := x.word.data.toList ++ (if x.name = ⟨#[]⟩ then [] else 32 :: x.name.data.toList)
def itemB (x : IV) : List UInt8 := headB x ++ x.keys.flatMap keyB ++ [59, 10]
def textB (l : List IV) : List UInt8 := l.flatMap itemB
def fmtR (l : List IV) : ByteArray × Bool := if (parseR ⟨(textB l).toArray⟩).2.1 ≠ 0 ∨ eqL eqX (parseR ⟨(textB l).toArray⟩).1 l = false then (⟨#[]⟩, false) else (⟨(textB l).toArray⟩, true)
theorem isb_below {T e : TypeId} {B b N : Nat} {bs : List Value} {w w' : World} (h : Lib.IsBuilder T e B b bs w) (hb : Below N w w') (hN : w.heap.size ≤ N) : Lib.IsBuilder T e B b bs w' := by
 have go : ∀ p, Lib.BuilderAt T e B b p bs w → Lib.BuilderAt T e B b p bs w' := fun p h => by
  obtain ⟨hB, v, hbk, hown, hne⟩ := h
  have hlt := (Array.getElem?_eq_some_iff.1 hbk).1
  exact ⟨hB, v, (hb.block b (Nat.lt_of_lt_of_le hlt hN)).trans hbk, own_below hown hb hN, hne⟩
 exact h.elim (fun h => .inl (go _ h)) (fun h => .inr (go _ h))
theorem below_grow {w : World} (k : Nat) (os : Array Obj) : Below w.heap.size w (Sort.grow (w.drewN k) os) := by
 refine ⟨rfl, rfl, rfl, ?_, fun j hj => ?_⟩
 · rw [Sort.size_grow]
   show w.heap.size ≤ w.heap.size + _
   omega
 · rw [Sort.heap_grow_old _ _ (by show j < w.heap.size; exact hj)]
   rfl
theorem itoa_any (n : Int) (h0 : -9223372036854775808 ≤ n) (h1 : n ≤ 9223372036854775807) (w : World) (ht : Tabs w) :
  Calls Tryz.prog 115 #[.int .i64 n] w fun e w' => e = .returned (.string ⟨(Lib.itoa n).toArray⟩) ∧ Below w.heap.size w w' :=
 (Tryz.strconv_Itoa n h0 h1 w ht.pw).mono fun e w' ⟨he, k, os, hw⟩ => by subst hw; exact ⟨he, below_grow k os⟩
def CX (w : World) (b : Nat) (cs : Array Value) (t : TypeId) : Prop := w.heap[b]? = some (.cells cs t (0, 0))
theorem CX.kept {w w' : World} {a b : Nat} {cs : Array Value} {t : TypeId} (h : CX w b cs t) (hk : Kept a w w') (hn : b ≠ a) (ht : t ≠ 5) : CX w' b cs t := hk b cs t (0, 0) hn ht h
theorem CX.new (w : World) (cs : Array Value) (t : TypeId) : CX (w.alloc (.cells cs t)) w.heap.size cs t := heap_alloc_new w _
theorem CX.c3 {w : World} {b : Nat} {v0 v1 v2 : Value} {t : TypeId} (h : CX w b #[v0, v1, v2] t) : C3 w b v0 v1 v2 := by
 unfold CX at h
 refine ⟨?_, ?_, ?_, fun o => ?_, (Array.getElem?_eq_some_iff.1 h).1⟩
 · simp [World.cell?, h]
 · simp [World.cell?, h]
 · simp [World.cell?, h]
 · exact Lib.frozen_of_heap h o
theorem CX.c4 {w : World} {b : Nat} {v0 v1 v2 v3 : Value} {t : TypeId} (h : CX w b #[v0, v1, v2, v3] t) : C4 w b v0 v1 v2 v3 := by
 unfold CX at h
 refine ⟨?_, ?_, ?_, ?_, fun o => ?_, (Array.getElem?_eq_some_iff.1 h).1⟩
 · simp [World.cell?, h]
 · simp [World.cell?, h]
 · simp [World.cell?, h]
 · simp [World.cell?, h]
 · exact Lib.frozen_of_heap h o
theorem pin_cw {P : Program} {f : FuncId} {args : Array Value} {w : World} {Q : Ending → World → Prop} (h : ∀ w', w' = w → Calls P f args w' Q) : Calls P f args w Q := h w rfl
def vKey (key : ByteArray) (A : Option Addr) (n c : Nat) : Value := .agg #[.string key, .slice A n c, .int .i64 0]
set_option maxHeartbeats 1000000 in
theorem num_any (key : ByteArray) (A : Option Addr) (n c : Nat) (w : World) :
  Calls Tryz.prog 56 #[.string key, .slice A n c] w fun e w' => e = .returned (vKey key A n c) ∧ Below w.heap.size w w' := by
 unfold vKey
 go_enter Tryz.func56, Tryz.ntmps56; (try simp only [List.append_eq, List.cons_append, List.nil_append])
 go_wp2_with fail
 refine bodyPost_ret (v := .agg #[.string key, .slice A n c, .int .i64 0]) (by simp only [results, Tryz.results56]; go_simp) rfl ⟨?_, ?_⟩
 · rfl
 · ((with_reducible (repeat (first | exact bR _ _ | apply bS | apply bA | apply bD | refine bT ?_ (by assumption) ?_ | refine bO (by assumption) ?_ ?_))) <;> (first | omega | (simp <;> omega)))
def VecOut (key : ByteArray) (x y : Int) (w : World) (e : Ending) (w' : World) : Prop := ∃ A c, e = .returned (vKey key A 2 c) ∧ Below w.heap.size w w' ∧ OwnI w' w.heap.size A c [x, y]
set_option maxRecDepth 100000 in
set_option maxHeartbeats 2000000 in
theorem kvec_any (key : ByteArray) (x y : Int) (w : World) :
  Calls Tryz.prog 58 #[.string key, .agg #[.int .i64 x, .int .i64 y]] w (VecOut key x y w) := by
 go_enter Tryz.func58, Tryz.ntmps58; (try simp only [List.append_eq, List.cons_append, List.nil_append])
 go_wp2_with fail
 (refine pin_cw (fun w1 hE_w1 => ?_))
 have HO1 : Hid (OwnI w1 w.heap.size (some ⟨w.heap.size + 1 + 1, 0, none⟩) 2 [x, y]) := hQ0 (by
  rw [hE_w1]
  have h := World.ownsRow_lit (base := w.heap.size) (e := 3) (size := 1) ((w.alloc (.cells #[.int .i64 x, .int .i64 y] 23)).alloc (.cells #[.string ⟨#[]⟩, .slice none 0 0, .int .i64 0] 120)) #[.int .i64 x, .int .i64 y] 2 (by simp; omega) (by unfold maxLen; omega) rfl
  simp only [World.size_alloc] at h
  exact h)
 have hb1 : Below w.heap.size w w1 := by rw [hE_w1]; ((with_reducible (repeat (first | exact bR _ _ | apply bS | apply bA | apply bD | refine bT ?_ (by assumption) ?_ | refine bO (by assumption) ?_ ?_))) <;> (first | omega | (simp <;> omega)))
 have hz1 : w.heap.size + 1 + 1 + 1 ≤ w1.heap.size := by rw [hE_w1]; simp
 have k0 : w1.cell? ⟨w.heap.size + 1, 0, none⟩ = some (.string ⟨#[]⟩) := by rw [hE_w1]; go_simp
 have k1 : w1.cell? ⟨w.heap.size + 1, 1, none⟩ = some (.slice none 0 0) := by rw [hE_w1]; go_simp
 have k2 : w1.cell? ⟨w.heap.size + 1, 2, none⟩ = some (.int .i64 0) := by rw [hE_w1]; go_simp
 have kz : ∀ o, w1.frozen? ⟨w.heap.size + 1, o, none⟩ = false := by intro o; rw [hE_w1]; go_simp
 clear hE_w1
 (refine (num_any _ _ _ _ _).mono ?_; rintro e w2 ⟨rfl, hb2⟩)
 have hO2 : Hid (OwnI w2 w.heap.size (some ⟨w.heap.size + 1 + 1, 0, none⟩) 2 [x, y]) := hQ0 (own_below HO1.out hb2 (Nat.le_refl _))
 have hB2 := hb1.trans (hb2.mono (by omega))
 have hz2 := hb2.size
 have c0 := (hb2.cell (p := ⟨w.heap.size + 1, 0, none⟩) (by show w.heap.size + 1 < _; omega)).trans k0
 have c1 := (hb2.cell (p := ⟨w.heap.size + 1, 1, none⟩) (by show w.heap.size + 1 < _; omega)).trans k1
 have c2 := (hb2.cell (p := ⟨w.heap.size + 1, 2, none⟩) (by show w.heap.size + 1 < _; omega)).trans k2
 have cz : ∀ o, w2.frozen? ⟨w.heap.size + 1, o, none⟩ = false := fun o => (hb2.frozen (p := ⟨w.heap.size + 1, o, none⟩) (by show w.heap.size + 1 < _; omega)).trans (kz o)
 have cl : w.heap.size + 1 < w2.heap.size := by omega
 clear hb1 hb2 k0 k1 k2 kz HO1
 unfold vKey
 go_wp2_with fail
 refine bodyPost_ret (v := .agg #[.string key, .slice (some ⟨w.heap.size + 1 + 1, 0, none⟩) 2 2, .int .i64 0]) (by simp only [results, Tryz.results58]; go_simp) rfl ⟨some ⟨w.heap.size + 1 + 1, 0, none⟩, 2, rfl, by ((with_reducible (repeat (first | exact bR _ _ | apply bS | apply bA | apply bD | refine bT ?_ (by assumption) ?_ | refine bO (by assumption) ?_ ?_))) <;> (first | omega | (simp <;> omega))), ?_⟩
 refine ownsRow_block hO2.out (fun b hb => ?_)
 simp only [Value.ownBlock, Option.some.injEq] at hb
 subst hb
 rw [Below.heap_setCell _ _ _ _ (by simp only; omega), Below.heap_setCell _ _ _ _ (by simp only; omega), Below.heap_setCell _ _ _ _ (by simp only; omega)]
set_option maxRecDepth 100000 in
set_option maxHeartbeats 1000000 in
theorem stp_any (key : ByteArray) (A : Option Addr) (n c : Nat) (at_ : Int) (w : World) :
  Calls Tryz.prog 113 #[.agg #[.string key, .slice A n c, .int .i64 at_]] w fun e w' => e = .returned (.bool (decide (key = ⟨#[]⟩))) ∧ Below w.heap.size w w' := by
 obtain ⟨b, hb⟩ : ∃ b, b = decide (key = ⟨#[]⟩) := ⟨_, rfl⟩
 have h1 : (key.toList == ([] : List UInt8)) = b := by
  rw [hb]
  by_cases h : key = ⟨#[]⟩
  · rw [decide_eq_true h, h]; kernel_rfl
  · rw [decide_eq_false h, show ([] : List UInt8) = (⟨#[]⟩ : ByteArray).toList from by kernel_rfl]
    exact txt_neT h
 rw [← hb]
 clear hb
 go_enter Tryz.func113, Tryz.ntmps113; (try simp only [List.append_eq, List.cons_append, List.nil_append])
 go_wp2_with fail
 go_ret
 exact ⟨rfl, by ((with_reducible (repeat (first | exact bR _ _ | apply bS | apply bA | apply bD | refine bT ?_ (by assumption) ?_ | refine bO (by assumption) ?_ ?_))) <;> (first | omega | (simp <;> omega)))⟩
abbrev KP := KV × Option Addr × Nat
def kpC (p : KP) : List Value := cellsOfK p.1 p.2.1 p.2.2
def idxE : List KP → Nat → Int
  | [], _ => -1
  | p :: l, i => if p.1.key = ⟨#[]⟩ then (i : Int) else idxE l (i + 1)
theorem kp_get {w : World} {A : Option Addr} {l : List KP} (h : RowsAt 3 kpC w A l) {k : Nat} {p : KP} (hp : l[k]? = some p) : ∃ g o, A = some ⟨g, o, none⟩ ∧ g < w.heap.size ∧ w.cell? ⟨g, o + k * 3, none⟩ = some (.string p.1.key) ∧ w.cell? ⟨g, o + k * 3 + 1, none⟩ = some (.slice p.2.1 p.1.vals.length p.2.2) ∧ w.cell? ⟨g, o + k * 3 + 2, none⟩ = some (.int .i64 p.1.at_) := by
 obtain ⟨g, o, hA, hg, hc⟩ := h k p hp
 simp only [← Nat.add_assoc] at hc
 exact ⟨g, o, hA, hg, hc 0 _ rfl, hc 1 _ rfl, hc 2 _ rfl⟩
set_option maxRecDepth 100000 in
set_option maxHeartbeats 1000000 in
theorem idxf_any (l : List KP) (A : Option Addr) (c : Nat) (w : World) (hA : RowsAt 3 kpC w A l) (hl : l.length ≤ 1000) :
  Calls Tryz.prog 164 #[.slice A l.length c, .func (.func 113) #[] #[]] w fun e w' => e = .returned (.int .i64 (idxE l 0)) ∧ Below w.heap.size w w' := by
 have HA := hQ0 hA
 obtain ⟨R, hR⟩ : ∃ R, R = idxE l 0 := ⟨_, rfl⟩
 have HR : Hid (idxE (l.drop 0) 0 = R) := hQ0 (by rw [hR]; rfl)
 rw [← hR]
 clear hA hR
 go_enter Tryz.func164, Tryz.ntmps164; (try simp only [List.append_eq, List.cons_append, List.nil_append])
 go_wp2_with fail
 go_loopg [8] (l.length + 1) (fun gk t wr => ∃ k : Nat, k ≤ l.length ∧ l.length - k < gk ∧ t = .int .i64 k ∧ Below w.heap.size w wr ∧ Hid (idxE (l.drop k) k = R))
 case atStart => exact ⟨0, by omega, by omega, rfl, Below.refl _ _, HR⟩
 case round =>
  obtain ⟨wq, rfl⟩ : ∃ z, z = wr := ⟨_, rfl⟩
  obtain ⟨k, hk, hkk, rfl, hb, HJ⟩ := hrel
  have hz := hb.size
  by_cases hlt : k < l.length
  · obtain ⟨p, hx⟩ : ∃ p, l[k]? = some p := ⟨l[k], by simp⟩
    obtain ⟨g, o, rfl, hg, c0, c1, c2⟩ := kp_get (HA.out.below hb (Nat.le_refl _)) hx
    have HS : Hid (idxE (l.drop k) k = if p.1.key = ⟨#[]⟩ then (k : Int) else idxE (l.drop (k + 1)) (k + 1)) := hQ0 (by
     obtain ⟨h1, rfl⟩ := List.getElem?_eq_some_iff.1 hx
     rw [List.drop_eq_getElem_cons h1]
     rfl)
    have i1 : (k : Int) < (l.length : Int) := by omega
    have HB := hQ0 hb
    clear hx hb
    obtain ⟨b, hbb⟩ : ∃ b, b = decide (p.1.key = ⟨#[]⟩) := ⟨_, rfl⟩
    have KC := fun W => stp_any p.1.key p.2.1 p.1.vals.length p.2.2 p.1.at_ W
    rw [← hbb] at KC
    have HBB := hQ0 hbb
    clear hbb
    cases b
    · have hne : ¬ p.1.key = ⟨#[]⟩ := of_decide_eq_false HBB.out.symm
      have HN : Hid (idxE (l.drop (k + 1)) (k + 1) = R) := hQ0 (by rw [← HJ.out, HS.out, if_neg hne])
      clear hne
      go_wp2_with (go_at_call 113; refine (KC _).mono ?_; rintro e w1 ⟨rfl, hb1⟩)
      go_roundg (l.length - (k + 1) + 1)
      case measure => omega
      case rel => exact ⟨k + 1, by omega, by omega, by go_num, HB.out.trans (hb1.mono hz), HN⟩
    · have he : p.1.key = ⟨#[]⟩ := of_decide_eq_true HBB.out.symm
      obtain rfl : R = (k : Int) := by rw [← HJ.out, HS.out, if_pos he]
      clear he
      go_wp2_with (go_at_call 113; refine (KC _).mono ?_; rintro e w1 ⟨rfl, hb1⟩)
      go_ret
      exact ⟨rfl, HB.out.trans (hb1.mono hz)⟩
  · obtain rfl : k = l.length := by omega
    obtain rfl : R = -1 := by rw [← HJ.out, List.drop_length]; rfl
    go_wp2_with fail
    go_ret
    exact ⟨rfl, hb⟩
theorem set_mid {α : Type} (A B C : List α) (n j : Nat) (u : α) (hA : A.length = n) (hj : j < B.length) : (A ++ (B ++ C)).set (n + j) u = A ++ (B.set j u ++ C) := by
 rw [List.set_append_right _ _ (by omega), hA, Nat.add_sub_cancel_left, List.set_append_left _ _ hj]
theorem zero_key (w : World) : (zeroValue 120).run Tryz.prog w = .ok (.agg #[.string ⟨#[]⟩, .slice none 0 0, .int .i64 0]) w := by
 have hI : (Tryz.prog.info? 120).map (fun i => i.zero) = some (some (.agg #[.string ⟨#[]⟩, .slice none 0 0, .int .i64 0])) := by kernel_rfl
 cases hi : Tryz.prog.info? 120 with
 | none => rw [hi] at hI; cases hI
 | some i =>
  rw [hi] at hI
  simp only [Option.map_some, Option.some.injEq] at hI
  simp [zeroValue, typeInfo, hi, hI]
theorem clear_one (w : World) (ty : TypeId) (b o c : Nat) (u0 u1 u2 : Value) (h0 : w.cell? ⟨b, o, none⟩ = some u0) (h1 : w.cell? ⟨b, o + 1, none⟩ = some u1) (h2 : w.cell? ⟨b, o + 2, none⟩ = some u2) (hf : ∀ j, w.frozen? ⟨b, j, none⟩ = false) :
  (Builtin.clear_ #[95] ty #[.slice (some ⟨b, o, none⟩) 1 c]).run Tryz.prog w = .ok (.tuple #[]) (((w.setCell ⟨b, o, none⟩ (.string ⟨#[]⟩)).setCell ⟨b, o + 1, none⟩ (.slice none 0 0)).setCell ⟨b, o + 2, none⟩ (.int .i64 0)) := by
 have hzc : (Builtin.zeroCells (Value.agg #[.string ⟨#[]⟩, .slice none 0 0, .int .i64 0]).cells 1).toList = [.string ⟨#[]⟩, .slice none 0 0, .int .i64 0] := by kernel_rfl
 have hst := run_storeCells_cells (P := Tryz.prog) b o [.string ⟨#[]⟩, .slice none 0 0, .int .i64 0] 0 w (by
  intro j hj
  match j, hj with
  | 0, _ => simp [h0]
  | 1, _ => simp [h1]
  | 2, _ => simp [h2]) (fun j _ => hf _) (by
  intro v hv
  simp only [List.mem_cons, List.not_mem_nil, or_false] at hv
  rcases hv with rfl | rfl | rfl <;> rfl)
 simp only [Nat.add_zero] at hst
 simp [Builtin.clear_, run_underlying (show Tryz.prog.underlying 95 = some (.slice 120) from Tryz.underlying95), zero_key, hzc, hst, World.setCells]
theorem idxE_none : ∀ (l : List KP) (i : Nat), (∀ p ∈ l, ¬ p.1.key = ⟨#[]⟩) → idxE l i = -1
 | [], i, h => rfl
 | p :: l, i, h => by
  unfold idxE
  rw [if_neg (h p (List.mem_cons_self ..))]
  exact idxE_none l _ fun x hx => h x (List.mem_cons_of_mem _ hx)
theorem idxE_one : ∀ (l : List KP) (p : KP) (r : List KP) (i : Nat), (∀ p ∈ l, ¬ p.1.key = ⟨#[]⟩) → p.1.key = ⟨#[]⟩ → idxE (l ++ p :: r) i = ((i + l.length : Nat) : Int)
 | [], p, r, i, h, hp => by
  show idxE (p :: r) i = _
  unfold idxE
  rw [if_pos hp]
  simp
 | q :: l, p, r, i, h, hp => by
  rw [List.cons_append]
  unfold idxE
  rw [if_neg (h q (List.mem_cons_self ..)), idxE_one l p r (i + 1) (fun x hx => h x (List.mem_cons_of_mem _ hx)) hp, List.length_cons]
  congr 1
  omega
set_option maxRecDepth 100000 in
set_option maxHeartbeats 1000000 in
theorem del_none (l : List KP) (g cap : Nat) (w : World) (hA : RowsAt 3 kpC w (some ⟨g, 0, none⟩) l) (hl : l.length ≤ 1000) (hne : ∀ p ∈ l, ¬ p.1.key = ⟨#[]⟩) :
  Calls Tryz.prog 112 #[.slice (some ⟨g, 0, none⟩) l.length cap, .func (.func 113) #[] #[]] w fun e w' => e = .returned (.slice (some ⟨g, 0, none⟩) l.length cap) ∧ Below w.heap.size w w' := by
 have K := idxf_any l (some ⟨g, 0, none⟩) cap w hA hl
 rw [idxE_none l 0 hne] at K
 have HK := hQ0 K
 clear K hne hA
 go_enter Tryz.func112, Tryz.ntmps112; (try simp only [List.append_eq, List.cons_append, List.nil_append])
 go_wp2_with (go_at_call 164; refine HK.out.mono ?_; rintro e w1 ⟨rfl, hb1⟩)
 go_ret
 exact ⟨rfl, hb1⟩
theorem flatK (l : List KP) : (l.flatMap kpC).length = l.length * 3 := flat_len kpC 3 (fun _ => rfl) l
theorem row_set {w : World} {base g cap N : Nat} {A : List KP} {q p : KP} {C : List KP} (h : w.ownsRow base 120 3 (.slice (some ⟨g, 0, none⟩) N cap) N ((A ++ q :: C).flatMap kpC)) {n : Nat} (hn : A.length = n) :
  (((w.setCell ⟨g, n * 3, none⟩ (.string p.1.key)).setCell ⟨g, n * 3 + 1, none⟩ (.slice p.2.1 p.1.vals.length p.2.2)).setCell ⟨g, n * 3 + 2, none⟩ (.int .i64 p.1.at_)).ownsRow base 120 3 (.slice (some ⟨g, 0, none⟩) N cap) N ((A ++ p :: C).flatMap kpC) := by
 subst hn
 have h1 := (((h.stored (A.length * 3) (.string p.1.key)).1.stored (A.length * 3 + 1) (.slice p.2.1 p.1.vals.length p.2.2)).1.stored (A.length * 3 + 2) (.int .i64 p.1.at_)).1
 have e : ((((A ++ q :: C).flatMap kpC).set (A.length * 3) (.string p.1.key)).set (A.length * 3 + 1) (.slice p.2.1 p.1.vals.length p.2.2)).set (A.length * 3 + 2) (.int .i64 p.1.at_) = (A ++ p :: C).flatMap kpC := by
  have hA := flatK A
  rw [List.flatMap_append, List.flatMap_append, List.flatMap_cons, List.flatMap_cons]
  have s0 := set_mid (A.flatMap kpC) (kpC q) (C.flatMap kpC) (A.length * 3) 0 (.string p.1.key) hA (by show 0 < 3; decide)
  rw [Nat.add_zero] at s0
  rw [s0, set_mid _ _ _ _ _ _ hA (by show 1 < 3; decide), set_mid _ _ _ _ _ _ hA (by show 2 < 3; decide)]
  rfl
 rw [e] at h1
 exact h1
theorem own_capK {w : World} {base size n : Nat} {e : TypeId} {A : Option Addr} {c : Nat} {xs : List Value} (h : w.ownsRow base e size (.slice A n c) n xs) : n ≤ c := by
 rcases Nat.eq_zero_or_pos n with h0 | h0
 · omega
 · obtain ⟨g, _, _, _, hc, _⟩ := own_cells h h0
   exact hc
def zKP : KP := (⟨⟨#[]⟩, [], 0⟩, none, 0)
set_option maxRecDepth 100000 in
set_option maxHeartbeats 4000000 in
theorem del_one (pre post : List KP) (p0 : KP) (g cap base N : Nat) (w : World) (hN : N = pre.length + (post.length + 1)) (hR : w.ownsRow base 120 3 (.slice (some ⟨g, 0, none⟩) N cap) N ((pre ++ p0 :: post).flatMap kpC)) (hl : N ≤ 1000) (hne : ∀ p ∈ pre, ¬ p.1.key = ⟨#[]⟩) (hne2 : ∀ p ∈ post, ¬ p.1.key = ⟨#[]⟩) (h0 : p0.1.key = ⟨#[]⟩) :
  Calls Tryz.prog 112 #[.slice (some ⟨g, 0, none⟩) N cap, .func (.func 113) #[] #[]] w fun e w' => e = .returned (.slice (some ⟨g, 0, none⟩) (pre.length + post.length) cap) ∧ But g w w' ∧ w'.ownsRow base 120 3 (.slice (some ⟨g, 0, none⟩) N cap) N ((pre ++ (post ++ [zKP])).flatMap kpC) := by
 have hlen : (pre ++ p0 :: post).length = N := by rw [hN]; simp
 have hg : g < w.heap.size := (World.ownsRow.lt hR g rfl).2
 have hA : RowsAt 3 kpC w (some ⟨g, 0, none⟩) (pre ++ p0 :: post) := rows_own (n := 3) (f := kpC) (by decide) (fun _ => rfl) (by rw [hlen]; exact hR)
 have K := idxf_any (pre ++ p0 :: post) (some ⟨g, 0, none⟩) cap w hA (by omega)
 rw [idxE_one pre p0 post 0 hne h0, hlen, Nat.zero_add] at K
 have HK := hQ0 K
 have HR := hQ0 hR
 have HN := hQ0 hN
 have HNE := hQ0 hne2
 have hpl : pre.length ≤ 1000 := by omega
 have hne1 : ((pre.length : Int) == -1) = false := beq_eq_false_iff_ne.2 (by omega)
 clear K hne hA hR hne2 h0 hlen hN
 go_enter Tryz.func112, Tryz.ntmps112; (try simp only [List.append_eq, List.cons_append, List.nil_append])
 go_wp2_with (go_at_call 164; refine HK.out.mono ?_; rintro e w1 ⟨rfl, hb1⟩)
 have HB1 : Hid (But g w w1) := hQ0 (But.of_below hb1 (Nat.le_refl _))
 have HR1 := hQ0 (own_below HR.out hb1 (Nat.le_refl _))
 clear hb1 HK HR
 clear hne1
 go_loopg [5, 6] (post.length + 1) (fun gk t5 t6 wr => ∃ (m : Nat) (q : KP), m ≤ post.length ∧ post.length - m < gk ∧ t5 = .int .i64 ((pre.length + m : Nat) : Int) ∧ t6 = .int .i64 ((pre.length + m + 1 : Nat) : Int) ∧ Hid (But g w wr) ∧ Hid (wr.ownsRow base 120 3 (.slice (some ⟨g, 0, none⟩) N cap) N (((pre ++ post.take m) ++ q :: post.drop m).flatMap kpC)))
 case atStart => exact ⟨0, p0, by omega, by omega, by go_num, by go_num, HB1, hQ0 (by simpa using HR1.out)⟩
 case round =>
  obtain ⟨wq, rfl⟩ : ∃ z, z = wr := ⟨_, rfl⟩
  obtain ⟨m, q, hm, hmk, rfl, rfl, HBq, HRq⟩ := hrel
  clear HB1 HR1
  have hNn := HN.out
  have hzq := HBq.out.size
  have hlen : ((pre ++ post.take m) ++ q :: post.drop m).length = N := by simp; omega
  have hAq : RowsAt 3 kpC wq (some ⟨g, 0, none⟩) ((pre ++ post.take m) ++ q :: post.drop m) := rows_own (n := 3) (f := kpC) (by decide) (fun _ => rfl) (by rw [hlen]; exact HRq.out)
  have hpm : (pre ++ post.take m).length = pre.length + m := by rw [List.length_append, List.length_take, Nat.min_eq_left hm]
  have hiq : ((pre ++ post.take m) ++ q :: post.drop m)[pre.length + m]? = some q := by rw [List.getElem?_append_right (by omega), hpm, Nat.sub_self]; rfl
  obtain ⟨g', o', hAe, hg', q0, q1, q2⟩ := kp_get hAq hiq
  simp only [Option.some.injEq, Addr.mk.injEq, and_true] at hAe
  obtain ⟨rfl, rfl⟩ := hAe
  simp only [Nat.zero_add] at q0 q1 q2
  have fzq : ∀ o, wq.frozen? ⟨g, o, none⟩ = false := fun o => HRq.out.frozenAt o
  by_cases hlt : m < post.length
  · obtain ⟨p, hp⟩ : ∃ p, post[m]? = some p := ⟨post[m], by simp⟩
    have hip : ((pre ++ post.take m) ++ q :: post.drop m)[pre.length + m + 1]? = some p := by
     rw [List.getElem?_append_right (by omega), hpm, show pre.length + m + 1 - (pre.length + m) = 0 + 1 by omega, List.getElem?_cons_succ, List.getElem?_drop]
     exact hp
    obtain ⟨g', o', hAe, hg'', p1, p2, p3⟩ := kp_get hAq hip
    simp only [Option.some.injEq, Addr.mk.injEq, and_true] at hAe
    obtain ⟨rfl, rfl⟩ := hAe
    simp only [Nat.zero_add] at p1 p2 p3
    have hpne := HNE.out p (List.mem_of_getElem? hp)
    have KC := fun W => stp_any p.1.key p.2.1 p.1.vals.length p.2.2 p.1.at_ W
    rw [decide_eq_false hpne] at KC
    have HKC := hQ0 KC
    have HP := hQ0 hp
    have i1 : ((pre.length + m + 1 : Nat) : Int) < (N : Int) := by omega
    clear hNn
    clear KC hpne hip hiq hAq hlen hg'' hp
    go_upto_region 8 with (fail)
    (refine pin_eqT (fun w4 hE_w4 => ?_))
    have hX4 : BoxAt w4 wq.heap.size [.string p.1.key, .slice p.2.1 p.1.vals.length p.2.2, .int .i64 p.1.at_] := by rw [hE_w4]; exact BoxAt.new wq _ _
    have HB4 : Hid (But g w w4) := hQ0 (by rw [hE_w4]; exact HBq.out.alloc _)
    have HR4 : Hid (w4.ownsRow base 120 3 (.slice (some ⟨g, 0, none⟩) N cap) N (((pre ++ post.take m) ++ q :: post.drop m).flatMap kpC)) := hQ0 (by rw [hE_w4]; exact HRq.out.alloc _)
    have hB4 : Below wq.heap.size wq w4 := by rw [hE_w4]; exact (Below.refl _ _).alloc (Nat.le_refl _) _
    have hz4 : wq.heap.size < w4.heap.size := by rw [hE_w4]; simp
    have x0 := hX4.c 0 _ rfl
    have x1 := hX4.c 1 _ rfl
    have x2 := hX4.c 2 _ rfl
    have HX4 := hQ0 hX4
    obtain ⟨xb, hxb⟩ : ∃ z, z = wq.heap.size := ⟨_, rfl⟩
    rw [← hxb] at x0 x1 x2 HX4 ⊢
    have hgx : g < xb := by omega
    have HXB := hQ0 hxb
    clear hE_w4 p1 p2 p3 fzq hX4 hxb
    have hxl := HX4.out.lt
    go_wp2_with fail
    (go_at_call 113; refine (HKC.out _).mono ?_; rintro e w5 ⟨rfl, hb5⟩)
    have hX5 := HX4.out.below hb5 hxl
    have y0 := hX5.c 0 _ rfl
    have y1 := hX5.c 1 _ rfl
    have y2 := hX5.c 2 _ rfl
    have HB5 := hQ0 (HB4.out.below hb5 (by omega))
    have HR5 := hQ0 (own_below HR4.out hb5 (Nat.le_refl _))
    have z0 := (hb5.cell (p := ⟨g, (pre.length + m) * 3, none⟩) (by show g < _; omega)).trans ((hB4.cell (p := ⟨g, (pre.length + m) * 3, none⟩) hg').trans q0)
    have z1 := (hb5.cell (p := ⟨g, (pre.length + m) * 3 + 1, none⟩) (by show g < _; omega)).trans ((hB4.cell (p := ⟨g, (pre.length + m) * 3 + 1, none⟩) hg').trans q1)
    have z2 := (hb5.cell (p := ⟨g, (pre.length + m) * 3 + 2, none⟩) (by show g < _; omega)).trans ((hB4.cell (p := ⟨g, (pre.length + m) * 3 + 2, none⟩) hg').trans q2)
    have fz5 : ∀ o, w5.frozen? ⟨g, o, none⟩ = false := fun o => HR5.out.frozenAt o
    have hzz := hb5.size
    have hg5 : g < w5.heap.size := by omega
    clear x0 x1 x2 hX5 q0 q1 q2 hB4 hb5
    go_wp2_with fail
    go_roundg (post.length - m)
    case measure => omega
    case rel => exact ⟨m + 1, p, by omega, by omega, by go_num, by go_num, hQ0 (((HB5.out.set (p := ⟨g, (pre.length + m) * 3, none⟩) _ (.inl rfl)).set (p := ⟨g, (pre.length + m) * 3 + 1, none⟩) _ (.inl rfl)).set (p := ⟨g, (pre.length + m) * 3 + 2, none⟩) _ (.inl rfl)), hQ0 (by
      have h := row_set (p := p) HR5.out hpm
      have e : ((pre ++ post.take (m + 1)) ++ p :: post.drop (m + 1)) = ((pre ++ post.take m) ++ p :: post.drop m) := by
       obtain ⟨h1, rfl⟩ := List.getElem?_eq_some_iff.1 HP.out
       rw [List.take_succ_eq_append_getElem h1, List.append_assoc, List.append_assoc, List.append_assoc]
       congr 2
       exact (List.drop_eq_getElem_cons h1).symm ▸ rfl
      rw [e]
      exact h)⟩
  · obtain rfl : m = post.length := by omega
    have hnc : N ≤ cap := own_capK HRq.out
    have i1 : ¬ ((pre.length + post.length + 1 : Nat) : Int) < (N : Int) := by omega
    have i2 : (pre.length + post.length : Nat) ≤ N := by omega
    have hd : N - (pre.length + post.length) = 1 := by omega
    have hcl := fun ty => clear_one wq ty g ((pre.length + post.length) * 3) (cap - (pre.length + post.length)) _ _ _ q0 q1 q2 fzq
    clear hNn hAq hiq hlen
    go_wp2_with fail
    go_ret
    refine ⟨rfl, ((HBq.out.set (p := ⟨g, (pre.length + post.length) * 3, none⟩) _ (.inl rfl)).set (p := ⟨g, (pre.length + post.length) * 3 + 1, none⟩) _ (.inl rfl)).set (p := ⟨g, (pre.length + post.length) * 3 + 2, none⟩) _ (.inl rfl), ?_⟩
    have h := row_set (p := zKP) HRq.out hpm
    have e : ((pre ++ post.take post.length) ++ zKP :: post.drop post.length).flatMap kpC = pre.flatMap kpC ++ (post.flatMap kpC ++ kpC zKP) := by rw [List.take_length, List.drop_length]; simp
    rw [e] at h
    exact h
def a0 : TbA := ⟨none, 0, none, 0, none, 0, none, 0, none, 0, none, 0, none, 0, none, 0, none, 0, none, 0, none, 0⟩
structure Tb.nms (t : Tb) : Prop where
  ws : ∀ x ∈ t.ws, x.nm.size ≤ 20000
  ars : ∀ x ∈ t.ars, x.nm.size ≤ 20000
  ps : ∀ x ∈ t.ps, x.nm.size ≤ 20000
  fs : ∀ x ∈ t.fs, x.nm.size ≤ 20000
  zs : ∀ x ∈ t.zs, x.nm.size ≤ 20000
  ss : ∀ x ∈ t.ss, x.nm.size ≤ 20000
  las : ∀ x ∈ t.las, x.nm.size ≤ 20000
  rs : ∀ x ∈ t.rs, x.nm.size ≤ 20000
  ds : ∀ x ∈ t.ds, x.nm.size ≤ 20000
  lns : ∀ x ∈ t.lns, x.nm.size ≤ 20000
theorem mem_snoc {α : Type} {P : α → Prop} {l : List α} {y : α} (h : ∀ x ∈ l, P x) (hy : P y) : ∀ x ∈ l ++ [y], P x := fun x hx => by
 rcases List.mem_append.1 hx with h1 | h1
 · exact h x h1
 · simp only [List.mem_singleton] at h1
   subst h1
   exact hy
theorem putR_ind {P : Tb → Prop} (t : Tb) (x : IV) (h0 : P (headR t x)) (h1 : P { t with ws := t.ws ++ [mkWl x] }) (h2 : P { t with ars := t.ars ++ [mkAc x] }) (h3 : P { t with ps := t.ps ++ [mkPs x] }) (h4 : P { t with fs := t.fs ++ [mkFl x] }) (h5 : P { t with zs := t.zs ++ [mkZn x] }) (h6 : P { t with ss := t.ss ++ [mkSc x] }) (h7 : P { t with las := t.las ++ [mkLa x] }) (h8 : P { t with rs := t.rs ++ [mkRa x] }) (h9 : P { t with ds := t.ds ++ [mkDr x] }) (h10 : P { t with lns := t.lns ++ [mkLn x] }) (hn : P t) : P (putR t x) := by
 unfold putR
 by_cases c0 : x.word = t_table
 · rw [if_pos c0]; exact h0
 rw [if_neg c0]
 by_cases c1 : x.word = t_wall ∨ x.word = t_gate ∨ x.word = t_target ∨ x.word = t_sling
 · rw [if_pos c1]; exact h1
 rw [if_neg c1]
 by_cases c2 : x.word = t_arc
 · rw [if_pos c2]; exact h2
 rw [if_neg c2]
 by_cases c3 : x.word = t_post
 · rw [if_pos c3]; exact h3
 rw [if_neg c3]
 by_cases c4 : x.word = t_flipper
 · rw [if_pos c4]; exact h4
 rw [if_neg c4]
 by_cases c5 : x.word = t_zone
 · rw [if_pos c5]; exact h5
 rw [if_neg c5]
 by_cases c6 : x.word = t_saucer
 · rw [if_pos c6]; exact h6
 rw [if_neg c6]
 by_cases c7 : x.word = t_lane
 · rw [if_pos c7]; exact h7
 rw [if_neg c7]
 by_cases c8 : x.word = t_ramp
 · rw [if_pos c8]; exact h8
 rw [if_neg c8]
 by_cases c9 : x.word = t_drain
 · rw [if_pos c9]; exact h9
 rw [if_neg c9]
 by_cases c10 : x.word = t_launcher
 · rw [if_pos c10]; exact h10
 rw [if_neg c10]
 exact hn
theorem put_nms {t : Tb} {x : IV} (h : t.nms) (hx : x.name.size ≤ 20000) : (putR t x).nms := putR_ind (P := Tb.nms) t x ⟨h.1, h.2, h.3, h.4, h.5, h.6, h.7, h.8, h.9, h.10⟩
 ⟨mem_snoc (P := fun z : Wl => z.nm.size ≤ 20000) h.1 hx, h.2, h.3, h.4, h.5, h.6, h.7, h.8, h.9, h.10⟩
 ⟨h.1, mem_snoc (P := fun z : Ac => z.nm.size ≤ 20000) h.2 hx, h.3, h.4, h.5, h.6, h.7, h.8, h.9, h.10⟩
 ⟨h.1, h.2, mem_snoc (P := fun z : Ps => z.nm.size ≤ 20000) h.3 hx, h.4, h.5, h.6, h.7, h.8, h.9, h.10⟩
 ⟨h.1, h.2, h.3, mem_snoc (P := fun z : Fl => z.nm.size ≤ 20000) h.4 hx, h.5, h.6, h.7, h.8, h.9, h.10⟩
 ⟨h.1, h.2, h.3, h.4, mem_snoc (P := fun z : Zn => z.nm.size ≤ 20000) h.5 hx, h.6, h.7, h.8, h.9, h.10⟩
 ⟨h.1, h.2, h.3, h.4, h.5, mem_snoc (P := fun z : Sc => z.nm.size ≤ 20000) h.6 hx, h.7, h.8, h.9, h.10⟩
 ⟨h.1, h.2, h.3, h.4, h.5, h.6, mem_snoc (P := fun z : La => z.nm.size ≤ 20000) h.7 hx, h.8, h.9, h.10⟩
 ⟨h.1, h.2, h.3, h.4, h.5, h.6, h.7, mem_snoc (P := fun z : Ra => z.nm.size ≤ 20000) h.8 hx, h.9, h.10⟩
 ⟨h.1, h.2, h.3, h.4, h.5, h.6, h.7, h.8, mem_snoc (P := fun z : Dr => z.nm.size ≤ 20000) h.9 hx, h.10⟩
 ⟨h.1, h.2, h.3, h.4, h.5, h.6, h.7, h.8, h.9, mem_snoc (P := fun z : Ln => z.nm.size ≤ 20000) h.10 hx⟩
 h
theorem troughR_len (x : IV) (b : Int) : (troughR x b).length ≤ 7 := by
 unfold troughR
 split
 · rw [troughF_len]; omega
 · simp
theorem put_le {t : Tb} {x : IV} {n : Nat} (h : t.le n) : (putR t x).le (n + 1) := by
 obtain ⟨h0, h1, h2, h3, h4, h5, h6, h7, h8, h9, h10⟩ := h
 have hq := troughR_len x (orR x k_balls 1)
 apply putR_ind (P := fun z => z.le (n + 1))
 all_goals (refine ⟨?_, ?_, ?_, ?_, ?_, ?_, ?_, ?_, ?_, ?_, ?_⟩)
 all_goals ((try simp only [headR, List.length_append, List.length_cons, List.length_nil]); omega)
theorem own_cap {w : World} {base size n : Nat} {e : TypeId} {A : Option Addr} {c : Nat} {xs : List Value} (h : w.ownsRow base e size (.slice A n c) n xs) : n ≤ c := by
 rcases Nat.eq_zero_or_pos n with h0 | h0
 · omega
 · obtain ⟨g, _, _, _, hc, _⟩ := own_cells h h0
   exact hc
theorem own_aok {w : World} {base size n : Nat} {e : TypeId} {A : Option Addr} {c : Nat} {xs : List Value} (h : w.ownsRow base e size (.slice A n c) n xs) : AOk A := by
 rcases h.2 with ⟨hv, _⟩ | ⟨g, cap, cur, hv, _⟩
 · simp only [Value.slice.injEq] at hv
   exact .inl hv.1
 · simp only [Value.slice.injEq] at hv
   exact .inr ⟨g, 0, hv.1⟩
theorem TbO.cap {w : World} {base tb : Nat} {t : Tb} {a : TbA} (h : TbO w base tb t a) : TbCap t a := ⟨⟨own_cap h.ss, own_cap h.rs, own_cap h.lns⟩, ⟨own_aok h.tr, own_aok h.ws, own_aok h.ars, own_aok h.ps, own_aok h.fs, own_aok h.zs, own_aok h.ss, own_aok h.las, own_aok h.rs, own_aok h.ds, own_aok h.lns⟩⟩
theorem tsmall_of {t : Tb} {n : Nat} (h : t.nms) (hl : t.le n) (hn : n ≤ 10000) : TbSmall t := by
 have hm : (20000 : Nat) ≤ maxLen := by unfold maxLen; omega
 have hm2 : (70000 : Nat) ≤ maxLen := by unfold maxLen; omega
 exact ⟨by have := hl.tr; omega, fun x hx => Nat.le_trans (h.1 x hx) hm, fun x hx => Nat.le_trans (h.2 x hx) hm, fun x hx => Nat.le_trans (h.3 x hx) hm, fun x hx => Nat.le_trans (h.4 x hx) hm, fun x hx => Nat.le_trans (h.5 x hx) hm, fun x hx => Nat.le_trans (h.6 x hx) hm, fun x hx => Nat.le_trans (h.7 x hx) hm, fun x hx => Nat.le_trans (h.8 x hx) hm, fun x hx => Nat.le_trans (h.9 x hx) hm, fun x hx => Nat.le_trans (h.10 x hx) hm⟩
theorem tbo_new (w : World) (tb : Nat) (htb : tb = w.heap.size) : TbO (w.alloc (.cells #[.int .i64 0, .int .i64 0, .int .i64 0, .int .i64 0, .int .i64 0, .int .i64 0, .int .i64 0, .slice none 0 0, .slice none 0 0, .slice none 0 0, .slice none 0 0, .slice none 0 0, .slice none 0 0, .slice none 0 0, .slice none 0 0, .slice none 0 0, .slice none 0 0, .slice none 0 0] 36)) (tb + 1) tb tb0 a0 := by
 subst htb
 exact ⟨BoxAt.new w (tb0.cells a0) 36, World.ownsRow_nil _ _ _ _, World.ownsRow_nil _ _ _ _, World.ownsRow_nil _ _ _ _, World.ownsRow_nil _ _ _ _, World.ownsRow_nil _ _ _ _, World.ownsRow_nil _ _ _ _, World.ownsRow_nil _ _ _ _, World.ownsRow_nil _ _ _ _, World.ownsRow_nil _ _ _ _, World.ownsRow_nil _ _ _ _, World.ownsRow_nil _ _ _ _⟩
def CompOut (R : Tb × Int × Int) (w : World) (e : Ending) (w' : World) : Prop := ∃ a, e = .returned (.tuple #[R.1.v a, .int .i64 R.2.1, .int .i64 R.2.2]) ∧ Below w.heap.size w w' ∧ TbAt w' R.1 a ∧ TbCap R.1 a ∧ ∃ n, R.1.nms ∧ R.1.le n ∧ n ≤ 10000
theorem tb0_nms : tb0.nms := ⟨by simp [tb0], by simp [tb0], by simp [tb0], by simp [tb0], by simp [tb0], by simp [tb0], by simp [tb0], by simp [tb0], by simp [tb0], by simp [tb0]⟩
theorem tb0_le (n : Nat) : tb0.le n := ⟨by simp [tb0], by simp [tb0], by simp [tb0], by simp [tb0], by simp [tb0], by simp [tb0], by simp [tb0], by simp [tb0], by simp [tb0], by simp [tb0], by simp [tb0]⟩
theorem comp_zero (w w' : World) (e : Int) (p : Int) (hb : Below w.heap.size w w') : CompOut (tb0, e, p) w (.returned (.tuple #[tb0.v a0, .int .i64 e, .int .i64 p])) w' :=
 ⟨a0, rfl, hb, ⟨RowsAt.nil, RowsAt.nil, RowsAt.nil, RowsAt.nil, RowsAt.nil, RowsAt.nil, RowsAt.nil, RowsAt.nil, RowsAt.nil, RowsAt.nil, RowsAt.nil⟩, ⟨⟨Nat.le_refl _, Nat.le_refl _, Nat.le_refl _⟩, ⟨.inl rfl, .inl rfl, .inl rfl, .inl rfl, .inl rfl, .inl rfl, .inl rfl, .inl rfl, .inl rfl, .inl rfl, .inl rfl⟩⟩, 0, tb0_nms, tb0_le 0, Nat.zero_le _⟩
set_option maxRecDepth 100000 in
def fr501 (s : Nat → Value) : List Value := s 0 :: s 1 :: s 2 :: s 3 :: s 4 :: s 5 :: s 6 :: s 7 :: s 8 :: s 9 :: s 10 :: s 11 :: s 12 :: s 13 :: s 14 :: s 15 :: s 16 :: s 17 :: s 18 :: s 19 :: s 20 :: s 21 :: s 22 :: s 23 :: s 24 :: s 25 :: s 26 :: s 27 :: s 28 :: s 29 :: s 30 :: s 31 :: s 32 :: s 33 :: s 34 :: s 35 :: s 36 :: s 37 :: s 38 :: s 39 :: s 40 :: s 41 :: s 42 :: s 43 :: s 44 :: s 45 :: s 46 :: s 47 :: s 48 :: s 49 :: s 50 :: s 51 :: s 52 :: s 53 :: s 54 :: s 55 :: s 56 :: s 57 :: s 58 :: s 59 :: s 60 :: s 61 :: s 62 :: s 63 :: s 64 :: s 65 :: s 66 :: s 67 :: s 68 :: s 69 :: s 70 :: s 71 :: s 72 :: s 73 :: s 74 :: s 75 :: s 76 :: s 77 :: s 78 :: s 79 :: s 80 :: s 81 :: s 82 :: s 83 :: s 84 :: s 85 :: s 86 :: s 87 :: s 88 :: s 89 :: s 90 :: s 91 :: s 92 :: s 93 :: s 94 :: s 95 :: s 96 :: s 97 :: s 98 :: s 99 :: s 100 :: s 101 :: s 102 :: s 103 :: s 104 :: s 105 :: s 106 :: s 107 :: s 108 :: s 109 :: s 110 :: s 111 :: s 112 :: s 113 :: s 114 :: s 115 :: s 116 :: s 117 :: s 118 :: s 119 :: s 120 :: s 121 :: s 122 :: s 123 :: s 124 :: s 125 :: s 126 :: s 127 :: s 128 :: s 129 :: s 130 :: s 131 :: s 132 :: s 133 :: s 134 :: s 135 :: s 136 :: s 137 :: s 138 :: s 139 :: s 140 :: s 141 :: s 142 :: s 143 :: s 144 :: s 145 :: s 146 :: s 147 :: s 148 :: s 149 :: s 150 :: s 151 :: s 152 :: s 153 :: s 154 :: s 155 :: s 156 :: s 157 :: s 158 :: s 159 :: s 160 :: s 161 :: s 162 :: s 163 :: s 164 :: s 165 :: s 166 :: s 167 :: s 168 :: s 169 :: s 170 :: s 171 :: s 172 :: s 173 :: s 174 :: s 175 :: s 176 :: s 177 :: s 178 :: s 179 :: s 180 :: s 181 :: s 182 :: s 183 :: s 184 :: s 185 :: s 186 :: s 187 :: s 188 :: s 189 :: s 190 :: s 191 :: s 192 :: s 193 :: s 194 :: s 195 :: s 196 :: s 197 :: s 198 :: s 199 :: s 200 :: s 201 :: s 202 :: s 203 :: s 204 :: s 205 :: s 206 :: s 207 :: s 208 :: s 209 :: s 210 :: s 211 :: s 212 :: s 213 :: s 214 :: s 215 :: s 216 :: s 217 :: s 218 :: s 219 :: s 220 :: s 221 :: s 222 :: s 223 :: s 224 :: s 225 :: s 226 :: s 227 :: s 228 :: s 229 :: s 230 :: s 231 :: s 232 :: s 233 :: s 234 :: s 235 :: s 236 :: s 237 :: s 238 :: s 239 :: s 240 :: s 241 :: s 242 :: s 243 :: s 244 :: s 245 :: s 246 :: s 247 :: s 248 :: s 249 :: s 250 :: s 251 :: s 252 :: s 253 :: s 254 :: s 255 :: s 256 :: s 257 :: s 258 :: s 259 :: s 260 :: s 261 :: s 262 :: s 263 :: s 264 :: s 265 :: s 266 :: s 267 :: s 268 :: s 269 :: s 270 :: s 271 :: s 272 :: s 273 :: s 274 :: s 275 :: s 276 :: s 277 :: s 278 :: s 279 :: s 280 :: s 281 :: s 282 :: s 283 :: s 284 :: s 285 :: s 286 :: s 287 :: s 288 :: s 289 :: s 290 :: s 291 :: s 292 :: s 293 :: s 294 :: s 295 :: s 296 :: s 297 :: s 298 :: s 299 :: s 300 :: s 301 :: s 302 :: s 303 :: s 304 :: s 305 :: s 306 :: s 307 :: s 308 :: s 309 :: s 310 :: s 311 :: s 312 :: s 313 :: s 314 :: s 315 :: s 316 :: s 317 :: s 318 :: s 319 :: s 320 :: s 321 :: s 322 :: s 323 :: s 324 :: s 325 :: s 326 :: s 327 :: s 328 :: s 329 :: s 330 :: s 331 :: s 332 :: s 333 :: s 334 :: s 335 :: s 336 :: s 337 :: s 338 :: s 339 :: s 340 :: s 341 :: s 342 :: s 343 :: s 344 :: s 345 :: s 346 :: s 347 :: s 348 :: s 349 :: s 350 :: s 351 :: s 352 :: s 353 :: s 354 :: s 355 :: s 356 :: s 357 :: s 358 :: s 359 :: s 360 :: s 361 :: s 362 :: s 363 :: s 364 :: s 365 :: s 366 :: s 367 :: s 368 :: s 369 :: s 370 :: s 371 :: s 372 :: s 373 :: s 374 :: s 375 :: s 376 :: s 377 :: s 378 :: s 379 :: s 380 :: s 381 :: s 382 :: s 383 :: s 384 :: s 385 :: s 386 :: s 387 :: s 388 :: s 389 :: s 390 :: s 391 :: s 392 :: s 393 :: s 394 :: s 395 :: s 396 :: s 397 :: s 398 :: s 399 :: s 400 :: s 401 :: s 402 :: s 403 :: s 404 :: s 405 :: s 406 :: s 407 :: s 408 :: s 409 :: s 410 :: s 411 :: s 412 :: s 413 :: s 414 :: s 415 :: s 416 :: s 417 :: s 418 :: s 419 :: s 420 :: s 421 :: s 422 :: s 423 :: s 424 :: s 425 :: s 426 :: s 427 :: s 428 :: s 429 :: s 430 :: s 431 :: s 432 :: s 433 :: s 434 :: s 435 :: s 436 :: s 437 :: s 438 :: s 439 :: s 440 :: s 441 :: s 442 :: s 443 :: s 444 :: s 445 :: s 446 :: s 447 :: s 448 :: s 449 :: s 450 :: s 451 :: s 452 :: s 453 :: s 454 :: s 455 :: s 456 :: s 457 :: s 458 :: s 459 :: s 460 :: s 461 :: s 462 :: s 463 :: s 464 :: s 465 :: s 466 :: s 467 :: s 468 :: s 469 :: s 470 :: s 471 :: s 472 :: s 473 :: s 474 :: s 475 :: s 476 :: s 477 :: s 478 :: s 479 :: s 480 :: s 481 :: s 482 :: s 483 :: s 484 :: s 485 :: s 486 :: s 487 :: s 488 :: s 489 :: s 490 :: s 491 :: s 492 :: s 493 :: s 494 :: s 495 :: s 496 :: s 497 :: s 498 :: s 499 :: s 500 :: []
set_option maxRecDepth 100000 in
theorem fr501_ex (L : List Value) (h : L.length = 501) : ∃ s : Nat → Value, L = fr501 s := ⟨fun i => L.getD i undef, (map_getD L 501 h).trans (by kernel_rfl)⟩
def kv1 (k : ByteArray) (n : Int) : KV := ⟨k, [n], 0⟩
def kv2 (k : ByteArray) (a b : Int) : KV := ⟨k, [a, b], 0⟩
def wlW (kd : Int) : ByteArray := if kd = 1 then t_wall else if kd = 2 then t_gate else if kd = 3 then t_target else if kd = 4 then t_sling else ⟨#[]⟩
def itWl (x : Wl) : IV := ⟨wlW x.kd, x.nm, [kv1 k_level x.lv, kv2 k_from x.a1 x.a2, kv2 k_to x.b1 x.b2, kv1 k_rest x.rs, kv1 k_grip x.gr, kv1 k_kick x.kk, kv1 k_min x.mn, kv1 k_coil x.cl, kv1 k_switch x.sw], 0⟩
def itAc (x : Ac) : IV := ⟨t_arc, x.nm, [kv1 k_level x.lv, kv2 k_center x.c1 x.c2, kv2 k_from x.s1 x.s2, kv2 k_to x.e1 x.e2, kv1 k_rest x.rs, kv1 k_grip x.gr, kv1 k_min x.mn, kv1 k_switch x.sw], 0⟩
def itPs (x : Ps) : IV := ⟨t_post, x.nm, [kv1 k_level x.lv, kv2 k_center x.c1 x.c2, kv1 k_size x.sz, kv1 k_rest x.rs, kv1 k_grip x.gr, kv1 k_kick x.kk, kv1 k_min x.mn, kv1 k_coil x.cl, kv1 k_switch x.sw], 0⟩
def itFl (x : Fl) : IV := ⟨t_flipper, x.nm, [kv1 k_level x.lv, kv2 k_center x.p1 x.p2, kv1 k_length x.ln] ++ ((if x.mi = true then [⟨k_mirror, [], 0⟩] else []) ++ [kv2 k_range x.lo x.hi, kv1 k_up x.up, kv1 k_down x.dn, kv1 k_max x.mx, kv1 k_rest x.rs, kv1 k_grip x.gr, kv1 k_coil x.cl, kv1 k_switch x.sw]), 0⟩
def itZn (x : Zn) : IV := ⟨t_zone, x.nm, [kv1 k_level x.lv, kv2 k_from x.l1 x.l2, kv2 k_to x.h1 x.h2, kv2 k_half x.f1 x.f2, kv1 k_coil x.cl], 0⟩
def itSc (x : Sc) : IV := ⟨t_saucer, x.nm, [kv1 k_level x.lv, kv2 k_center x.c1 x.c2, kv1 k_size x.sz, kv1 k_limit x.lm, kv2 k_out x.o1 x.o2, kv1 k_coil x.cl, kv1 k_switch x.sw], 0⟩
def itLa (x : La) : IV := ⟨t_lane, x.nm, [kv1 k_level x.lv, kv2 k_center x.c1 x.c2, kv1 k_size x.sz, kv1 k_switch x.sw], 0⟩
def itRa (x : Ra) : IV := ⟨t_ramp, x.nm, [kv1 k_level x.fr, kv1 k_into x.to, kv2 k_center x.c1 x.c2, kv1 k_size x.sz, kv2 k_dir x.d1 x.d2], 0⟩
def itDr (x : Dr) : IV := ⟨t_drain, x.nm, [kv1 k_level x.lv, kv2 k_center x.c1 x.c2, kv1 k_size x.sz], 0⟩
def itLn (x : Ln) : IV := ⟨t_launcher, x.nm, [kv1 k_level x.lv, kv2 k_center x.a1 x.a2, kv2 k_out x.v1 x.v2, kv1 k_coil x.cl], 0⟩
def itTb (t : Tb) : IV := ⟨t_table, ⟨#[]⟩, [kv1 k_radius t.rad, kv1 k_balls t.bal, kv2 k_gravity t.gx t.gy, kv2 k_drag t.drg t.shf, kv1 k_rest t.rst] ++ (match t.tr with
  | [] => []
  | a :: _ => [kv1 k_trough a]), 0⟩
theorem numA (key : ByteArray) (A : Option Addr) (n c : Nat) (w : World) :
  Calls Tryz.prog 56 #[.string key, .slice A n c] w fun e w' => e = .returned (.agg #[.string key, .slice A n c, .int .i64 0]) ∧ Below w.heap.size w w' := num_any key A n c w
def VecA (key : ByteArray) (x y : Int) (N : Nat) (w : World) (e : Ending) (w' : World) : Prop := ∃ A c, e = .returned (.agg #[.string key, .slice A 2 c, .int .i64 0]) ∧ Below w.heap.size w w' ∧ OwnI w' N A c [x, y]
theorem vecA (key : ByteArray) (x y : Int) (N : Nat) (w : World) (hN : N ≤ w.heap.size) :
  Calls Tryz.prog 58 #[.string key, .agg #[.int .i64 x, .int .i64 y]] w (VecA key x y N w) := (kvec_any key x y w).mono fun e w' ⟨A, c, h1, h2, h3⟩ => ⟨A, c, h1, h2, h3.weaker hN⟩
theorem cl_owni (N : Nat) (A : Option Addr) (c : Nat) (l : List Int) : Cl (fun W => OwnI W N A c l) := fun _ _ h hb => own_below h hb (Nat.le_refl _)
theorem st_noneB (word name : ByteArray) (l : List KP) (g cap : Nat) (w : World) (hA : RowsAt 3 kpC w (some ⟨g, 0, none⟩) l) (hl : l.length ≤ 1000) (hne : ∀ p ∈ l, ¬ p.1.key = ⟨#[]⟩) :
  Calls Tryz.prog 57 #[.string word, .string name, .slice (some ⟨g, 0, none⟩) l.length cap] w fun e w' => e = .returned (.agg #[.string word, .string name, .slice (some ⟨g, 0, none⟩) l.length cap, .int .i64 0]) ∧ Below w.heap.size w w' := by
 have K := del_none l g cap _ (hA.below ((Below.refl w.heap.size w).alloc (Nat.le_refl _) (.cells #[.string ⟨#[]⟩, .string ⟨#[]⟩, .slice none 0 0, .int .i64 0] 97)) (Nat.le_refl _)) hl hne
 have HK := hQ0 K
 clear K hne hA
 go_enter Tryz.func57, Tryz.ntmps57; (try simp only [List.append_eq, List.cons_append, List.nil_append])
 go_wp2_with fail
 (go_at_call 112; refine HK.out.mono ?_; rintro e w1 ⟨rfl, hb1⟩)
 have hX := (BoxAt.new w [.string ⟨#[]⟩, .string ⟨#[]⟩, .slice none 0 0, .int .i64 0] 97).below hb1 (by simp)
 have x0 := hX.c 0 _ rfl
 have x1 := hX.c 1 _ rfl
 have x2 := hX.c 2 _ rfl
 have x3 := hX.c 3 _ rfl
 have xz := hX.fz
 have xl := hX.lt
 have hz1 := hb1.size
 simp at hz1
 have HB1 : Hid (Below w.heap.size w w1) := hQ0 (((Below.refl w.heap.size w).alloc (Nat.le_refl _) _).trans (hb1.mono (by simp)))
 clear hX HK hb1
 go_wp2_with fail
 refine bodyPost_ret (v := .agg #[.string word, .string name, .slice (some ⟨g, 0, none⟩) l.length cap, .int .i64 0]) (by simp only [results, Tryz.results57]; go_simp) rfl ?_
 exact ⟨rfl, (((HB1.out.setCell (by simp) _).setCell (by simp) _).setCell (by simp) _).setCell (by simp) _⟩
theorem own_blk {w : World} {base g n size : Nat} {e : TypeId} {cs : Array Value} (h : w.heap[g]? = some (.cells cs e)) (hb : base ≤ g) (hn : n ≤ 1000) (hs : cs.size = n * size) : w.ownsRow base e size (.slice (some ⟨g, 0, none⟩) n n) n cs.toList :=
 ⟨by simpa using hs, .inr ⟨g, n, cs, rfl, hb, h, Nat.le_refl _, by unfold maxLen; omega, hs, List.take_of_length_le (by rw [Array.length_toList, hs]; exact Nat.le_refl _)⟩⟩
theorem rows_blk {w : World} {g : Nat} {e : TypeId} {cs : Array Value} (l : List KP) (h : w.heap[g]? = some (.cells cs e)) (hs : cs.toList = l.flatMap kpC) : RowsAt 3 kpC w (some ⟨g, 0, none⟩) l := fun k x hx => by
 refine ⟨g, 0, rfl, (Array.getElem?_eq_some_iff.1 h).1, fun j u hu => ?_⟩
 rw [Nat.zero_add, cell_of_row w g _ cs e (0, 0) h, ← Array.getElem?_toList, hs]
 exact flat_get kpC 3 (fun _ => rfl) l k j x u hx hu
theorem KsOwn.blk {w : World} {base g : Nat} {cs : Array Value} (l : List KP) (h : w.heap[g]? = some (.cells cs 120)) (hs : cs.toList = l.flatMap kpC) (hb : base ≤ g) (hn : l.length ≤ 1000) (hv : ∀ p ∈ l, OwnI w base p.2.1 p.2.2 p.1.vals) : KsOwn w base 120 (some ⟨g, 0, none⟩) l.length (l.map (·.1)) := by
 have hz : cs.size = l.length * 3 := by rw [← Array.length_toList, hs]; exact flatK l
 have ho := own_blk (base := base) (size := 3) h hb hn hz
 rw [hs] at ho
 exact ⟨l, rfl, by rw [List.length_map]; exact ho, hv⟩
theorem OwnI.blk1 {w : World} {base g : Nat} {x : Int} (h : w.heap[g]? = some (.cells #[.int .i64 x] 3)) (hb : base ≤ g) : OwnI w base (some ⟨g, 0, none⟩) 1 [x] := own_blk (n := 1) (size := 1) h hb (by omega) rfl
theorem OwnI.blk2 {w : World} {base g : Nat} {x y : Int} (h : w.heap[g]? = some (.cells #[.int .i64 x, .int .i64 y] 3)) (hb : base ≤ g) : OwnI w base (some ⟨g, 0, none⟩) 2 [x, y] := own_blk (n := 2) (size := 1) h hb (by omega) rfl
theorem nk {l : List KP} (h : l.all (fun p => !decide (p.1.key = ⟨#[]⟩)) = true) : ∀ p ∈ l, ¬ p.1.key = ⟨#[]⟩ := fun p hp => by
 have := List.all_eq_true.1 h p hp
 simpa using this
theorem map_snoc {α β : Type} (f : α → β) {l : List α} {k : Nat} {x : α} (h : l[k]? = some x) : (l.take (k + 1)).map f = (l.take k).map f ++ [f x] := by
 obtain ⟨h1, rfl⟩ := List.getElem?_eq_some_iff.1 h
 rw [List.take_succ_eq_append_getElem h1, List.map_append]
 rfl
def Tb.items (t : Tb) : List IV := [itTb t] ++ t.ws.map itWl ++ t.ars.map itAc ++ t.ps.map itPs ++ t.fs.map itFl ++ t.zs.map itZn ++ t.ss.map itSc ++ t.las.map itLa ++ t.rs.map itRa ++ t.ds.map itDr ++ t.lns.map itLn
def textR (t : Tb) : ByteArray × Bool :=
  if ¬ ∀ x ∈ t.ws, in1 1 4 x.kd = true then (⟨#[]⟩, false)
  else if (fmtR t.items).2 = false then (⟨#[]⟩, false)
  else if (compileR (fmtR t.items).1).2.1 ≠ 0 ∨ sameR (compileR (fmtR t.items).1).1 t = false then (⟨#[]⟩, false)
  else ((fmtR t.items).1, true)
theorem text_back {t : Tb} (h : (textR t).2 = true) : compileR (textR t).1 = (t, 0, (compileR (textR t).1).2.2) := by
 unfold textR at h ⊢
 generalize fmtR t.items = Z at h ⊢
 obtain ⟨S, b⟩ := Z
 dsimp only at h ⊢
 generalize hz : compileR S = z at h ⊢
 obtain ⟨u, e, p⟩ := z
 dsimp only at h ⊢
 by_cases h1 : ¬ ∀ x ∈ t.ws, in1 1 4 x.kd = true
 · rw [if_pos h1] at h; cases h
 rw [if_neg h1] at h ⊢
 by_cases h2 : b = false
 · rw [if_pos h2] at h; cases h
 rw [if_neg h2] at h ⊢
 by_cases h3 : e ≠ 0 ∨ sameR u t = false
 · rw [if_pos h3] at h; cases h
 rw [if_neg h3]
 dsimp only
 rw [not_or] at h3
 have e1 : e = 0 := Classical.not_not.1 h3.1
 have e2 : u = t := sameR_iff.1 (by cases hq : sameR u t with
  | true => rfl
  | false => exact (h3.2 hq).elim)
 rw [hz, e1, e2]
end Go.Proofs.YtbpcjpiaimdpnaaGreatDoor
namespace Go.Proofs.YtbpcjpiaimdpnaaGreatDoor
open Go
set_option linter.unusedVariables false
section
variable (f g : Int → Int)
def Wl.mv (x : Wl) : Wl := { x with a1 := f x.a1, a2 := g x.a2, b1 := f x.b1, b2 := g x.b2 }
def Ac.mv (x : Ac) : Ac := { x with c1 := f x.c1, c2 := g x.c2, s1 := f x.s1, s2 := g x.s2, e1 := f x.e1, e2 := g x.e2 }
def Ps.mv (x : Ps) : Ps := { x with c1 := f x.c1, c2 := g x.c2 }
def Fl.mv (x : Fl) : Fl := { x with p1 := f x.p1, p2 := g x.p2 }
def Zn.mv (x : Zn) : Zn := { x with l1 := f x.l1, l2 := g x.l2, h1 := f x.h1, h2 := g x.h2 }
def Sc.mv (x : Sc) : Sc := { x with c1 := f x.c1, c2 := g x.c2 }
def La.mv (x : La) : La := { x with c1 := f x.c1, c2 := g x.c2 }
def Ra.mv (x : Ra) : Ra := { x with c1 := f x.c1, c2 := g x.c2 }
def Dr.mv (x : Dr) : Dr := { x with c1 := f x.c1, c2 := g x.c2 }
def Ln.mv (x : Ln) : Ln := { x with a1 := f x.a1, a2 := g x.a2 }
def Tb.mv (t : Tb) : Tb := { t with ws := t.ws.map (Wl.mv f g), ars := t.ars.map (Ac.mv f g), ps := t.ps.map (Ps.mv f g), fs := t.fs.map (Fl.mv f g), zs := t.zs.map (Zn.mv f g), ss := t.ss.map (Sc.mv f g), las := t.las.map (La.mv f g), rs := t.rs.map (Ra.mv f g), ds := t.ds.map (Dr.mv f g), lns := t.lns.map (Ln.mv f g) }
end
def Wl.tn (x : Wl) : Wl := { x with a1 := x.b1, a2 := x.b2, b1 := x.a1, b2 := x.a2 }
def Ac.tr (x : Ac) : Ac := { x with s1 := x.e1, s2 := x.e2, e1 := x.s1, e2 := x.s2 }
def Fl.tn (x : Fl) : Fl := { x with mi := !x.mi }
def Zn.tn (x : Zn) : Zn := { x with l1 := x.h1, h1 := x.l1, f1 := -x.f1 }
def Sc.tn (x : Sc) : Sc := { x with o1 := -x.o1 }
def Ra.tn (x : Ra) : Ra := { x with d1 := -x.d1 }
def Ln.tn (x : Ln) : Ln := { x with v1 := -x.v1 }
def Tb.tn (t : Tb) : Tb := { t with gx := -t.gx, ws := t.ws.map Wl.tn, ars := t.ars.map Ac.tr, fs := t.fs.map Fl.tn, zs := t.zs.map Zn.tn, ss := t.ss.map Sc.tn, rs := t.rs.map Ra.tn, lns := t.lns.map Ln.tn }
def mirrorR (t : Tb) : Tb := (t.mv (fun x => -x) (fun y => y)).tn
def mS (x : Sc) : Sc := (x.mv (fun x => -x) (fun y => y)).tn
end Go.Proofs.YtbpcjpiaimdpnaaGreatDoor
namespace Go.Proofs.YtbpcjpiaimdpnaaGreatDoor
open Go Go.RowKit
set_option linter.unusedVariables false
def RowOwn {α : Type} (f : α → List Value) (w : World) (B : Nat) (A : Option Addr) (l : List α) : Prop := l = [] ∨ ∃ q, A = some ⟨q, 0, none⟩ ∧ B ≤ q ∧ BoxAt w q (l.flatMap f)
section
variable {α : Type} {n : Nat} {f : α → List Value} {w w1 : World} {A : Option Addr} {l : List α} {B : Nat}
theorem RowOwn.rows (hf : ∀ x, (f x).length = n) (h : RowOwn f w B A l) : RowsAt n f w A l := fun k x hx => by
 rcases h with rfl | ⟨q, rfl, _, hb⟩
 · simp at hx
 · exact ⟨q, 0, rfl, hb.lt, fun j u hu => by rw [Nat.zero_add]; exact hb.c _ _ (flat_get f n hf l k j x u hx hu)⟩
theorem RowOwn.below {N : Nat} (h : RowOwn f w B A l) (hb : Below N w w1) (hN : w.heap.size ≤ N) : RowOwn f w1 B A l := by
 rcases h with rfl | ⟨q, hA, hq, hx⟩
 · exact .inl rfl
 · exact .inr ⟨q, hA, hq, hx.below hb (Nat.lt_of_lt_of_le hx.lt hN)⟩
theorem RowOwn.weaker {B' : Nat} (h : RowOwn f w B A l) (hb : B' ≤ B) : RowOwn f w B' A l := by
 rcases h with rfl | ⟨q, hA, hq, hx⟩
 · exact .inl rfl
 · exact .inr ⟨q, hA, Nat.le_trans hb hq, hx⟩
theorem RowOwn.of_own {base c : Nat} {e : TypeId} (h : w.ownsRow base e n (.slice A l.length c) l.length (l.flatMap f)) : RowOwn f w base A l := by
 by_cases h0 : l = []
 · exact .inl h0
 · obtain ⟨g, rfl, hg, hb, _, hc⟩ := own_cells h (List.length_pos_iff.2 h0)
   exact .inr ⟨g, rfl, hb, hc, fun o => World.ownsRow.frozenAt h o, hg⟩
theorem rows_flat (hn : 0 < n) (hf : ∀ x, (f x).length = n) {b o : Nat} (h : RowsAt n f w (some ⟨b, o, none⟩) l) (j : Nat) (u : Value) (hu : (l.flatMap f)[j]? = some u) : w.cell? ⟨b, o + j, none⟩ = some u := by
 have hj := (List.getElem?_eq_some_iff.1 hu).1
 rw [flat_len f n hf] at hj
 have hk : j / n < l.length := Nat.div_lt_of_lt_mul (by rw [Nat.mul_comm]; exact hj)
 have hx : l[j / n]? = some l[j / n] := List.getElem?_eq_getElem hk
 have hr : j % n < (f l[j / n]).length := by rw [hf]; exact Nat.mod_lt _ hn
 have hv := List.getElem?_eq_getElem hr
 have e : j / n * n + j % n = j := by rw [Nat.mul_comm]; exact Nat.div_add_mod j n
 have h2 := flat_get f n hf l _ _ _ _ hx hv
 rw [e, hu] at h2
 obtain ⟨g, o', hA, _, hc⟩ := h _ _ hx
 cases hA
 have h3 := hc _ _ hv
 rw [e] at h3
 rw [h3, ← h2]
end
def CloneOut {α : Type} (f : α → List Value) (l : List α) (w : World) (e : Ending) (w' : World) : Prop := ∃ A c, e = .returned (.slice A l.length c) ∧ l.length ≤ c ∧ AOk A ∧ RowOwn f w' w.heap.size A l ∧ Below w.heap.size w w'
theorem clone_gen {α : Type} (ρ : Go.Shelf.Ren) (L : Go.Proofs.SlLaysE0.n41 Tryz.prog ρ) (f : α → List Value) (z : Value) (size bytes : Nat) (hinfo : (Tryz.prog.info? (ρ.t 23)).map (fun i => (i.zero, i.size, i.bytes)) = some (some z, size, bytes)) (hzs : z.cells.size = size) (hsz : 0 < size) (z23 : ∀ w, (Go.sizeOf (ρ.t 23)).run Tryz.prog w = .ok size w) (hf : ∀ x, (f x).length = size) (h1 : ∀ x, ∀ u ∈ f x, u.oneCell' = true) (hby : bytes ≤ 1000)
  (l : List α) (A : Option Addr) (c : Nat) (w : World) (hA : RowsAt size f w A l) (hk : AOk A) (hl : l.length ≤ 100000) : Calls Tryz.prog (ρ.f 41) #[.slice A l.length c] w (CloneOut f l w) := by
 rcases hk with rfl | ⟨b, o, rfl⟩
 · have h0 : l = [] := by
    cases l with
    | nil => rfl
    | cons x r => obtain ⟨g, o, hA', _⟩ := hA 0 x rfl; cases hA'
   subst h0
   refine (AnyE.slices_Clone_nil L 0 c w).mono ?_
   rintro e w' ⟨rfl, rfl⟩
   exact ⟨none, 0, rfl, Nat.le_refl _, .inl rfl, .inl rfl, Below.refl _ _⟩
 · obtain ⟨i, hi, hz, hsi, hb⟩ : ∃ i, Tryz.prog.info? (ρ.t 23) = some i ∧ i.zero = some z ∧ i.size = size ∧ i.bytes = bytes := by
    cases hi : Tryz.prog.info? (ρ.t 23) with
    | none => rw [hi] at hinfo; cases hinfo
    | some i =>
     rw [hi] at hinfo
     simp only [Option.map_some, Option.some.injEq, Prod.mk.injEq] at hinfo
     exact ⟨i, rfl, hinfo.1, hinfo.2.1, hinfo.2.2⟩
   refine (AnyE.slices_Clone L i z size bytes hi hz hsi hb hzs hsz z23 b o l.length c (l.flatMap f) w (flat_len f size hf l) (by unfold maxLen; omega) (Nat.le_trans (Nat.mul_le_mul hl hby) (by decide)) (fun j u hu => rows_flat hsz hf hA j u hu) (fun u hu => by obtain ⟨x, _, hx⟩ := List.mem_flatMap.1 hu; exact h1 x u hx)).mono ?_
   rintro e w' ⟨v, rfl, hown, _, hb⟩
   obtain ⟨A', c', rfl⟩ := own_sl hown
   exact ⟨A', c', rfl, own_cap hown, own_aok hown, RowOwn.of_own hown, hb⟩
def cren_ws : Go.Shelf.Ren := ⟨fun | 41 => 172 | n => n, fun | 22 => 25 | 23 => 53 | 4 => 4 | n => n, fun | n => n⟩
theorem clays_ws : Go.Proofs.SlLaysE0.n41 Tryz.prog cren_ws := {
 mixed := by kernel_rfl
 f41 := ⟨Tryz.f172.name, by decide, Tryz.func172.trans (congrArg some (by kernel_rfl))⟩
 t4 := Tryz.underlying4
 a4 := Tryz.isAgg4
 z4 := Tryz.sizeOf4
 v4 := Tryz.zeroValue4
 t22 := Tryz.underlying25
 a22 := Tryz.isAgg25
 z22 := Tryz.sizeOf25
 v22 := Tryz.zeroValue25 }
theorem clone_ws (l : List Wl) (A : Option Addr) (c : Nat) (w : World) (hA : RowsAt 13 Wl.cells w A l) (hk : AOk A) (hl : l.length ≤ 100000) : Calls Tryz.prog 172 #[.slice A l.length c] w (CloneOut Wl.cells l w) :=
 clone_gen cren_ws clays_ws Wl.cells _ 13 _ infWl rfl (by decide) Tryz.sizeOf53 (fun _ => rfl) (fun x u hu => by
  simp only [Wl.cells, List.mem_cons, List.not_mem_nil, or_false] at hu
  rcases hu with rfl | rfl | rfl | rfl | rfl | rfl | rfl | rfl | rfl | rfl | rfl | rfl | rfl <;> rfl) (by decide) l A c w hA hk hl
def cren_ars : Go.Shelf.Ren := ⟨fun | 41 => 173 | n => n, fun | 22 => 26 | 23 => 76 | 4 => 4 | n => n, fun | n => n⟩
theorem clays_ars : Go.Proofs.SlLaysE0.n41 Tryz.prog cren_ars := {
 mixed := by kernel_rfl
 f41 := ⟨Tryz.f173.name, by decide, Tryz.func173.trans (congrArg some (by kernel_rfl))⟩
 t4 := Tryz.underlying4
 a4 := Tryz.isAgg4
 z4 := Tryz.sizeOf4
 v4 := Tryz.zeroValue4
 t22 := Tryz.underlying26
 a22 := Tryz.isAgg26
 z22 := Tryz.sizeOf26
 v22 := Tryz.zeroValue26 }
theorem clone_ars (l : List Ac) (A : Option Addr) (c : Nat) (w : World) (hA : RowsAt 12 Ac.cells w A l) (hk : AOk A) (hl : l.length ≤ 100000) : Calls Tryz.prog 173 #[.slice A l.length c] w (CloneOut Ac.cells l w) :=
 clone_gen cren_ars clays_ars Ac.cells _ 12 _ infAc rfl (by decide) Tryz.sizeOf76 (fun _ => rfl) (fun x u hu => by
  simp only [Ac.cells, List.mem_cons, List.not_mem_nil, or_false] at hu
  rcases hu with rfl | rfl | rfl | rfl | rfl | rfl | rfl | rfl | rfl | rfl | rfl | rfl <;> rfl) (by decide) l A c w hA hk hl
def cren_ps : Go.Shelf.Ren := ⟨fun | 41 => 174 | n => n, fun | 22 => 27 | 23 => 55 | 4 => 4 | n => n, fun | n => n⟩
theorem clays_ps : Go.Proofs.SlLaysE0.n41 Tryz.prog cren_ps := {
 mixed := by kernel_rfl
 f41 := ⟨Tryz.f174.name, by decide, Tryz.func174.trans (congrArg some (by kernel_rfl))⟩
 t4 := Tryz.underlying4
 a4 := Tryz.isAgg4
 z4 := Tryz.sizeOf4
 v4 := Tryz.zeroValue4
 t22 := Tryz.underlying27
 a22 := Tryz.isAgg27
 z22 := Tryz.sizeOf27
 v22 := Tryz.zeroValue27 }
theorem clone_ps (l : List Ps) (A : Option Addr) (c : Nat) (w : World) (hA : RowsAt 11 Ps.cells w A l) (hk : AOk A) (hl : l.length ≤ 100000) : Calls Tryz.prog 174 #[.slice A l.length c] w (CloneOut Ps.cells l w) :=
 clone_gen cren_ps clays_ps Ps.cells _ 11 _ infPs rfl (by decide) Tryz.sizeOf55 (fun _ => rfl) (fun x u hu => by
  simp only [Ps.cells, List.mem_cons, List.not_mem_nil, or_false] at hu
  rcases hu with rfl | rfl | rfl | rfl | rfl | rfl | rfl | rfl | rfl | rfl | rfl <;> rfl) (by decide) l A c w hA hk hl
def cren_fs : Go.Shelf.Ren := ⟨fun | 41 => 175 | n => n, fun | 22 => 28 | 23 => 79 | 4 => 4 | n => n, fun | n => n⟩
theorem clays_fs : Go.Proofs.SlLaysE0.n41 Tryz.prog cren_fs := {
 mixed := by kernel_rfl
 f41 := ⟨Tryz.f175.name, by decide, Tryz.func175.trans (congrArg some (by kernel_rfl))⟩
 t4 := Tryz.underlying4
 a4 := Tryz.isAgg4
 z4 := Tryz.sizeOf4
 v4 := Tryz.zeroValue4
 t22 := Tryz.underlying28
 a22 := Tryz.isAgg28
 z22 := Tryz.sizeOf28
 v22 := Tryz.zeroValue28 }
theorem clone_fs (l : List Fl) (A : Option Addr) (c : Nat) (w : World) (hA : RowsAt 15 Fl.cells w A l) (hk : AOk A) (hl : l.length ≤ 100000) : Calls Tryz.prog 175 #[.slice A l.length c] w (CloneOut Fl.cells l w) :=
 clone_gen cren_fs clays_fs Fl.cells _ 15 _ infFl rfl (by decide) Tryz.sizeOf79 (fun _ => rfl) (fun x u hu => by
  simp only [Fl.cells, List.mem_cons, List.not_mem_nil, or_false] at hu
  rcases hu with rfl | rfl | rfl | rfl | rfl | rfl | rfl | rfl | rfl | rfl | rfl | rfl | rfl | rfl | rfl <;> rfl) (by decide) l A c w hA hk hl
def cren_zs : Go.Shelf.Ren := ⟨fun | 41 => 176 | n => n, fun | 22 => 29 | 23 => 59 | 4 => 4 | n => n, fun | n => n⟩
theorem clays_zs : Go.Proofs.SlLaysE0.n41 Tryz.prog cren_zs := {
 mixed := by kernel_rfl
 f41 := ⟨Tryz.f176.name, by decide, Tryz.func176.trans (congrArg some (by kernel_rfl))⟩
 t4 := Tryz.underlying4
 a4 := Tryz.isAgg4
 z4 := Tryz.sizeOf4
 v4 := Tryz.zeroValue4
 t22 := Tryz.underlying29
 a22 := Tryz.isAgg29
 z22 := Tryz.sizeOf29
 v22 := Tryz.zeroValue29 }
theorem clone_zs (l : List Zn) (A : Option Addr) (c : Nat) (w : World) (hA : RowsAt 9 Zn.cells w A l) (hk : AOk A) (hl : l.length ≤ 100000) : Calls Tryz.prog 176 #[.slice A l.length c] w (CloneOut Zn.cells l w) :=
 clone_gen cren_zs clays_zs Zn.cells _ 9 _ infZn rfl (by decide) Tryz.sizeOf59 (fun _ => rfl) (fun x u hu => by
  simp only [Zn.cells, List.mem_cons, List.not_mem_nil, or_false] at hu
  rcases hu with rfl | rfl | rfl | rfl | rfl | rfl | rfl | rfl | rfl <;> rfl) (by decide) l A c w hA hk hl
def cren_ss : Go.Shelf.Ren := ⟨fun | 41 => 177 | n => n, fun | 22 => 30 | 23 => 81 | 4 => 4 | n => n, fun | n => n⟩
theorem clays_ss : Go.Proofs.SlLaysE0.n41 Tryz.prog cren_ss := {
 mixed := by kernel_rfl
 f41 := ⟨Tryz.f177.name, by decide, Tryz.func177.trans (congrArg some (by kernel_rfl))⟩
 t4 := Tryz.underlying4
 a4 := Tryz.isAgg4
 z4 := Tryz.sizeOf4
 v4 := Tryz.zeroValue4
 t22 := Tryz.underlying30
 a22 := Tryz.isAgg30
 z22 := Tryz.sizeOf30
 v22 := Tryz.zeroValue30 }
theorem clone_ss (l : List Sc) (A : Option Addr) (c : Nat) (w : World) (hA : RowsAt 10 Sc.cells w A l) (hk : AOk A) (hl : l.length ≤ 100000) : Calls Tryz.prog 177 #[.slice A l.length c] w (CloneOut Sc.cells l w) :=
 clone_gen cren_ss clays_ss Sc.cells _ 10 _ infSc rfl (by decide) Tryz.sizeOf81 (fun _ => rfl) (fun x u hu => by
  simp only [Sc.cells, List.mem_cons, List.not_mem_nil, or_false] at hu
  rcases hu with rfl | rfl | rfl | rfl | rfl | rfl | rfl | rfl | rfl | rfl <;> rfl) (by decide) l A c w hA hk hl
def cren_las : Go.Shelf.Ren := ⟨fun | 41 => 178 | n => n, fun | 22 => 31 | 23 => 57 | 4 => 4 | n => n, fun | n => n⟩
theorem clays_las : Go.Proofs.SlLaysE0.n41 Tryz.prog cren_las := {
 mixed := by kernel_rfl
 f41 := ⟨Tryz.f178.name, by decide, Tryz.func178.trans (congrArg some (by kernel_rfl))⟩
 t4 := Tryz.underlying4
 a4 := Tryz.isAgg4
 z4 := Tryz.sizeOf4
 v4 := Tryz.zeroValue4
 t22 := Tryz.underlying31
 a22 := Tryz.isAgg31
 z22 := Tryz.sizeOf31
 v22 := Tryz.zeroValue31 }
theorem clone_las (l : List La) (A : Option Addr) (c : Nat) (w : World) (hA : RowsAt 6 La.cells w A l) (hk : AOk A) (hl : l.length ≤ 100000) : Calls Tryz.prog 178 #[.slice A l.length c] w (CloneOut La.cells l w) :=
 clone_gen cren_las clays_las La.cells _ 6 _ infLa rfl (by decide) Tryz.sizeOf57 (fun _ => rfl) (fun x u hu => by
  simp only [La.cells, List.mem_cons, List.not_mem_nil, or_false] at hu
  rcases hu with rfl | rfl | rfl | rfl | rfl | rfl <;> rfl) (by decide) l A c w hA hk hl
def cren_rs : Go.Shelf.Ren := ⟨fun | 41 => 179 | n => n, fun | 22 => 32 | 23 => 83 | 4 => 4 | n => n, fun | n => n⟩
theorem clays_rs : Go.Proofs.SlLaysE0.n41 Tryz.prog cren_rs := {
 mixed := by kernel_rfl
 f41 := ⟨Tryz.f179.name, by decide, Tryz.func179.trans (congrArg some (by kernel_rfl))⟩
 t4 := Tryz.underlying4
 a4 := Tryz.isAgg4
 z4 := Tryz.sizeOf4
 v4 := Tryz.zeroValue4
 t22 := Tryz.underlying32
 a22 := Tryz.isAgg32
 z22 := Tryz.sizeOf32
 v22 := Tryz.zeroValue32 }
theorem clone_rs (l : List Ra) (A : Option Addr) (c : Nat) (w : World) (hA : RowsAt 8 Ra.cells w A l) (hk : AOk A) (hl : l.length ≤ 100000) : Calls Tryz.prog 179 #[.slice A l.length c] w (CloneOut Ra.cells l w) :=
 clone_gen cren_rs clays_rs Ra.cells _ 8 _ infRa rfl (by decide) Tryz.sizeOf83 (fun _ => rfl) (fun x u hu => by
  simp only [Ra.cells, List.mem_cons, List.not_mem_nil, or_false] at hu
  rcases hu with rfl | rfl | rfl | rfl | rfl | rfl | rfl | rfl <;> rfl) (by decide) l A c w hA hk hl
def cren_ds : Go.Shelf.Ren := ⟨fun | 41 => 180 | n => n, fun | 22 => 33 | 23 => 61 | 4 => 4 | n => n, fun | n => n⟩
theorem clays_ds : Go.Proofs.SlLaysE0.n41 Tryz.prog cren_ds := {
 mixed := by kernel_rfl
 f41 := ⟨Tryz.f180.name, by decide, Tryz.func180.trans (congrArg some (by kernel_rfl))⟩
 t4 := Tryz.underlying4
 a4 := Tryz.isAgg4
 z4 := Tryz.sizeOf4
 v4 := Tryz.zeroValue4
 t22 := Tryz.underlying33
 a22 := Tryz.isAgg33
 z22 := Tryz.sizeOf33
 v22 := Tryz.zeroValue33 }
theorem clone_ds (l : List Dr) (A : Option Addr) (c : Nat) (w : World) (hA : RowsAt 5 Dr.cells w A l) (hk : AOk A) (hl : l.length ≤ 100000) : Calls Tryz.prog 180 #[.slice A l.length c] w (CloneOut Dr.cells l w) :=
 clone_gen cren_ds clays_ds Dr.cells _ 5 _ infDr rfl (by decide) Tryz.sizeOf61 (fun _ => rfl) (fun x u hu => by
  simp only [Dr.cells, List.mem_cons, List.not_mem_nil, or_false] at hu
  rcases hu with rfl | rfl | rfl | rfl | rfl <;> rfl) (by decide) l A c w hA hk hl
def cren_lns : Go.Shelf.Ren := ⟨fun | 41 => 181 | n => n, fun | 22 => 34 | 23 => 85 | 4 => 4 | n => n, fun | n => n⟩
theorem clays_lns : Go.Proofs.SlLaysE0.n41 Tryz.prog cren_lns := {
 mixed := by kernel_rfl
 f41 := ⟨Tryz.f181.name, by decide, Tryz.func181.trans (congrArg some (by kernel_rfl))⟩
 t4 := Tryz.underlying4
 a4 := Tryz.isAgg4
 z4 := Tryz.sizeOf4
 v4 := Tryz.zeroValue4
 t22 := Tryz.underlying34
 a22 := Tryz.isAgg34
 z22 := Tryz.sizeOf34
 v22 := Tryz.zeroValue34 }
theorem clone_lns (l : List Ln) (A : Option Addr) (c : Nat) (w : World) (hA : RowsAt 7 Ln.cells w A l) (hk : AOk A) (hl : l.length ≤ 100000) : Calls Tryz.prog 181 #[.slice A l.length c] w (CloneOut Ln.cells l w) :=
 clone_gen cren_lns clays_lns Ln.cells _ 7 _ infLn rfl (by decide) Tryz.sizeOf85 (fun _ => rfl) (fun x u hu => by
  simp only [Ln.cells, List.mem_cons, List.not_mem_nil, or_false] at hu
  rcases hu with rfl | rfl | rfl | rfl | rfl | rfl | rfl <;> rfl) (by decide) l A c w hA hk hl
def cren_tr : Go.Shelf.Ren := ⟨fun | 41 => 125 | n => n, fun | 22 => 24 | 23 => 3 | 4 => 4 | n => n, fun | n => n⟩
theorem clays_tr : Go.Proofs.SlLaysE0.n41 Tryz.prog cren_tr := {
 mixed := by kernel_rfl
 f41 := ⟨Tryz.f125.name, by decide, Tryz.func125.trans (congrArg some (by kernel_rfl))⟩
 t4 := Tryz.underlying4
 a4 := Tryz.isAgg4
 z4 := Tryz.sizeOf4
 v4 := Tryz.zeroValue4
 t22 := Tryz.underlying24
 a22 := Tryz.isAgg24
 z22 := Tryz.sizeOf24
 v22 := Tryz.zeroValue24 }
theorem infInt : (Tryz.prog.info? 3).map (fun i => (i.zero, i.size, i.bytes)) = some (some (.int .i64 0), 1, 8) := by kernel_rfl
theorem clone_tr (l : List Int) (A : Option Addr) (c : Nat) (w : World) (hA : RowsAt 1 (fun x : Int => [Value.int .i64 x]) w A l) (hk : AOk A) (hl : l.length ≤ 100000) : Calls Tryz.prog 125 #[.slice A l.length c] w (CloneOut (fun x : Int => [Value.int .i64 x]) l w) :=
 clone_gen cren_tr clays_tr (fun x : Int => [Value.int .i64 x]) _ 1 _ infInt rfl (by decide) Tryz.sizeOf3 (fun _ => rfl) (fun x u hu => by
  simp only [List.mem_cons, List.not_mem_nil, or_false] at hu
  rcases hu with rfl; rfl) (by decide) l A c w hA hk hl
def mild (x : Int) : Prop := -2305843009213693952 ≤ x ∧ x ≤ 2305843009213693952
def ToSpec (w0 : World) (g : Nat) (lb : Array Value) (F G : Int → Int) : Prop :=
  ∀ (q o : Nat) (X Y : Int) (cs : List Value) (W : World), w0.heap.size ≤ q → Below w0.heap.size w0 W → BoxAt W q cs → cs[o]? = some (.int .i64 X) → cs[o + 1]? = some (.int .i64 Y) → mild X → mild Y →
    Calls Tryz.prog g (#[.pointer (some ⟨q, o, none⟩)] ++ lb) W fun e w' => e = .returned (.tuple #[]) ∧ But q W w' ∧ BoxAt w' q ((cs.set o (.int .i64 (F X))).set (o + 1) (.int .i64 (G Y)))
theorem But.drew {rb : Nat} {a b : World} (h : But rb a b) : But rb a b.drew := ⟨h.os, h.tape, h.output, h.size, fun k h1 h2 => h.block k h1 h2⟩
theorem set_id {α : Type} {l : List α} {j : Nat} {v : α} (h : l[j]? = some v) : l.set j v = l := by
 obtain ⟨hj, rfl⟩ := List.getElem?_eq_some_iff.1 h
 exact List.set_getElem_self hj
theorem get_mid {α : Type} (A B C : List α) (j : Nat) (u : α) (h : B[j]? = some u) : (A ++ (B ++ C))[A.length + j]? = some u := by
 rw [List.getElem?_append_right (by omega), Nat.add_sub_cancel_left, List.getElem?_append_left (List.getElem?_eq_some_iff.1 h).1]
 exact h
theorem box_mid {W : World} {q j : Nat} {A B C : List Value} {u v : Value} (h : BoxAt W q (((A ++ (B ++ C)).set (A.length + j) u).set (A.length + j + 1) v)) (hj : j + 1 < B.length) : BoxAt W q (A ++ (((B.set j u).set (j + 1) v) ++ C)) := by
 rw [set_mid A B C A.length j u rfl (by omega), Nat.add_assoc, set_mid A _ C A.length (j + 1) v rfl (by rw [List.length_set]; omega)] at h
 exact h
set_option maxRecDepth 100000 in
set_option maxHeartbeats 1000000 in
theorem flip_any (w0 : World) : ToSpec w0 74 #[] (fun x => -x) (fun y => y) := by
 intro q o X Y cs W hq hW hb hX hY hx hy
 have c0 := hb.c o _ hX
 have fz := hb.fz
 have hlt := hb.lt
 have HS : Hid (BoxAt (W.setCell ⟨q, o, none⟩ (.int .i64 (-X))) q ((cs.set o (.int .i64 (-X))).set (o + 1) (.int .i64 Y))) := hQ0 (by
  rw [set_id (l := cs.set o _) (by rw [List.getElem?_set_ne (by omega)]; exact hY)]
  exact hb.set _ hX)
 have hxl := hx.1
 have hxh := hx.2
 clear hW hb hX hY hx hy
 go_enter Tryz.func74, Tryz.ntmps74; (try simp only [List.append_eq, List.cons_append, List.nil_append])
 go_wp2_with fail
 go_end0
 exact ⟨rfl, (But.refl _ _).set _ (.inl rfl), HS.out⟩
def Wl.mild (x : Wl) : Prop := Go.Proofs.YtbpcjpiaimdpnaaGreatDoor.mild x.a1 ∧ Go.Proofs.YtbpcjpiaimdpnaaGreatDoor.mild x.a2 ∧ Go.Proofs.YtbpcjpiaimdpnaaGreatDoor.mild x.b1 ∧ Go.Proofs.YtbpcjpiaimdpnaaGreatDoor.mild x.b2
set_option maxRecDepth 100000 in
set_option maxHeartbeats 1000000 in
theorem plc_ws (w0 : World) (g : Nat) (lb : Array Value) (F G : Int → Int) (hT : ToSpec w0 g lb F G) (eg : ∀ args w, (callFunc g args).run Tryz.prog w = .ok (.enter g args) w) (tb q : Nat) (pre post : List Value) (x : Wl) (W : World) (hq : w0.heap.size ≤ q) (htq : tb ≠ q) (hW : Below w0.heap.size w0 W) (hto : BoxAt W tb [.func (.func g) #[] lb]) (hx : BoxAt W q (pre ++ (x.cells ++ post))) (hm : x.mild) :
  Calls Tryz.prog 127 #[.pointer (some ⟨q, pre.length, none⟩), .pointer (some ⟨tb, 0, none⟩)] W fun e w' => e = .returned (.tuple #[]) ∧ But q W w' ∧ BoxAt w' q (pre ++ ((x.mv F G).cells ++ post)) := by
 have ct := hto.c 0 _ rfl
 have HM := hQ0 hm
 have HW := hQ0 hW
 have HX := hQ0 hx
 have hlt := hto.lt
 have K1 := hQ0 (hT q (pre.length + 3) x.a1 x.a2 _ W.drew hq hW.drew hx.drew (get_mid _ _ _ 3 _ rfl) (get_mid _ _ _ 4 _ rfl) HM.out.1 HM.out.2.1)
 clear hto hW hx hm
 have HT := hQ0 hT
 clear hT
 go_enter Tryz.func127, Tryz.ntmps127; (try simp only [List.append_eq, List.cons_append, List.nil_append])
 go_wp2
 go_region_with (first | (have hq_ := hb_1; go_at_fn g; refine (K2.out).mono ?_; rintro e w2 ⟨rfl, hc_, hx_2⟩; have hb_2 := ((But.refl q _).drew).trans hc_; clear hc_) | (go_at_fn g; refine (K1.out).mono ?_; rintro e w1 ⟨rfl, hc_, hx_1⟩; have hb_1 := ((But.refl q _).drew).trans hc_; clear hc_; have ct_1 := ((hb_1).cell (p := ⟨tb, 0, none⟩) hlt htq).trans ct; have HX1 := hQ0 (box_mid (B := x.cells) hx_1 (by show 4 < 13; decide)); have K2 := hQ0 (HT.out q (pre.length + 5) x.b1 x.b2 _ w1.drew hq (HW.out.trans ((hb_1).toBelow hq HW.out.size)).drew HX1.out.drew (get_mid _ _ _ 5 _ rfl) (get_mid _ _ _ 6 _ rfl) HM.out.2.2.1 HM.out.2.2.2); clear hx_1))
 go_wp2
 go_region_with (first | (have hq_ := hb_1; go_at_fn g; refine (K2.out).mono ?_; rintro e w2 ⟨rfl, hc_, hx_2⟩; have hb_2 := ((But.refl q _).drew).trans hc_; clear hc_) | (go_at_fn g; refine (K1.out).mono ?_; rintro e w1 ⟨rfl, hc_, hx_1⟩; have hb_1 := ((But.refl q _).drew).trans hc_; clear hc_; have ct_1 := ((hb_1).cell (p := ⟨tb, 0, none⟩) hlt htq).trans ct; have HX1 := hQ0 (box_mid (B := x.cells) hx_1 (by show 4 < 13; decide)); have K2 := hQ0 (HT.out q (pre.length + 5) x.b1 x.b2 _ w1.drew hq (HW.out.trans ((hb_1).toBelow hq HW.out.size)).drew HX1.out.drew (get_mid _ _ _ 5 _ rfl) (get_mid _ _ _ 6 _ rfl) HM.out.2.2.1 HM.out.2.2.2); clear hx_1))
 go_end0
 exact ⟨rfl, (hb_1).trans hb_2, box_mid (B := _) hx_2 (by show 6 < 13; decide)⟩
def Ac.mild (x : Ac) : Prop := Go.Proofs.YtbpcjpiaimdpnaaGreatDoor.mild x.c1 ∧ Go.Proofs.YtbpcjpiaimdpnaaGreatDoor.mild x.c2 ∧ Go.Proofs.YtbpcjpiaimdpnaaGreatDoor.mild x.s1 ∧ Go.Proofs.YtbpcjpiaimdpnaaGreatDoor.mild x.s2 ∧ Go.Proofs.YtbpcjpiaimdpnaaGreatDoor.mild x.e1 ∧ Go.Proofs.YtbpcjpiaimdpnaaGreatDoor.mild x.e2
def Ps.mild (x : Ps) : Prop := Go.Proofs.YtbpcjpiaimdpnaaGreatDoor.mild x.c1 ∧ Go.Proofs.YtbpcjpiaimdpnaaGreatDoor.mild x.c2
def Fl.mild (x : Fl) : Prop := Go.Proofs.YtbpcjpiaimdpnaaGreatDoor.mild x.p1 ∧ Go.Proofs.YtbpcjpiaimdpnaaGreatDoor.mild x.p2
def Zn.mild (x : Zn) : Prop := Go.Proofs.YtbpcjpiaimdpnaaGreatDoor.mild x.l1 ∧ Go.Proofs.YtbpcjpiaimdpnaaGreatDoor.mild x.l2 ∧ Go.Proofs.YtbpcjpiaimdpnaaGreatDoor.mild x.h1 ∧ Go.Proofs.YtbpcjpiaimdpnaaGreatDoor.mild x.h2
def Sc.mild (x : Sc) : Prop := Go.Proofs.YtbpcjpiaimdpnaaGreatDoor.mild x.c1 ∧ Go.Proofs.YtbpcjpiaimdpnaaGreatDoor.mild x.c2
def La.mild (x : La) : Prop := Go.Proofs.YtbpcjpiaimdpnaaGreatDoor.mild x.c1 ∧ Go.Proofs.YtbpcjpiaimdpnaaGreatDoor.mild x.c2
def Ra.mild (x : Ra) : Prop := Go.Proofs.YtbpcjpiaimdpnaaGreatDoor.mild x.c1 ∧ Go.Proofs.YtbpcjpiaimdpnaaGreatDoor.mild x.c2
def Dr.mild (x : Dr) : Prop := Go.Proofs.YtbpcjpiaimdpnaaGreatDoor.mild x.c1 ∧ Go.Proofs.YtbpcjpiaimdpnaaGreatDoor.mild x.c2
def Ln.mild (x : Ln) : Prop := Go.Proofs.YtbpcjpiaimdpnaaGreatDoor.mild x.a1 ∧ Go.Proofs.YtbpcjpiaimdpnaaGreatDoor.mild x.a2
def MapOut {α : Type} (f : α → List Value) (l : List α) (w : World) (e : Ending) (w' : World) : Prop := ∃ A c, e = .returned (.slice A l.length c) ∧ l.length ≤ c ∧ AOk A ∧ RowOwn f w' w.heap.size A l ∧ Below w.heap.size w w'
def ChSpec {α : Type} (f : α → List Value) (w : World) (g : Nat) (lb : Array Value) (ok : α → Prop) (U : α → α) : Prop :=
  ∀ (q : Nat) (pre post : List Value) (x : α) (W : World), w.heap.size ≤ q → Below w.heap.size w W → BoxAt W q (pre ++ (f x ++ post)) → ok x → Calls Tryz.prog g (#[.pointer (some ⟨q, pre.length, none⟩)] ++ lb) W fun e w' => e = .returned (.tuple #[]) ∧ Below w.heap.size W w' ∧ BoxAt w' q (pre ++ (f (U x) ++ post))
theorem flat_mid {α : Type} (f : α → List Value) (U : α → α) {l : List α} {k : Nat} {x : α} (hx : l[k]? = some x) : ((l.take k).map U ++ l.drop k).flatMap f = ((l.take k).map U).flatMap f ++ (f x ++ (l.drop (k + 1)).flatMap f) := by
 obtain ⟨h, rfl⟩ := List.getElem?_eq_some_iff.1 hx
 rw [List.drop_eq_getElem_cons h, List.flatMap_append, List.flatMap_cons]
theorem flat_mid2 {α : Type} (f : α → List Value) (U : α → α) {l : List α} {k : Nat} {x : α} (hx : l[k]? = some x) : ((l.take (k + 1)).map U ++ l.drop (k + 1)).flatMap f = ((l.take k).map U).flatMap f ++ (f (U x) ++ (l.drop (k + 1)).flatMap f) := by
 rw [List.take_add_one, hx, Option.toList_some, List.map_append, List.flatMap_append, List.flatMap_append, List.append_assoc]
 simp
set_option maxRecDepth 100000 in
set_option maxHeartbeats 1000000 in
theorem mapped_ws (l : List Wl) (A : Option Addr) (c g : Nat) (lb : Array Value) (U : Wl → Wl) (ok : Wl → Prop) (w : World) (eg : ∀ args w, (callFunc g args).run Tryz.prog w = .ok (.enter g args) w) (hA : RowsAt 13 Wl.cells w A l) (hk : AOk A) (hl : l.length ≤ 10000) (hok : ∀ x ∈ l, ok x) (hs : ChSpec Wl.cells w g lb ok U) :
  Calls Tryz.prog 126 #[.slice A l.length c, .func (.func g) #[] lb] w (MapOut Wl.cells (l.map U) w) := by
 have HC := hQ0 (clone_ws l A c w hA hk (by omega))
 have HS := hQ0 hs
 have HK := hQ0 hok
 clear hA hk hs hok
 go_enter Tryz.func126, Tryz.ntmps126; (try simp only [List.append_eq, List.cons_append, List.nil_append])
 go_wp2_with (go_at_call 172; refine HC.out.mono ?_; rintro e w1 ⟨A1, c1, rfl, hc1, hk1, hO1, hb1⟩)
 have HO1 := hQ0 hO1
 have HB1 := hQ0 hb1
 have HK1 := hQ0 hk1
 clear hO1 hb1 hk1 HC
 go_loopg [11] (l.length + 1) (fun gk t wr => ∃ k : Nat, k ≤ l.length ∧ l.length - k < gk ∧ t = .int .i64 k ∧ Hid (Below w.heap.size w wr) ∧ Hid (RowOwn Wl.cells wr w.heap.size A1 ((l.take k).map U ++ l.drop k)))
 case atStart => exact ⟨0, by omega, by omega, rfl, HB1, hQ0 (by simpa using HO1.out)⟩
 case round =>
  obtain ⟨wq, rfl⟩ : ∃ z, z = wr := ⟨_, rfl⟩
  obtain ⟨k, hkl, hkk, rfl, HB, HO⟩ := hrel
  by_cases hlt : k < l.length
  · obtain ⟨x, hx⟩ : ∃ x, l[k]? = some x := ⟨l[k], by simp⟩
    obtain ⟨q, rfl, hq, hbx⟩ : ∃ q, A1 = some ⟨q, 0, none⟩ ∧ w.heap.size ≤ q ∧ BoxAt wq q (((l.take k).map U ++ l.drop k).flatMap Wl.cells) := by
     rcases HO.out with h | h
     · have := congrArg List.length h
       simp at this
       omega
     · exact h
    rw [flat_mid Wl.cells U hx] at hbx
    have hpl : (((l.take k).map U).flatMap Wl.cells).length = k * 13 := by rw [flat_len Wl.cells 13 (fun _ => rfl), List.length_map, List.length_take, Nat.min_eq_left hkl]
    have KC := HS.out q _ _ x wq hq HB.out hbx (HK.out x (List.mem_of_getElem? hx))
    rw [hpl] at KC
    have HN : Hid (((l.take (k + 1)).map U ++ l.drop (k + 1)).flatMap Wl.cells = ((l.take k).map U).flatMap Wl.cells ++ (Wl.cells (U x) ++ (l.drop (k + 1)).flatMap Wl.cells)) := hQ0 (flat_mid2 Wl.cells U hx)
    have i1 : (k : Int) < (l.length : Int) := by omega
    have hqlt := hbx.lt
    clear hbx hx hpl
    go_wp2_with (go_at_fn g; refine KC.mono ?_; rintro e w2 ⟨rfl, hb2, hx2⟩)
    go_roundg (l.length - (k + 1) + 1)
    case measure => omega
    case rel => exact ⟨k + 1, by omega, by omega, by go_num, hQ0 (HB.out.trans hb2), hQ0 (.inr ⟨q, rfl, hq, by rw [HN.out]; exact hx2⟩)⟩
  · obtain rfl : k = l.length := by omega
    go_wp2_with fail
    go_ret
    refine ⟨A1, c1, by rw [List.length_map]; rfl, by rw [List.length_map]; exact hc1, HK1.out, ?_, HB.out⟩
    have h := HO.out
    rw [List.take_length, List.drop_length, List.append_nil] at h
    exact h
set_option maxRecDepth 100000 in
set_option maxHeartbeats 1000000 in
theorem mapped_ars (l : List Ac) (A : Option Addr) (c g : Nat) (lb : Array Value) (U : Ac → Ac) (w : World) (hA : RowsAt 12 Ac.cells w A l) (hk : AOk A) (hl : l.length ≤ 0) :
  Calls Tryz.prog 128 #[.slice A l.length c, .func (.func g) #[] lb] w (MapOut Ac.cells (l.map U) w) := by
 obtain rfl : l = [] := List.eq_nil_of_length_eq_zero (Nat.le_zero.1 hl)
 have HC := hQ0 (clone_ars [] A c w hA hk (Nat.zero_le _))
 clear hA hk hl
 go_enter Tryz.func128, Tryz.ntmps128; (try simp only [List.append_eq, List.cons_append, List.nil_append])
 go_wp2_with (go_at_call 173; refine HC.out.mono ?_; rintro e w1 ⟨A1, c1, rfl, hc1, hk1, hO1, hb1⟩)
 have HO := hQ0 (And.intro hO1 hb1)
 clear hO1 hb1 HC
 go_loopg [11] 1 (fun gk t wr => t = .int .i64 0 ∧ Hid (wr = w1))
 case atStart => exact ⟨rfl, hQ0 rfl⟩
 case round =>
  obtain ⟨wq, rfl⟩ : ∃ z, z = wr := ⟨_, rfl⟩
  obtain ⟨rfl, HE⟩ := hrel
  obtain rfl := HE.out
  go_wp2_with fail
  go_ret
  exact ⟨A1, c1, rfl, hc1, hk1, HO.out.1, HO.out.2⟩
set_option maxRecDepth 100000 in
set_option maxHeartbeats 1000000 in
theorem mapped_ps (l : List Ps) (A : Option Addr) (c g : Nat) (lb : Array Value) (U : Ps → Ps) (w : World) (hA : RowsAt 11 Ps.cells w A l) (hk : AOk A) (hl : l.length ≤ 0) :
  Calls Tryz.prog 130 #[.slice A l.length c, .func (.func g) #[] lb] w (MapOut Ps.cells (l.map U) w) := by
 obtain rfl : l = [] := List.eq_nil_of_length_eq_zero (Nat.le_zero.1 hl)
 have HC := hQ0 (clone_ps [] A c w hA hk (Nat.zero_le _))
 clear hA hk hl
 go_enter Tryz.func130, Tryz.ntmps130; (try simp only [List.append_eq, List.cons_append, List.nil_append])
 go_wp2_with (go_at_call 174; refine HC.out.mono ?_; rintro e w1 ⟨A1, c1, rfl, hc1, hk1, hO1, hb1⟩)
 have HO := hQ0 (And.intro hO1 hb1)
 clear hO1 hb1 HC
 go_loopg [11] 1 (fun gk t wr => t = .int .i64 0 ∧ Hid (wr = w1))
 case atStart => exact ⟨rfl, hQ0 rfl⟩
 case round =>
  obtain ⟨wq, rfl⟩ : ∃ z, z = wr := ⟨_, rfl⟩
  obtain ⟨rfl, HE⟩ := hrel
  obtain rfl := HE.out
  go_wp2_with fail
  go_ret
  exact ⟨A1, c1, rfl, hc1, hk1, HO.out.1, HO.out.2⟩
set_option maxRecDepth 100000 in
set_option maxHeartbeats 1000000 in
theorem mapped_fs (l : List Fl) (A : Option Addr) (c g : Nat) (lb : Array Value) (U : Fl → Fl) (w : World) (hA : RowsAt 15 Fl.cells w A l) (hk : AOk A) (hl : l.length ≤ 0) :
  Calls Tryz.prog 132 #[.slice A l.length c, .func (.func g) #[] lb] w (MapOut Fl.cells (l.map U) w) := by
 obtain rfl : l = [] := List.eq_nil_of_length_eq_zero (Nat.le_zero.1 hl)
 have HC := hQ0 (clone_fs [] A c w hA hk (Nat.zero_le _))
 clear hA hk hl
 go_enter Tryz.func132, Tryz.ntmps132; (try simp only [List.append_eq, List.cons_append, List.nil_append])
 go_wp2_with (go_at_call 175; refine HC.out.mono ?_; rintro e w1 ⟨A1, c1, rfl, hc1, hk1, hO1, hb1⟩)
 have HO := hQ0 (And.intro hO1 hb1)
 clear hO1 hb1 HC
 go_loopg [11] 1 (fun gk t wr => t = .int .i64 0 ∧ Hid (wr = w1))
 case atStart => exact ⟨rfl, hQ0 rfl⟩
 case round =>
  obtain ⟨wq, rfl⟩ : ∃ z, z = wr := ⟨_, rfl⟩
  obtain ⟨rfl, HE⟩ := hrel
  obtain rfl := HE.out
  go_wp2_with fail
  go_ret
  exact ⟨A1, c1, rfl, hc1, hk1, HO.out.1, HO.out.2⟩
set_option maxRecDepth 100000 in
set_option maxHeartbeats 1000000 in
theorem mapped_zs (l : List Zn) (A : Option Addr) (c g : Nat) (lb : Array Value) (U : Zn → Zn) (w : World) (hA : RowsAt 9 Zn.cells w A l) (hk : AOk A) (hl : l.length ≤ 0) :
  Calls Tryz.prog 134 #[.slice A l.length c, .func (.func g) #[] lb] w (MapOut Zn.cells (l.map U) w) := by
 obtain rfl : l = [] := List.eq_nil_of_length_eq_zero (Nat.le_zero.1 hl)
 have HC := hQ0 (clone_zs [] A c w hA hk (Nat.zero_le _))
 clear hA hk hl
 go_enter Tryz.func134, Tryz.ntmps134; (try simp only [List.append_eq, List.cons_append, List.nil_append])
 go_wp2_with (go_at_call 176; refine HC.out.mono ?_; rintro e w1 ⟨A1, c1, rfl, hc1, hk1, hO1, hb1⟩)
 have HO := hQ0 (And.intro hO1 hb1)
 clear hO1 hb1 HC
 go_loopg [11] 1 (fun gk t wr => t = .int .i64 0 ∧ Hid (wr = w1))
 case atStart => exact ⟨rfl, hQ0 rfl⟩
 case round =>
  obtain ⟨wq, rfl⟩ : ∃ z, z = wr := ⟨_, rfl⟩
  obtain ⟨rfl, HE⟩ := hrel
  obtain rfl := HE.out
  go_wp2_with fail
  go_ret
  exact ⟨A1, c1, rfl, hc1, hk1, HO.out.1, HO.out.2⟩
set_option maxRecDepth 100000 in
set_option maxHeartbeats 1000000 in
theorem mapped_ss (l : List Sc) (A : Option Addr) (c g : Nat) (lb : Array Value) (U : Sc → Sc) (w : World) (hA : RowsAt 10 Sc.cells w A l) (hk : AOk A) (hl : l.length ≤ 0) :
  Calls Tryz.prog 136 #[.slice A l.length c, .func (.func g) #[] lb] w (MapOut Sc.cells (l.map U) w) := by
 obtain rfl : l = [] := List.eq_nil_of_length_eq_zero (Nat.le_zero.1 hl)
 have HC := hQ0 (clone_ss [] A c w hA hk (Nat.zero_le _))
 clear hA hk hl
 go_enter Tryz.func136, Tryz.ntmps136; (try simp only [List.append_eq, List.cons_append, List.nil_append])
 go_wp2_with (go_at_call 177; refine HC.out.mono ?_; rintro e w1 ⟨A1, c1, rfl, hc1, hk1, hO1, hb1⟩)
 have HO := hQ0 (And.intro hO1 hb1)
 clear hO1 hb1 HC
 go_loopg [11] 1 (fun gk t wr => t = .int .i64 0 ∧ Hid (wr = w1))
 case atStart => exact ⟨rfl, hQ0 rfl⟩
 case round =>
  obtain ⟨wq, rfl⟩ : ∃ z, z = wr := ⟨_, rfl⟩
  obtain ⟨rfl, HE⟩ := hrel
  obtain rfl := HE.out
  go_wp2_with fail
  go_ret
  exact ⟨A1, c1, rfl, hc1, hk1, HO.out.1, HO.out.2⟩
set_option maxRecDepth 100000 in
set_option maxHeartbeats 1000000 in
theorem mapped_las (l : List La) (A : Option Addr) (c g : Nat) (lb : Array Value) (U : La → La) (w : World) (hA : RowsAt 6 La.cells w A l) (hk : AOk A) (hl : l.length ≤ 0) :
  Calls Tryz.prog 138 #[.slice A l.length c, .func (.func g) #[] lb] w (MapOut La.cells (l.map U) w) := by
 obtain rfl : l = [] := List.eq_nil_of_length_eq_zero (Nat.le_zero.1 hl)
 have HC := hQ0 (clone_las [] A c w hA hk (Nat.zero_le _))
 clear hA hk hl
 go_enter Tryz.func138, Tryz.ntmps138; (try simp only [List.append_eq, List.cons_append, List.nil_append])
 go_wp2_with (go_at_call 178; refine HC.out.mono ?_; rintro e w1 ⟨A1, c1, rfl, hc1, hk1, hO1, hb1⟩)
 have HO := hQ0 (And.intro hO1 hb1)
 clear hO1 hb1 HC
 go_loopg [11] 1 (fun gk t wr => t = .int .i64 0 ∧ Hid (wr = w1))
 case atStart => exact ⟨rfl, hQ0 rfl⟩
 case round =>
  obtain ⟨wq, rfl⟩ : ∃ z, z = wr := ⟨_, rfl⟩
  obtain ⟨rfl, HE⟩ := hrel
  obtain rfl := HE.out
  go_wp2_with fail
  go_ret
  exact ⟨A1, c1, rfl, hc1, hk1, HO.out.1, HO.out.2⟩
set_option maxRecDepth 100000 in
set_option maxHeartbeats 1000000 in
theorem mapped_rs (l : List Ra) (A : Option Addr) (c g : Nat) (lb : Array Value) (U : Ra → Ra) (w : World) (hA : RowsAt 8 Ra.cells w A l) (hk : AOk A) (hl : l.length ≤ 0) :
  Calls Tryz.prog 140 #[.slice A l.length c, .func (.func g) #[] lb] w (MapOut Ra.cells (l.map U) w) := by
 obtain rfl : l = [] := List.eq_nil_of_length_eq_zero (Nat.le_zero.1 hl)
 have HC := hQ0 (clone_rs [] A c w hA hk (Nat.zero_le _))
 clear hA hk hl
 go_enter Tryz.func140, Tryz.ntmps140; (try simp only [List.append_eq, List.cons_append, List.nil_append])
 go_wp2_with (go_at_call 179; refine HC.out.mono ?_; rintro e w1 ⟨A1, c1, rfl, hc1, hk1, hO1, hb1⟩)
 have HO := hQ0 (And.intro hO1 hb1)
 clear hO1 hb1 HC
 go_loopg [11] 1 (fun gk t wr => t = .int .i64 0 ∧ Hid (wr = w1))
 case atStart => exact ⟨rfl, hQ0 rfl⟩
 case round =>
  obtain ⟨wq, rfl⟩ : ∃ z, z = wr := ⟨_, rfl⟩
  obtain ⟨rfl, HE⟩ := hrel
  obtain rfl := HE.out
  go_wp2_with fail
  go_ret
  exact ⟨A1, c1, rfl, hc1, hk1, HO.out.1, HO.out.2⟩
set_option maxRecDepth 100000 in
set_option maxHeartbeats 1000000 in
theorem mapped_ds (l : List Dr) (A : Option Addr) (c g : Nat) (lb : Array Value) (U : Dr → Dr) (w : World) (hA : RowsAt 5 Dr.cells w A l) (hk : AOk A) (hl : l.length ≤ 0) :
  Calls Tryz.prog 142 #[.slice A l.length c, .func (.func g) #[] lb] w (MapOut Dr.cells (l.map U) w) := by
 obtain rfl : l = [] := List.eq_nil_of_length_eq_zero (Nat.le_zero.1 hl)
 have HC := hQ0 (clone_ds [] A c w hA hk (Nat.zero_le _))
 clear hA hk hl
 go_enter Tryz.func142, Tryz.ntmps142; (try simp only [List.append_eq, List.cons_append, List.nil_append])
 go_wp2_with (go_at_call 180; refine HC.out.mono ?_; rintro e w1 ⟨A1, c1, rfl, hc1, hk1, hO1, hb1⟩)
 have HO := hQ0 (And.intro hO1 hb1)
 clear hO1 hb1 HC
 go_loopg [11] 1 (fun gk t wr => t = .int .i64 0 ∧ Hid (wr = w1))
 case atStart => exact ⟨rfl, hQ0 rfl⟩
 case round =>
  obtain ⟨wq, rfl⟩ : ∃ z, z = wr := ⟨_, rfl⟩
  obtain ⟨rfl, HE⟩ := hrel
  obtain rfl := HE.out
  go_wp2_with fail
  go_ret
  exact ⟨A1, c1, rfl, hc1, hk1, HO.out.1, HO.out.2⟩
set_option maxRecDepth 100000 in
set_option maxHeartbeats 1000000 in
theorem mapped_lns (l : List Ln) (A : Option Addr) (c g : Nat) (lb : Array Value) (U : Ln → Ln) (w : World) (hA : RowsAt 7 Ln.cells w A l) (hk : AOk A) (hl : l.length ≤ 0) :
  Calls Tryz.prog 144 #[.slice A l.length c, .func (.func g) #[] lb] w (MapOut Ln.cells (l.map U) w) := by
 obtain rfl : l = [] := List.eq_nil_of_length_eq_zero (Nat.le_zero.1 hl)
 have HC := hQ0 (clone_lns [] A c w hA hk (Nat.zero_le _))
 clear hA hk hl
 go_enter Tryz.func144, Tryz.ntmps144; (try simp only [List.append_eq, List.cons_append, List.nil_append])
 go_wp2_with (go_at_call 181; refine HC.out.mono ?_; rintro e w1 ⟨A1, c1, rfl, hc1, hk1, hO1, hb1⟩)
 have HO := hQ0 (And.intro hO1 hb1)
 clear hO1 hb1 HC
 go_loopg [11] 1 (fun gk t wr => t = .int .i64 0 ∧ Hid (wr = w1))
 case atStart => exact ⟨rfl, hQ0 rfl⟩
 case round =>
  obtain ⟨wq, rfl⟩ : ∃ z, z = wr := ⟨_, rfl⟩
  obtain ⟨rfl, HE⟩ := hrel
  obtain rfl := HE.out
  go_wp2_with fail
  go_ret
  exact ⟨A1, c1, rfl, hc1, hk1, HO.out.1, HO.out.2⟩
end Go.Proofs.YtbpcjpiaimdpnaaGreatDoor
