/- Merged texts: LcRw SrcK LnA LnB LnC LcQw FrB LtPw LtZw LmP MpAw MpBw MpCw MpDw FrM (what no proof of the claim needs is left out). -/
import Derived.Test.YtbpcjpiaimdpnaaGreatDoorLk4
import Derived.Deep.Cut
import Derived.Laws.Concat
import Derived.Lib.SliceRun
import Derived.Shelf.SlicesE.Clone
import Derived.BigRegion
import Derived.ChangeAlike
import Derived.Deep.RegionWith
set_option linter.unusedSimpArgs false
set_option linter.unusedVariables false
namespace Go.Proofs.YtbpcjpiaimdpnaaGreatDoor
open Go Go.RowKit
set_option linter.unusedVariables false
attribute [local go_sem ↓] evalL getL64 setL64
attribute [local go_sem ↓] getL8 setL8
attribute [local go_sem ↓] getL1 getL0
def sameR (t u : Tb) : Bool := eqI t.rad u.rad && eqI t.bal u.bal && eqI t.rst u.rst && (eqI t.gx u.gx && eqI t.gy u.gy) && eqI t.drg u.drg && eqI t.shf u.shf && eqL eqI t.tr u.tr && eqL Wl.eqB t.ws u.ws && eqL Ac.eqB t.ars u.ars && eqL Ps.eqB t.ps u.ps && eqL Fl.eqB t.fs u.fs && eqL Zn.eqB t.zs u.zs && eqL Sc.eqB t.ss u.ss && eqL La.eqB t.las u.las && eqL Ra.eqB t.rs u.rs && eqL Dr.eqB t.ds u.ds && eqL Ln.eqB t.lns u.lns
theorem eqL_iff {α : Type} {f : α → α → Bool} (hf : ∀ x y, f x y = true ↔ x = y) : ∀ {l m : List α}, eqL f l m = true ↔ l = m
 | [], [] => by simp [eqL]
 | [], y :: m => by simp [eqL]
 | x :: l, [] => by simp [eqL]
 | x :: l, y :: m => by simp [eqL, hf, eqL_iff hf (l := l) (m := m)]
theorem sameR_iff {t u : Tb} : sameR t u = true ↔ t = u := by
 unfold sameR
 simp only [Bool.and_eq_true, eqI_iff, eqL_iff (fun _ _ => eqI_iff), eqL_iff (fun _ _ => Wl.eqB_iff), eqL_iff (fun _ _ => Ac.eqB_iff), eqL_iff (fun _ _ => Ps.eqB_iff), eqL_iff (fun _ _ => Fl.eqB_iff), eqL_iff (fun _ _ => Zn.eqB_iff), eqL_iff (fun _ _ => Sc.eqB_iff), eqL_iff (fun _ _ => La.eqB_iff), eqL_iff (fun _ _ => Ra.eqB_iff), eqL_iff (fun _ _ => Dr.eqB_iff), eqL_iff (fun _ _ => Ln.eqB_iff)]
 constructor
 · rintro ⟨⟨⟨⟨⟨⟨⟨⟨⟨⟨⟨⟨⟨⟨⟨⟨h0, h1⟩, h2⟩, h3⟩, h4⟩, h5⟩, h6⟩, h7⟩, h8⟩, h9⟩, h10⟩, h11⟩, h12⟩, h13⟩, h14⟩, h15⟩, h16⟩
   cases t; cases u
   simp_all
 · rintro rfl
   simp
set_option maxRecDepth 100000 in
set_option maxHeartbeats 8000000 in
theorem same_any (t u : Tb) (a b : TbA) (n : Nat) (w : World) (hA : TbAt w t a) (hB : TbAt w u b) (h1 : t.le n) (h2 : u.le n) (hn : n ≤ 10000) :
  Calls Tryz.prog 16 #[t.v a, u.v b] w fun e w' => e = .returned (.bool (sameR t u)) ∧ Below w.heap.size w w' := by
 have HA := hQ0 hA
 have HB := hQ0 hB
 have H1 := hQ0 h1
 have H2 := hQ0 h2
 obtain ⟨R, hR⟩ : ∃ R, R = sameR t u := ⟨_, rfl⟩
 have HRr := hQ0 hR
 rw [← hR]
 clear hA hB h1 h2 hR
 unfold Tb.v
 go_enter Tryz.func16, Tryz.ntmps16; (try simp only [List.append_eq, List.cons_append, List.nil_append])
 go_upto_region 1 with (fail)
 (refine pin_eqT (fun w1 hE_w1 => ?_))
 have HT1 : Hid (BoxAt w1 w.heap.size (t.cells a)) := hQ0 (by rw [hE_w1]; exact (BoxAt.new w (t.cells a) 36).alloc _)
 have HU1 : Hid (BoxAt w1 (w.heap.size + 1) (u.cells b)) := hQ0 (by
  rw [hE_w1]
  have := BoxAt.new (w.alloc (.cells (t.cells a).toArray 36)) (u.cells b) 36
  rwa [show (w.alloc (.cells (t.cells a).toArray 36)).heap.size = w.heap.size + 1 by simp] at this)
 have HB1 : Hid (Below w.heap.size w w1) := hQ0 (by rw [hE_w1]; ((with_reducible (repeat (first | exact bR _ _ | apply bS | apply bA | apply bD | refine bT ?_ (by assumption) ?_ | refine bO (by assumption) ?_ ?_))) <;> (first | omega | (simp <;> omega))))
 have hz1 := HB1.out.size
 clear hE_w1
 obtain ⟨b0, hb0⟩ : ∃ b, b = (eqI t.rad u.rad) := ⟨_, rfl⟩
 have HHb0 := hQ0 hb0
 clear hb0
 obtain ⟨b1, hb1⟩ : ∃ b, b = (eqI t.bal u.bal) := ⟨_, rfl⟩
 have HHb1 := hQ0 hb1
 clear hb1
 obtain ⟨b2, hb2⟩ : ∃ b, b = (eqI t.rst u.rst) := ⟨_, rfl⟩
 have HHb2 := hQ0 hb2
 clear hb2
 obtain ⟨b3, hb3⟩ : ∃ b, b = ((eqI t.gx u.gx && eqI t.gy u.gy)) := ⟨_, rfl⟩
 have HHb3 := hQ0 hb3
 clear hb3
 obtain ⟨b4, hb4⟩ : ∃ b, b = (eqI t.drg u.drg) := ⟨_, rfl⟩
 have HHb4 := hQ0 hb4
 clear hb4
 obtain ⟨b5, hb5⟩ : ∃ b, b = (eqI t.shf u.shf) := ⟨_, rfl⟩
 have HHb5 := hQ0 hb5
 clear hb5
 obtain ⟨p0, hp0⟩ : ∃ b, b = (eqL eqI t.tr u.tr) := ⟨_, rfl⟩
 have HHp0 := hQ0 hp0
 clear hp0
 obtain ⟨p1, hp1⟩ : ∃ b, b = (eqL Wl.eqB t.ws u.ws) := ⟨_, rfl⟩
 have HHp1 := hQ0 hp1
 clear hp1
 obtain ⟨p2, hp2⟩ : ∃ b, b = (eqL Ac.eqB t.ars u.ars) := ⟨_, rfl⟩
 have HHp2 := hQ0 hp2
 clear hp2
 obtain ⟨p3, hp3⟩ : ∃ b, b = (eqL Ps.eqB t.ps u.ps) := ⟨_, rfl⟩
 have HHp3 := hQ0 hp3
 clear hp3
 obtain ⟨p4, hp4⟩ : ∃ b, b = (eqL Fl.eqB t.fs u.fs) := ⟨_, rfl⟩
 have HHp4 := hQ0 hp4
 clear hp4
 obtain ⟨p5, hp5⟩ : ∃ b, b = (eqL Zn.eqB t.zs u.zs) := ⟨_, rfl⟩
 have HHp5 := hQ0 hp5
 clear hp5
 obtain ⟨p6, hp6⟩ : ∃ b, b = (eqL Sc.eqB t.ss u.ss) := ⟨_, rfl⟩
 have HHp6 := hQ0 hp6
 clear hp6
 obtain ⟨p7, hp7⟩ : ∃ b, b = (eqL La.eqB t.las u.las) := ⟨_, rfl⟩
 have HHp7 := hQ0 hp7
 clear hp7
 obtain ⟨p8, hp8⟩ : ∃ b, b = (eqL Ra.eqB t.rs u.rs) := ⟨_, rfl⟩
 have HHp8 := hQ0 hp8
 clear hp8
 obtain ⟨p9, hp9⟩ : ∃ b, b = (eqL Dr.eqB t.ds u.ds) := ⟨_, rfl⟩
 have HHp9 := hQ0 hp9
 clear hp9
 obtain ⟨p10, hp10⟩ : ∃ b, b = (eqL Ln.eqB t.lns u.lns) := ⟨_, rfl⟩
 have HHp10 := hQ0 hp10
 clear hp10
 refine wp_region_lit ?_
 have hS_ : Below w1.heap.size w1 w1 := Below.refl _ _
 apply wpL_maybe true (by exact rfl)
 (case h => intro _; have hcW_ := (bcellW hS_).1; go_simp; first | done | exact rfl)
 intro K hK; (try simp only [opt_true]); go_simp; refine hK _ _ ?_; clear hK K
 apply wpL_maybe true (by exact rfl)
 (case h => intro _; have hY_ := (HT1.out).below hS_ (HT1.out.lt); have y0_ := hY_.c 0 (.int .i64 t.rad) (rfl); go_simp; first | done | exact rfl)
 intro K hK; (try simp only [opt_true]); go_simp; refine hK _ _ ?_; clear hK K
 apply wpL_maybe true (by exact rfl)
 (case h => intro _; have hcW_ := (bcellW hS_).1; go_simp; first | done | exact rfl)
 intro K hK; (try simp only [opt_true]); go_simp; refine hK _ _ ?_; clear hK K
 apply wpL_maybe true (by exact rfl)
 (case h => intro _; have hY_ := (HU1.out).below hS_ (HU1.out.lt); have y0_ := hY_.c 0 (.int .i64 u.rad) (rfl); go_simp; first | done | exact rfl)
 intro K hK; (try simp only [opt_true]); go_simp; refine hK _ _ ?_; clear hK K
 apply wpL_maybe true (by exact rfl) (.bool b0)
 (case h => intro _; have hcW_ := (bcellW hS_).1; go_simp; rw [HHb0.out]; first | done | (unfold eqI; by_cases q1_ : t.rad = u.rad <;> simp [q1_]))
 intro K hK; (try simp only [opt_true]); go_simp; refine hK _ _ ?_; clear hK K
 apply wpL_maybe true (by exact rfl)
 (case h => intro _; have hcW_ := (bcellW hS_).1; go_simp; first | done | exact rfl)
 intro K hK; (try simp only [opt_true]); go_simp; refine hK _ _ ?_; clear hK K
 apply wpL_maybe b0 (by clear hS_; cases b0 <;> rfl)
 (case h => intro hc_; obtain rfl : b0 = true := hc_; (try simp only [opt_true]); have hcW_ := (bcellW hS_).1; go_simp; first | done | exact rfl)
 intro K hK; (try simp only [opt_true]); go_simp; refine hK _ _ ?_; clear hK K
 apply wpL_maybe b0 (by clear hS_; cases b0 <;> rfl)
 (case h => intro hc_; obtain rfl : b0 = true := hc_; (try simp only [opt_true]); have hY_ := (HT1.out).below hS_ (HT1.out.lt); have y0_ := hY_.c 1 (.int .i64 t.bal) (rfl); go_simp; first | done | exact rfl)
 intro K hK; (try simp only [opt_true]); go_simp; refine hK _ _ ?_; clear hK K
 apply wpL_maybe b0 (by clear hS_; cases b0 <;> rfl)
 (case h => intro hc_; obtain rfl : b0 = true := hc_; (try simp only [opt_true]); have hcW_ := (bcellW hS_).1; go_simp; first | done | exact rfl)
 intro K hK; (try simp only [opt_true]); go_simp; refine hK _ _ ?_; clear hK K
 apply wpL_maybe b0 (by clear hS_; cases b0 <;> rfl)
 (case h => intro hc_; obtain rfl : b0 = true := hc_; (try simp only [opt_true]); have hY_ := (HU1.out).below hS_ (HU1.out.lt); have y0_ := hY_.c 1 (.int .i64 u.bal) (rfl); go_simp; first | done | exact rfl)
 intro K hK; (try simp only [opt_true]); go_simp; refine hK _ _ ?_; clear hK K
 apply wpL_maybe b0 (by clear hS_; cases b0 <;> rfl) (.bool b1)
 (case h => intro hc_; obtain rfl : b0 = true := hc_; (try simp only [opt_true]); have hcW_ := (bcellW hS_).1; go_simp; rw [HHb1.out]; first | done | (unfold eqI; by_cases q1_ : t.bal = u.bal <;> simp [q1_]))
 intro K hK; (try simp only [opt_true]); go_simp; refine hK _ _ ?_; clear hK K
 obtain ⟨d1_1, hd1_1⟩ : ∃ b_, b_ = (b0 && b1) := ⟨_, rfl⟩
 apply wpL_maybe true (by exact rfl) (.bool d1_1) (by intro _; rw [hd1_1]; cases b0 <;> (go_simp; try exact rfl))
 have Hd1_1 := hQ0 hd1_1; clear hd1_1
 intro K hK; (try simp only [opt_true]); go_simp; refine hK _ _ ?_; clear hK K
 apply wpL_maybe true (by exact rfl)
 (case h => intro _; have hcW_ := (bcellW hS_).1; go_simp; first | done | exact rfl)
 intro K hK; (try simp only [opt_true]); go_simp; refine hK _ _ ?_; clear hK K
 apply wpL_maybe d1_1 (by clear hS_; cases d1_1 <;> rfl)
 (case h => intro hc_; obtain rfl : d1_1 = true := hc_; (try simp only [opt_true]); have hcW_ := (bcellW hS_).1; go_simp; first | done | exact rfl)
 intro K hK; (try simp only [opt_true]); go_simp; refine hK _ _ ?_; clear hK K
 apply wpL_maybe d1_1 (by clear hS_; cases d1_1 <;> rfl)
 (case h => intro hc_; obtain rfl : d1_1 = true := hc_; (try simp only [opt_true]); have hY_ := (HT1.out).below hS_ (HT1.out.lt); have y0_ := hY_.c 2 (.int .i64 t.rst) (rfl); go_simp; first | done | exact rfl)
 intro K hK; (try simp only [opt_true]); go_simp; refine hK _ _ ?_; clear hK K
 apply wpL_maybe d1_1 (by clear hS_; cases d1_1 <;> rfl)
 (case h => intro hc_; obtain rfl : d1_1 = true := hc_; (try simp only [opt_true]); have hcW_ := (bcellW hS_).1; go_simp; first | done | exact rfl)
 intro K hK; (try simp only [opt_true]); go_simp; refine hK _ _ ?_; clear hK K
 apply wpL_maybe d1_1 (by clear hS_; cases d1_1 <;> rfl)
 (case h => intro hc_; obtain rfl : d1_1 = true := hc_; (try simp only [opt_true]); have hY_ := (HU1.out).below hS_ (HU1.out.lt); have y0_ := hY_.c 2 (.int .i64 u.rst) (rfl); go_simp; first | done | exact rfl)
 intro K hK; (try simp only [opt_true]); go_simp; refine hK _ _ ?_; clear hK K
 apply wpL_maybe d1_1 (by clear hS_; cases d1_1 <;> rfl) (.bool b2)
 (case h => intro hc_; obtain rfl : d1_1 = true := hc_; (try simp only [opt_true]); have hcW_ := (bcellW hS_).1; go_simp; rw [HHb2.out]; first | done | (unfold eqI; by_cases q1_ : t.rst = u.rst <;> simp [q1_]))
 intro K hK; (try simp only [opt_true]); go_simp; refine hK _ _ ?_; clear hK K
 obtain ⟨d1_2, hd1_2⟩ : ∃ b_, b_ = (d1_1 && b2) := ⟨_, rfl⟩
 apply wpL_maybe true (by exact rfl) (.bool d1_2) (by intro _; rw [hd1_2]; cases d1_1 <;> (go_simp; try exact rfl))
 have Hd1_2 := hQ0 hd1_2; clear hd1_2
 intro K hK; (try simp only [opt_true]); go_simp; refine hK _ _ ?_; clear hK K
 apply wpL_maybe true (by exact rfl)
 (case h => intro _; have hcW_ := (bcellW hS_).1; go_simp; first | done | exact rfl)
 intro K hK; (try simp only [opt_true]); go_simp; refine hK _ _ ?_; clear hK K
 apply wpL_maybe d1_2 (by clear hS_; cases d1_2 <;> rfl)
 (case h => intro hc_; obtain rfl : d1_2 = true := hc_; (try simp only [opt_true]); have hcW_ := (bcellW hS_).1; go_simp; first | done | exact rfl)
 intro K hK; (try simp only [opt_true]); go_simp; refine hK _ _ ?_; clear hK K
 apply wpL_maybe d1_2 (by clear hS_; cases d1_2 <;> rfl)
 (case h => intro hc_; obtain rfl : d1_2 = true := hc_; (try simp only [opt_true]); have hY_ := (HT1.out).below hS_ (HT1.out.lt); have y0_ := hY_.c 3 (.int .i64 t.gx) (rfl); have y1_ := hY_.c 4 (.int .i64 t.gy) (rfl); go_simp; first | done | exact rfl)
 intro K hK; (try simp only [opt_true]); go_simp; refine hK _ _ ?_; clear hK K
 apply wpL_maybe d1_2 (by clear hS_; cases d1_2 <;> rfl)
 (case h => intro hc_; obtain rfl : d1_2 = true := hc_; (try simp only [opt_true]); have hcW_ := (bcellW hS_).1; go_simp; first | done | exact rfl)
 intro K hK; (try simp only [opt_true]); go_simp; refine hK _ _ ?_; clear hK K
 apply wpL_maybe d1_2 (by clear hS_; cases d1_2 <;> rfl)
 (case h => intro hc_; obtain rfl : d1_2 = true := hc_; (try simp only [opt_true]); have hY_ := (HU1.out).below hS_ (HU1.out.lt); have y0_ := hY_.c 3 (.int .i64 u.gx) (rfl); have y1_ := hY_.c 4 (.int .i64 u.gy) (rfl); go_simp; first | done | exact rfl)
 intro K hK; (try simp only [opt_true]); go_simp; refine hK _ _ ?_; clear hK K
 apply wpL_maybe d1_2 (by clear hS_; cases d1_2 <;> rfl) (.bool b3)
 (case h => intro hc_; obtain rfl : d1_2 = true := hc_; (try simp only [opt_true]); have hcW_ := (bcellW hS_).1; go_simp; rw [HHb3.out]; first | done | (unfold eqI; by_cases q1_ : t.gx = u.gx <;> by_cases q2_ : t.gy = u.gy <;> simp [q1_, q2_]))
 intro K hK; (try simp only [opt_true]); go_simp; refine hK _ _ ?_; clear hK K
 obtain ⟨d1_3, hd1_3⟩ : ∃ b_, b_ = (d1_2 && b3) := ⟨_, rfl⟩
 apply wpL_maybe true (by exact rfl) (.bool d1_3) (by intro _; rw [hd1_3]; cases d1_2 <;> (go_simp; try exact rfl))
 have Hd1_3 := hQ0 hd1_3; clear hd1_3
 intro K hK; (try simp only [opt_true]); go_simp; refine hK _ _ ?_; clear hK K
 apply wpL_maybe true (by exact rfl)
 (case h => intro _; have hcW_ := (bcellW hS_).1; go_simp; first | done | exact rfl)
 intro K hK; (try simp only [opt_true]); go_simp; refine hK _ _ ?_; clear hK K
 apply wpL_maybe d1_3 (by clear hS_; cases d1_3 <;> rfl)
 (case h => intro hc_; obtain rfl : d1_3 = true := hc_; (try simp only [opt_true]); have hcW_ := (bcellW hS_).1; go_simp; first | done | exact rfl)
 intro K hK; (try simp only [opt_true]); go_simp; refine hK _ _ ?_; clear hK K
 apply wpL_maybe d1_3 (by clear hS_; cases d1_3 <;> rfl)
 (case h => intro hc_; obtain rfl : d1_3 = true := hc_; (try simp only [opt_true]); have hY_ := (HT1.out).below hS_ (HT1.out.lt); have y0_ := hY_.c 5 (.int .i64 t.drg) (rfl); go_simp; first | done | exact rfl)
 intro K hK; (try simp only [opt_true]); go_simp; refine hK _ _ ?_; clear hK K
 apply wpL_maybe d1_3 (by clear hS_; cases d1_3 <;> rfl)
 (case h => intro hc_; obtain rfl : d1_3 = true := hc_; (try simp only [opt_true]); have hcW_ := (bcellW hS_).1; go_simp; first | done | exact rfl)
 intro K hK; (try simp only [opt_true]); go_simp; refine hK _ _ ?_; clear hK K
 apply wpL_maybe d1_3 (by clear hS_; cases d1_3 <;> rfl)
 (case h => intro hc_; obtain rfl : d1_3 = true := hc_; (try simp only [opt_true]); have hY_ := (HU1.out).below hS_ (HU1.out.lt); have y0_ := hY_.c 5 (.int .i64 u.drg) (rfl); go_simp; first | done | exact rfl)
 intro K hK; (try simp only [opt_true]); go_simp; refine hK _ _ ?_; clear hK K
 apply wpL_maybe d1_3 (by clear hS_; cases d1_3 <;> rfl) (.bool b4)
 (case h => intro hc_; obtain rfl : d1_3 = true := hc_; (try simp only [opt_true]); have hcW_ := (bcellW hS_).1; go_simp; rw [HHb4.out]; first | done | (unfold eqI; by_cases q1_ : t.drg = u.drg <;> simp [q1_]))
 intro K hK; (try simp only [opt_true]); go_simp; refine hK _ _ ?_; clear hK K
 obtain ⟨d1_4, hd1_4⟩ : ∃ b_, b_ = (d1_3 && b4) := ⟨_, rfl⟩
 apply wpL_maybe true (by exact rfl) (.bool d1_4) (by intro _; rw [hd1_4]; cases d1_3 <;> (go_simp; try exact rfl))
 have Hd1_4 := hQ0 hd1_4; clear hd1_4
 intro K hK; (try simp only [opt_true]); go_simp; refine hK _ _ ?_; clear hK K
 apply wpL_maybe true (by exact rfl)
 (case h => intro _; have hcW_ := (bcellW hS_).1; go_simp; first | done | exact rfl)
 intro K hK; (try simp only [opt_true]); go_simp; refine hK _ _ ?_; clear hK K
 apply wpL_maybe d1_4 (by clear hS_; cases d1_4 <;> rfl)
 (case h => intro hc_; obtain rfl : d1_4 = true := hc_; (try simp only [opt_true]); have hcW_ := (bcellW hS_).1; go_simp; first | done | exact rfl)
 intro K hK; (try simp only [opt_true]); go_simp; refine hK _ _ ?_; clear hK K
 apply wpL_maybe d1_4 (by clear hS_; cases d1_4 <;> rfl)
 (case h => intro hc_; obtain rfl : d1_4 = true := hc_; (try simp only [opt_true]); have hY_ := (HT1.out).below hS_ (HT1.out.lt); have y0_ := hY_.c 6 (.int .i64 t.shf) (rfl); go_simp; first | done | exact rfl)
 intro K hK; (try simp only [opt_true]); go_simp; refine hK _ _ ?_; clear hK K
 apply wpL_maybe d1_4 (by clear hS_; cases d1_4 <;> rfl)
 (case h => intro hc_; obtain rfl : d1_4 = true := hc_; (try simp only [opt_true]); have hcW_ := (bcellW hS_).1; go_simp; first | done | exact rfl)
 intro K hK; (try simp only [opt_true]); go_simp; refine hK _ _ ?_; clear hK K
 apply wpL_maybe d1_4 (by clear hS_; cases d1_4 <;> rfl)
 (case h => intro hc_; obtain rfl : d1_4 = true := hc_; (try simp only [opt_true]); have hY_ := (HU1.out).below hS_ (HU1.out.lt); have y0_ := hY_.c 6 (.int .i64 u.shf) (rfl); go_simp; first | done | exact rfl)
 intro K hK; (try simp only [opt_true]); go_simp; refine hK _ _ ?_; clear hK K
 apply wpL_maybe d1_4 (by clear hS_; cases d1_4 <;> rfl) (.bool b5)
 (case h => intro hc_; obtain rfl : d1_4 = true := hc_; (try simp only [opt_true]); have hcW_ := (bcellW hS_).1; go_simp; rw [HHb5.out]; first | done | (unfold eqI; by_cases q1_ : t.shf = u.shf <;> simp [q1_]))
 intro K hK; (try simp only [opt_true]); go_simp; refine hK _ _ ?_; clear hK K
 obtain ⟨d1_5, hd1_5⟩ : ∃ b_, b_ = (d1_4 && b5) := ⟨_, rfl⟩
 apply wpL_maybe true (by exact rfl) (.bool d1_5) (by intro _; rw [hd1_5]; cases d1_4 <;> (go_simp; try exact rfl))
 have Hd1_5 := hQ0 hd1_5; clear hd1_5
 intro K hK; (try simp only [opt_true]); go_simp; refine hK _ _ ?_; clear hK K
 apply wpL_maybe true (by exact rfl)
 (case h => intro _; have hcW_ := (bcellW hS_).1; go_simp; first | done | exact rfl)
 intro K hK; (try simp only [opt_true]); go_simp; refine hK _ _ ?_; clear hK K
 apply wpL_maybe d1_5 (by clear hS_; cases d1_5 <;> rfl)
 (case h => intro hc_; obtain rfl : d1_5 = true := hc_; (try simp only [opt_true]); have hcW_ := (bcellW hS_).1; go_simp; first | done | exact rfl)
 intro K hK; (try simp only [opt_true]); go_simp; refine hK _ _ ?_; clear hK K
 apply wpL_maybe d1_5 (by clear hS_; cases d1_5 <;> rfl)
 (case h => intro hc_; obtain rfl : d1_5 = true := hc_; (try simp only [opt_true]); have hY_ := (HT1.out).below hS_ (HT1.out.lt); have y0_ := hY_.c 7 (.slice a.tr t.tr.length a.trc) (rfl); go_simp; first | done | exact rfl)
 intro K hK; (try simp only [opt_true]); go_simp; refine hK _ _ ?_; clear hK K
 apply wpL_maybe d1_5 (by clear hS_; cases d1_5 <;> rfl)
 (case h => intro hc_; obtain rfl : d1_5 = true := hc_; (try simp only [opt_true]); have hcW_ := (bcellW hS_).1; go_simp; first | done | exact rfl)
 intro K hK; (try simp only [opt_true]); go_simp; refine hK _ _ ?_; clear hK K
 apply wpL_maybe d1_5 (by clear hS_; cases d1_5 <;> rfl)
 (case h => intro hc_; obtain rfl : d1_5 = true := hc_; (try simp only [opt_true]); have hY_ := (HU1.out).below hS_ (HU1.out.lt); have y0_ := hY_.c 7 (.slice b.tr u.tr.length b.trc) (rfl); go_simp; first | done | exact rfl)
 intro K hK; (try simp only [opt_true]); go_simp; refine hK _ _ ?_; clear hK K
 refine wpL_callm (S := Below w1.heap.size w1)  d1_5 (by clear hS_; cases d1_5 <;> rfl) (.bool p0) ?_ hS_ ?_
 · intro hc_; obtain rfl : d1_5 = true := hc_; intro N_ hN_; generalize hA_ : Act.mk _ _ = A_ at hN_ ⊢; (have v47_ := (congrArg (fun z_ : Act => z_.eval (.tmp 47)) hA_.symm).trans (evalL _ _ 47); simp only [getL64, getL8, getL1, getL0, opt_true, Bool.not_false] at v47_); (have v49_ := (congrArg (fun z_ : Act => z_.eval (.tmp 49)) hA_.symm).trans (evalL _ _ 49); simp only [getL64, getL8, getL1, getL0, opt_true, Bool.not_false] at v49_); clear hA_; have vc_ : ∀ v_, Act.eval A_ (.const v_) = v_ := (fun _ => rfl); have vf_ : ∀ f_, Act.eval A_ (.func f_) = .func (.func f_) #[] #[] := (fun _ => rfl); generalize Act.eval A_ = ev_ at vc_ vf_ v47_ v49_ ⊢; go_simp; go_at_call 45; refine (eq_is t.tr u.tr a.tr b.tr a.trc b.trc _ (HA.out.tr.below (HB1.out.trans (hS_.mono hz1)) (Nat.le_refl _)) (HB.out.tr.below (HB1.out.trans (hS_.mono hz1)) (Nat.le_refl _)) (by have := H1.out.tr; omega) (by have := H2.out.tr; omega)).mono ?_; rintro e w9 ⟨rfl, hb9⟩; rw [← HHp0.out]; exact hN_ _ (hS_.trans (hb9.mono hS_.size))
 intro K hK w_ hS2_; go_simp; refine hK _ _ ?_; clear hK K hS_; have hS_ := hS2_; clear hS2_
 obtain ⟨d1_6, hd1_6⟩ : ∃ b_, b_ = (d1_5 && p0) := ⟨_, rfl⟩
 apply wpL_maybe true (by exact rfl) (.bool d1_6) (by intro _; rw [hd1_6]; cases d1_5 <;> (go_simp; try exact rfl))
 have Hd1_6 := hQ0 hd1_6; clear hd1_6
 intro K hK; (try simp only [opt_true]); go_simp; refine hK _ _ ?_; clear hK K
 apply wpL_maybe true (by exact rfl)
 (case h => intro _; have hcW_ := (bcellW hS_).1; go_simp; first | done | exact rfl)
 intro K hK; (try simp only [opt_true]); go_simp; refine hK _ _ ?_; clear hK K
 apply wpL_maybe d1_6 (by clear hS_; cases d1_6 <;> rfl)
 (case h => intro hc_; obtain rfl : d1_6 = true := hc_; (try simp only [opt_true]); have hcW_ := (bcellW hS_).1; go_simp; first | done | exact rfl)
 intro K hK; (try simp only [opt_true]); go_simp; refine hK _ _ ?_; clear hK K
 apply wpL_maybe d1_6 (by clear hS_; cases d1_6 <;> rfl)
 (case h => intro hc_; obtain rfl : d1_6 = true := hc_; (try simp only [opt_true]); have hY_ := (HT1.out).below hS_ (HT1.out.lt); have y0_ := hY_.c 8 (.slice a.ws t.ws.length a.wsc) (rfl); go_simp; first | done | exact rfl)
 intro K hK; (try simp only [opt_true]); go_simp; refine hK _ _ ?_; clear hK K
 apply wpL_maybe d1_6 (by clear hS_; cases d1_6 <;> rfl)
 (case h => intro hc_; obtain rfl : d1_6 = true := hc_; (try simp only [opt_true]); have hcW_ := (bcellW hS_).1; go_simp; first | done | exact rfl)
 intro K hK; (try simp only [opt_true]); go_simp; refine hK _ _ ?_; clear hK K
 apply wpL_maybe d1_6 (by clear hS_; cases d1_6 <;> rfl)
 (case h => intro hc_; obtain rfl : d1_6 = true := hc_; (try simp only [opt_true]); have hY_ := (HU1.out).below hS_ (HU1.out.lt); have y0_ := hY_.c 8 (.slice b.ws u.ws.length b.wsc) (rfl); go_simp; first | done | exact rfl)
 intro K hK; (try simp only [opt_true]); go_simp; refine hK _ _ ?_; clear hK K
 refine wpL_callm (S := Below w1.heap.size w1)  d1_6 (by clear hS_; cases d1_6 <;> rfl) (.bool p1) ?_ hS_ ?_
 · intro hc_; obtain rfl : d1_6 = true := hc_; intro N_ hN_; generalize hA_ : Act.mk _ _ = A_ at hN_ ⊢; (have v54_ := (congrArg (fun z_ : Act => z_.eval (.tmp 54)) hA_.symm).trans (evalL _ _ 54); simp only [getL64, getL8, getL1, getL0, opt_true, Bool.not_false] at v54_); (have v56_ := (congrArg (fun z_ : Act => z_.eval (.tmp 56)) hA_.symm).trans (evalL _ _ 56); simp only [getL64, getL8, getL1, getL0, opt_true, Bool.not_false] at v56_); clear hA_; have vc_ : ∀ v_, Act.eval A_ (.const v_) = v_ := (fun _ => rfl); have vf_ : ∀ f_, Act.eval A_ (.func f_) = .func (.func f_) #[] #[] := (fun _ => rfl); generalize Act.eval A_ = ev_ at vc_ vf_ v54_ v56_ ⊢; go_simp; go_at_call 46; refine (eq_ws t.ws u.ws a.ws b.ws a.wsc b.wsc _ (HA.out.ws.below (HB1.out.trans (hS_.mono hz1)) (Nat.le_refl _)) (HB.out.ws.below (HB1.out.trans (hS_.mono hz1)) (Nat.le_refl _)) (by have := H1.out.ws; omega) (by have := H2.out.ws; omega)).mono ?_; rintro e w9 ⟨rfl, hb9⟩; rw [← HHp1.out]; exact hN_ _ (hS_.trans (hb9.mono hS_.size))
 intro K hK w_ hS2_; go_simp; refine hK _ _ ?_; clear hK K hS_; have hS_ := hS2_; clear hS2_
 obtain ⟨d1_7, hd1_7⟩ : ∃ b_, b_ = (d1_6 && p1) := ⟨_, rfl⟩
 apply wpL_maybe true (by exact rfl) (.bool d1_7) (by intro _; rw [hd1_7]; cases d1_6 <;> (go_simp; try exact rfl))
 have Hd1_7 := hQ0 hd1_7; clear hd1_7
 intro K hK; (try simp only [opt_true]); go_simp; refine hK _ _ ?_; clear hK K
 apply wpL_maybe true (by exact rfl)
 (case h => intro _; have hcW_ := (bcellW hS_).1; go_simp; first | done | exact rfl)
 intro K hK; (try simp only [opt_true]); go_simp; refine hK _ _ ?_; clear hK K
 apply wpL_maybe d1_7 (by clear hS_; cases d1_7 <;> rfl)
 (case h => intro hc_; obtain rfl : d1_7 = true := hc_; (try simp only [opt_true]); have hcW_ := (bcellW hS_).1; go_simp; first | done | exact rfl)
 intro K hK; (try simp only [opt_true]); go_simp; refine hK _ _ ?_; clear hK K
 apply wpL_maybe d1_7 (by clear hS_; cases d1_7 <;> rfl)
 (case h => intro hc_; obtain rfl : d1_7 = true := hc_; (try simp only [opt_true]); have hY_ := (HT1.out).below hS_ (HT1.out.lt); have y0_ := hY_.c 9 (.slice a.ars t.ars.length a.arsc) (rfl); go_simp; first | done | exact rfl)
 intro K hK; (try simp only [opt_true]); go_simp; refine hK _ _ ?_; clear hK K
 apply wpL_maybe d1_7 (by clear hS_; cases d1_7 <;> rfl)
 (case h => intro hc_; obtain rfl : d1_7 = true := hc_; (try simp only [opt_true]); have hcW_ := (bcellW hS_).1; go_simp; first | done | exact rfl)
 intro K hK; (try simp only [opt_true]); go_simp; refine hK _ _ ?_; clear hK K
 apply wpL_maybe d1_7 (by clear hS_; cases d1_7 <;> rfl)
 (case h => intro hc_; obtain rfl : d1_7 = true := hc_; (try simp only [opt_true]); have hY_ := (HU1.out).below hS_ (HU1.out.lt); have y0_ := hY_.c 9 (.slice b.ars u.ars.length b.arsc) (rfl); go_simp; first | done | exact rfl)
 intro K hK; (try simp only [opt_true]); go_simp; refine hK _ _ ?_; clear hK K
 refine wpL_callm (S := Below w1.heap.size w1)  d1_7 (by clear hS_; cases d1_7 <;> rfl) (.bool p2) ?_ hS_ ?_
 · intro hc_; obtain rfl : d1_7 = true := hc_; intro N_ hN_; generalize hA_ : Act.mk _ _ = A_ at hN_ ⊢; (have v61_ := (congrArg (fun z_ : Act => z_.eval (.tmp 61)) hA_.symm).trans (evalL _ _ 61); simp only [getL64, getL8, getL1, getL0, opt_true, Bool.not_false] at v61_); (have v63_ := (congrArg (fun z_ : Act => z_.eval (.tmp 63)) hA_.symm).trans (evalL _ _ 63); simp only [getL64, getL8, getL1, getL0, opt_true, Bool.not_false] at v63_); clear hA_; have vc_ : ∀ v_, Act.eval A_ (.const v_) = v_ := (fun _ => rfl); have vf_ : ∀ f_, Act.eval A_ (.func f_) = .func (.func f_) #[] #[] := (fun _ => rfl); generalize Act.eval A_ = ev_ at vc_ vf_ v61_ v63_ ⊢; go_simp; go_at_call 47; refine (eq_ars t.ars u.ars a.ars b.ars a.arsc b.arsc _ (HA.out.ars.below (HB1.out.trans (hS_.mono hz1)) (Nat.le_refl _)) (HB.out.ars.below (HB1.out.trans (hS_.mono hz1)) (Nat.le_refl _)) (by have := H1.out.ars; omega) (by have := H2.out.ars; omega)).mono ?_; rintro e w9 ⟨rfl, hb9⟩; rw [← HHp2.out]; exact hN_ _ (hS_.trans (hb9.mono hS_.size))
 intro K hK w_ hS2_; go_simp; refine hK _ _ ?_; clear hK K hS_; have hS_ := hS2_; clear hS2_
 obtain ⟨d1_8, hd1_8⟩ : ∃ b_, b_ = (d1_7 && p2) := ⟨_, rfl⟩
 apply wpL_maybe true (by exact rfl) (.bool d1_8) (by intro _; rw [hd1_8]; cases d1_7 <;> (go_simp; try exact rfl))
 have Hd1_8 := hQ0 hd1_8; clear hd1_8
 intro K hK; (try simp only [opt_true]); go_simp; refine hK _ _ ?_; clear hK K
 apply wpL_maybe true (by exact rfl)
 (case h => intro _; have hcW_ := (bcellW hS_).1; go_simp; first | done | exact rfl)
 intro K hK; (try simp only [opt_true]); go_simp; refine hK _ _ ?_; clear hK K
 apply wpL_maybe d1_8 (by clear hS_; cases d1_8 <;> rfl)
 (case h => intro hc_; obtain rfl : d1_8 = true := hc_; (try simp only [opt_true]); have hcW_ := (bcellW hS_).1; go_simp; first | done | exact rfl)
 intro K hK; (try simp only [opt_true]); go_simp; refine hK _ _ ?_; clear hK K
 apply wpL_maybe d1_8 (by clear hS_; cases d1_8 <;> rfl)
 (case h => intro hc_; obtain rfl : d1_8 = true := hc_; (try simp only [opt_true]); have hY_ := (HT1.out).below hS_ (HT1.out.lt); have y0_ := hY_.c 10 (.slice a.ps t.ps.length a.psc) (rfl); go_simp; first | done | exact rfl)
 intro K hK; (try simp only [opt_true]); go_simp; refine hK _ _ ?_; clear hK K
 apply wpL_maybe d1_8 (by clear hS_; cases d1_8 <;> rfl)
 (case h => intro hc_; obtain rfl : d1_8 = true := hc_; (try simp only [opt_true]); have hcW_ := (bcellW hS_).1; go_simp; first | done | exact rfl)
 intro K hK; (try simp only [opt_true]); go_simp; refine hK _ _ ?_; clear hK K
 apply wpL_maybe d1_8 (by clear hS_; cases d1_8 <;> rfl)
 (case h => intro hc_; obtain rfl : d1_8 = true := hc_; (try simp only [opt_true]); have hY_ := (HU1.out).below hS_ (HU1.out.lt); have y0_ := hY_.c 10 (.slice b.ps u.ps.length b.psc) (rfl); go_simp; first | done | exact rfl)
 intro K hK; (try simp only [opt_true]); go_simp; refine hK _ _ ?_; clear hK K
 refine wpL_callm (S := Below w1.heap.size w1)  d1_8 (by clear hS_; cases d1_8 <;> rfl) (.bool p3) ?_ hS_ ?_
 · intro hc_; obtain rfl : d1_8 = true := hc_; intro N_ hN_; generalize hA_ : Act.mk _ _ = A_ at hN_ ⊢; (have v68_ := (congrArg (fun z_ : Act => z_.eval (.tmp 68)) hA_.symm).trans (evalL _ _ 68); simp only [getL64, getL8, getL1, getL0, opt_true, Bool.not_false] at v68_); (have v70_ := (congrArg (fun z_ : Act => z_.eval (.tmp 70)) hA_.symm).trans (evalL _ _ 70); simp only [getL64, getL8, getL1, getL0, opt_true, Bool.not_false] at v70_); clear hA_; have vc_ : ∀ v_, Act.eval A_ (.const v_) = v_ := (fun _ => rfl); have vf_ : ∀ f_, Act.eval A_ (.func f_) = .func (.func f_) #[] #[] := (fun _ => rfl); generalize Act.eval A_ = ev_ at vc_ vf_ v68_ v70_ ⊢; go_simp; go_at_call 48; refine (eq_ps t.ps u.ps a.ps b.ps a.psc b.psc _ (HA.out.ps.below (HB1.out.trans (hS_.mono hz1)) (Nat.le_refl _)) (HB.out.ps.below (HB1.out.trans (hS_.mono hz1)) (Nat.le_refl _)) (by have := H1.out.ps; omega) (by have := H2.out.ps; omega)).mono ?_; rintro e w9 ⟨rfl, hb9⟩; rw [← HHp3.out]; exact hN_ _ (hS_.trans (hb9.mono hS_.size))
 intro K hK w_ hS2_; go_simp; refine hK _ _ ?_; clear hK K hS_; have hS_ := hS2_; clear hS2_
 obtain ⟨d1_9, hd1_9⟩ : ∃ b_, b_ = (d1_8 && p3) := ⟨_, rfl⟩
 apply wpL_maybe true (by exact rfl) (.bool d1_9) (by intro _; rw [hd1_9]; cases d1_8 <;> (go_simp; try exact rfl))
 have Hd1_9 := hQ0 hd1_9; clear hd1_9
 intro K hK; (try simp only [opt_true]); go_simp; refine hK _ _ ?_; clear hK K
 apply wpL_maybe true (by exact rfl)
 (case h => intro _; have hcW_ := (bcellW hS_).1; go_simp; first | done | exact rfl)
 intro K hK; (try simp only [opt_true]); go_simp; refine hK _ _ ?_; clear hK K
 apply wpL_maybe d1_9 (by clear hS_; cases d1_9 <;> rfl)
 (case h => intro hc_; obtain rfl : d1_9 = true := hc_; (try simp only [opt_true]); have hcW_ := (bcellW hS_).1; go_simp; first | done | exact rfl)
 intro K hK; (try simp only [opt_true]); go_simp; refine hK _ _ ?_; clear hK K
 apply wpL_maybe d1_9 (by clear hS_; cases d1_9 <;> rfl)
 (case h => intro hc_; obtain rfl : d1_9 = true := hc_; (try simp only [opt_true]); have hY_ := (HT1.out).below hS_ (HT1.out.lt); have y0_ := hY_.c 11 (.slice a.fs t.fs.length a.fsc) (rfl); go_simp; first | done | exact rfl)
 intro K hK; (try simp only [opt_true]); go_simp; refine hK _ _ ?_; clear hK K
 apply wpL_maybe d1_9 (by clear hS_; cases d1_9 <;> rfl)
 (case h => intro hc_; obtain rfl : d1_9 = true := hc_; (try simp only [opt_true]); have hcW_ := (bcellW hS_).1; go_simp; first | done | exact rfl)
 intro K hK; (try simp only [opt_true]); go_simp; refine hK _ _ ?_; clear hK K
 apply wpL_maybe d1_9 (by clear hS_; cases d1_9 <;> rfl)
 (case h => intro hc_; obtain rfl : d1_9 = true := hc_; (try simp only [opt_true]); have hY_ := (HU1.out).below hS_ (HU1.out.lt); have y0_ := hY_.c 11 (.slice b.fs u.fs.length b.fsc) (rfl); go_simp; first | done | exact rfl)
 intro K hK; (try simp only [opt_true]); go_simp; refine hK _ _ ?_; clear hK K
 refine wpL_callm (S := Below w1.heap.size w1)  d1_9 (by clear hS_; cases d1_9 <;> rfl) (.bool p4) ?_ hS_ ?_
 · intro hc_; obtain rfl : d1_9 = true := hc_; intro N_ hN_; generalize hA_ : Act.mk _ _ = A_ at hN_ ⊢; (have v75_ := (congrArg (fun z_ : Act => z_.eval (.tmp 75)) hA_.symm).trans (evalL _ _ 75); simp only [getL64, getL8, getL1, getL0, opt_true, Bool.not_false] at v75_); (have v77_ := (congrArg (fun z_ : Act => z_.eval (.tmp 77)) hA_.symm).trans (evalL _ _ 77); simp only [getL64, getL8, getL1, getL0, opt_true, Bool.not_false] at v77_); clear hA_; have vc_ : ∀ v_, Act.eval A_ (.const v_) = v_ := (fun _ => rfl); have vf_ : ∀ f_, Act.eval A_ (.func f_) = .func (.func f_) #[] #[] := (fun _ => rfl); generalize Act.eval A_ = ev_ at vc_ vf_ v75_ v77_ ⊢; go_simp; go_at_call 49; refine (eq_fs t.fs u.fs a.fs b.fs a.fsc b.fsc _ (HA.out.fs.below (HB1.out.trans (hS_.mono hz1)) (Nat.le_refl _)) (HB.out.fs.below (HB1.out.trans (hS_.mono hz1)) (Nat.le_refl _)) (by have := H1.out.fs; omega) (by have := H2.out.fs; omega)).mono ?_; rintro e w9 ⟨rfl, hb9⟩; rw [← HHp4.out]; exact hN_ _ (hS_.trans (hb9.mono hS_.size))
 intro K hK w_ hS2_; go_simp; refine hK _ _ ?_; clear hK K hS_; have hS_ := hS2_; clear hS2_
 obtain ⟨d1_10, hd1_10⟩ : ∃ b_, b_ = (d1_9 && p4) := ⟨_, rfl⟩
 apply wpL_maybe true (by exact rfl) (.bool d1_10) (by intro _; rw [hd1_10]; cases d1_9 <;> (go_simp; try exact rfl))
 have Hd1_10 := hQ0 hd1_10; clear hd1_10
 intro K hK; (try simp only [opt_true]); go_simp; refine hK _ _ ?_; clear hK K
 apply wpL_maybe true (by exact rfl)
 (case h => intro _; have hcW_ := (bcellW hS_).1; go_simp; first | done | exact rfl)
 intro K hK; (try simp only [opt_true]); go_simp; refine hK _ _ ?_; clear hK K
 apply wpL_maybe d1_10 (by clear hS_; cases d1_10 <;> rfl)
 (case h => intro hc_; obtain rfl : d1_10 = true := hc_; (try simp only [opt_true]); have hcW_ := (bcellW hS_).1; go_simp; first | done | exact rfl)
 intro K hK; (try simp only [opt_true]); go_simp; refine hK _ _ ?_; clear hK K
 apply wpL_maybe d1_10 (by clear hS_; cases d1_10 <;> rfl)
 (case h => intro hc_; obtain rfl : d1_10 = true := hc_; (try simp only [opt_true]); have hY_ := (HT1.out).below hS_ (HT1.out.lt); have y0_ := hY_.c 12 (.slice a.zs t.zs.length a.zsc) (rfl); go_simp; first | done | exact rfl)
 intro K hK; (try simp only [opt_true]); go_simp; refine hK _ _ ?_; clear hK K
 apply wpL_maybe d1_10 (by clear hS_; cases d1_10 <;> rfl)
 (case h => intro hc_; obtain rfl : d1_10 = true := hc_; (try simp only [opt_true]); have hcW_ := (bcellW hS_).1; go_simp; first | done | exact rfl)
 intro K hK; (try simp only [opt_true]); go_simp; refine hK _ _ ?_; clear hK K
 apply wpL_maybe d1_10 (by clear hS_; cases d1_10 <;> rfl)
 (case h => intro hc_; obtain rfl : d1_10 = true := hc_; (try simp only [opt_true]); have hY_ := (HU1.out).below hS_ (HU1.out.lt); have y0_ := hY_.c 12 (.slice b.zs u.zs.length b.zsc) (rfl); go_simp; first | done | exact rfl)
 intro K hK; (try simp only [opt_true]); go_simp; refine hK _ _ ?_; clear hK K
 refine wpL_callm (S := Below w1.heap.size w1)  d1_10 (by clear hS_; cases d1_10 <;> rfl) (.bool p5) ?_ hS_ ?_
 · intro hc_; obtain rfl : d1_10 = true := hc_; intro N_ hN_; generalize hA_ : Act.mk _ _ = A_ at hN_ ⊢; (have v82_ := (congrArg (fun z_ : Act => z_.eval (.tmp 82)) hA_.symm).trans (evalL _ _ 82); simp only [getL64, getL8, getL1, getL0, opt_true, Bool.not_false] at v82_); (have v84_ := (congrArg (fun z_ : Act => z_.eval (.tmp 84)) hA_.symm).trans (evalL _ _ 84); simp only [getL64, getL8, getL1, getL0, opt_true, Bool.not_false] at v84_); clear hA_; have vc_ : ∀ v_, Act.eval A_ (.const v_) = v_ := (fun _ => rfl); have vf_ : ∀ f_, Act.eval A_ (.func f_) = .func (.func f_) #[] #[] := (fun _ => rfl); generalize Act.eval A_ = ev_ at vc_ vf_ v82_ v84_ ⊢; go_simp; go_at_call 50; refine (eq_zs t.zs u.zs a.zs b.zs a.zsc b.zsc _ (HA.out.zs.below (HB1.out.trans (hS_.mono hz1)) (Nat.le_refl _)) (HB.out.zs.below (HB1.out.trans (hS_.mono hz1)) (Nat.le_refl _)) (by have := H1.out.zs; omega) (by have := H2.out.zs; omega)).mono ?_; rintro e w9 ⟨rfl, hb9⟩; rw [← HHp5.out]; exact hN_ _ (hS_.trans (hb9.mono hS_.size))
 intro K hK w_ hS2_; go_simp; refine hK _ _ ?_; clear hK K hS_; have hS_ := hS2_; clear hS2_
 obtain ⟨d1_11, hd1_11⟩ : ∃ b_, b_ = (d1_10 && p5) := ⟨_, rfl⟩
 apply wpL_maybe true (by exact rfl) (.bool d1_11) (by intro _; rw [hd1_11]; cases d1_10 <;> (go_simp; try exact rfl))
 have Hd1_11 := hQ0 hd1_11; clear hd1_11
 intro K hK; (try simp only [opt_true]); go_simp; refine hK _ _ ?_; clear hK K
 apply wpL_maybe true (by exact rfl)
 (case h => intro _; have hcW_ := (bcellW hS_).1; go_simp; first | done | exact rfl)
 intro K hK; (try simp only [opt_true]); go_simp; refine hK _ _ ?_; clear hK K
 apply wpL_maybe d1_11 (by clear hS_; cases d1_11 <;> rfl)
 (case h => intro hc_; obtain rfl : d1_11 = true := hc_; (try simp only [opt_true]); have hcW_ := (bcellW hS_).1; go_simp; first | done | exact rfl)
 intro K hK; (try simp only [opt_true]); go_simp; refine hK _ _ ?_; clear hK K
 apply wpL_maybe d1_11 (by clear hS_; cases d1_11 <;> rfl)
 (case h => intro hc_; obtain rfl : d1_11 = true := hc_; (try simp only [opt_true]); have hY_ := (HT1.out).below hS_ (HT1.out.lt); have y0_ := hY_.c 13 (.slice a.ss t.ss.length a.ssc) (rfl); go_simp; first | done | exact rfl)
 intro K hK; (try simp only [opt_true]); go_simp; refine hK _ _ ?_; clear hK K
 apply wpL_maybe d1_11 (by clear hS_; cases d1_11 <;> rfl)
 (case h => intro hc_; obtain rfl : d1_11 = true := hc_; (try simp only [opt_true]); have hcW_ := (bcellW hS_).1; go_simp; first | done | exact rfl)
 intro K hK; (try simp only [opt_true]); go_simp; refine hK _ _ ?_; clear hK K
 apply wpL_maybe d1_11 (by clear hS_; cases d1_11 <;> rfl)
 (case h => intro hc_; obtain rfl : d1_11 = true := hc_; (try simp only [opt_true]); have hY_ := (HU1.out).below hS_ (HU1.out.lt); have y0_ := hY_.c 13 (.slice b.ss u.ss.length b.ssc) (rfl); go_simp; first | done | exact rfl)
 intro K hK; (try simp only [opt_true]); go_simp; refine hK _ _ ?_; clear hK K
 refine wpL_callm (S := Below w1.heap.size w1)  d1_11 (by clear hS_; cases d1_11 <;> rfl) (.bool p6) ?_ hS_ ?_
 · intro hc_; obtain rfl : d1_11 = true := hc_; intro N_ hN_; generalize hA_ : Act.mk _ _ = A_ at hN_ ⊢; (have v89_ := (congrArg (fun z_ : Act => z_.eval (.tmp 89)) hA_.symm).trans (evalL _ _ 89); simp only [getL64, getL8, getL1, getL0, opt_true, Bool.not_false] at v89_); (have v91_ := (congrArg (fun z_ : Act => z_.eval (.tmp 91)) hA_.symm).trans (evalL _ _ 91); simp only [getL64, getL8, getL1, getL0, opt_true, Bool.not_false] at v91_); clear hA_; have vc_ : ∀ v_, Act.eval A_ (.const v_) = v_ := (fun _ => rfl); have vf_ : ∀ f_, Act.eval A_ (.func f_) = .func (.func f_) #[] #[] := (fun _ => rfl); generalize Act.eval A_ = ev_ at vc_ vf_ v89_ v91_ ⊢; go_simp; go_at_call 51; refine (eq_ss t.ss u.ss a.ss b.ss a.ssc b.ssc _ (HA.out.ss.below (HB1.out.trans (hS_.mono hz1)) (Nat.le_refl _)) (HB.out.ss.below (HB1.out.trans (hS_.mono hz1)) (Nat.le_refl _)) (by have := H1.out.ss; omega) (by have := H2.out.ss; omega)).mono ?_; rintro e w9 ⟨rfl, hb9⟩; rw [← HHp6.out]; exact hN_ _ (hS_.trans (hb9.mono hS_.size))
 intro K hK w_ hS2_; go_simp; refine hK _ _ ?_; clear hK K hS_; have hS_ := hS2_; clear hS2_
 obtain ⟨d1_12, hd1_12⟩ : ∃ b_, b_ = (d1_11 && p6) := ⟨_, rfl⟩
 apply wpL_maybe true (by exact rfl) (.bool d1_12) (by intro _; rw [hd1_12]; cases d1_11 <;> (go_simp; try exact rfl))
 have Hd1_12 := hQ0 hd1_12; clear hd1_12
 intro K hK; (try simp only [opt_true]); go_simp; refine hK _ _ ?_; clear hK K
 apply wpL_maybe true (by exact rfl)
 (case h => intro _; have hcW_ := (bcellW hS_).1; go_simp; first | done | exact rfl)
 intro K hK; (try simp only [opt_true]); go_simp; refine hK _ _ ?_; clear hK K
 apply wpL_maybe d1_12 (by clear hS_; cases d1_12 <;> rfl)
 (case h => intro hc_; obtain rfl : d1_12 = true := hc_; (try simp only [opt_true]); have hcW_ := (bcellW hS_).1; go_simp; first | done | exact rfl)
 intro K hK; (try simp only [opt_true]); go_simp; refine hK _ _ ?_; clear hK K
 apply wpL_maybe d1_12 (by clear hS_; cases d1_12 <;> rfl)
 (case h => intro hc_; obtain rfl : d1_12 = true := hc_; (try simp only [opt_true]); have hY_ := (HT1.out).below hS_ (HT1.out.lt); have y0_ := hY_.c 14 (.slice a.las t.las.length a.lasc) (rfl); go_simp; first | done | exact rfl)
 intro K hK; (try simp only [opt_true]); go_simp; refine hK _ _ ?_; clear hK K
 apply wpL_maybe d1_12 (by clear hS_; cases d1_12 <;> rfl)
 (case h => intro hc_; obtain rfl : d1_12 = true := hc_; (try simp only [opt_true]); have hcW_ := (bcellW hS_).1; go_simp; first | done | exact rfl)
 intro K hK; (try simp only [opt_true]); go_simp; refine hK _ _ ?_; clear hK K
 apply wpL_maybe d1_12 (by clear hS_; cases d1_12 <;> rfl)
 (case h => intro hc_; obtain rfl : d1_12 = true := hc_; (try simp only [opt_true]); have hY_ := (HU1.out).below hS_ (HU1.out.lt); have y0_ := hY_.c 14 (.slice b.las u.las.length b.lasc) (rfl); go_simp; first | done | exact rfl)
 intro K hK; (try simp only [opt_true]); go_simp; refine hK _ _ ?_; clear hK K
 refine wpL_callm (S := Below w1.heap.size w1)  d1_12 (by clear hS_; cases d1_12 <;> rfl) (.bool p7) ?_ hS_ ?_
 · intro hc_; obtain rfl : d1_12 = true := hc_; intro N_ hN_; generalize hA_ : Act.mk _ _ = A_ at hN_ ⊢; (have v96_ := (congrArg (fun z_ : Act => z_.eval (.tmp 96)) hA_.symm).trans (evalL _ _ 96); simp only [getL64, getL8, getL1, getL0, opt_true, Bool.not_false] at v96_); (have v98_ := (congrArg (fun z_ : Act => z_.eval (.tmp 98)) hA_.symm).trans (evalL _ _ 98); simp only [getL64, getL8, getL1, getL0, opt_true, Bool.not_false] at v98_); clear hA_; have vc_ : ∀ v_, Act.eval A_ (.const v_) = v_ := (fun _ => rfl); have vf_ : ∀ f_, Act.eval A_ (.func f_) = .func (.func f_) #[] #[] := (fun _ => rfl); generalize Act.eval A_ = ev_ at vc_ vf_ v96_ v98_ ⊢; go_simp; go_at_call 52; refine (eq_las t.las u.las a.las b.las a.lasc b.lasc _ (HA.out.las.below (HB1.out.trans (hS_.mono hz1)) (Nat.le_refl _)) (HB.out.las.below (HB1.out.trans (hS_.mono hz1)) (Nat.le_refl _)) (by have := H1.out.las; omega) (by have := H2.out.las; omega)).mono ?_; rintro e w9 ⟨rfl, hb9⟩; rw [← HHp7.out]; exact hN_ _ (hS_.trans (hb9.mono hS_.size))
 intro K hK w_ hS2_; go_simp; refine hK _ _ ?_; clear hK K hS_; have hS_ := hS2_; clear hS2_
 obtain ⟨d1_13, hd1_13⟩ : ∃ b_, b_ = (d1_12 && p7) := ⟨_, rfl⟩
 apply wpL_maybe true (by exact rfl) (.bool d1_13) (by intro _; rw [hd1_13]; cases d1_12 <;> (go_simp; try exact rfl))
 have Hd1_13 := hQ0 hd1_13; clear hd1_13
 intro K hK; (try simp only [opt_true]); go_simp; refine hK _ _ ?_; clear hK K
 apply wpL_maybe true (by exact rfl)
 (case h => intro _; have hcW_ := (bcellW hS_).1; go_simp; first | done | exact rfl)
 intro K hK; (try simp only [opt_true]); go_simp; refine hK _ _ ?_; clear hK K
 apply wpL_maybe d1_13 (by clear hS_; cases d1_13 <;> rfl)
 (case h => intro hc_; obtain rfl : d1_13 = true := hc_; (try simp only [opt_true]); have hcW_ := (bcellW hS_).1; go_simp; first | done | exact rfl)
 intro K hK; (try simp only [opt_true]); go_simp; refine hK _ _ ?_; clear hK K
 apply wpL_maybe d1_13 (by clear hS_; cases d1_13 <;> rfl)
 (case h => intro hc_; obtain rfl : d1_13 = true := hc_; (try simp only [opt_true]); have hY_ := (HT1.out).below hS_ (HT1.out.lt); have y0_ := hY_.c 15 (.slice a.rs t.rs.length a.rsc) (rfl); go_simp; first | done | exact rfl)
 intro K hK; (try simp only [opt_true]); go_simp; refine hK _ _ ?_; clear hK K
 apply wpL_maybe d1_13 (by clear hS_; cases d1_13 <;> rfl)
 (case h => intro hc_; obtain rfl : d1_13 = true := hc_; (try simp only [opt_true]); have hcW_ := (bcellW hS_).1; go_simp; first | done | exact rfl)
 intro K hK; (try simp only [opt_true]); go_simp; refine hK _ _ ?_; clear hK K
 apply wpL_maybe d1_13 (by clear hS_; cases d1_13 <;> rfl)
 (case h => intro hc_; obtain rfl : d1_13 = true := hc_; (try simp only [opt_true]); have hY_ := (HU1.out).below hS_ (HU1.out.lt); have y0_ := hY_.c 15 (.slice b.rs u.rs.length b.rsc) (rfl); go_simp; first | done | exact rfl)
 intro K hK; (try simp only [opt_true]); go_simp; refine hK _ _ ?_; clear hK K
 refine wpL_callm (S := Below w1.heap.size w1)  d1_13 (by clear hS_; cases d1_13 <;> rfl) (.bool p8) ?_ hS_ ?_
 · intro hc_; obtain rfl : d1_13 = true := hc_; intro N_ hN_; generalize hA_ : Act.mk _ _ = A_ at hN_ ⊢; (have v103_ := (congrArg (fun z_ : Act => z_.eval (.tmp 103)) hA_.symm).trans (evalL _ _ 103); simp only [getL64, getL8, getL1, getL0, opt_true, Bool.not_false] at v103_); (have v105_ := (congrArg (fun z_ : Act => z_.eval (.tmp 105)) hA_.symm).trans (evalL _ _ 105); simp only [getL64, getL8, getL1, getL0, opt_true, Bool.not_false] at v105_); clear hA_; have vc_ : ∀ v_, Act.eval A_ (.const v_) = v_ := (fun _ => rfl); have vf_ : ∀ f_, Act.eval A_ (.func f_) = .func (.func f_) #[] #[] := (fun _ => rfl); generalize Act.eval A_ = ev_ at vc_ vf_ v103_ v105_ ⊢; go_simp; go_at_call 53; refine (eq_rs t.rs u.rs a.rs b.rs a.rsc b.rsc _ (HA.out.rs.below (HB1.out.trans (hS_.mono hz1)) (Nat.le_refl _)) (HB.out.rs.below (HB1.out.trans (hS_.mono hz1)) (Nat.le_refl _)) (by have := H1.out.rs; omega) (by have := H2.out.rs; omega)).mono ?_; rintro e w9 ⟨rfl, hb9⟩; rw [← HHp8.out]; exact hN_ _ (hS_.trans (hb9.mono hS_.size))
 intro K hK w_ hS2_; go_simp; refine hK _ _ ?_; clear hK K hS_; have hS_ := hS2_; clear hS2_
 obtain ⟨d1_14, hd1_14⟩ : ∃ b_, b_ = (d1_13 && p8) := ⟨_, rfl⟩
 apply wpL_maybe true (by exact rfl) (.bool d1_14) (by intro _; rw [hd1_14]; cases d1_13 <;> (go_simp; try exact rfl))
 have Hd1_14 := hQ0 hd1_14; clear hd1_14
 intro K hK; (try simp only [opt_true]); go_simp; refine hK _ _ ?_; clear hK K
 apply wpL_maybe true (by exact rfl)
 (case h => intro _; have hcW_ := (bcellW hS_).1; go_simp; first | done | exact rfl)
 intro K hK; (try simp only [opt_true]); go_simp; refine hK _ _ ?_; clear hK K
 apply wpL_maybe d1_14 (by clear hS_; cases d1_14 <;> rfl)
 (case h => intro hc_; obtain rfl : d1_14 = true := hc_; (try simp only [opt_true]); have hcW_ := (bcellW hS_).1; go_simp; first | done | exact rfl)
 intro K hK; (try simp only [opt_true]); go_simp; refine hK _ _ ?_; clear hK K
 apply wpL_maybe d1_14 (by clear hS_; cases d1_14 <;> rfl)
 (case h => intro hc_; obtain rfl : d1_14 = true := hc_; (try simp only [opt_true]); have hY_ := (HT1.out).below hS_ (HT1.out.lt); have y0_ := hY_.c 16 (.slice a.ds t.ds.length a.dsc) (rfl); go_simp; first | done | exact rfl)
 intro K hK; (try simp only [opt_true]); go_simp; refine hK _ _ ?_; clear hK K
 apply wpL_maybe d1_14 (by clear hS_; cases d1_14 <;> rfl)
 (case h => intro hc_; obtain rfl : d1_14 = true := hc_; (try simp only [opt_true]); have hcW_ := (bcellW hS_).1; go_simp; first | done | exact rfl)
 intro K hK; (try simp only [opt_true]); go_simp; refine hK _ _ ?_; clear hK K
 apply wpL_maybe d1_14 (by clear hS_; cases d1_14 <;> rfl)
 (case h => intro hc_; obtain rfl : d1_14 = true := hc_; (try simp only [opt_true]); have hY_ := (HU1.out).below hS_ (HU1.out.lt); have y0_ := hY_.c 16 (.slice b.ds u.ds.length b.dsc) (rfl); go_simp; first | done | exact rfl)
 intro K hK; (try simp only [opt_true]); go_simp; refine hK _ _ ?_; clear hK K
 refine wpL_callm (S := Below w1.heap.size w1)  d1_14 (by clear hS_; cases d1_14 <;> rfl) (.bool p9) ?_ hS_ ?_
 · intro hc_; obtain rfl : d1_14 = true := hc_; intro N_ hN_; generalize hA_ : Act.mk _ _ = A_ at hN_ ⊢; (have v110_ := (congrArg (fun z_ : Act => z_.eval (.tmp 110)) hA_.symm).trans (evalL _ _ 110); simp only [getL64, getL8, getL1, getL0, opt_true, Bool.not_false] at v110_); (have v112_ := (congrArg (fun z_ : Act => z_.eval (.tmp 112)) hA_.symm).trans (evalL _ _ 112); simp only [getL64, getL8, getL1, getL0, opt_true, Bool.not_false] at v112_); clear hA_; have vc_ : ∀ v_, Act.eval A_ (.const v_) = v_ := (fun _ => rfl); have vf_ : ∀ f_, Act.eval A_ (.func f_) = .func (.func f_) #[] #[] := (fun _ => rfl); generalize Act.eval A_ = ev_ at vc_ vf_ v110_ v112_ ⊢; go_simp; go_at_call 54; refine (eq_ds t.ds u.ds a.ds b.ds a.dsc b.dsc _ (HA.out.ds.below (HB1.out.trans (hS_.mono hz1)) (Nat.le_refl _)) (HB.out.ds.below (HB1.out.trans (hS_.mono hz1)) (Nat.le_refl _)) (by have := H1.out.ds; omega) (by have := H2.out.ds; omega)).mono ?_; rintro e w9 ⟨rfl, hb9⟩; rw [← HHp9.out]; exact hN_ _ (hS_.trans (hb9.mono hS_.size))
 intro K hK w_ hS2_; go_simp; refine hK _ _ ?_; clear hK K hS_; have hS_ := hS2_; clear hS2_
 obtain ⟨d1_15, hd1_15⟩ : ∃ b_, b_ = (d1_14 && p9) := ⟨_, rfl⟩
 apply wpL_maybe true (by exact rfl) (.bool d1_15) (by intro _; rw [hd1_15]; cases d1_14 <;> (go_simp; try exact rfl))
 have Hd1_15 := hQ0 hd1_15; clear hd1_15
 intro K hK; (try simp only [opt_true]); go_simp; refine hK _ _ ?_; clear hK K
 apply wpL_maybe true (by exact rfl)
 (case h => intro _; have hcW_ := (bcellW hS_).1; go_simp; first | done | exact rfl)
 intro K hK; (try simp only [opt_true]); go_simp; refine hK _ _ ?_; clear hK K
 apply wpL_maybe d1_15 (by clear hS_; cases d1_15 <;> rfl)
 (case h => intro hc_; obtain rfl : d1_15 = true := hc_; (try simp only [opt_true]); have hcW_ := (bcellW hS_).1; go_simp; first | done | exact rfl)
 intro K hK; (try simp only [opt_true]); go_simp; refine hK _ _ ?_; clear hK K
 apply wpL_maybe d1_15 (by clear hS_; cases d1_15 <;> rfl)
 (case h => intro hc_; obtain rfl : d1_15 = true := hc_; (try simp only [opt_true]); have hY_ := (HT1.out).below hS_ (HT1.out.lt); have y0_ := hY_.c 17 (.slice a.lns t.lns.length a.lnsc) (rfl); go_simp; first | done | exact rfl)
 intro K hK; (try simp only [opt_true]); go_simp; refine hK _ _ ?_; clear hK K
 apply wpL_maybe d1_15 (by clear hS_; cases d1_15 <;> rfl)
 (case h => intro hc_; obtain rfl : d1_15 = true := hc_; (try simp only [opt_true]); have hcW_ := (bcellW hS_).1; go_simp; first | done | exact rfl)
 intro K hK; (try simp only [opt_true]); go_simp; refine hK _ _ ?_; clear hK K
 apply wpL_maybe d1_15 (by clear hS_; cases d1_15 <;> rfl)
 (case h => intro hc_; obtain rfl : d1_15 = true := hc_; (try simp only [opt_true]); have hY_ := (HU1.out).below hS_ (HU1.out.lt); have y0_ := hY_.c 17 (.slice b.lns u.lns.length b.lnsc) (rfl); go_simp; first | done | exact rfl)
 intro K hK; (try simp only [opt_true]); go_simp; refine hK _ _ ?_; clear hK K
 refine wpL_callm (S := Below w1.heap.size w1)  d1_15 (by clear hS_; cases d1_15 <;> rfl) (.bool p10) ?_ hS_ ?_
 · intro hc_; obtain rfl : d1_15 = true := hc_; intro N_ hN_; generalize hA_ : Act.mk _ _ = A_ at hN_ ⊢; (have v117_ := (congrArg (fun z_ : Act => z_.eval (.tmp 117)) hA_.symm).trans (evalL _ _ 117); simp only [getL64, getL8, getL1, getL0, opt_true, Bool.not_false] at v117_); (have v119_ := (congrArg (fun z_ : Act => z_.eval (.tmp 119)) hA_.symm).trans (evalL _ _ 119); simp only [getL64, getL8, getL1, getL0, opt_true, Bool.not_false] at v119_); clear hA_; have vc_ : ∀ v_, Act.eval A_ (.const v_) = v_ := (fun _ => rfl); have vf_ : ∀ f_, Act.eval A_ (.func f_) = .func (.func f_) #[] #[] := (fun _ => rfl); generalize Act.eval A_ = ev_ at vc_ vf_ v117_ v119_ ⊢; go_simp; go_at_call 55; refine (eq_lns t.lns u.lns a.lns b.lns a.lnsc b.lnsc _ (HA.out.lns.below (HB1.out.trans (hS_.mono hz1)) (Nat.le_refl _)) (HB.out.lns.below (HB1.out.trans (hS_.mono hz1)) (Nat.le_refl _)) (by have := H1.out.lns; omega) (by have := H2.out.lns; omega)).mono ?_; rintro e w9 ⟨rfl, hb9⟩; rw [← HHp10.out]; exact hN_ _ (hS_.trans (hb9.mono hS_.size))
 intro K hK w_ hS2_; go_simp; refine hK _ _ ?_; clear hK K hS_; have hS_ := hS2_; clear hS2_
 obtain ⟨d1_16, hd1_16⟩ : ∃ b_, b_ = (d1_15 && p10) := ⟨_, rfl⟩
 apply wpL_maybe true (by exact rfl) (.bool d1_16) (by intro _; rw [hd1_16]; cases d1_15 <;> (go_simp; try exact rfl))
 have Hd1_16 := hQ0 hd1_16; clear hd1_16
 intro K hK; (try simp only [opt_true]); go_simp; refine hK _ _ ?_; clear hK K
 apply wpL_maybe true (by exact rfl)
 (case h => intro _; have hcW_ := (bcellW hS_).1; go_simp; first | done | exact rfl)
 intro K hK; (try simp only [opt_true]); go_simp; refine hK _ _ ?_; clear hK K
 refine wpList_nil ?_
 (try go_simp)
 have HS_ := hQ0 hS_
 clear hS_
 go_wp2_with fail
 go_ret
 refine ⟨?_, HB1.out.trans (HS_.out.mono hz1)⟩
 rw [HRr.out, Hd1_16.out, Hd1_15.out, Hd1_14.out, Hd1_13.out, Hd1_12.out, Hd1_11.out, Hd1_10.out, Hd1_9.out, Hd1_8.out, Hd1_7.out, Hd1_6.out, Hd1_5.out, Hd1_4.out, Hd1_3.out, Hd1_2.out, Hd1_1.out, HHb0.out, HHb1.out, HHb2.out, HHb3.out, HHb4.out, HHb5.out, HHp0.out, HHp1.out, HHp2.out, HHp3.out, HHp4.out, HHp5.out, HHp6.out, HHp7.out, HHp8.out, HHp9.out, HHp10.out]
 rfl
def valsB (l : List Int) : List UInt8 := l.flatMap fun n => 32 :: Lib.itoa n
def keyB (k : KV) : List UInt8 := 32 :: k.key.data.toList ++ valsB k.vals
def headB (x : IV) : List UInt8 := x.word.data.toList ++ (if x.name = ⟨#[]⟩ then [] else 32 :: x.name.data.toList)
def itemB (x : IV) : List UInt8 := headB x ++ x.keys.flatMap keyB ++ [59, 10]
def textB (l : List IV) : List UInt8 := l.flatMap itemB
def fmtR (l : List IV) : ByteArray × Bool := if (parseR ⟨(textB l).toArray⟩).2.1 ≠ 0 ∨ eqL eqX (parseR ⟨(textB l).toArray⟩).1 l = false then (⟨#[]⟩, false) else (⟨(textB l).toArray⟩, true)
theorem isb_below {T e : TypeId} {B b N : Nat} {bs : List Value} {w w' : World} (h : Lib.IsBuilder T e B b bs w) (hb : Below N w w') (hN : w.heap.size ≤ N) : Lib.IsBuilder T e B b bs w' := by
 have go : ∀ p, Lib.BuilderAt T e B b p bs w → Lib.BuilderAt T e B b p bs w' := fun p h => by
  obtain ⟨hB, v, hbk, hown, hne⟩ := h
  have hlt := (Array.getElem?_eq_some_iff.1 hbk).1
  exact ⟨hB, v, (hb.block b (Nat.lt_of_lt_of_le hlt hN)).trans hbk, own_below hown hb hN, hne⟩
 exact h.elim (fun h => .inl (go _ h)) (fun h => .inr (go _ h))
theorem below_grow {w : World} (k : Nat) (os : Array Obj) : Below w.heap.size w (Sort.grow (w.drewN k) os) := by
 refine ⟨rfl, rfl, rfl, ?_, fun j hj => ?_⟩
 · rw [Sort.size_grow]
   show w.heap.size ≤ w.heap.size + _
   omega
 · rw [Sort.heap_grow_old _ _ (by show j < w.heap.size; exact hj)]
   rfl
theorem itoa_any (n : Int) (h0 : -9223372036854775808 ≤ n) (h1 : n ≤ 9223372036854775807) (w : World) (ht : Tabs w) :
  Calls Tryz.prog 115 #[.int .i64 n] w fun e w' => e = .returned (.string ⟨(Lib.itoa n).toArray⟩) ∧ Below w.heap.size w w' :=
 (Tryz.strconv_Itoa n h0 h1 w ht.pw).mono fun e w' ⟨he, k, os, hw⟩ => by subst hw; exact ⟨he, below_grow k os⟩
def CX (w : World) (b : Nat) (cs : Array Value) (t : TypeId) : Prop := w.heap[b]? = some (.cells cs t (0, 0))
theorem CX.kept {w w' : World} {a b : Nat} {cs : Array Value} {t : TypeId} (h : CX w b cs t) (hk : Kept a w w') (hn : b ≠ a) (ht : t ≠ 5) : CX w' b cs t := hk b cs t (0, 0) hn ht h
theorem CX.new (w : World) (cs : Array Value) (t : TypeId) : CX (w.alloc (.cells cs t)) w.heap.size cs t := heap_alloc_new w _
theorem CX.c3 {w : World} {b : Nat} {v0 v1 v2 : Value} {t : TypeId} (h : CX w b #[v0, v1, v2] t) : C3 w b v0 v1 v2 := by
 unfold CX at h
 refine ⟨?_, ?_, ?_, fun o => ?_, (Array.getElem?_eq_some_iff.1 h).1⟩
 · simp [World.cell?, h]
 · simp [World.cell?, h]
 · simp [World.cell?, h]
 · exact Lib.frozen_of_heap h o
theorem CX.c4 {w : World} {b : Nat} {v0 v1 v2 v3 : Value} {t : TypeId} (h : CX w b #[v0, v1, v2, v3] t) : C4 w b v0 v1 v2 v3 := by
 unfold CX at h
 refine ⟨?_, ?_, ?_, ?_, fun o => ?_, (Array.getElem?_eq_some_iff.1 h).1⟩
 · simp [World.cell?, h]
 · simp [World.cell?, h]
 · simp [World.cell?, h]
 · simp [World.cell?, h]
 · exact Lib.frozen_of_heap h o
theorem pin_cw {P : Program} {f : FuncId} {args : Array Value} {w : World} {Q : Ending → World → Prop} (h : ∀ w', w' = w → Calls P f args w' Q) : Calls P f args w Q := h w rfl
def vKey (key : ByteArray) (A : Option Addr) (n c : Nat) : Value := .agg #[.string key, .slice A n c, .int .i64 0]
set_option maxHeartbeats 1000000 in
theorem num_any (key : ByteArray) (A : Option Addr) (n c : Nat) (w : World) :
  Calls Tryz.prog 56 #[.string key, .slice A n c] w fun e w' => e = .returned (vKey key A n c) ∧ Below w.heap.size w w' := by
 unfold vKey
 go_enter Tryz.func56, Tryz.ntmps56; (try simp only [List.append_eq, List.cons_append, List.nil_append])
 go_wp2_with fail
 refine bodyPost_ret (v := .agg #[.string key, .slice A n c, .int .i64 0]) (by simp only [results, Tryz.results56]; go_simp) rfl ⟨?_, ?_⟩
 · rfl
 · ((with_reducible (repeat (first | exact bR _ _ | apply bS | apply bA | apply bD | refine bT ?_ (by assumption) ?_ | refine bO (by assumption) ?_ ?_))) <;> (first | omega | (simp <;> omega)))
def VecOut (key : ByteArray) (x y : Int) (w : World) (e : Ending) (w' : World) : Prop := ∃ A c, e = .returned (vKey key A 2 c) ∧ Below w.heap.size w w' ∧ OwnI w' w.heap.size A c [x, y]
set_option maxRecDepth 100000 in
set_option maxHeartbeats 2000000 in
theorem kvec_any (key : ByteArray) (x y : Int) (w : World) :
  Calls Tryz.prog 58 #[.string key, .agg #[.int .i64 x, .int .i64 y]] w (VecOut key x y w) := by
 go_enter Tryz.func58, Tryz.ntmps58; (try simp only [List.append_eq, List.cons_append, List.nil_append])
 go_wp2_with fail
 (refine pin_cw (fun w1 hE_w1 => ?_))
 have HO1 : Hid (OwnI w1 w.heap.size (some ⟨w.heap.size + 1 + 1, 0, none⟩) 2 [x, y]) := hQ0 (by
  rw [hE_w1]
  have h := World.ownsRow_lit (base := w.heap.size) (e := 3) (size := 1) ((w.alloc (.cells #[.int .i64 x, .int .i64 y] 23)).alloc (.cells #[.string ⟨#[]⟩, .slice none 0 0, .int .i64 0] 120)) #[.int .i64 x, .int .i64 y] 2 (by simp; omega) (by unfold maxLen; omega) rfl
  simp only [World.size_alloc] at h
  exact h)
 have hb1 : Below w.heap.size w w1 := by rw [hE_w1]; ((with_reducible (repeat (first | exact bR _ _ | apply bS | apply bA | apply bD | refine bT ?_ (by assumption) ?_ | refine bO (by assumption) ?_ ?_))) <;> (first | omega | (simp <;> omega)))
 have hz1 : w.heap.size + 1 + 1 + 1 ≤ w1.heap.size := by rw [hE_w1]; simp
 have k0 : w1.cell? ⟨w.heap.size + 1, 0, none⟩ = some (.string ⟨#[]⟩) := by rw [hE_w1]; go_simp
 have k1 : w1.cell? ⟨w.heap.size + 1, 1, none⟩ = some (.slice none 0 0) := by rw [hE_w1]; go_simp
 have k2 : w1.cell? ⟨w.heap.size + 1, 2, none⟩ = some (.int .i64 0) := by rw [hE_w1]; go_simp
 have kz : ∀ o, w1.frozen? ⟨w.heap.size + 1, o, none⟩ = false := by intro o; rw [hE_w1]; go_simp
 clear hE_w1
 (refine (num_any _ _ _ _ _).mono ?_; rintro e w2 ⟨rfl, hb2⟩)
 have hO2 : Hid (OwnI w2 w.heap.size (some ⟨w.heap.size + 1 + 1, 0, none⟩) 2 [x, y]) := hQ0 (own_below HO1.out hb2 (Nat.le_refl _))
 have hB2 := hb1.trans (hb2.mono (by omega))
 have hz2 := hb2.size
 have c0 := (hb2.cell (p := ⟨w.heap.size + 1, 0, none⟩) (by show w.heap.size + 1 < _; omega)).trans k0
 have c1 := (hb2.cell (p := ⟨w.heap.size + 1, 1, none⟩) (by show w.heap.size + 1 < _; omega)).trans k1
 have c2 := (hb2.cell (p := ⟨w.heap.size + 1, 2, none⟩) (by show w.heap.size + 1 < _; omega)).trans k2
 have cz : ∀ o, w2.frozen? ⟨w.heap.size + 1, o, none⟩ = false := fun o => (hb2.frozen (p := ⟨w.heap.size + 1, o, none⟩) (by show w.heap.size + 1 < _; omega)).trans (kz o)
 have cl : w.heap.size + 1 < w2.heap.size := by omega
 clear hb1 hb2 k0 k1 k2 kz HO1
 unfold vKey
 go_wp2_with fail
 refine bodyPost_ret (v := .agg #[.string key, .slice (some ⟨w.heap.size + 1 + 1, 0, none⟩) 2 2, .int .i64 0]) (by simp only [results, Tryz.results58]; go_simp) rfl ⟨some ⟨w.heap.size + 1 + 1, 0, none⟩, 2, rfl, by ((with_reducible (repeat (first | exact bR _ _ | apply bS | apply bA | apply bD | refine bT ?_ (by assumption) ?_ | refine bO (by assumption) ?_ ?_))) <;> (first | omega | (simp <;> omega))), ?_⟩
 refine ownsRow_block hO2.out (fun b hb => ?_)
 simp only [Value.ownBlock, Option.some.injEq] at hb
 subst hb
 rw [Below.heap_setCell _ _ _ _ (by simp only; omega), Below.heap_setCell _ _ _ _ (by simp only; omega), Below.heap_setCell _ _ _ _ (by simp only; omega)]
set_option maxRecDepth 100000 in
set_option maxHeartbeats 1000000 in
theorem stp_any (key : ByteArray) (A : Option Addr) (n c : Nat) (at_ : Int) (w : World) :
  Calls Tryz.prog 113 #[.agg #[.string key, .slice A n c, .int .i64 at_]] w fun e w' => e = .returned (.bool (decide (key = ⟨#[]⟩))) ∧ Below w.heap.size w w' := by
 obtain ⟨b, hb⟩ : ∃ b, b = decide (key = ⟨#[]⟩) := ⟨_, rfl⟩
 have h1 : (key.toList == ([] : List UInt8)) = b := by
  rw [hb]
  by_cases h : key = ⟨#[]⟩
  · rw [decide_eq_true h, h]; kernel_rfl
  · rw [decide_eq_false h, show ([] : List UInt8) = (⟨#[]⟩ : ByteArray).toList from by kernel_rfl]
    exact txt_neT h
 rw [← hb]
 clear hb
 go_enter Tryz.func113, Tryz.ntmps113; (try simp only [List.append_eq, List.cons_append, List.nil_append])
 go_wp2_with fail
 go_ret
 exact ⟨rfl, by ((with_reducible (repeat (first | exact bR _ _ | apply bS | apply bA | apply bD | refine bT ?_ (by assumption) ?_ | refine bO (by assumption) ?_ ?_))) <;> (first | omega | (simp <;> omega)))⟩
abbrev KP := KV × Option Addr × Nat
def kpC (p : KP) : List Value := cellsOfK p.1 p.2.1 p.2.2
def idxE : List KP → Nat → Int
  | [], _ => -1
  | p :: l, i => if p.1.key = ⟨#[]⟩ then (i : Int) else idxE l (i + 1)
theorem kp_get {w : World} {A : Option Addr} {l : List KP} (h : RowsAt 3 kpC w A l) {k : Nat} {p : KP} (hp : l[k]? = some p) : ∃ g o, A = some ⟨g, o, none⟩ ∧ g < w.heap.size ∧ w.cell? ⟨g, o + k * 3, none⟩ = some (.string p.1.key) ∧ w.cell? ⟨g, o + k * 3 + 1, none⟩ = some (.slice p.2.1 p.1.vals.length p.2.2) ∧ w.cell? ⟨g, o + k * 3 + 2, none⟩ = some (.int .i64 p.1.at_) := by
 obtain ⟨g, o, hA, hg, hc⟩ := h k p hp
 simp only [← Nat.add_assoc] at hc
 exact ⟨g, o, hA, hg, hc 0 _ rfl, hc 1 _ rfl, hc 2 _ rfl⟩
set_option maxRecDepth 100000 in
set_option maxHeartbeats 1000000 in
theorem idxf_any (l : List KP) (A : Option Addr) (c : Nat) (w : World) (hA : RowsAt 3 kpC w A l) (hl : l.length ≤ 1000) :
  Calls Tryz.prog 164 #[.slice A l.length c, .func (.func 113) #[] #[]] w fun e w' => e = .returned (.int .i64 (idxE l 0)) ∧ Below w.heap.size w w' := by
 have HA := hQ0 hA
 obtain ⟨R, hR⟩ : ∃ R, R = idxE l 0 := ⟨_, rfl⟩
 have HR : Hid (idxE (l.drop 0) 0 = R) := hQ0 (by rw [hR]; rfl)
 rw [← hR]
 clear hA hR
 go_enter Tryz.func164, Tryz.ntmps164; (try simp only [List.append_eq, List.cons_append, List.nil_append])
 go_wp2_with fail
 go_loopg [8] (l.length + 1) (fun gk t wr => ∃ k : Nat, k ≤ l.length ∧ l.length - k < gk ∧ t = .int .i64 k ∧ Below w.heap.size w wr ∧ Hid (idxE (l.drop k) k = R))
 case atStart => exact ⟨0, by omega, by omega, rfl, Below.refl _ _, HR⟩
 case round =>
  obtain ⟨wq, rfl⟩ : ∃ z, z = wr := ⟨_, rfl⟩
  obtain ⟨k, hk, hkk, rfl, hb, HJ⟩ := hrel
  have hz := hb.size
  by_cases hlt : k < l.length
  · obtain ⟨p, hx⟩ : ∃ p, l[k]? = some p := ⟨l[k], by simp⟩
    obtain ⟨g, o, rfl, hg, c0, c1, c2⟩ := kp_get (HA.out.below hb (Nat.le_refl _)) hx
    have HS : Hid (idxE (l.drop k) k = if p.1.key = ⟨#[]⟩ then (k : Int) else idxE (l.drop (k + 1)) (k + 1)) := hQ0 (by
     obtain ⟨h1, rfl⟩ := List.getElem?_eq_some_iff.1 hx
     rw [List.drop_eq_getElem_cons h1]
     rfl)
    have i1 : (k : Int) < (l.length : Int) := by omega
    have HB := hQ0 hb
    clear hx hb
    obtain ⟨b, hbb⟩ : ∃ b, b = decide (p.1.key = ⟨#[]⟩) := ⟨_, rfl⟩
    have KC := fun W => stp_any p.1.key p.2.1 p.1.vals.length p.2.2 p.1.at_ W
    rw [← hbb] at KC
    have HBB := hQ0 hbb
    clear hbb
    cases b
    · have hne : ¬ p.1.key = ⟨#[]⟩ := of_decide_eq_false HBB.out.symm
      have HN : Hid (idxE (l.drop (k + 1)) (k + 1) = R) := hQ0 (by rw [← HJ.out, HS.out, if_neg hne])
      clear hne
      go_wp2_with (go_at_call 113; refine (KC _).mono ?_; rintro e w1 ⟨rfl, hb1⟩)
      go_roundg (l.length - (k + 1) + 1)
      case measure => omega
      case rel => exact ⟨k + 1, by omega, by omega, by go_num, HB.out.trans (hb1.mono hz), HN⟩
    · have he : p.1.key = ⟨#[]⟩ := of_decide_eq_true HBB.out.symm
      obtain rfl : R = (k : Int) := by rw [← HJ.out, HS.out, if_pos he]
      clear he
      go_wp2_with (go_at_call 113; refine (KC _).mono ?_; rintro e w1 ⟨rfl, hb1⟩)
      go_ret
      exact ⟨rfl, HB.out.trans (hb1.mono hz)⟩
  · obtain rfl : k = l.length := by omega
    obtain rfl : R = -1 := by rw [← HJ.out, List.drop_length]; rfl
    go_wp2_with fail
    go_ret
    exact ⟨rfl, hb⟩
theorem set_mid {α : Type} (A B C : List α) (n j : Nat) (u : α) (hA : A.length = n) (hj : j < B.length) : (A ++ (B ++ C)).set (n + j) u = A ++ (B.set j u ++ C) := by
 rw [List.set_append_right _ _ (by omega), hA, Nat.add_sub_cancel_left, List.set_append_left _ _ hj]
theorem zero_key (w : World) : (zeroValue 120).run Tryz.prog w = .ok (.agg #[.string ⟨#[]⟩, .slice none 0 0, .int .i64 0]) w := by
 have hI : (Tryz.prog.info? 120).map (fun i => i.zero) = some (some (.agg #[.string ⟨#[]⟩, .slice none 0 0, .int .i64 0])) := by kernel_rfl
 cases hi : Tryz.prog.info? 120 with
 | none => rw [hi] at hI; cases hI
 | some i =>
  rw [hi] at hI
  simp only [Option.map_some, Option.some.injEq] at hI
  simp [zeroValue, typeInfo, hi, hI]
theorem clear_one (w : World) (ty : TypeId) (b o c : Nat) (u0 u1 u2 : Value) (h0 : w.cell? ⟨b, o, none⟩ = some u0) (h1 : w.cell? ⟨b, o + 1, none⟩ = some u1) (h2 : w.cell? ⟨b, o + 2, none⟩ = some u2) (hf : ∀ j, w.frozen? ⟨b, j, none⟩ = false) :
  (Builtin.clear_ #[95] ty #[.slice (some ⟨b, o, none⟩) 1 c]).run Tryz.prog w = .ok (.tuple #[]) (((w.setCell ⟨b, o, none⟩ (.string ⟨#[]⟩)).setCell ⟨b, o + 1, none⟩ (.slice none 0 0)).setCell ⟨b, o + 2, none⟩ (.int .i64 0)) := by
 have hzc : (Builtin.zeroCells (Value.agg #[.string ⟨#[]⟩, .slice none 0 0, .int .i64 0]).cells 1).toList = [.string ⟨#[]⟩, .slice none 0 0, .int .i64 0] := by kernel_rfl
 have hst := run_storeCells_cells (P := Tryz.prog) b o [.string ⟨#[]⟩, .slice none 0 0, .int .i64 0] 0 w (by
  intro j hj
  match j, hj with
  | 0, _ => simp [h0]
  | 1, _ => simp [h1]
  | 2, _ => simp [h2]) (fun j _ => hf _) (by
  intro v hv
  simp only [List.mem_cons, List.not_mem_nil, or_false] at hv
  rcases hv with rfl | rfl | rfl <;> rfl)
 simp only [Nat.add_zero] at hst
 simp [Builtin.clear_, run_underlying (show Tryz.prog.underlying 95 = some (.slice 120) from Tryz.underlying95), zero_key, hzc, hst, World.setCells]
theorem idxE_none : ∀ (l : List KP) (i : Nat), (∀ p ∈ l, ¬ p.1.key = ⟨#[]⟩) → idxE l i = -1
 | [], i, h => rfl
 | p :: l, i, h => by
  unfold idxE
  rw [if_neg (h p (List.mem_cons_self ..))]
  exact idxE_none l _ fun x hx => h x (List.mem_cons_of_mem _ hx)
theorem idxE_one : ∀ (l : List KP) (p : KP) (r : List KP) (i : Nat), (∀ p ∈ l, ¬ p.1.key = ⟨#[]⟩) → p.1.key = ⟨#[]⟩ → idxE (l ++ p :: r) i = ((i + l.length : Nat) : Int)
 | [], p, r, i, h, hp => by
  show idxE (p :: r) i = _
  unfold idxE
  rw [if_pos hp]
  simp
 | q :: l, p, r, i, h, hp => by
  rw [List.cons_append]
  unfold idxE
  rw [if_neg (h q (List.mem_cons_self ..)), idxE_one l p r (i + 1) (fun x hx => h x (List.mem_cons_of_mem _ hx)) hp, List.length_cons]
  congr 1
  omega
set_option maxRecDepth 100000 in
set_option maxHeartbeats 1000000 in
theorem del_none (l : List KP) (g cap : Nat) (w : World) (hA : RowsAt 3 kpC w (some ⟨g, 0, none⟩) l) (hl : l.length ≤ 1000) (hne : ∀ p ∈ l, ¬ p.1.key = ⟨#[]⟩) :
  Calls Tryz.prog 112 #[.slice (some ⟨g, 0, none⟩) l.length cap, .func (.func 113) #[] #[]] w fun e w' => e = .returned (.slice (some ⟨g, 0, none⟩) l.length cap) ∧ Below w.heap.size w w' := by
 have K := idxf_any l (some ⟨g, 0, none⟩) cap w hA hl
 rw [idxE_none l 0 hne] at K
 have HK := hQ0 K
 clear K hne hA
 go_enter Tryz.func112, Tryz.ntmps112; (try simp only [List.append_eq, List.cons_append, List.nil_append])
 go_wp2_with (go_at_call 164; refine HK.out.mono ?_; rintro e w1 ⟨rfl, hb1⟩)
 go_ret
 exact ⟨rfl, hb1⟩
theorem flatK (l : List KP) : (l.flatMap kpC).length = l.length * 3 := flat_len kpC 3 (fun _ => rfl) l
theorem row_set {w : World} {base g cap N : Nat} {A : List KP} {q p : KP} {C : List KP} (h : w.ownsRow base 120 3 (.slice (some ⟨g, 0, none⟩) N cap) N ((A ++ q :: C).flatMap kpC)) {n : Nat} (hn : A.length = n) :
  (((w.setCell ⟨g, n * 3, none⟩ (.string p.1.key)).setCell ⟨g, n * 3 + 1, none⟩ (.slice p.2.1 p.1.vals.length p.2.2)).setCell ⟨g, n * 3 + 2, none⟩ (.int .i64 p.1.at_)).ownsRow base 120 3 (.slice (some ⟨g, 0, none⟩) N cap) N ((A ++ p :: C).flatMap kpC) := by
 subst hn
 have h1 := (((h.stored (A.length * 3) (.string p.1.key)).1.stored (A.length * 3 + 1) (.slice p.2.1 p.1.vals.length p.2.2)).1.stored (A.length * 3 + 2) (.int .i64 p.1.at_)).1
 have e : ((((A ++ q :: C).flatMap kpC).set (A.length * 3) (.string p.1.key)).set (A.length * 3 + 1) (.slice p.2.1 p.1.vals.length p.2.2)).set (A.length * 3 + 2) (.int .i64 p.1.at_) = (A ++ p :: C).flatMap kpC := by
  have hA := flatK A
  rw [List.flatMap_append, List.flatMap_append, List.flatMap_cons, List.flatMap_cons]
  have s0 := set_mid (A.flatMap kpC) (kpC q) (C.flatMap kpC) (A.length * 3) 0 (.string p.1.key) hA (by show 0 < 3; decide)
  rw [Nat.add_zero] at s0
  rw [s0, set_mid _ _ _ _ _ _ hA (by show 1 < 3; decide), set_mid _ _ _ _ _ _ hA (by show 2 < 3; decide)]
  rfl
 rw [e] at h1
 exact h1
theorem own_capK {w : World} {base size n : Nat} {e : TypeId} {A : Option Addr} {c : Nat} {xs : List Value} (h : w.ownsRow base e size (.slice A n c) n xs) : n ≤ c := by
 rcases Nat.eq_zero_or_pos n with h0 | h0
 · omega
 · obtain ⟨g, _, _, _, hc, _⟩ := own_cells h h0
   exact hc
def zKP : KP := (⟨⟨#[]⟩, [], 0⟩, none, 0)
set_option maxRecDepth 100000 in
set_option maxHeartbeats 4000000 in
theorem del_one (pre post : List KP) (p0 : KP) (g cap base N : Nat) (w : World) (hN : N = pre.length + (post.length + 1)) (hR : w.ownsRow base 120 3 (.slice (some ⟨g, 0, none⟩) N cap) N ((pre ++ p0 :: post).flatMap kpC)) (hl : N ≤ 1000) (hne : ∀ p ∈ pre, ¬ p.1.key = ⟨#[]⟩) (hne2 : ∀ p ∈ post, ¬ p.1.key = ⟨#[]⟩) (h0 : p0.1.key = ⟨#[]⟩) :
  Calls Tryz.prog 112 #[.slice (some ⟨g, 0, none⟩) N cap, .func (.func 113) #[] #[]] w fun e w' => e = .returned (.slice (some ⟨g, 0, none⟩) (pre.length + post.length) cap) ∧ But g w w' ∧ w'.ownsRow base 120 3 (.slice (some ⟨g, 0, none⟩) N cap) N ((pre ++ (post ++ [zKP])).flatMap kpC) := by
 have hlen : (pre ++ p0 :: post).length = N := by rw [hN]; simp
 have hg : g < w.heap.size := (World.ownsRow.lt hR g rfl).2
 have hA : RowsAt 3 kpC w (some ⟨g, 0, none⟩) (pre ++ p0 :: post) := rows_own (n := 3) (f := kpC) (by decide) (fun _ => rfl) (by rw [hlen]; exact hR)
 have K := idxf_any (pre ++ p0 :: post) (some ⟨g, 0, none⟩) cap w hA (by omega)
 rw [idxE_one pre p0 post 0 hne h0, hlen, Nat.zero_add] at K
 have HK := hQ0 K
 have HR := hQ0 hR
 have HN := hQ0 hN
 have HNE := hQ0 hne2
 have hpl : pre.length ≤ 1000 := by omega
 have hne1 : ((pre.length : Int) == -1) = false := beq_eq_false_iff_ne.2 (by omega)
 clear K hne hA hR hne2 h0 hlen hN
 go_enter Tryz.func112, Tryz.ntmps112; (try simp only [List.append_eq, List.cons_append, List.nil_append])
 go_wp2_with (go_at_call 164; refine HK.out.mono ?_; rintro e w1 ⟨rfl, hb1⟩)
 have HB1 : Hid (But g w w1) := hQ0 (But.of_below hb1 (Nat.le_refl _))
 have HR1 := hQ0 (own_below HR.out hb1 (Nat.le_refl _))
 clear hb1 HK HR
 clear hne1
 go_loopg [5, 6] (post.length + 1) (fun gk t5 t6 wr => ∃ (m : Nat) (q : KP), m ≤ post.length ∧ post.length - m < gk ∧ t5 = .int .i64 ((pre.length + m : Nat) : Int) ∧ t6 = .int .i64 ((pre.length + m + 1 : Nat) : Int) ∧ Hid (But g w wr) ∧ Hid (wr.ownsRow base 120 3 (.slice (some ⟨g, 0, none⟩) N cap) N (((pre ++ post.take m) ++ q :: post.drop m).flatMap kpC)))
 case atStart => exact ⟨0, p0, by omega, by omega, by go_num, by go_num, HB1, hQ0 (by simpa using HR1.out)⟩
 case round =>
  obtain ⟨wq, rfl⟩ : ∃ z, z = wr := ⟨_, rfl⟩
  obtain ⟨m, q, hm, hmk, rfl, rfl, HBq, HRq⟩ := hrel
  clear HB1 HR1
  have hNn := HN.out
  have hzq := HBq.out.size
  have hlen : ((pre ++ post.take m) ++ q :: post.drop m).length = N := by simp; omega
  have hAq : RowsAt 3 kpC wq (some ⟨g, 0, none⟩) ((pre ++ post.take m) ++ q :: post.drop m) := rows_own (n := 3) (f := kpC) (by decide) (fun _ => rfl) (by rw [hlen]; exact HRq.out)
  have hpm : (pre ++ post.take m).length = pre.length + m := by rw [List.length_append, List.length_take, Nat.min_eq_left hm]
  have hiq : ((pre ++ post.take m) ++ q :: post.drop m)[pre.length + m]? = some q := by rw [List.getElem?_append_right (by omega), hpm, Nat.sub_self]; rfl
  obtain ⟨g', o', hAe, hg', q0, q1, q2⟩ := kp_get hAq hiq
  simp only [Option.some.injEq, Addr.mk.injEq, and_true] at hAe
  obtain ⟨rfl, rfl⟩ := hAe
  simp only [Nat.zero_add] at q0 q1 q2
  have fzq : ∀ o, wq.frozen? ⟨g, o, none⟩ = false := fun o => HRq.out.frozenAt o
  by_cases hlt : m < post.length
  · obtain ⟨p, hp⟩ : ∃ p, post[m]? = some p := ⟨post[m], by simp⟩
    have hip : ((pre ++ post.take m) ++ q :: post.drop m)[pre.length + m + 1]? = some p := by
     rw [List.getElem?_append_right (by omega), hpm, show pre.length + m + 1 - (pre.length + m) = 0 + 1 by omega, List.getElem?_cons_succ, List.getElem?_drop]
     exact hp
    obtain ⟨g', o', hAe, hg'', p1, p2, p3⟩ := kp_get hAq hip
    simp only [Option.some.injEq, Addr.mk.injEq, and_true] at hAe
    obtain ⟨rfl, rfl⟩ := hAe
    simp only [Nat.zero_add] at p1 p2 p3
    have hpne := HNE.out p (List.mem_of_getElem? hp)
    have KC := fun W => stp_any p.1.key p.2.1 p.1.vals.length p.2.2 p.1.at_ W
    rw [decide_eq_false hpne] at KC
    have HKC := hQ0 KC
    have HP := hQ0 hp
    have i1 : ((pre.length + m + 1 : Nat) : Int) < (N : Int) := by omega
    clear hNn
    clear KC hpne hip hiq hAq hlen hg'' hp
    go_upto_region 8 with (fail)
    (refine pin_eqT (fun w4 hE_w4 => ?_))
    have hX4 : BoxAt w4 wq.heap.size [.string p.1.key, .slice p.2.1 p.1.vals.length p.2.2, .int .i64 p.1.at_] := by rw [hE_w4]; exact BoxAt.new wq _ _
    have HB4 : Hid (But g w w4) := hQ0 (by rw [hE_w4]; exact HBq.out.alloc _)
    have HR4 : Hid (w4.ownsRow base 120 3 (.slice (some ⟨g, 0, none⟩) N cap) N (((pre ++ post.take m) ++ q :: post.drop m).flatMap kpC)) := hQ0 (by rw [hE_w4]; exact HRq.out.alloc _)
    have hB4 : Below wq.heap.size wq w4 := by rw [hE_w4]; exact (Below.refl _ _).alloc (Nat.le_refl _) _
    have hz4 : wq.heap.size < w4.heap.size := by rw [hE_w4]; simp
    have x0 := hX4.c 0 _ rfl
    have x1 := hX4.c 1 _ rfl
    have x2 := hX4.c 2 _ rfl
    have HX4 := hQ0 hX4
    obtain ⟨xb, hxb⟩ : ∃ z, z = wq.heap.size := ⟨_, rfl⟩
    rw [← hxb] at x0 x1 x2 HX4 ⊢
    have hgx : g < xb := by omega
    have HXB := hQ0 hxb
    clear hE_w4 p1 p2 p3 fzq hX4 hxb
    have hxl := HX4.out.lt
    go_wp2_with fail
    (go_at_call 113; refine (HKC.out _).mono ?_; rintro e w5 ⟨rfl, hb5⟩)
    have hX5 := HX4.out.below hb5 hxl
    have y0 := hX5.c 0 _ rfl
    have y1 := hX5.c 1 _ rfl
    have y2 := hX5.c 2 _ rfl
    have HB5 := hQ0 (HB4.out.below hb5 (by omega))
    have HR5 := hQ0 (own_below HR4.out hb5 (Nat.le_refl _))
    have z0 := (hb5.cell (p := ⟨g, (pre.length + m) * 3, none⟩) (by show g < _; omega)).trans ((hB4.cell (p := ⟨g, (pre.length + m) * 3, none⟩) hg').trans q0)
    have z1 := (hb5.cell (p := ⟨g, (pre.length + m) * 3 + 1, none⟩) (by show g < _; omega)).trans ((hB4.cell (p := ⟨g, (pre.length + m) * 3 + 1, none⟩) hg').trans q1)
    have z2 := (hb5.cell (p := ⟨g, (pre.length + m) * 3 + 2, none⟩) (by show g < _; omega)).trans ((hB4.cell (p := ⟨g, (pre.length + m) * 3 + 2, none⟩) hg').trans q2)
    have fz5 : ∀ o, w5.frozen? ⟨g, o, none⟩ = false := fun o => HR5.out.frozenAt o
    have hzz := hb5.size
    have hg5 : g < w5.heap.size := by omega
    clear x0 x1 x2 hX5 q0 q1 q2 hB4 hb5
    go_wp2_with fail
    go_roundg (post.length - m)
    case measure => omega
    case rel => exact ⟨m + 1, p, by omega, by omega, by go_num, by go_num, hQ0 (((HB5.out.set (p := ⟨g, (pre.length + m) * 3, none⟩) _ (.inl rfl)).set (p := ⟨g, (pre.length + m) * 3 + 1, none⟩) _ (.inl rfl)).set (p := ⟨g, (pre.length + m) * 3 + 2, none⟩) _ (.inl rfl)), hQ0 (by
      have h := row_set (p := p) HR5.out hpm
      have e : ((pre ++ post.take (m + 1)) ++ p :: post.drop (m + 1)) = ((pre ++ post.take m) ++ p :: post.drop m) := by
       obtain ⟨h1, rfl⟩ := List.getElem?_eq_some_iff.1 HP.out
       rw [List.take_succ_eq_append_getElem h1, List.append_assoc, List.append_assoc, List.append_assoc]
       congr 2
       exact (List.drop_eq_getElem_cons h1).symm ▸ rfl
      rw [e]
      exact h)⟩
  · obtain rfl : m = post.length := by omega
    have hnc : N ≤ cap := own_capK HRq.out
    have i1 : ¬ ((pre.length + post.length + 1 : Nat) : Int) < (N : Int) := by omega
    have i2 : (pre.length + post.length : Nat) ≤ N := by omega
    have hd : N - (pre.length + post.length) = 1 := by omega
    have hcl := fun ty => clear_one wq ty g ((pre.length + post.length) * 3) (cap - (pre.length + post.length)) _ _ _ q0 q1 q2 fzq
    clear hNn hAq hiq hlen
    go_wp2_with fail
    go_ret
    refine ⟨rfl, ((HBq.out.set (p := ⟨g, (pre.length + post.length) * 3, none⟩) _ (.inl rfl)).set (p := ⟨g, (pre.length + post.length) * 3 + 1, none⟩) _ (.inl rfl)).set (p := ⟨g, (pre.length + post.length) * 3 + 2, none⟩) _ (.inl rfl), ?_⟩
    have h := row_set (p := zKP) HRq.out hpm
    have e : ((pre ++ post.take post.length) ++ zKP :: post.drop post.length).flatMap kpC = pre.flatMap kpC ++ (post.flatMap kpC ++ kpC zKP) := by rw [List.take_length, List.drop_length]; simp
    rw [e] at h
    exact h
attribute [local go_sem ↓] evalL getL64 setL64
attribute [local go_sem ↓] getL8 setL8
attribute [local go_sem ↓] getL1 getL0
theorem TbO.low_cells {W : World} {base tb q o : Nat} {vs : List Value} {t : Tb} {a : TbA} (h : TbO W base tb t a) (hq : q < base) (hn : tb ≠ q) : TbO (W.setCells q o vs) base tb t a := by
 have r : ∀ {e : TypeId} {size n : Nat} {v : Value} {xs : List Value}, W.ownsRow base e size v n xs → (W.setCells q o vs).ownsRow base e size v n xs := fun hr => ownsRow_block hr fun b hb => heap_setCells (by have := (World.ownsRow.lt hr b hb).1; omega) _ _ _
 exact ⟨h.bx.low_cells hn, r h.tr, r h.ws, r h.ars, r h.ps, r h.fs, r h.zs, r h.ss, r h.las, r h.rs, r h.ds, r h.lns⟩
theorem addAll_cons (x : IV) (l : List IV) (t : Tb) (had : Bool) : addAll (x :: l) t had = if x.word = t_table ∧ had = true then .inl (7, (x.at_ : Int)) else if missAll x = true then .inl (8, (x.at_ : Int)) else addAll l (putR t x) (had || decide (x.word = t_table)) := rfl
def afterR (s : ByteArray) (R : Sum (Int × Int) (Tb × Bool)) : Tb × Int × Int := match R with
  | .inl (e, at_) => (tb0, e, at_)
  | .inr (t, had) => if had = false then (tb0, 8, (s.size : Int)) else if checkR t ≠ 0 then (tb0, checkR t, 0) else (t, 0, 0)
set_option maxRecDepth 100000 in
set_option maxHeartbeats 8000000 in
theorem compile_any (s : ByteArray) (w : World) (hm : s.size ≤ maxLen) (ht : Tabs w) (hw0 : ∀ x ∈ (parseR s).1, x.word = t_table ∨ x.word = t_wall) : Calls Tryz.prog 13 #[.string s] w (CompOut (compileR s) w) := by
 have HT := hQ0 ht
 have h3 := ht.three
 have hit := parse_it s hw0
 clear hw0
 have KP := fun W (h : Tabs W) => parse_any s W hm h
 have hC : compileR s = if (parseR s).2.1 ≠ 0 then (tb0, (parseR s).2.1, ((parseR s).2.2 : Int)) else afterR s (addAll (parseR s).1 tb0 false) := rfl
 obtain ⟨R, hR⟩ : ∃ R, R = compileR s := ⟨_, rfl⟩
 rw [← hR] at hC ⊢
 obtain ⟨⟨L, er, pl⟩, hP⟩ : ∃ R, R = parseR s := ⟨_, rfl⟩
 rw [← hP] at hit KP hC
 simp only at hit hC
 obtain ⟨hl4, hok⟩ := hit
 have HOK := hQ0 hok
 have HL4 := hQ0 hl4
 clear ht hR hP hok hl4
 by_cases her : er = 0
 · subst her
   rw [if_neg (by simp)] at hC
   have HC : Hid (R = afterR s (addAll (L.drop 0) tb0 false)) := hQ0 hC
   clear hC
   go_enter Tryz.func13, Tryz.ntmps13; (try simp only [List.append_eq, List.cons_append, List.nil_append])
   go_upto_region 4 with (go_at_call 39; refine (KP _ (HT.out.alloc _)).mono ?_; rintro e w2 ⟨hb2, A, c, rfl, hx2⟩)
   have hz2 := hb2.size
   simp at hz2
   have HX2 := hQ0 hx2.at
   have HB2 : Hid (Below w.heap.size w w2) := hQ0 (((Below.refl w.heap.size w).alloc (Nat.le_refl _) (.cells #[.int .i64 0, .int .i64 0, .int .i64 0, .int .i64 0, .int .i64 0, .int .i64 0, .int .i64 0, .slice none 0 0, .slice none 0 0, .slice none 0 0, .slice none 0 0, .slice none 0 0, .slice none 0 0, .slice none 0 0, .slice none 0 0, .slice none 0 0, .slice none 0 0, .slice none 0 0] 36)).trans (hb2.mono (by simp)))
   have HR2 : Hid (BoxAt w2 w.heap.size (tb0.cells a0)) := hQ0 ((BoxAt.new w (tb0.cells a0) 36).below hb2 (by simp))
   clear hb2 hx2
   go_upto_region 6 with (fail)
   (refine pin_eqT (fun w3 hE_w3 => ?_))
   obtain ⟨tb, htb⟩ : ∃ z, z = w2.heap.size := ⟨_, rfl⟩
   have HO3 : Hid (TbO w3 (tb + 1) tb tb0 a0) := hQ0 (by rw [hE_w3]; exact tbo_new w2 tb htb)
   have HB3 : Hid (Below tb w2 w3) := hQ0 (by rw [hE_w3, htb]; exact (Below.refl _ _).alloc (Nat.le_refl _) _)
   rw [← htb]
   have HTB := hQ0 htb
   have htw : w.heap.size < tb := by omega
   clear hE_w3 htb
   have hLl := HL4.out
   go_wp2_with fail
   go_loopg [9, 26] (L.length + 1) (fun gk t9 t26 wr => ∃ (k : Nat) (t : Tb) (a : TbA) (had : Bool), k ≤ L.length ∧ L.length - k < gk ∧ t26 = .int .i64 k ∧ t9 = .int .i64 (if had = true then 1 else 0) ∧ Hid (Below tb w2 wr) ∧ Hid (TbO wr (tb + 1) tb t a) ∧ Hid (t.le k ∧ t.nms) ∧ Hid (R = afterR s (addAll (L.drop k) t had)))
   case atStart => exact ⟨0, tb0, a0, false, by omega, by omega, rfl, rfl, HB3, HO3, hQ0 ⟨tb0_le 0, tb0_nms⟩, HC⟩
   case round =>
    obtain ⟨wq, rfl⟩ : ∃ z, z = wr := ⟨_, rfl⟩
    clear HB3 HO3 HC
    obtain ⟨k, t, a, had, hk, hkk, rfl, rfl, HBq, HOq, HLe, HJ⟩ := hrel
    have hzq := HBq.out.size
    have htq := HOq.out.bx.lt
    have HRq : Hid (BoxAt wq w.heap.size (tb0.cells a0)) := hQ0 (HR2.out.below HBq.out htw)
    have HBw : Hid (Below w.heap.size w wq) := hQ0 (HB2.out.trans (HBq.out.mono (by omega)))
    by_cases hlt : k < L.length
    · obtain ⟨x, hx⟩ : ∃ x, L[k]? = some x := ⟨L[k], by simp⟩
      have hXq := HX2.out.below (HBq.out.mono (by have := HTB.out; omega)) (Nat.le_refl _)
      obtain ⟨g, o, B, d, rfl, hg, ⟨c0, c1, c2, c3⟩, hKs⟩ := hXq k x hx
      obtain ⟨g', o', B', d', hAe, hg', ⟨c0', c1', c2', c3'⟩, hKs2⟩ := HX2.out k x hx
      simp only [Option.some.injEq, Addr.mk.injEq, and_true] at hAe
      obtain ⟨rfl, rfl⟩ := hAe
      have hq2 := (HBq.out.cell (p := ⟨g, o + k * 4 + 2, none⟩) (by have := HTB.out; show g < tb; omega)).trans c2'
      rw [c2] at hq2
      simp only [Option.some.injEq, Value.slice.injEq, true_and] at hq2
      obtain ⟨rfl, rfl⟩ := hq2
      clear c0' c1' c2' c3' hg' hXq hKs
      have HKs : Hid (∃ w0 : World, KsAt w0 B x.keys ∧ Below w0.heap.size w0 wq ∧ w0.heap.size ≤ tb) := hQ0 ⟨w2, hKs2, HBq.out.mono (by have := HTB.out; omega), by have := HTB.out; omega⟩
      have HI := hQ0 (HOK.out x (List.mem_of_getElem? hx))
      have HS : Hid (L.drop k = x :: L.drop (k + 1)) := hQ0 (by
       obtain ⟨h1, rfl⟩ := List.getElem?_eq_some_iff.1 hx
       exact List.drop_eq_getElem_cons h1)
      have i1 : (k : Int) < (L.length : Int) := by omega
      clear hx hKs2
      go_upto_region 9 with (fail)
      (refine pin_eqT (fun w4 hE_w4 => ?_))
      obtain ⟨xb, hxb⟩ : ∃ z, z = wq.heap.size := ⟨_, rfl⟩
      have HX4 : Hid (BoxAt w4 xb [.string x.word, .string x.name, .slice B x.keys.length d, .int .i64 x.at_]) := hQ0 (by
       rw [hE_w4, hxb]
       exact BoxAt.new wq [.string x.word, .string x.name, .slice B x.keys.length d, .int .i64 x.at_] 97)
      have HB4 : Hid (Below xb wq w4) := hQ0 (by rw [hE_w4, hxb]; ((with_reducible (repeat (first | exact bR _ _ | apply bS | apply bA | apply bD | refine bT ?_ (by assumption) ?_ | refine bO (by assumption) ?_ ?_))) <;> (first | omega | (simp <;> omega))))
      have hz4 : xb < w4.heap.size := HX4.out.lt
      rw [← hxb]
      clear hE_w4 c0 c1 c2 c3
      have htx : tb < xb := by omega
      have HXB := hQ0 hxb
      have x0 := HX4.out.c 0 _ rfl
      have x1 := HX4.out.c 1 _ rfl
      have x2 := HX4.out.c 2 _ rfl
      have x3 := HX4.out.c 3 _ rfl
      have HO4 := hQ0 (HOq.out.below HB4.out (by omega))
      have HBw4 : Hid (Below w.heap.size w w4) := hQ0 (HBw.out.trans (HB4.out.mono (by omega)))
      have HBt4 : Hid (Below tb w2 w4) := hQ0 (HBq.out.trans (HB4.out.mono (by omega)))
      have HR4 : Hid (BoxAt w4 w.heap.size (tb0.cells a0)) := hQ0 (HRq.out.below HB4.out (by omega))
      have HK4 : Hid (∃ w0 : World, KsAt w0 B x.keys ∧ Below w0.heap.size w0 w4 ∧ w0.heap.size ≤ tb) := hQ0 (by
       obtain ⟨w0, q1, q2, q3⟩ := HKs.out
       exact ⟨w0, q1, q2.trans (HB4.out.mono (by omega)), q3⟩)
      have hadd := add_any w4 (tb + 1) tb k t a x B d HO4.out (Nat.lt_succ_self _) (by omega) HK4.out HI.out HLe.out.1 (by omega) xb wq HOq.out (by omega) hz4
      unfold vOfX at hadd
      have HADD := hQ0 hadd
      clear hadd hxb
      by_cases hw : x.word = t_table
      · have b1 : (x.word.toList == ([116, 97, 98, 108, 101] : List UInt8)) = true := by rw [hw]; kernel_rfl
        have HW := hQ0 hw
        clear hw
        cases had
        · by_cases hms : missAll x = true
          · have HE : Hid (R = (tb0, 8, (x.at_ : Int))) := hQ0 (by rw [HJ.out, HS.out, addAll_cons, if_neg (fun h => by cases h.2), if_pos hms]; rfl)
            rw [hms] at HADD
            go_upto_region 14 with (go_at_call 40; refine HADD.out.mono ?_; rintro e w5 ⟨rfl, hb5, a', hO5⟩)
            have HX5 := hQ0 (HX4.out.block hb5.b.size hb5.k)
            have HB5 : Hid (Below w.heap.size w w5) := hQ0 (HBw4.out.trans (hb5.b.mono (by omega)))
            have HR5 := hQ0 (HR4.out.below hb5.b htw)
            clear hb5 hO5 x0 x1 x2 x3
            have hR_ := (HR5.out).drew
            have hB_ : Below w.heap.size w w5.drew := (HB5.out).drew
            have hS_ : (fun W_ => BoxAt W_ xb [.string x.word, .string x.name, .slice B x.keys.length d, .int .i64 x.at_] ∧ True) w5.drew := ⟨HX5.out.drew, trivial⟩
            refine wp_region_N (fun W_ => BoxAt W_ xb [.string x.word, .string x.name, .slice B x.keys.length d, .int .i64 x.at_] ∧ True) 5 [5] (by kernel_rfl) (by kernel_rfl) (tailBJ_of (nx := [3, 2, 5, 4, 5, 0]) (by kernel_rfl)) (by kernel_rfl) ?_
            intro hT_ hD_
            generalize w5.drew = wd_ at hS_ hR_ hB_ ⊢
            apply wpN_maybe (i := 0) hT_ hD_ rfl (by kernel_rfl) true (by exact rfl)
            (case h => intro _; intro W_ hW_; go_simp; first | done | exact rfl); (case hQ => exact fun _ _ _ h => h); (case hS => exact hS_)
            intro hD2_; clear hD_; have hD_ := hD2_; clear hD2_; intro K hK; (try simp only [opt_true]); go_simp; refine hK _ _ ?_; clear hK K
            apply wpN_maybe (i := 1) hT_ hD_ rfl (by kernel_rfl) true (by exact rfl)
            (case h => intro _; intro W_ hW_; go_simp; first | done | exact rfl); (case hQ => exact fun _ _ _ h => h); (case hS => exact hS_)
            intro hD2_; clear hD_; have hD_ := hD2_; clear hD2_; intro K hK; (try simp only [opt_true]); go_simp; refine hK _ _ ?_; clear hK K
            apply wpN_maybe (i := 2) hT_ hD_ rfl (by kernel_rfl) true (by exact rfl)
            (case h => intro _; intro W_ hW_; have hY_ := hW_.1; have y0_ := hY_.c 3 (.int .i64 x.at_) (rfl); go_simp; first | done | exact rfl); (case hQ => exact fun _ _ _ h => h); (case hS => exact hS_)
            intro hD2_; clear hD_; have hD_ := hD2_; clear hD2_; intro K hK; (try simp only [opt_true]); go_simp; refine hK _ _ ?_; clear hK K
            refine wpN_one (i := 3) hD_ rfl (by kernel_rfl) rfl ?_
            intro hD2_; clear hD_; have hD_ := hD2_; clear hD2_; intro K hK
            refine upon_store_tb (.tmp 2) (.tmp 43) rfl w.heap.size _ (by go_simp) tb0 a0 (by go_simp; first | done | rfl) hR_ rfl ?_
            have hS2_ : (fun W_ => BoxAt W_ xb [.string x.word, .string x.name, .slice B x.keys.length d, .int .i64 x.at_] ∧ True) (wd_.setCells w.heap.size 0 (tb0.cells a0)) := ⟨hS_.1.low_cells (by omega), trivial⟩
            refine ⟨hS2_, ?_⟩
            clear hS_
            have hS_ := hS2_
            clear hS2_
            go_simp
            refine hK _ _ ?_
            clear hK K
            apply wpN_maybe (i := 4) hT_ hD_ rfl (by kernel_rfl) true (by exact rfl)
            (case h => intro _; intro W_ hW_; go_simp; first | done | exact rfl); (case hQ => exact fun _ _ _ h => h); (case hS => exact hS_)
            intro hD2_; clear hD_; have hD_ := hD2_; clear hD2_; intro K hK; (try simp only [opt_true]); go_simp; refine hK _ _ ?_; clear hK K
            refine wpZ_nil (by kernel_rfl) ?_
            (try simp only [List.filterMap_cons, List.filterMap_nil, List.getElem?_cons_succ, List.getElem?_cons_zero])
            (try go_simp)
            clear hS_
            go_wp2_with fail
            have hlv := loadv_tb w.heap.size tb0 a0 _ (stored_tb w.heap.size _ tb0 a0 wd_ hR_ rfl)
            refine bodyPost_ret (v := .tuple #[Tb.v tb0 a0, .int .i64 8, .int .i64 x.at_]) (by simp only [results, Tryz.results13]; simp [hlv, asAddr]) rfl ?_
            rw [HE.out]
            refine comp_zero w _ _ _ ?_
            exact below_setCells (Nat.le_refl _) _ _ hB_
          · have hmf : missAll x = false := by simpa using hms
            have HN : Hid (R = afterR s (addAll (L.drop (k + 1)) (putR t x) true)) := hQ0 (by rw [HJ.out, HS.out, addAll_cons, if_neg (fun h => by cases h.2), if_neg hms, show (false || decide (x.word = t_table)) = true from by rw [decide_eq_true HW.out]; rfl])
            rw [hmf] at HADD
            clear hms hmf
            go_wp2_with (go_at_call 40; refine HADD.out.mono ?_; rintro e w5 ⟨rfl, hb5, a', hO5⟩)
            go_roundg (L.length - (k + 1) + 1)
            case measure => omega
            case rel => exact ⟨k + 1, putR t x, a', true, by omega, by omega, by go_num, by first | rfl | (simp; done) | go_num, hQ0 (HBt4.out.trans hb5.b), hQ0 hO5, hQ0 ⟨put_le HLe.out.1, put_nms HLe.out.2 HI.out.nm HI.out.ww⟩, HN⟩
        · have HE : Hid (R = (tb0, 7, (x.at_ : Int))) := hQ0 (by rw [HJ.out, HS.out, addAll_cons, if_pos ⟨HW.out, rfl⟩]; rfl)
          go_upto_region 12 with (fail)
          have hR_ := (HR4.out).drew
          have hB_ : Below w.heap.size w w4.drew := (HBw4.out).drew
          have hS_ : (fun W_ => BoxAt W_ xb [.string x.word, .string x.name, .slice B x.keys.length d, .int .i64 x.at_] ∧ True) w4.drew := ⟨HX4.out.drew, trivial⟩
          refine wp_region_N (fun W_ => BoxAt W_ xb [.string x.word, .string x.name, .slice B x.keys.length d, .int .i64 x.at_] ∧ True) 5 [5] (by kernel_rfl) (by kernel_rfl) (tailBJ_of (nx := [3, 2, 5, 4, 5, 0]) (by kernel_rfl)) (by kernel_rfl) ?_
          intro hT_ hD_
          generalize w4.drew = wd_ at hS_ hR_ hB_ ⊢
          apply wpN_maybe (i := 0) hT_ hD_ rfl (by kernel_rfl) true (by exact rfl)
          (case h => intro _; intro W_ hW_; go_simp; first | done | exact rfl); (case hQ => exact fun _ _ _ h => h); (case hS => exact hS_)
          intro hD2_; clear hD_; have hD_ := hD2_; clear hD2_; intro K hK; (try simp only [opt_true]); go_simp; refine hK _ _ ?_; clear hK K
          apply wpN_maybe (i := 1) hT_ hD_ rfl (by kernel_rfl) true (by exact rfl)
          (case h => intro _; intro W_ hW_; go_simp; first | done | exact rfl); (case hQ => exact fun _ _ _ h => h); (case hS => exact hS_)
          intro hD2_; clear hD_; have hD_ := hD2_; clear hD2_; intro K hK; (try simp only [opt_true]); go_simp; refine hK _ _ ?_; clear hK K
          apply wpN_maybe (i := 2) hT_ hD_ rfl (by kernel_rfl) true (by exact rfl)
          (case h => intro _; intro W_ hW_; have hY_ := hW_.1; have y0_ := hY_.c 3 (.int .i64 x.at_) (rfl); go_simp; first | done | exact rfl); (case hQ => exact fun _ _ _ h => h); (case hS => exact hS_)
          intro hD2_; clear hD_; have hD_ := hD2_; clear hD2_; intro K hK; (try simp only [opt_true]); go_simp; refine hK _ _ ?_; clear hK K
          refine wpN_one (i := 3) hD_ rfl (by kernel_rfl) rfl ?_
          intro hD2_; clear hD_; have hD_ := hD2_; clear hD2_; intro K hK
          refine upon_store_tb (.tmp 2) (.tmp 37) rfl w.heap.size _ (by go_simp) tb0 a0 (by go_simp; first | done | rfl) hR_ rfl ?_
          have hS2_ : (fun W_ => BoxAt W_ xb [.string x.word, .string x.name, .slice B x.keys.length d, .int .i64 x.at_] ∧ True) (wd_.setCells w.heap.size 0 (tb0.cells a0)) := ⟨hS_.1.low_cells (by omega), trivial⟩
          refine ⟨hS2_, ?_⟩
          clear hS_
          have hS_ := hS2_
          clear hS2_
          go_simp
          refine hK _ _ ?_
          clear hK K
          apply wpN_maybe (i := 4) hT_ hD_ rfl (by kernel_rfl) true (by exact rfl)
          (case h => intro _; intro W_ hW_; go_simp; first | done | exact rfl); (case hQ => exact fun _ _ _ h => h); (case hS => exact hS_)
          intro hD2_; clear hD_; have hD_ := hD2_; clear hD2_; intro K hK; (try simp only [opt_true]); go_simp; refine hK _ _ ?_; clear hK K
          refine wpZ_nil (by kernel_rfl) ?_
          (try simp only [List.filterMap_cons, List.filterMap_nil, List.getElem?_cons_succ, List.getElem?_cons_zero])
          (try go_simp)
          clear hS_
          go_wp2_with fail
          have hlv := loadv_tb w.heap.size tb0 a0 _ (stored_tb w.heap.size _ tb0 a0 wd_ hR_ rfl)
          refine bodyPost_ret (v := .tuple #[Tb.v tb0 a0, .int .i64 7, .int .i64 x.at_]) (by simp only [results, Tryz.results13]; simp [hlv, asAddr]) rfl ?_
          rw [HE.out]
          refine comp_zero w _ _ _ ?_
          exact below_setCells (Nat.le_refl _) _ _ hB_
      · have b1 : (x.word.toList == ([116, 97, 98, 108, 101] : List UInt8)) = false := by
         rw [show ([116, 97, 98, 108, 101] : List UInt8) = t_table.toList from by kernel_rfl]
         exact txt_neT hw
        have HW := hQ0 hw
        clear hw
        cases had
        · by_cases hms : missAll x = true
          · have HE : Hid (R = (tb0, 8, (x.at_ : Int))) := hQ0 (by rw [HJ.out, HS.out, addAll_cons, if_neg (fun h => HW.out h.1), if_pos hms]; rfl)
            rw [hms] at HADD
            go_upto_region 14 with (go_at_call 40; refine HADD.out.mono ?_; rintro e w5 ⟨rfl, hb5, a', hO5⟩)
            have HX5 := hQ0 (HX4.out.block hb5.b.size hb5.k)
            have HB5 : Hid (Below w.heap.size w w5) := hQ0 (HBw4.out.trans (hb5.b.mono (by omega)))
            have HR5 := hQ0 (HR4.out.below hb5.b htw)
            clear hb5 hO5 x0 x1 x2 x3
            have hR_ := (HR5.out).drew
            have hB_ : Below w.heap.size w w5.drew := (HB5.out).drew
            have hS_ : (fun W_ => BoxAt W_ xb [.string x.word, .string x.name, .slice B x.keys.length d, .int .i64 x.at_] ∧ True) w5.drew := ⟨HX5.out.drew, trivial⟩
            refine wp_region_N (fun W_ => BoxAt W_ xb [.string x.word, .string x.name, .slice B x.keys.length d, .int .i64 x.at_] ∧ True) 5 [5] (by kernel_rfl) (by kernel_rfl) (tailBJ_of (nx := [3, 2, 5, 4, 5, 0]) (by kernel_rfl)) (by kernel_rfl) ?_
            intro hT_ hD_
            generalize w5.drew = wd_ at hS_ hR_ hB_ ⊢
            apply wpN_maybe (i := 0) hT_ hD_ rfl (by kernel_rfl) true (by exact rfl)
            (case h => intro _; intro W_ hW_; go_simp; first | done | exact rfl); (case hQ => exact fun _ _ _ h => h); (case hS => exact hS_)
            intro hD2_; clear hD_; have hD_ := hD2_; clear hD2_; intro K hK; (try simp only [opt_true]); go_simp; refine hK _ _ ?_; clear hK K
            apply wpN_maybe (i := 1) hT_ hD_ rfl (by kernel_rfl) true (by exact rfl)
            (case h => intro _; intro W_ hW_; go_simp; first | done | exact rfl); (case hQ => exact fun _ _ _ h => h); (case hS => exact hS_)
            intro hD2_; clear hD_; have hD_ := hD2_; clear hD2_; intro K hK; (try simp only [opt_true]); go_simp; refine hK _ _ ?_; clear hK K
            apply wpN_maybe (i := 2) hT_ hD_ rfl (by kernel_rfl) true (by exact rfl)
            (case h => intro _; intro W_ hW_; have hY_ := hW_.1; have y0_ := hY_.c 3 (.int .i64 x.at_) (rfl); go_simp; first | done | exact rfl); (case hQ => exact fun _ _ _ h => h); (case hS => exact hS_)
            intro hD2_; clear hD_; have hD_ := hD2_; clear hD2_; intro K hK; (try simp only [opt_true]); go_simp; refine hK _ _ ?_; clear hK K
            refine wpN_one (i := 3) hD_ rfl (by kernel_rfl) rfl ?_
            intro hD2_; clear hD_; have hD_ := hD2_; clear hD2_; intro K hK
            refine upon_store_tb (.tmp 2) (.tmp 43) rfl w.heap.size _ (by go_simp) tb0 a0 (by go_simp; first | done | rfl) hR_ rfl ?_
            have hS2_ : (fun W_ => BoxAt W_ xb [.string x.word, .string x.name, .slice B x.keys.length d, .int .i64 x.at_] ∧ True) (wd_.setCells w.heap.size 0 (tb0.cells a0)) := ⟨hS_.1.low_cells (by omega), trivial⟩
            refine ⟨hS2_, ?_⟩
            clear hS_
            have hS_ := hS2_
            clear hS2_
            go_simp
            refine hK _ _ ?_
            clear hK K
            apply wpN_maybe (i := 4) hT_ hD_ rfl (by kernel_rfl) true (by exact rfl)
            (case h => intro _; intro W_ hW_; go_simp; first | done | exact rfl); (case hQ => exact fun _ _ _ h => h); (case hS => exact hS_)
            intro hD2_; clear hD_; have hD_ := hD2_; clear hD2_; intro K hK; (try simp only [opt_true]); go_simp; refine hK _ _ ?_; clear hK K
            refine wpZ_nil (by kernel_rfl) ?_
            (try simp only [List.filterMap_cons, List.filterMap_nil, List.getElem?_cons_succ, List.getElem?_cons_zero])
            (try go_simp)
            clear hS_
            go_wp2_with fail
            have hlv := loadv_tb w.heap.size tb0 a0 _ (stored_tb w.heap.size _ tb0 a0 wd_ hR_ rfl)
            refine bodyPost_ret (v := .tuple #[Tb.v tb0 a0, .int .i64 8, .int .i64 x.at_]) (by simp only [results, Tryz.results13]; simp [hlv, asAddr]) rfl ?_
            rw [HE.out]
            refine comp_zero w _ _ _ ?_
            exact below_setCells (Nat.le_refl _) _ _ hB_
          · have hmf : missAll x = false := by simpa using hms
            have HN : Hid (R = afterR s (addAll (L.drop (k + 1)) (putR t x) false)) := hQ0 (by rw [HJ.out, HS.out, addAll_cons, if_neg (fun h => HW.out h.1), if_neg hms, show (false || decide (x.word = t_table)) = false from by rw [decide_eq_false HW.out]; rfl])
            rw [hmf] at HADD
            clear hms hmf
            go_wp2_with (go_at_call 40; refine HADD.out.mono ?_; rintro e w5 ⟨rfl, hb5, a', hO5⟩)
            go_roundg (L.length - (k + 1) + 1)
            case measure => omega
            case rel => exact ⟨k + 1, putR t x, a', false, by omega, by omega, by go_num, by first | rfl | (simp; done) | go_num, hQ0 (HBt4.out.trans hb5.b), hQ0 hO5, hQ0 ⟨put_le HLe.out.1, put_nms HLe.out.2 HI.out.nm HI.out.ww⟩, HN⟩
        · by_cases hms : missAll x = true
          · have HE : Hid (R = (tb0, 8, (x.at_ : Int))) := hQ0 (by rw [HJ.out, HS.out, addAll_cons, if_neg (fun h => HW.out h.1), if_pos hms]; rfl)
            rw [hms] at HADD
            go_upto_region 14 with (go_at_call 40; refine HADD.out.mono ?_; rintro e w5 ⟨rfl, hb5, a', hO5⟩)
            have HX5 := hQ0 (HX4.out.block hb5.b.size hb5.k)
            have HB5 : Hid (Below w.heap.size w w5) := hQ0 (HBw4.out.trans (hb5.b.mono (by omega)))
            have HR5 := hQ0 (HR4.out.below hb5.b htw)
            clear hb5 hO5 x0 x1 x2 x3
            have hR_ := (HR5.out).drew
            have hB_ : Below w.heap.size w w5.drew := (HB5.out).drew
            have hS_ : (fun W_ => BoxAt W_ xb [.string x.word, .string x.name, .slice B x.keys.length d, .int .i64 x.at_] ∧ True) w5.drew := ⟨HX5.out.drew, trivial⟩
            refine wp_region_N (fun W_ => BoxAt W_ xb [.string x.word, .string x.name, .slice B x.keys.length d, .int .i64 x.at_] ∧ True) 5 [5] (by kernel_rfl) (by kernel_rfl) (tailBJ_of (nx := [3, 2, 5, 4, 5, 0]) (by kernel_rfl)) (by kernel_rfl) ?_
            intro hT_ hD_
            generalize w5.drew = wd_ at hS_ hR_ hB_ ⊢
            apply wpN_maybe (i := 0) hT_ hD_ rfl (by kernel_rfl) true (by exact rfl)
            (case h => intro _; intro W_ hW_; go_simp; first | done | exact rfl); (case hQ => exact fun _ _ _ h => h); (case hS => exact hS_)
            intro hD2_; clear hD_; have hD_ := hD2_; clear hD2_; intro K hK; (try simp only [opt_true]); go_simp; refine hK _ _ ?_; clear hK K
            apply wpN_maybe (i := 1) hT_ hD_ rfl (by kernel_rfl) true (by exact rfl)
            (case h => intro _; intro W_ hW_; go_simp; first | done | exact rfl); (case hQ => exact fun _ _ _ h => h); (case hS => exact hS_)
            intro hD2_; clear hD_; have hD_ := hD2_; clear hD2_; intro K hK; (try simp only [opt_true]); go_simp; refine hK _ _ ?_; clear hK K
            apply wpN_maybe (i := 2) hT_ hD_ rfl (by kernel_rfl) true (by exact rfl)
            (case h => intro _; intro W_ hW_; have hY_ := hW_.1; have y0_ := hY_.c 3 (.int .i64 x.at_) (rfl); go_simp; first | done | exact rfl); (case hQ => exact fun _ _ _ h => h); (case hS => exact hS_)
            intro hD2_; clear hD_; have hD_ := hD2_; clear hD2_; intro K hK; (try simp only [opt_true]); go_simp; refine hK _ _ ?_; clear hK K
            refine wpN_one (i := 3) hD_ rfl (by kernel_rfl) rfl ?_
            intro hD2_; clear hD_; have hD_ := hD2_; clear hD2_; intro K hK
            refine upon_store_tb (.tmp 2) (.tmp 43) rfl w.heap.size _ (by go_simp) tb0 a0 (by go_simp; first | done | rfl) hR_ rfl ?_
            have hS2_ : (fun W_ => BoxAt W_ xb [.string x.word, .string x.name, .slice B x.keys.length d, .int .i64 x.at_] ∧ True) (wd_.setCells w.heap.size 0 (tb0.cells a0)) := ⟨hS_.1.low_cells (by omega), trivial⟩
            refine ⟨hS2_, ?_⟩
            clear hS_
            have hS_ := hS2_
            clear hS2_
            go_simp
            refine hK _ _ ?_
            clear hK K
            apply wpN_maybe (i := 4) hT_ hD_ rfl (by kernel_rfl) true (by exact rfl)
            (case h => intro _; intro W_ hW_; go_simp; first | done | exact rfl); (case hQ => exact fun _ _ _ h => h); (case hS => exact hS_)
            intro hD2_; clear hD_; have hD_ := hD2_; clear hD2_; intro K hK; (try simp only [opt_true]); go_simp; refine hK _ _ ?_; clear hK K
            refine wpZ_nil (by kernel_rfl) ?_
            (try simp only [List.filterMap_cons, List.filterMap_nil, List.getElem?_cons_succ, List.getElem?_cons_zero])
            (try go_simp)
            clear hS_
            go_wp2_with fail
            have hlv := loadv_tb w.heap.size tb0 a0 _ (stored_tb w.heap.size _ tb0 a0 wd_ hR_ rfl)
            refine bodyPost_ret (v := .tuple #[Tb.v tb0 a0, .int .i64 8, .int .i64 x.at_]) (by simp only [results, Tryz.results13]; simp [hlv, asAddr]) rfl ?_
            rw [HE.out]
            refine comp_zero w _ _ _ ?_
            exact below_setCells (Nat.le_refl _) _ _ hB_
          · have hmf : missAll x = false := by simpa using hms
            have HN : Hid (R = afterR s (addAll (L.drop (k + 1)) (putR t x) true)) := hQ0 (by rw [HJ.out, HS.out, addAll_cons, if_neg (fun h => HW.out h.1), if_neg hms, show (true || decide (x.word = t_table)) = true from by rw [decide_eq_false HW.out]; rfl])
            rw [hmf] at HADD
            clear hms hmf
            go_wp2_with (go_at_call 40; refine HADD.out.mono ?_; rintro e w5 ⟨rfl, hb5, a', hO5⟩)
            go_roundg (L.length - (k + 1) + 1)
            case measure => omega
            case rel => exact ⟨k + 1, putR t x, a', true, by omega, by omega, by go_num, by first | rfl | (simp; done) | go_num, hQ0 (HBt4.out.trans hb5.b), hQ0 hO5, hQ0 ⟨put_le HLe.out.1, put_nms HLe.out.2 HI.out.nm HI.out.ww⟩, HN⟩
    · obtain rfl : k = L.length := by omega
      cases had
      · have HE : Hid (R = (tb0, 8, (s.size : Int))) := hQ0 (by rw [HJ.out, List.drop_length]; rfl)
        go_upto_region 17 with (fail)
        refine wp_region_lit ?_
        have hS_ : Below wq.heap.size wq wq := Below.refl _ _
        apply wpL_maybe true (by exact rfl)
        (case h => intro _; have hcW_ := (bcellW hS_).1; go_simp; first | done | exact rfl)
        intro K hK; (try simp only [opt_true]); go_simp; refine hK _ _ ?_; clear hK K
        apply wpL_maybe true (by exact rfl)
        (case h => intro _; have hcW_ := (bcellW hS_).1; go_simp; first | done | exact rfl)
        intro K hK; (try simp only [opt_true]); go_simp; refine hK _ _ ?_; clear hK K
        apply wpL_maybe true (by exact rfl)
        (case h => intro _; have hcW_ := (bcellW hS_).1; go_simp; first | done | exact rfl)
        intro K hK; (try simp only [opt_true]); go_simp; refine hK _ _ ?_; clear hK K
        (try go_simp)
        clear hS_
        refine wpList_store_tb rfl (.tmp 2) (.tmp 49) rfl w.heap.size _ (by go_simp) tb0 a0 (by go_simp; first | done | rfl) HRq.out rfl ?_
        go_simp
        go_wp2_with fail
        have hlv := loadv_tb w.heap.size tb0 a0 _ (stored_tb w.heap.size _ tb0 a0 wq HRq.out rfl)
        refine bodyPost_ret (v := .tuple #[Tb.v tb0 a0, .int .i64 8, .int .i64 s.size]) (by simp only [results, Tryz.results13]; simp [hlv, asAddr]) rfl ?_
        rw [HE.out]
        refine comp_zero w _ _ _ ?_
        exact below_setCells (Nat.le_refl _) _ _ (HBw.out)
      · have HE : Hid (R = if checkR t ≠ 0 then (tb0, checkR t, 0) else (t, 0, 0)) := hQ0 (by rw [HJ.out, List.drop_length]; rfl)
        obtain ⟨ce, hce⟩ : ∃ z, z = checkR t := ⟨_, rfl⟩
        rw [← hce] at HE
        have HCE := hQ0 hce
        clear hce
        go_upto_region 18 with (fail)
        refine wp_region_lit ?_
        have hS_ : Below wq.heap.size wq wq := Below.refl _ _
        apply wpL_maybe true (by exact rfl) (t.v a)
        (case h => intro _; exact load_tb _ _ 8 rfl tb (by first | rfl | (go_simp; done)) t a _ (HOq.out.bx.below hS_ htq))
        intro K hK; (try simp only [opt_true]); go_simp; refine hK _ _ ?_; clear hK K
        refine wpL_callm (S := Below wq.heap.size wq)  true (by exact rfl) (.int .i64 ce) ?_ hS_ ?_
        · intro _; intro N_ hN_; generalize hA_ : Act.mk _ _ = A_ at hN_ ⊢; (have v52_ := (congrArg (fun z_ : Act => z_.eval (.tmp 52)) hA_.symm).trans (evalL _ _ 52); simp only [getL64, getL8, getL1, getL0, opt_true, Bool.not_false] at v52_); clear hA_; have vc_ : ∀ v_, Act.eval A_ (.const v_) = v_ := (fun _ => rfl); have vf_ : ∀ f_, Act.eval A_ (.func f_) = .func (.func f_) #[] #[] := (fun _ => rfl); generalize Act.eval A_ = ev_ at vc_ vf_ v52_ ⊢; go_simp; go_at_call 11; refine (check_any t a _ (HOq.out.at.below hS_ (Nat.le_refl _)) HOq.out.cap (tsmall_of HLe.out.2 HLe.out.1 (by omega)) HLe.out.2.o).mono ?_; rintro e w9 ⟨rfl, hb9⟩; rw [← HCE.out]; exact hN_ _ (hS_.trans (hb9.mono hS_.size))
        intro K hK w_ hS2_; go_simp; refine hK _ _ ?_; clear hK K hS_; have hS_ := hS2_; clear hS2_
        apply wpL_maybe true (by exact rfl)
        (case h => intro _; have hcW_ := (bcellW hS_).1; go_simp; first | done | exact rfl)
        intro K hK; (try simp only [opt_true]); go_simp; refine hK _ _ ?_; clear hK K
        refine wpList_nil ?_
        (try go_simp)
        obtain ⟨w6, hw6⟩ : ∃ z, z = w_ := ⟨_, rfl⟩
        rw [← hw6] at hS_ ⊢
        clear hw6
        have HB6 : Hid (Below w.heap.size w w6) := hQ0 (HBw.out.trans (hS_.mono (by omega)))
        have HR6 := hQ0 (HRq.out.below hS_ (by omega))
        have HO6 := hQ0 (HOq.out.below hS_ (Nat.le_refl _))
        clear hS_
        by_cases hce : ce = 0
        · have e0 : R = (t, 0, 0) := by rw [HE.out, if_neg (by simpa using hce)]
          subst hce
          have E0 := hQ0 e0
          clear e0
          go_upto_region 21 with (fail)
          refine wp_region_lit ?_
          have hS_ : Below w6.heap.size w6 w6 := Below.refl _ _
          apply wpL_maybe true (by exact rfl) (t.v a)
          (case h => intro _; exact load_tb _ _ 8 rfl tb (by first | rfl | (go_simp; done)) t a _ (HO6.out.bx.below hS_ HO6.out.bx.lt))
          intro K hK; (try simp only [opt_true]); go_simp; refine hK _ _ ?_; clear hK K
          (try go_simp)
          clear hS_
          refine wpList_store_tb rfl (.tmp 2) (.tmp 58) rfl w.heap.size _ (by go_simp) t a (by go_simp; first | done | rfl) HR6.out rfl ?_
          go_simp
          go_wp2_with fail
          have hlv := loadv_tb w.heap.size t a _ (stored_tb w.heap.size _ t a w6 HR6.out rfl)
          refine bodyPost_ret (v := .tuple #[Tb.v t a, .int .i64 0, .int .i64 0]) (by simp only [results, Tryz.results13]; simp [hlv, asAddr]) rfl ?_
          have hO7 := HO6.out.low_cells (q := w.heap.size) (o := 0) (vs := t.cells a) (by omega) (by omega)
          rw [E0.out]
          exact ⟨a, rfl, below_setCells (Nat.le_refl _) _ _ HB6.out, hO7.at, HO6.out.cap, L.length, HLe.out.2, HLe.out.1, by omega⟩
        · have e0 : R = (tb0, ce, 0) := by rw [HE.out, if_pos hce]
          have e1 : (ce != 0) = true := by simpa using hce
          have E0 := hQ0 e0
          clear e0 hce
          go_upto_region 20 with (fail)
          refine wp_region_lit ?_
          have hS_ : Below w6.heap.size w6 w6 := Below.refl _ _
          apply wpL_maybe true (by exact rfl)
          (case h => intro _; have hcW_ := (bcellW hS_).1; go_simp; first | done | exact rfl)
          intro K hK; (try simp only [opt_true]); go_simp; refine hK _ _ ?_; clear hK K
          apply wpL_maybe true (by exact rfl)
          (case h => intro _; have hcW_ := (bcellW hS_).1; go_simp; first | done | exact rfl)
          intro K hK; (try simp only [opt_true]); go_simp; refine hK _ _ ?_; clear hK K
          (try go_simp)
          clear hS_
          refine wpList_store_tb rfl (.tmp 2) (.tmp 56) rfl w.heap.size _ (by go_simp) tb0 a0 (by go_simp; first | done | rfl) HR6.out rfl ?_
          go_simp
          go_wp2_with fail
          have hlv := loadv_tb w.heap.size tb0 a0 _ (stored_tb w.heap.size _ tb0 a0 w6 HR6.out rfl)
          refine bodyPost_ret (v := .tuple #[Tb.v tb0 a0, .int .i64 ce, .int .i64 0]) (by simp only [results, Tryz.results13]; simp [hlv, asAddr]) rfl ?_
          rw [E0.out]
          refine comp_zero w _ _ _ ?_
          exact below_setCells (Nat.le_refl _) _ _ (HB6.out)
 · have e1 : (er != 0) = true := by simpa using her
   rw [if_pos her] at hC
   subst hC
   clear her
   go_enter Tryz.func13, Tryz.ntmps13; (try simp only [List.append_eq, List.cons_append, List.nil_append])
   go_upto_region 3 with (go_at_call 39; refine (KP _ (HT.out.alloc _)).mono ?_; rintro e w2 ⟨hb2, A, c, rfl, hx2⟩)
   have hz2 := hb2.size
   simp at hz2
   have HR0 := hQ0 ((BoxAt.new w (tb0.cells a0) 36).below hb2 (by simp))
   have HBZ := hQ0 hb2
   clear hb2
   refine wp_region_lit ?_
   have hS_ : Below w2.heap.size w2 w2 := Below.refl _ _
   apply wpL_maybe true (by exact rfl)
   (case h => intro _; have hcW_ := (bcellW hS_).1; go_simp; first | done | exact rfl)
   intro K hK; (try simp only [opt_true]); go_simp; refine hK _ _ ?_; clear hK K
   apply wpL_maybe true (by exact rfl)
   (case h => intro _; have hcW_ := (bcellW hS_).1; go_simp; first | done | exact rfl)
   intro K hK; (try simp only [opt_true]); go_simp; refine hK _ _ ?_; clear hK K
   apply wpL_maybe true (by exact rfl)
   (case h => intro _; have hcW_ := (bcellW hS_).1; go_simp; first | done | exact rfl)
   intro K hK; (try simp only [opt_true]); go_simp; refine hK _ _ ?_; clear hK K
   (try go_simp)
   clear hS_
   refine wpList_store_tb rfl (.tmp 2) (.tmp 21) rfl w.heap.size _ (by go_simp) tb0 a0 (by go_simp; first | done | rfl) HR0.out rfl ?_
   go_simp
   go_wp2_with fail
   have hlv := loadv_tb w.heap.size tb0 a0 _ (stored_tb w.heap.size _ tb0 a0 w2 HR0.out rfl)
   refine bodyPost_ret (v := .tuple #[Tb.v tb0 a0, .int .i64 er, .int .i64 (pl : Int)]) (by simp only [results, Tryz.results13]; simp [hlv, asAddr]) rfl ?_
   refine comp_zero w _ _ _ ?_
   exact below_setCells (Nat.le_refl _) _ _ (((Below.refl w.heap.size w).alloc (Nat.le_refl _) _).trans (HBZ.out.mono (by simp)))
set_option maxRecDepth 100000 in
def fr501 (s : Nat → Value) : List Value := s 0 :: s 1 :: s 2 :: s 3 :: s 4 :: s 5 :: s 6 :: s 7 :: s 8 :: s 9 :: s 10 :: s 11 :: s 12 :: s 13 :: s 14 :: s 15 :: s 16 :: s 17 :: s 18 :: s 19 :: s 20 :: s 21 :: s 22 :: s 23 :: s 24 :: s 25 :: s 26 :: s 27 :: s 28 :: s 29 :: s 30 :: s 31 :: s 32 :: s 33 :: s 34 :: s 35 :: s 36 :: s 37 :: s 38 :: s 39 :: s 40 :: s 41 :: s 42 :: s 43 :: s 44 :: s 45 :: s 46 :: s 47 :: s 48 :: s 49 :: s 50 :: s 51 :: s 52 :: s 53 :: s 54 :: s 55 :: s 56 :: s 57 :: s 58 :: s 59 :: s 60 :: s 61 :: s 62 :: s 63 :: s 64 :: s 65 :: s 66 :: s 67 :: s 68 :: s 69 :: s 70 :: s 71 :: s 72 :: s 73 :: s 74 :: s 75 :: s 76 :: s 77 :: s 78 :: s 79 :: s 80 :: s 81 :: s 82 :: s 83 :: s 84 :: s 85 :: s 86 :: s 87 :: s 88 :: s 89 :: s 90 :: s 91 :: s 92 :: s 93 :: s 94 :: s 95 :: s 96 :: s 97 :: s 98 :: s 99 :: s 100 :: s 101 :: s 102 :: s 103 :: s 104 :: s 105 :: s 106 :: s 107 :: s 108 :: s 109 :: s 110 :: s 111 :: s 112 :: s 113 :: s 114 :: s 115 :: s 116 :: s 117 :: s 118 :: s 119 :: s 120 :: s 121 :: s 122 :: s 123 :: s 124 :: s 125 :: s 126 :: s 127 :: s 128 :: s 129 :: s 130 :: s 131 :: s 132 :: s 133 :: s 134 :: s 135 :: s 136 :: s 137 :: s 138 :: s 139 :: s 140 :: s 141 :: s 142 :: s 143 :: s 144 :: s 145 :: s 146 :: s 147 :: s 148 :: s 149 :: s 150 :: s 151 :: s 152 :: s 153 :: s 154 :: s 155 :: s 156 :: s 157 :: s 158 :: s 159 :: s 160 :: s 161 :: s 162 :: s 163 :: s 164 :: s 165 :: s 166 :: s 167 :: s 168 :: s 169 :: s 170 :: s 171 :: s 172 :: s 173 :: s 174 :: s 175 :: s 176 :: s 177 :: s 178 :: s 179 :: s 180 :: s 181 :: s 182 :: s 183 :: s 184 :: s 185 :: s 186 :: s 187 :: s 188 :: s 189 :: s 190 :: s 191 :: s 192 :: s 193 :: s 194 :: s 195 :: s 196 :: s 197 :: s 198 :: s 199 :: s 200 :: s 201 :: s 202 :: s 203 :: s 204 :: s 205 :: s 206 :: s 207 :: s 208 :: s 209 :: s 210 :: s 211 :: s 212 :: s 213 :: s 214 :: s 215 :: s 216 :: s 217 :: s 218 :: s 219 :: s 220 :: s 221 :: s 222 :: s 223 :: s 224 :: s 225 :: s 226 :: s 227 :: s 228 :: s 229 :: s 230 :: s 231 :: s 232 :: s 233 :: s 234 :: s 235 :: s 236 :: s 237 :: s 238 :: s 239 :: s 240 :: s 241 :: s 242 :: s 243 :: s 244 :: s 245 :: s 246 :: s 247 :: s 248 :: s 249 :: s 250 :: s 251 :: s 252 :: s 253 :: s 254 :: s 255 :: s 256 :: s 257 :: s 258 :: s 259 :: s 260 :: s 261 :: s 262 :: s 263 :: s 264 :: s 265 :: s 266 :: s 267 :: s 268 :: s 269 :: s 270 :: s 271 :: s 272 :: s 273 :: s 274 :: s 275 :: s 276 :: s 277 :: s 278 :: s 279 :: s 280 :: s 281 :: s 282 :: s 283 :: s 284 :: s 285 :: s 286 :: s 287 :: s 288 :: s 289 :: s 290 :: s 291 :: s 292 :: s 293 :: s 294 :: s 295 :: s 296 :: s 297 :: s 298 :: s 299 :: s 300 :: s 301 :: s 302 :: s 303 :: s 304 :: s 305 :: s 306 :: s 307 :: s 308 :: s 309 :: s 310 :: s 311 :: s 312 :: s 313 :: s 314 :: s 315 :: s 316 :: s 317 :: s 318 :: s 319 :: s 320 :: s 321 :: s 322 :: s 323 :: s 324 :: s 325 :: s 326 :: s 327 :: s 328 :: s 329 :: s 330 :: s 331 :: s 332 :: s 333 :: s 334 :: s 335 :: s 336 :: s 337 :: s 338 :: s 339 :: s 340 :: s 341 :: s 342 :: s 343 :: s 344 :: s 345 :: s 346 :: s 347 :: s 348 :: s 349 :: s 350 :: s 351 :: s 352 :: s 353 :: s 354 :: s 355 :: s 356 :: s 357 :: s 358 :: s 359 :: s 360 :: s 361 :: s 362 :: s 363 :: s 364 :: s 365 :: s 366 :: s 367 :: s 368 :: s 369 :: s 370 :: s 371 :: s 372 :: s 373 :: s 374 :: s 375 :: s 376 :: s 377 :: s 378 :: s 379 :: s 380 :: s 381 :: s 382 :: s 383 :: s 384 :: s 385 :: s 386 :: s 387 :: s 388 :: s 389 :: s 390 :: s 391 :: s 392 :: s 393 :: s 394 :: s 395 :: s 396 :: s 397 :: s 398 :: s 399 :: s 400 :: s 401 :: s 402 :: s 403 :: s 404 :: s 405 :: s 406 :: s 407 :: s 408 :: s 409 :: s 410 :: s 411 :: s 412 :: s 413 :: s 414 :: s 415 :: s 416 :: s 417 :: s 418 :: s 419 :: s 420 :: s 421 :: s 422 :: s 423 :: s 424 :: s 425 :: s 426 :: s 427 :: s 428 :: s 429 :: s 430 :: s 431 :: s 432 :: s 433 :: s 434 :: s 435 :: s 436 :: s 437 :: s 438 :: s 439 :: s 440 :: s 441 :: s 442 :: s 443 :: s 444 :: s 445 :: s 446 :: s 447 :: s 448 :: s 449 :: s 450 :: s 451 :: s 452 :: s 453 :: s 454 :: s 455 :: s 456 :: s 457 :: s 458 :: s 459 :: s 460 :: s 461 :: s 462 :: s 463 :: s 464 :: s 465 :: s 466 :: s 467 :: s 468 :: s 469 :: s 470 :: s 471 :: s 472 :: s 473 :: s 474 :: s 475 :: s 476 :: s 477 :: s 478 :: s 479 :: s 480 :: s 481 :: s 482 :: s 483 :: s 484 :: s 485 :: s 486 :: s 487 :: s 488 :: s 489 :: s 490 :: s 491 :: s 492 :: s 493 :: s 494 :: s 495 :: s 496 :: s 497 :: s 498 :: s 499 :: s 500 :: []
set_option maxRecDepth 100000 in
theorem fr501_ex (L : List Value) (h : L.length = 501) : ∃ s : Nat → Value, L = fr501 s := ⟨fun i => L.getD i undef, (map_getD L 501 h).trans (by kernel_rfl)⟩
def kv1 (k : ByteArray) (n : Int) : KV := ⟨k, [n], 0⟩
def kv2 (k : ByteArray) (a b : Int) : KV := ⟨k, [a, b], 0⟩
def wlW (kd : Int) : ByteArray := if kd = 1 then t_wall else if kd = 2 then t_gate else if kd = 3 then t_target else if kd = 4 then t_sling else ⟨#[]⟩
def itWl (x : Wl) : IV := ⟨wlW x.kd, x.nm, [kv1 k_level x.lv, kv2 k_from x.a1 x.a2, kv2 k_to x.b1 x.b2, kv1 k_rest x.rs, kv1 k_grip x.gr, kv1 k_kick x.kk, kv1 k_min x.mn, kv1 k_coil x.cl, kv1 k_switch x.sw], 0⟩
def itAc (x : Ac) : IV := ⟨t_arc, x.nm, [kv1 k_level x.lv, kv2 k_center x.c1 x.c2, kv2 k_from x.s1 x.s2, kv2 k_to x.e1 x.e2, kv1 k_rest x.rs, kv1 k_grip x.gr, kv1 k_min x.mn, kv1 k_switch x.sw], 0⟩
def itPs (x : Ps) : IV := ⟨t_post, x.nm, [kv1 k_level x.lv, kv2 k_center x.c1 x.c2, kv1 k_size x.sz, kv1 k_rest x.rs, kv1 k_grip x.gr, kv1 k_kick x.kk, kv1 k_min x.mn, kv1 k_coil x.cl, kv1 k_switch x.sw], 0⟩
def itFl (x : Fl) : IV := ⟨t_flipper, x.nm, [kv1 k_level x.lv, kv2 k_center x.p1 x.p2, kv1 k_length x.ln] ++ ((if x.mi = true then [⟨k_mirror, [], 0⟩] else []) ++ [kv2 k_range x.lo x.hi, kv1 k_up x.up, kv1 k_down x.dn, kv1 k_max x.mx, kv1 k_rest x.rs, kv1 k_grip x.gr, kv1 k_coil x.cl, kv1 k_switch x.sw]), 0⟩
def itZn (x : Zn) : IV := ⟨t_zone, x.nm, [kv1 k_level x.lv, kv2 k_from x.l1 x.l2, kv2 k_to x.h1 x.h2, kv2 k_half x.f1 x.f2, kv1 k_coil x.cl], 0⟩
def itSc (x : Sc) : IV := ⟨t_saucer, x.nm, [kv1 k_level x.lv, kv2 k_center x.c1 x.c2, kv1 k_size x.sz, kv1 k_limit x.lm, kv2 k_out x.o1 x.o2, kv1 k_coil x.cl, kv1 k_switch x.sw], 0⟩
def itLa (x : La) : IV := ⟨t_lane, x.nm, [kv1 k_level x.lv, kv2 k_center x.c1 x.c2, kv1 k_size x.sz, kv1 k_switch x.sw], 0⟩
def itRa (x : Ra) : IV := ⟨t_ramp, x.nm, [kv1 k_level x.fr, kv1 k_into x.to, kv2 k_center x.c1 x.c2, kv1 k_size x.sz, kv2 k_dir x.d1 x.d2], 0⟩
def itDr (x : Dr) : IV := ⟨t_drain, x.nm, [kv1 k_level x.lv, kv2 k_center x.c1 x.c2, kv1 k_size x.sz], 0⟩
def itLn (x : Ln) : IV := ⟨t_launcher, x.nm, [kv1 k_level x.lv, kv2 k_center x.a1 x.a2, kv2 k_out x.v1 x.v2, kv1 k_coil x.cl], 0⟩
def itTb (t : Tb) : IV := ⟨t_table, ⟨#[]⟩, [kv1 k_radius t.rad, kv1 k_balls t.bal, kv2 k_gravity t.gx t.gy, kv2 k_drag t.drg t.shf, kv1 k_rest t.rst] ++ (match t.tr with
  | [] => []
  | a :: _ => [kv1 k_trough a]), 0⟩
theorem numA (key : ByteArray) (A : Option Addr) (n c : Nat) (w : World) :
  Calls Tryz.prog 56 #[.string key, .slice A n c] w fun e w' => e = .returned (.agg #[.string key, .slice A n c, .int .i64 0]) ∧ Below w.heap.size w w' := num_any key A n c w
def VecA (key : ByteArray) (x y : Int) (N : Nat) (w : World) (e : Ending) (w' : World) : Prop := ∃ A c, e = .returned (.agg #[.string key, .slice A 2 c, .int .i64 0]) ∧ Below w.heap.size w w' ∧ OwnI w' N A c [x, y]
theorem vecA (key : ByteArray) (x y : Int) (N : Nat) (w : World) (hN : N ≤ w.heap.size) :
  Calls Tryz.prog 58 #[.string key, .agg #[.int .i64 x, .int .i64 y]] w (VecA key x y N w) := (kvec_any key x y w).mono fun e w' ⟨A, c, h1, h2, h3⟩ => ⟨A, c, h1, h2, h3.weaker hN⟩
theorem cl_owni (N : Nat) (A : Option Addr) (c : Nat) (l : List Int) : Cl (fun W => OwnI W N A c l) := fun _ _ h hb => own_below h hb (Nat.le_refl _)
theorem st_noneB (word name : ByteArray) (l : List KP) (g cap : Nat) (w : World) (hA : RowsAt 3 kpC w (some ⟨g, 0, none⟩) l) (hl : l.length ≤ 1000) (hne : ∀ p ∈ l, ¬ p.1.key = ⟨#[]⟩) :
  Calls Tryz.prog 57 #[.string word, .string name, .slice (some ⟨g, 0, none⟩) l.length cap] w fun e w' => e = .returned (.agg #[.string word, .string name, .slice (some ⟨g, 0, none⟩) l.length cap, .int .i64 0]) ∧ Below w.heap.size w w' := by
 have K := del_none l g cap _ (hA.below ((Below.refl w.heap.size w).alloc (Nat.le_refl _) (.cells #[.string ⟨#[]⟩, .string ⟨#[]⟩, .slice none 0 0, .int .i64 0] 97)) (Nat.le_refl _)) hl hne
 have HK := hQ0 K
 clear K hne hA
 go_enter Tryz.func57, Tryz.ntmps57; (try simp only [List.append_eq, List.cons_append, List.nil_append])
 go_wp2_with fail
 (go_at_call 112; refine HK.out.mono ?_; rintro e w1 ⟨rfl, hb1⟩)
 have hX := (BoxAt.new w [.string ⟨#[]⟩, .string ⟨#[]⟩, .slice none 0 0, .int .i64 0] 97).below hb1 (by simp)
 have x0 := hX.c 0 _ rfl
 have x1 := hX.c 1 _ rfl
 have x2 := hX.c 2 _ rfl
 have x3 := hX.c 3 _ rfl
 have xz := hX.fz
 have xl := hX.lt
 have hz1 := hb1.size
 simp at hz1
 have HB1 : Hid (Below w.heap.size w w1) := hQ0 (((Below.refl w.heap.size w).alloc (Nat.le_refl _) _).trans (hb1.mono (by simp)))
 clear hX HK hb1
 go_wp2_with fail
 refine bodyPost_ret (v := .agg #[.string word, .string name, .slice (some ⟨g, 0, none⟩) l.length cap, .int .i64 0]) (by simp only [results, Tryz.results57]; go_simp) rfl ?_
 exact ⟨rfl, (((HB1.out.setCell (by simp) _).setCell (by simp) _).setCell (by simp) _).setCell (by simp) _⟩
theorem own_blk {w : World} {base g n size : Nat} {e : TypeId} {cs : Array Value} (h : w.heap[g]? = some (.cells cs e)) (hb : base ≤ g) (hn : n ≤ 1000) (hs : cs.size = n * size) : w.ownsRow base e size (.slice (some ⟨g, 0, none⟩) n n) n cs.toList :=
 ⟨by simpa using hs, .inr ⟨g, n, cs, rfl, hb, h, Nat.le_refl _, by unfold maxLen; omega, hs, List.take_of_length_le (by rw [Array.length_toList, hs]; exact Nat.le_refl _)⟩⟩
theorem rows_blk {w : World} {g : Nat} {e : TypeId} {cs : Array Value} (l : List KP) (h : w.heap[g]? = some (.cells cs e)) (hs : cs.toList = l.flatMap kpC) : RowsAt 3 kpC w (some ⟨g, 0, none⟩) l := fun k x hx => by
 refine ⟨g, 0, rfl, (Array.getElem?_eq_some_iff.1 h).1, fun j u hu => ?_⟩
 rw [Nat.zero_add, cell_of_row w g _ cs e (0, 0) h, ← Array.getElem?_toList, hs]
 exact flat_get kpC 3 (fun _ => rfl) l k j x u hx hu
theorem KsOwn.blk {w : World} {base g : Nat} {cs : Array Value} (l : List KP) (h : w.heap[g]? = some (.cells cs 120)) (hs : cs.toList = l.flatMap kpC) (hb : base ≤ g) (hn : l.length ≤ 1000) (hv : ∀ p ∈ l, OwnI w base p.2.1 p.2.2 p.1.vals) : KsOwn w base 120 (some ⟨g, 0, none⟩) l.length (l.map (·.1)) := by
 have hz : cs.size = l.length * 3 := by rw [← Array.length_toList, hs]; exact flatK l
 have ho := own_blk (base := base) (size := 3) h hb hn hz
 rw [hs] at ho
 exact ⟨l, rfl, by rw [List.length_map]; exact ho, hv⟩
theorem OwnI.blk1 {w : World} {base g : Nat} {x : Int} (h : w.heap[g]? = some (.cells #[.int .i64 x] 3)) (hb : base ≤ g) : OwnI w base (some ⟨g, 0, none⟩) 1 [x] := own_blk (n := 1) (size := 1) h hb (by omega) rfl
theorem OwnI.blk2 {w : World} {base g : Nat} {x y : Int} (h : w.heap[g]? = some (.cells #[.int .i64 x, .int .i64 y] 3)) (hb : base ≤ g) : OwnI w base (some ⟨g, 0, none⟩) 2 [x, y] := own_blk (n := 2) (size := 1) h hb (by omega) rfl
theorem nk {l : List KP} (h : l.all (fun p => !decide (p.1.key = ⟨#[]⟩)) = true) : ∀ p ∈ l, ¬ p.1.key = ⟨#[]⟩ := fun p hp => by
 have := List.all_eq_true.1 h p hp
 simpa using this
theorem map_snoc {α β : Type} (f : α → β) {l : List α} {k : Nat} {x : α} (h : l[k]? = some x) : (l.take (k + 1)).map f = (l.take k).map f ++ [f x] := by
 obtain ⟨h1, rfl⟩ := List.getElem?_eq_some_iff.1 h
 rw [List.take_succ_eq_append_getElem h1, List.map_append]
 rfl
def Tb.items (t : Tb) : List IV := [itTb t] ++ t.ws.map itWl ++ t.ars.map itAc ++ t.ps.map itPs ++ t.fs.map itFl ++ t.zs.map itZn ++ t.ss.map itSc ++ t.las.map itLa ++ t.rs.map itRa ++ t.ds.map itDr ++ t.lns.map itLn
def textR (t : Tb) : ByteArray × Bool :=
  if ¬ ∀ x ∈ t.ws, in1 1 4 x.kd = true then (⟨#[]⟩, false)
  else if (fmtR t.items).2 = false then (⟨#[]⟩, false)
  else if (compileR (fmtR t.items).1).2.1 ≠ 0 ∨ sameR (compileR (fmtR t.items).1).1 t = false then (⟨#[]⟩, false)
  else ((fmtR t.items).1, true)
theorem text_back {t : Tb} (h : (textR t).2 = true) : compileR (textR t).1 = (t, 0, (compileR (textR t).1).2.2) := by
 unfold textR at h ⊢
 generalize fmtR t.items = Z at h ⊢
 obtain ⟨S, b⟩ := Z
 dsimp only at h ⊢
 generalize hz : compileR S = z at h ⊢
 obtain ⟨u, e, p⟩ := z
 dsimp only at h ⊢
 by_cases h1 : ¬ ∀ x ∈ t.ws, in1 1 4 x.kd = true
 · rw [if_pos h1] at h; cases h
 rw [if_neg h1] at h ⊢
 by_cases h2 : b = false
 · rw [if_pos h2] at h; cases h
 rw [if_neg h2] at h ⊢
 by_cases h3 : e ≠ 0 ∨ sameR u t = false
 · rw [if_pos h3] at h; cases h
 rw [if_neg h3]
 dsimp only
 rw [not_or] at h3
 have e1 : e = 0 := Classical.not_not.1 h3.1
 have e2 : u = t := sameR_iff.1 (by cases hq : sameR u t with
  | true => rfl
  | false => exact (h3.2 hq).elim)
 rw [hz, e1, e2]
end Go.Proofs.YtbpcjpiaimdpnaaGreatDoor
namespace Go.Proofs.YtbpcjpiaimdpnaaGreatDoor
open Go
set_option linter.unusedVariables false
section
variable (f g : Int → Int)
def Wl.mv (x : Wl) : Wl := { x with a1 := f x.a1, a2 := g x.a2, b1 := f x.b1, b2 := g x.b2 }
def Ac.mv (x : Ac) : Ac := { x with c1 := f x.c1, c2 := g x.c2, s1 := f x.s1, s2 := g x.s2, e1 := f x.e1, e2 := g x.e2 }
def Ps.mv (x : Ps) : Ps := { x with c1 := f x.c1, c2 := g x.c2 }
def Fl.mv (x : Fl) : Fl := { x with p1 := f x.p1, p2 := g x.p2 }
def Zn.mv (x : Zn) : Zn := { x with l1 := f x.l1, l2 := g x.l2, h1 := f x.h1, h2 := g x.h2 }
def Sc.mv (x : Sc) : Sc := { x with c1 := f x.c1, c2 := g x.c2 }
def La.mv (x : La) : La := { x with c1 := f x.c1, c2 := g x.c2 }
def Ra.mv (x : Ra) : Ra := { x with c1 := f x.c1, c2 := g x.c2 }
def Dr.mv (x : Dr) : Dr := { x with c1 := f x.c1, c2 := g x.c2 }
def Ln.mv (x : Ln) : Ln := { x with a1 := f x.a1, a2 := g x.a2 }
def Tb.mv (t : Tb) : Tb := { t with ws := t.ws.map (Wl.mv f g), ars := t.ars.map (Ac.mv f g), ps := t.ps.map (Ps.mv f g), fs := t.fs.map (Fl.mv f g), zs := t.zs.map (Zn.mv f g), ss := t.ss.map (Sc.mv f g), las := t.las.map (La.mv f g), rs := t.rs.map (Ra.mv f g), ds := t.ds.map (Dr.mv f g), lns := t.lns.map (Ln.mv f g) }
end
def Wl.tn (x : Wl) : Wl := { x with a1 := x.b1, a2 := x.b2, b1 := x.a1, b2 := x.a2 }
def Ac.tr (x : Ac) : Ac := { x with s1 := x.e1, s2 := x.e2, e1 := x.s1, e2 := x.s2 }
def Fl.tn (x : Fl) : Fl := { x with mi := !x.mi }
def Zn.tn (x : Zn) : Zn := { x with l1 := x.h1, h1 := x.l1, f1 := -x.f1 }
def Sc.tn (x : Sc) : Sc := { x with o1 := -x.o1 }
def Ra.tn (x : Ra) : Ra := { x with d1 := -x.d1 }
def Ln.tn (x : Ln) : Ln := { x with v1 := -x.v1 }
def Tb.tn (t : Tb) : Tb := { t with gx := -t.gx, ws := t.ws.map Wl.tn, ars := t.ars.map Ac.tr, fs := t.fs.map Fl.tn, zs := t.zs.map Zn.tn, ss := t.ss.map Sc.tn, rs := t.rs.map Ra.tn, lns := t.lns.map Ln.tn }
def mirrorR (t : Tb) : Tb := (t.mv (fun x => -x) (fun y => y)).tn
def mS (x : Sc) : Sc := (x.mv (fun x => -x) (fun y => y)).tn
end Go.Proofs.YtbpcjpiaimdpnaaGreatDoor
namespace Go.Proofs.YtbpcjpiaimdpnaaGreatDoor
open Go Go.RowKit
set_option linter.unusedVariables false
def RowOwn {α : Type} (f : α → List Value) (w : World) (B : Nat) (A : Option Addr) (l : List α) : Prop := l = [] ∨ ∃ q, A = some ⟨q, 0, none⟩ ∧ B ≤ q ∧ BoxAt w q (l.flatMap f)
section
variable {α : Type} {n : Nat} {f : α → List Value} {w w1 : World} {A : Option Addr} {l : List α} {B : Nat}
theorem RowOwn.rows (hf : ∀ x, (f x).length = n) (h : RowOwn f w B A l) : RowsAt n f w A l := fun k x hx => by
 rcases h with rfl | ⟨q, rfl, _, hb⟩
 · simp at hx
 · exact ⟨q, 0, rfl, hb.lt, fun j u hu => by rw [Nat.zero_add]; exact hb.c _ _ (flat_get f n hf l k j x u hx hu)⟩
theorem RowOwn.below {N : Nat} (h : RowOwn f w B A l) (hb : Below N w w1) (hN : w.heap.size ≤ N) : RowOwn f w1 B A l := by
 rcases h with rfl | ⟨q, hA, hq, hx⟩
 · exact .inl rfl
 · exact .inr ⟨q, hA, hq, hx.below hb (Nat.lt_of_lt_of_le hx.lt hN)⟩
theorem RowOwn.weaker {B' : Nat} (h : RowOwn f w B A l) (hb : B' ≤ B) : RowOwn f w B' A l := by
 rcases h with rfl | ⟨q, hA, hq, hx⟩
 · exact .inl rfl
 · exact .inr ⟨q, hA, Nat.le_trans hb hq, hx⟩
theorem RowOwn.of_own {base c : Nat} {e : TypeId} (h : w.ownsRow base e n (.slice A l.length c) l.length (l.flatMap f)) : RowOwn f w base A l := by
 by_cases h0 : l = []
 · exact .inl h0
 · obtain ⟨g, rfl, hg, hb, _, hc⟩ := own_cells h (List.length_pos_iff.2 h0)
   exact .inr ⟨g, rfl, hb, hc, fun o => World.ownsRow.frozenAt h o, hg⟩
theorem rows_flat (hn : 0 < n) (hf : ∀ x, (f x).length = n) {b o : Nat} (h : RowsAt n f w (some ⟨b, o, none⟩) l) (j : Nat) (u : Value) (hu : (l.flatMap f)[j]? = some u) : w.cell? ⟨b, o + j, none⟩ = some u := by
 have hj := (List.getElem?_eq_some_iff.1 hu).1
 rw [flat_len f n hf] at hj
 have hk : j / n < l.length := Nat.div_lt_of_lt_mul (by rw [Nat.mul_comm]; exact hj)
 have hx : l[j / n]? = some l[j / n] := List.getElem?_eq_getElem hk
 have hr : j % n < (f l[j / n]).length := by rw [hf]; exact Nat.mod_lt _ hn
 have hv := List.getElem?_eq_getElem hr
 have e : j / n * n + j % n = j := by rw [Nat.mul_comm]; exact Nat.div_add_mod j n
 have h2 := flat_get f n hf l _ _ _ _ hx hv
 rw [e, hu] at h2
 obtain ⟨g, o', hA, _, hc⟩ := h _ _ hx
 cases hA
 have h3 := hc _ _ hv
 rw [e] at h3
 rw [h3, ← h2]
end
def CloneOut {α : Type} (f : α → List Value) (l : List α) (w : World) (e : Ending) (w' : World) : Prop := ∃ A c, e = .returned (.slice A l.length c) ∧ l.length ≤ c ∧ AOk A ∧ RowOwn f w' w.heap.size A l ∧ Below w.heap.size w w'
theorem clone_gen {α : Type} (ρ : Go.Shelf.Ren) (L : Go.Proofs.SlLaysE0.n41 Tryz.prog ρ) (f : α → List Value) (z : Value) (size bytes : Nat) (hinfo : (Tryz.prog.info? (ρ.t 23)).map (fun i => (i.zero, i.size, i.bytes)) = some (some z, size, bytes)) (hzs : z.cells.size = size) (hsz : 0 < size) (z23 : ∀ w, (Go.sizeOf (ρ.t 23)).run Tryz.prog w = .ok size w) (hf : ∀ x, (f x).length = size) (h1 : ∀ x, ∀ u ∈ f x, u.oneCell' = true) (hby : bytes ≤ 1000)
  (l : List α) (A : Option Addr) (c : Nat) (w : World) (hA : RowsAt size f w A l) (hk : AOk A) (hl : l.length ≤ 100000) : Calls Tryz.prog (ρ.f 41) #[.slice A l.length c] w (CloneOut f l w) := by
 rcases hk with rfl | ⟨b, o, rfl⟩
 · have h0 : l = [] := by
    cases l with
    | nil => rfl
    | cons x r => obtain ⟨g, o, hA', _⟩ := hA 0 x rfl; cases hA'
   subst h0
   refine (AnyE.slices_Clone_nil L 0 c w).mono ?_
   rintro e w' ⟨rfl, rfl⟩
   exact ⟨none, 0, rfl, Nat.le_refl _, .inl rfl, .inl rfl, Below.refl _ _⟩
 · obtain ⟨i, hi, hz, hsi, hb⟩ : ∃ i, Tryz.prog.info? (ρ.t 23) = some i ∧ i.zero = some z ∧ i.size = size ∧ i.bytes = bytes := by
    cases hi : Tryz.prog.info? (ρ.t 23) with
    | none => rw [hi] at hinfo; cases hinfo
    | some i =>
     rw [hi] at hinfo
     simp only [Option.map_some, Option.some.injEq, Prod.mk.injEq] at hinfo
     exact ⟨i, rfl, hinfo.1, hinfo.2.1, hinfo.2.2⟩
   refine (AnyE.slices_Clone L i z size bytes hi hz hsi hb hzs hsz z23 b o l.length c (l.flatMap f) w (flat_len f size hf l) (by unfold maxLen; omega) (Nat.le_trans (Nat.mul_le_mul hl hby) (by decide)) (fun j u hu => rows_flat hsz hf hA j u hu) (fun u hu => by obtain ⟨x, _, hx⟩ := List.mem_flatMap.1 hu; exact h1 x u hx)).mono ?_
   rintro e w' ⟨v, rfl, hown, _, hb⟩
   obtain ⟨A', c', rfl⟩ := own_sl hown
   exact ⟨A', c', rfl, own_cap hown, own_aok hown, RowOwn.of_own hown, hb⟩
def cren_ws : Go.Shelf.Ren := ⟨fun | 41 => 172 | n => n, fun | 22 => 25 | 23 => 53 | 4 => 4 | n => n, fun | n => n⟩
theorem clays_ws : Go.Proofs.SlLaysE0.n41 Tryz.prog cren_ws := {
 mixed := by kernel_rfl
 f41 := ⟨Tryz.f172.name, by decide, Tryz.func172.trans (congrArg some (by kernel_rfl))⟩
 t4 := Tryz.underlying4
 a4 := Tryz.isAgg4
 z4 := Tryz.sizeOf4
 v4 := Tryz.zeroValue4
 t22 := Tryz.underlying25
 a22 := Tryz.isAgg25
 z22 := Tryz.sizeOf25
 v22 := Tryz.zeroValue25 }
theorem clone_ws (l : List Wl) (A : Option Addr) (c : Nat) (w : World) (hA : RowsAt 13 Wl.cells w A l) (hk : AOk A) (hl : l.length ≤ 100000) : Calls Tryz.prog 172 #[.slice A l.length c] w (CloneOut Wl.cells l w) :=
 clone_gen cren_ws clays_ws Wl.cells _ 13 _ infWl rfl (by decide) Tryz.sizeOf53 (fun _ => rfl) (fun x u hu => by
  simp only [Wl.cells, List.mem_cons, List.not_mem_nil, or_false] at hu
  rcases hu with rfl | rfl | rfl | rfl | rfl | rfl | rfl | rfl | rfl | rfl | rfl | rfl | rfl <;> rfl) (by decide) l A c w hA hk hl
def cren_ars : Go.Shelf.Ren := ⟨fun | 41 => 173 | n => n, fun | 22 => 26 | 23 => 76 | 4 => 4 | n => n, fun | n => n⟩
theorem clays_ars : Go.Proofs.SlLaysE0.n41 Tryz.prog cren_ars := {
 mixed := by kernel_rfl
 f41 := ⟨Tryz.f173.name, by decide, Tryz.func173.trans (congrArg some (by kernel_rfl))⟩
 t4 := Tryz.underlying4
 a4 := Tryz.isAgg4
 z4 := Tryz.sizeOf4
 v4 := Tryz.zeroValue4
 t22 := Tryz.underlying26
 a22 := Tryz.isAgg26
 z22 := Tryz.sizeOf26
 v22 := Tryz.zeroValue26 }
theorem clone_ars (l : List Ac) (A : Option Addr) (c : Nat) (w : World) (hA : RowsAt 12 Ac.cells w A l) (hk : AOk A) (hl : l.length ≤ 100000) : Calls Tryz.prog 173 #[.slice A l.length c] w (CloneOut Ac.cells l w) :=
 clone_gen cren_ars clays_ars Ac.cells _ 12 _ infAc rfl (by decide) Tryz.sizeOf76 (fun _ => rfl) (fun x u hu => by
  simp only [Ac.cells, List.mem_cons, List.not_mem_nil, or_false] at hu
  rcases hu with rfl | rfl | rfl | rfl | rfl | rfl | rfl | rfl | rfl | rfl | rfl | rfl <;> rfl) (by decide) l A c w hA hk hl
def cren_ps : Go.Shelf.Ren := ⟨fun | 41 => 174 | n => n, fun | 22 => 27 | 23 => 55 | 4 => 4 | n => n, fun | n => n⟩
theorem clays_ps : Go.Proofs.SlLaysE0.n41 Tryz.prog cren_ps := {
 mixed := by kernel_rfl
 f41 := ⟨Tryz.f174.name, by decide, Tryz.func174.trans (congrArg some (by kernel_rfl))⟩
 t4 := Tryz.underlying4
 a4 := Tryz.isAgg4
 z4 := Tryz.sizeOf4
 v4 := Tryz.zeroValue4
 t22 := Tryz.underlying27
 a22 := Tryz.isAgg27
 z22 := Tryz.sizeOf27
 v22 := Tryz.zeroValue27 }
theorem clone_ps (l : List Ps) (A : Option Addr) (c : Nat) (w : World) (hA : RowsAt 11 Ps.cells w A l) (hk : AOk A) (hl : l.length ≤ 100000) : Calls Tryz.prog 174 #[.slice A l.length c] w (CloneOut Ps.cells l w) :=
 clone_gen cren_ps clays_ps Ps.cells _ 11 _ infPs rfl (by decide) Tryz.sizeOf55 (fun _ => rfl) (fun x u hu => by
  simp only [Ps.cells, List.mem_cons, List.not_mem_nil, or_false] at hu
  rcases hu with rfl | rfl | rfl | rfl | rfl | rfl | rfl | rfl | rfl | rfl | rfl <;> rfl) (by decide) l A c w hA hk hl
def cren_fs : Go.Shelf.Ren := ⟨fun | 41 => 175 | n => n, fun | 22 => 28 | 23 => 79 | 4 => 4 | n => n, fun | n => n⟩
theorem clays_fs : Go.Proofs.SlLaysE0.n41 Tryz.prog cren_fs := {
 mixed := by kernel_rfl
 f41 := ⟨Tryz.f175.name, by decide, Tryz.func175.trans (congrArg some (by kernel_rfl))⟩
 t4 := Tryz.underlying4
 a4 := Tryz.isAgg4
 z4 := Tryz.sizeOf4
 v4 := Tryz.zeroValue4
 t22 := Tryz.underlying28
 a22 := Tryz.isAgg28
 z22 := Tryz.sizeOf28
 v22 := Tryz.zeroValue28 }
theorem clone_fs (l : List Fl) (A : Option Addr) (c : Nat) (w : World) (hA : RowsAt 15 Fl.cells w A l) (hk : AOk A) (hl : l.length ≤ 100000) : Calls Tryz.prog 175 #[.slice A l.length c] w (CloneOut Fl.cells l w) :=
 clone_gen cren_fs clays_fs Fl.cells _ 15 _ infFl rfl (by decide) Tryz.sizeOf79 (fun _ => rfl) (fun x u hu => by
  simp only [Fl.cells, List.mem_cons, List.not_mem_nil, or_false] at hu
  rcases hu with rfl | rfl | rfl | rfl | rfl | rfl | rfl | rfl | rfl | rfl | rfl | rfl | rfl | rfl | rfl <;> rfl) (by decide) l A c w hA hk hl
def cren_zs : Go.Shelf.Ren := ⟨fun | 41 => 176 | n => n, fun | 22 => 29 | 23 => 59 | 4 => 4 | n => n, fun | n => n⟩
theorem clays_zs : Go.Proofs.SlLaysE0.n41 Tryz.prog cren_zs := {
 mixed := by kernel_rfl
 f41 := ⟨Tryz.f176.name, by decide, Tryz.func176.trans (congrArg some (by kernel_rfl))⟩
 t4 := Tryz.underlying4
 a4 := Tryz.isAgg4
 z4 := Tryz.sizeOf4
 v4 := Tryz.zeroValue4
 t22 := Tryz.underlying29
 a22 := Tryz.isAgg29
 z22 := Tryz.sizeOf29
 v22 := Tryz.zeroValue29 }
theorem clone_zs (l : List Zn) (A : Option Addr) (c : Nat) (w : World) (hA : RowsAt 9 Zn.cells w A l) (hk : AOk A) (hl : l.length ≤ 100000) : Calls Tryz.prog 176 #[.slice A l.length c] w (CloneOut Zn.cells l w) :=
 clone_gen cren_zs clays_zs Zn.cells _ 9 _ infZn rfl (by decide) Tryz.sizeOf59 (fun _ => rfl) (fun x u hu => by
  simp only [Zn.cells, List.mem_cons, List.not_mem_nil, or_false] at hu
  rcases hu with rfl | rfl | rfl | rfl | rfl | rfl | rfl | rfl | rfl <;> rfl) (by decide) l A c w hA hk hl
def cren_ss : Go.Shelf.Ren := ⟨fun | 41 => 177 | n => n, fun | 22 => 30 | 23 => 81 | 4 => 4 | n => n, fun | n => n⟩
theorem clays_ss : Go.Proofs.SlLaysE0.n41 Tryz.prog cren_ss := {
 mixed := by kernel_rfl
 f41 := ⟨Tryz.f177.name, by decide, Tryz.func177.trans (congrArg some (by kernel_rfl))⟩
 t4 := Tryz.underlying4
 a4 := Tryz.isAgg4
 z4 := Tryz.sizeOf4
 v4 := Tryz.zeroValue4
 t22 := Tryz.underlying30
 a22 := Tryz.isAgg30
 z22 := Tryz.sizeOf30
 v22 := Tryz.zeroValue30 }
theorem clone_ss (l : List Sc) (A : Option Addr) (c : Nat) (w : World) (hA : RowsAt 10 Sc.cells w A l) (hk : AOk A) (hl : l.length ≤ 100000) : Calls Tryz.prog 177 #[.slice A l.length c] w (CloneOut Sc.cells l w) :=
 clone_gen cren_ss clays_ss Sc.cells _ 10 _ infSc rfl (by decide) Tryz.sizeOf81 (fun _ => rfl) (fun x u hu => by
  simp only [Sc.cells, List.mem_cons, List.not_mem_nil, or_false] at hu
  rcases hu with rfl | rfl | rfl | rfl | rfl | rfl | rfl | rfl | rfl | rfl <;> rfl) (by decide) l A c w hA hk hl
def cren_las : Go.Shelf.Ren := ⟨fun | 41 => 178 | n => n, fun | 22 => 31 | 23 => 57 | 4 => 4 | n => n, fun | n => n⟩
theorem clays_las : Go.Proofs.SlLaysE0.n41 Tryz.prog cren_las := {
 mixed := by kernel_rfl
 f41 := ⟨Tryz.f178.name, by decide, Tryz.func178.trans (congrArg some (by kernel_rfl))⟩
 t4 := Tryz.underlying4
 a4 := Tryz.isAgg4
 z4 := Tryz.sizeOf4
 v4 := Tryz.zeroValue4
 t22 := Tryz.underlying31
 a22 := Tryz.isAgg31
 z22 := Tryz.sizeOf31
 v22 := Tryz.zeroValue31 }
theorem clone_las (l : List La) (A : Option Addr) (c : Nat) (w : World) (hA : RowsAt 6 La.cells w A l) (hk : AOk A) (hl : l.length ≤ 100000) : Calls Tryz.prog 178 #[.slice A l.length c] w (CloneOut La.cells l w) :=
 clone_gen cren_las clays_las La.cells _ 6 _ infLa rfl (by decide) Tryz.sizeOf57 (fun _ => rfl) (fun x u hu => by
  simp only [La.cells, List.mem_cons, List.not_mem_nil, or_false] at hu
  rcases hu with rfl | rfl | rfl | rfl | rfl | rfl <;> rfl) (by decide) l A c w hA hk hl
def cren_rs : Go.Shelf.Ren := ⟨fun | 41 => 179 | n => n, fun | 22 => 32 | 23 => 83 | 4 => 4 | n => n, fun | n => n⟩
theorem clays_rs : Go.Proofs.SlLaysE0.n41 Tryz.prog cren_rs := {
 mixed := by kernel_rfl
 f41 := ⟨Tryz.f179.name, by decide, Tryz.func179.trans (congrArg some (by kernel_rfl))⟩
 t4 := Tryz.underlying4
 a4 := Tryz.isAgg4
 z4 := Tryz.sizeOf4
 v4 := Tryz.zeroValue4
 t22 := Tryz.underlying32
 a22 := Tryz.isAgg32
 z22 := Tryz.sizeOf32
 v22 := Tryz.zeroValue32 }
theorem clone_rs (l : List Ra) (A : Option Addr) (c : Nat) (w : World) (hA : RowsAt 8 Ra.cells w A l) (hk : AOk A) (hl : l.length ≤ 100000) : Calls Tryz.prog 179 #[.slice A l.length c] w (CloneOut Ra.cells l w) :=
 clone_gen cren_rs clays_rs Ra.cells _ 8 _ infRa rfl (by decide) Tryz.sizeOf83 (fun _ => rfl) (fun x u hu => by
  simp only [Ra.cells, List.mem_cons, List.not_mem_nil, or_false] at hu
  rcases hu with rfl | rfl | rfl | rfl | rfl | rfl | rfl | rfl <;> rfl) (by decide) l A c w hA hk hl
def cren_ds : Go.Shelf.Ren := ⟨fun | 41 => 180 | n => n, fun | 22 => 33 | 23 => 61 | 4 => 4 | n => n, fun | n => n⟩
theorem clays_ds : Go.Proofs.SlLaysE0.n41 Tryz.prog cren_ds := {
 mixed := by kernel_rfl
 f41 := ⟨Tryz.f180.name, by decide, Tryz.func180.trans (congrArg some (by kernel_rfl))⟩
 t4 := Tryz.underlying4
 a4 := Tryz.isAgg4
 z4 := Tryz.sizeOf4
 v4 := Tryz.zeroValue4
 t22 := Tryz.underlying33
 a22 := Tryz.isAgg33
 z22 := Tryz.sizeOf33
 v22 := Tryz.zeroValue33 }
theorem clone_ds (l : List Dr) (A : Option Addr) (c : Nat) (w : World) (hA : RowsAt 5 Dr.cells w A l) (hk : AOk A) (hl : l.length ≤ 100000) : Calls Tryz.prog 180 #[.slice A l.length c] w (CloneOut Dr.cells l w) :=
 clone_gen cren_ds clays_ds Dr.cells _ 5 _ infDr rfl (by decide) Tryz.sizeOf61 (fun _ => rfl) (fun x u hu => by
  simp only [Dr.cells, List.mem_cons, List.not_mem_nil, or_false] at hu
  rcases hu with rfl | rfl | rfl | rfl | rfl <;> rfl) (by decide) l A c w hA hk hl
def cren_lns : Go.Shelf.Ren := ⟨fun | 41 => 181 | n => n, fun | 22 => 34 | 23 => 85 | 4 => 4 | n => n, fun | n => n⟩
theorem clays_lns : Go.Proofs.SlLaysE0.n41 Tryz.prog cren_lns := {
 mixed := by kernel_rfl
 f41 := ⟨Tryz.f181.name, by decide, Tryz.func181.trans (congrArg some (by kernel_rfl))⟩
 t4 := Tryz.underlying4
 a4 := Tryz.isAgg4
 z4 := Tryz.sizeOf4
 v4 := Tryz.zeroValue4
 t22 := Tryz.underlying34
 a22 := Tryz.isAgg34
 z22 := Tryz.sizeOf34
 v22 := Tryz.zeroValue34 }
theorem clone_lns (l : List Ln) (A : Option Addr) (c : Nat) (w : World) (hA : RowsAt 7 Ln.cells w A l) (hk : AOk A) (hl : l.length ≤ 100000) : Calls Tryz.prog 181 #[.slice A l.length c] w (CloneOut Ln.cells l w) :=
 clone_gen cren_lns clays_lns Ln.cells _ 7 _ infLn rfl (by decide) Tryz.sizeOf85 (fun _ => rfl) (fun x u hu => by
  simp only [Ln.cells, List.mem_cons, List.not_mem_nil, or_false] at hu
  rcases hu with rfl | rfl | rfl | rfl | rfl | rfl | rfl <;> rfl) (by decide) l A c w hA hk hl
def cren_tr : Go.Shelf.Ren := ⟨fun | 41 => 125 | n => n, fun | 22 => 24 | 23 => 3 | 4 => 4 | n => n, fun | n => n⟩
theorem clays_tr : Go.Proofs.SlLaysE0.n41 Tryz.prog cren_tr := {
 mixed := by kernel_rfl
 f41 := ⟨Tryz.f125.name, by decide, Tryz.func125.trans (congrArg some (by kernel_rfl))⟩
 t4 := Tryz.underlying4
 a4 := Tryz.isAgg4
 z4 := Tryz.sizeOf4
 v4 := Tryz.zeroValue4
 t22 := Tryz.underlying24
 a22 := Tryz.isAgg24
 z22 := Tryz.sizeOf24
 v22 := Tryz.zeroValue24 }
theorem infInt : (Tryz.prog.info? 3).map (fun i => (i.zero, i.size, i.bytes)) = some (some (.int .i64 0), 1, 8) := by kernel_rfl
theorem clone_tr (l : List Int) (A : Option Addr) (c : Nat) (w : World) (hA : RowsAt 1 (fun x : Int => [Value.int .i64 x]) w A l) (hk : AOk A) (hl : l.length ≤ 100000) : Calls Tryz.prog 125 #[.slice A l.length c] w (CloneOut (fun x : Int => [Value.int .i64 x]) l w) :=
 clone_gen cren_tr clays_tr (fun x : Int => [Value.int .i64 x]) _ 1 _ infInt rfl (by decide) Tryz.sizeOf3 (fun _ => rfl) (fun x u hu => by
  simp only [List.mem_cons, List.not_mem_nil, or_false] at hu
  rcases hu with rfl; rfl) (by decide) l A c w hA hk hl
def mild (x : Int) : Prop := -2305843009213693952 ≤ x ∧ x ≤ 2305843009213693952
def ToSpec (w0 : World) (g : Nat) (lb : Array Value) (F G : Int → Int) : Prop :=
  ∀ (q o : Nat) (X Y : Int) (cs : List Value) (W : World), w0.heap.size ≤ q → Below w0.heap.size w0 W → BoxAt W q cs → cs[o]? = some (.int .i64 X) → cs[o + 1]? = some (.int .i64 Y) → mild X → mild Y →
    Calls Tryz.prog g (#[.pointer (some ⟨q, o, none⟩)] ++ lb) W fun e w' => e = .returned (.tuple #[]) ∧ But q W w' ∧ BoxAt w' q ((cs.set o (.int .i64 (F X))).set (o + 1) (.int .i64 (G Y)))
theorem But.drew {rb : Nat} {a b : World} (h : But rb a b) : But rb a b.drew := ⟨h.os, h.tape, h.output, h.size, fun k h1 h2 => h.block k h1 h2⟩
theorem set_id {α : Type} {l : List α} {j : Nat} {v : α} (h : l[j]? = some v) : l.set j v = l := by
 obtain ⟨hj, rfl⟩ := List.getElem?_eq_some_iff.1 h
 exact List.set_getElem_self hj
theorem get_mid {α : Type} (A B C : List α) (j : Nat) (u : α) (h : B[j]? = some u) : (A ++ (B ++ C))[A.length + j]? = some u := by
 rw [List.getElem?_append_right (by omega), Nat.add_sub_cancel_left, List.getElem?_append_left (List.getElem?_eq_some_iff.1 h).1]
 exact h
theorem box_mid {W : World} {q j : Nat} {A B C : List Value} {u v : Value} (h : BoxAt W q (((A ++ (B ++ C)).set (A.length + j) u).set (A.length + j + 1) v)) (hj : j + 1 < B.length) : BoxAt W q (A ++ (((B.set j u).set (j + 1) v) ++ C)) := by
 rw [set_mid A B C A.length j u rfl (by omega), Nat.add_assoc, set_mid A _ C A.length (j + 1) v rfl (by rw [List.length_set]; omega)] at h
 exact h
set_option maxRecDepth 100000 in
set_option maxHeartbeats 1000000 in
theorem flip_any (w0 : World) : ToSpec w0 74 #[] (fun x => -x) (fun y => y) := by
 intro q o X Y cs W hq hW hb hX hY hx hy
 have c0 := hb.c o _ hX
 have fz := hb.fz
 have hlt := hb.lt
 have HS : Hid (BoxAt (W.setCell ⟨q, o, none⟩ (.int .i64 (-X))) q ((cs.set o (.int .i64 (-X))).set (o + 1) (.int .i64 Y))) := hQ0 (by
  rw [set_id (l := cs.set o _) (by rw [List.getElem?_set_ne (by omega)]; exact hY)]
  exact hb.set _ hX)
 have hxl := hx.1
 have hxh := hx.2
 clear hW hb hX hY hx hy
 go_enter Tryz.func74, Tryz.ntmps74; (try simp only [List.append_eq, List.cons_append, List.nil_append])
 go_wp2_with fail
 go_end0
 exact ⟨rfl, (But.refl _ _).set _ (.inl rfl), HS.out⟩
def Wl.mild (x : Wl) : Prop := Go.Proofs.YtbpcjpiaimdpnaaGreatDoor.mild x.a1 ∧ Go.Proofs.YtbpcjpiaimdpnaaGreatDoor.mild x.a2 ∧ Go.Proofs.YtbpcjpiaimdpnaaGreatDoor.mild x.b1 ∧ Go.Proofs.YtbpcjpiaimdpnaaGreatDoor.mild x.b2
set_option maxRecDepth 100000 in
set_option maxHeartbeats 1000000 in
theorem plc_ws (w0 : World) (g : Nat) (lb : Array Value) (F G : Int → Int) (hT : ToSpec w0 g lb F G) (eg : ∀ args w, (callFunc g args).run Tryz.prog w = .ok (.enter g args) w) (tb q : Nat) (pre post : List Value) (x : Wl) (W : World) (hq : w0.heap.size ≤ q) (htq : tb ≠ q) (hW : Below w0.heap.size w0 W) (hto : BoxAt W tb [.func (.func g) #[] lb]) (hx : BoxAt W q (pre ++ (x.cells ++ post))) (hm : x.mild) :
  Calls Tryz.prog 127 #[.pointer (some ⟨q, pre.length, none⟩), .pointer (some ⟨tb, 0, none⟩)] W fun e w' => e = .returned (.tuple #[]) ∧ But q W w' ∧ BoxAt w' q (pre ++ ((x.mv F G).cells ++ post)) := by
 have ct := hto.c 0 _ rfl
 have HM := hQ0 hm
 have HW := hQ0 hW
 have HX := hQ0 hx
 have hlt := hto.lt
 have K1 := hQ0 (hT q (pre.length + 3) x.a1 x.a2 _ W.drew hq hW.drew hx.drew (get_mid _ _ _ 3 _ rfl) (get_mid _ _ _ 4 _ rfl) HM.out.1 HM.out.2.1)
 clear hto hW hx hm
 have HT := hQ0 hT
 clear hT
 go_enter Tryz.func127, Tryz.ntmps127; (try simp only [List.append_eq, List.cons_append, List.nil_append])
 go_wp2
 go_region_with (first | (have hq_ := hb_1; go_at_fn g; refine (K2.out).mono ?_; rintro e w2 ⟨rfl, hc_, hx_2⟩; have hb_2 := ((But.refl q _).drew).trans hc_; clear hc_) | (go_at_fn g; refine (K1.out).mono ?_; rintro e w1 ⟨rfl, hc_, hx_1⟩; have hb_1 := ((But.refl q _).drew).trans hc_; clear hc_; have ct_1 := ((hb_1).cell (p := ⟨tb, 0, none⟩) hlt htq).trans ct; have HX1 := hQ0 (box_mid (B := x.cells) hx_1 (by show 4 < 13; decide)); have K2 := hQ0 (HT.out q (pre.length + 5) x.b1 x.b2 _ w1.drew hq (HW.out.trans ((hb_1).toBelow hq HW.out.size)).drew HX1.out.drew (get_mid _ _ _ 5 _ rfl) (get_mid _ _ _ 6 _ rfl) HM.out.2.2.1 HM.out.2.2.2); clear hx_1))
 go_wp2
 go_region_with (first | (have hq_ := hb_1; go_at_fn g; refine (K2.out).mono ?_; rintro e w2 ⟨rfl, hc_, hx_2⟩; have hb_2 := ((But.refl q _).drew).trans hc_; clear hc_) | (go_at_fn g; refine (K1.out).mono ?_; rintro e w1 ⟨rfl, hc_, hx_1⟩; have hb_1 := ((But.refl q _).drew).trans hc_; clear hc_; have ct_1 := ((hb_1).cell (p := ⟨tb, 0, none⟩) hlt htq).trans ct; have HX1 := hQ0 (box_mid (B := x.cells) hx_1 (by show 4 < 13; decide)); have K2 := hQ0 (HT.out q (pre.length + 5) x.b1 x.b2 _ w1.drew hq (HW.out.trans ((hb_1).toBelow hq HW.out.size)).drew HX1.out.drew (get_mid _ _ _ 5 _ rfl) (get_mid _ _ _ 6 _ rfl) HM.out.2.2.1 HM.out.2.2.2); clear hx_1))
 go_end0
 exact ⟨rfl, (hb_1).trans hb_2, box_mid (B := _) hx_2 (by show 6 < 13; decide)⟩
def Ac.mild (x : Ac) : Prop := Go.Proofs.YtbpcjpiaimdpnaaGreatDoor.mild x.c1 ∧ Go.Proofs.YtbpcjpiaimdpnaaGreatDoor.mild x.c2 ∧ Go.Proofs.YtbpcjpiaimdpnaaGreatDoor.mild x.s1 ∧ Go.Proofs.YtbpcjpiaimdpnaaGreatDoor.mild x.s2 ∧ Go.Proofs.YtbpcjpiaimdpnaaGreatDoor.mild x.e1 ∧ Go.Proofs.YtbpcjpiaimdpnaaGreatDoor.mild x.e2
set_option maxRecDepth 100000 in
set_option maxHeartbeats 1000000 in
theorem plc_ars (w0 : World) (g : Nat) (lb : Array Value) (F G : Int → Int) (hT : ToSpec w0 g lb F G) (eg : ∀ args w, (callFunc g args).run Tryz.prog w = .ok (.enter g args) w) (tb q : Nat) (pre post : List Value) (x : Ac) (W : World) (hq : w0.heap.size ≤ q) (htq : tb ≠ q) (hW : Below w0.heap.size w0 W) (hto : BoxAt W tb [.func (.func g) #[] lb]) (hx : BoxAt W q (pre ++ (x.cells ++ post))) (hm : x.mild) :
  Calls Tryz.prog 129 #[.pointer (some ⟨q, pre.length, none⟩), .pointer (some ⟨tb, 0, none⟩)] W fun e w' => e = .returned (.tuple #[]) ∧ But q W w' ∧ BoxAt w' q (pre ++ ((x.mv F G).cells ++ post)) := by
 have ct := hto.c 0 _ rfl
 have HM := hQ0 hm
 have HW := hQ0 hW
 have HX := hQ0 hx
 have hlt := hto.lt
 have K1 := hQ0 (hT q (pre.length + 2) x.c1 x.c2 _ W.drew hq hW.drew hx.drew (get_mid _ _ _ 2 _ rfl) (get_mid _ _ _ 3 _ rfl) HM.out.1 HM.out.2.1)
 clear hto hW hx hm
 have HT := hQ0 hT
 clear hT
 go_enter Tryz.func129, Tryz.ntmps129; (try simp only [List.append_eq, List.cons_append, List.nil_append])
 go_wp2
 go_region_with (first | (have hq_ := hb_2; go_at_fn g; refine (K3.out).mono ?_; rintro e w3 ⟨rfl, hc_, hx_3⟩; have hb_3 := ((But.refl q _).drew).trans hc_; clear hc_) | (have hq_ := hb_1; go_at_fn g; refine (K2.out).mono ?_; rintro e w2 ⟨rfl, hc_, hx_2⟩; have hb_2 := ((But.refl q _).drew).trans hc_; clear hc_; have ct_2 := (((hb_1).trans hb_2).cell (p := ⟨tb, 0, none⟩) hlt htq).trans ct; have HX2 := hQ0 (box_mid (B := _) hx_2 (by show 5 < 12; decide)); have K3 := hQ0 (HT.out q (pre.length + 6) x.e1 x.e2 _ w2.drew hq (HW.out.trans (((hb_1).trans hb_2).toBelow hq HW.out.size)).drew HX2.out.drew (get_mid _ _ _ 6 _ rfl) (get_mid _ _ _ 7 _ rfl) HM.out.2.2.2.2.1 HM.out.2.2.2.2.2); clear hx_2) | (go_at_fn g; refine (K1.out).mono ?_; rintro e w1 ⟨rfl, hc_, hx_1⟩; have hb_1 := ((But.refl q _).drew).trans hc_; clear hc_; have ct_1 := ((hb_1).cell (p := ⟨tb, 0, none⟩) hlt htq).trans ct; have HX1 := hQ0 (box_mid (B := x.cells) hx_1 (by show 3 < 12; decide)); have K2 := hQ0 (HT.out q (pre.length + 4) x.s1 x.s2 _ w1.drew hq (HW.out.trans ((hb_1).toBelow hq HW.out.size)).drew HX1.out.drew (get_mid _ _ _ 4 _ rfl) (get_mid _ _ _ 5 _ rfl) HM.out.2.2.1 HM.out.2.2.2.1); clear hx_1))
 go_wp2
 go_region_with (first | (have hq_ := hb_2; go_at_fn g; refine (K3.out).mono ?_; rintro e w3 ⟨rfl, hc_, hx_3⟩; have hb_3 := ((But.refl q _).drew).trans hc_; clear hc_) | (have hq_ := hb_1; go_at_fn g; refine (K2.out).mono ?_; rintro e w2 ⟨rfl, hc_, hx_2⟩; have hb_2 := ((But.refl q _).drew).trans hc_; clear hc_; have ct_2 := (((hb_1).trans hb_2).cell (p := ⟨tb, 0, none⟩) hlt htq).trans ct; have HX2 := hQ0 (box_mid (B := _) hx_2 (by show 5 < 12; decide)); have K3 := hQ0 (HT.out q (pre.length + 6) x.e1 x.e2 _ w2.drew hq (HW.out.trans (((hb_1).trans hb_2).toBelow hq HW.out.size)).drew HX2.out.drew (get_mid _ _ _ 6 _ rfl) (get_mid _ _ _ 7 _ rfl) HM.out.2.2.2.2.1 HM.out.2.2.2.2.2); clear hx_2) | (go_at_fn g; refine (K1.out).mono ?_; rintro e w1 ⟨rfl, hc_, hx_1⟩; have hb_1 := ((But.refl q _).drew).trans hc_; clear hc_; have ct_1 := ((hb_1).cell (p := ⟨tb, 0, none⟩) hlt htq).trans ct; have HX1 := hQ0 (box_mid (B := x.cells) hx_1 (by show 3 < 12; decide)); have K2 := hQ0 (HT.out q (pre.length + 4) x.s1 x.s2 _ w1.drew hq (HW.out.trans ((hb_1).toBelow hq HW.out.size)).drew HX1.out.drew (get_mid _ _ _ 4 _ rfl) (get_mid _ _ _ 5 _ rfl) HM.out.2.2.1 HM.out.2.2.2.1); clear hx_1))
 go_wp2
 go_region_with (first | (have hq_ := hb_2; go_at_fn g; refine (K3.out).mono ?_; rintro e w3 ⟨rfl, hc_, hx_3⟩; have hb_3 := ((But.refl q _).drew).trans hc_; clear hc_) | (have hq_ := hb_1; go_at_fn g; refine (K2.out).mono ?_; rintro e w2 ⟨rfl, hc_, hx_2⟩; have hb_2 := ((But.refl q _).drew).trans hc_; clear hc_; have ct_2 := (((hb_1).trans hb_2).cell (p := ⟨tb, 0, none⟩) hlt htq).trans ct; have HX2 := hQ0 (box_mid (B := _) hx_2 (by show 5 < 12; decide)); have K3 := hQ0 (HT.out q (pre.length + 6) x.e1 x.e2 _ w2.drew hq (HW.out.trans (((hb_1).trans hb_2).toBelow hq HW.out.size)).drew HX2.out.drew (get_mid _ _ _ 6 _ rfl) (get_mid _ _ _ 7 _ rfl) HM.out.2.2.2.2.1 HM.out.2.2.2.2.2); clear hx_2) | (go_at_fn g; refine (K1.out).mono ?_; rintro e w1 ⟨rfl, hc_, hx_1⟩; have hb_1 := ((But.refl q _).drew).trans hc_; clear hc_; have ct_1 := ((hb_1).cell (p := ⟨tb, 0, none⟩) hlt htq).trans ct; have HX1 := hQ0 (box_mid (B := x.cells) hx_1 (by show 3 < 12; decide)); have K2 := hQ0 (HT.out q (pre.length + 4) x.s1 x.s2 _ w1.drew hq (HW.out.trans ((hb_1).toBelow hq HW.out.size)).drew HX1.out.drew (get_mid _ _ _ 4 _ rfl) (get_mid _ _ _ 5 _ rfl) HM.out.2.2.1 HM.out.2.2.2.1); clear hx_1))
 go_end0
 exact ⟨rfl, ((hb_1).trans hb_2).trans hb_3, box_mid (B := _) hx_3 (by show 7 < 12; decide)⟩
def Ps.mild (x : Ps) : Prop := Go.Proofs.YtbpcjpiaimdpnaaGreatDoor.mild x.c1 ∧ Go.Proofs.YtbpcjpiaimdpnaaGreatDoor.mild x.c2
set_option maxRecDepth 100000 in
set_option maxHeartbeats 1000000 in
theorem plc_ps (w0 : World) (g : Nat) (lb : Array Value) (F G : Int → Int) (hT : ToSpec w0 g lb F G) (eg : ∀ args w, (callFunc g args).run Tryz.prog w = .ok (.enter g args) w) (tb q : Nat) (pre post : List Value) (x : Ps) (W : World) (hq : w0.heap.size ≤ q) (htq : tb ≠ q) (hW : Below w0.heap.size w0 W) (hto : BoxAt W tb [.func (.func g) #[] lb]) (hx : BoxAt W q (pre ++ (x.cells ++ post))) (hm : x.mild) :
  Calls Tryz.prog 131 #[.pointer (some ⟨q, pre.length, none⟩), .pointer (some ⟨tb, 0, none⟩)] W fun e w' => e = .returned (.tuple #[]) ∧ But q W w' ∧ BoxAt w' q (pre ++ ((x.mv F G).cells ++ post)) := by
 have ct := hto.c 0 _ rfl
 have HM := hQ0 hm
 have HW := hQ0 hW
 have HX := hQ0 hx
 have hlt := hto.lt
 have K1 := hQ0 (hT q (pre.length + 2) x.c1 x.c2 _ W.drew hq hW.drew hx.drew (get_mid _ _ _ 2 _ rfl) (get_mid _ _ _ 3 _ rfl) HM.out.1 HM.out.2)
 clear hto hW hx hm
 clear hT
 go_enter Tryz.func131, Tryz.ntmps131; (try simp only [List.append_eq, List.cons_append, List.nil_append])
 go_wp2
 go_region_with (go_at_fn g; refine (K1.out).mono ?_; rintro e w1 ⟨rfl, hc_, hx_1⟩; have hb_1 := ((But.refl q _).drew).trans hc_; clear hc_)
 go_end0
 exact ⟨rfl, hb_1, box_mid (B := x.cells) hx_1 (by show 3 < 11; decide)⟩
def Fl.mild (x : Fl) : Prop := Go.Proofs.YtbpcjpiaimdpnaaGreatDoor.mild x.p1 ∧ Go.Proofs.YtbpcjpiaimdpnaaGreatDoor.mild x.p2
set_option maxRecDepth 100000 in
set_option maxHeartbeats 1000000 in
theorem plc_fs (w0 : World) (g : Nat) (lb : Array Value) (F G : Int → Int) (hT : ToSpec w0 g lb F G) (eg : ∀ args w, (callFunc g args).run Tryz.prog w = .ok (.enter g args) w) (tb q : Nat) (pre post : List Value) (x : Fl) (W : World) (hq : w0.heap.size ≤ q) (htq : tb ≠ q) (hW : Below w0.heap.size w0 W) (hto : BoxAt W tb [.func (.func g) #[] lb]) (hx : BoxAt W q (pre ++ (x.cells ++ post))) (hm : x.mild) :
  Calls Tryz.prog 133 #[.pointer (some ⟨q, pre.length, none⟩), .pointer (some ⟨tb, 0, none⟩)] W fun e w' => e = .returned (.tuple #[]) ∧ But q W w' ∧ BoxAt w' q (pre ++ ((x.mv F G).cells ++ post)) := by
 have ct := hto.c 0 _ rfl
 have HM := hQ0 hm
 have HW := hQ0 hW
 have HX := hQ0 hx
 have hlt := hto.lt
 have K1 := hQ0 (hT q (pre.length + 2) x.p1 x.p2 _ W.drew hq hW.drew hx.drew (get_mid _ _ _ 2 _ rfl) (get_mid _ _ _ 3 _ rfl) HM.out.1 HM.out.2)
 clear hto hW hx hm
 clear hT
 go_enter Tryz.func133, Tryz.ntmps133; (try simp only [List.append_eq, List.cons_append, List.nil_append])
 go_wp2
 go_region_with (go_at_fn g; refine (K1.out).mono ?_; rintro e w1 ⟨rfl, hc_, hx_1⟩; have hb_1 := ((But.refl q _).drew).trans hc_; clear hc_)
 go_end0
 exact ⟨rfl, hb_1, box_mid (B := x.cells) hx_1 (by show 3 < 15; decide)⟩
def Zn.mild (x : Zn) : Prop := Go.Proofs.YtbpcjpiaimdpnaaGreatDoor.mild x.l1 ∧ Go.Proofs.YtbpcjpiaimdpnaaGreatDoor.mild x.l2 ∧ Go.Proofs.YtbpcjpiaimdpnaaGreatDoor.mild x.h1 ∧ Go.Proofs.YtbpcjpiaimdpnaaGreatDoor.mild x.h2
set_option maxRecDepth 100000 in
set_option maxHeartbeats 1000000 in
theorem plc_zs (w0 : World) (g : Nat) (lb : Array Value) (F G : Int → Int) (hT : ToSpec w0 g lb F G) (eg : ∀ args w, (callFunc g args).run Tryz.prog w = .ok (.enter g args) w) (tb q : Nat) (pre post : List Value) (x : Zn) (W : World) (hq : w0.heap.size ≤ q) (htq : tb ≠ q) (hW : Below w0.heap.size w0 W) (hto : BoxAt W tb [.func (.func g) #[] lb]) (hx : BoxAt W q (pre ++ (x.cells ++ post))) (hm : x.mild) :
  Calls Tryz.prog 135 #[.pointer (some ⟨q, pre.length, none⟩), .pointer (some ⟨tb, 0, none⟩)] W fun e w' => e = .returned (.tuple #[]) ∧ But q W w' ∧ BoxAt w' q (pre ++ ((x.mv F G).cells ++ post)) := by
 have ct := hto.c 0 _ rfl
 have HM := hQ0 hm
 have HW := hQ0 hW
 have HX := hQ0 hx
 have hlt := hto.lt
 have K1 := hQ0 (hT q (pre.length + 2) x.l1 x.l2 _ W.drew hq hW.drew hx.drew (get_mid _ _ _ 2 _ rfl) (get_mid _ _ _ 3 _ rfl) HM.out.1 HM.out.2.1)
 clear hto hW hx hm
 have HT := hQ0 hT
 clear hT
 go_enter Tryz.func135, Tryz.ntmps135; (try simp only [List.append_eq, List.cons_append, List.nil_append])
 go_wp2
 go_region_with (first | (have hq_ := hb_1; go_at_fn g; refine (K2.out).mono ?_; rintro e w2 ⟨rfl, hc_, hx_2⟩; have hb_2 := ((But.refl q _).drew).trans hc_; clear hc_) | (go_at_fn g; refine (K1.out).mono ?_; rintro e w1 ⟨rfl, hc_, hx_1⟩; have hb_1 := ((But.refl q _).drew).trans hc_; clear hc_; have ct_1 := ((hb_1).cell (p := ⟨tb, 0, none⟩) hlt htq).trans ct; have HX1 := hQ0 (box_mid (B := x.cells) hx_1 (by show 3 < 9; decide)); have K2 := hQ0 (HT.out q (pre.length + 4) x.h1 x.h2 _ w1.drew hq (HW.out.trans ((hb_1).toBelow hq HW.out.size)).drew HX1.out.drew (get_mid _ _ _ 4 _ rfl) (get_mid _ _ _ 5 _ rfl) HM.out.2.2.1 HM.out.2.2.2); clear hx_1))
 go_wp2
 go_region_with (first | (have hq_ := hb_1; go_at_fn g; refine (K2.out).mono ?_; rintro e w2 ⟨rfl, hc_, hx_2⟩; have hb_2 := ((But.refl q _).drew).trans hc_; clear hc_) | (go_at_fn g; refine (K1.out).mono ?_; rintro e w1 ⟨rfl, hc_, hx_1⟩; have hb_1 := ((But.refl q _).drew).trans hc_; clear hc_; have ct_1 := ((hb_1).cell (p := ⟨tb, 0, none⟩) hlt htq).trans ct; have HX1 := hQ0 (box_mid (B := x.cells) hx_1 (by show 3 < 9; decide)); have K2 := hQ0 (HT.out q (pre.length + 4) x.h1 x.h2 _ w1.drew hq (HW.out.trans ((hb_1).toBelow hq HW.out.size)).drew HX1.out.drew (get_mid _ _ _ 4 _ rfl) (get_mid _ _ _ 5 _ rfl) HM.out.2.2.1 HM.out.2.2.2); clear hx_1))
 go_end0
 exact ⟨rfl, (hb_1).trans hb_2, box_mid (B := _) hx_2 (by show 5 < 9; decide)⟩
def Sc.mild (x : Sc) : Prop := Go.Proofs.YtbpcjpiaimdpnaaGreatDoor.mild x.c1 ∧ Go.Proofs.YtbpcjpiaimdpnaaGreatDoor.mild x.c2
set_option maxRecDepth 100000 in
set_option maxHeartbeats 1000000 in
theorem plc_ss (w0 : World) (g : Nat) (lb : Array Value) (F G : Int → Int) (hT : ToSpec w0 g lb F G) (eg : ∀ args w, (callFunc g args).run Tryz.prog w = .ok (.enter g args) w) (tb q : Nat) (pre post : List Value) (x : Sc) (W : World) (hq : w0.heap.size ≤ q) (htq : tb ≠ q) (hW : Below w0.heap.size w0 W) (hto : BoxAt W tb [.func (.func g) #[] lb]) (hx : BoxAt W q (pre ++ (x.cells ++ post))) (hm : x.mild) :
  Calls Tryz.prog 137 #[.pointer (some ⟨q, pre.length, none⟩), .pointer (some ⟨tb, 0, none⟩)] W fun e w' => e = .returned (.tuple #[]) ∧ But q W w' ∧ BoxAt w' q (pre ++ ((x.mv F G).cells ++ post)) := by
 have ct := hto.c 0 _ rfl
 have HM := hQ0 hm
 have HW := hQ0 hW
 have HX := hQ0 hx
 have hlt := hto.lt
 have K1 := hQ0 (hT q (pre.length + 2) x.c1 x.c2 _ W.drew hq hW.drew hx.drew (get_mid _ _ _ 2 _ rfl) (get_mid _ _ _ 3 _ rfl) HM.out.1 HM.out.2)
 clear hto hW hx hm
 clear hT
 go_enter Tryz.func137, Tryz.ntmps137; (try simp only [List.append_eq, List.cons_append, List.nil_append])
 go_wp2
 go_region_with (go_at_fn g; refine (K1.out).mono ?_; rintro e w1 ⟨rfl, hc_, hx_1⟩; have hb_1 := ((But.refl q _).drew).trans hc_; clear hc_)
 go_end0
 exact ⟨rfl, hb_1, box_mid (B := x.cells) hx_1 (by show 3 < 10; decide)⟩
def La.mild (x : La) : Prop := Go.Proofs.YtbpcjpiaimdpnaaGreatDoor.mild x.c1 ∧ Go.Proofs.YtbpcjpiaimdpnaaGreatDoor.mild x.c2
set_option maxRecDepth 100000 in
set_option maxHeartbeats 1000000 in
theorem plc_las (w0 : World) (g : Nat) (lb : Array Value) (F G : Int → Int) (hT : ToSpec w0 g lb F G) (eg : ∀ args w, (callFunc g args).run Tryz.prog w = .ok (.enter g args) w) (tb q : Nat) (pre post : List Value) (x : La) (W : World) (hq : w0.heap.size ≤ q) (htq : tb ≠ q) (hW : Below w0.heap.size w0 W) (hto : BoxAt W tb [.func (.func g) #[] lb]) (hx : BoxAt W q (pre ++ (x.cells ++ post))) (hm : x.mild) :
  Calls Tryz.prog 139 #[.pointer (some ⟨q, pre.length, none⟩), .pointer (some ⟨tb, 0, none⟩)] W fun e w' => e = .returned (.tuple #[]) ∧ But q W w' ∧ BoxAt w' q (pre ++ ((x.mv F G).cells ++ post)) := by
 have ct := hto.c 0 _ rfl
 have HM := hQ0 hm
 have HW := hQ0 hW
 have HX := hQ0 hx
 have hlt := hto.lt
 have K1 := hQ0 (hT q (pre.length + 2) x.c1 x.c2 _ W.drew hq hW.drew hx.drew (get_mid _ _ _ 2 _ rfl) (get_mid _ _ _ 3 _ rfl) HM.out.1 HM.out.2)
 clear hto hW hx hm
 clear hT
 go_enter Tryz.func139, Tryz.ntmps139; (try simp only [List.append_eq, List.cons_append, List.nil_append])
 go_wp2
 go_region_with (go_at_fn g; refine (K1.out).mono ?_; rintro e w1 ⟨rfl, hc_, hx_1⟩; have hb_1 := ((But.refl q _).drew).trans hc_; clear hc_)
 go_end0
 exact ⟨rfl, hb_1, box_mid (B := x.cells) hx_1 (by show 3 < 6; decide)⟩
def Ra.mild (x : Ra) : Prop := Go.Proofs.YtbpcjpiaimdpnaaGreatDoor.mild x.c1 ∧ Go.Proofs.YtbpcjpiaimdpnaaGreatDoor.mild x.c2
set_option maxRecDepth 100000 in
set_option maxHeartbeats 1000000 in
theorem plc_rs (w0 : World) (g : Nat) (lb : Array Value) (F G : Int → Int) (hT : ToSpec w0 g lb F G) (eg : ∀ args w, (callFunc g args).run Tryz.prog w = .ok (.enter g args) w) (tb q : Nat) (pre post : List Value) (x : Ra) (W : World) (hq : w0.heap.size ≤ q) (htq : tb ≠ q) (hW : Below w0.heap.size w0 W) (hto : BoxAt W tb [.func (.func g) #[] lb]) (hx : BoxAt W q (pre ++ (x.cells ++ post))) (hm : x.mild) :
  Calls Tryz.prog 141 #[.pointer (some ⟨q, pre.length, none⟩), .pointer (some ⟨tb, 0, none⟩)] W fun e w' => e = .returned (.tuple #[]) ∧ But q W w' ∧ BoxAt w' q (pre ++ ((x.mv F G).cells ++ post)) := by
 have ct := hto.c 0 _ rfl
 have HM := hQ0 hm
 have HW := hQ0 hW
 have HX := hQ0 hx
 have hlt := hto.lt
 have K1 := hQ0 (hT q (pre.length + 3) x.c1 x.c2 _ W.drew hq hW.drew hx.drew (get_mid _ _ _ 3 _ rfl) (get_mid _ _ _ 4 _ rfl) HM.out.1 HM.out.2)
 clear hto hW hx hm
 clear hT
 go_enter Tryz.func141, Tryz.ntmps141; (try simp only [List.append_eq, List.cons_append, List.nil_append])
 go_wp2
 go_region_with (go_at_fn g; refine (K1.out).mono ?_; rintro e w1 ⟨rfl, hc_, hx_1⟩; have hb_1 := ((But.refl q _).drew).trans hc_; clear hc_)
 go_end0
 exact ⟨rfl, hb_1, box_mid (B := x.cells) hx_1 (by show 4 < 8; decide)⟩
def Dr.mild (x : Dr) : Prop := Go.Proofs.YtbpcjpiaimdpnaaGreatDoor.mild x.c1 ∧ Go.Proofs.YtbpcjpiaimdpnaaGreatDoor.mild x.c2
set_option maxRecDepth 100000 in
set_option maxHeartbeats 1000000 in
theorem plc_ds (w0 : World) (g : Nat) (lb : Array Value) (F G : Int → Int) (hT : ToSpec w0 g lb F G) (eg : ∀ args w, (callFunc g args).run Tryz.prog w = .ok (.enter g args) w) (tb q : Nat) (pre post : List Value) (x : Dr) (W : World) (hq : w0.heap.size ≤ q) (htq : tb ≠ q) (hW : Below w0.heap.size w0 W) (hto : BoxAt W tb [.func (.func g) #[] lb]) (hx : BoxAt W q (pre ++ (x.cells ++ post))) (hm : x.mild) :
  Calls Tryz.prog 143 #[.pointer (some ⟨q, pre.length, none⟩), .pointer (some ⟨tb, 0, none⟩)] W fun e w' => e = .returned (.tuple #[]) ∧ But q W w' ∧ BoxAt w' q (pre ++ ((x.mv F G).cells ++ post)) := by
 have ct := hto.c 0 _ rfl
 have HM := hQ0 hm
 have HW := hQ0 hW
 have HX := hQ0 hx
 have hlt := hto.lt
 have K1 := hQ0 (hT q (pre.length + 2) x.c1 x.c2 _ W.drew hq hW.drew hx.drew (get_mid _ _ _ 2 _ rfl) (get_mid _ _ _ 3 _ rfl) HM.out.1 HM.out.2)
 clear hto hW hx hm
 clear hT
 go_enter Tryz.func143, Tryz.ntmps143; (try simp only [List.append_eq, List.cons_append, List.nil_append])
 go_wp2
 go_region_with (go_at_fn g; refine (K1.out).mono ?_; rintro e w1 ⟨rfl, hc_, hx_1⟩; have hb_1 := ((But.refl q _).drew).trans hc_; clear hc_)
 go_end0
 exact ⟨rfl, hb_1, box_mid (B := x.cells) hx_1 (by show 3 < 5; decide)⟩
def Ln.mild (x : Ln) : Prop := Go.Proofs.YtbpcjpiaimdpnaaGreatDoor.mild x.a1 ∧ Go.Proofs.YtbpcjpiaimdpnaaGreatDoor.mild x.a2
set_option maxRecDepth 100000 in
set_option maxHeartbeats 1000000 in
theorem plc_lns (w0 : World) (g : Nat) (lb : Array Value) (F G : Int → Int) (hT : ToSpec w0 g lb F G) (eg : ∀ args w, (callFunc g args).run Tryz.prog w = .ok (.enter g args) w) (tb q : Nat) (pre post : List Value) (x : Ln) (W : World) (hq : w0.heap.size ≤ q) (htq : tb ≠ q) (hW : Below w0.heap.size w0 W) (hto : BoxAt W tb [.func (.func g) #[] lb]) (hx : BoxAt W q (pre ++ (x.cells ++ post))) (hm : x.mild) :
  Calls Tryz.prog 145 #[.pointer (some ⟨q, pre.length, none⟩), .pointer (some ⟨tb, 0, none⟩)] W fun e w' => e = .returned (.tuple #[]) ∧ But q W w' ∧ BoxAt w' q (pre ++ ((x.mv F G).cells ++ post)) := by
 have ct := hto.c 0 _ rfl
 have HM := hQ0 hm
 have HW := hQ0 hW
 have HX := hQ0 hx
 have hlt := hto.lt
 have K1 := hQ0 (hT q (pre.length + 2) x.a1 x.a2 _ W.drew hq hW.drew hx.drew (get_mid _ _ _ 2 _ rfl) (get_mid _ _ _ 3 _ rfl) HM.out.1 HM.out.2)
 clear hto hW hx hm
 clear hT
 go_enter Tryz.func145, Tryz.ntmps145; (try simp only [List.append_eq, List.cons_append, List.nil_append])
 go_wp2
 go_region_with (go_at_fn g; refine (K1.out).mono ?_; rintro e w1 ⟨rfl, hc_, hx_1⟩; have hb_1 := ((But.refl q _).drew).trans hc_; clear hc_)
 go_end0
 exact ⟨rfl, hb_1, box_mid (B := x.cells) hx_1 (by show 3 < 7; decide)⟩
def MapOut {α : Type} (f : α → List Value) (l : List α) (w : World) (e : Ending) (w' : World) : Prop := ∃ A c, e = .returned (.slice A l.length c) ∧ l.length ≤ c ∧ AOk A ∧ RowOwn f w' w.heap.size A l ∧ Below w.heap.size w w'
def ChSpec {α : Type} (f : α → List Value) (w : World) (g : Nat) (lb : Array Value) (ok : α → Prop) (U : α → α) : Prop :=
  ∀ (q : Nat) (pre post : List Value) (x : α) (W : World), w.heap.size ≤ q → Below w.heap.size w W → BoxAt W q (pre ++ (f x ++ post)) → ok x → Calls Tryz.prog g (#[.pointer (some ⟨q, pre.length, none⟩)] ++ lb) W fun e w' => e = .returned (.tuple #[]) ∧ Below w.heap.size W w' ∧ BoxAt w' q (pre ++ (f (U x) ++ post))
theorem flat_mid {α : Type} (f : α → List Value) (U : α → α) {l : List α} {k : Nat} {x : α} (hx : l[k]? = some x) : ((l.take k).map U ++ l.drop k).flatMap f = ((l.take k).map U).flatMap f ++ (f x ++ (l.drop (k + 1)).flatMap f) := by
 obtain ⟨h, rfl⟩ := List.getElem?_eq_some_iff.1 hx
 rw [List.drop_eq_getElem_cons h, List.flatMap_append, List.flatMap_cons]
theorem flat_mid2 {α : Type} (f : α → List Value) (U : α → α) {l : List α} {k : Nat} {x : α} (hx : l[k]? = some x) : ((l.take (k + 1)).map U ++ l.drop (k + 1)).flatMap f = ((l.take k).map U).flatMap f ++ (f (U x) ++ (l.drop (k + 1)).flatMap f) := by
 rw [List.take_add_one, hx, Option.toList_some, List.map_append, List.flatMap_append, List.flatMap_append, List.append_assoc]
 simp
set_option maxRecDepth 100000 in
set_option maxHeartbeats 1000000 in
theorem mapped_ws (l : List Wl) (A : Option Addr) (c g : Nat) (lb : Array Value) (U : Wl → Wl) (ok : Wl → Prop) (w : World) (eg : ∀ args w, (callFunc g args).run Tryz.prog w = .ok (.enter g args) w) (hA : RowsAt 13 Wl.cells w A l) (hk : AOk A) (hl : l.length ≤ 10000) (hok : ∀ x ∈ l, ok x) (hs : ChSpec Wl.cells w g lb ok U) :
  Calls Tryz.prog 126 #[.slice A l.length c, .func (.func g) #[] lb] w (MapOut Wl.cells (l.map U) w) := by
 have HC := hQ0 (clone_ws l A c w hA hk (by omega))
 have HS := hQ0 hs
 have HK := hQ0 hok
 clear hA hk hs hok
 go_enter Tryz.func126, Tryz.ntmps126; (try simp only [List.append_eq, List.cons_append, List.nil_append])
 go_wp2_with (go_at_call 172; refine HC.out.mono ?_; rintro e w1 ⟨A1, c1, rfl, hc1, hk1, hO1, hb1⟩)
 have HO1 := hQ0 hO1
 have HB1 := hQ0 hb1
 have HK1 := hQ0 hk1
 clear hO1 hb1 hk1 HC
 go_loopg [11] (l.length + 1) (fun gk t wr => ∃ k : Nat, k ≤ l.length ∧ l.length - k < gk ∧ t = .int .i64 k ∧ Hid (Below w.heap.size w wr) ∧ Hid (RowOwn Wl.cells wr w.heap.size A1 ((l.take k).map U ++ l.drop k)))
 case atStart => exact ⟨0, by omega, by omega, rfl, HB1, hQ0 (by simpa using HO1.out)⟩
 case round =>
  obtain ⟨wq, rfl⟩ : ∃ z, z = wr := ⟨_, rfl⟩
  obtain ⟨k, hkl, hkk, rfl, HB, HO⟩ := hrel
  by_cases hlt : k < l.length
  · obtain ⟨x, hx⟩ : ∃ x, l[k]? = some x := ⟨l[k], by simp⟩
    obtain ⟨q, rfl, hq, hbx⟩ : ∃ q, A1 = some ⟨q, 0, none⟩ ∧ w.heap.size ≤ q ∧ BoxAt wq q (((l.take k).map U ++ l.drop k).flatMap Wl.cells) := by
     rcases HO.out with h | h
     · have := congrArg List.length h
       simp at this
       omega
     · exact h
    rw [flat_mid Wl.cells U hx] at hbx
    have hpl : (((l.take k).map U).flatMap Wl.cells).length = k * 13 := by rw [flat_len Wl.cells 13 (fun _ => rfl), List.length_map, List.length_take, Nat.min_eq_left hkl]
    have KC := HS.out q _ _ x wq hq HB.out hbx (HK.out x (List.mem_of_getElem? hx))
    rw [hpl] at KC
    have HN : Hid (((l.take (k + 1)).map U ++ l.drop (k + 1)).flatMap Wl.cells = ((l.take k).map U).flatMap Wl.cells ++ (Wl.cells (U x) ++ (l.drop (k + 1)).flatMap Wl.cells)) := hQ0 (flat_mid2 Wl.cells U hx)
    have i1 : (k : Int) < (l.length : Int) := by omega
    have hqlt := hbx.lt
    clear hbx hx hpl
    go_wp2_with (go_at_fn g; refine KC.mono ?_; rintro e w2 ⟨rfl, hb2, hx2⟩)
    go_roundg (l.length - (k + 1) + 1)
    case measure => omega
    case rel => exact ⟨k + 1, by omega, by omega, by go_num, hQ0 (HB.out.trans hb2), hQ0 (.inr ⟨q, rfl, hq, by rw [HN.out]; exact hx2⟩)⟩
  · obtain rfl : k = l.length := by omega
    go_wp2_with fail
    go_ret
    refine ⟨A1, c1, by rw [List.length_map]; rfl, by rw [List.length_map]; exact hc1, HK1.out, ?_, HB.out⟩
    have h := HO.out
    rw [List.take_length, List.drop_length, List.append_nil] at h
    exact h
set_option maxRecDepth 100000 in
set_option maxHeartbeats 1000000 in
theorem mapped_ars (l : List Ac) (A : Option Addr) (c g : Nat) (lb : Array Value) (U : Ac → Ac) (ok : Ac → Prop) (w : World) (eg : ∀ args w, (callFunc g args).run Tryz.prog w = .ok (.enter g args) w) (hA : RowsAt 12 Ac.cells w A l) (hk : AOk A) (hl : l.length ≤ 10000) (hok : ∀ x ∈ l, ok x) (hs : ChSpec Ac.cells w g lb ok U) :
  Calls Tryz.prog 128 #[.slice A l.length c, .func (.func g) #[] lb] w (MapOut Ac.cells (l.map U) w) := by
 have HC := hQ0 (clone_ars l A c w hA hk (by omega))
 have HS := hQ0 hs
 have HK := hQ0 hok
 clear hA hk hs hok
 go_enter Tryz.func128, Tryz.ntmps128; (try simp only [List.append_eq, List.cons_append, List.nil_append])
 go_wp2_with (go_at_call 173; refine HC.out.mono ?_; rintro e w1 ⟨A1, c1, rfl, hc1, hk1, hO1, hb1⟩)
 have HO1 := hQ0 hO1
 have HB1 := hQ0 hb1
 have HK1 := hQ0 hk1
 clear hO1 hb1 hk1 HC
 go_loopg [11] (l.length + 1) (fun gk t wr => ∃ k : Nat, k ≤ l.length ∧ l.length - k < gk ∧ t = .int .i64 k ∧ Hid (Below w.heap.size w wr) ∧ Hid (RowOwn Ac.cells wr w.heap.size A1 ((l.take k).map U ++ l.drop k)))
 case atStart => exact ⟨0, by omega, by omega, rfl, HB1, hQ0 (by simpa using HO1.out)⟩
 case round =>
  obtain ⟨wq, rfl⟩ : ∃ z, z = wr := ⟨_, rfl⟩
  obtain ⟨k, hkl, hkk, rfl, HB, HO⟩ := hrel
  by_cases hlt : k < l.length
  · obtain ⟨x, hx⟩ : ∃ x, l[k]? = some x := ⟨l[k], by simp⟩
    obtain ⟨q, rfl, hq, hbx⟩ : ∃ q, A1 = some ⟨q, 0, none⟩ ∧ w.heap.size ≤ q ∧ BoxAt wq q (((l.take k).map U ++ l.drop k).flatMap Ac.cells) := by
     rcases HO.out with h | h
     · have := congrArg List.length h
       simp at this
       omega
     · exact h
    rw [flat_mid Ac.cells U hx] at hbx
    have hpl : (((l.take k).map U).flatMap Ac.cells).length = k * 12 := by rw [flat_len Ac.cells 12 (fun _ => rfl), List.length_map, List.length_take, Nat.min_eq_left hkl]
    have KC := HS.out q _ _ x wq hq HB.out hbx (HK.out x (List.mem_of_getElem? hx))
    rw [hpl] at KC
    have HN : Hid (((l.take (k + 1)).map U ++ l.drop (k + 1)).flatMap Ac.cells = ((l.take k).map U).flatMap Ac.cells ++ (Ac.cells (U x) ++ (l.drop (k + 1)).flatMap Ac.cells)) := hQ0 (flat_mid2 Ac.cells U hx)
    have i1 : (k : Int) < (l.length : Int) := by omega
    have hqlt := hbx.lt
    clear hbx hx hpl
    go_wp2_with (go_at_fn g; refine KC.mono ?_; rintro e w2 ⟨rfl, hb2, hx2⟩)
    go_roundg (l.length - (k + 1) + 1)
    case measure => omega
    case rel => exact ⟨k + 1, by omega, by omega, by go_num, hQ0 (HB.out.trans hb2), hQ0 (.inr ⟨q, rfl, hq, by rw [HN.out]; exact hx2⟩)⟩
  · obtain rfl : k = l.length := by omega
    go_wp2_with fail
    go_ret
    refine ⟨A1, c1, by rw [List.length_map]; rfl, by rw [List.length_map]; exact hc1, HK1.out, ?_, HB.out⟩
    have h := HO.out
    rw [List.take_length, List.drop_length, List.append_nil] at h
    exact h
set_option maxRecDepth 100000 in
set_option maxHeartbeats 1000000 in
theorem mapped_ps (l : List Ps) (A : Option Addr) (c g : Nat) (lb : Array Value) (U : Ps → Ps) (ok : Ps → Prop) (w : World) (eg : ∀ args w, (callFunc g args).run Tryz.prog w = .ok (.enter g args) w) (hA : RowsAt 11 Ps.cells w A l) (hk : AOk A) (hl : l.length ≤ 10000) (hok : ∀ x ∈ l, ok x) (hs : ChSpec Ps.cells w g lb ok U) :
  Calls Tryz.prog 130 #[.slice A l.length c, .func (.func g) #[] lb] w (MapOut Ps.cells (l.map U) w) := by
 have HC := hQ0 (clone_ps l A c w hA hk (by omega))
 have HS := hQ0 hs
 have HK := hQ0 hok
 clear hA hk hs hok
 go_enter Tryz.func130, Tryz.ntmps130; (try simp only [List.append_eq, List.cons_append, List.nil_append])
 go_wp2_with (go_at_call 174; refine HC.out.mono ?_; rintro e w1 ⟨A1, c1, rfl, hc1, hk1, hO1, hb1⟩)
 have HO1 := hQ0 hO1
 have HB1 := hQ0 hb1
 have HK1 := hQ0 hk1
 clear hO1 hb1 hk1 HC
 go_loopg [11] (l.length + 1) (fun gk t wr => ∃ k : Nat, k ≤ l.length ∧ l.length - k < gk ∧ t = .int .i64 k ∧ Hid (Below w.heap.size w wr) ∧ Hid (RowOwn Ps.cells wr w.heap.size A1 ((l.take k).map U ++ l.drop k)))
 case atStart => exact ⟨0, by omega, by omega, rfl, HB1, hQ0 (by simpa using HO1.out)⟩
 case round =>
  obtain ⟨wq, rfl⟩ : ∃ z, z = wr := ⟨_, rfl⟩
  obtain ⟨k, hkl, hkk, rfl, HB, HO⟩ := hrel
  by_cases hlt : k < l.length
  · obtain ⟨x, hx⟩ : ∃ x, l[k]? = some x := ⟨l[k], by simp⟩
    obtain ⟨q, rfl, hq, hbx⟩ : ∃ q, A1 = some ⟨q, 0, none⟩ ∧ w.heap.size ≤ q ∧ BoxAt wq q (((l.take k).map U ++ l.drop k).flatMap Ps.cells) := by
     rcases HO.out with h | h
     · have := congrArg List.length h
       simp at this
       omega
     · exact h
    rw [flat_mid Ps.cells U hx] at hbx
    have hpl : (((l.take k).map U).flatMap Ps.cells).length = k * 11 := by rw [flat_len Ps.cells 11 (fun _ => rfl), List.length_map, List.length_take, Nat.min_eq_left hkl]
    have KC := HS.out q _ _ x wq hq HB.out hbx (HK.out x (List.mem_of_getElem? hx))
    rw [hpl] at KC
    have HN : Hid (((l.take (k + 1)).map U ++ l.drop (k + 1)).flatMap Ps.cells = ((l.take k).map U).flatMap Ps.cells ++ (Ps.cells (U x) ++ (l.drop (k + 1)).flatMap Ps.cells)) := hQ0 (flat_mid2 Ps.cells U hx)
    have i1 : (k : Int) < (l.length : Int) := by omega
    have hqlt := hbx.lt
    clear hbx hx hpl
    go_wp2_with (go_at_fn g; refine KC.mono ?_; rintro e w2 ⟨rfl, hb2, hx2⟩)
    go_roundg (l.length - (k + 1) + 1)
    case measure => omega
    case rel => exact ⟨k + 1, by omega, by omega, by go_num, hQ0 (HB.out.trans hb2), hQ0 (.inr ⟨q, rfl, hq, by rw [HN.out]; exact hx2⟩)⟩
  · obtain rfl : k = l.length := by omega
    go_wp2_with fail
    go_ret
    refine ⟨A1, c1, by rw [List.length_map]; rfl, by rw [List.length_map]; exact hc1, HK1.out, ?_, HB.out⟩
    have h := HO.out
    rw [List.take_length, List.drop_length, List.append_nil] at h
    exact h
set_option maxRecDepth 100000 in
set_option maxHeartbeats 1000000 in
theorem mapped_fs (l : List Fl) (A : Option Addr) (c g : Nat) (lb : Array Value) (U : Fl → Fl) (ok : Fl → Prop) (w : World) (eg : ∀ args w, (callFunc g args).run Tryz.prog w = .ok (.enter g args) w) (hA : RowsAt 15 Fl.cells w A l) (hk : AOk A) (hl : l.length ≤ 10000) (hok : ∀ x ∈ l, ok x) (hs : ChSpec Fl.cells w g lb ok U) :
  Calls Tryz.prog 132 #[.slice A l.length c, .func (.func g) #[] lb] w (MapOut Fl.cells (l.map U) w) := by
 have HC := hQ0 (clone_fs l A c w hA hk (by omega))
 have HS := hQ0 hs
 have HK := hQ0 hok
 clear hA hk hs hok
 go_enter Tryz.func132, Tryz.ntmps132; (try simp only [List.append_eq, List.cons_append, List.nil_append])
 go_wp2_with (go_at_call 175; refine HC.out.mono ?_; rintro e w1 ⟨A1, c1, rfl, hc1, hk1, hO1, hb1⟩)
 have HO1 := hQ0 hO1
 have HB1 := hQ0 hb1
 have HK1 := hQ0 hk1
 clear hO1 hb1 hk1 HC
 go_loopg [11] (l.length + 1) (fun gk t wr => ∃ k : Nat, k ≤ l.length ∧ l.length - k < gk ∧ t = .int .i64 k ∧ Hid (Below w.heap.size w wr) ∧ Hid (RowOwn Fl.cells wr w.heap.size A1 ((l.take k).map U ++ l.drop k)))
 case atStart => exact ⟨0, by omega, by omega, rfl, HB1, hQ0 (by simpa using HO1.out)⟩
 case round =>
  obtain ⟨wq, rfl⟩ : ∃ z, z = wr := ⟨_, rfl⟩
  obtain ⟨k, hkl, hkk, rfl, HB, HO⟩ := hrel
  by_cases hlt : k < l.length
  · obtain ⟨x, hx⟩ : ∃ x, l[k]? = some x := ⟨l[k], by simp⟩
    obtain ⟨q, rfl, hq, hbx⟩ : ∃ q, A1 = some ⟨q, 0, none⟩ ∧ w.heap.size ≤ q ∧ BoxAt wq q (((l.take k).map U ++ l.drop k).flatMap Fl.cells) := by
     rcases HO.out with h | h
     · have := congrArg List.length h
       simp at this
       omega
     · exact h
    rw [flat_mid Fl.cells U hx] at hbx
    have hpl : (((l.take k).map U).flatMap Fl.cells).length = k * 15 := by rw [flat_len Fl.cells 15 (fun _ => rfl), List.length_map, List.length_take, Nat.min_eq_left hkl]
    have KC := HS.out q _ _ x wq hq HB.out hbx (HK.out x (List.mem_of_getElem? hx))
    rw [hpl] at KC
    have HN : Hid (((l.take (k + 1)).map U ++ l.drop (k + 1)).flatMap Fl.cells = ((l.take k).map U).flatMap Fl.cells ++ (Fl.cells (U x) ++ (l.drop (k + 1)).flatMap Fl.cells)) := hQ0 (flat_mid2 Fl.cells U hx)
    have i1 : (k : Int) < (l.length : Int) := by omega
    have hqlt := hbx.lt
    clear hbx hx hpl
    go_wp2_with (go_at_fn g; refine KC.mono ?_; rintro e w2 ⟨rfl, hb2, hx2⟩)
    go_roundg (l.length - (k + 1) + 1)
    case measure => omega
    case rel => exact ⟨k + 1, by omega, by omega, by go_num, hQ0 (HB.out.trans hb2), hQ0 (.inr ⟨q, rfl, hq, by rw [HN.out]; exact hx2⟩)⟩
  · obtain rfl : k = l.length := by omega
    go_wp2_with fail
    go_ret
    refine ⟨A1, c1, by rw [List.length_map]; rfl, by rw [List.length_map]; exact hc1, HK1.out, ?_, HB.out⟩
    have h := HO.out
    rw [List.take_length, List.drop_length, List.append_nil] at h
    exact h
set_option maxRecDepth 100000 in
set_option maxHeartbeats 1000000 in
theorem mapped_zs (l : List Zn) (A : Option Addr) (c g : Nat) (lb : Array Value) (U : Zn → Zn) (ok : Zn → Prop) (w : World) (eg : ∀ args w, (callFunc g args).run Tryz.prog w = .ok (.enter g args) w) (hA : RowsAt 9 Zn.cells w A l) (hk : AOk A) (hl : l.length ≤ 10000) (hok : ∀ x ∈ l, ok x) (hs : ChSpec Zn.cells w g lb ok U) :
  Calls Tryz.prog 134 #[.slice A l.length c, .func (.func g) #[] lb] w (MapOut Zn.cells (l.map U) w) := by
 have HC := hQ0 (clone_zs l A c w hA hk (by omega))
 have HS := hQ0 hs
 have HK := hQ0 hok
 clear hA hk hs hok
 go_enter Tryz.func134, Tryz.ntmps134; (try simp only [List.append_eq, List.cons_append, List.nil_append])
 go_wp2_with (go_at_call 176; refine HC.out.mono ?_; rintro e w1 ⟨A1, c1, rfl, hc1, hk1, hO1, hb1⟩)
 have HO1 := hQ0 hO1
 have HB1 := hQ0 hb1
 have HK1 := hQ0 hk1
 clear hO1 hb1 hk1 HC
 go_loopg [11] (l.length + 1) (fun gk t wr => ∃ k : Nat, k ≤ l.length ∧ l.length - k < gk ∧ t = .int .i64 k ∧ Hid (Below w.heap.size w wr) ∧ Hid (RowOwn Zn.cells wr w.heap.size A1 ((l.take k).map U ++ l.drop k)))
 case atStart => exact ⟨0, by omega, by omega, rfl, HB1, hQ0 (by simpa using HO1.out)⟩
 case round =>
  obtain ⟨wq, rfl⟩ : ∃ z, z = wr := ⟨_, rfl⟩
  obtain ⟨k, hkl, hkk, rfl, HB, HO⟩ := hrel
  by_cases hlt : k < l.length
  · obtain ⟨x, hx⟩ : ∃ x, l[k]? = some x := ⟨l[k], by simp⟩
    obtain ⟨q, rfl, hq, hbx⟩ : ∃ q, A1 = some ⟨q, 0, none⟩ ∧ w.heap.size ≤ q ∧ BoxAt wq q (((l.take k).map U ++ l.drop k).flatMap Zn.cells) := by
     rcases HO.out with h | h
     · have := congrArg List.length h
       simp at this
       omega
     · exact h
    rw [flat_mid Zn.cells U hx] at hbx
    have hpl : (((l.take k).map U).flatMap Zn.cells).length = k * 9 := by rw [flat_len Zn.cells 9 (fun _ => rfl), List.length_map, List.length_take, Nat.min_eq_left hkl]
    have KC := HS.out q _ _ x wq hq HB.out hbx (HK.out x (List.mem_of_getElem? hx))
    rw [hpl] at KC
    have HN : Hid (((l.take (k + 1)).map U ++ l.drop (k + 1)).flatMap Zn.cells = ((l.take k).map U).flatMap Zn.cells ++ (Zn.cells (U x) ++ (l.drop (k + 1)).flatMap Zn.cells)) := hQ0 (flat_mid2 Zn.cells U hx)
    have i1 : (k : Int) < (l.length : Int) := by omega
    have hqlt := hbx.lt
    clear hbx hx hpl
    go_wp2_with (go_at_fn g; refine KC.mono ?_; rintro e w2 ⟨rfl, hb2, hx2⟩)
    go_roundg (l.length - (k + 1) + 1)
    case measure => omega
    case rel => exact ⟨k + 1, by omega, by omega, by go_num, hQ0 (HB.out.trans hb2), hQ0 (.inr ⟨q, rfl, hq, by rw [HN.out]; exact hx2⟩)⟩
  · obtain rfl : k = l.length := by omega
    go_wp2_with fail
    go_ret
    refine ⟨A1, c1, by rw [List.length_map]; rfl, by rw [List.length_map]; exact hc1, HK1.out, ?_, HB.out⟩
    have h := HO.out
    rw [List.take_length, List.drop_length, List.append_nil] at h
    exact h
set_option maxRecDepth 100000 in
set_option maxHeartbeats 1000000 in
theorem mapped_ss (l : List Sc) (A : Option Addr) (c g : Nat) (lb : Array Value) (U : Sc → Sc) (ok : Sc → Prop) (w : World) (eg : ∀ args w, (callFunc g args).run Tryz.prog w = .ok (.enter g args) w) (hA : RowsAt 10 Sc.cells w A l) (hk : AOk A) (hl : l.length ≤ 10000) (hok : ∀ x ∈ l, ok x) (hs : ChSpec Sc.cells w g lb ok U) :
  Calls Tryz.prog 136 #[.slice A l.length c, .func (.func g) #[] lb] w (MapOut Sc.cells (l.map U) w) := by
 have HC := hQ0 (clone_ss l A c w hA hk (by omega))
 have HS := hQ0 hs
 have HK := hQ0 hok
 clear hA hk hs hok
 go_enter Tryz.func136, Tryz.ntmps136; (try simp only [List.append_eq, List.cons_append, List.nil_append])
 go_wp2_with (go_at_call 177; refine HC.out.mono ?_; rintro e w1 ⟨A1, c1, rfl, hc1, hk1, hO1, hb1⟩)
 have HO1 := hQ0 hO1
 have HB1 := hQ0 hb1
 have HK1 := hQ0 hk1
 clear hO1 hb1 hk1 HC
 go_loopg [11] (l.length + 1) (fun gk t wr => ∃ k : Nat, k ≤ l.length ∧ l.length - k < gk ∧ t = .int .i64 k ∧ Hid (Below w.heap.size w wr) ∧ Hid (RowOwn Sc.cells wr w.heap.size A1 ((l.take k).map U ++ l.drop k)))
 case atStart => exact ⟨0, by omega, by omega, rfl, HB1, hQ0 (by simpa using HO1.out)⟩
 case round =>
  obtain ⟨wq, rfl⟩ : ∃ z, z = wr := ⟨_, rfl⟩
  obtain ⟨k, hkl, hkk, rfl, HB, HO⟩ := hrel
  by_cases hlt : k < l.length
  · obtain ⟨x, hx⟩ : ∃ x, l[k]? = some x := ⟨l[k], by simp⟩
    obtain ⟨q, rfl, hq, hbx⟩ : ∃ q, A1 = some ⟨q, 0, none⟩ ∧ w.heap.size ≤ q ∧ BoxAt wq q (((l.take k).map U ++ l.drop k).flatMap Sc.cells) := by
     rcases HO.out with h | h
     · have := congrArg List.length h
       simp at this
       omega
     · exact h
    rw [flat_mid Sc.cells U hx] at hbx
    have hpl : (((l.take k).map U).flatMap Sc.cells).length = k * 10 := by rw [flat_len Sc.cells 10 (fun _ => rfl), List.length_map, List.length_take, Nat.min_eq_left hkl]
    have KC := HS.out q _ _ x wq hq HB.out hbx (HK.out x (List.mem_of_getElem? hx))
    rw [hpl] at KC
    have HN : Hid (((l.take (k + 1)).map U ++ l.drop (k + 1)).flatMap Sc.cells = ((l.take k).map U).flatMap Sc.cells ++ (Sc.cells (U x) ++ (l.drop (k + 1)).flatMap Sc.cells)) := hQ0 (flat_mid2 Sc.cells U hx)
    have i1 : (k : Int) < (l.length : Int) := by omega
    have hqlt := hbx.lt
    clear hbx hx hpl
    go_wp2_with (go_at_fn g; refine KC.mono ?_; rintro e w2 ⟨rfl, hb2, hx2⟩)
    go_roundg (l.length - (k + 1) + 1)
    case measure => omega
    case rel => exact ⟨k + 1, by omega, by omega, by go_num, hQ0 (HB.out.trans hb2), hQ0 (.inr ⟨q, rfl, hq, by rw [HN.out]; exact hx2⟩)⟩
  · obtain rfl : k = l.length := by omega
    go_wp2_with fail
    go_ret
    refine ⟨A1, c1, by rw [List.length_map]; rfl, by rw [List.length_map]; exact hc1, HK1.out, ?_, HB.out⟩
    have h := HO.out
    rw [List.take_length, List.drop_length, List.append_nil] at h
    exact h
set_option maxRecDepth 100000 in
set_option maxHeartbeats 1000000 in
theorem mapped_las (l : List La) (A : Option Addr) (c g : Nat) (lb : Array Value) (U : La → La) (ok : La → Prop) (w : World) (eg : ∀ args w, (callFunc g args).run Tryz.prog w = .ok (.enter g args) w) (hA : RowsAt 6 La.cells w A l) (hk : AOk A) (hl : l.length ≤ 10000) (hok : ∀ x ∈ l, ok x) (hs : ChSpec La.cells w g lb ok U) :
  Calls Tryz.prog 138 #[.slice A l.length c, .func (.func g) #[] lb] w (MapOut La.cells (l.map U) w) := by
 have HC := hQ0 (clone_las l A c w hA hk (by omega))
 have HS := hQ0 hs
 have HK := hQ0 hok
 clear hA hk hs hok
 go_enter Tryz.func138, Tryz.ntmps138; (try simp only [List.append_eq, List.cons_append, List.nil_append])
 go_wp2_with (go_at_call 178; refine HC.out.mono ?_; rintro e w1 ⟨A1, c1, rfl, hc1, hk1, hO1, hb1⟩)
 have HO1 := hQ0 hO1
 have HB1 := hQ0 hb1
 have HK1 := hQ0 hk1
 clear hO1 hb1 hk1 HC
 go_loopg [11] (l.length + 1) (fun gk t wr => ∃ k : Nat, k ≤ l.length ∧ l.length - k < gk ∧ t = .int .i64 k ∧ Hid (Below w.heap.size w wr) ∧ Hid (RowOwn La.cells wr w.heap.size A1 ((l.take k).map U ++ l.drop k)))
 case atStart => exact ⟨0, by omega, by omega, rfl, HB1, hQ0 (by simpa using HO1.out)⟩
 case round =>
  obtain ⟨wq, rfl⟩ : ∃ z, z = wr := ⟨_, rfl⟩
  obtain ⟨k, hkl, hkk, rfl, HB, HO⟩ := hrel
  by_cases hlt : k < l.length
  · obtain ⟨x, hx⟩ : ∃ x, l[k]? = some x := ⟨l[k], by simp⟩
    obtain ⟨q, rfl, hq, hbx⟩ : ∃ q, A1 = some ⟨q, 0, none⟩ ∧ w.heap.size ≤ q ∧ BoxAt wq q (((l.take k).map U ++ l.drop k).flatMap La.cells) := by
     rcases HO.out with h | h
     · have := congrArg List.length h
       simp at this
       omega
     · exact h
    rw [flat_mid La.cells U hx] at hbx
    have hpl : (((l.take k).map U).flatMap La.cells).length = k * 6 := by rw [flat_len La.cells 6 (fun _ => rfl), List.length_map, List.length_take, Nat.min_eq_left hkl]
    have KC := HS.out q _ _ x wq hq HB.out hbx (HK.out x (List.mem_of_getElem? hx))
    rw [hpl] at KC
    have HN : Hid (((l.take (k + 1)).map U ++ l.drop (k + 1)).flatMap La.cells = ((l.take k).map U).flatMap La.cells ++ (La.cells (U x) ++ (l.drop (k + 1)).flatMap La.cells)) := hQ0 (flat_mid2 La.cells U hx)
    have i1 : (k : Int) < (l.length : Int) := by omega
    have hqlt := hbx.lt
    clear hbx hx hpl
    go_wp2_with (go_at_fn g; refine KC.mono ?_; rintro e w2 ⟨rfl, hb2, hx2⟩)
    go_roundg (l.length - (k + 1) + 1)
    case measure => omega
    case rel => exact ⟨k + 1, by omega, by omega, by go_num, hQ0 (HB.out.trans hb2), hQ0 (.inr ⟨q, rfl, hq, by rw [HN.out]; exact hx2⟩)⟩
  · obtain rfl : k = l.length := by omega
    go_wp2_with fail
    go_ret
    refine ⟨A1, c1, by rw [List.length_map]; rfl, by rw [List.length_map]; exact hc1, HK1.out, ?_, HB.out⟩
    have h := HO.out
    rw [List.take_length, List.drop_length, List.append_nil] at h
    exact h
set_option maxRecDepth 100000 in
set_option maxHeartbeats 1000000 in
theorem mapped_rs (l : List Ra) (A : Option Addr) (c g : Nat) (lb : Array Value) (U : Ra → Ra) (ok : Ra → Prop) (w : World) (eg : ∀ args w, (callFunc g args).run Tryz.prog w = .ok (.enter g args) w) (hA : RowsAt 8 Ra.cells w A l) (hk : AOk A) (hl : l.length ≤ 10000) (hok : ∀ x ∈ l, ok x) (hs : ChSpec Ra.cells w g lb ok U) :
  Calls Tryz.prog 140 #[.slice A l.length c, .func (.func g) #[] lb] w (MapOut Ra.cells (l.map U) w) := by
 have HC := hQ0 (clone_rs l A c w hA hk (by omega))
 have HS := hQ0 hs
 have HK := hQ0 hok
 clear hA hk hs hok
 go_enter Tryz.func140, Tryz.ntmps140; (try simp only [List.append_eq, List.cons_append, List.nil_append])
 go_wp2_with (go_at_call 179; refine HC.out.mono ?_; rintro e w1 ⟨A1, c1, rfl, hc1, hk1, hO1, hb1⟩)
 have HO1 := hQ0 hO1
 have HB1 := hQ0 hb1
 have HK1 := hQ0 hk1
 clear hO1 hb1 hk1 HC
 go_loopg [11] (l.length + 1) (fun gk t wr => ∃ k : Nat, k ≤ l.length ∧ l.length - k < gk ∧ t = .int .i64 k ∧ Hid (Below w.heap.size w wr) ∧ Hid (RowOwn Ra.cells wr w.heap.size A1 ((l.take k).map U ++ l.drop k)))
 case atStart => exact ⟨0, by omega, by omega, rfl, HB1, hQ0 (by simpa using HO1.out)⟩
 case round =>
  obtain ⟨wq, rfl⟩ : ∃ z, z = wr := ⟨_, rfl⟩
  obtain ⟨k, hkl, hkk, rfl, HB, HO⟩ := hrel
  by_cases hlt : k < l.length
  · obtain ⟨x, hx⟩ : ∃ x, l[k]? = some x := ⟨l[k], by simp⟩
    obtain ⟨q, rfl, hq, hbx⟩ : ∃ q, A1 = some ⟨q, 0, none⟩ ∧ w.heap.size ≤ q ∧ BoxAt wq q (((l.take k).map U ++ l.drop k).flatMap Ra.cells) := by
     rcases HO.out with h | h
     · have := congrArg List.length h
       simp at this
       omega
     · exact h
    rw [flat_mid Ra.cells U hx] at hbx
    have hpl : (((l.take k).map U).flatMap Ra.cells).length = k * 8 := by rw [flat_len Ra.cells 8 (fun _ => rfl), List.length_map, List.length_take, Nat.min_eq_left hkl]
    have KC := HS.out q _ _ x wq hq HB.out hbx (HK.out x (List.mem_of_getElem? hx))
    rw [hpl] at KC
    have HN : Hid (((l.take (k + 1)).map U ++ l.drop (k + 1)).flatMap Ra.cells = ((l.take k).map U).flatMap Ra.cells ++ (Ra.cells (U x) ++ (l.drop (k + 1)).flatMap Ra.cells)) := hQ0 (flat_mid2 Ra.cells U hx)
    have i1 : (k : Int) < (l.length : Int) := by omega
    have hqlt := hbx.lt
    clear hbx hx hpl
    go_wp2_with (go_at_fn g; refine KC.mono ?_; rintro e w2 ⟨rfl, hb2, hx2⟩)
    go_roundg (l.length - (k + 1) + 1)
    case measure => omega
    case rel => exact ⟨k + 1, by omega, by omega, by go_num, hQ0 (HB.out.trans hb2), hQ0 (.inr ⟨q, rfl, hq, by rw [HN.out]; exact hx2⟩)⟩
  · obtain rfl : k = l.length := by omega
    go_wp2_with fail
    go_ret
    refine ⟨A1, c1, by rw [List.length_map]; rfl, by rw [List.length_map]; exact hc1, HK1.out, ?_, HB.out⟩
    have h := HO.out
    rw [List.take_length, List.drop_length, List.append_nil] at h
    exact h
set_option maxRecDepth 100000 in
set_option maxHeartbeats 1000000 in
theorem mapped_ds (l : List Dr) (A : Option Addr) (c g : Nat) (lb : Array Value) (U : Dr → Dr) (ok : Dr → Prop) (w : World) (eg : ∀ args w, (callFunc g args).run Tryz.prog w = .ok (.enter g args) w) (hA : RowsAt 5 Dr.cells w A l) (hk : AOk A) (hl : l.length ≤ 10000) (hok : ∀ x ∈ l, ok x) (hs : ChSpec Dr.cells w g lb ok U) :
  Calls Tryz.prog 142 #[.slice A l.length c, .func (.func g) #[] lb] w (MapOut Dr.cells (l.map U) w) := by
 have HC := hQ0 (clone_ds l A c w hA hk (by omega))
 have HS := hQ0 hs
 have HK := hQ0 hok
 clear hA hk hs hok
 go_enter Tryz.func142, Tryz.ntmps142; (try simp only [List.append_eq, List.cons_append, List.nil_append])
 go_wp2_with (go_at_call 180; refine HC.out.mono ?_; rintro e w1 ⟨A1, c1, rfl, hc1, hk1, hO1, hb1⟩)
 have HO1 := hQ0 hO1
 have HB1 := hQ0 hb1
 have HK1 := hQ0 hk1
 clear hO1 hb1 hk1 HC
 go_loopg [11] (l.length + 1) (fun gk t wr => ∃ k : Nat, k ≤ l.length ∧ l.length - k < gk ∧ t = .int .i64 k ∧ Hid (Below w.heap.size w wr) ∧ Hid (RowOwn Dr.cells wr w.heap.size A1 ((l.take k).map U ++ l.drop k)))
 case atStart => exact ⟨0, by omega, by omega, rfl, HB1, hQ0 (by simpa using HO1.out)⟩
 case round =>
  obtain ⟨wq, rfl⟩ : ∃ z, z = wr := ⟨_, rfl⟩
  obtain ⟨k, hkl, hkk, rfl, HB, HO⟩ := hrel
  by_cases hlt : k < l.length
  · obtain ⟨x, hx⟩ : ∃ x, l[k]? = some x := ⟨l[k], by simp⟩
    obtain ⟨q, rfl, hq, hbx⟩ : ∃ q, A1 = some ⟨q, 0, none⟩ ∧ w.heap.size ≤ q ∧ BoxAt wq q (((l.take k).map U ++ l.drop k).flatMap Dr.cells) := by
     rcases HO.out with h | h
     · have := congrArg List.length h
       simp at this
       omega
     · exact h
    rw [flat_mid Dr.cells U hx] at hbx
    have hpl : (((l.take k).map U).flatMap Dr.cells).length = k * 5 := by rw [flat_len Dr.cells 5 (fun _ => rfl), List.length_map, List.length_take, Nat.min_eq_left hkl]
    have KC := HS.out q _ _ x wq hq HB.out hbx (HK.out x (List.mem_of_getElem? hx))
    rw [hpl] at KC
    have HN : Hid (((l.take (k + 1)).map U ++ l.drop (k + 1)).flatMap Dr.cells = ((l.take k).map U).flatMap Dr.cells ++ (Dr.cells (U x) ++ (l.drop (k + 1)).flatMap Dr.cells)) := hQ0 (flat_mid2 Dr.cells U hx)
    have i1 : (k : Int) < (l.length : Int) := by omega
    have hqlt := hbx.lt
    clear hbx hx hpl
    go_wp2_with (go_at_fn g; refine KC.mono ?_; rintro e w2 ⟨rfl, hb2, hx2⟩)
    go_roundg (l.length - (k + 1) + 1)
    case measure => omega
    case rel => exact ⟨k + 1, by omega, by omega, by go_num, hQ0 (HB.out.trans hb2), hQ0 (.inr ⟨q, rfl, hq, by rw [HN.out]; exact hx2⟩)⟩
  · obtain rfl : k = l.length := by omega
    go_wp2_with fail
    go_ret
    refine ⟨A1, c1, by rw [List.length_map]; rfl, by rw [List.length_map]; exact hc1, HK1.out, ?_, HB.out⟩
    have h := HO.out
    rw [List.take_length, List.drop_length, List.append_nil] at h
    exact h
set_option maxRecDepth 100000 in
set_option maxHeartbeats 1000000 in
theorem mapped_lns (l : List Ln) (A : Option Addr) (c g : Nat) (lb : Array Value) (U : Ln → Ln) (ok : Ln → Prop) (w : World) (eg : ∀ args w, (callFunc g args).run Tryz.prog w = .ok (.enter g args) w) (hA : RowsAt 7 Ln.cells w A l) (hk : AOk A) (hl : l.length ≤ 10000) (hok : ∀ x ∈ l, ok x) (hs : ChSpec Ln.cells w g lb ok U) :
  Calls Tryz.prog 144 #[.slice A l.length c, .func (.func g) #[] lb] w (MapOut Ln.cells (l.map U) w) := by
 have HC := hQ0 (clone_lns l A c w hA hk (by omega))
 have HS := hQ0 hs
 have HK := hQ0 hok
 clear hA hk hs hok
 go_enter Tryz.func144, Tryz.ntmps144; (try simp only [List.append_eq, List.cons_append, List.nil_append])
 go_wp2_with (go_at_call 181; refine HC.out.mono ?_; rintro e w1 ⟨A1, c1, rfl, hc1, hk1, hO1, hb1⟩)
 have HO1 := hQ0 hO1
 have HB1 := hQ0 hb1
 have HK1 := hQ0 hk1
 clear hO1 hb1 hk1 HC
 go_loopg [11] (l.length + 1) (fun gk t wr => ∃ k : Nat, k ≤ l.length ∧ l.length - k < gk ∧ t = .int .i64 k ∧ Hid (Below w.heap.size w wr) ∧ Hid (RowOwn Ln.cells wr w.heap.size A1 ((l.take k).map U ++ l.drop k)))
 case atStart => exact ⟨0, by omega, by omega, rfl, HB1, hQ0 (by simpa using HO1.out)⟩
 case round =>
  obtain ⟨wq, rfl⟩ : ∃ z, z = wr := ⟨_, rfl⟩
  obtain ⟨k, hkl, hkk, rfl, HB, HO⟩ := hrel
  by_cases hlt : k < l.length
  · obtain ⟨x, hx⟩ : ∃ x, l[k]? = some x := ⟨l[k], by simp⟩
    obtain ⟨q, rfl, hq, hbx⟩ : ∃ q, A1 = some ⟨q, 0, none⟩ ∧ w.heap.size ≤ q ∧ BoxAt wq q (((l.take k).map U ++ l.drop k).flatMap Ln.cells) := by
     rcases HO.out with h | h
     · have := congrArg List.length h
       simp at this
       omega
     · exact h
    rw [flat_mid Ln.cells U hx] at hbx
    have hpl : (((l.take k).map U).flatMap Ln.cells).length = k * 7 := by rw [flat_len Ln.cells 7 (fun _ => rfl), List.length_map, List.length_take, Nat.min_eq_left hkl]
    have KC := HS.out q _ _ x wq hq HB.out hbx (HK.out x (List.mem_of_getElem? hx))
    rw [hpl] at KC
    have HN : Hid (((l.take (k + 1)).map U ++ l.drop (k + 1)).flatMap Ln.cells = ((l.take k).map U).flatMap Ln.cells ++ (Ln.cells (U x) ++ (l.drop (k + 1)).flatMap Ln.cells)) := hQ0 (flat_mid2 Ln.cells U hx)
    have i1 : (k : Int) < (l.length : Int) := by omega
    have hqlt := hbx.lt
    clear hbx hx hpl
    go_wp2_with (go_at_fn g; refine KC.mono ?_; rintro e w2 ⟨rfl, hb2, hx2⟩)
    go_roundg (l.length - (k + 1) + 1)
    case measure => omega
    case rel => exact ⟨k + 1, by omega, by omega, by go_num, hQ0 (HB.out.trans hb2), hQ0 (.inr ⟨q, rfl, hq, by rw [HN.out]; exact hx2⟩)⟩
  · obtain rfl : k = l.length := by omega
    go_wp2_with fail
    go_ret
    refine ⟨A1, c1, by rw [List.length_map]; rfl, by rw [List.length_map]; exact hc1, HK1.out, ?_, HB.out⟩
    have h := HO.out
    rw [List.take_length, List.drop_length, List.append_nil] at h
    exact h
def RowIn {α : Type} (f : α → List Value) (w : World) (lo hi : Nat) (A : Option Addr) (l : List α) : Prop := l = [] ∨ ∃ q, A = some ⟨q, 0, none⟩ ∧ lo ≤ q ∧ q < hi ∧ BoxAt w q (l.flatMap f)
structure OutOf (lo hi : Nat) (w w' : World) : Prop where
  os : w'.os = w.os
  tape : w'.tape = w.tape
  output : w'.output = w.output
  size : w.heap.size ≤ w'.heap.size
  block : ∀ k, k < w.heap.size → ¬ (lo ≤ k ∧ k < hi) → w'.heap[k]? = w.heap[k]?
theorem OutOf.refl (lo hi : Nat) (w : World) : OutOf lo hi w w := ⟨rfl, rfl, rfl, Nat.le_refl _, fun _ _ _ => rfl⟩
theorem OutOf.trans {lo hi : Nat} {a b c : World} (h : OutOf lo hi a b) (g : OutOf lo hi b c) : OutOf lo hi a c := ⟨g.os.trans h.os, g.tape.trans h.tape, g.output.trans h.output, Nat.le_trans h.size g.size, fun k h1 h2 => (g.block k (Nat.lt_of_lt_of_le h1 h.size) h2).trans (h.block k h1 h2)⟩
theorem OutOf.of_but {lo hi q : Nat} {a b : World} (h : But q a b) (h1 : lo ≤ q) (h2 : q < hi) : OutOf lo hi a b := ⟨h.os, h.tape, h.output, h.size, fun k hk hn => h.block k hk (by omega)⟩
theorem OutOf.of_below {lo hi : Nat} {a b : World} (h : Below a.heap.size a b) : OutOf lo hi a b := ⟨h.os, h.tape, h.output, h.size, fun k hk _ => h.block k hk⟩
theorem OutOf.toBelow {lo hi B : Nat} {a b : World} (h : OutOf lo hi a b) (h1 : B ≤ lo) (h2 : B ≤ a.heap.size) : Below B a b := ⟨h.os, h.tape, h.output, h.size, fun k hk => h.block k (by omega) (by omega)⟩
theorem OutOf.box {lo hi b : Nat} {w w' : World} {cs : List Value} (h : OutOf lo hi w w') (hb : BoxAt w b cs) (hn : b < lo ∨ hi ≤ b) : BoxAt w' b cs := hb.block h.size (h.block b hb.lt (by omega))
section
variable {α : Type} {n : Nat} {f : α → List Value} {w w1 : World} {A : Option Addr} {l : List α} {lo hi : Nat}
theorem RowIn.rows (hf : ∀ x, (f x).length = n) (h : RowIn f w lo hi A l) : RowsAt n f w A l := fun k x hx => by
 rcases h with rfl | ⟨q, rfl, _, _, hb⟩
 · simp at hx
 · exact ⟨q, 0, rfl, hb.lt, fun j u hu => by rw [Nat.zero_add]; exact hb.c _ _ (flat_get f n hf l k j x u hx hu)⟩
theorem RowIn.out {lo' hi' : Nat} (h : RowIn f w lo hi A l) (hb : OutOf lo' hi' w w1) (hn : hi ≤ lo' ∨ hi' ≤ lo) : RowIn f w1 lo hi A l := by
 rcases h with rfl | ⟨q, hA, h1, h2, hx⟩
 · exact .inl rfl
 · exact .inr ⟨q, hA, h1, h2, hb.box hx (by omega)⟩
theorem RowIn.but {q : Nat} (h : RowIn f w lo hi A l) (hb : But q w w1) (hn : q < lo ∨ hi ≤ q) : RowIn f w1 lo hi A l := h.out (OutOf.of_but (lo := q) (hi := q + 1) hb (Nat.le_refl _) (by omega)) (by omega)
theorem RowIn.of_own {B : Nat} (h : RowOwn f w B A l) : RowIn f w B w.heap.size A l := by
 rcases h with rfl | ⟨q, hA, hq, hx⟩
 · exact .inl rfl
 · exact .inr ⟨q, hA, hq, hx.lt, hx⟩
end
structure TbSep (w : World) (b : Nat → Nat) (t : Tb) (a : TbA) : Prop where
  tr : RowIn (fun x : Int => [Value.int .i64 x]) w (b 0) (b 1) a.tr t.tr
  ws : RowIn Wl.cells w (b 1) (b 2) a.ws t.ws
  ars : RowIn Ac.cells w (b 2) (b 3) a.ars t.ars
  ps : RowIn Ps.cells w (b 3) (b 4) a.ps t.ps
  fs : RowIn Fl.cells w (b 4) (b 5) a.fs t.fs
  zs : RowIn Zn.cells w (b 5) (b 6) a.zs t.zs
  ss : RowIn Sc.cells w (b 6) (b 7) a.ss t.ss
  las : RowIn La.cells w (b 7) (b 8) a.las t.las
  rs : RowIn Ra.cells w (b 8) (b 9) a.rs t.rs
  ds : RowIn Dr.cells w (b 9) (b 10) a.ds t.ds
  lns : RowIn Ln.cells w (b 10) (b 11) a.lns t.lns
  ord : b 0 ≤ b 1 ∧ b 1 ≤ b 2 ∧ b 2 ≤ b 3 ∧ b 3 ≤ b 4 ∧ b 4 ≤ b 5 ∧ b 5 ≤ b 6 ∧ b 6 ≤ b 7 ∧ b 7 ≤ b 8 ∧ b 8 ≤ b 9 ∧ b 9 ≤ b 10 ∧ b 10 ≤ b 11
theorem TbSep.at {w : World} {b : Nat → Nat} {t : Tb} {a : TbA} (h : TbSep w b t a) : TbAt w t a := ⟨h.tr.rows (fun _ => rfl), h.ws.rows (fun _ => rfl), h.ars.rows (fun _ => rfl), h.ps.rows (fun _ => rfl), h.fs.rows (fun _ => rfl), h.zs.rows (fun _ => rfl), h.ss.rows (fun _ => rfl), h.las.rows (fun _ => rfl), h.rs.rows (fun _ => rfl), h.ds.rows (fun _ => rfl), h.lns.rows (fun _ => rfl)⟩
theorem TbSep.but {w w1 : World} {b : Nat → Nat} {q : Nat} {t : Tb} {a : TbA} (h : TbSep w b t a) (hb : But q w w1) (hq : q < b 0) : TbSep w1 b t a := by
 have o := h.ord
 exact ⟨h.tr.but hb (by omega), h.ws.but hb (by omega), h.ars.but hb (by omega), h.ps.but hb (by omega), h.fs.but hb (by omega), h.zs.but hb (by omega), h.ss.but hb (by omega), h.las.but hb (by omega), h.rs.but hb (by omega), h.ds.but hb (by omega), h.lns.but hb (by omega), o⟩
structure Tb.mild (t : Tb) : Prop where
  ws : ∀ x ∈ t.ws, x.mild
  ars : ∀ x ∈ t.ars, x.mild
  ps : ∀ x ∈ t.ps, x.mild
  fs : ∀ x ∈ t.fs, x.mild
  zs : ∀ x ∈ t.zs, x.mild
  ss : ∀ x ∈ t.ss, x.mild
  las : ∀ x ∈ t.las, x.mild
  rs : ∀ x ∈ t.rs, x.mild
  ds : ∀ x ∈ t.ds, x.mild
  lns : ∀ x ∈ t.lns, x.mild
def MvOut (t : Tb) (w : World) (e : Ending) (w' : World) : Prop := ∃ a, e = .returned (t.v a) ∧ Below w.heap.size w w' ∧ (∃ b, w.heap.size < b 0 ∧ TbSep w' b t a) ∧ TbCap t a
theorem but_setCells (b o : Nat) (vs : List Value) (w : World) : But b w (w.setCells b o vs) := by
 have h := below_setCells (Nat.le_refl b) vs o (Below.refl b w)
 exact ⟨h.os, h.tape, h.output, h.size, fun k _ hn => heap_setCells hn vs o w⟩
theorem bx_new {n : Nat} (W : World) (cs : List Value) (e : TypeId) (h : W.heap.size = n) : BoxAt (W.alloc (.cells cs.toArray e)) n cs := h ▸ BoxAt.new W cs e
theorem cat1 (a b : Value) : (#[a] ++ #[b] : Array Value) = #[a, b] := rfl
theorem ch_ws (w0 : World) (g : Nat) (lb : Array Value) (F G : Int → Int) (hT : ToSpec w0 g lb F G) (eg : ∀ args w, (callFunc g args).run Tryz.prog w = .ok (.enter g args) w) (V : World) (tb : Nat) (hV : Below w0.heap.size w0 V) (hto : BoxAt V tb [.func (.func g) #[] lb]) : ChSpec Wl.cells V 127 #[.pointer (some ⟨tb, 0, none⟩)] Wl.mild (Wl.mv F G) := by
 intro q pre post x W hq hW hx hm
 rw [cat1]
 exact (plc_ws w0 g lb F G hT eg tb q pre post x W (Nat.le_trans hV.size hq) (by have := hto.lt; omega) (hV.trans (hW.mono hV.size)) (hto.below hW hto.lt) hx hm).mono fun e w' h => ⟨h.1, h.2.1.toBelow hq hW.size, h.2.2⟩
theorem eg_ws : ∀ args w, (callFunc 127 args).run Tryz.prog w = .ok (.enter 127 args) w := by
 intro args w
 go_simp
theorem ch_ars (w0 : World) (g : Nat) (lb : Array Value) (F G : Int → Int) (hT : ToSpec w0 g lb F G) (eg : ∀ args w, (callFunc g args).run Tryz.prog w = .ok (.enter g args) w) (V : World) (tb : Nat) (hV : Below w0.heap.size w0 V) (hto : BoxAt V tb [.func (.func g) #[] lb]) : ChSpec Ac.cells V 129 #[.pointer (some ⟨tb, 0, none⟩)] Ac.mild (Ac.mv F G) := by
 intro q pre post x W hq hW hx hm
 rw [cat1]
 exact (plc_ars w0 g lb F G hT eg tb q pre post x W (Nat.le_trans hV.size hq) (by have := hto.lt; omega) (hV.trans (hW.mono hV.size)) (hto.below hW hto.lt) hx hm).mono fun e w' h => ⟨h.1, h.2.1.toBelow hq hW.size, h.2.2⟩
theorem eg_ars : ∀ args w, (callFunc 129 args).run Tryz.prog w = .ok (.enter 129 args) w := by
 intro args w
 go_simp
theorem ch_ps (w0 : World) (g : Nat) (lb : Array Value) (F G : Int → Int) (hT : ToSpec w0 g lb F G) (eg : ∀ args w, (callFunc g args).run Tryz.prog w = .ok (.enter g args) w) (V : World) (tb : Nat) (hV : Below w0.heap.size w0 V) (hto : BoxAt V tb [.func (.func g) #[] lb]) : ChSpec Ps.cells V 131 #[.pointer (some ⟨tb, 0, none⟩)] Ps.mild (Ps.mv F G) := by
 intro q pre post x W hq hW hx hm
 rw [cat1]
 exact (plc_ps w0 g lb F G hT eg tb q pre post x W (Nat.le_trans hV.size hq) (by have := hto.lt; omega) (hV.trans (hW.mono hV.size)) (hto.below hW hto.lt) hx hm).mono fun e w' h => ⟨h.1, h.2.1.toBelow hq hW.size, h.2.2⟩
theorem eg_ps : ∀ args w, (callFunc 131 args).run Tryz.prog w = .ok (.enter 131 args) w := by
 intro args w
 go_simp
theorem ch_fs (w0 : World) (g : Nat) (lb : Array Value) (F G : Int → Int) (hT : ToSpec w0 g lb F G) (eg : ∀ args w, (callFunc g args).run Tryz.prog w = .ok (.enter g args) w) (V : World) (tb : Nat) (hV : Below w0.heap.size w0 V) (hto : BoxAt V tb [.func (.func g) #[] lb]) : ChSpec Fl.cells V 133 #[.pointer (some ⟨tb, 0, none⟩)] Fl.mild (Fl.mv F G) := by
 intro q pre post x W hq hW hx hm
 rw [cat1]
 exact (plc_fs w0 g lb F G hT eg tb q pre post x W (Nat.le_trans hV.size hq) (by have := hto.lt; omega) (hV.trans (hW.mono hV.size)) (hto.below hW hto.lt) hx hm).mono fun e w' h => ⟨h.1, h.2.1.toBelow hq hW.size, h.2.2⟩
theorem eg_fs : ∀ args w, (callFunc 133 args).run Tryz.prog w = .ok (.enter 133 args) w := by
 intro args w
 go_simp
theorem ch_zs (w0 : World) (g : Nat) (lb : Array Value) (F G : Int → Int) (hT : ToSpec w0 g lb F G) (eg : ∀ args w, (callFunc g args).run Tryz.prog w = .ok (.enter g args) w) (V : World) (tb : Nat) (hV : Below w0.heap.size w0 V) (hto : BoxAt V tb [.func (.func g) #[] lb]) : ChSpec Zn.cells V 135 #[.pointer (some ⟨tb, 0, none⟩)] Zn.mild (Zn.mv F G) := by
 intro q pre post x W hq hW hx hm
 rw [cat1]
 exact (plc_zs w0 g lb F G hT eg tb q pre post x W (Nat.le_trans hV.size hq) (by have := hto.lt; omega) (hV.trans (hW.mono hV.size)) (hto.below hW hto.lt) hx hm).mono fun e w' h => ⟨h.1, h.2.1.toBelow hq hW.size, h.2.2⟩
theorem eg_zs : ∀ args w, (callFunc 135 args).run Tryz.prog w = .ok (.enter 135 args) w := by
 intro args w
 go_simp
theorem ch_ss (w0 : World) (g : Nat) (lb : Array Value) (F G : Int → Int) (hT : ToSpec w0 g lb F G) (eg : ∀ args w, (callFunc g args).run Tryz.prog w = .ok (.enter g args) w) (V : World) (tb : Nat) (hV : Below w0.heap.size w0 V) (hto : BoxAt V tb [.func (.func g) #[] lb]) : ChSpec Sc.cells V 137 #[.pointer (some ⟨tb, 0, none⟩)] Sc.mild (Sc.mv F G) := by
 intro q pre post x W hq hW hx hm
 rw [cat1]
 exact (plc_ss w0 g lb F G hT eg tb q pre post x W (Nat.le_trans hV.size hq) (by have := hto.lt; omega) (hV.trans (hW.mono hV.size)) (hto.below hW hto.lt) hx hm).mono fun e w' h => ⟨h.1, h.2.1.toBelow hq hW.size, h.2.2⟩
theorem eg_ss : ∀ args w, (callFunc 137 args).run Tryz.prog w = .ok (.enter 137 args) w := by
 intro args w
 go_simp
theorem ch_las (w0 : World) (g : Nat) (lb : Array Value) (F G : Int → Int) (hT : ToSpec w0 g lb F G) (eg : ∀ args w, (callFunc g args).run Tryz.prog w = .ok (.enter g args) w) (V : World) (tb : Nat) (hV : Below w0.heap.size w0 V) (hto : BoxAt V tb [.func (.func g) #[] lb]) : ChSpec La.cells V 139 #[.pointer (some ⟨tb, 0, none⟩)] La.mild (La.mv F G) := by
 intro q pre post x W hq hW hx hm
 rw [cat1]
 exact (plc_las w0 g lb F G hT eg tb q pre post x W (Nat.le_trans hV.size hq) (by have := hto.lt; omega) (hV.trans (hW.mono hV.size)) (hto.below hW hto.lt) hx hm).mono fun e w' h => ⟨h.1, h.2.1.toBelow hq hW.size, h.2.2⟩
theorem eg_las : ∀ args w, (callFunc 139 args).run Tryz.prog w = .ok (.enter 139 args) w := by
 intro args w
 go_simp
theorem ch_rs (w0 : World) (g : Nat) (lb : Array Value) (F G : Int → Int) (hT : ToSpec w0 g lb F G) (eg : ∀ args w, (callFunc g args).run Tryz.prog w = .ok (.enter g args) w) (V : World) (tb : Nat) (hV : Below w0.heap.size w0 V) (hto : BoxAt V tb [.func (.func g) #[] lb]) : ChSpec Ra.cells V 141 #[.pointer (some ⟨tb, 0, none⟩)] Ra.mild (Ra.mv F G) := by
 intro q pre post x W hq hW hx hm
 rw [cat1]
 exact (plc_rs w0 g lb F G hT eg tb q pre post x W (Nat.le_trans hV.size hq) (by have := hto.lt; omega) (hV.trans (hW.mono hV.size)) (hto.below hW hto.lt) hx hm).mono fun e w' h => ⟨h.1, h.2.1.toBelow hq hW.size, h.2.2⟩
theorem eg_rs : ∀ args w, (callFunc 141 args).run Tryz.prog w = .ok (.enter 141 args) w := by
 intro args w
 go_simp
theorem ch_ds (w0 : World) (g : Nat) (lb : Array Value) (F G : Int → Int) (hT : ToSpec w0 g lb F G) (eg : ∀ args w, (callFunc g args).run Tryz.prog w = .ok (.enter g args) w) (V : World) (tb : Nat) (hV : Below w0.heap.size w0 V) (hto : BoxAt V tb [.func (.func g) #[] lb]) : ChSpec Dr.cells V 143 #[.pointer (some ⟨tb, 0, none⟩)] Dr.mild (Dr.mv F G) := by
 intro q pre post x W hq hW hx hm
 rw [cat1]
 exact (plc_ds w0 g lb F G hT eg tb q pre post x W (Nat.le_trans hV.size hq) (by have := hto.lt; omega) (hV.trans (hW.mono hV.size)) (hto.below hW hto.lt) hx hm).mono fun e w' h => ⟨h.1, h.2.1.toBelow hq hW.size, h.2.2⟩
theorem eg_ds : ∀ args w, (callFunc 143 args).run Tryz.prog w = .ok (.enter 143 args) w := by
 intro args w
 go_simp
theorem ch_lns (w0 : World) (g : Nat) (lb : Array Value) (F G : Int → Int) (hT : ToSpec w0 g lb F G) (eg : ∀ args w, (callFunc g args).run Tryz.prog w = .ok (.enter g args) w) (V : World) (tb : Nat) (hV : Below w0.heap.size w0 V) (hto : BoxAt V tb [.func (.func g) #[] lb]) : ChSpec Ln.cells V 145 #[.pointer (some ⟨tb, 0, none⟩)] Ln.mild (Ln.mv F G) := by
 intro q pre post x W hq hW hx hm
 rw [cat1]
 exact (plc_lns w0 g lb F G hT eg tb q pre post x W (Nat.le_trans hV.size hq) (by have := hto.lt; omega) (hV.trans (hW.mono hV.size)) (hto.below hW hto.lt) hx hm).mono fun e w' h => ⟨h.1, h.2.1.toBelow hq hW.size, h.2.2⟩
theorem eg_lns : ∀ args w, (callFunc 145 args).run Tryz.prog w = .ok (.enter 145 args) w := by
 intro args w
 go_simp
set_option maxRecDepth 100000 in
set_option maxHeartbeats 8000000 in
theorem places_any (t : Tb) (a : TbA) (w : World) (g : Nat) (lb : Array Value) (F G : Int → Int) (hT : ToSpec w g lb F G) (eg : ∀ args w, (callFunc g args).run Tryz.prog w = .ok (.enter g args) w) (hA : TbAt w t a) (hok : a.ok) (hle : t.le 10000) (hm : t.mild) :
  Calls Tryz.prog 72 #[t.v a, .func (.func g) #[] lb] w (MvOut (t.mv F G) w) := by
 have HA := hQ0 hA
 have HL := hQ0 hle
 have HM := hQ0 hm
 have HT := hQ0 hT
 have HK := hQ0 hok
 have HEG := hQ0 eg
 clear hA hle hm hT hok eg
 obtain ⟨rad, bal, rst, gx, gy, drg, shf, tr, ws, ars, ps, fs, zs, ss, las, rs, ds, lns⟩ := t
 obtain ⟨Atr, ctr, Aws, cws, Aars, cars, Aps, cps, Afs, cfs, Azs, czs, Ass, css, Alas, clas, Ars, crs, Ads, cds, Alns, clns⟩ := a
 unfold Tb.v
 simp only
 obtain ⟨TC, hTC⟩ : ∃ z : List Value, z = [.int .i64 rad, .int .i64 bal, .int .i64 rst, .int .i64 gx, .int .i64 gy, .int .i64 drg, .int .i64 shf, .slice Atr tr.length ctr, .slice Aws ws.length cws, .slice Aars ars.length cars, .slice Aps ps.length cps, .slice Afs fs.length cfs, .slice Azs zs.length czs, .slice Ass ss.length css, .slice Alas las.length clas, .slice Ars rs.length crs, .slice Ads ds.length cds, .slice Alns lns.length clns] := ⟨_, rfl⟩
 have HTC := hQ0 hTC
 clear hTC
 go_enter Tryz.func72, Tryz.ntmps72; (try simp only [List.append_eq, List.cons_append, List.nil_append])
 go_upto_region 1 with (fail)
 (refine pin_eqT (fun V0 hV => ?_))
 have HB0 : Hid (Below w.heap.size w V0) := hQ0 (by rw [hV]; ((with_reducible (repeat (first | exact bR _ _ | apply bS | apply bA | apply bD | refine bT ?_ (by assumption) ?_ | refine bO (by assumption) ?_ ?_))) <;> (first | omega | (simp <;> omega))))
 have HX0 : Hid (BoxAt V0 w.heap.size TC) := hQ0 (by rw [hV, HTC.out]; exact ((BoxAt.new _ _ _).alloc _).alloc _)
 have HO0 : Hid (BoxAt V0 (w.heap.size + 1) [.func (.func g) #[] lb]) := hQ0 (by rw [hV]; exact (by simpa using (BoxAt.new (w.alloc _) [.func (.func g) #[] lb] _).alloc _))
 have HR0 : Hid (BoxAt V0 (w.heap.size + 1 + 1) (tb0.cells a0)) := hQ0 (by rw [hV]; exact bx_new _ (tb0.cells a0) 36 (by simp))
 clear hV
 obtain ⟨ob, hob⟩ : ∃ z, z = w.heap.size + 1 := ⟨_, rfl⟩
 obtain ⟨sb, hsb⟩ : ∃ z, z = w.heap.size + 1 + 1 := ⟨_, rfl⟩
 rw [← hsb] at HR0 ⊢
 rw [← hob] at HO0 ⊢
 have HOB := hQ0 hob
 have HSB := hQ0 hsb
 clear hob hsb
 as_aux_lemma =>
  have n0 := HX0.out.c 7 (.slice Atr tr.length ctr) (by rw [HTC.out]; rfl)
  have K0 := hQ0 (clone_tr tr Atr ctr V0 (HA.out.tr.below HB0.out (Nat.le_refl _)) HK.out.tr (by have h := HL.out.tr; simp only at h; omega))
  go_upto_region 2 with (go_at_call 125; refine K0.out.mono ?_; rintro e u0 ⟨Btr, d0, rfl, l0, k0, r0, b0⟩; have x0 := HX0.out.below b0 HX0.out.lt; have y0 := x0.c 7 _ (by rw [HTC.out]; rfl); have z0 := x0.fz; have t0 := x0.lt)
  (refine pin_eqT (fun V1 hV => ?_))
  have HX1 : Hid (BoxAt V1 w.heap.size (List.set (TC) 7 (.slice Btr tr.length d0))) := hQ0 (by rw [hV]; exact x0.set (j := 7) _ (by rw [HTC.out]; rfl))
  have hB' : Below w.heap.size w u0 := HB0.out.trans (b0.mono HB0.out.size)
  have HB1 : Hid (Below w.heap.size w V1) := hQ0 (by rw [hV]; exact hB'.setCell (Nat.le_refl _) _)
  have HN0 : Hid (But w.heap.size V0 V1) := hQ0 (by rw [hV]; exact (But.of_below b0 (Nat.le_refl _)).set _ (.inl rfl))
  have hbt : But w.heap.size u0 V1 := by rw [hV]; exact (But.refl _ _).set _ (.inl rfl)
  have HR_tr : Hid (RowIn (fun x : Int => [Value.int .i64 x]) V1 V0.heap.size V1.heap.size Btr tr) := hQ0 (by have h := (RowIn.of_own r0).but hbt (.inl HX0.out.lt); rw [show V1.heap.size = u0.heap.size from by rw [hV]; simp]; exact h)
  have HO1 : Hid (BoxAt V1 ob [.func (.func g) #[] lb]) := hQ0 (HO0.out.block HN0.out.size (HN0.out.block ob HO0.out.lt (by have := HOB.out; omega)))
  have HR1 : Hid (BoxAt V1 sb (tb0.cells a0)) := hQ0 (HR0.out.block HN0.out.size (HN0.out.block sb HR0.out.lt (by have := HSB.out; omega)))
  have HC_tr := hQ0 (And.intro l0 k0)
  have LT0 := HX0.out.lt
  clear n0 K0 x0 y0 z0 t0 hB' hbt hV r0 b0 HX0 HB0 HO0 l0 k0
  as_aux_lemma =>
   have n1 := HX1.out.c 8 (.slice Aws ws.length cws) (by rw [HTC.out]; rfl)
   have K1 := hQ0 (mapped_ws ws Aws cws 127 #[.pointer (some ⟨ob, 0, none⟩)] (Wl.mv F G) Wl.mild V1 eg_ws (HA.out.ws.below HB1.out (Nat.le_refl _)) HK.out.ws (by have h := HL.out.ws; simp only at h; omega) HM.out.ws (ch_ws w g lb F G HT.out HEG.out V1 ob HB1.out HO1.out))
   go_upto_region 3 with (go_at_call 126; refine K1.out.mono ?_; rintro e u1 ⟨Bws, d1, rfl, l1, k1, r1, b1⟩; have x1 := HX1.out.below b1 HX1.out.lt; have y1 := x1.c 8 _ (by rw [HTC.out]; rfl); have z1 := x1.fz; have t1 := x1.lt)
   (refine pin_eqT (fun V2 hV => ?_))
   have HX2 : Hid (BoxAt V2 w.heap.size (List.set (List.set (TC) 7 (.slice Btr tr.length d0)) 8 (.slice Bws ws.length d1))) := hQ0 (by rw [hV]; exact x1.set (j := 8) _ (by rw [HTC.out]; rfl))
   have hB' : Below w.heap.size w u1 := HB1.out.trans (b1.mono HB1.out.size)
   have HB2 : Hid (Below w.heap.size w V2) := hQ0 (by rw [hV]; exact hB'.setCell (Nat.le_refl _) _)
   have HN1 : Hid (But w.heap.size V1 V2) := hQ0 (by rw [hV]; exact (But.of_below b1 (Nat.le_refl _)).set _ (.inl rfl))
   have hbt : But w.heap.size u1 V2 := by rw [hV]; exact (But.refl _ _).set _ (.inl rfl)
   have HR_ws : Hid (RowIn Wl.cells V2 V1.heap.size V2.heap.size Bws (ws.map (Wl.mv F G))) := hQ0 (by have h := (RowIn.of_own r1).but hbt (.inl HX1.out.lt); rw [show V2.heap.size = u1.heap.size from by rw [hV]; simp]; exact h)
   have HO2 : Hid (BoxAt V2 ob [.func (.func g) #[] lb]) := hQ0 (HO1.out.block HN1.out.size (HN1.out.block ob HO1.out.lt (by have := HOB.out; omega)))
   have HR2 : Hid (BoxAt V2 sb (tb0.cells a0)) := hQ0 (HR1.out.block HN1.out.size (HN1.out.block sb HR1.out.lt (by have := HSB.out; omega)))
   have HC_ws := hQ0 (And.intro l1 k1)
   have LT1 := HX1.out.lt
   clear n1 K1 x1 y1 z1 t1 hB' hbt hV r1 b1 HX1 HB1 HO1 l1 k1
   as_aux_lemma =>
    have n2 := HX2.out.c 9 (.slice Aars ars.length cars) (by rw [HTC.out]; rfl)
    have K2 := hQ0 (mapped_ars ars Aars cars 129 #[.pointer (some ⟨ob, 0, none⟩)] (Ac.mv F G) Ac.mild V2 eg_ars (HA.out.ars.below HB2.out (Nat.le_refl _)) HK.out.ars (by have h := HL.out.ars; simp only at h; omega) HM.out.ars (ch_ars w g lb F G HT.out HEG.out V2 ob HB2.out HO2.out))
    go_upto_region 4 with (go_at_call 128; refine K2.out.mono ?_; rintro e u2 ⟨Bars, d2, rfl, l2, k2, r2, b2⟩; have x2 := HX2.out.below b2 HX2.out.lt; have y2 := x2.c 9 _ (by rw [HTC.out]; rfl); have z2 := x2.fz; have t2 := x2.lt)
    (refine pin_eqT (fun V3 hV => ?_))
    have HX3 : Hid (BoxAt V3 w.heap.size (List.set (List.set (List.set (TC) 7 (.slice Btr tr.length d0)) 8 (.slice Bws ws.length d1)) 9 (.slice Bars ars.length d2))) := hQ0 (by rw [hV]; exact x2.set (j := 9) _ (by rw [HTC.out]; rfl))
    have hB' : Below w.heap.size w u2 := HB2.out.trans (b2.mono HB2.out.size)
    have HB3 : Hid (Below w.heap.size w V3) := hQ0 (by rw [hV]; exact hB'.setCell (Nat.le_refl _) _)
    have HN2 : Hid (But w.heap.size V2 V3) := hQ0 (by rw [hV]; exact (But.of_below b2 (Nat.le_refl _)).set _ (.inl rfl))
    have hbt : But w.heap.size u2 V3 := by rw [hV]; exact (But.refl _ _).set _ (.inl rfl)
    have HR_ars : Hid (RowIn Ac.cells V3 V2.heap.size V3.heap.size Bars (ars.map (Ac.mv F G))) := hQ0 (by have h := (RowIn.of_own r2).but hbt (.inl HX2.out.lt); rw [show V3.heap.size = u2.heap.size from by rw [hV]; simp]; exact h)
    have HO3 : Hid (BoxAt V3 ob [.func (.func g) #[] lb]) := hQ0 (HO2.out.block HN2.out.size (HN2.out.block ob HO2.out.lt (by have := HOB.out; omega)))
    have HR3 : Hid (BoxAt V3 sb (tb0.cells a0)) := hQ0 (HR2.out.block HN2.out.size (HN2.out.block sb HR2.out.lt (by have := HSB.out; omega)))
    have HC_ars := hQ0 (And.intro l2 k2)
    have LT2 := HX2.out.lt
    clear n2 K2 x2 y2 z2 t2 hB' hbt hV r2 b2 HX2 HB2 HO2 l2 k2
    as_aux_lemma =>
     have n3 := HX3.out.c 10 (.slice Aps ps.length cps) (by rw [HTC.out]; rfl)
     have K3 := hQ0 (mapped_ps ps Aps cps 131 #[.pointer (some ⟨ob, 0, none⟩)] (Ps.mv F G) Ps.mild V3 eg_ps (HA.out.ps.below HB3.out (Nat.le_refl _)) HK.out.ps (by have h := HL.out.ps; simp only at h; omega) HM.out.ps (ch_ps w g lb F G HT.out HEG.out V3 ob HB3.out HO3.out))
     go_upto_region 5 with (go_at_call 130; refine K3.out.mono ?_; rintro e u3 ⟨Bps, d3, rfl, l3, k3, r3, b3⟩; have x3 := HX3.out.below b3 HX3.out.lt; have y3 := x3.c 10 _ (by rw [HTC.out]; rfl); have z3 := x3.fz; have t3 := x3.lt)
     (refine pin_eqT (fun V4 hV => ?_))
     have HX4 : Hid (BoxAt V4 w.heap.size (List.set (List.set (List.set (List.set (TC) 7 (.slice Btr tr.length d0)) 8 (.slice Bws ws.length d1)) 9 (.slice Bars ars.length d2)) 10 (.slice Bps ps.length d3))) := hQ0 (by rw [hV]; exact x3.set (j := 10) _ (by rw [HTC.out]; rfl))
     have hB' : Below w.heap.size w u3 := HB3.out.trans (b3.mono HB3.out.size)
     have HB4 : Hid (Below w.heap.size w V4) := hQ0 (by rw [hV]; exact hB'.setCell (Nat.le_refl _) _)
     have HN3 : Hid (But w.heap.size V3 V4) := hQ0 (by rw [hV]; exact (But.of_below b3 (Nat.le_refl _)).set _ (.inl rfl))
     have hbt : But w.heap.size u3 V4 := by rw [hV]; exact (But.refl _ _).set _ (.inl rfl)
     have HR_ps : Hid (RowIn Ps.cells V4 V3.heap.size V4.heap.size Bps (ps.map (Ps.mv F G))) := hQ0 (by have h := (RowIn.of_own r3).but hbt (.inl HX3.out.lt); rw [show V4.heap.size = u3.heap.size from by rw [hV]; simp]; exact h)
     have HO4 : Hid (BoxAt V4 ob [.func (.func g) #[] lb]) := hQ0 (HO3.out.block HN3.out.size (HN3.out.block ob HO3.out.lt (by have := HOB.out; omega)))
     have HR4 : Hid (BoxAt V4 sb (tb0.cells a0)) := hQ0 (HR3.out.block HN3.out.size (HN3.out.block sb HR3.out.lt (by have := HSB.out; omega)))
     have HC_ps := hQ0 (And.intro l3 k3)
     have LT3 := HX3.out.lt
     clear n3 K3 x3 y3 z3 t3 hB' hbt hV r3 b3 HX3 HB3 HO3 l3 k3
     as_aux_lemma =>
      have n4 := HX4.out.c 11 (.slice Afs fs.length cfs) (by rw [HTC.out]; rfl)
      have K4 := hQ0 (mapped_fs fs Afs cfs 133 #[.pointer (some ⟨ob, 0, none⟩)] (Fl.mv F G) Fl.mild V4 eg_fs (HA.out.fs.below HB4.out (Nat.le_refl _)) HK.out.fs (by have h := HL.out.fs; simp only at h; omega) HM.out.fs (ch_fs w g lb F G HT.out HEG.out V4 ob HB4.out HO4.out))
      go_upto_region 6 with (go_at_call 132; refine K4.out.mono ?_; rintro e u4 ⟨Bfs, d4, rfl, l4, k4, r4, b4⟩; have x4 := HX4.out.below b4 HX4.out.lt; have y4 := x4.c 11 _ (by rw [HTC.out]; rfl); have z4 := x4.fz; have t4 := x4.lt)
      (refine pin_eqT (fun V5 hV => ?_))
      have HX5 : Hid (BoxAt V5 w.heap.size (List.set (List.set (List.set (List.set (List.set (TC) 7 (.slice Btr tr.length d0)) 8 (.slice Bws ws.length d1)) 9 (.slice Bars ars.length d2)) 10 (.slice Bps ps.length d3)) 11 (.slice Bfs fs.length d4))) := hQ0 (by rw [hV]; exact x4.set (j := 11) _ (by rw [HTC.out]; rfl))
      have hB' : Below w.heap.size w u4 := HB4.out.trans (b4.mono HB4.out.size)
      have HB5 : Hid (Below w.heap.size w V5) := hQ0 (by rw [hV]; exact hB'.setCell (Nat.le_refl _) _)
      have HN4 : Hid (But w.heap.size V4 V5) := hQ0 (by rw [hV]; exact (But.of_below b4 (Nat.le_refl _)).set _ (.inl rfl))
      have hbt : But w.heap.size u4 V5 := by rw [hV]; exact (But.refl _ _).set _ (.inl rfl)
      have HR_fs : Hid (RowIn Fl.cells V5 V4.heap.size V5.heap.size Bfs (fs.map (Fl.mv F G))) := hQ0 (by have h := (RowIn.of_own r4).but hbt (.inl HX4.out.lt); rw [show V5.heap.size = u4.heap.size from by rw [hV]; simp]; exact h)
      have HO5 : Hid (BoxAt V5 ob [.func (.func g) #[] lb]) := hQ0 (HO4.out.block HN4.out.size (HN4.out.block ob HO4.out.lt (by have := HOB.out; omega)))
      have HR5 : Hid (BoxAt V5 sb (tb0.cells a0)) := hQ0 (HR4.out.block HN4.out.size (HN4.out.block sb HR4.out.lt (by have := HSB.out; omega)))
      have HC_fs := hQ0 (And.intro l4 k4)
      have LT4 := HX4.out.lt
      clear n4 K4 x4 y4 z4 t4 hB' hbt hV r4 b4 HX4 HB4 HO4 l4 k4
      as_aux_lemma =>
       have n5 := HX5.out.c 12 (.slice Azs zs.length czs) (by rw [HTC.out]; rfl)
       have K5 := hQ0 (mapped_zs zs Azs czs 135 #[.pointer (some ⟨ob, 0, none⟩)] (Zn.mv F G) Zn.mild V5 eg_zs (HA.out.zs.below HB5.out (Nat.le_refl _)) HK.out.zs (by have h := HL.out.zs; simp only at h; omega) HM.out.zs (ch_zs w g lb F G HT.out HEG.out V5 ob HB5.out HO5.out))
       go_upto_region 7 with (go_at_call 134; refine K5.out.mono ?_; rintro e u5 ⟨Bzs, d5, rfl, l5, k5, r5, b5⟩; have x5 := HX5.out.below b5 HX5.out.lt; have y5 := x5.c 12 _ (by rw [HTC.out]; rfl); have z5 := x5.fz; have t5 := x5.lt)
       (refine pin_eqT (fun V6 hV => ?_))
       have HX6 : Hid (BoxAt V6 w.heap.size (List.set (List.set (List.set (List.set (List.set (List.set (TC) 7 (.slice Btr tr.length d0)) 8 (.slice Bws ws.length d1)) 9 (.slice Bars ars.length d2)) 10 (.slice Bps ps.length d3)) 11 (.slice Bfs fs.length d4)) 12 (.slice Bzs zs.length d5))) := hQ0 (by rw [hV]; exact x5.set (j := 12) _ (by rw [HTC.out]; rfl))
       have hB' : Below w.heap.size w u5 := HB5.out.trans (b5.mono HB5.out.size)
       have HB6 : Hid (Below w.heap.size w V6) := hQ0 (by rw [hV]; exact hB'.setCell (Nat.le_refl _) _)
       have HN5 : Hid (But w.heap.size V5 V6) := hQ0 (by rw [hV]; exact (But.of_below b5 (Nat.le_refl _)).set _ (.inl rfl))
       have hbt : But w.heap.size u5 V6 := by rw [hV]; exact (But.refl _ _).set _ (.inl rfl)
       have HR_zs : Hid (RowIn Zn.cells V6 V5.heap.size V6.heap.size Bzs (zs.map (Zn.mv F G))) := hQ0 (by have h := (RowIn.of_own r5).but hbt (.inl HX5.out.lt); rw [show V6.heap.size = u5.heap.size from by rw [hV]; simp]; exact h)
       have HO6 : Hid (BoxAt V6 ob [.func (.func g) #[] lb]) := hQ0 (HO5.out.block HN5.out.size (HN5.out.block ob HO5.out.lt (by have := HOB.out; omega)))
       have HR6 : Hid (BoxAt V6 sb (tb0.cells a0)) := hQ0 (HR5.out.block HN5.out.size (HN5.out.block sb HR5.out.lt (by have := HSB.out; omega)))
       have HC_zs := hQ0 (And.intro l5 k5)
       have LT5 := HX5.out.lt
       clear n5 K5 x5 y5 z5 t5 hB' hbt hV r5 b5 HX5 HB5 HO5 l5 k5
       as_aux_lemma =>
        have n6 := HX6.out.c 13 (.slice Ass ss.length css) (by rw [HTC.out]; rfl)
        have K6 := hQ0 (mapped_ss ss Ass css 137 #[.pointer (some ⟨ob, 0, none⟩)] (Sc.mv F G) Sc.mild V6 eg_ss (HA.out.ss.below HB6.out (Nat.le_refl _)) HK.out.ss (by have h := HL.out.ss; simp only at h; omega) HM.out.ss (ch_ss w g lb F G HT.out HEG.out V6 ob HB6.out HO6.out))
        go_upto_region 8 with (go_at_call 136; refine K6.out.mono ?_; rintro e u6 ⟨Bss, d6, rfl, l6, k6, r6, b6⟩; have x6 := HX6.out.below b6 HX6.out.lt; have y6 := x6.c 13 _ (by rw [HTC.out]; rfl); have z6 := x6.fz; have t6 := x6.lt)
        (refine pin_eqT (fun V7 hV => ?_))
        have HX7 : Hid (BoxAt V7 w.heap.size (List.set (List.set (List.set (List.set (List.set (List.set (List.set (TC) 7 (.slice Btr tr.length d0)) 8 (.slice Bws ws.length d1)) 9 (.slice Bars ars.length d2)) 10 (.slice Bps ps.length d3)) 11 (.slice Bfs fs.length d4)) 12 (.slice Bzs zs.length d5)) 13 (.slice Bss ss.length d6))) := hQ0 (by rw [hV]; exact x6.set (j := 13) _ (by rw [HTC.out]; rfl))
        have hB' : Below w.heap.size w u6 := HB6.out.trans (b6.mono HB6.out.size)
        have HB7 : Hid (Below w.heap.size w V7) := hQ0 (by rw [hV]; exact hB'.setCell (Nat.le_refl _) _)
        have HN6 : Hid (But w.heap.size V6 V7) := hQ0 (by rw [hV]; exact (But.of_below b6 (Nat.le_refl _)).set _ (.inl rfl))
        have hbt : But w.heap.size u6 V7 := by rw [hV]; exact (But.refl _ _).set _ (.inl rfl)
        have HR_ss : Hid (RowIn Sc.cells V7 V6.heap.size V7.heap.size Bss (ss.map (Sc.mv F G))) := hQ0 (by have h := (RowIn.of_own r6).but hbt (.inl HX6.out.lt); rw [show V7.heap.size = u6.heap.size from by rw [hV]; simp]; exact h)
        have HO7 : Hid (BoxAt V7 ob [.func (.func g) #[] lb]) := hQ0 (HO6.out.block HN6.out.size (HN6.out.block ob HO6.out.lt (by have := HOB.out; omega)))
        have HR7 : Hid (BoxAt V7 sb (tb0.cells a0)) := hQ0 (HR6.out.block HN6.out.size (HN6.out.block sb HR6.out.lt (by have := HSB.out; omega)))
        have HC_ss := hQ0 (And.intro l6 k6)
        have LT6 := HX6.out.lt
        clear n6 K6 x6 y6 z6 t6 hB' hbt hV r6 b6 HX6 HB6 HO6 l6 k6
        as_aux_lemma =>
         have n7 := HX7.out.c 14 (.slice Alas las.length clas) (by rw [HTC.out]; rfl)
         have K7 := hQ0 (mapped_las las Alas clas 139 #[.pointer (some ⟨ob, 0, none⟩)] (La.mv F G) La.mild V7 eg_las (HA.out.las.below HB7.out (Nat.le_refl _)) HK.out.las (by have h := HL.out.las; simp only at h; omega) HM.out.las (ch_las w g lb F G HT.out HEG.out V7 ob HB7.out HO7.out))
         go_upto_region 9 with (go_at_call 138; refine K7.out.mono ?_; rintro e u7 ⟨Blas, d7, rfl, l7, k7, r7, b7⟩; have x7 := HX7.out.below b7 HX7.out.lt; have y7 := x7.c 14 _ (by rw [HTC.out]; rfl); have z7 := x7.fz; have t7 := x7.lt)
         (refine pin_eqT (fun V8 hV => ?_))
         have HX8 : Hid (BoxAt V8 w.heap.size (List.set (List.set (List.set (List.set (List.set (List.set (List.set (List.set (TC) 7 (.slice Btr tr.length d0)) 8 (.slice Bws ws.length d1)) 9 (.slice Bars ars.length d2)) 10 (.slice Bps ps.length d3)) 11 (.slice Bfs fs.length d4)) 12 (.slice Bzs zs.length d5)) 13 (.slice Bss ss.length d6)) 14 (.slice Blas las.length d7))) := hQ0 (by rw [hV]; exact x7.set (j := 14) _ (by rw [HTC.out]; rfl))
         have hB' : Below w.heap.size w u7 := HB7.out.trans (b7.mono HB7.out.size)
         have HB8 : Hid (Below w.heap.size w V8) := hQ0 (by rw [hV]; exact hB'.setCell (Nat.le_refl _) _)
         have HN7 : Hid (But w.heap.size V7 V8) := hQ0 (by rw [hV]; exact (But.of_below b7 (Nat.le_refl _)).set _ (.inl rfl))
         have hbt : But w.heap.size u7 V8 := by rw [hV]; exact (But.refl _ _).set _ (.inl rfl)
         have HR_las : Hid (RowIn La.cells V8 V7.heap.size V8.heap.size Blas (las.map (La.mv F G))) := hQ0 (by have h := (RowIn.of_own r7).but hbt (.inl HX7.out.lt); rw [show V8.heap.size = u7.heap.size from by rw [hV]; simp]; exact h)
         have HO8 : Hid (BoxAt V8 ob [.func (.func g) #[] lb]) := hQ0 (HO7.out.block HN7.out.size (HN7.out.block ob HO7.out.lt (by have := HOB.out; omega)))
         have HR8 : Hid (BoxAt V8 sb (tb0.cells a0)) := hQ0 (HR7.out.block HN7.out.size (HN7.out.block sb HR7.out.lt (by have := HSB.out; omega)))
         have HC_las := hQ0 (And.intro l7 k7)
         have LT7 := HX7.out.lt
         clear n7 K7 x7 y7 z7 t7 hB' hbt hV r7 b7 HX7 HB7 HO7 l7 k7
         as_aux_lemma =>
          have n8 := HX8.out.c 15 (.slice Ars rs.length crs) (by rw [HTC.out]; rfl)
          have K8 := hQ0 (mapped_rs rs Ars crs 141 #[.pointer (some ⟨ob, 0, none⟩)] (Ra.mv F G) Ra.mild V8 eg_rs (HA.out.rs.below HB8.out (Nat.le_refl _)) HK.out.rs (by have h := HL.out.rs; simp only at h; omega) HM.out.rs (ch_rs w g lb F G HT.out HEG.out V8 ob HB8.out HO8.out))
          go_upto_region 10 with (go_at_call 140; refine K8.out.mono ?_; rintro e u8 ⟨Brs, d8, rfl, l8, k8, r8, b8⟩; have x8 := HX8.out.below b8 HX8.out.lt; have y8 := x8.c 15 _ (by rw [HTC.out]; rfl); have z8 := x8.fz; have t8 := x8.lt)
          (refine pin_eqT (fun V9 hV => ?_))
          have HX9 : Hid (BoxAt V9 w.heap.size (List.set (List.set (List.set (List.set (List.set (List.set (List.set (List.set (List.set (TC) 7 (.slice Btr tr.length d0)) 8 (.slice Bws ws.length d1)) 9 (.slice Bars ars.length d2)) 10 (.slice Bps ps.length d3)) 11 (.slice Bfs fs.length d4)) 12 (.slice Bzs zs.length d5)) 13 (.slice Bss ss.length d6)) 14 (.slice Blas las.length d7)) 15 (.slice Brs rs.length d8))) := hQ0 (by rw [hV]; exact x8.set (j := 15) _ (by rw [HTC.out]; rfl))
          have hB' : Below w.heap.size w u8 := HB8.out.trans (b8.mono HB8.out.size)
          have HB9 : Hid (Below w.heap.size w V9) := hQ0 (by rw [hV]; exact hB'.setCell (Nat.le_refl _) _)
          have HN8 : Hid (But w.heap.size V8 V9) := hQ0 (by rw [hV]; exact (But.of_below b8 (Nat.le_refl _)).set _ (.inl rfl))
          have hbt : But w.heap.size u8 V9 := by rw [hV]; exact (But.refl _ _).set _ (.inl rfl)
          have HR_rs : Hid (RowIn Ra.cells V9 V8.heap.size V9.heap.size Brs (rs.map (Ra.mv F G))) := hQ0 (by have h := (RowIn.of_own r8).but hbt (.inl HX8.out.lt); rw [show V9.heap.size = u8.heap.size from by rw [hV]; simp]; exact h)
          have HO9 : Hid (BoxAt V9 ob [.func (.func g) #[] lb]) := hQ0 (HO8.out.block HN8.out.size (HN8.out.block ob HO8.out.lt (by have := HOB.out; omega)))
          have HR9 : Hid (BoxAt V9 sb (tb0.cells a0)) := hQ0 (HR8.out.block HN8.out.size (HN8.out.block sb HR8.out.lt (by have := HSB.out; omega)))
          have HC_rs := hQ0 (And.intro l8 k8)
          have LT8 := HX8.out.lt
          clear n8 K8 x8 y8 z8 t8 hB' hbt hV r8 b8 HX8 HB8 HO8 l8 k8
          as_aux_lemma =>
           have n9 := HX9.out.c 16 (.slice Ads ds.length cds) (by rw [HTC.out]; rfl)
           have K9 := hQ0 (mapped_ds ds Ads cds 143 #[.pointer (some ⟨ob, 0, none⟩)] (Dr.mv F G) Dr.mild V9 eg_ds (HA.out.ds.below HB9.out (Nat.le_refl _)) HK.out.ds (by have h := HL.out.ds; simp only at h; omega) HM.out.ds (ch_ds w g lb F G HT.out HEG.out V9 ob HB9.out HO9.out))
           go_upto_region 11 with (go_at_call 142; refine K9.out.mono ?_; rintro e u9 ⟨Bds, d9, rfl, l9, k9, r9, b9⟩; have x9 := HX9.out.below b9 HX9.out.lt; have y9 := x9.c 16 _ (by rw [HTC.out]; rfl); have z9 := x9.fz; have t9 := x9.lt)
           (refine pin_eqT (fun V10 hV => ?_))
           have HX10 : Hid (BoxAt V10 w.heap.size (List.set (List.set (List.set (List.set (List.set (List.set (List.set (List.set (List.set (List.set (TC) 7 (.slice Btr tr.length d0)) 8 (.slice Bws ws.length d1)) 9 (.slice Bars ars.length d2)) 10 (.slice Bps ps.length d3)) 11 (.slice Bfs fs.length d4)) 12 (.slice Bzs zs.length d5)) 13 (.slice Bss ss.length d6)) 14 (.slice Blas las.length d7)) 15 (.slice Brs rs.length d8)) 16 (.slice Bds ds.length d9))) := hQ0 (by rw [hV]; exact x9.set (j := 16) _ (by rw [HTC.out]; rfl))
           have hB' : Below w.heap.size w u9 := HB9.out.trans (b9.mono HB9.out.size)
           have HB10 : Hid (Below w.heap.size w V10) := hQ0 (by rw [hV]; exact hB'.setCell (Nat.le_refl _) _)
           have HN9 : Hid (But w.heap.size V9 V10) := hQ0 (by rw [hV]; exact (But.of_below b9 (Nat.le_refl _)).set _ (.inl rfl))
           have hbt : But w.heap.size u9 V10 := by rw [hV]; exact (But.refl _ _).set _ (.inl rfl)
           have HR_ds : Hid (RowIn Dr.cells V10 V9.heap.size V10.heap.size Bds (ds.map (Dr.mv F G))) := hQ0 (by have h := (RowIn.of_own r9).but hbt (.inl HX9.out.lt); rw [show V10.heap.size = u9.heap.size from by rw [hV]; simp]; exact h)
           have HO10 : Hid (BoxAt V10 ob [.func (.func g) #[] lb]) := hQ0 (HO9.out.block HN9.out.size (HN9.out.block ob HO9.out.lt (by have := HOB.out; omega)))
           have HR10 : Hid (BoxAt V10 sb (tb0.cells a0)) := hQ0 (HR9.out.block HN9.out.size (HN9.out.block sb HR9.out.lt (by have := HSB.out; omega)))
           have HC_ds := hQ0 (And.intro l9 k9)
           have LT9 := HX9.out.lt
           clear n9 K9 x9 y9 z9 t9 hB' hbt hV r9 b9 HX9 HB9 HO9 l9 k9
           as_aux_lemma =>
            have n10 := HX10.out.c 17 (.slice Alns lns.length clns) (by rw [HTC.out]; rfl)
            have K10 := hQ0 (mapped_lns lns Alns clns 145 #[.pointer (some ⟨ob, 0, none⟩)] (Ln.mv F G) Ln.mild V10 eg_lns (HA.out.lns.below HB10.out (Nat.le_refl _)) HK.out.lns (by have h := HL.out.lns; simp only at h; omega) HM.out.lns (ch_lns w g lb F G HT.out HEG.out V10 ob HB10.out HO10.out))
            go_upto_region 12 with (go_at_call 144; refine K10.out.mono ?_; rintro e u10 ⟨Blns, d10, rfl, l10, k10, r10, b10⟩; have x10 := HX10.out.below b10 HX10.out.lt; have y10 := x10.c 17 _ (by rw [HTC.out]; rfl); have z10 := x10.fz; have t10 := x10.lt)
            (refine pin_eqT (fun V11 hV => ?_))
            have HX11 : Hid (BoxAt V11 w.heap.size (List.set (List.set (List.set (List.set (List.set (List.set (List.set (List.set (List.set (List.set (List.set (TC) 7 (.slice Btr tr.length d0)) 8 (.slice Bws ws.length d1)) 9 (.slice Bars ars.length d2)) 10 (.slice Bps ps.length d3)) 11 (.slice Bfs fs.length d4)) 12 (.slice Bzs zs.length d5)) 13 (.slice Bss ss.length d6)) 14 (.slice Blas las.length d7)) 15 (.slice Brs rs.length d8)) 16 (.slice Bds ds.length d9)) 17 (.slice Blns lns.length d10))) := hQ0 (by rw [hV]; exact x10.set (j := 17) _ (by rw [HTC.out]; rfl))
            have hB' : Below w.heap.size w u10 := HB10.out.trans (b10.mono HB10.out.size)
            have HB11 : Hid (Below w.heap.size w V11) := hQ0 (by rw [hV]; exact hB'.setCell (Nat.le_refl _) _)
            have HN10 : Hid (But w.heap.size V10 V11) := hQ0 (by rw [hV]; exact (But.of_below b10 (Nat.le_refl _)).set _ (.inl rfl))
            have hbt : But w.heap.size u10 V11 := by rw [hV]; exact (But.refl _ _).set _ (.inl rfl)
            have HR_lns : Hid (RowIn Ln.cells V11 V10.heap.size V11.heap.size Blns (lns.map (Ln.mv F G))) := hQ0 (by have h := (RowIn.of_own r10).but hbt (.inl HX10.out.lt); rw [show V11.heap.size = u10.heap.size from by rw [hV]; simp]; exact h)
            have HO11 : Hid (BoxAt V11 ob [.func (.func g) #[] lb]) := hQ0 (HO10.out.block HN10.out.size (HN10.out.block ob HO10.out.lt (by have := HOB.out; omega)))
            have HR11 : Hid (BoxAt V11 sb (tb0.cells a0)) := hQ0 (HR10.out.block HN10.out.size (HN10.out.block sb HR10.out.lt (by have := HSB.out; omega)))
            have HC_lns := hQ0 (And.intro l10 k10)
            have LT10 := HX10.out.lt
            clear n10 K10 x10 y10 z10 t10 hB' hbt hV r10 b10 HX10 HB10 HO10 l10 k10
            have S11 : But w.heap.size V11 V11 := But.refl _ _
            have S10 := HN10.out.trans S11
            have S9 := HN9.out.trans S10
            have S8 := HN8.out.trans S9
            have S7 := HN7.out.trans S8
            have S6 := HN6.out.trans S7
            have S5 := HN5.out.trans S6
            have S4 := HN4.out.trans S5
            have S3 := HN3.out.trans S4
            have S2 := HN2.out.trans S3
            have S1 := HN1.out.trans S2
            obtain ⟨t', ht'⟩ : ∃ z, z = Tb.mv F G ⟨rad, bal, rst, gx, gy, drg, shf, tr, ws, ars, ps, fs, zs, ss, las, rs, ds, lns⟩ := ⟨_, rfl⟩
            obtain ⟨a', ha'⟩ : ∃ z : TbA, z = ⟨Btr, d0, Bws, d1, Bars, d2, Bps, d3, Bfs, d4, Bzs, d5, Bss, d6, Blas, d7, Brs, d8, Bds, d9, Blns, d10⟩ := ⟨_, rfl⟩
            rw [← ht']
            have HXE : Hid (BoxAt V11 w.heap.size (t'.cells a')) := hQ0 (by
             have h := HX11.out
             rw [HTC.out] at h
             rw [ht', ha']
             simp only [Tb.cells, Tb.mv, List.length_map]
             exact h)
            obtain ⟨bb, hbb⟩ : ∃ z : Nat → Nat, z = fun i => [V0.heap.size, V1.heap.size, V2.heap.size, V3.heap.size, V4.heap.size, V5.heap.size, V6.heap.size, V7.heap.size, V8.heap.size, V9.heap.size, V10.heap.size, V11.heap.size].getD i 0 := ⟨_, rfl⟩
            have HOE : Hid (TbSep V11 bb t' a') := hQ0 (by
             rw [ht', ha', hbb]
             exact ⟨HR_tr.out.but S1 (.inl LT0), HR_ws.out.but S2 (.inl LT1), HR_ars.out.but S3 (.inl LT2), HR_ps.out.but S4 (.inl LT3), HR_fs.out.but S5 (.inl LT4), HR_zs.out.but S6 (.inl LT5), HR_ss.out.but S7 (.inl LT6), HR_las.out.but S8 (.inl LT7), HR_rs.out.but S9 (.inl LT8), HR_ds.out.but S10 (.inl LT9), HR_lns.out.but S11 (.inl LT10), ⟨HN0.out.size, HN1.out.size, HN2.out.size, HN3.out.size, HN4.out.size, HN5.out.size, HN6.out.size, HN7.out.size, HN8.out.size, HN9.out.size, HN10.out.size⟩⟩)
            have hb0 : w.heap.size + 3 ≤ bb 0 := by rw [hbb]; show _ ≤ V0.heap.size; have := HR0.out.lt; have := HSB.out; omega
            clear hbb
            have HCE : Hid (TbCap t' a') := hQ0 (by
             rw [ht', ha']
             exact ⟨HC_ss.out.1, HC_rs.out.1, HC_lns.out.1, ⟨HC_tr.out.2, HC_ws.out.2, HC_ars.out.2, HC_ps.out.2, HC_fs.out.2, HC_zs.out.2, HC_ss.out.2, HC_las.out.2, HC_rs.out.2, HC_ds.out.2, HC_lns.out.2⟩⟩)
            have HT' := hQ0 ht'
            clear ht' ha'
            refine wp_region_lit ?_
            apply wpL_maybe true (by exact rfl) (t'.v a')
            (case h => intro _; exact load_tb _ _ 2 rfl w.heap.size (by first | rfl | (go_simp; done)) t' a' _ HXE.out)
            intro K hK; (try simp only [opt_true]); go_simp; refine hK _ _ ?_; clear hK K
            (try go_simp)
            refine wpList_store_tb rfl (.tmp 4) (.tmp 59) rfl sb _ (by go_simp) t' a' (by go_simp; first | done | rfl) HR11.out rfl ?_
            go_simp
            go_wp2_with fail
            have hlv := loadv_tb sb t' a' _ (stored_tb sb _ t' a' V11 HR11.out rfl)
            refine bodyPost_ret (v := t'.v a') (by simp only [results, Tryz.results72]; simp [hlv, asAddr]) rfl ?_
            rw [← HT'.out]
            refine ⟨a', rfl, below_setCells (by have := HSB.out; omega) _ _ HB11.out, ?_, HCE.out⟩
            exact ⟨bb, by omega, HOE.out.but (but_setCells sb 0 _ V11) (by have := HSB.out; omega)⟩
end Go.Proofs.YtbpcjpiaimdpnaaGreatDoor
namespace Go.Proofs.YtbpcjpiaimdpnaaGreatDoor
open Go Go.RowKit
set_option maxRecDepth 100000 in
def fr166 (s : Nat → Value) : List Value := s 0 :: s 1 :: s 2 :: s 3 :: s 4 :: s 5 :: s 6 :: s 7 :: s 8 :: s 9 :: s 10 :: s 11 :: s 12 :: s 13 :: s 14 :: s 15 :: s 16 :: s 17 :: s 18 :: s 19 :: s 20 :: s 21 :: s 22 :: s 23 :: s 24 :: s 25 :: s 26 :: s 27 :: s 28 :: s 29 :: s 30 :: s 31 :: s 32 :: s 33 :: s 34 :: s 35 :: s 36 :: s 37 :: s 38 :: s 39 :: s 40 :: s 41 :: s 42 :: s 43 :: s 44 :: s 45 :: s 46 :: s 47 :: s 48 :: s 49 :: s 50 :: s 51 :: s 52 :: s 53 :: s 54 :: s 55 :: s 56 :: s 57 :: s 58 :: s 59 :: s 60 :: s 61 :: s 62 :: s 63 :: s 64 :: s 65 :: s 66 :: s 67 :: s 68 :: s 69 :: s 70 :: s 71 :: s 72 :: s 73 :: s 74 :: s 75 :: s 76 :: s 77 :: s 78 :: s 79 :: s 80 :: s 81 :: s 82 :: s 83 :: s 84 :: s 85 :: s 86 :: s 87 :: s 88 :: s 89 :: s 90 :: s 91 :: s 92 :: s 93 :: s 94 :: s 95 :: s 96 :: s 97 :: s 98 :: s 99 :: s 100 :: s 101 :: s 102 :: s 103 :: s 104 :: s 105 :: s 106 :: s 107 :: s 108 :: s 109 :: s 110 :: s 111 :: s 112 :: s 113 :: s 114 :: s 115 :: s 116 :: s 117 :: s 118 :: s 119 :: s 120 :: s 121 :: s 122 :: s 123 :: s 124 :: s 125 :: s 126 :: s 127 :: s 128 :: s 129 :: s 130 :: s 131 :: s 132 :: s 133 :: s 134 :: s 135 :: s 136 :: s 137 :: s 138 :: s 139 :: s 140 :: s 141 :: s 142 :: s 143 :: s 144 :: s 145 :: s 146 :: s 147 :: s 148 :: s 149 :: s 150 :: s 151 :: s 152 :: s 153 :: s 154 :: s 155 :: s 156 :: s 157 :: s 158 :: s 159 :: s 160 :: s 161 :: s 162 :: s 163 :: s 164 :: s 165 :: []
set_option maxRecDepth 100000 in
theorem fr166_ex (L : List Value) (h : L.length = 166) : ∃ s : Nat → Value, L = fr166 s := ⟨fun i => L.getD i undef, (map_getD L 166 h).trans (by kernel_rfl)⟩
end Go.Proofs.YtbpcjpiaimdpnaaGreatDoor
