/- The contracts of flight.Polys and pinballref10.Polys. -/
import Derived.Test.YtkoejgpnlncgaaaPolR
import Derived.Test.YtkoejgpnlncgaaaFlightR
import Derived.Deep.RegionHeld3
namespace Go.Proofs.Ytkoejgpnlncgaaa
open Go Go.RowKit
set_option linter.unusedVariables false
def PPOut (xs ys : List Int) (w : World) (e : Ending) (w' : World) : Prop := Below w.heap.size w w' ∧ ∃ u v, e = .returned (.tuple #[u, v]) ∧ IsP w' u xs ∧ IsP w' v ys
theorem six_below {W W2 : World} {b : Nat} {u0 u1 u2 u3 u4 u5 : Value} (hb : Below W.heap.size W W2) (hl : b < W.heap.size) (h0 : W.cell? ⟨b, 0, none⟩ = some u0) (h1 : W.cell? ⟨b, 1, none⟩ = some u1) (h2 : W.cell? ⟨b, 2, none⟩ = some u2) (h3 : W.cell? ⟨b, 3, none⟩ = some u3) (h4 : W.cell? ⟨b, 4, none⟩ = some u4) (h5 : W.cell? ⟨b, 5, none⟩ = some u5) :
    W2.cell? ⟨b, 0, none⟩ = some u0 ∧ W2.cell? ⟨b, 1, none⟩ = some u1 ∧ W2.cell? ⟨b, 2, none⟩ = some u2 ∧ W2.cell? ⟨b, 3, none⟩ = some u3 ∧ W2.cell? ⟨b, 4, none⟩ = some u4 ∧ W2.cell? ⟨b, 5, none⟩ = some u5 :=
  ⟨(hb.cell (p := ⟨b, 0, none⟩) hl).trans h0, (hb.cell (p := ⟨b, 1, none⟩) hl).trans h1, (hb.cell (p := ⟨b, 2, none⟩) hl).trans h2, (hb.cell (p := ⟨b, 3, none⟩) hl).trans h3, (hb.cell (p := ⟨b, 4, none⟩) hl).trans h4, (hb.cell (p := ⟨b, 5, none⟩) hl).trans h5⟩
theorem new0 (W : World) (a b c : Value) : (W.alloc (Obj.cells #[a, b, c] 3)).drew.cell? ⟨W.heap.size, 0, none⟩ = some a := by
  show (W.alloc (Obj.cells #[a, b, c] 3)).cell? ⟨W.heap.size, 0, none⟩ = some a
  simp
theorem new1 (W : World) (a b c : Value) : (W.alloc (Obj.cells #[a, b, c] 3)).drew.cell? ⟨W.heap.size, 1, none⟩ = some b := by
  show (W.alloc (Obj.cells #[a, b, c] 3)).cell? ⟨W.heap.size, 1, none⟩ = some b
  simp
theorem new2 (W : World) (a b c : Value) : (W.alloc (Obj.cells #[a, b, c] 3)).drew.cell? ⟨W.heap.size, 2, none⟩ = some c := by
  show (W.alloc (Obj.cells #[a, b, c] 3)).cell? ⟨W.heap.size, 2, none⟩ = some c
  simp
theorem newz (W : World) (o : Obj) : W.heap.size < (W.alloc o).drew.heap.size := by
  show W.heap.size < (W.alloc o).heap.size
  simp
theorem newB {W w' : World} {o : Obj} (h : Below (W.alloc o).drew.heap.size (W.alloc o).drew w') : Below W.heap.size W w' :=
  (((Below.refl W.heap.size W).alloc (Nat.le_refl _) o).drew).trans (h.mono (Nat.le_of_lt (newz W o)))
theorem new0' (W : World) (a b c : Value) : (W.alloc (Obj.cells #[a, b, c] 3)).cell? ⟨W.heap.size, 0, none⟩ = some a := new0 W a b c
theorem new1' (W : World) (a b c : Value) : (W.alloc (Obj.cells #[a, b, c] 3)).cell? ⟨W.heap.size, 1, none⟩ = some b := new1 W a b c
theorem new2' (W : World) (a b c : Value) : (W.alloc (Obj.cells #[a, b, c] 3)).cell? ⟨W.heap.size, 2, none⟩ = some c := new2 W a b c
theorem newz' (W : World) (o : Obj) : W.heap.size < (W.alloc o).heap.size := newz W o
theorem newB' {W w' : World} {o : Obj} (h : Below (W.alloc o).heap.size (W.alloc o) w') : Below W.heap.size W w' :=
  ((Below.refl W.heap.size W).alloc (Nat.le_refl _) o).trans (h.mono (Nat.le_of_lt (newz W o)))
theorem newzz (W : World) (o o' : Obj) : W.heap.size < ((W.alloc o).alloc o').drew.heap.size := by
  show W.heap.size < ((W.alloc o).alloc o').heap.size
  simp <;> omega
theorem newzs (W : World) (o o' : Obj) : W.heap.size + 1 < ((W.alloc o).alloc o').drew.heap.size := by
  show W.heap.size + 1 < ((W.alloc o).alloc o').heap.size
  simp
theorem neww0 (W : World) (a b c : Value) (o : Obj) : ((W.alloc (Obj.cells #[a, b, c] 3)).alloc o).drew.cell? ⟨W.heap.size, 0, none⟩ = some a := by
  show ((W.alloc (Obj.cells #[a, b, c] 3)).alloc o).cell? ⟨W.heap.size, 0, none⟩ = some a
  simp
theorem neww1 (W : World) (a b c : Value) (o : Obj) : ((W.alloc (Obj.cells #[a, b, c] 3)).alloc o).drew.cell? ⟨W.heap.size, 1, none⟩ = some b := by
  show ((W.alloc (Obj.cells #[a, b, c] 3)).alloc o).cell? ⟨W.heap.size, 1, none⟩ = some b
  simp
theorem neww2 (W : World) (a b c : Value) (o : Obj) : ((W.alloc (Obj.cells #[a, b, c] 3)).alloc o).drew.cell? ⟨W.heap.size, 2, none⟩ = some c := by
  show ((W.alloc (Obj.cells #[a, b, c] 3)).alloc o).cell? ⟨W.heap.size, 2, none⟩ = some c
  simp
theorem news0 (W : World) (a b c : Value) (o : Obj) : ((W.alloc o).alloc (Obj.cells #[a, b, c] 3)).drew.cell? ⟨W.heap.size + 1, 0, none⟩ = some a := by
  show ((W.alloc o).alloc (Obj.cells #[a, b, c] 3)).cell? ⟨W.heap.size + 1, 0, none⟩ = some a
  simp
theorem news1 (W : World) (a b c : Value) (o : Obj) : ((W.alloc o).alloc (Obj.cells #[a, b, c] 3)).drew.cell? ⟨W.heap.size + 1, 1, none⟩ = some b := by
  show ((W.alloc o).alloc (Obj.cells #[a, b, c] 3)).cell? ⟨W.heap.size + 1, 1, none⟩ = some b
  simp
theorem news2 (W : World) (a b c : Value) (o : Obj) : ((W.alloc o).alloc (Obj.cells #[a, b, c] 3)).drew.cell? ⟨W.heap.size + 1, 2, none⟩ = some c := by
  show ((W.alloc o).alloc (Obj.cells #[a, b, c] 3)).cell? ⟨W.heap.size + 1, 2, none⟩ = some c
  simp
theorem newB2 {W w' : World} {o o' : Obj} (h : Below ((W.alloc o).alloc o').drew.heap.size ((W.alloc o).alloc o').drew w') : Below W.heap.size W w' := newB' (newB h)
theorem newB2' {W w' : World} {o o' : Obj} (h : Below ((W.alloc o).alloc o').heap.size ((W.alloc o).alloc o') w') : Below W.heap.size W w' := newB' (newB' h)
theorem dcell {W : World} {p : Addr} {v : Value} (h : W.cell? p = some v) : W.drew.cell? p = some v := h
theorem dsize {W : World} {n : Nat} (h : n < W.heap.size) : n < W.drew.heap.size := h
set_option maxRecDepth 100000 in
set_option maxHeartbeats 4000000 in
theorem polys_in (px py vx vy hx hy : Int) (w : World) (h : validB px py vx vy hx hy = true) :
    Calls Try.prog 21 #[.agg #[.int .i64 px, .int .i64 py, .int .i64 vx, .int .i64 vy, .int .i64 hx, .int .i64 hy]] w (PPOut (trimP [px, vx, hx]) (trimP [py, vy, hy]) w) := by
  obtain ⟨⟨p1, p2, p3, p4⟩, ⟨v1, v2, v3, v4⟩, ⟨h1, h2, h3, h4⟩⟩ := valid_iff h
  have hv := fun w => valid_any px py vx vy hx hy w
  rw [h] at hv
  have HV := Lib.hid hv
  have HX := Lib.hid (show ∀ n ∈ [px, vx, hx], -9223372036854775808 ≤ n ∧ n ≤ 9223372036854775807 by intro n hn; simp at hn; rcases hn with rfl | rfl | rfl <;> omega)
  have HY := Lib.hid (show ∀ n ∈ [py, vy, hy], -9223372036854775808 ≤ n ∧ n ≤ 9223372036854775807 by intro n hn; simp at hn; rcases hn with rfl | rfl | rfl <;> omega)
  have hpx := fun b w' hb h0 h1 h2 => polyof_any (some ⟨b, 0, none⟩) [px, vx, hx] 3 w' (iat_three hb h0 h1 h2) (by simp) HX.out
  have hpy := fun b w' hb h0 h1 h2 => polyof_any (some ⟨b, 0, none⟩) [py, vy, hy] 3 w' (iat_three hb h0 h1 h2) (by simp) HY.out
  have HPX := Lib.hid hpx
  have HPY := Lib.hid hpy
  clear hv h hpx hpy HX HY p1 p2 p3 p4 v1 v2 v3 v4 h1 h2 h3 h4
  go_enter Try.func21, Try.ntmps21; (try simp only [List.append_eq, List.cons_append, List.nil_append])
  go_wp2_with fail
  -- own blocks: w.heap.size:6
  (go_at_call 17; refine (HV.out _).mono ?_; rintro e w1 ⟨rfl, hb_w1⟩; have hz_w1 := hb_w1.size; (try simp at hz_w1); (with_reducible apply cel6 (b := w.heap.size) hb_w1); (focus ((try simp) <;> omega)); (focus omega); (focus (go_simp; try exact rfl)); (focus (go_simp; try exact rfl)); (focus (go_simp; try exact rfl)); (focus (go_simp; try exact rfl)); (focus (go_simp; try exact rfl)); (focus (go_simp; try exact rfl)); (focus (intro o; go_simp)); intro cc cc cc cc cc cc fz hl)
  have HB1 := Lib.hid (show Below w.heap.size w w1 by ((with_reducible (repeat (first | exact bR _ _ | refine bS ?_ ?_ _ | refine bA ?_ ?_ _ | refine bD ?_ | refine bT ?_ (by assumption) ?_ | refine bO (by assumption) ?_ ?_))) <;> (first | omega | (simp; done) | (simp <;> omega))))
  have hz1 : w.heap.size + 1 ≤ w1.heap.size := by omega
  clear hb_w1
  go_wp2_with fail
  go_region_held3 (fun w' => w'.cell? ⟨w.heap.size, 0, none⟩ = some (.int .i64 px) ∧ w'.cell? ⟨w.heap.size, 1, none⟩ = some (.int .i64 py) ∧ w'.cell? ⟨w.heap.size, 2, none⟩ = some (.int .i64 vx) ∧ w'.cell? ⟨w.heap.size, 3, none⟩ = some (.int .i64 vy) ∧ w'.cell? ⟨w.heap.size, 4, none⟩ = some (.int .i64 hx) ∧ w'.cell? ⟨w.heap.size, 5, none⟩ = some (.int .i64 hy)) (go_keep)
    (first
      | (go_at_call 64; refine Calls.mono (HPX.out _ _ ?_ ?_ ?_ ?_) ?_; (focus (first | exact newz _ _ | exact newz' _ _ | exact newzz _ _ _ | exact newzs _ _ _ | (refine Nat.lt_of_lt_of_le ?_ hX.size; first | exact newz _ _ | exact newz' _ _ | exact newzz _ _ _ | exact newzs _ _ _))); (focus (first | exact new0 _ _ _ _ | exact new0' _ _ _ _ | exact neww0 _ _ _ _ _ | exact news0 _ _ _ _ _ | (refine (hX.cell ?_).trans ?_; (focus (first | exact newzz _ _ _ | exact newzs _ _ _)); first | exact new0 _ _ _ _ | exact new0' _ _ _ _ | exact neww0 _ _ _ _ _ | exact news0 _ _ _ _ _))); (focus (first | exact new1 _ _ _ _ | exact new1' _ _ _ _ | exact neww1 _ _ _ _ _ | exact news1 _ _ _ _ _ | (refine (hX.cell ?_).trans ?_; (focus (first | exact newzz _ _ _ | exact newzs _ _ _)); first | exact new1 _ _ _ _ | exact new1' _ _ _ _ | exact neww1 _ _ _ _ _ | exact news1 _ _ _ _ _))); (focus (first | exact new2 _ _ _ _ | exact new2' _ _ _ _ | exact neww2 _ _ _ _ _ | exact news2 _ _ _ _ _ | (refine (hX.cell ?_).trans ?_; (focus (first | exact newzz _ _ _ | exact newzs _ _ _)); first | exact new2 _ _ _ _ | exact new2' _ _ _ _ | exact neww2 _ _ _ _ _ | exact news2 _ _ _ _ _))); rintro e w2 ⟨hbb, u2, rfl, hu2⟩; (first | have hb2 := newB2 hbb | have hb2 := newB2' hbb | have hb2 := newB hbb | have hb2 := newB' hbb | have hb2 := hbb); have hX := hbb; clear hbb; have hzhb2 := hb2.size; have sx := six_below (b := w.heap.size) hb2 (by omega) (by assumption) (by assumption) (by assumption) (by assumption) (by assumption) (by assumption); obtain ⟨s0, s1, s2, s3, s4, s5⟩ := sx)
      | (go_at_call 64; refine Calls.mono (HPY.out _ _ ?_ ?_ ?_ ?_) ?_; (focus (first | exact newz _ _ | exact newz' _ _ | exact newzz _ _ _ | exact newzs _ _ _ | (refine Nat.lt_of_lt_of_le ?_ hX.size; first | exact newz _ _ | exact newz' _ _ | exact newzz _ _ _ | exact newzs _ _ _))); (focus (first | exact new0 _ _ _ _ | exact new0' _ _ _ _ | exact neww0 _ _ _ _ _ | exact news0 _ _ _ _ _ | (refine (hX.cell ?_).trans ?_; (focus (first | exact newzz _ _ _ | exact newzs _ _ _)); first | exact new0 _ _ _ _ | exact new0' _ _ _ _ | exact neww0 _ _ _ _ _ | exact news0 _ _ _ _ _))); (focus (first | exact new1 _ _ _ _ | exact new1' _ _ _ _ | exact neww1 _ _ _ _ _ | exact news1 _ _ _ _ _ | (refine (hX.cell ?_).trans ?_; (focus (first | exact newzz _ _ _ | exact newzs _ _ _)); first | exact new1 _ _ _ _ | exact new1' _ _ _ _ | exact neww1 _ _ _ _ _ | exact news1 _ _ _ _ _))); (focus (first | exact new2 _ _ _ _ | exact new2' _ _ _ _ | exact neww2 _ _ _ _ _ | exact news2 _ _ _ _ _ | (refine (hX.cell ?_).trans ?_; (focus (first | exact newzz _ _ _ | exact newzs _ _ _)); first | exact new2 _ _ _ _ | exact new2' _ _ _ _ | exact neww2 _ _ _ _ _ | exact news2 _ _ _ _ _))); rintro e w3 ⟨hbb, u3, rfl, hu3⟩; (first | have hb3 := newB2 hbb | have hb3 := newB2' hbb | have hb3 := newB hbb | have hb3 := newB' hbb | have hb3 := hbb); have hX := hbb; clear hbb; have hzhb3 := hb3.size; have sx := six_below (b := w.heap.size) hb3 (by omega) (by assumption) (by assumption) (by assumption) (by assumption) (by assumption) (by assumption); obtain ⟨t0, t1, t2, t3, t4, t5⟩ := sx))
  all_goals go_wp2_with fail
  all_goals go_ret2
  all_goals first
    | exact ⟨HB1.out.trans ((hb2.trans (hb3.mono hzhb2)).mono (by omega)), u2, u3, rfl, hu2.below hb3, hu3⟩
    | exact ⟨HB1.out.trans ((hb3.trans (hb2.mono hzhb3)).mono (by omega)), u2, u3, rfl, hu2, hu3.below hb2⟩
    | trace_state
set_option maxRecDepth 100000 in
set_option maxHeartbeats 4000000 in
theorem rpolys_in (px py vx vy hx hy : Int) (w : World) (h : validB px py vx vy hx hy = true) :
    Calls Try.prog 25 #[.agg #[.int .i64 px, .int .i64 py, .int .i64 vx, .int .i64 vy, .int .i64 hx, .int .i64 hy]] w (PPOut (trimP [px, vx, hx]) (trimP [py, vy, hy]) w) := by
  obtain ⟨⟨p1, p2, p3, p4⟩, ⟨v1, v2, v3, v4⟩, ⟨h1, h2, h3, h4⟩⟩ := valid_iff h
  have hv := fun w => rvalid_any px py vx vy hx hy w
  rw [h] at hv
  have HV := Lib.hid hv
  have HX := Lib.hid (show ∀ n ∈ [px, vx, hx], -9223372036854775808 ≤ n ∧ n ≤ 9223372036854775807 by intro n hn; simp at hn; rcases hn with rfl | rfl | rfl <;> omega)
  have HY := Lib.hid (show ∀ n ∈ [py, vy, hy], -9223372036854775808 ≤ n ∧ n ≤ 9223372036854775807 by intro n hn; simp at hn; rcases hn with rfl | rfl | rfl <;> omega)
  have hpx := fun b w' hb h0 h1 h2 => rpolyof_any (some ⟨b, 0, none⟩) [px, vx, hx] 3 w' (iat_three hb h0 h1 h2) (by simp) HX.out
  have hpy := fun b w' hb h0 h1 h2 => rpolyof_any (some ⟨b, 0, none⟩) [py, vy, hy] 3 w' (iat_three hb h0 h1 h2) (by simp) HY.out
  have HPX := Lib.hid hpx
  have HPY := Lib.hid hpy
  clear hv h hpx hpy HX HY p1 p2 p3 p4 v1 v2 v3 v4 h1 h2 h3 h4
  go_enter Try.func25, Try.ntmps25; (try simp only [List.append_eq, List.cons_append, List.nil_append])
  go_wp2_with fail
  -- own blocks: w.heap.size:6
  (go_at_call 15; refine (HV.out _).mono ?_; rintro e w1 ⟨rfl, hb_w1⟩; have hz_w1 := hb_w1.size; (try simp at hz_w1); (with_reducible apply cel6 (b := w.heap.size) hb_w1); (focus ((try simp) <;> omega)); (focus omega); (focus (go_simp; try exact rfl)); (focus (go_simp; try exact rfl)); (focus (go_simp; try exact rfl)); (focus (go_simp; try exact rfl)); (focus (go_simp; try exact rfl)); (focus (go_simp; try exact rfl)); (focus (intro o; go_simp)); intro cc cc cc cc cc cc fz hl)
  have HB1 := Lib.hid (show Below w.heap.size w w1 by ((with_reducible (repeat (first | exact bR _ _ | refine bS ?_ ?_ _ | refine bA ?_ ?_ _ | refine bD ?_ | refine bT ?_ (by assumption) ?_ | refine bO (by assumption) ?_ ?_))) <;> (first | omega | (simp; done) | (simp <;> omega))))
  have hz1 : w.heap.size + 1 ≤ w1.heap.size := by omega
  clear hb_w1
  go_wp2_with fail
  go_region_held3 (fun w' => w'.cell? ⟨w.heap.size, 0, none⟩ = some (.int .i64 px) ∧ w'.cell? ⟨w.heap.size, 1, none⟩ = some (.int .i64 py) ∧ w'.cell? ⟨w.heap.size, 2, none⟩ = some (.int .i64 vx) ∧ w'.cell? ⟨w.heap.size, 3, none⟩ = some (.int .i64 vy) ∧ w'.cell? ⟨w.heap.size, 4, none⟩ = some (.int .i64 hx) ∧ w'.cell? ⟨w.heap.size, 5, none⟩ = some (.int .i64 hy)) (go_keep)
    (first
      | (go_at_call 70; refine Calls.mono (HPX.out _ _ ?_ ?_ ?_ ?_) ?_; (focus (first | exact newz _ _ | exact newz' _ _ | exact newzz _ _ _ | exact newzs _ _ _ | (refine Nat.lt_of_lt_of_le ?_ hX.size; first | exact newz _ _ | exact newz' _ _ | exact newzz _ _ _ | exact newzs _ _ _))); (focus (first | exact new0 _ _ _ _ | exact new0' _ _ _ _ | exact neww0 _ _ _ _ _ | exact news0 _ _ _ _ _ | (refine (hX.cell ?_).trans ?_; (focus (first | exact newzz _ _ _ | exact newzs _ _ _)); first | exact new0 _ _ _ _ | exact new0' _ _ _ _ | exact neww0 _ _ _ _ _ | exact news0 _ _ _ _ _))); (focus (first | exact new1 _ _ _ _ | exact new1' _ _ _ _ | exact neww1 _ _ _ _ _ | exact news1 _ _ _ _ _ | (refine (hX.cell ?_).trans ?_; (focus (first | exact newzz _ _ _ | exact newzs _ _ _)); first | exact new1 _ _ _ _ | exact new1' _ _ _ _ | exact neww1 _ _ _ _ _ | exact news1 _ _ _ _ _))); (focus (first | exact new2 _ _ _ _ | exact new2' _ _ _ _ | exact neww2 _ _ _ _ _ | exact news2 _ _ _ _ _ | (refine (hX.cell ?_).trans ?_; (focus (first | exact newzz _ _ _ | exact newzs _ _ _)); first | exact new2 _ _ _ _ | exact new2' _ _ _ _ | exact neww2 _ _ _ _ _ | exact news2 _ _ _ _ _))); rintro e w2 ⟨hbb, u2, rfl, hu2⟩; (first | have hb2 := newB2 hbb | have hb2 := newB2' hbb | have hb2 := newB hbb | have hb2 := newB' hbb | have hb2 := hbb); have hX := hbb; clear hbb; have hzhb2 := hb2.size; have sx := six_below (b := w.heap.size) hb2 (by omega) (by assumption) (by assumption) (by assumption) (by assumption) (by assumption) (by assumption); obtain ⟨s0, s1, s2, s3, s4, s5⟩ := sx)
      | (go_at_call 70; refine Calls.mono (HPY.out _ _ ?_ ?_ ?_ ?_) ?_; (focus (first | exact newz _ _ | exact newz' _ _ | exact newzz _ _ _ | exact newzs _ _ _ | (refine Nat.lt_of_lt_of_le ?_ hX.size; first | exact newz _ _ | exact newz' _ _ | exact newzz _ _ _ | exact newzs _ _ _))); (focus (first | exact new0 _ _ _ _ | exact new0' _ _ _ _ | exact neww0 _ _ _ _ _ | exact news0 _ _ _ _ _ | (refine (hX.cell ?_).trans ?_; (focus (first | exact newzz _ _ _ | exact newzs _ _ _)); first | exact new0 _ _ _ _ | exact new0' _ _ _ _ | exact neww0 _ _ _ _ _ | exact news0 _ _ _ _ _))); (focus (first | exact new1 _ _ _ _ | exact new1' _ _ _ _ | exact neww1 _ _ _ _ _ | exact news1 _ _ _ _ _ | (refine (hX.cell ?_).trans ?_; (focus (first | exact newzz _ _ _ | exact newzs _ _ _)); first | exact new1 _ _ _ _ | exact new1' _ _ _ _ | exact neww1 _ _ _ _ _ | exact news1 _ _ _ _ _))); (focus (first | exact new2 _ _ _ _ | exact new2' _ _ _ _ | exact neww2 _ _ _ _ _ | exact news2 _ _ _ _ _ | (refine (hX.cell ?_).trans ?_; (focus (first | exact newzz _ _ _ | exact newzs _ _ _)); first | exact new2 _ _ _ _ | exact new2' _ _ _ _ | exact neww2 _ _ _ _ _ | exact news2 _ _ _ _ _))); rintro e w3 ⟨hbb, u3, rfl, hu3⟩; (first | have hb3 := newB2 hbb | have hb3 := newB2' hbb | have hb3 := newB hbb | have hb3 := newB' hbb | have hb3 := hbb); have hX := hbb; clear hbb; have hzhb3 := hb3.size; have sx := six_below (b := w.heap.size) hb3 (by omega) (by assumption) (by assumption) (by assumption) (by assumption) (by assumption) (by assumption); obtain ⟨t0, t1, t2, t3, t4, t5⟩ := sx))
  all_goals go_wp2_with fail
  all_goals go_ret2
  all_goals first
    | exact ⟨HB1.out.trans ((hb2.trans (hb3.mono hzhb2)).mono (by omega)), u2, u3, rfl, hu2.below hb3, hu3⟩
    | exact ⟨HB1.out.trans ((hb3.trans (hb2.mono hzhb3)).mono (by omega)), u2, u3, rfl, hu2, hu3.below hb2⟩
    | trace_state
end Go.Proofs.Ytkoejgpnlncgaaa
