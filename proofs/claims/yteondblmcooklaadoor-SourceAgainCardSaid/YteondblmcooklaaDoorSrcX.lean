/- The contract of pinballlaw08.items. -/
import Derived.Test.YteondblmcooklaaDoorSrcW
namespace Go.Proofs.YteondblmcooklaaDoor
open Go Go.RowKit
set_option linter.unusedVariables false
theorem up_append_ints {w : World} {o : Oper} {a : Act} {Post : Act → World → Prop} {Q : Exit → Act → World → Prop} (s x : Operand)
    (ho : o.op = .call { callee := .builtin .append, args := #[s, x], argTypes := #[37, 37] }) (hs : a.eval s = .slice none 0 0) (C : Option Addr) (q : Nat) (l : List Int) (hx : a.eval x = .slice C l.length q)
    (hI : IAt w C l) (hl : l.length ≤ 1000000) (h : ∀ A c w', OwnI w' w.heap.size A c l → w.grownBy w' none → Post (a.put o.dst (.slice A l.length c)) w') : Oper.upon Tryd.prog o a Post Q ((execOp a.eval o).run Tryd.prog w) := by
  rcases Nat.eq_zero_or_pos l.length with h0 | h0
  · obtain rfl := List.length_eq_zero_iff.1 h0
    have hrun := app_void (W := w) (C := C) (q := q) (t := o.type)
    unfold execOp
    simp only [List.length_nil] at hx
    simp only [ho, resolve, invoke, builtin, Sem.run_bind, Sem.run_pure, Result.andThen_ok, List.map_toArray, List.map_cons, List.map_nil, hs, hx, hrun]
    exact h none 0 w (OwnI.nil _ _) ⟨rfl, rfl, rfl, Nat.le_refl _, fun _ _ _ => rfl⟩
  · obtain ⟨x0, hx0⟩ : ∃ x, l[0]? = some x := ⟨l[0], by simp⟩
    obtain ⟨g, p, rfl, _, _⟩ := hI 0 x0 hx0
    obtain ⟨i, hi, hz, hsi, hb⟩ := info_parts intInfo
    obtain ⟨v', w', hrun, h2, h3, _, h5⟩ := run_append_own_at (P := Tryd.prog) w w.heap.size 37 o.type 3 i _ 1 8 Tryd.underlying37 hi hz hsi hb rfl (by decide) (.slice none 0 0) 0 [] (World.ownsRow_nil _ _ _ _) ⟨g, p, none⟩ l.length q (l.map (Value.int .i64)) (by simp) (fun j u hu => by
      rw [show (⟨g, p, none⟩ : Addr).add j = ⟨g, p + j, none⟩ by unfold Addr.add; split <;> simp_all]
      rw [List.getElem?_map] at hu
      obtain ⟨z, hz', rfl⟩ := Option.map_eq_some_iff.1 hu
      obtain ⟨g', p', hA, _, hc⟩ := hI j z hz'
      simp only [Option.some.injEq, Addr.mk.injEq, and_true] at hA
      obtain ⟨rfl, rfl⟩ := hA
      exact hc) (by intro u hu; obtain ⟨z, _, rfl⟩ := List.mem_map.1 hu; rfl) (by unfold maxLen; omega) (by omega) (Nat.le_refl _)
    rw [Nat.zero_add, List.nil_append] at h2
    obtain ⟨A', c', rfl⟩ := own_sl h2
    unfold execOp
    simp only [ho, resolve, invoke, builtin, Sem.run_bind, Sem.run_pure, Result.andThen_ok, List.map_toArray, List.map_cons, List.map_nil, hs, hx, hrun]
    exact h A' c' w' h2 h3
theorem C4.drew {w : World} {b : Nat} {v0 v1 v2 v3 : Value} (h : C4 w b v0 v1 v2 v3) : C4 w.drew b v0 v1 v2 v3 := ⟨h.c0, h.c1, h.c2, h.c3, h.fz, h.lt⟩
theorem C3.drew {w : World} {b : Nat} {v0 v1 v2 : Value} (h : C3 w b v0 v1 v2) : C3 w.drew b v0 v1 v2 := ⟨h.c0, h.c1, h.c2, h.fz, h.lt⟩
theorem below_of_none {a b : World} (h : a.drew.grownBy b none) : Below a.heap.size a b := ⟨h.os, h.tape, h.output, h.size, fun k hk => h.block k hk (by simp)⟩
def ItemsOut (l : List IV) (w : World) (e : Ending) (w' : World) : Prop := Below w.heap.size w w' ∧ ∃ A c, e = .returned (.slice A l.length c) ∧ XsOwn w' w.heap.size 43 72 A c l
theorem take_snoc {α : Type} {l : List α} {k : Nat} {x : α} (h : l[k]? = some x) : l.take (k + 1) = l.take k ++ [x] := by rw [List.take_add_one, h]; rfl
set_option maxRecDepth 100000 in
set_option maxHeartbeats 8000000 in
theorem items_any (l : List IV) (A : Option Addr) (c : Nat) (w : World) (hA : XsAt w A l) (hl : l.length ≤ 1000000) (hok : ∀ x ∈ l, okX x) :
    Calls Tryd.prog 11 #[.slice A l.length c] w (ItemsOut l w) := by
  have HA := Lib.hid hA
  have HK := Lib.hid hok
  clear hA hok
  go_enter Tryd.func11, Tryd.ntmps11; (try simp only [List.append_eq, List.cons_append, List.nil_append])
  go_wp2_with fail
  go_loopw [3, 4] (fun v t wr => ∃ (k : Nat) (acc : List IV) (B : Option Addr) (d : Nat), k ≤ l.length ∧ v = .slice B acc.length d ∧ t = .int .i64 k ∧ Hid (acc = l.take k) ∧ Below w.heap.size w wr ∧ Hid (XsOwn wr w.heap.size 43 72 B d acc)) (fun _ t _ => l.length - (intOf t).toNat)
  case atStart => exact ⟨0, [], none, 0, by omega, rfl, rfl, Lib.hid rfl, Below.refl _ _, Lib.hid (XsOwn.nil _ _ _ _)⟩
  case round =>
    obtain ⟨k, acc, B, d, hk, rfl, rfl, HAC, hb_wr, HX⟩ := hrel
    have hz_wr := hb_wr.size
    by_cases hlt : k < l.length
    · obtain ⟨x, hx⟩ : ∃ x, l[k]? = some x := ⟨l[k], by simp⟩
      obtain ⟨g, o, C, q, rfl, hg, ⟨c0, c1, c2, c3⟩, hI⟩ := HA.out k x hx
      replace c0 := (hb_wr.cell (p := ⟨g, o + k * 4, none⟩) hg).trans c0
      replace c1 := (hb_wr.cell (p := ⟨g, o + k * 4 + 1, none⟩) hg).trans c1
      replace c2 := (hb_wr.cell (p := ⟨g, o + k * 4 + 2, none⟩) hg).trans c2
      replace c3 := (hb_wr.cell (p := ⟨g, o + k * 4 + 3, none⟩) hg).trans c3
      have hg' : g < wr.heap.size := by omega
      have i1 : (k : Int) < (l.length : Int) := by omega
      obtain ⟨hkl, hvl⟩ := HK.out x (List.mem_of_getElem? hx)
      have HI := Lib.hid hI
      have HB := Lib.hid hb_wr
      have HXx := Lib.hid hx
      clear hI hb_wr hx
      go_wp2_with fail
      have hS0 : wr.drew.cell? ⟨g, o + k * 4, none⟩ = some (.string x.word) ∧ wr.drew.cell? ⟨g, o + k * 4 + 1, none⟩ = some (.string x.name) ∧ wr.drew.cell? ⟨g, o + k * 4 + 3, none⟩ = some (.int .i64 x.at_) := ⟨c0, c1, c3⟩
      refine wp_region_Z (fun W => W.cell? ⟨g, o + k * 4, none⟩ = some (.string x.word) ∧ W.cell? ⟨g, o + k * 4 + 1, none⟩ = some (.string x.name) ∧ W.cell? ⟨g, o + k * 4 + 3, none⟩ = some (.int .i64 x.at_)) 17 [17] (by kernel_rfl) (by kernel_rfl) ?_
      (apply wpZ_step (i := 0) rfl (by kernel_rfl) rfl; (case h => (intro W hW; obtain ⟨s0, s1, s2⟩ := hW; go_simp; first | done | exact rfl)); (case hQ => (exact fun _ _ _ h => h)); (case hS => assumption); intro K hK; go_simp; refine hK _ _ ?_; clear hK K)
      (apply wpZ_step (i := 1) rfl (by kernel_rfl) rfl; (case h => (intro W hW; obtain ⟨s0, s1, s2⟩ := hW; go_simp; first | done | exact rfl)); (case hQ => (exact fun _ _ _ h => h)); (case hS => assumption); intro K hK; go_simp; refine hK _ _ ?_; clear hK K)
      (apply wpZ_step (i := 2) rfl (by kernel_rfl) rfl; (case h => (intro W hW; obtain ⟨s0, s1, s2⟩ := hW; go_simp; first | done | exact rfl)); (case hQ => (exact fun _ _ _ h => h)); (case hS => assumption); intro K hK; go_simp; refine hK _ _ ?_; clear hK K)
      (apply wpZ_step (i := 3) rfl (by kernel_rfl) rfl; (case h => (intro W hW; obtain ⟨s0, s1, s2⟩ := hW; go_simp; first | done | exact rfl)); (case hQ => (exact fun _ _ _ h => h)); (case hS => assumption); intro K hK; go_simp; refine hK _ _ ?_; clear hK K)
      (apply wpZ_step (i := 4) rfl (by kernel_rfl) rfl; (case h => (intro W hW; obtain ⟨s0, s1, s2⟩ := hW; go_simp; first | done | exact rfl)); (case hQ => (exact fun _ _ _ h => h)); (case hS => assumption); intro K hK; go_simp; refine hK _ _ ?_; clear hK K)
      (apply wpZ_step (i := 5) rfl (by kernel_rfl) rfl; (case h => (intro W hW; obtain ⟨s0, s1, s2⟩ := hW; go_simp; first | done | exact rfl)); (case hQ => (exact fun _ _ _ h => h)); (case hS => assumption); intro K hK; go_simp; refine hK _ _ ?_; clear hK K)
      (apply wpZ_step (i := 6) rfl (by kernel_rfl) rfl; (case h => (intro W hW; obtain ⟨s0, s1, s2⟩ := hW; go_simp; first | done | exact rfl)); (case hQ => (exact fun _ _ _ h => h)); (case hS => assumption); intro K hK; go_simp; refine hK _ _ ?_; clear hK K)
      (apply wpZ_step (i := 7) rfl (by kernel_rfl) rfl; (case h => (intro W hW; obtain ⟨s0, s1, s2⟩ := hW; go_simp; first | done | exact rfl)); (case hQ => (exact fun _ _ _ h => h)); (case hS => assumption); intro K hK; go_simp; refine hK _ _ ?_; clear hK K)
      (apply wpZ_step (i := 8) rfl (by kernel_rfl) rfl; (case h => (intro W hW; obtain ⟨s0, s1, s2⟩ := hW; go_simp; first | done | exact rfl)); (case hQ => (exact fun _ _ _ h => h)); (case hS => assumption); intro K hK; go_simp; refine hK _ _ ?_; clear hK K)
      (apply wpZ_step (i := 9) rfl (by kernel_rfl) rfl; (case h => (intro W hW; obtain ⟨s0, s1, s2⟩ := hW; go_simp; first | done | exact rfl)); (case hQ => (exact fun _ _ _ h => h)); (case hS => assumption); intro K hK; go_simp; refine hK _ _ ?_; clear hK K)
      (apply wpZ_step (i := 10) rfl (by kernel_rfl) rfl; (case h => (intro W hW; obtain ⟨s0, s1, s2⟩ := hW; go_simp; first | done | exact rfl)); (case hQ => (exact fun _ _ _ h => h)); (case hS => assumption); intro K hK; go_simp; refine hK _ _ ?_; clear hK K)
      (apply wpZ_step (i := 11) rfl (by kernel_rfl) rfl; (case h => (intro W hW; obtain ⟨s0, s1, s2⟩ := hW; go_simp; first | done | exact rfl)); (case hQ => (exact fun _ _ _ h => h)); (case hS => assumption); intro K hK; go_simp; refine hK _ _ ?_; clear hK K)
      (apply wpZ_step (i := 12) rfl (by kernel_rfl) rfl; (case h => (intro W hW; obtain ⟨s0, s1, s2⟩ := hW; go_simp; first | done | exact rfl)); (case hQ => (exact fun _ _ _ h => h)); (case hS => assumption); intro K hK; go_simp; refine hK _ _ ?_; clear hK K)
      (apply wpZ_step (i := 13) rfl (by kernel_rfl) rfl; (case h => (intro W hW; obtain ⟨s0, s1, s2⟩ := hW; go_simp; first | done | exact rfl)); (case hQ => (exact fun _ _ _ h => h)); (case hS => assumption); intro K hK; go_simp; refine hK _ _ ?_; clear hK K)
      (apply wpZ_step (i := 14) rfl (by kernel_rfl) rfl; (case h => (intro W hW; obtain ⟨s0, s1, s2⟩ := hW; go_simp; first | done | exact rfl)); (case hQ => (exact fun _ _ _ h => h)); (case hS => assumption); intro K hK; go_simp; refine hK _ _ ?_; clear hK K)
      (apply wpZ_step (i := 15) rfl (by kernel_rfl) rfl; (case h => (intro W hW; obtain ⟨s0, s1, s2⟩ := hW; go_simp; first | done | exact rfl)); (case hQ => (exact fun _ _ _ h => h)); (case hS => assumption); intro K hK; go_simp; refine hK _ _ ?_; clear hK K)
      refine wpZ_one (i := 16) rfl (by kernel_rfl) rfl (fun K hK => ?_)
      (try go_simp)
      refine hK _ _ ?_
      clear hK K hS0
      refine wpZ_nil (by kernel_rfl) ?_
      (try simp only [List.filterMap_cons, List.filterMap_nil, List.getElem?_cons_succ, List.getElem?_cons_zero])
      (try go_simp)
      go_wp2_with fail
      have hXB := (C4.new wr (.string x.word) (.string x.name) (.slice none 0 0) (.int .i64 x.at_) 43).drew
      have hbx := ((Below.refl wr.heap.size wr).alloc (Nat.le_refl _) (.cells #[.string x.word, .string x.name, .slice none 0 0, .int .i64 x.at_] 43)).drew
      obtain ⟨XB, hXe⟩ : ∃ XB, XB = wr.heap.size := ⟨_, rfl⟩
      rw [← hXe] at hXB hbx ⊢
      have hXw : w.heap.size ≤ XB := by omega
      have hgX : g < XB := by omega
      have HXe := Lib.hid hXe
      clear hXe
      obtain ⟨wo, rfl⟩ : ∃ wo, wo = wr := ⟨wr, rfl⟩
      go_loopw [6] (fun t wi => ∃ (j : Nat) (ks : List KV) (B2 : Option Addr) (d2 : Nat), j ≤ x.keys.length ∧ t = .int .i64 j ∧ Hid (ks = x.keys.take j) ∧ Below XB wo wi ∧ C4 wi XB (.string x.word) (.string x.name) (.slice B2 ks.length d2) (.int .i64 x.at_) ∧ Hid (KsOwn wi (XB + 1) 72 B2 d2 ks)) (fun t _ => x.keys.length - (intOf t).toNat)
      case atStart => exact ⟨0, [], none, 0, by omega, rfl, Lib.hid rfl, hbx, hXB, Lib.hid (KsOwn.nil _ _ _)⟩
      case round =>
        clear hXB hbx
        obtain ⟨j, ks, B2, d2, hj, rfl, HKs, hbi, x4, HO⟩ := hrel
        have hzi := hbi.size
        have X4 := Lib.hid x4
        obtain ⟨y0, y1, y2, y3, yz, yl⟩ := x4
        replace c0 := (hbi.cell (p := ⟨g, o + k * 4, none⟩) hgX).trans c0
        replace c1 := (hbi.cell (p := ⟨g, o + k * 4 + 1, none⟩) hgX).trans c1
        replace c2 := (hbi.cell (p := ⟨g, o + k * 4 + 2, none⟩) hgX).trans c2
        replace c3 := (hbi.cell (p := ⟨g, o + k * 4 + 3, none⟩) hgX).trans c3
        have hgi : g < wr.heap.size := by omega
        have HBw : Hid (Below w.heap.size w wr) := Lib.hid (HB.out.trans (hbi.mono hXw))
        have HBi := Lib.hid hbi
        clear hbi
        by_cases hjl : j < x.keys.length
        · obtain ⟨y, hy⟩ : ∃ y, x.keys[j]? = some y := ⟨x.keys[j], by simp⟩
          obtain ⟨g2, o2, C2, q2, rfl, hg2, ⟨e0, e1, e2⟩, hI2⟩ := HI.out j y hy
          replace e0 := (HBw.out.cell (p := ⟨g2, o2 + j * 3, none⟩) hg2).trans e0
          replace e1 := (HBw.out.cell (p := ⟨g2, o2 + j * 3 + 1, none⟩) hg2).trans e1
          replace e2 := (HBw.out.cell (p := ⟨g2, o2 + j * 3 + 2, none⟩) hg2).trans e2
          have hg2' : g2 < wr.heap.size := by have := HBw.out.size; omega
          have HI2 := Lib.hid (hI2.below HBw.out (Nat.le_refl _))
          have HY := Lib.hid hy
          have hvy := hvl y (List.mem_of_getElem? hy)
          have i2 : (j : Int) < (x.keys.length : Int) := by omega
          clear hI2 hy
          go_wp2_with fail
          have hKB := C3.new wr (.string y.key) (.slice C2 y.vals.length q2) (.int .i64 y.at_) 71
          have hX4 := X4.out.alloc (.cells #[.string y.key, .slice C2 y.vals.length q2, .int .i64 y.at_] 71)
          have HIk := Lib.hid (HI2.out.below ((Below.refl wr.heap.size wr).alloc (Nat.le_refl _) (.cells #[.string y.key, .slice C2 y.vals.length q2, .int .i64 y.at_] 71)) (Nat.le_refl _))
          have HOk := Lib.hid (HO.out.below ((Below.refl wr.heap.size wr).alloc (Nat.le_refl _) (.cells #[.string y.key, .slice C2 y.vals.length q2, .int .i64 y.at_] 71)) (Nat.le_refl _))
          obtain ⟨KB, hKe⟩ : ∃ KB, KB = wr.heap.size := ⟨_, rfl⟩
          rw [← hKe] at hKB ⊢
          have hKX : XB < KB := by omega
          have HKe := Lib.hid hKe
          have hbk : Below XB wo (wr.alloc (.cells #[.string y.key, .slice C2 y.vals.length q2, .int .i64 y.at_] 71)) := HBi.out.alloc (by have := X4.out.lt; omega) _
          have hsk : (wr.alloc (.cells #[.string y.key, .slice C2 y.vals.length q2, .int .i64 y.at_] 71)).heap.size = KB + 1 := by simp [hKe]
          clear hKe y0 y1 y2 y3 yz yl e0 e1 e2 c0 c1 c2 c3
          obtain ⟨wk, hwk⟩ : ∃ wk, wk = wr.alloc (.cells #[.string y.key, .slice C2 y.vals.length q2, .int .i64 y.at_] 71) := ⟨_, rfl⟩
          rw [← hwk] at hKB hX4 HIk HOk hbk hsk ⊢
          clear hwk
          have hS0 : C4 wk.drew XB (.string x.word) (.string x.name) (.slice B2 ks.length d2) (.int .i64 x.at_) ∧ C3 wk.drew KB (.string y.key) (.slice C2 y.vals.length q2) (.int .i64 y.at_) := ⟨hX4.drew, hKB.drew⟩
          refine wp_region_Z (fun W => C4 W XB (.string x.word) (.string x.name) (.slice B2 ks.length d2) (.int .i64 x.at_) ∧ C3 W KB (.string y.key) (.slice C2 y.vals.length q2) (.int .i64 y.at_)) 11 [11, 12, 13] (by kernel_rfl) (by kernel_rfl) ?_
          (apply wpZ_step (i := 0) rfl (by kernel_rfl) rfl; (case h => (intro W hW; obtain ⟨⟨s0, s1, s2, s3, sz, sl⟩, ⟨r0, r1, r2, rz, rl⟩⟩ := hW; go_simp; first | done | exact rfl)); (case hQ => (exact fun _ _ _ h => h)); (case hS => assumption); intro K hK; go_simp; refine hK _ _ ?_; clear hK K)
          (apply wpZ_step (i := 1) rfl (by kernel_rfl) rfl; (case h => (intro W hW; obtain ⟨⟨s0, s1, s2, s3, sz, sl⟩, ⟨r0, r1, r2, rz, rl⟩⟩ := hW; go_simp; first | done | exact rfl)); (case hQ => (exact fun _ _ _ h => h)); (case hS => assumption); intro K hK; go_simp; refine hK _ _ ?_; clear hK K)
          (apply wpZ_step (i := 2) rfl (by kernel_rfl) rfl; (case h => (intro W hW; obtain ⟨⟨s0, s1, s2, s3, sz, sl⟩, ⟨r0, r1, r2, rz, rl⟩⟩ := hW; go_simp; first | done | exact rfl)); (case hQ => (exact fun _ _ _ h => h)); (case hS => assumption); intro K hK; go_simp; refine hK _ _ ?_; clear hK K)
          (apply wpZ_step (i := 3) rfl (by kernel_rfl) rfl; (case h => (intro W hW; obtain ⟨⟨s0, s1, s2, s3, sz, sl⟩, ⟨r0, r1, r2, rz, rl⟩⟩ := hW; go_simp; first | done | exact rfl)); (case hQ => (exact fun _ _ _ h => h)); (case hS => assumption); intro K hK; go_simp; refine hK _ _ ?_; clear hK K)
          (apply wpZ_step (i := 4) rfl (by kernel_rfl) rfl; (case h => (intro W hW; obtain ⟨⟨s0, s1, s2, s3, sz, sl⟩, ⟨r0, r1, r2, rz, rl⟩⟩ := hW; go_simp; first | done | exact rfl)); (case hQ => (exact fun _ _ _ h => h)); (case hS => assumption); intro K hK; go_simp; refine hK _ _ ?_; clear hK K)
          (apply wpZ_step (i := 5) rfl (by kernel_rfl) rfl; (case h => (intro W hW; obtain ⟨⟨s0, s1, s2, s3, sz, sl⟩, ⟨r0, r1, r2, rz, rl⟩⟩ := hW; go_simp; first | done | exact rfl)); (case hQ => (exact fun _ _ _ h => h)); (case hS => assumption); intro K hK; go_simp; refine hK _ _ ?_; clear hK K)
          (apply wpZ_step (i := 7) rfl (by kernel_rfl) rfl; (case h => (intro W hW; obtain ⟨⟨s0, s1, s2, s3, sz, sl⟩, ⟨r0, r1, r2, rz, rl⟩⟩ := hW; go_simp; first | done | exact rfl)); (case hQ => (exact fun _ _ _ h => h)); (case hS => assumption); intro K hK; go_simp; refine hK _ _ ?_; clear hK K)
          (apply wpZ_step (i := 8) rfl (by kernel_rfl) rfl; (case h => (intro W hW; obtain ⟨⟨s0, s1, s2, s3, sz, sl⟩, ⟨r0, r1, r2, rz, rl⟩⟩ := hW; go_simp; first | done | exact rfl)); (case hQ => (exact fun _ _ _ h => h)); (case hS => assumption); intro K hK; go_simp; refine hK _ _ ?_; clear hK K)
          refine wpZ_one (i := 6) rfl (by kernel_rfl) rfl (fun K hK => ?_)
          refine up_append_ints _ _ rfl rfl C2 q2 y.vals rfl (HIk.out.below ((Below.refl wk.heap.size wk).drew) (Nat.le_refl _)) hvy ?_
          intro A7 c7 w7 ho7 hg7
          have hn7 : ∀ k : Nat, (none : Option Nat) = some k → KB + 1 ≤ k := fun k hk => by cases hk
          have h47 := hS0.1.grown hg7 hn7 (by omega)
          have h37 := hS0.2.grown hg7 hn7 (by omega)
          have hz7 := hg7.size
          have hb7 : Below XB wo w7 := (hbk.drew).grown hg7 (by show XB ≤ wk.heap.size; omega) (fun k hk => by cases hk)
          have ho7' : OwnI w7 (XB + 1) A7 c7 y.vals := ho7.weaker (by show XB + 1 ≤ wk.heap.size; omega)
          have HO7 := Lib.hid (HOk.out.below (below_of_none hg7) (Nat.le_refl _))
          have hs7 : KB + 1 ≤ w7.heap.size := by have : wk.drew.heap.size = wk.heap.size := rfl; omega
          refine ⟨⟨h47, h37⟩, hK _ _ ?_⟩
          clear hK K
          (try go_simp)
          have hS1 := And.intro h47 h37
          (apply wpZ_step (i := 9) rfl (by kernel_rfl) rfl; (case h => (intro W hW; obtain ⟨⟨s0, s1, s2, s3, sz, sl⟩, ⟨r0, r1, r2, rz, rl⟩⟩ := hW; go_simp; first | done | exact rfl)); (case hQ => (exact fun _ _ _ h => h)); (case hS => assumption); intro K hK; go_simp; refine hK _ _ ?_; clear hK K)
          refine wpZ_one (i := 10) rfl (by kernel_rfl) rfl (fun K hK => ?_)
          (try go_simp)
          refine ⟨⟨h47.alloc _, h37.alloc _⟩, hK _ _ ?_⟩
          clear hK K
          refine wpZ_nil (by kernel_rfl) ?_
          (try simp only [List.filterMap_cons, List.filterMap_nil, List.getElem?_cons_succ, List.getElem?_cons_zero])
          have hbe := (Below.refl w7.heap.size w7).alloc (Nat.le_refl _) (.cells #[.string y.key, .slice A7 y.vals.length c7, .int .i64 y.at_] 72)
          obtain ⟨xs, hxs, hmore⟩ := (HO7.out.below hbe (Nat.le_refl _)).more (by decide)
          have hfr := own_fresh hxs
          have hkn : ks.length ≤ 1000000 := by rw [HKs.out, List.length_take]; omega
          refine wpList_append_one rfl _ _ 41 72 _ 3 48 rfl Tryd.underlying41 rkeyInfo rfl (by decide) (by decide) (XB + 1) (.slice B2 ks.length d2) ks.length xs (cellsOfK y A7 c7) rfl hxs w7.heap.size 1 rfl rfl (C3.new w7 _ _ _ _).cells (by simp [cellsOfK, Value.oneCell']) hkn (by simp; omega) ?_
          intro v8 w8 ho8 hg8 _
          obtain ⟨B8, d8, rfl, hk8⟩ := hmore y A7 c7 v8 w8 (own_below ho7' hbe (Nat.le_refl _)) ho8 hg8
          have q4 := (h47.alloc (.cells #[.string y.key, .slice A7 y.vals.length c7, .int .i64 y.at_] 72)).grown hg8 hfr (by omega)
          have hb8 := (hb7.alloc (by omega) (.cells #[.string y.key, .slice A7 y.vals.length c7, .int .i64 y.at_] 72)).grown hg8 (by simp; omega) (fun k hk => by have := hfr k hk; omega)
          have HK8 := Lib.hid hk8
          have Q4 := Lib.hid q4
          have HKs' : Hid (ks ++ [y] = x.keys.take (j + 1)) := Lib.hid (by rw [take_snoc HY.out, HKs.out])
          obtain ⟨s0, s1, s2, s3, sz, sl⟩ := q4
          clear hxs hmore hfr hbe h47 h37 hS0 hS1 hk8 ho8 hg8 ho7 ho7' hg7
          (try go_simp)
          go_wp2_with fail
          go_roundw
          case rel => exact ⟨j + 1, ks ++ [y], B8, d8, by omega, by go_num, HKs', hb8.setCell (p := ⟨XB, 2, none⟩) (Nat.le_refl _) _, by simpa using Q4.out.set2 _, Lib.hid (HK8.out.low (by show XB < XB + 1; omega) _)⟩
          case measure => simp [intOf]; omega
        · obtain rfl : j = x.keys.length := by omega
          have hks := HKs.out
          rw [List.take_length] at hks
          subst hks
          have hxo : XsOwn wr w.heap.size 43 72 B d acc := HX.out.below HBi.out (by have := HXe.out; omega)
          have hbe := (Below.refl wr.heap.size wr).alloc (Nat.le_refl _) (.cells #[.string x.word, .string x.name, .slice B2 x.keys.length d2, .int .i64 x.at_] 43)
          obtain ⟨xs, hxs, hmore⟩ := (hxo.below hbe (Nat.le_refl _)).more (by decide) (by decide)
          have HXS := Lib.hid hxs
          have HM := Lib.hid hmore
          have hfr := own_fresh hxs
          have HFR := Lib.hid hfr
          have HKk := Lib.hid ((HO.out.weaker (by omega : w.heap.size ≤ XB + 1)).below hbe (Nat.le_refl _))
          have han : acc.length ≤ 1000000 := by rw [HAC.out, List.length_take]; omega
          have hzw := HBw.out.size
          clear hxs hmore hfr hbe hxo
          go_wp2_with (at_builtin; go_must (refine wpList_append_one rfl _ _ 27 43 _ 4 64 rfl Tryd.underlying27 ritemInfo rfl (by decide) (by decide) w.heap.size (.slice B acc.length d) acc.length xs (cellsOfX x B2 d2) rfl HXS.out wr.heap.size 1 rfl rfl (C4.new wr _ _ _ _ _).cells (by simp [cellsOfX, Value.oneCell']) han (by simp; omega) ?_))
          intro v8 w8 ho8 hg8 _
          obtain ⟨B8, d8, rfl, hx8⟩ := HM.out x B2 d2 v8 w8 HKk.out ho8 hg8
          have hb8 := (HBw.out.alloc hzw (.cells #[.string x.word, .string x.name, .slice B2 x.keys.length d2, .int .i64 x.at_] 43)).grown hg8 (by simp; omega) HFR.out
          have HX8 := Lib.hid hx8
          clear hx8 ho8 hg8
          go_wp2_with fail
          go_roundw
          case rel => exact ⟨k + 1, acc ++ [x], B8, d8, by omega, by simp, by go_num, Lib.hid (by rw [take_snoc HXx.out, HAC.out]), hb8, HX8⟩
          case measure => simp [intOf]; omega
    · obtain rfl : k = l.length := by omega
      go_wp2_with fail
      go_ret
      have hac := HAC.out
      rw [List.take_length] at hac
      subst hac
      exact ⟨hb_wr, B, d, rfl, HX.out⟩
end Go.Proofs.YteondblmcooklaaDoor
