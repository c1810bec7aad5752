/- Merged texts: MpDw FrM MpLw MpMw SrcL LnEw DrawT. -/
import Derived.Test.YtbpcjpiaimdpnaaGreatDoorCk8
import Derived.Deep.Cut
import Derived.BigRegion
set_option linter.unusedSimpArgs false
set_option linter.unusedVariables false
namespace Go.Proofs.YtbpcjpiaimdpnaaGreatDoor
open Go Go.RowKit
set_option linter.unusedVariables false
def RowIn {α : Type} (f : α → List Value) (w : World) (lo hi : Nat) (A : Option Addr) (l : List α) : Prop := l = [] ∨ ∃ q, A = some ⟨q, 0, none⟩ ∧ lo ≤ q ∧ q < hi ∧ BoxAt w q (l.flatMap f)
structure OutOf (lo hi : Nat) (w w' : World) : Prop where
  os : w'.os = w.os
  tape : w'.tape = w.tape
  output : w'.output = w.output
  size : w.heap.size ≤ w'.heap.size
  block : ∀ k, k < w.heap.size → ¬ (lo ≤ k ∧ k < hi) → w'.heap[k]? = w.heap[k]?
theorem OutOf.refl (lo hi : Nat) (w : World) : OutOf lo hi w w := ⟨rfl, rfl, rfl, Nat.le_refl _, fun _ _ _ => rfl⟩
theorem OutOf.trans {lo hi : Nat} {a b c : World} (h : OutOf lo hi a b) (g : OutOf lo hi b c) : OutOf lo hi a c := ⟨g.os.trans h.os, g.tape.trans h.tape, g.output.trans h.output, Nat.le_trans h.size g.size, fun k h1 h2 => (g.block k (Nat.lt_of_lt_of_le h1 h.size) h2).trans (h.block k h1 h2)⟩
theorem OutOf.of_but {lo hi q : Nat} {a b : World} (h : But q a b) (h1 : lo ≤ q) (h2 : q < hi) : OutOf lo hi a b := ⟨h.os, h.tape, h.output, h.size, fun k hk hn => h.block k hk (by omega)⟩
theorem OutOf.of_below {lo hi : Nat} {a b : World} (h : Below a.heap.size a b) : OutOf lo hi a b := ⟨h.os, h.tape, h.output, h.size, fun k hk _ => h.block k hk⟩
theorem OutOf.toBelow {lo hi B : Nat} {a b : World} (h : OutOf lo hi a b) (h1 : B ≤ lo) (h2 : B ≤ a.heap.size) : Below B a b := ⟨h.os, h.tape, h.output, h.size, fun k hk => h.block k (by omega) (by omega)⟩
theorem OutOf.box {lo hi b : Nat} {w w' : World} {cs : List Value} (h : OutOf lo hi w w') (hb : BoxAt w b cs) (hn : b < lo ∨ hi ≤ b) : BoxAt w' b cs := hb.block h.size (h.block b hb.lt (by omega))
section
variable {α : Type} {n : Nat} {f : α → List Value} {w w1 : World} {A : Option Addr} {l : List α} {lo hi : Nat}
theorem RowIn.rows (hf : ∀ x, (f x).length = n) (h : RowIn f w lo hi A l) : RowsAt n f w A l := fun k x hx => by
 rcases h with rfl | ⟨q, rfl, _, _, hb⟩
 · simp at hx
 · exact ⟨q, 0, rfl, hb.lt, fun j u hu => by rw [Nat.zero_add]; exact hb.c _ _ (flat_get f n hf l k j x u hx hu)⟩
theorem RowIn.out {lo' hi' : Nat} (h : RowIn f w lo hi A l) (hb : OutOf lo' hi' w w1) (hn : hi ≤ lo' ∨ hi' ≤ lo) : RowIn f w1 lo hi A l := by
 rcases h with rfl | ⟨q, hA, h1, h2, hx⟩
 · exact .inl rfl
 · exact .inr ⟨q, hA, h1, h2, hb.box hx (by omega)⟩
theorem RowIn.but {q : Nat} (h : RowIn f w lo hi A l) (hb : But q w w1) (hn : q < lo ∨ hi ≤ q) : RowIn f w1 lo hi A l := h.out (OutOf.of_but (lo := q) (hi := q + 1) hb (Nat.le_refl _) (by omega)) (by omega)
theorem RowIn.of_own {B : Nat} (h : RowOwn f w B A l) : RowIn f w B w.heap.size A l := by
 rcases h with rfl | ⟨q, hA, hq, hx⟩
 · exact .inl rfl
 · exact .inr ⟨q, hA, hq, hx.lt, hx⟩
end
structure TbSep (w : World) (b : Nat → Nat) (t : Tb) (a : TbA) : Prop where
  tr : RowIn (fun x : Int => [Value.int .i64 x]) w (b 0) (b 1) a.tr t.tr
  ws : RowIn Wl.cells w (b 1) (b 2) a.ws t.ws
  ars : RowIn Ac.cells w (b 2) (b 3) a.ars t.ars
  ps : RowIn Ps.cells w (b 3) (b 4) a.ps t.ps
  fs : RowIn Fl.cells w (b 4) (b 5) a.fs t.fs
  zs : RowIn Zn.cells w (b 5) (b 6) a.zs t.zs
  ss : RowIn Sc.cells w (b 6) (b 7) a.ss t.ss
  las : RowIn La.cells w (b 7) (b 8) a.las t.las
  rs : RowIn Ra.cells w (b 8) (b 9) a.rs t.rs
  ds : RowIn Dr.cells w (b 9) (b 10) a.ds t.ds
  lns : RowIn Ln.cells w (b 10) (b 11) a.lns t.lns
  ord : b 0 ≤ b 1 ∧ b 1 ≤ b 2 ∧ b 2 ≤ b 3 ∧ b 3 ≤ b 4 ∧ b 4 ≤ b 5 ∧ b 5 ≤ b 6 ∧ b 6 ≤ b 7 ∧ b 7 ≤ b 8 ∧ b 8 ≤ b 9 ∧ b 9 ≤ b 10 ∧ b 10 ≤ b 11
theorem TbSep.at {w : World} {b : Nat → Nat} {t : Tb} {a : TbA} (h : TbSep w b t a) : TbAt w t a := ⟨h.tr.rows (fun _ => rfl), h.ws.rows (fun _ => rfl), h.ars.rows (fun _ => rfl), h.ps.rows (fun _ => rfl), h.fs.rows (fun _ => rfl), h.zs.rows (fun _ => rfl), h.ss.rows (fun _ => rfl), h.las.rows (fun _ => rfl), h.rs.rows (fun _ => rfl), h.ds.rows (fun _ => rfl), h.lns.rows (fun _ => rfl)⟩
theorem TbSep.but {w w1 : World} {b : Nat → Nat} {q : Nat} {t : Tb} {a : TbA} (h : TbSep w b t a) (hb : But q w w1) (hq : q < b 0) : TbSep w1 b t a := by
 have o := h.ord
 exact ⟨h.tr.but hb (by omega), h.ws.but hb (by omega), h.ars.but hb (by omega), h.ps.but hb (by omega), h.fs.but hb (by omega), h.zs.but hb (by omega), h.ss.but hb (by omega), h.las.but hb (by omega), h.rs.but hb (by omega), h.ds.but hb (by omega), h.lns.but hb (by omega), o⟩
structure Tb.mild (t : Tb) : Prop where
  ws : ∀ x ∈ t.ws, x.mild
  ars : ∀ x ∈ t.ars, x.mild
  ps : ∀ x ∈ t.ps, x.mild
  fs : ∀ x ∈ t.fs, x.mild
  zs : ∀ x ∈ t.zs, x.mild
  ss : ∀ x ∈ t.ss, x.mild
  las : ∀ x ∈ t.las, x.mild
  rs : ∀ x ∈ t.rs, x.mild
  ds : ∀ x ∈ t.ds, x.mild
  lns : ∀ x ∈ t.lns, x.mild
def MvOut (t : Tb) (w : World) (e : Ending) (w' : World) : Prop := ∃ a, e = .returned (t.v a) ∧ Below w.heap.size w w' ∧ (∃ b, w.heap.size < b 0 ∧ TbSep w' b t a) ∧ TbCap t a
theorem but_setCells (b o : Nat) (vs : List Value) (w : World) : But b w (w.setCells b o vs) := by
 have h := below_setCells (Nat.le_refl b) vs o (Below.refl b w)
 exact ⟨h.os, h.tape, h.output, h.size, fun k _ hn => heap_setCells hn vs o w⟩
theorem bx_new {n : Nat} (W : World) (cs : List Value) (e : TypeId) (h : W.heap.size = n) : BoxAt (W.alloc (.cells cs.toArray e)) n cs := h ▸ BoxAt.new W cs e
theorem cat1 (a b : Value) : (#[a] ++ #[b] : Array Value) = #[a, b] := rfl
theorem ch_ws (w0 : World) (g : Nat) (lb : Array Value) (F G : Int → Int) (hT : ToSpec w0 g lb F G) (eg : ∀ args w, (callFunc g args).run Tryz.prog w = .ok (.enter g args) w) (V : World) (tb : Nat) (hV : Below w0.heap.size w0 V) (hto : BoxAt V tb [.func (.func g) #[] lb]) : ChSpec Wl.cells V 127 #[.pointer (some ⟨tb, 0, none⟩)] Wl.mild (Wl.mv F G) := by
 intro q pre post x W hq hW hx hm
 rw [cat1]
 exact (plc_ws w0 g lb F G hT eg tb q pre post x W (Nat.le_trans hV.size hq) (by have := hto.lt; omega) (hV.trans (hW.mono hV.size)) (hto.below hW hto.lt) hx hm).mono fun e w' h => ⟨h.1, h.2.1.toBelow hq hW.size, h.2.2⟩
theorem eg_ws : ∀ args w, (callFunc 127 args).run Tryz.prog w = .ok (.enter 127 args) w := by
 intro args w
 go_simp
set_option maxRecDepth 100000 in
set_option maxHeartbeats 8000000 in
theorem places_any (t : Tb) (a : TbA) (w : World) (g : Nat) (lb : Array Value) (F G : Int → Int) (hT : ToSpec w g lb F G) (eg : ∀ args w, (callFunc g args).run Tryz.prog w = .ok (.enter g args) w) (hA : TbAt w t a) (hok : a.ok) (hle : t.le 10000) (hm : t.mild) (h9 : t.only9) :
  Calls Tryz.prog 72 #[t.v a, .func (.func g) #[] lb] w (MvOut (t.mv F G) w) := by
 have HA := hQ0 hA
 have HL := hQ0 hle
 have HM := hQ0 hm
 have HT := hQ0 hT
 have HK := hQ0 hok
 have H9 := hQ0 h9
 have HEG := hQ0 eg
 clear hA hle hm hT hok eg h9
 obtain ⟨rad, bal, rst, gx, gy, drg, shf, tr, ws, ars, ps, fs, zs, ss, las, rs, ds, lns⟩ := t
 obtain ⟨Atr, ctr, Aws, cws, Aars, cars, Aps, cps, Afs, cfs, Azs, czs, Ass, css, Alas, clas, Ars, crs, Ads, cds, Alns, clns⟩ := a
 unfold Tb.v
 simp only
 obtain ⟨TC, hTC⟩ : ∃ z : List Value, z = [.int .i64 rad, .int .i64 bal, .int .i64 rst, .int .i64 gx, .int .i64 gy, .int .i64 drg, .int .i64 shf, .slice Atr tr.length ctr, .slice Aws ws.length cws, .slice Aars ars.length cars, .slice Aps ps.length cps, .slice Afs fs.length cfs, .slice Azs zs.length czs, .slice Ass ss.length css, .slice Alas las.length clas, .slice Ars rs.length crs, .slice Ads ds.length cds, .slice Alns lns.length clns] := ⟨_, rfl⟩
 have HTC := hQ0 hTC
 clear hTC
 go_enter Tryz.func72, Tryz.ntmps72; (try simp only [List.append_eq, List.cons_append, List.nil_append])
 go_upto_region 1 with (fail)
 (refine pin_eqT (fun V0 hV => ?_))
 have HB0 : Hid (Below w.heap.size w V0) := hQ0 (by rw [hV]; ((with_reducible (repeat (first | exact bR _ _ | apply bS | apply bA | apply bD | refine bT ?_ (by assumption) ?_ | refine bO (by assumption) ?_ ?_))) <;> (first | omega | (simp <;> omega))))
 have HX0 : Hid (BoxAt V0 w.heap.size TC) := hQ0 (by rw [hV, HTC.out]; exact ((BoxAt.new _ _ _).alloc _).alloc _)
 have HO0 : Hid (BoxAt V0 (w.heap.size + 1) [.func (.func g) #[] lb]) := hQ0 (by rw [hV]; exact (by simpa using (BoxAt.new (w.alloc _) [.func (.func g) #[] lb] _).alloc _))
 have HR0 : Hid (BoxAt V0 (w.heap.size + 1 + 1) (tb0.cells a0)) := hQ0 (by rw [hV]; exact bx_new _ (tb0.cells a0) 36 (by simp))
 clear hV
 obtain ⟨ob, hob⟩ : ∃ z, z = w.heap.size + 1 := ⟨_, rfl⟩
 obtain ⟨sb, hsb⟩ : ∃ z, z = w.heap.size + 1 + 1 := ⟨_, rfl⟩
 rw [← hsb] at HR0 ⊢
 rw [← hob] at HO0 ⊢
 have HOB := hQ0 hob
 have HSB := hQ0 hsb
 clear hob hsb
 as_aux_lemma =>
  have n0 := HX0.out.c 7 (.slice Atr tr.length ctr) (by rw [HTC.out]; rfl)
  have K0 := hQ0 (clone_tr tr Atr ctr V0 (HA.out.tr.below HB0.out (Nat.le_refl _)) HK.out.tr (by have h := HL.out.tr; simp only at h; omega))
  go_upto_region 2 with (go_at_call 125; refine K0.out.mono ?_; rintro e u0 ⟨Btr, d0, rfl, l0, k0, r0, b0⟩; have x0 := HX0.out.below b0 HX0.out.lt; have y0 := x0.c 7 _ (by rw [HTC.out]; rfl); have z0 := x0.fz; have t0 := x0.lt)
  (refine pin_eqT (fun V1 hV => ?_))
  have HX1 : Hid (BoxAt V1 w.heap.size (List.set (TC) 7 (.slice Btr tr.length d0))) := hQ0 (by rw [hV]; exact x0.set (j := 7) _ (by rw [HTC.out]; rfl))
  have hB' : Below w.heap.size w u0 := HB0.out.trans (b0.mono HB0.out.size)
  have HB1 : Hid (Below w.heap.size w V1) := hQ0 (by rw [hV]; exact hB'.setCell (Nat.le_refl _) _)
  have HN0 : Hid (But w.heap.size V0 V1) := hQ0 (by rw [hV]; exact (But.of_below b0 (Nat.le_refl _)).set _ (.inl rfl))
  have hbt : But w.heap.size u0 V1 := by rw [hV]; exact (But.refl _ _).set _ (.inl rfl)
  have HR_tr : Hid (RowIn (fun x : Int => [Value.int .i64 x]) V1 V0.heap.size V1.heap.size Btr tr) := hQ0 (by have h := (RowIn.of_own r0).but hbt (.inl HX0.out.lt); rw [show V1.heap.size = u0.heap.size from by rw [hV]; simp]; exact h)
  have HO1 : Hid (BoxAt V1 ob [.func (.func g) #[] lb]) := hQ0 (HO0.out.block HN0.out.size (HN0.out.block ob HO0.out.lt (by have := HOB.out; omega)))
  have HR1 : Hid (BoxAt V1 sb (tb0.cells a0)) := hQ0 (HR0.out.block HN0.out.size (HN0.out.block sb HR0.out.lt (by have := HSB.out; omega)))
  have HC_tr := hQ0 (And.intro l0 k0)
  have LT0 := HX0.out.lt
  clear n0 K0 x0 y0 z0 t0 hB' hbt hV r0 b0 HX0 HB0 HO0 l0 k0
  as_aux_lemma =>
   have n1 := HX1.out.c 8 (.slice Aws ws.length cws) (by rw [HTC.out]; rfl)
   have K1 := hQ0 (mapped_ws ws Aws cws 127 #[.pointer (some ⟨ob, 0, none⟩)] (Wl.mv F G) Wl.mild V1 eg_ws (HA.out.ws.below HB1.out (Nat.le_refl _)) HK.out.ws (by have h := HL.out.ws; simp only at h; omega) HM.out.ws (ch_ws w g lb F G HT.out HEG.out V1 ob HB1.out HO1.out))
   go_upto_region 3 with (go_at_call 126; refine K1.out.mono ?_; rintro e u1 ⟨Bws, d1, rfl, l1, k1, r1, b1⟩; have x1 := HX1.out.below b1 HX1.out.lt; have y1 := x1.c 8 _ (by rw [HTC.out]; rfl); have z1 := x1.fz; have t1 := x1.lt)
   (refine pin_eqT (fun V2 hV => ?_))
   have HX2 : Hid (BoxAt V2 w.heap.size (List.set (List.set (TC) 7 (.slice Btr tr.length d0)) 8 (.slice Bws ws.length d1))) := hQ0 (by rw [hV]; exact x1.set (j := 8) _ (by rw [HTC.out]; rfl))
   have hB' : Below w.heap.size w u1 := HB1.out.trans (b1.mono HB1.out.size)
   have HB2 : Hid (Below w.heap.size w V2) := hQ0 (by rw [hV]; exact hB'.setCell (Nat.le_refl _) _)
   have HN1 : Hid (But w.heap.size V1 V2) := hQ0 (by rw [hV]; exact (But.of_below b1 (Nat.le_refl _)).set _ (.inl rfl))
   have hbt : But w.heap.size u1 V2 := by rw [hV]; exact (But.refl _ _).set _ (.inl rfl)
   have HR_ws : Hid (RowIn Wl.cells V2 V1.heap.size V2.heap.size Bws (ws.map (Wl.mv F G))) := hQ0 (by have h := (RowIn.of_own r1).but hbt (.inl HX1.out.lt); rw [show V2.heap.size = u1.heap.size from by rw [hV]; simp]; exact h)
   have HO2 : Hid (BoxAt V2 ob [.func (.func g) #[] lb]) := hQ0 (HO1.out.block HN1.out.size (HN1.out.block ob HO1.out.lt (by have := HOB.out; omega)))
   have HR2 : Hid (BoxAt V2 sb (tb0.cells a0)) := hQ0 (HR1.out.block HN1.out.size (HN1.out.block sb HR1.out.lt (by have := HSB.out; omega)))
   have HC_ws := hQ0 (And.intro l1 k1)
   have LT1 := HX1.out.lt
   clear n1 K1 x1 y1 z1 t1 hB' hbt hV r1 b1 HX1 HB1 HO1 l1 k1
   as_aux_lemma =>
    have n2 := HX2.out.c 9 (.slice Aars ars.length cars) (by rw [HTC.out]; rfl)
    have K2 := hQ0 (mapped_ars ars Aars cars 129 #[.pointer (some ⟨ob, 0, none⟩)] (Ac.mv F G) V2 (HA.out.ars.below HB2.out (Nat.le_refl _)) HK.out.ars H9.out.ars)
    go_upto_region 4 with (go_at_call 128; refine K2.out.mono ?_; rintro e u2 ⟨Bars, d2, rfl, l2, k2, r2, b2⟩; have x2 := HX2.out.below b2 HX2.out.lt; have y2 := x2.c 9 _ (by rw [HTC.out]; rfl); have z2 := x2.fz; have t2 := x2.lt)
    (refine pin_eqT (fun V3 hV => ?_))
    have HX3 : Hid (BoxAt V3 w.heap.size (List.set (List.set (List.set (TC) 7 (.slice Btr tr.length d0)) 8 (.slice Bws ws.length d1)) 9 (.slice Bars ars.length d2))) := hQ0 (by rw [hV]; exact x2.set (j := 9) _ (by rw [HTC.out]; rfl))
    have hB' : Below w.heap.size w u2 := HB2.out.trans (b2.mono HB2.out.size)
    have HB3 : Hid (Below w.heap.size w V3) := hQ0 (by rw [hV]; exact hB'.setCell (Nat.le_refl _) _)
    have HN2 : Hid (But w.heap.size V2 V3) := hQ0 (by rw [hV]; exact (But.of_below b2 (Nat.le_refl _)).set _ (.inl rfl))
    have hbt : But w.heap.size u2 V3 := by rw [hV]; exact (But.refl _ _).set _ (.inl rfl)
    have HR_ars : Hid (RowIn Ac.cells V3 V2.heap.size V3.heap.size Bars (ars.map (Ac.mv F G))) := hQ0 (by have h := (RowIn.of_own r2).but hbt (.inl HX2.out.lt); rw [show V3.heap.size = u2.heap.size from by rw [hV]; simp]; exact h)
    have HO3 : Hid (BoxAt V3 ob [.func (.func g) #[] lb]) := hQ0 (HO2.out.block HN2.out.size (HN2.out.block ob HO2.out.lt (by have := HOB.out; omega)))
    have HR3 : Hid (BoxAt V3 sb (tb0.cells a0)) := hQ0 (HR2.out.block HN2.out.size (HN2.out.block sb HR2.out.lt (by have := HSB.out; omega)))
    have HC_ars := hQ0 (And.intro l2 k2)
    have LT2 := HX2.out.lt
    clear n2 K2 x2 y2 z2 t2 hB' hbt hV r2 b2 HX2 HB2 HO2 l2 k2
    as_aux_lemma =>
     have n3 := HX3.out.c 10 (.slice Aps ps.length cps) (by rw [HTC.out]; rfl)
     have K3 := hQ0 (mapped_ps ps Aps cps 131 #[.pointer (some ⟨ob, 0, none⟩)] (Ps.mv F G) V3 (HA.out.ps.below HB3.out (Nat.le_refl _)) HK.out.ps H9.out.ps)
     go_upto_region 5 with (go_at_call 130; refine K3.out.mono ?_; rintro e u3 ⟨Bps, d3, rfl, l3, k3, r3, b3⟩; have x3 := HX3.out.below b3 HX3.out.lt; have y3 := x3.c 10 _ (by rw [HTC.out]; rfl); have z3 := x3.fz; have t3 := x3.lt)
     (refine pin_eqT (fun V4 hV => ?_))
     have HX4 : Hid (BoxAt V4 w.heap.size (List.set (List.set (List.set (List.set (TC) 7 (.slice Btr tr.length d0)) 8 (.slice Bws ws.length d1)) 9 (.slice Bars ars.length d2)) 10 (.slice Bps ps.length d3))) := hQ0 (by rw [hV]; exact x3.set (j := 10) _ (by rw [HTC.out]; rfl))
     have hB' : Below w.heap.size w u3 := HB3.out.trans (b3.mono HB3.out.size)
     have HB4 : Hid (Below w.heap.size w V4) := hQ0 (by rw [hV]; exact hB'.setCell (Nat.le_refl _) _)
     have HN3 : Hid (But w.heap.size V3 V4) := hQ0 (by rw [hV]; exact (But.of_below b3 (Nat.le_refl _)).set _ (.inl rfl))
     have hbt : But w.heap.size u3 V4 := by rw [hV]; exact (But.refl _ _).set _ (.inl rfl)
     have HR_ps : Hid (RowIn Ps.cells V4 V3.heap.size V4.heap.size Bps (ps.map (Ps.mv F G))) := hQ0 (by have h := (RowIn.of_own r3).but hbt (.inl HX3.out.lt); rw [show V4.heap.size = u3.heap.size from by rw [hV]; simp]; exact h)
     have HO4 : Hid (BoxAt V4 ob [.func (.func g) #[] lb]) := hQ0 (HO3.out.block HN3.out.size (HN3.out.block ob HO3.out.lt (by have := HOB.out; omega)))
     have HR4 : Hid (BoxAt V4 sb (tb0.cells a0)) := hQ0 (HR3.out.block HN3.out.size (HN3.out.block sb HR3.out.lt (by have := HSB.out; omega)))
     have HC_ps := hQ0 (And.intro l3 k3)
     have LT3 := HX3.out.lt
     clear n3 K3 x3 y3 z3 t3 hB' hbt hV r3 b3 HX3 HB3 HO3 l3 k3
     as_aux_lemma =>
      have n4 := HX4.out.c 11 (.slice Afs fs.length cfs) (by rw [HTC.out]; rfl)
      have K4 := hQ0 (mapped_fs fs Afs cfs 133 #[.pointer (some ⟨ob, 0, none⟩)] (Fl.mv F G) V4 (HA.out.fs.below HB4.out (Nat.le_refl _)) HK.out.fs H9.out.fs)
      go_upto_region 6 with (go_at_call 132; refine K4.out.mono ?_; rintro e u4 ⟨Bfs, d4, rfl, l4, k4, r4, b4⟩; have x4 := HX4.out.below b4 HX4.out.lt; have y4 := x4.c 11 _ (by rw [HTC.out]; rfl); have z4 := x4.fz; have t4 := x4.lt)
      (refine pin_eqT (fun V5 hV => ?_))
      have HX5 : Hid (BoxAt V5 w.heap.size (List.set (List.set (List.set (List.set (List.set (TC) 7 (.slice Btr tr.length d0)) 8 (.slice Bws ws.length d1)) 9 (.slice Bars ars.length d2)) 10 (.slice Bps ps.length d3)) 11 (.slice Bfs fs.length d4))) := hQ0 (by rw [hV]; exact x4.set (j := 11) _ (by rw [HTC.out]; rfl))
      have hB' : Below w.heap.size w u4 := HB4.out.trans (b4.mono HB4.out.size)
      have HB5 : Hid (Below w.heap.size w V5) := hQ0 (by rw [hV]; exact hB'.setCell (Nat.le_refl _) _)
      have HN4 : Hid (But w.heap.size V4 V5) := hQ0 (by rw [hV]; exact (But.of_below b4 (Nat.le_refl _)).set _ (.inl rfl))
      have hbt : But w.heap.size u4 V5 := by rw [hV]; exact (But.refl _ _).set _ (.inl rfl)
      have HR_fs : Hid (RowIn Fl.cells V5 V4.heap.size V5.heap.size Bfs (fs.map (Fl.mv F G))) := hQ0 (by have h := (RowIn.of_own r4).but hbt (.inl HX4.out.lt); rw [show V5.heap.size = u4.heap.size from by rw [hV]; simp]; exact h)
      have HO5 : Hid (BoxAt V5 ob [.func (.func g) #[] lb]) := hQ0 (HO4.out.block HN4.out.size (HN4.out.block ob HO4.out.lt (by have := HOB.out; omega)))
      have HR5 : Hid (BoxAt V5 sb (tb0.cells a0)) := hQ0 (HR4.out.block HN4.out.size (HN4.out.block sb HR4.out.lt (by have := HSB.out; omega)))
      have HC_fs := hQ0 (And.intro l4 k4)
      have LT4 := HX4.out.lt
      clear n4 K4 x4 y4 z4 t4 hB' hbt hV r4 b4 HX4 HB4 HO4 l4 k4
      as_aux_lemma =>
       have n5 := HX5.out.c 12 (.slice Azs zs.length czs) (by rw [HTC.out]; rfl)
       have K5 := hQ0 (mapped_zs zs Azs czs 135 #[.pointer (some ⟨ob, 0, none⟩)] (Zn.mv F G) V5 (HA.out.zs.below HB5.out (Nat.le_refl _)) HK.out.zs H9.out.zs)
       go_upto_region 7 with (go_at_call 134; refine K5.out.mono ?_; rintro e u5 ⟨Bzs, d5, rfl, l5, k5, r5, b5⟩; have x5 := HX5.out.below b5 HX5.out.lt; have y5 := x5.c 12 _ (by rw [HTC.out]; rfl); have z5 := x5.fz; have t5 := x5.lt)
       (refine pin_eqT (fun V6 hV => ?_))
       have HX6 : Hid (BoxAt V6 w.heap.size (List.set (List.set (List.set (List.set (List.set (List.set (TC) 7 (.slice Btr tr.length d0)) 8 (.slice Bws ws.length d1)) 9 (.slice Bars ars.length d2)) 10 (.slice Bps ps.length d3)) 11 (.slice Bfs fs.length d4)) 12 (.slice Bzs zs.length d5))) := hQ0 (by rw [hV]; exact x5.set (j := 12) _ (by rw [HTC.out]; rfl))
       have hB' : Below w.heap.size w u5 := HB5.out.trans (b5.mono HB5.out.size)
       have HB6 : Hid (Below w.heap.size w V6) := hQ0 (by rw [hV]; exact hB'.setCell (Nat.le_refl _) _)
       have HN5 : Hid (But w.heap.size V5 V6) := hQ0 (by rw [hV]; exact (But.of_below b5 (Nat.le_refl _)).set _ (.inl rfl))
       have hbt : But w.heap.size u5 V6 := by rw [hV]; exact (But.refl _ _).set _ (.inl rfl)
       have HR_zs : Hid (RowIn Zn.cells V6 V5.heap.size V6.heap.size Bzs (zs.map (Zn.mv F G))) := hQ0 (by have h := (RowIn.of_own r5).but hbt (.inl HX5.out.lt); rw [show V6.heap.size = u5.heap.size from by rw [hV]; simp]; exact h)
       have HO6 : Hid (BoxAt V6 ob [.func (.func g) #[] lb]) := hQ0 (HO5.out.block HN5.out.size (HN5.out.block ob HO5.out.lt (by have := HOB.out; omega)))
       have HR6 : Hid (BoxAt V6 sb (tb0.cells a0)) := hQ0 (HR5.out.block HN5.out.size (HN5.out.block sb HR5.out.lt (by have := HSB.out; omega)))
       have HC_zs := hQ0 (And.intro l5 k5)
       have LT5 := HX5.out.lt
       clear n5 K5 x5 y5 z5 t5 hB' hbt hV r5 b5 HX5 HB5 HO5 l5 k5
       as_aux_lemma =>
        have n6 := HX6.out.c 13 (.slice Ass ss.length css) (by rw [HTC.out]; rfl)
        have K6 := hQ0 (mapped_ss ss Ass css 137 #[.pointer (some ⟨ob, 0, none⟩)] (Sc.mv F G) V6 (HA.out.ss.below HB6.out (Nat.le_refl _)) HK.out.ss H9.out.ss)
        go_upto_region 8 with (go_at_call 136; refine K6.out.mono ?_; rintro e u6 ⟨Bss, d6, rfl, l6, k6, r6, b6⟩; have x6 := HX6.out.below b6 HX6.out.lt; have y6 := x6.c 13 _ (by rw [HTC.out]; rfl); have z6 := x6.fz; have t6 := x6.lt)
        (refine pin_eqT (fun V7 hV => ?_))
        have HX7 : Hid (BoxAt V7 w.heap.size (List.set (List.set (List.set (List.set (List.set (List.set (List.set (TC) 7 (.slice Btr tr.length d0)) 8 (.slice Bws ws.length d1)) 9 (.slice Bars ars.length d2)) 10 (.slice Bps ps.length d3)) 11 (.slice Bfs fs.length d4)) 12 (.slice Bzs zs.length d5)) 13 (.slice Bss ss.length d6))) := hQ0 (by rw [hV]; exact x6.set (j := 13) _ (by rw [HTC.out]; rfl))
        have hB' : Below w.heap.size w u6 := HB6.out.trans (b6.mono HB6.out.size)
        have HB7 : Hid (Below w.heap.size w V7) := hQ0 (by rw [hV]; exact hB'.setCell (Nat.le_refl _) _)
        have HN6 : Hid (But w.heap.size V6 V7) := hQ0 (by rw [hV]; exact (But.of_below b6 (Nat.le_refl _)).set _ (.inl rfl))
        have hbt : But w.heap.size u6 V7 := by rw [hV]; exact (But.refl _ _).set _ (.inl rfl)
        have HR_ss : Hid (RowIn Sc.cells V7 V6.heap.size V7.heap.size Bss (ss.map (Sc.mv F G))) := hQ0 (by have h := (RowIn.of_own r6).but hbt (.inl HX6.out.lt); rw [show V7.heap.size = u6.heap.size from by rw [hV]; simp]; exact h)
        have HO7 : Hid (BoxAt V7 ob [.func (.func g) #[] lb]) := hQ0 (HO6.out.block HN6.out.size (HN6.out.block ob HO6.out.lt (by have := HOB.out; omega)))
        have HR7 : Hid (BoxAt V7 sb (tb0.cells a0)) := hQ0 (HR6.out.block HN6.out.size (HN6.out.block sb HR6.out.lt (by have := HSB.out; omega)))
        have HC_ss := hQ0 (And.intro l6 k6)
        have LT6 := HX6.out.lt
        clear n6 K6 x6 y6 z6 t6 hB' hbt hV r6 b6 HX6 HB6 HO6 l6 k6
        as_aux_lemma =>
         have n7 := HX7.out.c 14 (.slice Alas las.length clas) (by rw [HTC.out]; rfl)
         have K7 := hQ0 (mapped_las las Alas clas 139 #[.pointer (some ⟨ob, 0, none⟩)] (La.mv F G) V7 (HA.out.las.below HB7.out (Nat.le_refl _)) HK.out.las H9.out.las)
         go_upto_region 9 with (go_at_call 138; refine K7.out.mono ?_; rintro e u7 ⟨Blas, d7, rfl, l7, k7, r7, b7⟩; have x7 := HX7.out.below b7 HX7.out.lt; have y7 := x7.c 14 _ (by rw [HTC.out]; rfl); have z7 := x7.fz; have t7 := x7.lt)
         (refine pin_eqT (fun V8 hV => ?_))
         have HX8 : Hid (BoxAt V8 w.heap.size (List.set (List.set (List.set (List.set (List.set (List.set (List.set (List.set (TC) 7 (.slice Btr tr.length d0)) 8 (.slice Bws ws.length d1)) 9 (.slice Bars ars.length d2)) 10 (.slice Bps ps.length d3)) 11 (.slice Bfs fs.length d4)) 12 (.slice Bzs zs.length d5)) 13 (.slice Bss ss.length d6)) 14 (.slice Blas las.length d7))) := hQ0 (by rw [hV]; exact x7.set (j := 14) _ (by rw [HTC.out]; rfl))
         have hB' : Below w.heap.size w u7 := HB7.out.trans (b7.mono HB7.out.size)
         have HB8 : Hid (Below w.heap.size w V8) := hQ0 (by rw [hV]; exact hB'.setCell (Nat.le_refl _) _)
         have HN7 : Hid (But w.heap.size V7 V8) := hQ0 (by rw [hV]; exact (But.of_below b7 (Nat.le_refl _)).set _ (.inl rfl))
         have hbt : But w.heap.size u7 V8 := by rw [hV]; exact (But.refl _ _).set _ (.inl rfl)
         have HR_las : Hid (RowIn La.cells V8 V7.heap.size V8.heap.size Blas (las.map (La.mv F G))) := hQ0 (by have h := (RowIn.of_own r7).but hbt (.inl HX7.out.lt); rw [show V8.heap.size = u7.heap.size from by rw [hV]; simp]; exact h)
         have HO8 : Hid (BoxAt V8 ob [.func (.func g) #[] lb]) := hQ0 (HO7.out.block HN7.out.size (HN7.out.block ob HO7.out.lt (by have := HOB.out; omega)))
         have HR8 : Hid (BoxAt V8 sb (tb0.cells a0)) := hQ0 (HR7.out.block HN7.out.size (HN7.out.block sb HR7.out.lt (by have := HSB.out; omega)))
         have HC_las := hQ0 (And.intro l7 k7)
         have LT7 := HX7.out.lt
         clear n7 K7 x7 y7 z7 t7 hB' hbt hV r7 b7 HX7 HB7 HO7 l7 k7
         as_aux_lemma =>
          have n8 := HX8.out.c 15 (.slice Ars rs.length crs) (by rw [HTC.out]; rfl)
          have K8 := hQ0 (mapped_rs rs Ars crs 141 #[.pointer (some ⟨ob, 0, none⟩)] (Ra.mv F G) V8 (HA.out.rs.below HB8.out (Nat.le_refl _)) HK.out.rs H9.out.rs)
          go_upto_region 10 with (go_at_call 140; refine K8.out.mono ?_; rintro e u8 ⟨Brs, d8, rfl, l8, k8, r8, b8⟩; have x8 := HX8.out.below b8 HX8.out.lt; have y8 := x8.c 15 _ (by rw [HTC.out]; rfl); have z8 := x8.fz; have t8 := x8.lt)
          (refine pin_eqT (fun V9 hV => ?_))
          have HX9 : Hid (BoxAt V9 w.heap.size (List.set (List.set (List.set (List.set (List.set (List.set (List.set (List.set (List.set (TC) 7 (.slice Btr tr.length d0)) 8 (.slice Bws ws.length d1)) 9 (.slice Bars ars.length d2)) 10 (.slice Bps ps.length d3)) 11 (.slice Bfs fs.length d4)) 12 (.slice Bzs zs.length d5)) 13 (.slice Bss ss.length d6)) 14 (.slice Blas las.length d7)) 15 (.slice Brs rs.length d8))) := hQ0 (by rw [hV]; exact x8.set (j := 15) _ (by rw [HTC.out]; rfl))
          have hB' : Below w.heap.size w u8 := HB8.out.trans (b8.mono HB8.out.size)
          have HB9 : Hid (Below w.heap.size w V9) := hQ0 (by rw [hV]; exact hB'.setCell (Nat.le_refl _) _)
          have HN8 : Hid (But w.heap.size V8 V9) := hQ0 (by rw [hV]; exact (But.of_below b8 (Nat.le_refl _)).set _ (.inl rfl))
          have hbt : But w.heap.size u8 V9 := by rw [hV]; exact (But.refl _ _).set _ (.inl rfl)
          have HR_rs : Hid (RowIn Ra.cells V9 V8.heap.size V9.heap.size Brs (rs.map (Ra.mv F G))) := hQ0 (by have h := (RowIn.of_own r8).but hbt (.inl HX8.out.lt); rw [show V9.heap.size = u8.heap.size from by rw [hV]; simp]; exact h)
          have HO9 : Hid (BoxAt V9 ob [.func (.func g) #[] lb]) := hQ0 (HO8.out.block HN8.out.size (HN8.out.block ob HO8.out.lt (by have := HOB.out; omega)))
          have HR9 : Hid (BoxAt V9 sb (tb0.cells a0)) := hQ0 (HR8.out.block HN8.out.size (HN8.out.block sb HR8.out.lt (by have := HSB.out; omega)))
          have HC_rs := hQ0 (And.intro l8 k8)
          have LT8 := HX8.out.lt
          clear n8 K8 x8 y8 z8 t8 hB' hbt hV r8 b8 HX8 HB8 HO8 l8 k8
          as_aux_lemma =>
           have n9 := HX9.out.c 16 (.slice Ads ds.length cds) (by rw [HTC.out]; rfl)
           have K9 := hQ0 (mapped_ds ds Ads cds 143 #[.pointer (some ⟨ob, 0, none⟩)] (Dr.mv F G) V9 (HA.out.ds.below HB9.out (Nat.le_refl _)) HK.out.ds H9.out.ds)
           go_upto_region 11 with (go_at_call 142; refine K9.out.mono ?_; rintro e u9 ⟨Bds, d9, rfl, l9, k9, r9, b9⟩; have x9 := HX9.out.below b9 HX9.out.lt; have y9 := x9.c 16 _ (by rw [HTC.out]; rfl); have z9 := x9.fz; have t9 := x9.lt)
           (refine pin_eqT (fun V10 hV => ?_))
           have HX10 : Hid (BoxAt V10 w.heap.size (List.set (List.set (List.set (List.set (List.set (List.set (List.set (List.set (List.set (List.set (TC) 7 (.slice Btr tr.length d0)) 8 (.slice Bws ws.length d1)) 9 (.slice Bars ars.length d2)) 10 (.slice Bps ps.length d3)) 11 (.slice Bfs fs.length d4)) 12 (.slice Bzs zs.length d5)) 13 (.slice Bss ss.length d6)) 14 (.slice Blas las.length d7)) 15 (.slice Brs rs.length d8)) 16 (.slice Bds ds.length d9))) := hQ0 (by rw [hV]; exact x9.set (j := 16) _ (by rw [HTC.out]; rfl))
           have hB' : Below w.heap.size w u9 := HB9.out.trans (b9.mono HB9.out.size)
           have HB10 : Hid (Below w.heap.size w V10) := hQ0 (by rw [hV]; exact hB'.setCell (Nat.le_refl _) _)
           have HN9 : Hid (But w.heap.size V9 V10) := hQ0 (by rw [hV]; exact (But.of_below b9 (Nat.le_refl _)).set _ (.inl rfl))
           have hbt : But w.heap.size u9 V10 := by rw [hV]; exact (But.refl _ _).set _ (.inl rfl)
           have HR_ds : Hid (RowIn Dr.cells V10 V9.heap.size V10.heap.size Bds (ds.map (Dr.mv F G))) := hQ0 (by have h := (RowIn.of_own r9).but hbt (.inl HX9.out.lt); rw [show V10.heap.size = u9.heap.size from by rw [hV]; simp]; exact h)
           have HO10 : Hid (BoxAt V10 ob [.func (.func g) #[] lb]) := hQ0 (HO9.out.block HN9.out.size (HN9.out.block ob HO9.out.lt (by have := HOB.out; omega)))
           have HR10 : Hid (BoxAt V10 sb (tb0.cells a0)) := hQ0 (HR9.out.block HN9.out.size (HN9.out.block sb HR9.out.lt (by have := HSB.out; omega)))
           have HC_ds := hQ0 (And.intro l9 k9)
           have LT9 := HX9.out.lt
           clear n9 K9 x9 y9 z9 t9 hB' hbt hV r9 b9 HX9 HB9 HO9 l9 k9
           as_aux_lemma =>
            have n10 := HX10.out.c 17 (.slice Alns lns.length clns) (by rw [HTC.out]; rfl)
            have K10 := hQ0 (mapped_lns lns Alns clns 145 #[.pointer (some ⟨ob, 0, none⟩)] (Ln.mv F G) V10 (HA.out.lns.below HB10.out (Nat.le_refl _)) HK.out.lns H9.out.lns)
            go_upto_region 12 with (go_at_call 144; refine K10.out.mono ?_; rintro e u10 ⟨Blns, d10, rfl, l10, k10, r10, b10⟩; have x10 := HX10.out.below b10 HX10.out.lt; have y10 := x10.c 17 _ (by rw [HTC.out]; rfl); have z10 := x10.fz; have t10 := x10.lt)
            (refine pin_eqT (fun V11 hV => ?_))
            have HX11 : Hid (BoxAt V11 w.heap.size (List.set (List.set (List.set (List.set (List.set (List.set (List.set (List.set (List.set (List.set (List.set (TC) 7 (.slice Btr tr.length d0)) 8 (.slice Bws ws.length d1)) 9 (.slice Bars ars.length d2)) 10 (.slice Bps ps.length d3)) 11 (.slice Bfs fs.length d4)) 12 (.slice Bzs zs.length d5)) 13 (.slice Bss ss.length d6)) 14 (.slice Blas las.length d7)) 15 (.slice Brs rs.length d8)) 16 (.slice Bds ds.length d9)) 17 (.slice Blns lns.length d10))) := hQ0 (by rw [hV]; exact x10.set (j := 17) _ (by rw [HTC.out]; rfl))
            have hB' : Below w.heap.size w u10 := HB10.out.trans (b10.mono HB10.out.size)
            have HB11 : Hid (Below w.heap.size w V11) := hQ0 (by rw [hV]; exact hB'.setCell (Nat.le_refl _) _)
            have HN10 : Hid (But w.heap.size V10 V11) := hQ0 (by rw [hV]; exact (But.of_below b10 (Nat.le_refl _)).set _ (.inl rfl))
            have hbt : But w.heap.size u10 V11 := by rw [hV]; exact (But.refl _ _).set _ (.inl rfl)
            have HR_lns : Hid (RowIn Ln.cells V11 V10.heap.size V11.heap.size Blns (lns.map (Ln.mv F G))) := hQ0 (by have h := (RowIn.of_own r10).but hbt (.inl HX10.out.lt); rw [show V11.heap.size = u10.heap.size from by rw [hV]; simp]; exact h)
            have HO11 : Hid (BoxAt V11 ob [.func (.func g) #[] lb]) := hQ0 (HO10.out.block HN10.out.size (HN10.out.block ob HO10.out.lt (by have := HOB.out; omega)))
            have HR11 : Hid (BoxAt V11 sb (tb0.cells a0)) := hQ0 (HR10.out.block HN10.out.size (HN10.out.block sb HR10.out.lt (by have := HSB.out; omega)))
            have HC_lns := hQ0 (And.intro l10 k10)
            have LT10 := HX10.out.lt
            clear n10 K10 x10 y10 z10 t10 hB' hbt hV r10 b10 HX10 HB10 HO10 l10 k10
            have S11 : But w.heap.size V11 V11 := But.refl _ _
            have S10 := HN10.out.trans S11
            have S9 := HN9.out.trans S10
            have S8 := HN8.out.trans S9
            have S7 := HN7.out.trans S8
            have S6 := HN6.out.trans S7
            have S5 := HN5.out.trans S6
            have S4 := HN4.out.trans S5
            have S3 := HN3.out.trans S4
            have S2 := HN2.out.trans S3
            have S1 := HN1.out.trans S2
            obtain ⟨t', ht'⟩ : ∃ z, z = Tb.mv F G ⟨rad, bal, rst, gx, gy, drg, shf, tr, ws, ars, ps, fs, zs, ss, las, rs, ds, lns⟩ := ⟨_, rfl⟩
            obtain ⟨a', ha'⟩ : ∃ z : TbA, z = ⟨Btr, d0, Bws, d1, Bars, d2, Bps, d3, Bfs, d4, Bzs, d5, Bss, d6, Blas, d7, Brs, d8, Bds, d9, Blns, d10⟩ := ⟨_, rfl⟩
            rw [← ht']
            have HXE : Hid (BoxAt V11 w.heap.size (t'.cells a')) := hQ0 (by
             have h := HX11.out
             rw [HTC.out] at h
             rw [ht', ha']
             simp only [Tb.cells, Tb.mv, List.length_map]
             exact h)
            obtain ⟨bb, hbb⟩ : ∃ z : Nat → Nat, z = fun i => [V0.heap.size, V1.heap.size, V2.heap.size, V3.heap.size, V4.heap.size, V5.heap.size, V6.heap.size, V7.heap.size, V8.heap.size, V9.heap.size, V10.heap.size, V11.heap.size].getD i 0 := ⟨_, rfl⟩
            have HOE : Hid (TbSep V11 bb t' a') := hQ0 (by
             rw [ht', ha', hbb]
             exact ⟨HR_tr.out.but S1 (.inl LT0), HR_ws.out.but S2 (.inl LT1), HR_ars.out.but S3 (.inl LT2), HR_ps.out.but S4 (.inl LT3), HR_fs.out.but S5 (.inl LT4), HR_zs.out.but S6 (.inl LT5), HR_ss.out.but S7 (.inl LT6), HR_las.out.but S8 (.inl LT7), HR_rs.out.but S9 (.inl LT8), HR_ds.out.but S10 (.inl LT9), HR_lns.out.but S11 (.inl LT10), ⟨HN0.out.size, HN1.out.size, HN2.out.size, HN3.out.size, HN4.out.size, HN5.out.size, HN6.out.size, HN7.out.size, HN8.out.size, HN9.out.size, HN10.out.size⟩⟩)
            have hb0 : w.heap.size + 3 ≤ bb 0 := by rw [hbb]; show _ ≤ V0.heap.size; have := HR0.out.lt; have := HSB.out; omega
            clear hbb
            have HCE : Hid (TbCap t' a') := hQ0 (by
             rw [ht', ha']
             exact ⟨⟨HC_ss.out.1, HC_rs.out.1, HC_lns.out.1⟩, ⟨HC_tr.out.2, HC_ws.out.2, HC_ars.out.2, HC_ps.out.2, HC_fs.out.2, HC_zs.out.2, HC_ss.out.2, HC_las.out.2, HC_rs.out.2, HC_ds.out.2, HC_lns.out.2⟩⟩)
            have HT' := hQ0 ht'
            clear ht' ha'
            refine wp_region_lit ?_
            apply wpL_maybe true (by exact rfl) (t'.v a')
            (case h => intro _; exact load_tb _ _ 2 rfl w.heap.size (by first | rfl | (go_simp; done)) t' a' _ HXE.out)
            intro K hK; go_simp; apply hK; clear hK K
            (try go_simp)
            refine wpList_store_tb rfl (.tmp 4) (.tmp 59) rfl sb _ (by go_simp) t' a' (by go_simp; first | done | rfl) HR11.out rfl ?_
            go_simp
            go_wp2_with fail
            have hlv := loadv_tb sb t' a' _ (stored_tb sb _ t' a' V11 HR11.out rfl)
            refine bodyPost_ret (v := t'.v a') (by simp only [results, Tryz.results72]; simp [hlv, asAddr]) rfl ?_
            rw [← HT'.out]
            refine ⟨a', rfl, below_setCells (by have := HSB.out; omega) _ _ HB11.out, ?_, HCE.out⟩
            exact ⟨bb, by omega, HOE.out.but (but_setCells sb 0 _ V11) (by have := HSB.out; omega)⟩
end Go.Proofs.YtbpcjpiaimdpnaaGreatDoor
namespace Go.Proofs.YtbpcjpiaimdpnaaGreatDoor
open Go Go.RowKit
set_option maxRecDepth 100000 in
def fr166 (s : Nat → Value) : List Value := s 0 :: s 1 :: s 2 :: s 3 :: s 4 :: s 5 :: s 6 :: s 7 :: s 8 :: s 9 :: s 10 :: s 11 :: s 12 :: s 13 :: s 14 :: s 15 :: s 16 :: s 17 :: s 18 :: s 19 :: s 20 :: s 21 :: s 22 :: s 23 :: s 24 :: s 25 :: s 26 :: s 27 :: s 28 :: s 29 :: s 30 :: s 31 :: s 32 :: s 33 :: s 34 :: s 35 :: s 36 :: s 37 :: s 38 :: s 39 :: s 40 :: s 41 :: s 42 :: s 43 :: s 44 :: s 45 :: s 46 :: s 47 :: s 48 :: s 49 :: s 50 :: s 51 :: s 52 :: s 53 :: s 54 :: s 55 :: s 56 :: s 57 :: s 58 :: s 59 :: s 60 :: s 61 :: s 62 :: s 63 :: s 64 :: s 65 :: s 66 :: s 67 :: s 68 :: s 69 :: s 70 :: s 71 :: s 72 :: s 73 :: s 74 :: s 75 :: s 76 :: s 77 :: s 78 :: s 79 :: s 80 :: s 81 :: s 82 :: s 83 :: s 84 :: s 85 :: s 86 :: s 87 :: s 88 :: s 89 :: s 90 :: s 91 :: s 92 :: s 93 :: s 94 :: s 95 :: s 96 :: s 97 :: s 98 :: s 99 :: s 100 :: s 101 :: s 102 :: s 103 :: s 104 :: s 105 :: s 106 :: s 107 :: s 108 :: s 109 :: s 110 :: s 111 :: s 112 :: s 113 :: s 114 :: s 115 :: s 116 :: s 117 :: s 118 :: s 119 :: s 120 :: s 121 :: s 122 :: s 123 :: s 124 :: s 125 :: s 126 :: s 127 :: s 128 :: s 129 :: s 130 :: s 131 :: s 132 :: s 133 :: s 134 :: s 135 :: s 136 :: s 137 :: s 138 :: s 139 :: s 140 :: s 141 :: s 142 :: s 143 :: s 144 :: s 145 :: s 146 :: s 147 :: s 148 :: s 149 :: s 150 :: s 151 :: s 152 :: s 153 :: s 154 :: s 155 :: s 156 :: s 157 :: s 158 :: s 159 :: s 160 :: s 161 :: s 162 :: s 163 :: s 164 :: s 165 :: []
set_option maxRecDepth 100000 in
theorem fr166_ex (L : List Value) (h : L.length = 166) : ∃ s : Nat → Value, L = fr166 s := ⟨fun i => L.getD i undef, (map_getD L 166 h).trans (by kernel_rfl)⟩
end Go.Proofs.YtbpcjpiaimdpnaaGreatDoor
namespace Go.Proofs.YtbpcjpiaimdpnaaGreatDoor
open Go Go.RowKit
set_option linter.unusedVariables false
theorem BoxAt.mid {W : World} {q n : Nat} {A B C : List Value} (h : BoxAt W q (A ++ (B ++ C))) (hn : A.length = n) (j : Nat) (u : Value) (hj : j < B.length) : BoxAt (W.setCell ⟨q, n + j, none⟩ u) q (A ++ (B.set j u ++ C)) := by
 have h1 := h.set u (j := n + j) (old := B[j]) (by subst hn; exact get_mid A B C j _ (List.getElem?_eq_getElem hj))
 rwa [set_mid A B C n j u hn hj] at h1
theorem BoxAt.at_mid {W : World} {q n : Nat} {A B C : List Value} (h : BoxAt W q (A ++ (B ++ C))) (hn : A.length = n) (j : Nat) (u : Value) (hj : B[j]? = some u) : W.cell? ⟨q, n + j, none⟩ = some u := h.c _ _ (by subst hn; exact get_mid A B C j _ hj)
attribute [local go_sem ↓] evalL getL64 setL64
attribute [local go_sem ↓] getL8 setL8
attribute [local go_sem ↓] getL1 getL0
set_option maxRecDepth 100000 in
set_option maxHeartbeats 8000000 in
theorem lm_ws (w wr : World) (lo hi : Nat) (A : Option Addr) (c : Nat) (l : List Wl) (TC : List Value) (df : List Deferred) (F : List Value) (hF : F.length = 166) (f1 : F[1]? = some (.pointer (some ⟨w.heap.size, 0, none⟩))) (f22 : F[22]? = some (.int .i64 (l.length : Int))) (f23 : F[23]? = some (.int .i64 0)) (hTC : TC[8]? = some (.slice A l.length c)) (hT : BoxAt wr w.heap.size TC) (hR0 : RowIn Wl.cells wr lo hi A l) (hlo : w.heap.size < lo) (hl : l.length ≤ 10000) (R : Act → World → Prop)
  (hR : ∀ (F' : List Value) (w' : World), F'.length = 166 → F'[1]? = F[1]? → F'[2]? = F[2]? → F'[3]? = F[3]? → OutOf lo hi wr w' → RowIn Wl.cells w' lo hi A (l.map Wl.tn) → R ⟨F'.toArray, df⟩ w') :
  (blkOf 0 Tryz.f22).wp Tryz.prog (AtEnd R) ⟨F.toArray, df⟩ wr := by
 obtain ⟨s, rfl⟩ := fr166_ex F hF
 have e1 : s 1 = .pointer (some ⟨w.heap.size, 0, none⟩) := Option.some.inj f1
 have e22 : s 22 = .int .i64 (l.length : Int) := Option.some.inj f22
 have e23 : s 23 = .int .i64 0 := Option.some.inj f23
 unfold fr166
 rw [e1, e22, e23]
 have HR := hQ0 hR
 have HT := hQ0 hT
 have HTC := hQ0 hTC
 have HE1 := hQ0 e1
 have H0 := hQ0 hR0
 clear hF f1 f22 f23 e1 e22 e23 hR hT hTC hR0
 conv in (blkOf _ _) => whnf
 go_wp2_with fail
 go_loopg [23] (l.length + 1) (fun gk tt wr_ => ∃ k : Nat, k ≤ l.length ∧ l.length - k < gk ∧ tt = .int .i64 k ∧ Hid (OutOf lo hi wr wr_) ∧ Hid (RowIn Wl.cells wr_ lo hi A ((l.take k).map Wl.tn ++ l.drop k)))
 case atStart => exact ⟨0, by omega, by omega, rfl, hQ0 (OutOf.refl _ _ _), hQ0 (by simpa using H0.out)⟩
 case round =>
  obtain ⟨wq, rfl⟩ : ∃ z, z = wr := ⟨_, rfl⟩
  obtain ⟨k, hkl, hkk, rfl, HO, HX⟩ := hrel
  by_cases hlt : k < l.length
  · obtain ⟨x, hx⟩ : ∃ x, l[k]? = some x := ⟨l[k], by simp⟩
    obtain ⟨q, rfl, hq1, hq2, hbx⟩ : ∃ q, A = some ⟨q, 0, none⟩ ∧ lo ≤ q ∧ q < hi ∧ BoxAt wq q (((l.take k).map Wl.tn ++ l.drop k).flatMap Wl.cells) := by
     rcases HX.out with h | h
     · have := congrArg List.length h
       simp at this
       omega
     · exact h
    rw [flat_mid Wl.cells Wl.tn hx] at hbx
    have hpl : (((l.take k).map Wl.tn).flatMap Wl.cells).length = k * 13 := by rw [flat_len Wl.cells 13 (fun _ => rfl), List.length_map, List.length_take, Nat.min_eq_left hkl]
    have HN : Hid (((l.take (k + 1)).map Wl.tn ++ l.drop (k + 1)).flatMap Wl.cells = ((l.take k).map Wl.tn).flatMap Wl.cells ++ (Wl.cells (Wl.tn x) ++ (l.drop (k + 1)).flatMap Wl.cells)) := hQ0 (flat_mid2 Wl.cells Wl.tn hx)
    have HXM := hQ0 (List.mem_of_getElem? hx)
    generalize ((l.take k).map Wl.tn).flatMap Wl.cells = pre at hbx hpl HN
    generalize (l.drop (k + 1)).flatMap Wl.cells = post at hbx HN
    have i1 : (k : Int) < (l.length : Int) := by omega
    have hTb := HO.out.box HT.out (.inl hlo)
    have t8 := hTb.c 8 _ HTC.out
    have hqw : q ≠ w.heap.size := by omega
    have HP := hQ0 hpl
    have HBX := hQ0 hbx
    have hqlt := hbx.lt
    have hqfz := hbx.fz
    have c3 : wq.cell? ⟨q, k * 13 + 3, none⟩ = some (.int .i64 x.a1) := hbx.at_mid hpl 3 _ rfl
    have c4 : wq.cell? ⟨q, k * 13 + 3 + 1, none⟩ = some (.int .i64 x.a2) := hbx.at_mid hpl 4 _ rfl
    have c5 : wq.cell? ⟨q, k * 13 + 5, none⟩ = some (.int .i64 x.b1) := hbx.at_mid hpl 5 _ rfl
    have c6 : wq.cell? ⟨q, k * 13 + 5 + 1, none⟩ = some (.int .i64 x.b2) := hbx.at_mid hpl 6 _ rfl
    clear hbx hpl hx hTb
    go_upto_region 8 with (fail)
    go_region
    go_wp2_with fail
    go_roundg (l.length - (k + 1) + 1)
    case measure => omega
    case rel => exact ⟨k + 1, by omega, by omega, by go_num, hQ0 (HO.out.trans (OutOf.of_but (q := q) (((((But.refl q wq).set (p := ⟨q, _, none⟩) _ (.inl rfl)).set (p := ⟨q, _, none⟩) _ (.inl rfl)).set (p := ⟨q, _, none⟩) _ (.inl rfl)).set (p := ⟨q, _, none⟩) _ (.inl rfl)).drew hq1 hq2)), hQ0 (.inr ⟨q, rfl, hq1, hq2, by rw [HN.out]; exact (((((HBX.out).mid HP.out 3 _ (by show 3 < 13; decide)).mid HP.out 4 _ (by show 4 < 13; decide)).mid HP.out 5 _ (by show 5 < 13; decide)).mid HP.out 6 _ (by show 6 < 13; decide)).drew⟩)⟩
  · obtain rfl : k = l.length := by omega
    go_wp2_with fail
    refine HR.out _ wq rfl (congrArg some HE1.out.symm) rfl rfl HO.out ?_
    have h := HX.out
    rw [List.take_length, List.drop_length, List.append_nil] at h
    exact h
def softT (t : Tb) : Prop := mild t.gx ∧ mild t.gy ∧ (∀ x ∈ t.zs, mild x.f1 ∧ mild x.f2) ∧ (∀ x ∈ t.ss, mild x.o1 ∧ mild x.o2) ∧ (∀ x ∈ t.rs, mild x.d1 ∧ mild x.d2) ∧ (∀ x ∈ t.lns, mild x.v1 ∧ mild x.v2)
theorem mem_mv {α : Type} {U : α → α} {P : α → Prop} {l : List α} (h : ∀ x ∈ l, P (U x)) : ∀ x ∈ l.map U, P x := fun x hx => by
 obtain ⟨y, hy, rfl⟩ := List.mem_map.1 hx
 exact h y hy
theorem eg_flip : ∀ args w, (callFunc 74 args).run Tryz.prog w = .ok (.enter 74 args) w := by
 intro args w
 go_simp
attribute [local go_sem ↓] evalL getL64 setL64
attribute [local go_sem ↓] getL8 setL8
attribute [local go_sem ↓] getL1 getL0
set_option maxRecDepth 100000 in
set_option maxHeartbeats 8000000 in
theorem mirror_any (t : Tb) (a : TbA) (w : World) (hA : TbAt w t a) (hok : a.ok) (hle : t.le 10000) (hm : t.mild) (hs : softT t) (h9 : t.only9) :
  Calls Tryz.prog 22 #[t.v a] w (MvOut (mirrorR t) w) := by
 have HA := hQ0 hA
 have HL := hQ0 hle
 have HM := hQ0 hm
 have HS := hQ0 hs
 have HK := hQ0 hok
 have H9 := hQ0 h9
 clear hA hle hm hs hok h9
 obtain ⟨TC0, hTC0⟩ : ∃ z : List Value, z = t.cells a := ⟨_, rfl⟩
 have HTC0 := hQ0 hTC0
 have hv : t.v a = .agg TC0.toArray := by rw [hTC0]; rfl
 rw [hTC0] at hv
 clear hTC0
 unfold Tb.v
 go_enter Tryz.func22, Tryz.ntmps22; (try simp only [List.append_eq, List.cons_append, List.nil_append])
 go_upto_region 2 with (fail)
 (refine pin_eqT (fun V0 hV => ?_))
 have HB0 : Hid (Below w.heap.size w V0) := hQ0 (by rw [hV]; ((with_reducible (repeat (first | exact bR _ _ | apply bS | apply bA | apply bD | refine bT ?_ (by assumption) ?_ | refine bO (by assumption) ?_ ?_))) <;> (first | omega | (simp <;> omega))))
 have HX0 : Hid (BoxAt V0 w.heap.size (t.cells a)) := hQ0 (by rw [hV]; exact (BoxAt.new w (t.cells a) 36).alloc _)
 have HR0 : Hid (BoxAt V0 (w.heap.size + 1) (tb0.cells a0)) := hQ0 (by rw [hV]; exact bx_new _ (tb0.cells a0) 36 (by simp))
 clear hV hv
 obtain ⟨sb, hsb⟩ : ∃ z, z = w.heap.size + 1 := ⟨_, rfl⟩
 rw [← hsb] at HR0 ⊢
 have HSB := hQ0 hsb
 clear hsb
 refine wp_region_lit ?_
 apply wpL_maybe true (by exact rfl) (t.v a)
 (case h => intro _; exact load_tb _ _ 1 rfl w.heap.size (by first | rfl | (go_simp; done)) t a _ HX0.out)
 intro K hK; go_simp; apply hK; clear hK K
 refine wpList_plain rfl fun K hK => ?_
 go_simp
 refine hK _ _ ?_
 clear hK K
 have KP := places_any t a V0 74 #[] (fun x => -x) (fun y => y) (flip_any V0) eg_flip (HA.out.below HB0.out (Nat.le_refl _)) HK.out HL.out HM.out H9.out
 refine wpList_plain rfl fun K hK => ?_
 go_simp
 (refine KP.mono ?_; rintro e w1 ⟨a1, rfl, hb1, ⟨bb, hbb, hS1⟩, hC1⟩)
 go_simp
 refine hK _ _ ?_
 clear hK K KP
 obtain ⟨t1, ht1⟩ : ∃ z, z = t.mv (fun x => -x) (fun y => y) := ⟨_, rfl⟩
 rw [← ht1] at hS1 hC1 ⊢
 have HC1 := hQ0 hC1
 have hwb : w.heap.size + 1 < bb 0 := by have := HR0.out.lt; have := HSB.out; omega
 have HT1 := hQ0 ht1
 have HX1 := hQ0 (HX0.out.below hb1 HX0.out.lt)
 have HR1 := hQ0 (HR0.out.below hb1 HR0.out.lt)
 have HB1 := hQ0 (HB0.out.trans (hb1.mono HB0.out.size))
 have HS1 := hQ0 hS1
 clear hb1 hS1 hC1 hbb ht1 HX0 HR0 HB0
 refine wpList_store_tb rfl (.tmp 1) (.tmp 16) rfl w.heap.size _ (by go_simp) t1 a1 (by go_simp; first | done | rfl) HX1.out rfl ?_
 have HX2 := hQ0 (stored_tb w.heap.size _ t1 a1 w1 HX1.out rfl)
 have HR2 := hQ0 (HR1.out.low_cells (q := w.heap.size) (o := 0) (vs := t1.cells a1) (by have := HSB.out; omega))
 have HB2 := hQ0 (below_setCells (b := w.heap.size) (Nat.le_refl _) (t1.cells a1) 0 HB1.out)
 have HS2 := hQ0 (HS1.out.but (but_setCells w.heap.size 0 (t1.cells a1) w1) (by omega))
 generalize w1.setCells w.heap.size 0 (t1.cells a1) = w2 at HX2 HR2 HB2 HS2 ⊢
 clear HX1 HR1 HB1 HS1
 have hsg : mild t1.gx ∧ mild t1.gy := by rw [HT1.out]; exact ⟨HS.out.1, HS.out.2.1⟩
 have KG : Calls Tryz.prog 74 #[.pointer (some ⟨w.heap.size, 3, none⟩)] w2 _ := flip_any w w.heap.size 3 t1.gx t1.gy (t1.cells a1) w2 (Nat.le_refl _) HB2.out HX2.out rfl rfl hsg.1 hsg.2
 clear hsg
 go_simp
 go_upto_region 4 with (go_at_call 74; refine KG.mono ?_; rintro e w3 ⟨rfl, hb3, hx3⟩)
 obtain ⟨TC, hTC⟩ : ∃ z, z = ((t1.cells a1).set 3 (.int .i64 (-t1.gx))).set (3 + 1) (.int .i64 t1.gy) := ⟨_, rfl⟩
 rw [← hTC] at hx3
 have HTC := hQ0 hTC
 have HX3 := hQ0 hx3
 have HB3 := hQ0 (HB2.out.trans (hb3.toBelow (Nat.le_refl _) HB2.out.size))
 have HR3 := hQ0 (HR2.out.block hb3.size (hb3.block sb HR2.out.lt (by have := HSB.out; omega)))
 have HS3 := HS2.out.but hb3 (by omega)
 have hord := HS3.ord
 have HR_tr := hQ0 HS3.tr
 have HR_ws := hQ0 HS3.ws
 have HR_ars := hQ0 HS3.ars
 have HR_ps := hQ0 HS3.ps
 have HR_fs := hQ0 HS3.fs
 have HR_zs := hQ0 HS3.zs
 have HR_ss := hQ0 HS3.ss
 have HR_las := hQ0 HS3.las
 have HR_rs := hQ0 HS3.rs
 have HR_ds := hQ0 HS3.ds
 have HR_lns := hQ0 HS3.lns
 have hl1 : t1.le 10000 := by
  have h := HL.out
  rw [HT1.out]
  exact ⟨h.tr, by simpa [Tb.mv] using h.ws, by simpa [Tb.mv] using h.ars, by simpa [Tb.mv] using h.ps, by simpa [Tb.mv] using h.fs, by simpa [Tb.mv] using h.zs, by simpa [Tb.mv] using h.ss, by simpa [Tb.mv] using h.las, by simpa [Tb.mv] using h.rs, by simpa [Tb.mv] using h.ds, by simpa [Tb.mv] using h.lns⟩
 have HL1 := hQ0 hl1
 have HS1 : Hid (softT t1) := hQ0 (by
  have h := HS.out
  rw [HT1.out]
  exact ⟨h.1, h.2.1, mem_mv h.2.2.1, mem_mv h.2.2.2.1, mem_mv h.2.2.2.2.1, mem_mv h.2.2.2.2.2⟩)
 have z9 : t1.only9 := by rw [HT1.out]; exact ⟨by show (List.map _ _).length ≤ 0; rw [List.length_map]; exact H9.out.ars, by show (List.map _ _).length ≤ 0; rw [List.length_map]; exact H9.out.ps, by show (List.map _ _).length ≤ 0; rw [List.length_map]; exact H9.out.fs, by show (List.map _ _).length ≤ 0; rw [List.length_map]; exact H9.out.zs, by show (List.map _ _).length ≤ 0; rw [List.length_map]; exact H9.out.ss, by show (List.map _ _).length ≤ 0; rw [List.length_map]; exact H9.out.las, by show (List.map _ _).length ≤ 0; rw [List.length_map]; exact H9.out.rs, by show (List.map _ _).length ≤ 0; rw [List.length_map]; exact H9.out.ds, by show (List.map _ _).length ≤ 0; rw [List.length_map]; exact H9.out.lns⟩
 have Z9 := hQ0 z9
 clear z9
 clear hTC hx3 hb3 HX2 HR2 HB2 HS2 HS3 hl1 KG HS HL
 as_aux_lemma =>
  have t_ := HX3.out.c 8 (.slice a1.ws t1.ws.length a1.wsc) (by rw [HTC.out]; rfl)
  refine wp_region_lit ?_
  iterate 4 (refine wpList_plain rfl fun K hK => ?_; go_simp; apply hK; clear hK K)
  refine wpList_nil ?_
  (try go_simp)
  go_step
  clear t_
  refine wp_of_end (lm_ws w w3 (bb 1) (bb 2) a1.ws a1.wsc t1.ws TC _ _ (by rfl) (by rfl) (by rfl) (by rfl) (by rw [HTC.out]; rfl) HX3.out HR_ws.out (by omega) HL1.out.ws _ ?_) (fun _ _ h => h)
  intro F_ v0 hF_ h1_ h2_ h3_ hO_ hR_
  obtain ⟨s0, rfl⟩ := fr166_ex F_ hF_
  have e1_ : s0 1 = .pointer (some ⟨w.heap.size, 0, none⟩) := Option.some.inj h1_
  have e2_ : s0 2 = .pointer (some ⟨sb, 0, none⟩) := Option.some.inj h2_
  have e3_ : s0 3 = .func (.func 74) #[] #[] := Option.some.inj h3_
  have HR_tr := hQ0 (HR_tr.out.out hO_ (by omega))
  have HR_ws := hQ0 hR_
  have HR_ars := hQ0 (HR_ars.out.out hO_ (by omega))
  have HR_ps := hQ0 (HR_ps.out.out hO_ (by omega))
  have HR_fs := hQ0 (HR_fs.out.out hO_ (by omega))
  have HR_zs := hQ0 (HR_zs.out.out hO_ (by omega))
  have HR_ss := hQ0 (HR_ss.out.out hO_ (by omega))
  have HR_las := hQ0 (HR_las.out.out hO_ (by omega))
  have HR_rs := hQ0 (HR_rs.out.out hO_ (by omega))
  have HR_ds := hQ0 (HR_ds.out.out hO_ (by omega))
  have HR_lns := hQ0 (HR_lns.out.out hO_ (by omega))
  have HX3 := hQ0 (hO_.box HX3.out (.inl (by omega)))
  have HR3 := hQ0 (hO_.box HR3.out (.inl (by have := HSB.out; omega)))
  have HB3 := hQ0 (HB3.out.trans (hO_.toBelow (by omega) HB3.out.size))
  clear hO_ hR_ h1_ h2_ h3_ hF_
  unfold fr166
  rw [e1_, e2_, e3_]
  clear e1_ e2_ e3_
  show _
  have t9_ := HX3.out.c 9 (.slice a1.ars 0 a1.arsc) (by rw [HTC.out, ← Nat.le_zero.1 Z9.out.ars]; rfl)
  have t11_ := HX3.out.c 11 (.slice a1.fs 0 a1.fsc) (by rw [HTC.out, ← Nat.le_zero.1 Z9.out.fs]; rfl)
  have t12_ := HX3.out.c 12 (.slice a1.zs 0 a1.zsc) (by rw [HTC.out, ← Nat.le_zero.1 Z9.out.zs]; rfl)
  have t13_ := HX3.out.c 13 (.slice a1.ss 0 a1.ssc) (by rw [HTC.out, ← Nat.le_zero.1 Z9.out.ss]; rfl)
  have t15_ := HX3.out.c 15 (.slice a1.rs 0 a1.rsc) (by rw [HTC.out, ← Nat.le_zero.1 Z9.out.rs]; rfl)
  have t17_ := HX3.out.c 17 (.slice a1.lns 0 a1.lnsc) (by rw [HTC.out, ← Nat.le_zero.1 Z9.out.lns]; rfl)
  go_upto_region 43 with (refine wp_loop_rounds 1 ?_; rw [rounds_succ])
  clear t9_ t11_ t12_ t13_ t15_ t17_
  have hTE : TC = (mirrorR t).cells a1 := by
   rw [HTC.out]
   show _ = Tb.cells (Tb.tn (t.mv (fun x => -x) (fun y => y))) a1
   rw [← HT1.out]
   simp only [Tb.cells, Tb.tn, List.length_map]
   rfl
  have HSE : Hid (TbSep v0 bb (mirrorR t) a1) := hQ0 (by
   show TbSep _ bb (Tb.tn (t.mv (fun x => -x) (fun y => y))) a1
   rw [← HT1.out]
   exact ⟨HR_tr.out, HR_ws.out, .inl (List.map_eq_nil_iff.2 (List.eq_nil_of_length_eq_zero (Nat.le_zero.1 Z9.out.ars))), HR_ps.out, .inl (List.map_eq_nil_iff.2 (List.eq_nil_of_length_eq_zero (Nat.le_zero.1 Z9.out.fs))), .inl (List.map_eq_nil_iff.2 (List.eq_nil_of_length_eq_zero (Nat.le_zero.1 Z9.out.zs))), .inl (List.map_eq_nil_iff.2 (List.eq_nil_of_length_eq_zero (Nat.le_zero.1 Z9.out.ss))), HR_las.out, .inl (List.map_eq_nil_iff.2 (List.eq_nil_of_length_eq_zero (Nat.le_zero.1 Z9.out.rs))), HR_ds.out, .inl (List.map_eq_nil_iff.2 (List.eq_nil_of_length_eq_zero (Nat.le_zero.1 Z9.out.lns))), hord⟩)
  have HCE : Hid (TbCap (mirrorR t) a1) := hQ0 (by
   show TbCap (Tb.tn (t.mv (fun x => -x) (fun y => y))) a1
   rw [← HT1.out]
   have h := HC1.out
   exact ⟨⟨by simpa [Tb.tn] using h.ss, by simpa [Tb.tn] using h.rs, by simpa [Tb.tn] using h.lns⟩, h.ok⟩)
  rw [hTE] at HX3
  obtain ⟨t2, ht2⟩ : ∃ z, z = mirrorR t := ⟨_, rfl⟩
  rw [← ht2] at HX3 HSE HCE
  have HT2 := hQ0 ht2
  clear ht2
  refine wp_region_lit ?_
  apply wpL_maybe true (by exact rfl) (t2.v a1)
  (case h => intro _; exact load_tb _ _ 1 rfl w.heap.size (by first | rfl | (go_simp; done)) t2 a1 _ HX3.out)
  intro K hK; go_simp; apply hK; clear hK K
  (try go_simp)
  refine wpList_store_tb rfl (.tmp 2) (.tmp 165) rfl sb _ (by go_simp) t2 a1 (by go_simp; first | done | rfl) HR3.out rfl ?_
  go_simp
  go_wp2_with fail
  have hlv := loadv_tb sb t2 a1 _ (stored_tb sb _ t2 a1 v0 HR3.out rfl)
  refine bodyPost_ret (v := t2.v a1) (by simp only [results, Tryz.results22]; simp [hlv, asAddr]) rfl ?_
  rw [← HT2.out]
  refine ⟨a1, rfl, below_setCells (by have := HSB.out; omega) _ _ HB3.out, ⟨bb, by omega, ?_⟩, HCE.out⟩
  exact HSE.out.but (but_setCells sb 0 _ v0) (by have := HSB.out; omega)
theorem ownF_below {w w1 : World} {base B : Nat} {e : TypeId} {size n : Nat} {v : Value} {xs : List Value} (h : w.ownsRowF base e size v n xs) (hb : Below B w w1) (hB : w.heap.size ≤ B) : w1.ownsRowF base e size v n xs := by
 obtain ⟨h1, h2⟩ := h
 refine ⟨h1, ?_⟩
 rcases h2 with h2 | ⟨g, cap, cur, fz, hv, hg, hh, r⟩
 · exact .inl h2
 · exact .inr ⟨g, cap, cur, fz, hv, hg, by rw [hb.block g (by have := (Array.getElem?_eq_some_iff.1 hh).1; omega)]; exact hh, r⟩
theorem isbF_below {T e : TypeId} {B b N : Nat} {bs : List Value} {w w' : World} (h : Lib.IsBuilderF T e B b bs w) (hb : Below N w w') (hN : w.heap.size ≤ N) : Lib.IsBuilderF T e B b bs w' := by
 have go : ∀ p, Lib.BuilderAtF T e B b p bs w → Lib.BuilderAtF T e B b p bs w' := fun p h => by
  obtain ⟨hB, v, hbk, hown, hne⟩ := h
  have hlt := (Array.getElem?_eq_some_iff.1 hbk).1
  exact ⟨hB, v, (hb.block b (Nat.lt_of_lt_of_le hlt hN)).trans hbk, ownF_below hown hb hN, hne⟩
 exact h.elim (fun h => .inl (go _ h)) (fun h => .inr (go _ h))
abbrev WB (b : Nat) (bs : List UInt8) (w : World) : Prop := Lib.IsBuilder 191 5 b b (Lib.byteCells bs) w
theorem wr_any (b : Nat) (bs : List UInt8) (s : ByteArray) (w : World) (h : WB b bs w) (hlen : bs.length + s.size ≤ 2000000000) (hBw : b ≤ w.heap.size) :
  Calls Tryz.prog 114 #[.pointer (some ⟨b, 0, none⟩), .string s] w fun e w' => e = .returned (.tuple #[.int .i64 s.size, .nilIface]) ∧ WB b (bs ++ s.data.toList) w' ∧ Below b w w' ∧ Kept b w w' := by
 refine (writes_any b b (Lib.byteCells bs) s w h (by rw [Lib.byteCells_length]; omega) hBw).mono ?_
 rintro e w' ⟨he, h1, h2, h3⟩
 refine ⟨he, ?_, h2, h3⟩
 show Lib.IsBuilder _ _ _ _ (Lib.byteCells (bs ++ s.data.toList)) w'
 rw [Lib.byteCells_append, ← Lib.strCells_eq]
 exact h1
def okF (x : IV) : Prop := okX x ∧ ∀ k ∈ x.keys, ∀ n ∈ k.vals, -9223372036854775808 ≤ n ∧ n ≤ 9223372036854775807
theorem flat_take {α : Type} (f : α → List UInt8) {l : List α} {k : Nat} {x : α} (h : l[k]? = some x) : (l.take (k + 1)).flatMap f = (l.take k).flatMap f ++ f x := by
 rw [List.take_add_one, h]
 simp
theorem flat_le {α : Type} (f : α → List UInt8) (l : List α) (k : Nat) : ((l.take k).flatMap f).length ≤ (l.flatMap f).length := by
 conv => rhs; rw [← List.take_append_drop k l]
 rw [List.flatMap_append, List.length_append]
 omega
theorem flat_le1 {α : Type} (f : α → List UInt8) {l : List α} {k : Nat} {x : α} (h : l[k]? = some x) : ((l.take k).flatMap f).length + (f x).length ≤ (l.flatMap f).length := by
 have := flat_le f l (k + 1)
 rw [flat_take f h, List.length_append] at this
 exact this
theorem str_add (b : ByteArray) : ((⟨#[32]⟩ : ByteArray) ++ b).data.toList = 32 :: b.data.toList := by
 rw [ByteArray.data_append, Array.toList_append]; rfl
theorem str_addsize (b : ByteArray) : ((⟨#[32]⟩ : ByteArray) ++ b).size = b.size + 1 := by
 rw [ByteArray.size_append]; show 1 + b.size = _; omega
def FmtOut (R : ByteArray × Bool) (w : World) (e : Ending) (w' : World) : Prop := e = .returned (.tuple #[.string R.1, .bool R.2]) ∧ Below w.heap.size w w'
set_option maxRecDepth 100000 in
set_option maxHeartbeats 8000000 in
theorem format_any (l : List IV) (A : Option Addr) (c : Nat) (w : World) (hA : XsAt w A l) (ht : Tabs w) (hl : l.length ≤ 1000000) (hok : ∀ x ∈ l, okF x) (hsz : (textB l).length ≤ 1000000000) :
  Calls Tryz.prog 59 #[.slice A l.length c] w (FmtOut (fmtR l) w) := by
 have h3 := ht.three
 have HA := hQ0 hA
 have HK := hQ0 hok
 have HT := hQ0 ht
 have HS := hQ0 hsz
 have hwb0 : WB w.heap.size (textB (l.take 0)) (w.alloc (.cells #[.pointer none, .slice none 0 0] 191)) := Lib.fresh_isBuilder _ _ _
 have HW0 := hQ0 hwb0
 clear hA hok ht hsz hwb0
 go_enter Tryz.func59, Tryz.ntmps59; (try simp only [List.append_eq, List.cons_append, List.nil_append])
 go_wp2_with fail
 go_loopw [16] (fun t wr => ∃ k : Nat, k ≤ l.length ∧ t = .int .i64 k ∧ w.heap.size + 1 ≤ wr.heap.size ∧ Below w.heap.size w wr ∧ Hid (WB w.heap.size (textB (l.take k)) wr)) (fun t _ => l.length - (intOf t).toNat)
 case atStart => exact ⟨0, by omega, rfl, by simp, (by ((with_reducible (repeat (first | exact bR _ _ | apply bS | apply bA | apply bD | refine bT ?_ (by assumption) ?_ | refine bO (by assumption) ?_ ?_))) <;> (first | omega | (simp <;> omega)))), HW0⟩
 case round =>
  obtain ⟨k, hk, rfl, hs_wr, hb_wr, HW⟩ := hrel
  have hz_wr := hb_wr.size
  by_cases hlt : k < l.length
  · obtain ⟨x, hx⟩ : ∃ x, l[k]? = some x := ⟨l[k], by simp⟩
    obtain ⟨g, o, C, q, rfl, hg, ⟨c0, c1, c2, c3⟩, hI⟩ := HA.out k x hx
    replace c0 := (hb_wr.cell (p := ⟨g, o + k * 4, none⟩) hg).trans c0
    replace c1 := (hb_wr.cell (p := ⟨g, o + k * 4 + 1, none⟩) hg).trans c1
    replace c2 := (hb_wr.cell (p := ⟨g, o + k * 4 + 2, none⟩) hg).trans c2
    replace c3 := (hb_wr.cell (p := ⟨g, o + k * 4 + 3, none⟩) hg).trans c3
    have hg' : g < wr.heap.size := by omega
    have hokx := HK.out x (List.mem_of_getElem? hx)
    have hxl : (textB (l.take k)).length + (itemB x).length ≤ 1000000000 := Nat.le_trans (flat_le1 itemB hx) HS.out
    have hxe : (itemB x).length = (headB x).length + (x.keys.flatMap keyB).length + 2 := by unfold itemB; simp only [List.length_append, List.length_cons, List.length_nil]
    have i1 : (k : Int) < (l.length : Int) := by omega
    obtain ⟨⟨hkl, hvl⟩, hrg⟩ := hokx
    have HI := hQ0 hI
    have HB := hQ0 hb_wr
    have HWa : Hid (WB w.heap.size (textB (l.take k)) (wr.alloc (.cells #[.string x.word, .string x.name, .slice C x.keys.length q, .int .i64 x.at_] 97))) := hQ0 (isb_below HW.out ((Below.refl wr.heap.size wr).alloc (Nat.le_refl _) _) (Nat.le_refl _))
    have HX := hQ0 (CX.new wr #[.string x.word, .string x.name, .slice C x.keys.length q, .int .i64 x.at_] 97)
    clear hI hb_wr
    by_cases hn : x.name = ⟨#[]⟩
    · have b1 : (x.name.toList == []) = true := txt_eqL hn
      have hh : headB x = x.word.data.toList := by unfold headB; rw [if_pos hn, List.append_nil]
      have hhl : (headB x).length = x.word.size := by rw [hh, Array.length_toList]; rfl
      clear hn
      go_wp2_with (go_at_call 114; refine (wr_any _ _ x.word _ HWa.out (by omega) (by simp; omega)).mono ?_; rintro e w1 ⟨rfl, hw1, hb1, hk1⟩; obtain ⟨d0, d1, d2, d3, dz, dl⟩ := (HX.out.kept hk1 (by omega) (by decide)).c4)
      rw [← hh] at hw1
      have hbm : Below w.heap.size w w1 := (HB.out.alloc hz_wr _).trans hb1
      have hsm : w.heap.size + 1 ≤ w1.heap.size := by have := hb1.size; simp at this; omega
      have HM := hQ0 hw1
      clear hw1 hb1 hk1 HX HWa
      have hz_m := hbm.size
      go_loopw [33] (fun t wr => ∃ j : Nat, j ≤ x.keys.length ∧ t = .int .i64 j ∧ w.heap.size + 1 ≤ wr.heap.size ∧ Below w.heap.size w wr ∧ Hid (WB w.heap.size (textB (l.take k) ++ headB x ++ (x.keys.take j).flatMap keyB) wr)) (fun t _ => x.keys.length - (intOf t).toNat)
      case atStart => exact ⟨0, by omega, rfl, hsm, hbm, hQ0 (by simpa using HM.out)⟩
      case round =>
       obtain ⟨j, hj, rfl, hs2, hb2, HW2⟩ := hrel
       have hz2 := hb2.size
       by_cases hjl : j < x.keys.length
       · obtain ⟨y, hy⟩ : ∃ y, x.keys[j]? = some y := ⟨x.keys[j], by simp⟩
         obtain ⟨g2, o2, C2, q2, rfl, hg2, ⟨e0, e1, e2⟩, hI2⟩ := HI.out j y hy
         replace e0 := (hb2.cell (p := ⟨g2, o2 + j * 3, none⟩) hg2).trans e0
         replace e1 := (hb2.cell (p := ⟨g2, o2 + j * 3 + 1, none⟩) hg2).trans e1
         replace e2 := (hb2.cell (p := ⟨g2, o2 + j * 3 + 2, none⟩) hg2).trans e2
         have hg2' : g2 < wr.heap.size := by omega
         have hyl := flat_le1 keyB hy
         have hye : (keyB y).length = y.key.size + 1 + (valsB y.vals).length := by
          unfold keyB
          simp only [List.length_append, List.length_cons, Array.length_toList]
          show y.key.size + 1 + _ = _
          omega
         have i2 : (j : Int) < (x.keys.length : Int) := by omega
         have i3 : ¬ 9223372036854775807 < 1 + y.key.size := by omega
         have i3' : ¬ 9223372036854775807 < y.key.size + 1 := by omega
         have HI2 := hQ0 hI2
         have HB2 := hQ0 hb2
         have hvy := hvl y (List.mem_of_getElem? hy)
         have HRG := hQ0 (hrg y (List.mem_of_getElem? hy))
         have HWb : Hid (WB w.heap.size (textB (l.take k) ++ headB x ++ (x.keys.take j).flatMap keyB) (wr.alloc (.cells #[.string y.key, .slice C2 y.vals.length q2, .int .i64 y.at_] 120))) := hQ0 (isb_below HW2.out ((Below.refl wr.heap.size wr).alloc (Nat.le_refl _) _) (Nat.le_refl _))
         have HK2 := hQ0 (CX.new wr #[.string y.key, .slice C2 y.vals.length q2, .int .i64 y.at_] 120)
         clear hI2 hb2
         go_wp2_with (go_at_call 114; refine (wr_any _ _ ((⟨#[32]⟩ : ByteArray) ++ y.key) _ HWb.out (by rw [str_addsize]; simp only [List.length_append]; omega) (by simp; omega)).mono ?_; rintro e w4 ⟨rfl, hw4, hb4, hk4⟩; obtain ⟨f0, f1, f2, fz, fl⟩ := (HK2.out.kept hk4 (by omega) (by decide)).c3)
         rw [str_add] at hw4
         have hb5 : Below w.heap.size w w4 := (HB2.out.alloc hz2 _).trans hb4
         have hs5 : w.heap.size + 1 ≤ w4.heap.size := by have := hb4.size; simp at this; omega
         have HW5 := hQ0 hw4
         clear hw4 hb4 hk4 HK2 HWb
         go_loopw [44] (fun t wr => ∃ i : Nat, i ≤ y.vals.length ∧ t = .int .i64 i ∧ w.heap.size + 1 ≤ wr.heap.size ∧ Below w.heap.size w wr ∧ Hid (WB w.heap.size (textB (l.take k) ++ headB x ++ (x.keys.take j).flatMap keyB ++ 32 :: y.key.data.toList ++ valsB (y.vals.take i)) wr)) (fun t _ => y.vals.length - (intOf t).toNat)
         case atStart => exact ⟨0, by omega, rfl, hs5, hb5, hQ0 (by simpa [valsB] using HW5.out)⟩
         case round =>
          obtain ⟨i, hi, rfl, hs6, hb6, HW6⟩ := hrel
          have hz6 := hb6.size
          by_cases hil : i < y.vals.length
          · obtain ⟨n, hn⟩ : ∃ n, y.vals[i]? = some n := ⟨y.vals[i], by simp⟩
            obtain ⟨g3, o3, rfl, hg3, r0⟩ := HI2.out i n hn
            replace r0 := (hb6.cell (p := ⟨g3, o3 + i, none⟩) hg3).trans r0
            have hg3' : g3 < wr.heap.size := by omega
            have i4 : (i : Int) < (y.vals.length : Int) := by omega
            have hnl := flat_le1 (fun n => 32 :: Lib.itoa n) hn
            simp only [List.length_cons] at hnl
            have hvb : (valsB y.vals).length = (y.vals.flatMap fun n => 32 :: Lib.itoa n).length := rfl
            have hvb2 : (valsB (y.vals.take i)).length = ((y.vals.take i).flatMap fun n => 32 :: Lib.itoa n).length := rfl
            obtain ⟨n0, n1⟩ := HRG.out n (List.mem_of_getElem? hn)
            obtain ⟨N, hN⟩ : ∃ N : ByteArray, N = ⟨(Lib.itoa n).toArray⟩ := ⟨_, rfl⟩
            have hNs : N.size = (Lib.itoa n).length := by rw [hN]; simp [ByteArray.size]
            have HNe := hQ0 hN
            have i5 : ¬ 9223372036854775807 < 1 + N.size := by omega
            have i5' : ¬ 9223372036854775807 < N.size + 1 := by omega
            have KI := fun (W : World) (h : Tabs W) => itoa_any n n0 n1 W h
            rw [← hN] at KI
            have HB6 := hQ0 hb6
            clear hN hb6 n0 n1
            go_wp2_with (first | (go_at_call 115; refine (KI _ (HT.out.below HB6.out h3)).mono ?_; rintro e w7 ⟨rfl, hb7⟩) | (go_at_call 114; refine (wr_any _ _ ((⟨#[32]⟩ : ByteArray) ++ N) _ (isb_below HW6.out hb7 (Nat.le_refl _)) (by rw [str_addsize]; simp only [List.length_append, List.length_cons, Array.length_toList]; show _ + (y.key.size + 1) + _ + _ ≤ _; omega) (by have := hb7.size; omega)).mono ?_; rintro e w8 ⟨rfl, hw8, hb8, hk8⟩))
            have hNd : N.data.toList = Lib.itoa n := by rw [HNe.out]
            have hva : valsB (y.vals.take (i + 1)) = valsB (y.vals.take i) ++ 32 :: Lib.itoa n := flat_take (fun n => 32 :: Lib.itoa n) hn
            rw [str_add, hNd] at hw8
            have hb9 := (HB6.out.trans (hb7.mono hz6)).trans hb8
            have hs9 : w.heap.size + 1 ≤ w8.heap.size := by have := hb7.size; have := hb8.size; omega
            go_roundw
            case rel => exact ⟨i + 1, by omega, by go_num, hs9, hb9, hQ0 (by rw [hva, ← List.append_assoc]; exact hw8)⟩
            case measure => simp [intOf]; omega
          · obtain rfl : i = y.vals.length := by omega
            rw [List.take_length] at HW6
            go_wp2_with fail
            go_roundw
            case rel => exact ⟨j + 1, by omega, by go_num, hs6, hb6, hQ0 (by rw [flat_take keyB hy, show keyB y = 32 :: y.key.data.toList ++ valsB y.vals from rfl, ← List.append_assoc, ← List.append_assoc]; exact HW6.out)⟩
            case measure => simp [intOf]; omega
       · obtain rfl : j = x.keys.length := by omega
         rw [List.take_length] at HW2
         have HB2 := hQ0 hb2
         clear hb2
         go_wp2_with (go_at_call 114; refine (wr_any _ _ _ _ HW2.out (by simp only [List.length_append]; show _ + 2 ≤ _; omega) (by omega)).mono ?_; rintro e w4 ⟨rfl, hw4, hb4, hk4⟩)
         have hb5 := HB2.out.trans hb4
         have hs5 : w.heap.size + 1 ≤ w4.heap.size := by have := hb4.size; omega
         go_roundw
         case rel => exact ⟨k + 1, by omega, by go_num, hs5, hb5, hQ0 (by show WB _ ((l.take (k + 1)).flatMap itemB) w4; rw [flat_take itemB hx, show itemB x = headB x ++ x.keys.flatMap keyB ++ [59, 10] from rfl, ← List.append_assoc, ← List.append_assoc]; exact hw4)⟩
         case measure => simp [intOf]; omega
    · have b1 : (x.name.toList == []) = false := txt_neL hn
      have hh : headB x = x.word.data.toList ++ 32 :: x.name.data.toList := by unfold headB; rw [if_neg hn]
      have hhl : (headB x).length = x.word.size + (x.name.size + 1) := by
       have e1 : x.word.data.toList.length = x.word.size := Array.length_toList
       have e2 : x.name.data.toList.length = x.name.size := Array.length_toList
       rw [hh, List.length_append, List.length_cons, e1, e2]
      have i9 : ¬ 9223372036854775807 < 1 + x.name.size := by omega
      have i9' : ¬ 9223372036854775807 < x.name.size + 1 := by omega
      clear hn
      go_wp2_with (first | (go_at_call 114; have hq := hw1; refine (wr_any _ _ ((⟨#[32]⟩ : ByteArray) ++ x.name) _ hw1 (by have e1 : x.word.data.toList.length = x.word.size := Array.length_toList; rw [str_addsize, List.length_append, e1]; omega) (by have := hb1.size; simp at this; omega)).mono ?_; rintro e w2 ⟨rfl, hw2, hb2, hk2⟩; obtain ⟨s0, s1, s2, s3, sz, sl⟩ := ((HX.out.kept hk1 (by omega) (by decide)).kept hk2 (by omega) (by decide)).c4) | (go_at_call 114; refine (wr_any _ _ x.word _ HWa.out (by omega) (by simp; omega)).mono ?_; rintro e w1 ⟨rfl, hw1, hb1, hk1⟩; obtain ⟨d0, d1, d2, d3, dz, dl⟩ := (HX.out.kept hk1 (by omega) (by decide)).c4))
      rw [str_add, List.append_assoc, ← hh] at hw2
      have hbm : Below w.heap.size w w2 := ((HB.out.alloc hz_wr _).trans hb1).trans hb2
      have hsm : w.heap.size + 1 ≤ w2.heap.size := by have := hb1.size; have := hb2.size; simp at *; omega
      have HM := hQ0 hw2
      clear hw1 hb1 hk1 hw2 hb2 hk2 HX HWa d0 d1 d2 d3 dz dl s0 s1 s2 s3 sz sl
      have hz_m := hbm.size
      go_loopw [33] (fun t wr => ∃ j : Nat, j ≤ x.keys.length ∧ t = .int .i64 j ∧ w.heap.size + 1 ≤ wr.heap.size ∧ Below w.heap.size w wr ∧ Hid (WB w.heap.size (textB (l.take k) ++ headB x ++ (x.keys.take j).flatMap keyB) wr)) (fun t _ => x.keys.length - (intOf t).toNat)
      case atStart => exact ⟨0, by omega, rfl, hsm, hbm, hQ0 (by simpa using HM.out)⟩
      case round =>
       obtain ⟨j, hj, rfl, hs2, hb2, HW2⟩ := hrel
       have hz2 := hb2.size
       by_cases hjl : j < x.keys.length
       · obtain ⟨y, hy⟩ : ∃ y, x.keys[j]? = some y := ⟨x.keys[j], by simp⟩
         obtain ⟨g2, o2, C2, q2, rfl, hg2, ⟨e0, e1, e2⟩, hI2⟩ := HI.out j y hy
         replace e0 := (hb2.cell (p := ⟨g2, o2 + j * 3, none⟩) hg2).trans e0
         replace e1 := (hb2.cell (p := ⟨g2, o2 + j * 3 + 1, none⟩) hg2).trans e1
         replace e2 := (hb2.cell (p := ⟨g2, o2 + j * 3 + 2, none⟩) hg2).trans e2
         have hg2' : g2 < wr.heap.size := by omega
         have hyl := flat_le1 keyB hy
         have hye : (keyB y).length = y.key.size + 1 + (valsB y.vals).length := by
          unfold keyB
          simp only [List.length_append, List.length_cons, Array.length_toList]
          show y.key.size + 1 + _ = _
          omega
         have i2 : (j : Int) < (x.keys.length : Int) := by omega
         have i3 : ¬ 9223372036854775807 < 1 + y.key.size := by omega
         have i3' : ¬ 9223372036854775807 < y.key.size + 1 := by omega
         have HI2 := hQ0 hI2
         have HB2 := hQ0 hb2
         have hvy := hvl y (List.mem_of_getElem? hy)
         have HRG := hQ0 (hrg y (List.mem_of_getElem? hy))
         have HWb : Hid (WB w.heap.size (textB (l.take k) ++ headB x ++ (x.keys.take j).flatMap keyB) (wr.alloc (.cells #[.string y.key, .slice C2 y.vals.length q2, .int .i64 y.at_] 120))) := hQ0 (isb_below HW2.out ((Below.refl wr.heap.size wr).alloc (Nat.le_refl _) _) (Nat.le_refl _))
         have HK2 := hQ0 (CX.new wr #[.string y.key, .slice C2 y.vals.length q2, .int .i64 y.at_] 120)
         clear hI2 hb2
         go_wp2_with (go_at_call 114; refine (wr_any _ _ ((⟨#[32]⟩ : ByteArray) ++ y.key) _ HWb.out (by rw [str_addsize]; simp only [List.length_append]; omega) (by simp; omega)).mono ?_; rintro e w4 ⟨rfl, hw4, hb4, hk4⟩; obtain ⟨f0, f1, f2, fz, fl⟩ := (HK2.out.kept hk4 (by omega) (by decide)).c3)
         rw [str_add] at hw4
         have hb5 : Below w.heap.size w w4 := (HB2.out.alloc hz2 _).trans hb4
         have hs5 : w.heap.size + 1 ≤ w4.heap.size := by have := hb4.size; simp at this; omega
         have HW5 := hQ0 hw4
         clear hw4 hb4 hk4 HK2 HWb
         go_loopw [44] (fun t wr => ∃ i : Nat, i ≤ y.vals.length ∧ t = .int .i64 i ∧ w.heap.size + 1 ≤ wr.heap.size ∧ Below w.heap.size w wr ∧ Hid (WB w.heap.size (textB (l.take k) ++ headB x ++ (x.keys.take j).flatMap keyB ++ 32 :: y.key.data.toList ++ valsB (y.vals.take i)) wr)) (fun t _ => y.vals.length - (intOf t).toNat)
         case atStart => exact ⟨0, by omega, rfl, hs5, hb5, hQ0 (by simpa [valsB] using HW5.out)⟩
         case round =>
          obtain ⟨i, hi, rfl, hs6, hb6, HW6⟩ := hrel
          have hz6 := hb6.size
          by_cases hil : i < y.vals.length
          · obtain ⟨n, hn⟩ : ∃ n, y.vals[i]? = some n := ⟨y.vals[i], by simp⟩
            obtain ⟨g3, o3, rfl, hg3, r0⟩ := HI2.out i n hn
            replace r0 := (hb6.cell (p := ⟨g3, o3 + i, none⟩) hg3).trans r0
            have hg3' : g3 < wr.heap.size := by omega
            have i4 : (i : Int) < (y.vals.length : Int) := by omega
            have hnl := flat_le1 (fun n => 32 :: Lib.itoa n) hn
            simp only [List.length_cons] at hnl
            have hvb : (valsB y.vals).length = (y.vals.flatMap fun n => 32 :: Lib.itoa n).length := rfl
            have hvb2 : (valsB (y.vals.take i)).length = ((y.vals.take i).flatMap fun n => 32 :: Lib.itoa n).length := rfl
            obtain ⟨n0, n1⟩ := HRG.out n (List.mem_of_getElem? hn)
            obtain ⟨N, hN⟩ : ∃ N : ByteArray, N = ⟨(Lib.itoa n).toArray⟩ := ⟨_, rfl⟩
            have hNs : N.size = (Lib.itoa n).length := by rw [hN]; simp [ByteArray.size]
            have HNe := hQ0 hN
            have i5 : ¬ 9223372036854775807 < 1 + N.size := by omega
            have i5' : ¬ 9223372036854775807 < N.size + 1 := by omega
            have KI := fun (W : World) (h : Tabs W) => itoa_any n n0 n1 W h
            rw [← hN] at KI
            have HB6 := hQ0 hb6
            clear hN hb6 n0 n1
            go_wp2_with (first | (go_at_call 115; refine (KI _ (HT.out.below HB6.out h3)).mono ?_; rintro e w7 ⟨rfl, hb7⟩) | (go_at_call 114; refine (wr_any _ _ ((⟨#[32]⟩ : ByteArray) ++ N) _ (isb_below HW6.out hb7 (Nat.le_refl _)) (by rw [str_addsize]; simp only [List.length_append, List.length_cons, Array.length_toList]; show _ + (y.key.size + 1) + _ + _ ≤ _; omega) (by have := hb7.size; omega)).mono ?_; rintro e w8 ⟨rfl, hw8, hb8, hk8⟩))
            have hNd : N.data.toList = Lib.itoa n := by rw [HNe.out]
            have hva : valsB (y.vals.take (i + 1)) = valsB (y.vals.take i) ++ 32 :: Lib.itoa n := flat_take (fun n => 32 :: Lib.itoa n) hn
            rw [str_add, hNd] at hw8
            have hb9 := (HB6.out.trans (hb7.mono hz6)).trans hb8
            have hs9 : w.heap.size + 1 ≤ w8.heap.size := by have := hb7.size; have := hb8.size; omega
            go_roundw
            case rel => exact ⟨i + 1, by omega, by go_num, hs9, hb9, hQ0 (by rw [hva, ← List.append_assoc]; exact hw8)⟩
            case measure => simp [intOf]; omega
          · obtain rfl : i = y.vals.length := by omega
            rw [List.take_length] at HW6
            go_wp2_with fail
            go_roundw
            case rel => exact ⟨j + 1, by omega, by go_num, hs6, hb6, hQ0 (by rw [flat_take keyB hy, show keyB y = 32 :: y.key.data.toList ++ valsB y.vals from rfl, ← List.append_assoc, ← List.append_assoc]; exact HW6.out)⟩
            case measure => simp [intOf]; omega
       · obtain rfl : j = x.keys.length := by omega
         rw [List.take_length] at HW2
         have HB2 := hQ0 hb2
         clear hb2
         go_wp2_with (go_at_call 114; refine (wr_any _ _ _ _ HW2.out (by simp only [List.length_append]; show _ + 2 ≤ _; omega) (by omega)).mono ?_; rintro e w4 ⟨rfl, hw4, hb4, hk4⟩)
         have hb5 := HB2.out.trans hb4
         have hs5 : w.heap.size + 1 ≤ w4.heap.size := by have := hb4.size; omega
         go_roundw
         case rel => exact ⟨k + 1, by omega, by go_num, hs5, hb5, hQ0 (by show WB _ ((l.take (k + 1)).flatMap itemB) w4; rw [flat_take itemB hx, show itemB x = headB x ++ x.keys.flatMap keyB ++ [59, 10] from rfl, ← List.append_assoc, ← List.append_assoc]; exact hw4)⟩
         case measure => simp [intOf]; omega
  · obtain rfl : k = l.length := by omega
    rw [List.take_length] at HW
    have HB := hQ0 hb_wr
    have hsz := HS.out
    obtain ⟨Tx, hTx⟩ : ∃ Tx : ByteArray, Tx = ⟨(textB l).toArray⟩ := ⟨_, rfl⟩
    have hTs : Tx.size ≤ 1000000000 := by rw [hTx]; exact hsz
    have KP := fun (W : World) (h : Tabs W) => parse_any Tx W (by unfold maxLen; omega) h
    obtain ⟨hP1, hP2⟩ := parseR_ok Tx okX (fun l' x r h1 h2 h3 => by
     have := scanR_len Tx
     have h4 := (itemF_len h3).2
     refine ⟨by omega, fun k hk => ?_⟩
     have := itemF_two h3 k hk
     omega)
    have hR : fmtR l = if (parseR Tx).2.1 ≠ 0 ∨ eqL eqX (parseR Tx).1 l = false then (⟨#[]⟩, false) else (Tx, true) := by rw [hTx]; rfl
    obtain ⟨⟨Lp, er, pp⟩, hPR⟩ : ∃ R, R = parseR Tx := ⟨_, rfl⟩
    rw [← hPR] at KP hP1 hP2 hR
    simp only at hP1 hP2 hR KP
    have HP2 := hQ0 hP2
    have HTX := hQ0 hTx
    have HRf := hQ0 hR
    clear hP2 hPR hsz hR hb_wr hTx
    by_cases her : er = 0
    · subst her
      cases hEQ : eqL eqX Lp l
      · have hres := hQ0 (HRf.out.trans (if_pos (.inr hEQ)))
        go_wp2_with (first | (go_at_call 116; refine (Tryz.Builder_String_any_f w.heap.size w.heap.size (textB l) _ (Lib.IsBuilderF.of HW.out) (by omega)).mono ?_; rintro e w1 ⟨rfl, hf1, hb1⟩; have hz1 := hb1.size; rw [← HTX.out]) | (go_at_call 39; refine (KP _ (HT.out.below (HB.out.trans hb1) h3)).mono ?_; rintro e w2 ⟨hb2, A2, c2, rfl, hx2⟩; have hz2 := hb2.size) | (go_at_call 117; refine (eqfx_any Lp l A2 A c2 c _ hx2.at (HA.out.below (HB.out.trans hb1 |>.trans (hb2.mono (by omega))) (Nat.le_refl _)) (by omega) (by omega) HP2.out (fun x hx => (HK.out x hx).1)).mono ?_; rintro e w3 ⟨rfl, hb3⟩; have hz3 := hb3.size; rw [hEQ]))
        go_ret2
        exact ⟨by rw [hres.out]; rfl, ((HB.out.trans hb1).trans (hb2.mono (by omega))).trans (hb3.mono (by omega))⟩
      · have hres := hQ0 (HRf.out.trans (if_neg (by simp [hEQ])))
        go_wp2_with (first | (go_at_call 116; refine (Tryz.Builder_String_any_f w.heap.size w.heap.size (textB l) _ (Lib.IsBuilderF.of HW.out) (by omega)).mono ?_; rintro e w1 ⟨rfl, hf1, hb1⟩; have hz1 := hb1.size; rw [← HTX.out]) | (go_at_call 39; refine (KP _ (HT.out.below (HB.out.trans hb1) h3)).mono ?_; rintro e w2 ⟨hb2, A2, c2, rfl, hx2⟩; have hz2 := hb2.size) | (go_at_call 117; refine (eqfx_any Lp l A2 A c2 c _ hx2.at (HA.out.below (HB.out.trans hb1 |>.trans (hb2.mono (by omega))) (Nat.le_refl _)) (by omega) (by omega) HP2.out (fun x hx => (HK.out x hx).1)).mono ?_; rintro e w3 ⟨rfl, hb3⟩; have hz3 := hb3.size; rw [hEQ]) | (go_at_call 116; refine (Tryz.Builder_String_any_f w.heap.size w.heap.size (textB l) _ (isbF_below (isbF_below hf1 hb2 (Nat.le_refl _)) hb3 (Nat.le_refl _)) (by omega)).mono ?_; rintro e w4 ⟨rfl, hf4, hb4⟩; rw [← HTX.out]))
        go_ret2
        exact ⟨by rw [hres.out]; rfl, (((HB.out.trans hb1).trans (hb2.mono (by omega))).trans (hb3.mono (by omega))).trans hb4⟩
    · have hres := hQ0 (HRf.out.trans (if_pos (.inl her)))
      go_wp2_with (first | (go_at_call 116; refine (Tryz.Builder_String_any_f w.heap.size w.heap.size (textB l) _ (Lib.IsBuilderF.of HW.out) (by omega)).mono ?_; rintro e w1 ⟨rfl, hf1, hb1⟩; have hz1 := hb1.size; rw [← HTX.out]) | (go_at_call 39; refine (KP _ (HT.out.below (HB.out.trans hb1) h3)).mono ?_; rintro e w2 ⟨hb2, A2, c2, rfl, hx2⟩; have hz2 := hb2.size))
      go_ret2
      exact ⟨by rw [hres.out]; rfl, (HB.out.trans hb1).trans (hb2.mono (by omega))⟩
theorem own_shrink {w : World} {base g c n m size : Nat} {e : TypeId} {xs ys : List Value} (h : w.ownsRow base e size (.slice (some ⟨g, 0, none⟩) n c) n (xs ++ ys)) (hx : xs.length = m * size) (hm : m ≤ n) : w.ownsRow base e size (.slice (some ⟨g, 0, none⟩) m c) m xs := by
 obtain ⟨h1, h2⟩ := h
 rcases h2 with ⟨hv, _⟩ | ⟨g', cap, cur, hv, hb, hh, hc, hcm, hcs, ht⟩
 · cases hv
 · simp only [Value.slice.injEq, Option.some.injEq, Addr.mk.injEq, and_true, true_and] at hv
   obtain ⟨rfl, rfl⟩ := hv
   refine ⟨hx, .inr ⟨g, c, cur, rfl, hb, hh, by omega, hcm, hcs, ?_⟩⟩
   have e2 : (cur.toList.take (n * size)).take (m * size) = xs := by rw [ht, List.take_append_of_le_length (by omega), List.take_of_length_le (by omega)]
   rw [List.take_take, Nat.min_eq_left (Nat.mul_le_mul_right _ hm)] at e2
   exact e2
def StAny (word name : ByteArray) (l : List KP) (g base : Nat) (w : World) (e : Ending) (w' : World) : Prop := ∃ c, e = .returned (.agg #[.string word, .string name, .slice (some ⟨g, 0, none⟩) l.length c, .int .i64 0]) ∧ But g w w' ∧ w'.ownsRow base 120 3 (.slice (some ⟨g, 0, none⟩) l.length c) l.length (l.flatMap kpC)
set_option maxRecDepth 100000 in
set_option maxHeartbeats 2000000 in
theorem st_oneO (word name : ByteArray) (pre post : List KP) (p0 : KP) (g cap base N : Nat) (w : World) (hN : N = pre.length + (post.length + 1)) (hR : w.ownsRow base 120 3 (.slice (some ⟨g, 0, none⟩) N cap) N ((pre ++ p0 :: post).flatMap kpC)) (hl : N ≤ 1000) (hne : ∀ p ∈ pre, ¬ p.1.key = ⟨#[]⟩) (hne2 : ∀ p ∈ post, ¬ p.1.key = ⟨#[]⟩) (h0 : p0.1.key = ⟨#[]⟩) :
  Calls Tryz.prog 57 #[.string word, .string name, .slice (some ⟨g, 0, none⟩) N cap] w (StAny word name (pre ++ post) g base w) := by
 have hg : g < w.heap.size := (World.ownsRow.lt hR g rfl).2
 have hbg : base ≤ g := (World.ownsRow.lt hR g rfl).1
 have K := del_one pre post p0 g cap base N _ hN (own_below hR ((Below.refl w.heap.size w).alloc (Nat.le_refl _) (.cells #[.string ⟨#[]⟩, .string ⟨#[]⟩, .slice none 0 0, .int .i64 0] 97)) (Nat.le_refl _)) hl hne hne2 h0
 have HK := hQ0 K
 have HN := hQ0 hN
 clear K hne hne2 h0 hN hR
 go_enter Tryz.func57, Tryz.ntmps57; (try simp only [List.append_eq, List.cons_append, List.nil_append])
 go_wp2_with fail
 (go_at_call 112; refine HK.out.mono ?_; rintro e w1 ⟨rfl, hb1, hR1⟩)
 have hX := (BoxAt.new w [.string ⟨#[]⟩, .string ⟨#[]⟩, .slice none 0 0, .int .i64 0] 97).block hb1.size (hb1.block _ (by simp) (by omega))
 have x0 := hX.c 0 _ rfl
 have x1 := hX.c 1 _ rfl
 have x2 := hX.c 2 _ rfl
 have x3 := hX.c 3 _ rfl
 have xz := hX.fz
 have xl := hX.lt
 have hz1 := hb1.size
 simp at hz1
 have HB1 : Hid (But g w w1) := hQ0 (((But.refl g w).alloc _).trans hb1)
 have HR1 := hQ0 hR1
 clear hX HK hb1 hR1
 go_wp2_with fail
 refine bodyPost_ret (v := .agg #[.string word, .string name, .slice (some ⟨g, 0, none⟩) (pre.length + post.length) cap, .int .i64 0]) (by simp only [results, Tryz.results57]; go_simp) rfl ?_
 have hb : But g w ((((w1.setCell ⟨w.heap.size, 0, none⟩ (.string word)).setCell ⟨w.heap.size, 1, none⟩ (.string name)).setCell ⟨w.heap.size, 2, none⟩ (.slice (some ⟨g, 0, none⟩) (pre.length + post.length) cap)).setCell ⟨w.heap.size, 3, none⟩ (.int .i64 0)) := (((HB1.out.set (p := ⟨w.heap.size, 0, none⟩) _ (.inr (Nat.le_refl _))).set (p := ⟨w.heap.size, 1, none⟩) _ (.inr (Nat.le_refl _))).set (p := ⟨w.heap.size, 2, none⟩) _ (.inr (Nat.le_refl _))).set (p := ⟨w.heap.size, 3, none⟩) _ (.inr (Nat.le_refl _))
 refine ⟨cap, by rw [List.length_append], hb, ?_⟩
 have hrow := ownsRow_block (w' := ((((w1.setCell ⟨w.heap.size, 0, none⟩ (.string word)).setCell ⟨w.heap.size, 1, none⟩ (.string name)).setCell ⟨w.heap.size, 2, none⟩ (.slice (some ⟨g, 0, none⟩) (pre.length + post.length) cap)).setCell ⟨w.heap.size, 3, none⟩ (.int .i64 0))) HR1.out (fun b hb => by
  simp only [Value.ownBlock, Option.some.injEq] at hb
  subst hb
  rw [Below.heap_setCell _ _ _ _ (by simp only; omega), Below.heap_setCell _ _ _ _ (by simp only; omega), Below.heap_setCell _ _ _ _ (by simp only; omega), Below.heap_setCell _ _ _ _ (by simp only; omega)])
 have e : (pre ++ (post ++ [zKP])).flatMap kpC = (pre ++ post).flatMap kpC ++ kpC zKP := by simp
 rw [e] at hrow
 exact own_shrink hrow (flatK _) (by have := HN.out; simp; omega)
theorem st_any (word name : ByteArray) (pre post : List KP) (p0 : KP) (g base N : Nat) (w : World) (hN : N = pre.length + (post.length + 1)) (hR : w.ownsRow base 120 3 (.slice (some ⟨g, 0, none⟩) N N) N ((pre ++ p0 :: post).flatMap kpC)) (hl : N ≤ 1000) (hne : ∀ p ∈ pre, ¬ p.1.key = ⟨#[]⟩) (hne2 : ∀ p ∈ post, ¬ p.1.key = ⟨#[]⟩) :
  Calls Tryz.prog 57 #[.string word, .string name, .slice (some ⟨g, 0, none⟩) N N] w (StAny word name (pre ++ (if p0.1.key = ⟨#[]⟩ then post else p0 :: post)) g base w) := by
 by_cases h0 : p0.1.key = ⟨#[]⟩
 · rw [if_pos h0]
   exact st_oneO word name pre post p0 g N base N w hN hR hl hne hne2 h0
 · rw [if_neg h0]
   have hlen : (pre ++ p0 :: post).length = N := by rw [hN]; simp
   have hA : RowsAt 3 kpC w (some ⟨g, 0, none⟩) (pre ++ p0 :: post) := rows_own (n := 3) (f := kpC) (by decide) (fun _ => rfl) (by rw [hlen]; exact hR)
   have K := st_noneB word name (pre ++ p0 :: post) g N w hA (by omega) (fun p hp => by
    rcases List.mem_append.1 hp with h | h
    · exact hne p h
    · rcases List.mem_cons.1 h with rfl | h
      · exact h0
      · exact hne2 p h)
   rw [hlen] at K
   refine K.mono ?_
   rintro e w' ⟨rfl, hb⟩
   refine ⟨N, by rw [hlen], But.of_below hb (Nat.le_refl _), ?_⟩
   rw [hlen]
   exact own_below hR hb (Nat.le_refl _)
theorem own_but_ty {W W' : World} {base size n g : Nat} {e e2 : TypeId} {v : Value} {xs : List Value} {cs : Array Value} (h : W.ownsRow base e size v n xs) (hg : W.heap[g]? = some (.cells cs e2)) (hne : e ≠ e2) (hb : But g W W') : W'.ownsRow base e size v n xs := by
 refine ownsRow_block h fun b hv => hb.block b (h.lt b hv).2 (fun eb => ?_)
 subst eb
 rcases h.2 with ⟨rfl, _⟩ | ⟨g', cap, cur, rfl, _, hh, _⟩
 · cases hv
 · simp only [Value.ownBlock, Option.some.injEq] at hv
   subst hv
   rw [hg] at hh
   simp only [Option.some.injEq, Obj.cells.injEq] at hh
   exact hne hh.2.1.symm
theorem SG.but {N : Nat} {W0 W W' : World} {G : List (Nat × Obj)} {g : Nat} {ob : Obj} (h : SG N W0 ((g, ob) :: G) W) (hb : But g W W') (hG : ∀ p ∈ G, p.1 ≠ g) : SG N W0 G W' := by
 have hg := (h.2 _ (List.mem_cons_self ..)).1
 refine ⟨⟨Nat.le_trans h.1.1 hb.size, h.1.2.trans (hb.toBelow hg h.1.1)⟩, fun p hp => ?_⟩
 have hp2 := h.2 p (List.mem_cons_of_mem _ hp)
 exact ⟨hp2.1, (hb.block p.1 (Array.getElem?_eq_some_iff.1 hp2.2).1 (hG p hp)).trans hp2.2⟩
theorem cl_ksown (N : Nat) (A : Option Addr) (c : Nat) (l : List KV) : Cl (fun W => KsOwn W N 120 A c l) := fun _ _ h hb => h.below hb (Nat.le_refl _)
theorem ksown_any {W W' : World} {base g : Nat} {word name : ByteArray} {pre post : List KP} {p0 : KP} {cs : Array Value} {e : Ending} (hs : StAny word name (pre ++ (if p0.1.key = ⟨#[]⟩ then post else p0 :: post)) g base W e W') (hg : W.heap[g]? = some (.cells cs 120)) (hv : ∀ p ∈ pre ++ p0 :: post, OwnI W base p.2.1 p.2.2 p.1.vals) :
  ∃ c m, m = (pre ++ (if p0.1.key = ⟨#[]⟩ then post else p0 :: post)).length ∧ e = .returned (.agg #[.string word, .string name, .slice (some ⟨g, 0, none⟩) m c, .int .i64 0]) ∧ But g W W' ∧ KsOwn W' base 120 (some ⟨g, 0, none⟩) c ((pre ++ (if p0.1.key = ⟨#[]⟩ then post else p0 :: post)).map (·.1)) := by
 obtain ⟨c, h1, h2, h3⟩ := hs
 refine ⟨c, _, rfl, h1, h2, _, rfl, by rw [List.length_map]; exact h3, fun p hp => ?_⟩
 have hp2 : p ∈ pre ++ p0 :: post := by
  rcases List.mem_append.1 hp with h | h
  · exact List.mem_append.2 (.inl h)
  · split at h
    · exact List.mem_append.2 (.inr (List.mem_cons_of_mem _ h))
    · exact List.mem_append.2 (.inr h)
 exact own_but_ty (hv p hp2) hg (by decide) h2
section
variable {P : Program} {ops : Array Oper} {md : Region.Mode} {N : Nat} {W0 : World}
structure OnlyI (md : Region.Mode) (ops : Array Oper) (n : List Nat) (i f : Nat) (oi : Oper) (listed : Array Bool) : Prop where
  dc : DC md ops listed
  rd : i ∈ Region.ready md ops listed
  cnt : ((List.range ops.size).filter fun j => !n.contains j && !(listed.getD j true)).length = f + 1
  dep : ∀ j oj, ops[j]? = some oj → listed.getD j true = false → j ≠ i → (n.contains j = false ∧ isFresh oj = true ∧ oi.apart ops oj = true) ∨ waitsJ md ops ops.size j i = true
theorem onlyI_ready {n : List Nat} {i f j : Nat} {oi : Oper} {listed : Array Bool} (h : OnlyI md ops n i f oi listed) (hj : j ∈ Region.ready md ops listed) (hji : j ≠ i) : ∃ oj, ops[j]? = some oj ∧ n.contains j = false ∧ isFresh oj = true ∧ oi.apart ops oj = true := by
 obtain ⟨hjun, oj, hoj, hw⟩ := mem_ready.1 hj
 obtain ⟨hiun, oi', hoi, _⟩ := mem_ready.1 h.rd
 rcases h.dep j oj hoj hjun hji with ⟨h1, h2, h3⟩ | h1
 · exact ⟨oj, hoj, h1, h2, h3⟩
 · exfalso
   have := waits_spec h.dc _ j i h1 (fun o ho e he hb => by
    rw [hoj] at ho
    cases ho
    exact hw e he hb)
   have hlt : i < listed.size ∨ listed.size ≤ i := by omega
   rcases hlt with hlt | hlt
   · simp [Array.getD_eq_getD_getElem?, Array.getElem?_eq_getElem hlt] at this hiun
     rw [this] at hiun
     cases hiun
   · simp [Array.getD_eq_getD_getElem?, Array.getElem?_eq_none hlt] at hiun
theorem onlyI_set {n : List Nat} {i f j : Nat} {oi : Oper} {listed : Array Bool} (h : OnlyI md ops n i (f + 1) oi listed) (hj : j ∈ Region.ready md ops listed) (hji : j ≠ i) (hn : n.contains j = false) : OnlyI md ops n i f oi (listed.setIfInBounds j true) := by
 obtain ⟨hjun, oj, hoj, hw⟩ := mem_ready.1 hj
 have hjs : j < ops.size := (Array.getElem?_eq_some_iff.1 hoj).1
 have hjl : j < listed.size := by
  rcases Nat.lt_or_ge j listed.size with h | h
  · exact h
  · simp [Array.getD_eq_getD_getElem?, Array.getElem?_eq_none h] at hjun
 have hg : ∀ k, (listed.setIfInBounds j true).getD k true = if k = j then true else listed.getD k true := fun k => by
  simp only [Array.getD_eq_getD_getElem?, Array.getElem?_setIfInBounds]
  by_cases e : j = k
  · subst e; simp [hjl]
  · rw [if_neg e, if_neg (fun q => e q.symm)]
 refine ⟨h.dc.set hj, ready_mono h.rd (fun e => hji e.symm), ?_, fun k ok hok hkun hki => ?_⟩
 · have e1 : (List.range ops.size).filter (fun k => !n.contains k && !((listed.setIfInBounds j true).getD k true)) = ((List.range ops.size).filter (fun k => !n.contains k && !(listed.getD k true))).filter (fun k => k != j) := by
    rw [List.filter_filter]
    apply List.filter_congr
    intro k _
    rw [hg]
    by_cases e : k = j
    · simp [e]
    · simp [e]
   have hnd : ((List.range ops.size).filter (fun k => !n.contains k && !(listed.getD k true))).Nodup := List.nodup_range.filter _
   have hm : j ∈ (List.range ops.size).filter (fun k => !n.contains k && !(listed.getD k true)) := by
    rw [List.mem_filter, hn, hjun]
    exact ⟨List.mem_range.2 hjs, rfl⟩
   rw [e1, ← hnd.erase_eq_filter, List.length_erase_of_mem hm, h.cnt]
   omega
 · rw [hg] at hkun
   by_cases e : k = j
   · simp [e] at hkun
   · rw [if_neg e] at hkun
     exact h.dep k ok hok hkun hki
theorem onlyQ_of {n : List Nat} {i : Nat} {oi : Oper} (hi : ops[i]? = some oi) (hin : n.contains i = false) : ∀ (f : Nat) (listed : Array Bool), OnlyI md ops n i f oi listed → onlyQ md ops i f listed = true
 | 0, listed, h => by
  unfold onlyQ
  rw [decide_eq_true_eq]
  have hall : ∀ j ∈ Region.ready md ops listed, j = i := fun j hj => by
   rcases Decidable.em (j = i) with e | e
   · exact e
   · exfalso
     obtain ⟨oj, hoj, h1, _, _⟩ := onlyI_ready h hj e
     obtain ⟨hjun, _, _, _⟩ := mem_ready.1 hj
     obtain ⟨hiun, _, _, _⟩ := mem_ready.1 h.rd
     have m1 : j ∈ (List.range ops.size).filter (fun k => !n.contains k && !(listed.getD k true)) := by
      rw [List.mem_filter, h1, hjun]
      exact ⟨List.mem_range.2 (Array.getElem?_eq_some_iff.1 hoj).1, rfl⟩
     have m2 : i ∈ (List.range ops.size).filter (fun k => !n.contains k && !(listed.getD k true)) := by
      rw [List.mem_filter, hin, hiun]
      exact ⟨List.mem_range.2 (Array.getElem?_eq_some_iff.1 hi).1, rfl⟩
     have hc := h.cnt
     match hl : (List.range ops.size).filter (fun k => !n.contains k && !(listed.getD k true)), hc with
     | [a], _ =>
      rw [hl] at m1 m2
      simp only [List.mem_singleton] at m1 m2
      exact e (m1.trans m2.symm)
  have hnd : (Region.ready md ops listed).Nodup := by unfold Region.ready; exact List.nodup_range.filter _
  match hl : Region.ready md ops listed with
  | [] => have := h.rd; rw [hl] at this; cases this
  | [a] => rw [hl] at hall; rw [hall a (List.mem_singleton.2 rfl)]
  | a :: b :: r =>
   rw [hl] at hall hnd
   have ha := hall a (List.mem_cons_self ..)
   have hb := hall b (List.mem_cons_of_mem _ (List.mem_cons_self ..))
   rw [ha, hb] at hnd
   simp at hnd
 | f + 1, listed, h => by
  unfold onlyQ
  rw [Bool.and_eq_true, List.all_eq_true]
  refine ⟨by simpa using h.rd, fun j hj => ?_⟩
  by_cases e : j = i
  · simp [e]
  · obtain ⟨oj, hoj, h1, h2, h3⟩ := onlyI_ready h hj e
    rw [Bool.or_eq_true]
    right
    simp only [hi, hoj, h2, h3, Bool.true_and]
    exact onlyQ_of hi hin f _ (onlyI_set h hj e h1)
def depD (md : Region.Mode) (i : Nat) : List Oper → List Bool → List Bool
  | [], acc => acc
  | o :: l, acc => depD md i l (acc ++ [o.after.any fun e => Region.binds md e && (e.on == i || acc.getD e.on false)])
theorem depD_spec (i : Nat) : ∀ (l : List Oper) (acc : List Bool) (L : List Oper), L.length = acc.length → ops.toList = L ++ l → (∀ k, acc.getD k false = true → waitsJ md ops (k + 1) k i = true) → ∀ k, (depD md i l acc).getD k false = true → waitsJ md ops (k + 1) k i = true
 | [], acc, L, h1, h2, h3 => h3
 | o :: l, acc, L, h1, h2, h3 => by
  refine depD_spec i l _ (L ++ [o]) (by simp [h1]) (by simp [h2]) fun k hk => ?_
  rcases Nat.lt_trichotomy k acc.length with hlt | heq | hgt
  · rw [List.getD_eq_getElem?_getD, List.getElem?_append_left hlt, ← List.getD_eq_getElem?_getD] at hk
    exact h3 k hk
  · subst heq
    rw [List.getD_eq_getElem?_getD, List.getElem?_append_right (Nat.le_refl _), Nat.sub_self] at hk
    simp only [List.getElem?_cons_zero, Option.getD_some] at hk
    have ho : ops[acc.length]? = some o := by
     rw [← Array.getElem?_toList, h2, List.getElem?_append_right (by omega), h1, Nat.sub_self]
     rfl
    obtain ⟨e, he, hb⟩ := Array.any_eq_true'.1 hk
    simp only [Bool.and_eq_true, Bool.or_eq_true, beq_iff_eq] at hb
    unfold waitsJ
    simp only [ho, Bool.or_eq_true]
    rcases hb.2 with h | h
    · left
      exact Array.any_eq_true'.2 ⟨e, he, by simp [hb.1, h]⟩
    · right
      have hlt : e.on < acc.length := by
       rcases Nat.lt_or_ge e.on acc.length with q | q
       · exact q
       · rw [List.getD_eq_getElem?_getD, List.getElem?_eq_none q] at h
         cases h
      exact Array.any_eq_true'.2 ⟨e, he, by rw [Bool.and_eq_true]; exact ⟨hb.1, waits_le (h3 _ h) (by omega)⟩⟩
  · rw [List.getD_eq_getElem?_getD, List.getElem?_eq_none (by simp; omega)] at hk
    cases hk
def onlyB (md : Region.Mode) (ops : Array Oper) (n : List Nat) (i f : Nat) (listed : Array Bool) (D : List Bool) : Bool :=
  (Region.ready md ops listed).contains i && decide (((List.range ops.size).filter fun j => !n.contains j && !(listed.getD j true)).length = f + 1) && (!n.contains i) &&
  match ops[i]? with
  | some oi => (List.range ops.size).all fun j => listed.getD j true || j == i || match ops[j]? with
    | some oj => (!n.contains j && isFresh oj && oi.apart ops oj) || D.getD j false
    | none => false
  | none => false
theorem onlyB_spec {n : List Nat} {i f : Nat} {listed : Array Bool} (hd : DC md ops listed) (h : onlyB md ops n i f listed (depD md i ops.toList []) = true) : onlyQ md ops i f listed = true := by
 unfold onlyB at h
 rw [Bool.and_eq_true, Bool.and_eq_true, Bool.and_eq_true, decide_eq_true_eq] at h
 obtain ⟨⟨⟨h1, h2⟩, h3⟩, h4⟩ := h
 cases hi : ops[i]? with
 | none => rw [hi] at h4; cases h4
 | some oi =>
  rw [hi] at h4
  simp only [List.all_eq_true, List.mem_range] at h4
  refine onlyQ_of hi (by simpa using h3) f listed ⟨hd, by simpa using h1, h2, fun j oj hoj hun hji => ?_⟩
  have h5 := h4 j (Array.getElem?_eq_some_iff.1 hoj).1
  rw [hun, hoj] at h5
  simp only [Bool.false_or, Bool.or_eq_true, beq_iff_eq, hji, false_or, Bool.and_eq_true, Bool.not_eq_true'] at h5
  rcases h5 with h5 | h5
  · exact .inl ⟨h5.1.1, h5.1.2, h5.2⟩
  · refine .inr (waits_le (depD_spec i ops.toList [] [] rfl (by simp) (fun k hk => by simp at hk) j h5) ?_)
    exact (Array.getElem?_eq_some_iff.1 hoj).1
def chainL (md : Region.Mode) (ops : Array Oper) (t : Nat) (nx : List Nat) : Bool :=
  (List.range t).all fun i => hopB md ops (nx.getD i 0) i && decide (i < nx.getD i 0) && decide (nx.getD i 0 ≤ t)
theorem chainL_waits {t : Nat} {nx : List Nat} (h : chainL md ops t nx = true) : ∀ (d i : Nat), t - i ≤ d → i < t → waitsJ md ops (t - i) t i = true
 | 0, i, hd, hi => by omega
 | d + 1, i, hd, hi => by
  have h0 := h
  simp only [chainL, List.all_eq_true, List.mem_range] at h
  have h1 := h i hi
  simp only [Bool.and_eq_true, decide_eq_true_eq] at h1
  obtain ⟨⟨h1, h2⟩, h3⟩ := h1
  by_cases hm : nx.getD i 0 = t
  · rw [hm] at h1
    refine waits_le (f := 1) ?_ (by omega)
    unfold hopB at h1
    unfold waitsJ
    cases ho : ops[t]? with
    | none => rw [ho] at h1; simp at h1
    | some o => rw [ho] at h1; simp only [Bool.or_eq_true]; exact .inl h1
  · have ih := chainL_waits h0 d (nx.getD i 0) (by omega) (by omega)
    exact waits_le (waits_hop h1 _ _ ih) (by omega)
theorem tailBJ_of2 {t : Nat} {nx : List Nat} (h : (Region.noSelect ops && (decide (t + 2 = ops.size) && (chainL md ops t nx && hopB md ops (t + 1) t))) = true) : tailBJ md ops [t, t + 1] = true := by
 simp only [Bool.and_eq_true, decide_eq_true_eq] at h
 obtain ⟨hn, ht, hc, hp⟩ := h
 have h1 : ∀ i, i < t → waitsJ md ops ops.size t i = true := fun i hi => waits_le (chainL_waits hc _ i (Nat.le_refl _) hi) (by omega)
 have hp1 : waitsJ md ops 1 (t + 1) t = true := by
  unfold hopB at hp
  unfold waitsJ
  cases ho : ops[t + 1]? with
  | none => rw [ho] at hp; simp at hp
  | some o => rw [ho] at hp; simp only [Bool.or_eq_true]; exact .inl hp
 have trans : ∀ (f : Nat) (i : Nat), waitsJ md ops f t i = true → waitsJ md ops (f + 1) (t + 1) i = true := fun f i hf => by
  unfold hopB at hp
  unfold waitsJ
  cases ho : ops[t + 1]? with
  | none => rw [ho] at hp; simp at hp
  | some o =>
   rw [ho] at hp
   simp only [Bool.or_eq_true]
   right
   obtain ⟨e, he, hb⟩ := Array.any_eq_true'.1 hp
   simp only [Bool.and_eq_true, beq_iff_eq] at hb
   refine Array.any_eq_true'.2 ⟨e, he, ?_⟩
   rw [Bool.and_eq_true, hb.2]
   exact ⟨hb.1, hf⟩
 have h2 : ∀ i, i < t → waitsJ md ops ops.size (t + 1) i = true := fun i hi => waits_le (trans _ _ (chainL_waits hc _ i (Nat.le_refl _) hi)) (by omega)
 unfold tailBJ
 rw [hn, Bool.true_and]
 simp only [List.all_eq_true, List.mem_range]
 intro u hu
 rcases Nat.lt_trichotomy u t with q | q | q
 · have : ([t, t + 1].contains u) = false := by
    simp only [List.contains_cons, List.contains_nil, Bool.or_false, Bool.or_eq_false_iff, beq_eq_false_iff_ne]
    omega
   rw [this]
   rfl
 · subst q
   simp only [List.contains_cons, beq_self_eq_true, Bool.true_or, Bool.not_true, Bool.false_or]
   cases ho : ops[u]? with
   | none => rfl
   | some o =>
    simp only [List.all_eq_true, List.mem_range, Bool.or_eq_true]
    intro i hi
    rcases Nat.lt_or_ge i u with hh | hh
    · exact .inr (h1 i hh)
    · left
      rcases Nat.eq_or_lt_of_le hh with e | e
      · simp [e]
      · simp; omega
 · obtain rfl : u = t + 1 := by omega
   have : ([t, t + 1].contains (t + 1)) = true := by simp
   rw [this]
   simp only [Bool.not_true, Bool.false_or]
   cases ho : ops[t + 1]? with
   | none => rfl
   | some o =>
    simp only [List.all_eq_true, List.mem_range, Bool.or_eq_true]
    intro i hi
    rcases Nat.lt_or_ge i t with hh | hh
    · exact .inr (h2 i hh)
    · left
      rcases Nat.eq_or_lt_of_le hh with e | e
      · simp [e]
      · have : i = t + 1 := by omega
        simp [this]
theorem wp_region_floatT {id : Nat} {Q : Exit → Act → World → Prop} {a : Act} {l : List Oper} {W0 : World} (N m : Nat) (n : List Nat) (hN : N ≤ W0.heap.size) (hm : P.follows .mixedOrders = true) (hn : (decide (m + n.length = l.length) && n.all (fun j => decide (j < l.length))) = true) (hT : tailBJ .any l.toArray n = true) (hD : dcB .any l.toArray (Array.replicate l.length false) = true)
  (h : Hid (tailBJ .any l.toArray n = true) → Hid (DC .any l.toArray (Array.replicate l.length false)) → wpQ P .any l.toArray N W0 n (fun F G a' => ∀ w', F w' → SG N W0 G w' → wpList P l.toArray Q (n.filterMap (fun i => l[i]?)) a' w') m (Array.replicate l.length false) (fun _ => True) [] a) : (Code.region id l.toArray true).wp P Q a W0 :=
 wp_region_floatQ N m n hN (fun _ => True) trivial Cl.tt hm hn (h (hQ0 hT) (hQ0 (dcB_spec hD)))
def stepTB (md : Region.Mode) (ops : Array Oper) (n : List Nat) (i : Nat) (listed : Array Bool) : Bool :=
  (!n.contains i) && (Region.ready md ops listed).contains i && Region.free md ops listed i && match ops[i]? with | some o => !isFresh o | none => false
def wpT (P : Program) (md : Region.Mode) (ops : Array Oper) (N : Nat) (W0 : World) (n : List Nat) (L : GK) (is : List Nat) (m : Nat) (listed : Array Bool) (F : World → Prop) (G : List (Nat × Obj)) (a : Act) : Prop :=
  tailBJ md ops n = true → DC md ops listed → wpQ P md ops N W0 n L m listed F G a
theorem wpT_start {m : Nat} {n : List Nat} {L : GK} {listed : Array Bool} {F : World → Prop} {G : List (Nat × Obj)} {a : Act} (hT : Hid (tailBJ md ops n = true)) (hD : Hid (DC md ops listed)) (is : List Nat) (h : wpT P md ops N W0 n L is m listed F G a) : wpQ P md ops N W0 n L m listed F G a := h hT.out hD.out
theorem wpT_step {i f : Nat} {is n : List Nat} {o : Oper} {L : GK} {listed : Array Bool} {F : World → Prop} {G : List (Nat × Obj)} {a : Act} (hi : ops[i]? = some o) (hB : stepTB md ops n i listed = true) (hg : o.guard = none) (v : Value)
  (h : GivesH P N W0 o a v) (hk : ∀ K : Act → Prop, (∀ a, wpT P md ops N W0 n L is f (listed.setIfInBounds i true) F G a → K a) → K (a.put o.dst v)) : wpT P md ops N W0 n L (i :: is) (f + 1) listed F G a := fun hT hD => by
 simp only [stepTB, hi, Bool.and_eq_true, Bool.not_eq_true'] at hB
 obtain ⟨⟨⟨b, c⟩, d⟩, e⟩ := hB
 have hr : i ∈ Region.ready md ops listed := by simpa using c
 exact wpQ_first hT b hi e f listed F G a hD (Region.free_spec hi d) hr (.inl ⟨by simp [Region.wanted, hg], h⟩) (hk _ fun _ h => h hT (hD.set hr))
theorem wpT_fresh {i f : Nat} {is n : List Nat} {o : Oper} {L : GK} {listed : Array Bool} {F : World → Prop} {G : List (Nat × Obj)} {a : Act} (hL : LInv L) (hi : ops[i]? = some o) (hB : (Region.noSelect ops && isFresh o && onlyB md ops n i f listed (depD md i ops.toList [])) = true) (mk : Nat → Value) (hmk : freshV o = mk) (ob : Obj)
  (h : ∀ W, (execOp a.eval o).run P W = .ok (.value (mk W.heap.size)) (W.alloc ob))
  (hk : ∀ g, N ≤ g → (∀ p ∈ G, p.1 ≠ g) → ∀ K : Act → Prop, (∀ a, wpT P md ops N W0 n L is f (listed.setIfInBounds i true) F ((g, ob) :: G) a → K a) → K (a.put o.dst (mk g))) : wpT P md ops N W0 n L (i :: is) (f + 1) listed F G a := fun hT hD => by
 subst hmk
 simp only [Bool.and_eq_true] at hB
 obtain ⟨⟨hs, ha⟩, hon⟩ := hB
 have hgd : o.guard = none := by
  unfold isFresh at ha
  split at ha
  · simpa using ha
  · simpa using ha
  · cases ha
 have hr : i ∈ Region.ready md ops listed := by
  unfold onlyB at hon
  rw [Bool.and_eq_true, Bool.and_eq_true, Bool.and_eq_true] at hon
  simpa using hon.1.1.1
 exact wpQ_freshfirst hL (Region.noSelect_spec hs) hi ha ob f listed F G a (onlyB_spec hD hon) ⟨by simp [Region.wanted, hgd], h⟩ (fun g hN hg => hk g hN hg _ fun _ h => h hT (hD.set hr))
theorem wpT_call {i f : Nat} {is n : List Nat} {o : Oper} {L : GK} {listed : Array Bool} {F : World → Prop} {G : List (Nat × Obj)} {a : Act} (hi : ops[i]? = some o) (hB : (Region.noSelect ops && (o.guard.isNone && !isFresh o) && onlyB md ops n i f listed (depD md i ops.toList [])) = true)
  (hk : ∀ W, F W → SG N W0 G W → givesX P W (fun v F' => ∀ K : Act → Prop, (∀ a, wpT P md ops N W0 n L is f (listed.setIfInBounds i true) (fun W => F W ∧ F' W) G a → K a) → K (a.put o.dst v)) ((execOp a.eval o).run P W)) : wpT P md ops N W0 n L (i :: is) (f + 1) listed F G a := fun hT hD => by
 simp only [Bool.and_eq_true, Bool.not_eq_true'] at hB
 obtain ⟨⟨hs, hgd, hna⟩, hon⟩ := hB
 have hr : i ∈ Region.ready md ops listed := by
  unfold onlyB at hon
  rw [Bool.and_eq_true, Bool.and_eq_true, Bool.and_eq_true] at hon
  simpa using hon.1.1.1
 have hgn : o.guard = none := by simpa using hgd
 exact wpQ_callfirst (Region.noSelect_spec hs) hi hna f listed F G a (onlyB_spec hD hon) ⟨by simp [Region.wanted, hgn], fun W hF hS => givesX_mono (fun v F' hk => hk _ fun _ h => h hT (hD.set hr)) _ (hk W hF hS)⟩
theorem wpT_wild {i f : Nat} {is n : List Nat} {o : Oper} {L : GK} {listed : Array Bool} {F : World → Prop} {G : List (Nat × Obj)} {a : Act} (hi : ops[i]? = some o) (hB : decide (Region.ready md ops listed = [i]) = true) (hg : (o.guard.isNone && !isFresh o) = true)
  (hk : ∀ W, F W → SG N W0 G W → givesW P N W0 (fun v F' G' => ∀ K : Act → Prop, (∀ a, wpT P md ops N W0 n L is f (listed.setIfInBounds i true) F' G' a → K a) → K (a.put o.dst v)) ((execOp a.eval o).run P W)) : wpT P md ops N W0 n L (i :: is) (f + 1) listed F G a := fun hT hD => by
 have hr : i ∈ Region.ready md ops listed := by rw [of_decide_eq_true hB]; exact List.mem_singleton.2 rfl
 exact wpQ_wild hi hB hg fun W hF hS => givesW_mono (fun v F' G' hk K hK => hk K fun a h => hK a (h hT (hD.set hr))) _ (hk W hF hS)
theorem wpT_done {is n : List Nat} {L : GK} {listed : Array Bool} {F : World → Prop} {G : List (Nat × Obj)} {a : Act} (hB : seqJ md ops n listed = true) (h : L F G a) : wpT P md ops N W0 n L is 0 listed F G a := fun _ _ => wpQ_done hB h
end
end Go.Proofs.YtbpcjpiaimdpnaaGreatDoor
