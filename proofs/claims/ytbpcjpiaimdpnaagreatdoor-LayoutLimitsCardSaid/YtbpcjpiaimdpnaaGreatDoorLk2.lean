/- Merged texts: Lp0w Lpps Lpzs Lplas Lpds LcKw SrcP ScanL Open SrcM SrcA (what no proof of the claim needs is left out). -/
import Derived.Test.YtbpcjpiaimdpnaaGreatDoorLk1
import Derived.Deep.Cut
import Derived.Lib.Hide
import Derived.KernelRfl
import Derived.ProofKit
import Derived.OpenShut
import Derived.ChangeOld
import Derived.Below
import Derived.Carry
import Derived.Maps.AppendAt
import Derived.Deep.LoopGhost
set_option linter.unusedSimpArgs false
set_option linter.unusedVariables false
namespace Go.Proofs.YtbpcjpiaimdpnaaGreatDoor
open Go Go.RowKit
set_option linter.unusedVariables false
attribute [local go_sem ↓] evalL getL64 setL64
attribute [local go_sem ↓] getL8 setL8
attribute [local go_sem ↓] getL1 getL0
set_option maxRecDepth 100000 in
set_option maxHeartbeats 8000000 in
theorem lp_ars (w wr : World) (A : Option Addr) (c cb mb n0 N : Nat) (e0 : Int) (L0 : List ByteArray) (l : List Ac) (TC : List Value) (rad : Int) (df : List Deferred) (F : List Value) (hF : F.length = 623) (f1 : F[1]? = some (.pointer (some ⟨w.heap.size, 0, none⟩))) (f3 : F[3]? = some (.pointer (some ⟨cb, 0, none⟩))) (f185 : F[185]? = some (.slice A l.length c)) (f186 : F[186]? = some (.int .i64 (l.length : Int))) (f187 : F[187]? = some (.int .i64 0))
  (hA : RowsAt 12 Ac.cells w A l) (hl : l.length ≤ 0) (hnm : ∀ x ∈ l, x.nm.size ≤ maxLen) (hb : Below w.heap.size w wr) (hT : BoxAt wr w.heap.size TC) (hT0 : TC[0]? = some (.int .i64 rad)) (r0 : 0 ≤ rad) (r1 : rad ≤ 32768) (hC : CkAt wr cb mb n0 e0 L0) (hn : n0 + l.length ≤ N) (hN : N ≤ 1000) (hcb : w.heap.size < cb) (hmb : w.heap.size < mb) (R : Act → World → Prop)
  (hR : ∀ (F' : List Value) (w' : World) (n : Nat), F'.length = 623 → F'[1]? = F[1]? → F'[2]? = F[2]? → F'[3]? = F[3]? → Below w.heap.size w w' → BoxAt w' w.heap.size TC → n ≤ n0 + l.length → CkAt w' cb mb n (l.foldl (Ac.look rad) (e0, L0)).1 (l.foldl (Ac.look rad) (e0, L0)).2 → R ⟨F'.toArray, df⟩ w') :
  (blkOf 3 Tryz.f11).wp Tryz.prog (AtEnd R) ⟨F.toArray, df⟩ wr := by
 obtain rfl : l = [] := List.eq_nil_of_length_eq_zero (by omega)
 obtain ⟨s, rfl⟩ := fr623_ex F hF
 have e1 : s 1 = .pointer (some ⟨w.heap.size, 0, none⟩) := Option.some.inj f1
 have e3 : s 3 = .pointer (some ⟨cb, 0, none⟩) := Option.some.inj f3
 have e185 : s 185 = .slice A 0 c := Option.some.inj f185
 have e186 : s 186 = .int .i64 (0 : Int) := Option.some.inj f186
 have e187 : s 187 = .int .i64 0 := Option.some.inj f187
 unfold fr623
 rw [e1, e3, e185, e186, e187]
 have HF1 := hQ0 f1
 have HF3 := hQ0 f3
 have HR := hQ0 hR
 clear hF hR f1 e1 f3 e3 f185 e185 f186 e186 f187 e187
 conv in (blkOf _ _) => whnf
 go_wp2_with fail
 go_loopg [187] 1 (fun gk tt wx => tt = .int .i64 0 ∧ Hid (wx = wr))
 case atStart => exact ⟨rfl, hQ0 rfl⟩
 case round =>
  obtain ⟨wq, rfl⟩ : ∃ z, z = wr := ⟨_, rfl⟩
  obtain ⟨rfl, HE⟩ := hrel
  obtain rfl := HE.out
  go_wp2_with fail
  show R _ _
  exact HR.out _ _ n0 rfl HF1.out.symm rfl HF3.out.symm hb hT (Nat.le_refl _) hC
set_option maxRecDepth 100000 in
set_option maxHeartbeats 8000000 in
theorem lp_fs (w wr : World) (A : Option Addr) (c cb mb n0 N : Nat) (e0 : Int) (L0 : List ByteArray) (l : List Fl) (TC : List Value) (df : List Deferred) (F : List Value) (hF : F.length = 623) (f3 : F[3]? = some (.pointer (some ⟨cb, 0, none⟩))) (f288 : F[288]? = some (.slice A l.length c)) (f289 : F[289]? = some (.int .i64 (l.length : Int))) (f290 : F[290]? = some (.int .i64 0))
  (hA : RowsAt 15 Fl.cells w A l) (hl : l.length ≤ 0) (hnm : ∀ x ∈ l, x.nm.size ≤ maxLen) (hb : Below w.heap.size w wr) (hT : BoxAt wr w.heap.size TC) (hC : CkAt wr cb mb n0 e0 L0) (hn : n0 + l.length ≤ N) (hN : N ≤ 1000) (hcb : w.heap.size < cb) (hmb : w.heap.size < mb) (R : Act → World → Prop)
  (hR : ∀ (F' : List Value) (w' : World) (n : Nat), F'.length = 623 → F'[1]? = F[1]? → F'[2]? = F[2]? → F'[3]? = F[3]? → Below w.heap.size w w' → BoxAt w' w.heap.size TC → n ≤ n0 + l.length → CkAt w' cb mb n (l.foldl Fl.look (e0, L0)).1 (l.foldl Fl.look (e0, L0)).2 → R ⟨F'.toArray, df⟩ w') :
  (blkOf 7 Tryz.f11).wp Tryz.prog (AtEnd R) ⟨F.toArray, df⟩ wr := by
 obtain rfl : l = [] := List.eq_nil_of_length_eq_zero (by omega)
 obtain ⟨s, rfl⟩ := fr623_ex F hF
 have e3 : s 3 = .pointer (some ⟨cb, 0, none⟩) := Option.some.inj f3
 have e288 : s 288 = .slice A 0 c := Option.some.inj f288
 have e289 : s 289 = .int .i64 (0 : Int) := Option.some.inj f289
 have e290 : s 290 = .int .i64 0 := Option.some.inj f290
 unfold fr623
 rw [e3, e288, e289, e290]
 have HF3 := hQ0 f3
 have HR := hQ0 hR
 clear hF hR f3 e3 f288 e288 f289 e289 f290 e290
 conv in (blkOf _ _) => whnf
 go_wp2_with fail
 go_loopg [290] 1 (fun gk tt wx => tt = .int .i64 0 ∧ Hid (wx = wr))
 case atStart => exact ⟨rfl, hQ0 rfl⟩
 case round =>
  obtain ⟨wq, rfl⟩ : ∃ z, z = wr := ⟨_, rfl⟩
  obtain ⟨rfl, HE⟩ := hrel
  obtain rfl := HE.out
  go_wp2_with fail
  show R _ _
  exact HR.out _ _ n0 rfl rfl rfl HF3.out.symm hb hT (Nat.le_refl _) hC
set_option maxRecDepth 100000 in
set_option maxHeartbeats 8000000 in
theorem lp_ss (w wr : World) (A : Option Addr) (c cb mb n0 N : Nat) (e0 : Int) (L0 : List ByteArray) (l : List Sc) (TC : List Value) (rad : Int) (df : List Deferred) (F : List Value) (hF : F.length = 623) (f1 : F[1]? = some (.pointer (some ⟨w.heap.size, 0, none⟩))) (f3 : F[3]? = some (.pointer (some ⟨cb, 0, none⟩))) (f416 : F[416]? = some (.slice A l.length c)) (f417 : F[417]? = some (.int .i64 (l.length : Int))) (f418 : F[418]? = some (.int .i64 0))
  (hA : RowsAt 10 Sc.cells w A l) (hl : l.length ≤ 0) (hnm : ∀ x ∈ l, x.nm.size ≤ maxLen) (hb : Below w.heap.size w wr) (hT : BoxAt wr w.heap.size TC) (hT0 : TC[0]? = some (.int .i64 rad)) (r0 : 0 ≤ rad) (r1 : rad ≤ 32768) (hC : CkAt wr cb mb n0 e0 L0) (hn : n0 + l.length ≤ N) (hN : N ≤ 1000) (hcb : w.heap.size < cb) (hmb : w.heap.size < mb) (R : Act → World → Prop)
  (hR : ∀ (F' : List Value) (w' : World) (n : Nat), F'.length = 623 → F'[1]? = F[1]? → F'[2]? = F[2]? → F'[3]? = F[3]? → Below w.heap.size w w' → BoxAt w' w.heap.size TC → n ≤ n0 + l.length → CkAt w' cb mb n (l.foldl (Sc.look rad) (e0, L0)).1 (l.foldl (Sc.look rad) (e0, L0)).2 → R ⟨F'.toArray, df⟩ w') :
  (blkOf 11 Tryz.f11).wp Tryz.prog (AtEnd R) ⟨F.toArray, df⟩ wr := by
 obtain rfl : l = [] := List.eq_nil_of_length_eq_zero (by omega)
 obtain ⟨s, rfl⟩ := fr623_ex F hF
 have e1 : s 1 = .pointer (some ⟨w.heap.size, 0, none⟩) := Option.some.inj f1
 have e3 : s 3 = .pointer (some ⟨cb, 0, none⟩) := Option.some.inj f3
 have e416 : s 416 = .slice A 0 c := Option.some.inj f416
 have e417 : s 417 = .int .i64 (0 : Int) := Option.some.inj f417
 have e418 : s 418 = .int .i64 0 := Option.some.inj f418
 unfold fr623
 rw [e1, e3, e416, e417, e418]
 have HF1 := hQ0 f1
 have HF3 := hQ0 f3
 have HR := hQ0 hR
 clear hF hR f1 e1 f3 e3 f416 e416 f417 e417 f418 e418
 conv in (blkOf _ _) => whnf
 go_wp2_with fail
 go_loopg [418] 1 (fun gk tt wx => tt = .int .i64 0 ∧ Hid (wx = wr))
 case atStart => exact ⟨rfl, hQ0 rfl⟩
 case round =>
  obtain ⟨wq, rfl⟩ : ∃ z, z = wr := ⟨_, rfl⟩
  obtain ⟨rfl, HE⟩ := hrel
  obtain rfl := HE.out
  go_wp2_with fail
  show R _ _
  exact HR.out _ _ n0 rfl HF1.out.symm rfl HF3.out.symm hb hT (Nat.le_refl _) hC
set_option maxRecDepth 100000 in
set_option maxHeartbeats 8000000 in
theorem lp_rs (w wr : World) (A : Option Addr) (c cb mb n0 N : Nat) (e0 : Int) (L0 : List ByteArray) (l : List Ra) (TC : List Value) (df : List Deferred) (F : List Value) (hF : F.length = 623) (f3 : F[3]? = some (.pointer (some ⟨cb, 0, none⟩))) (f502 : F[502]? = some (.slice A l.length c)) (f503 : F[503]? = some (.int .i64 (l.length : Int))) (f504 : F[504]? = some (.int .i64 0))
  (hA : RowsAt 8 Ra.cells w A l) (hl : l.length ≤ 0) (hnm : ∀ x ∈ l, x.nm.size ≤ maxLen) (hb : Below w.heap.size w wr) (hT : BoxAt wr w.heap.size TC) (hC : CkAt wr cb mb n0 e0 L0) (hn : n0 + l.length ≤ N) (hN : N ≤ 1000) (hcb : w.heap.size < cb) (hmb : w.heap.size < mb) (R : Act → World → Prop)
  (hR : ∀ (F' : List Value) (w' : World) (n : Nat), F'.length = 623 → F'[1]? = F[1]? → F'[2]? = F[2]? → F'[3]? = F[3]? → Below w.heap.size w w' → BoxAt w' w.heap.size TC → n ≤ n0 + l.length → CkAt w' cb mb n (l.foldl Ra.look (e0, L0)).1 (l.foldl Ra.look (e0, L0)).2 → R ⟨F'.toArray, df⟩ w') :
  (blkOf 15 Tryz.f11).wp Tryz.prog (AtEnd R) ⟨F.toArray, df⟩ wr := by
 obtain rfl : l = [] := List.eq_nil_of_length_eq_zero (by omega)
 obtain ⟨s, rfl⟩ := fr623_ex F hF
 have e3 : s 3 = .pointer (some ⟨cb, 0, none⟩) := Option.some.inj f3
 have e502 : s 502 = .slice A 0 c := Option.some.inj f502
 have e503 : s 503 = .int .i64 (0 : Int) := Option.some.inj f503
 have e504 : s 504 = .int .i64 0 := Option.some.inj f504
 unfold fr623
 rw [e3, e502, e503, e504]
 have HF3 := hQ0 f3
 have HR := hQ0 hR
 clear hF hR f3 e3 f502 e502 f503 e503 f504 e504
 conv in (blkOf _ _) => whnf
 go_wp2_with fail
 go_loopg [504] 1 (fun gk tt wx => tt = .int .i64 0 ∧ Hid (wx = wr))
 case atStart => exact ⟨rfl, hQ0 rfl⟩
 case round =>
  obtain ⟨wq, rfl⟩ : ∃ z, z = wr := ⟨_, rfl⟩
  obtain ⟨rfl, HE⟩ := hrel
  obtain rfl := HE.out
  go_wp2_with fail
  show R _ _
  exact HR.out _ _ n0 rfl rfl rfl HF3.out.symm hb hT (Nat.le_refl _) hC
set_option maxRecDepth 100000 in
set_option maxHeartbeats 8000000 in
theorem lp_lns (w wr : World) (A : Option Addr) (c cb mb n0 N : Nat) (e0 : Int) (L0 : List ByteArray) (l : List Ln) (TC : List Value) (df : List Deferred) (F : List Value) (hF : F.length = 623) (f3 : F[3]? = some (.pointer (some ⟨cb, 0, none⟩))) (f577 : F[577]? = some (.slice A l.length c)) (f578 : F[578]? = some (.int .i64 (l.length : Int))) (f579 : F[579]? = some (.int .i64 0))
  (hA : RowsAt 7 Ln.cells w A l) (hl : l.length ≤ 0) (hnm : ∀ x ∈ l, x.nm.size ≤ maxLen) (hb : Below w.heap.size w wr) (hT : BoxAt wr w.heap.size TC) (hC : CkAt wr cb mb n0 e0 L0) (hn : n0 + l.length ≤ N) (hN : N ≤ 1000) (hcb : w.heap.size < cb) (hmb : w.heap.size < mb) (R : Act → World → Prop)
  (hR : ∀ (F' : List Value) (w' : World) (n : Nat), F'.length = 623 → F'[1]? = F[1]? → F'[2]? = F[2]? → F'[3]? = F[3]? → Below w.heap.size w w' → BoxAt w' w.heap.size TC → n ≤ n0 + l.length → CkAt w' cb mb n (l.foldl Ln.look (e0, L0)).1 (l.foldl Ln.look (e0, L0)).2 → R ⟨F'.toArray, df⟩ w') :
  (blkOf 19 Tryz.f11).wp Tryz.prog (AtEnd R) ⟨F.toArray, df⟩ wr := by
 obtain rfl : l = [] := List.eq_nil_of_length_eq_zero (by omega)
 obtain ⟨s, rfl⟩ := fr623_ex F hF
 have e3 : s 3 = .pointer (some ⟨cb, 0, none⟩) := Option.some.inj f3
 have e577 : s 577 = .slice A 0 c := Option.some.inj f577
 have e578 : s 578 = .int .i64 (0 : Int) := Option.some.inj f578
 have e579 : s 579 = .int .i64 0 := Option.some.inj f579
 unfold fr623
 rw [e3, e577, e578, e579]
 have HF3 := hQ0 f3
 have HR := hQ0 hR
 clear hF hR f3 e3 f577 e577 f578 e578 f579 e579
 conv in (blkOf _ _) => whnf
 go_wp2_with fail
 go_loopg [579] 1 (fun gk tt wx => tt = .int .i64 0 ∧ Hid (wx = wr))
 case atStart => exact ⟨rfl, hQ0 rfl⟩
 case round =>
  obtain ⟨wq, rfl⟩ : ∃ z, z = wr := ⟨_, rfl⟩
  obtain ⟨rfl, HE⟩ := hrel
  obtain rfl := HE.out
  go_wp2_with fail
  show R _ _
  exact HR.out _ _ n0 rfl rfl rfl HF3.out.symm hb hT (Nat.le_refl _) hC
attribute [local go_sem ↓] evalL getL64 setL64
attribute [local go_sem ↓] getL8 setL8
attribute [local go_sem ↓] getL1 getL0
set_option maxRecDepth 100000 in
set_option maxHeartbeats 8000000 in
theorem lp_ps (w wr : World) (A : Option Addr) (c cb mb n0 N : Nat) (e0 : Int) (L0 : List ByteArray) (l : List Ps) (TC : List Value) (df : List Deferred) (F : List Value) (hF : F.length = 623) (f3 : F[3]? = some (.pointer (some ⟨cb, 0, none⟩))) (f238 : F[238]? = some (.slice A l.length c)) (f239 : F[239]? = some (.int .i64 (l.length : Int))) (f240 : F[240]? = some (.int .i64 0))
  (hA : RowsAt 11 Ps.cells w A l) (hl : l.length ≤ 64) (hnm : ∀ x ∈ l, x.nm.size ≤ maxLen) (hb : Below w.heap.size w wr) (hT : BoxAt wr w.heap.size TC) (hC : CkAt wr cb mb n0 e0 L0) (hn : n0 + l.length ≤ N) (hN : N ≤ 1000) (hcb : w.heap.size < cb) (hmb : w.heap.size < mb) (R : Act → World → Prop)
  (hR : ∀ (F' : List Value) (w' : World) (n : Nat), F'.length = 623 → F'[1]? = F[1]? → F'[2]? = F[2]? → F'[3]? = F[3]? → Below w.heap.size w w' → BoxAt w' w.heap.size TC → n ≤ n0 + l.length → CkAt w' cb mb n (l.foldl Ps.look (e0, L0)).1 (l.foldl Ps.look (e0, L0)).2 → R ⟨F'.toArray, df⟩ w') :
  (blkOf 5 Tryz.f11).wp Tryz.prog (AtEnd R) ⟨F.toArray, df⟩ wr := by
 obtain ⟨s, rfl⟩ := fr623_ex F hF
 have e3 : s 3 = .pointer (some ⟨cb, 0, none⟩) := Option.some.inj f3
 have e238 : s 238 = .slice A l.length c := Option.some.inj f238
 have e239 : s 239 = .int .i64 (l.length : Int) := Option.some.inj f239
 have e240 : s 240 = .int .i64 0 := Option.some.inj f240
 unfold fr623
 rw [e3, e238, e239, e240]
 have HF3 := hQ0 f3
 clear hF e3 f3 e238 f238 e239 f239 e240 f240
 have HA := hQ0 hA
 have HR := hQ0 hR
 have HN := hQ0 hnm
 have HN2 := hQ0 hN
 have HN3 := hQ0 hn
 clear hA hnm hN hn hR
 conv in (blkOf _ _) => whnf
 go_wp2_with fail
 go_loopg [240] (l.length + 1) (fun gk tt wr => ∃ (k n : Nat) (e : Int) (L : List ByteArray), k ≤ l.length ∧ l.length - k < gk ∧ tt = .int .i64 k ∧ n ≤ n0 + k ∧ Below w.heap.size w wr ∧ BoxAt wr w.heap.size TC ∧ CkAt wr cb mb n e L ∧ Hid ((e, L) = ((l.take k).foldl Ps.look (e0, L0))))
 case atStart => exact ⟨0, n0, e0, L0, by omega, by omega, rfl, by omega, hb, hT, hC, hQ0 rfl⟩
 case round =>
  obtain ⟨ws_, rfl⟩ : ∃ z, z = wr := ⟨_, rfl⟩
  clear hb hT hC
  obtain ⟨k, n, e, L, hk, hkk, rfl, hnk, hb_ws, hTr, hCr, HJ⟩ := hrel
  have hz_ws := hb_ws.size
  by_cases hlt : k < l.length
  · obtain ⟨x, hx⟩ : ∃ x, l[k]? = some x := ⟨l[k], by simp⟩
    obtain ⟨g, o, rfl, hg, c0, c1, c2, c3, c4, c5, c6, c7, c8, c9, c10⟩ := Ps.get (HA.out.below hb_ws (Nat.le_refl _)) hx
    have i1 : (k : Int) < (l.length : Int) := by omega
    have HX := hQ0 hx
    have HBe := hQ0 hb_ws
    have HTr := hQ0 hTr
    have HCr := hQ0 hCr
    clear hx hb_ws hTr hCr
    go_upto_region 28 with (fail)
    (refine pin_eqT (fun w3 hE_w3 => ?_))
    obtain ⟨gb, hgb⟩ : ∃ z, z = ws_.heap.size := ⟨_, rfl⟩
    rw [← hgb]
    have hX3 : BoxAt w3 gb x.cells := by rw [hE_w3, hgb]; exact BoxAt.new _ _ _
    have hT3 : BoxAt w3 w.heap.size TC := by rw [hE_w3]; exact HTr.out.alloc _
    have hC3 : CkAt w3 cb mb n e L := by rw [hE_w3]; exact HCr.out.below ((Below.refl _ _).alloc (Nat.le_refl _) _) (Nat.le_refl _)
    have hB3 : Below w.heap.size w w3 := by rw [hE_w3]; exact HBe.out.alloc hz_ws _
    have HGB := hQ0 hgb
    clear hgb hE_w3 c0 c1 c2 c3 c4 c5 c6 c7 c8 c9 c10
    have hg3 := hX3.lt
    have HT3 := hQ0 hT3
    have HC3 := hQ0 hC3
    have HB3 := hQ0 hB3
    clear hT3 hC3 hB3 hg
    obtain ⟨p1, hp1⟩ : ∃ b, b = (in1 0 3 x.lv) := ⟨_, rfl⟩
    have HHp1 := hQ0 hp1
    clear hp1
    obtain ⟨p2, hp2⟩ : ∃ b, b = (nearV 1048576 ⟨x.c1, x.c2⟩) := ⟨_, rfl⟩
    have HHp2 := hQ0 hp2
    clear hp2
    obtain ⟨p3, hp3⟩ : ∃ b, b = (in1 0 262144 x.sz) := ⟨_, rfl⟩
    have HHp3 := hQ0 hp3
    clear hp3
    obtain ⟨p4, hp4⟩ : ∃ b, b = (in1 0 15 x.rs && in1 0 15 x.gr) := ⟨_, rfl⟩
    have HHp4 := hQ0 hp4
    clear hp4
    obtain ⟨p5, hp5⟩ : ∃ b, b = (in1 0 16384 x.kk && in1 0 16384 x.mn) := ⟨_, rfl⟩
    have HHp5 := hQ0 hp5
    clear hp5
    obtain ⟨p6, hp6⟩ : ∃ b, b = (in1 (-1) 31 x.cl && in1 (-1) 63 x.sw) := ⟨_, rfl⟩
    have HHp6 := hQ0 hp6
    clear hp6
    as_aux_lemma =>
     have hS_ : Below w3.heap.size w3 w3.drew := (Below.refl _ _).drew
     refine wp_region_N (Below w3.heap.size w3) 41 [41] (by kernel_rfl) (by kernel_rfl) (tailBJ_of (nx := [41, 2, 41, 4, 5, 6, 7, 8, 9, 10, 11, 12, 13, 14, 15, 16, 17, 18, 19, 20, 21, 24, 23, 24, 25, 26, 27, 28, 31, 30, 31, 32, 33, 34, 35, 36, 39, 38, 39, 40, 41, 0]) (by kernel_rfl)) (by kernel_rfl) ?_
     intro hT_ hD_
     generalize w3.drew = wd_ at hS_ ⊢
     apply wpN_maybe (i := 0) hT_ hD_ rfl (by kernel_rfl) true (by exact rfl)
     (case h => intro _; intro W_ hW_; have hcW_ := (bcellW hW_).1; go_simp; first | done | exact rfl); (case hQ => exact fun _ _ _ h => h); (case hS => exact hS_)
     intro hD2_; clear hD_; have hD_ := hD2_; clear hD2_; intro K hK; (try simp only [opt_true]); go_simp; refine hK _ _ ?_; clear hK K
     apply wpN_maybe (i := 1) hT_ hD_ rfl (by kernel_rfl) true (by exact rfl)
     (case h => intro _; intro W_ hW_; have hcW_ := (bcellW hW_).1; go_simp; first | done | exact rfl); (case hQ => exact fun _ _ _ h => h); (case hS => exact hS_)
     intro hD2_; clear hD_; have hD_ := hD2_; clear hD2_; intro K hK; (try simp only [opt_true]); go_simp; refine hK _ _ ?_; clear hK K
     apply wpN_maybe (i := 2) hT_ hD_ rfl (by kernel_rfl) true (by exact rfl)
     (case h => intro _; intro W_ hW_; have hY_ := (hX3).below hW_ (hg3); have y0_ := hY_.c 0 (.string x.nm) (rfl); go_simp; first | done | exact rfl); (case hQ => exact fun _ _ _ h => h); (case hS => exact hS_)
     intro hD2_; clear hD_; have hD_ := hD2_; clear hD2_; intro K hK; (try simp only [opt_true]); go_simp; refine hK _ _ ?_; clear hK K
     apply wpN_maybe (i := 3) hT_ hD_ rfl (by kernel_rfl) true (by exact rfl)
     (case h => intro _; intro W_ hW_; have hcW_ := (bcellW hW_).1; go_simp; first | done | exact rfl); (case hQ => exact fun _ _ _ h => h); (case hS => exact hS_)
     intro hD2_; clear hD_; have hD_ := hD2_; clear hD2_; intro K hK; (try simp only [opt_true]); go_simp; refine hK _ _ ?_; clear hK K
     apply wpN_maybe (i := 4) hT_ hD_ rfl (by kernel_rfl) true (by exact rfl)
     (case h => intro _; intro W_ hW_; have hY_ := (hX3).below hW_ (hg3); have y0_ := hY_.c 1 (.int .i64 x.lv) (rfl); go_simp; first | done | exact rfl); (case hQ => exact fun _ _ _ h => h); (case hS => exact hS_)
     intro hD2_; clear hD_; have hD_ := hD2_; clear hD2_; intro K hK; (try simp only [opt_true]); go_simp; refine hK _ _ ?_; clear hK K
     apply wpN_freshm (S := Below w3.heap.size w3) (i := 5) hD_ rfl (by kernel_rfl) true (by exact rfl)
     (case h => intro _; generalize hev_ : Act.eval _ = ev_; (have v248_ := (congrFun hev_.symm (.tmp 248)).trans (evalL _ _ 248); simp only [getL64, getL8, getL1, getL0, opt_true, Bool.not_false] at v248_); have vc_ : ∀ v_, ev_ (.const v_) = v_ := (fun _ => by rw [← hev_]; rfl); clear hev_; go_simp; first | done | exact rfl | exact ⟨rfl, rfl⟩); (case hS => exact hS_); (case hS' => exact (hS_).alloc (hS_).size _)
     intro hD2_; clear hD_; have hD_ := hD2_; clear hD2_; intro K hK w_ hS2_ hw0_; have hw_ := hQ0 hw0_; clear hw0_; go_simp; refine hK _ _ ?_; clear hK K hS_; have hS_ := hS2_; clear hS2_
     refine wpN_callm (S := Below w3.heap.size w3) (i := 6) hD_ rfl (by kernel_rfl) true (by exact rfl) (.bool p1) ?_ hS_ ?_
     · intro _; intro N_ hN_; generalize hA_ : Act.mk _ _ = A_ at hN_ ⊢; (have v249_ := (congrArg (fun z_ : Act => z_.eval (.tmp 249)) hA_.symm).trans (evalL _ _ 249); simp only [getL64, getL8, getL1, getL0, opt_true, Bool.not_false] at v249_); clear hA_; have vc_ : ∀ v_, Act.eval A_ (.const v_) = v_ := (fun _ => rfl); have vf_ : ∀ f_, Act.eval A_ (.func f_) = .func (.func f_) #[] #[] := (fun _ => rfl); generalize Act.eval A_ = ev_ at vc_ vf_ v249_ ⊢; obtain rfl := hw_.out rfl; go_simp; go_at_call 28; refine (level_new1' x.lv _ _ p1 HHp1.out (by simp)).mono ?_; rintro e w9 ⟨rfl, rfl⟩; exact hN_ _ hS_
     intro hD2_; clear hD_; have hD_ := hD2_; clear hD2_; intro K hK w_ hS2_; go_simp; refine hK _ _ ?_; clear hK K hS_; have hS_ := hS2_; clear hS2_
     apply wpN_maybe (i := 7) hT_ hD_ rfl (by kernel_rfl) true (by exact rfl)
     (case h => intro _; intro W_ hW_; have hcW_ := (bcellW hW_).1; go_simp; first | done | exact rfl); (case hQ => exact fun _ _ _ h => h); (case hS => exact hS_)
     intro hD2_; clear hD_; have hD_ := hD2_; clear hD2_; intro K hK; (try simp only [opt_true]); go_simp; refine hK _ _ ?_; clear hK K
     apply wpN_maybe (i := 8) hT_ hD_ rfl (by kernel_rfl) p1 (by clear hS_; cases p1 <;> rfl)
     (case h => intro hc_; obtain rfl : p1 = true := hc_; (try simp only [opt_true]); intro W_ hW_; have hcW_ := (bcellW hW_).1; go_simp; first | done | exact rfl); (case hQ => exact fun _ _ _ h => h); (case hS => exact hS_)
     intro hD2_; clear hD_; have hD_ := hD2_; clear hD2_; intro K hK; (try simp only [opt_true]); go_simp; refine hK _ _ ?_; clear hK K
     apply wpN_maybe (i := 9) hT_ hD_ rfl (by kernel_rfl) p1 (by clear hS_; cases p1 <;> rfl)
     (case h => intro hc_; obtain rfl : p1 = true := hc_; (try simp only [opt_true]); intro W_ hW_; have hY_ := (hX3).below hW_ (hg3); have y0_ := hY_.c 2 (.int .i64 x.c1) (rfl); have y1_ := hY_.c 3 (.int .i64 x.c2) (rfl); go_simp; first | done | exact rfl); (case hQ => exact fun _ _ _ h => h); (case hS => exact hS_)
     intro hD2_; clear hD_; have hD_ := hD2_; clear hD2_; intro K hK; (try simp only [opt_true]); go_simp; refine hK _ _ ?_; clear hK K
     apply wpN_freshm (S := Below w3.heap.size w3) (i := 10) hD_ rfl (by kernel_rfl) p1 (by clear hS_; cases p1 <;> rfl)
     (case h => intro hc_; obtain rfl : p1 = true := hc_; generalize hev_ : Act.eval _ = ev_; (have v253_ := (congrFun hev_.symm (.tmp 253)).trans (evalL _ _ 253); simp only [getL64, getL8, getL1, getL0, opt_true, Bool.not_false] at v253_); have vc_ : ∀ v_, ev_ (.const v_) = v_ := (fun _ => by rw [← hev_]; rfl); clear hev_; go_simp; first | done | exact rfl | exact ⟨rfl, rfl⟩); (case hS => exact hS_); (case hS' => exact (hS_).alloc (hS_).size _)
     intro hD2_; clear hD_; have hD_ := hD2_; clear hD2_; intro K hK w_ hS2_ hw0_; have hw_ := hQ0 hw0_; clear hw0_; go_simp; refine hK _ _ ?_; clear hK K hS_; have hS_ := hS2_; clear hS2_
     refine wpN_callm (S := Below w3.heap.size w3) (i := 11) hD_ rfl (by kernel_rfl) p1 (by clear hS_; cases p1 <;> rfl) (.bool p2) ?_ hS_ ?_
     · intro hc_; obtain rfl : p1 = true := hc_; intro N_ hN_; generalize hA_ : Act.mk _ _ = A_ at hN_ ⊢; (have v254_ := (congrArg (fun z_ : Act => z_.eval (.tmp 254)) hA_.symm).trans (evalL _ _ 254); simp only [getL64, getL8, getL1, getL0, opt_true, Bool.not_false] at v254_); clear hA_; have vc_ : ∀ v_, Act.eval A_ (.const v_) = v_ := (fun _ => rfl); have vf_ : ∀ f_, Act.eval A_ (.func f_) = .func (.func f_) #[] #[] := (fun _ => rfl); generalize Act.eval A_ = ev_ at vc_ vf_ v254_ ⊢; obtain rfl := hw_.out rfl; go_simp; go_at_call 29; refine (at_new1' x.c1 x.c2 _ _ p2 HHp2.out (by simp)).mono ?_; rintro e w9 ⟨rfl, hb9⟩; exact hN_ _ (hS_.trans (hb9.mono (by have := hS_.size; simp at this; omega)))
     intro hD2_; clear hD_; have hD_ := hD2_; clear hD2_; intro K hK w_ hS2_; go_simp; refine hK _ _ ?_; clear hK K hS_; have hS_ := hS2_; clear hS2_
     obtain ⟨d28_1, hd28_1⟩ : ∃ b_, b_ = (p1 && p2) := ⟨_, rfl⟩
     apply wpN_maybe (i := 12) hT_ hD_ rfl (by kernel_rfl) true (by exact rfl) (.bool d28_1) (fun _ _ _ h => h) hS_ (by intro _ W_ hW_; rw [hd28_1]; cases p1 <;> (go_simp; try exact rfl))
     have Hd28_1 := hQ0 hd28_1; clear hd28_1
     intro hD2_; clear hD_; have hD_ := hD2_; clear hD2_; intro K hK; (try simp only [opt_true]); go_simp; refine hK _ _ ?_; clear hK K
     apply wpN_maybe (i := 13) hT_ hD_ rfl (by kernel_rfl) true (by exact rfl)
     (case h => intro _; intro W_ hW_; have hcW_ := (bcellW hW_).1; go_simp; first | done | exact rfl); (case hQ => exact fun _ _ _ h => h); (case hS => exact hS_)
     intro hD2_; clear hD_; have hD_ := hD2_; clear hD2_; intro K hK; (try simp only [opt_true]); go_simp; refine hK _ _ ?_; clear hK K
     apply wpN_maybe (i := 14) hT_ hD_ rfl (by kernel_rfl) d28_1 (by clear hS_; cases d28_1 <;> rfl)
     (case h => intro hc_; obtain rfl : d28_1 = true := hc_; (try simp only [opt_true]); intro W_ hW_; have hcW_ := (bcellW hW_).1; go_simp; first | done | exact rfl); (case hQ => exact fun _ _ _ h => h); (case hS => exact hS_)
     intro hD2_; clear hD_; have hD_ := hD2_; clear hD2_; intro K hK; (try simp only [opt_true]); go_simp; refine hK _ _ ?_; clear hK K
     apply wpN_maybe (i := 15) hT_ hD_ rfl (by kernel_rfl) d28_1 (by clear hS_; cases d28_1 <;> rfl)
     (case h => intro hc_; obtain rfl : d28_1 = true := hc_; (try simp only [opt_true]); intro W_ hW_; have hY_ := (hX3).below hW_ (hg3); have y0_ := hY_.c 4 (.int .i64 x.sz) (rfl); go_simp; first | done | exact rfl); (case hQ => exact fun _ _ _ h => h); (case hS => exact hS_)
     intro hD2_; clear hD_; have hD_ := hD2_; clear hD2_; intro K hK; (try simp only [opt_true]); go_simp; refine hK _ _ ?_; clear hK K
     apply wpN_freshm (S := Below w3.heap.size w3) (i := 16) hD_ rfl (by kernel_rfl) d28_1 (by clear hS_; cases d28_1 <;> rfl)
     (case h => intro hc_; obtain rfl : d28_1 = true := hc_; generalize hev_ : Act.eval _ = ev_; (have v259_ := (congrFun hev_.symm (.tmp 259)).trans (evalL _ _ 259); simp only [getL64, getL8, getL1, getL0, opt_true, Bool.not_false] at v259_); have vc_ : ∀ v_, ev_ (.const v_) = v_ := (fun _ => by rw [← hev_]; rfl); clear hev_; go_simp; first | done | exact rfl | exact ⟨rfl, rfl⟩); (case hS => exact hS_); (case hS' => exact (hS_).alloc (hS_).size _)
     intro hD2_; clear hD_; have hD_ := hD2_; clear hD2_; intro K hK w_ hS2_ hw0_; have hw_ := hQ0 hw0_; clear hw0_; go_simp; refine hK _ _ ?_; clear hK K hS_; have hS_ := hS2_; clear hS2_
     refine wpN_callm (S := Below w3.heap.size w3) (i := 17) hD_ rfl (by kernel_rfl) d28_1 (by clear hS_; cases d28_1 <;> rfl) (.bool p3) ?_ hS_ ?_
     · intro hc_; obtain rfl : d28_1 = true := hc_; intro N_ hN_; generalize hA_ : Act.mk _ _ = A_ at hN_ ⊢; (have v260_ := (congrArg (fun z_ : Act => z_.eval (.tmp 260)) hA_.symm).trans (evalL _ _ 260); simp only [getL64, getL8, getL1, getL0, opt_true, Bool.not_false] at v260_); clear hA_; have vc_ : ∀ v_, Act.eval A_ (.const v_) = v_ := (fun _ => rfl); have vf_ : ∀ f_, Act.eval A_ (.func f_) = .func (.func f_) #[] #[] := (fun _ => rfl); generalize Act.eval A_ = ev_ at vc_ vf_ v260_ ⊢; obtain rfl := hw_.out rfl; go_simp; go_at_call 25; refine (in_new1' 0 262144 x.sz _ _ p3 HHp3.out (by simp)).mono ?_; rintro e w9 ⟨rfl, rfl⟩; exact hN_ _ hS_
     intro hD2_; clear hD_; have hD_ := hD2_; clear hD2_; intro K hK w_ hS2_; go_simp; refine hK _ _ ?_; clear hK K hS_; have hS_ := hS2_; clear hS2_
     obtain ⟨d28_2, hd28_2⟩ : ∃ b_, b_ = (d28_1 && p3) := ⟨_, rfl⟩
     apply wpN_maybe (i := 18) hT_ hD_ rfl (by kernel_rfl) true (by exact rfl) (.bool d28_2) (fun _ _ _ h => h) hS_ (by intro _ W_ hW_; rw [hd28_2]; cases d28_1 <;> (go_simp; try exact rfl))
     have Hd28_2 := hQ0 hd28_2; clear hd28_2
     intro hD2_; clear hD_; have hD_ := hD2_; clear hD2_; intro K hK; (try simp only [opt_true]); go_simp; refine hK _ _ ?_; clear hK K
     apply wpN_maybe (i := 19) hT_ hD_ rfl (by kernel_rfl) true (by exact rfl)
     (case h => intro _; intro W_ hW_; have hcW_ := (bcellW hW_).1; go_simp; first | done | exact rfl); (case hQ => exact fun _ _ _ h => h); (case hS => exact hS_)
     intro hD2_; clear hD_; have hD_ := hD2_; clear hD2_; intro K hK; (try simp only [opt_true]); go_simp; refine hK _ _ ?_; clear hK K
     as_aux_lemma =>
      apply wpN_maybe (i := 20) hT_ hD_ rfl (by kernel_rfl) d28_2 (by clear hS_; cases d28_2 <;> rfl)
      (case h => intro hc_; obtain rfl : d28_2 = true := hc_; (try simp only [opt_true]); intro W_ hW_; have hcW_ := (bcellW hW_).1; go_simp; first | done | exact rfl); (case hQ => exact fun _ _ _ h => h); (case hS => exact hS_)
      intro hD2_; clear hD_; have hD_ := hD2_; clear hD2_; intro K hK; (try simp only [opt_true]); go_simp; refine hK _ _ ?_; clear hK K
      apply wpN_maybe (i := 21) hT_ hD_ rfl (by kernel_rfl) d28_2 (by clear hS_; cases d28_2 <;> rfl)
      (case h => intro hc_; obtain rfl : d28_2 = true := hc_; (try simp only [opt_true]); intro W_ hW_; have hY_ := (hX3).below hW_ (hg3); have y0_ := hY_.c 5 (.int .i64 x.rs) (rfl); go_simp; first | done | exact rfl); (case hQ => exact fun _ _ _ h => h); (case hS => exact hS_)
      intro hD2_; clear hD_; have hD_ := hD2_; clear hD2_; intro K hK; (try simp only [opt_true]); go_simp; refine hK _ _ ?_; clear hK K
      apply wpN_maybe (i := 22) hT_ hD_ rfl (by kernel_rfl) d28_2 (by clear hS_; cases d28_2 <;> rfl)
      (case h => intro hc_; obtain rfl : d28_2 = true := hc_; (try simp only [opt_true]); intro W_ hW_; have hcW_ := (bcellW hW_).1; go_simp; first | done | exact rfl); (case hQ => exact fun _ _ _ h => h); (case hS => exact hS_)
      intro hD2_; clear hD_; have hD_ := hD2_; clear hD2_; intro K hK; (try simp only [opt_true]); go_simp; refine hK _ _ ?_; clear hK K
      apply wpN_maybe (i := 23) hT_ hD_ rfl (by kernel_rfl) d28_2 (by clear hS_; cases d28_2 <;> rfl)
      (case h => intro hc_; obtain rfl : d28_2 = true := hc_; (try simp only [opt_true]); intro W_ hW_; have hY_ := (hX3).below hW_ (hg3); have y0_ := hY_.c 6 (.int .i64 x.gr) (rfl); go_simp; first | done | exact rfl); (case hQ => exact fun _ _ _ h => h); (case hS => exact hS_)
      intro hD2_; clear hD_; have hD_ := hD2_; clear hD2_; intro K hK; (try simp only [opt_true]); go_simp; refine hK _ _ ?_; clear hK K
      refine wpN_callm (S := Below w3.heap.size w3) (i := 24) hD_ rfl (by kernel_rfl) d28_2 (by clear hS_; cases d28_2 <;> rfl) (.bool p4) ?_ hS_ ?_
      · intro hc_; obtain rfl : d28_2 = true := hc_; intro N_ hN_; generalize hA_ : Act.mk _ _ = A_ at hN_ ⊢; (have v265_ := (congrArg (fun z_ : Act => z_.eval (.tmp 265)) hA_.symm).trans (evalL _ _ 265); simp only [getL64, getL8, getL1, getL0, opt_true, Bool.not_false] at v265_); (have v267_ := (congrArg (fun z_ : Act => z_.eval (.tmp 267)) hA_.symm).trans (evalL _ _ 267); simp only [getL64, getL8, getL1, getL0, opt_true, Bool.not_false] at v267_); clear hA_; have vc_ : ∀ v_, Act.eval A_ (.const v_) = v_ := (fun _ => rfl); have vf_ : ∀ f_, Act.eval A_ (.func f_) = .func (.func f_) #[] #[] := (fun _ => rfl); generalize Act.eval A_ = ev_ at vc_ vf_ v265_ v267_ ⊢; go_simp; go_at_call 30; refine (bounce_any' x.rs x.gr _ p4 HHp4.out).mono ?_; rintro e w9 ⟨rfl, hb9⟩; exact hN_ _ (hS_.trans (hb9.mono hS_.size))
      intro hD2_; clear hD_; have hD_ := hD2_; clear hD2_; intro K hK w_ hS2_; go_simp; refine hK _ _ ?_; clear hK K hS_; have hS_ := hS2_; clear hS2_
      obtain ⟨d28_3, hd28_3⟩ : ∃ b_, b_ = (d28_2 && p4) := ⟨_, rfl⟩
      apply wpN_maybe (i := 25) hT_ hD_ rfl (by kernel_rfl) true (by exact rfl) (.bool d28_3) (fun _ _ _ h => h) hS_ (by intro _ W_ hW_; rw [hd28_3]; cases d28_2 <;> (go_simp; try exact rfl))
      have Hd28_3 := hQ0 hd28_3; clear hd28_3
      intro hD2_; clear hD_; have hD_ := hD2_; clear hD2_; intro K hK; (try simp only [opt_true]); go_simp; refine hK _ _ ?_; clear hK K
      apply wpN_maybe (i := 26) hT_ hD_ rfl (by kernel_rfl) true (by exact rfl)
      (case h => intro _; intro W_ hW_; have hcW_ := (bcellW hW_).1; go_simp; first | done | exact rfl); (case hQ => exact fun _ _ _ h => h); (case hS => exact hS_)
      intro hD2_; clear hD_; have hD_ := hD2_; clear hD2_; intro K hK; (try simp only [opt_true]); go_simp; refine hK _ _ ?_; clear hK K
      apply wpN_maybe (i := 27) hT_ hD_ rfl (by kernel_rfl) d28_3 (by clear hS_; cases d28_3 <;> rfl)
      (case h => intro hc_; obtain rfl : d28_3 = true := hc_; (try simp only [opt_true]); intro W_ hW_; have hcW_ := (bcellW hW_).1; go_simp; first | done | exact rfl); (case hQ => exact fun _ _ _ h => h); (case hS => exact hS_)
      intro hD2_; clear hD_; have hD_ := hD2_; clear hD2_; intro K hK; (try simp only [opt_true]); go_simp; refine hK _ _ ?_; clear hK K
      apply wpN_maybe (i := 28) hT_ hD_ rfl (by kernel_rfl) d28_3 (by clear hS_; cases d28_3 <;> rfl)
      (case h => intro hc_; obtain rfl : d28_3 = true := hc_; (try simp only [opt_true]); intro W_ hW_; have hY_ := (hX3).below hW_ (hg3); have y0_ := hY_.c 7 (.int .i64 x.kk) (rfl); go_simp; first | done | exact rfl); (case hQ => exact fun _ _ _ h => h); (case hS => exact hS_)
      intro hD2_; clear hD_; have hD_ := hD2_; clear hD2_; intro K hK; (try simp only [opt_true]); go_simp; refine hK _ _ ?_; clear hK K
      apply wpN_maybe (i := 29) hT_ hD_ rfl (by kernel_rfl) d28_3 (by clear hS_; cases d28_3 <;> rfl)
      (case h => intro hc_; obtain rfl : d28_3 = true := hc_; (try simp only [opt_true]); intro W_ hW_; have hcW_ := (bcellW hW_).1; go_simp; first | done | exact rfl); (case hQ => exact fun _ _ _ h => h); (case hS => exact hS_)
      intro hD2_; clear hD_; have hD_ := hD2_; clear hD2_; intro K hK; (try simp only [opt_true]); go_simp; refine hK _ _ ?_; clear hK K
      apply wpN_maybe (i := 30) hT_ hD_ rfl (by kernel_rfl) d28_3 (by clear hS_; cases d28_3 <;> rfl)
      (case h => intro hc_; obtain rfl : d28_3 = true := hc_; (try simp only [opt_true]); intro W_ hW_; have hY_ := (hX3).below hW_ (hg3); have y0_ := hY_.c 8 (.int .i64 x.mn) (rfl); go_simp; first | done | exact rfl); (case hQ => exact fun _ _ _ h => h); (case hS => exact hS_)
      intro hD2_; clear hD_; have hD_ := hD2_; clear hD2_; intro K hK; (try simp only [opt_true]); go_simp; refine hK _ _ ?_; clear hK K
      apply wpN_freshm (S := Below w3.heap.size w3) (i := 31) hD_ rfl (by kernel_rfl) d28_3 (by clear hS_; cases d28_3 <;> rfl)
      (case h => intro hc_; obtain rfl : d28_3 = true := hc_; generalize hev_ : Act.eval _ = ev_; (have v272_ := (congrFun hev_.symm (.tmp 272)).trans (evalL _ _ 272); simp only [getL64, getL8, getL1, getL0, opt_true, Bool.not_false] at v272_); (have v274_ := (congrFun hev_.symm (.tmp 274)).trans (evalL _ _ 274); simp only [getL64, getL8, getL1, getL0, opt_true, Bool.not_false] at v274_); have vc_ : ∀ v_, ev_ (.const v_) = v_ := (fun _ => by rw [← hev_]; rfl); clear hev_; go_simp; first | done | exact rfl | exact ⟨rfl, rfl⟩); (case hS => exact hS_); (case hS' => exact (hS_).alloc (hS_).size _)
      intro hD2_; clear hD_; have hD_ := hD2_; clear hD2_; intro K hK w_ hS2_ hw0_; have hw_ := hQ0 hw0_; clear hw0_; go_simp; refine hK _ _ ?_; clear hK K hS_; have hS_ := hS2_; clear hS2_
      refine wpN_callm (S := Below w3.heap.size w3) (i := 32) hD_ rfl (by kernel_rfl) d28_3 (by clear hS_; cases d28_3 <;> rfl) (.bool p5) ?_ hS_ ?_
      · intro hc_; obtain rfl : d28_3 = true := hc_; intro N_ hN_; generalize hA_ : Act.mk _ _ = A_ at hN_ ⊢; (have v275_ := (congrArg (fun z_ : Act => z_.eval (.tmp 275)) hA_.symm).trans (evalL _ _ 275); simp only [getL64, getL8, getL1, getL0, opt_true, Bool.not_false] at v275_); clear hA_; have vc_ : ∀ v_, Act.eval A_ (.const v_) = v_ := (fun _ => rfl); have vf_ : ∀ f_, Act.eval A_ (.func f_) = .func (.func f_) #[] #[] := (fun _ => rfl); generalize Act.eval A_ = ev_ at vc_ vf_ v275_ ⊢; obtain rfl := hw_.out rfl; go_simp; go_at_call 25; refine (in_new2' 0 16384 x.kk x.mn _ _ p5 HHp5.out (by simp)).mono ?_; rintro e w9 ⟨rfl, rfl⟩; exact hN_ _ hS_
      intro hD2_; clear hD_; have hD_ := hD2_; clear hD2_; intro K hK w_ hS2_; go_simp; refine hK _ _ ?_; clear hK K hS_; have hS_ := hS2_; clear hS2_
      obtain ⟨d28_4, hd28_4⟩ : ∃ b_, b_ = (d28_3 && p5) := ⟨_, rfl⟩
      apply wpN_maybe (i := 33) hT_ hD_ rfl (by kernel_rfl) true (by exact rfl) (.bool d28_4) (fun _ _ _ h => h) hS_ (by intro _ W_ hW_; rw [hd28_4]; cases d28_3 <;> (go_simp; try exact rfl))
      have Hd28_4 := hQ0 hd28_4; clear hd28_4
      intro hD2_; clear hD_; have hD_ := hD2_; clear hD2_; intro K hK; (try simp only [opt_true]); go_simp; refine hK _ _ ?_; clear hK K
      apply wpN_maybe (i := 34) hT_ hD_ rfl (by kernel_rfl) true (by exact rfl)
      (case h => intro _; intro W_ hW_; have hcW_ := (bcellW hW_).1; go_simp; first | done | exact rfl); (case hQ => exact fun _ _ _ h => h); (case hS => exact hS_)
      intro hD2_; clear hD_; have hD_ := hD2_; clear hD2_; intro K hK; (try simp only [opt_true]); go_simp; refine hK _ _ ?_; clear hK K
      apply wpN_maybe (i := 35) hT_ hD_ rfl (by kernel_rfl) d28_4 (by clear hS_; cases d28_4 <;> rfl)
      (case h => intro hc_; obtain rfl : d28_4 = true := hc_; (try simp only [opt_true]); intro W_ hW_; have hcW_ := (bcellW hW_).1; go_simp; first | done | exact rfl); (case hQ => exact fun _ _ _ h => h); (case hS => exact hS_)
      intro hD2_; clear hD_; have hD_ := hD2_; clear hD2_; intro K hK; (try simp only [opt_true]); go_simp; refine hK _ _ ?_; clear hK K
      apply wpN_maybe (i := 36) hT_ hD_ rfl (by kernel_rfl) d28_4 (by clear hS_; cases d28_4 <;> rfl)
      (case h => intro hc_; obtain rfl : d28_4 = true := hc_; (try simp only [opt_true]); intro W_ hW_; have hY_ := (hX3).below hW_ (hg3); have y0_ := hY_.c 9 (.int .i64 x.cl) (rfl); go_simp; first | done | exact rfl); (case hQ => exact fun _ _ _ h => h); (case hS => exact hS_)
      intro hD2_; clear hD_; have hD_ := hD2_; clear hD2_; intro K hK; (try simp only [opt_true]); go_simp; refine hK _ _ ?_; clear hK K
      apply wpN_maybe (i := 37) hT_ hD_ rfl (by kernel_rfl) d28_4 (by clear hS_; cases d28_4 <;> rfl)
      (case h => intro hc_; obtain rfl : d28_4 = true := hc_; (try simp only [opt_true]); intro W_ hW_; have hcW_ := (bcellW hW_).1; go_simp; first | done | exact rfl); (case hQ => exact fun _ _ _ h => h); (case hS => exact hS_)
      intro hD2_; clear hD_; have hD_ := hD2_; clear hD2_; intro K hK; (try simp only [opt_true]); go_simp; refine hK _ _ ?_; clear hK K
      apply wpN_maybe (i := 38) hT_ hD_ rfl (by kernel_rfl) d28_4 (by clear hS_; cases d28_4 <;> rfl)
      (case h => intro hc_; obtain rfl : d28_4 = true := hc_; (try simp only [opt_true]); intro W_ hW_; have hY_ := (hX3).below hW_ (hg3); have y0_ := hY_.c 10 (.int .i64 x.sw) (rfl); go_simp; first | done | exact rfl); (case hQ => exact fun _ _ _ h => h); (case hS => exact hS_)
      intro hD2_; clear hD_; have hD_ := hD2_; clear hD2_; intro K hK; (try simp only [opt_true]); go_simp; refine hK _ _ ?_; clear hK K
      refine wpN_callm (S := Below w3.heap.size w3) (i := 39) hD_ rfl (by kernel_rfl) d28_4 (by clear hS_; cases d28_4 <;> rfl) (.bool p6) ?_ hS_ ?_
      · intro hc_; obtain rfl : d28_4 = true := hc_; intro N_ hN_; generalize hA_ : Act.mk _ _ = A_ at hN_ ⊢; (have v280_ := (congrArg (fun z_ : Act => z_.eval (.tmp 280)) hA_.symm).trans (evalL _ _ 280); simp only [getL64, getL8, getL1, getL0, opt_true, Bool.not_false] at v280_); (have v282_ := (congrArg (fun z_ : Act => z_.eval (.tmp 282)) hA_.symm).trans (evalL _ _ 282); simp only [getL64, getL8, getL1, getL0, opt_true, Bool.not_false] at v282_); clear hA_; have vc_ : ∀ v_, Act.eval A_ (.const v_) = v_ := (fun _ => rfl); have vf_ : ∀ f_, Act.eval A_ (.func f_) = .func (.func f_) #[] #[] := (fun _ => rfl); generalize Act.eval A_ = ev_ at vc_ vf_ v280_ v282_ ⊢; go_simp; go_at_call 31; refine (ports_any' x.cl x.sw _ p6 HHp6.out).mono ?_; rintro e w9 ⟨rfl, hb9⟩; exact hN_ _ (hS_.trans (hb9.mono hS_.size))
      intro hD2_; clear hD_; have hD_ := hD2_; clear hD2_; intro K hK w_ hS2_; go_simp; refine hK _ _ ?_; clear hK K hS_; have hS_ := hS2_; clear hS2_
      as_aux_lemma =>
       obtain ⟨d28_5, hd28_5⟩ : ∃ b_, b_ = (d28_4 && p6) := ⟨_, rfl⟩
       apply wpN_maybe (i := 40) hT_ hD_ rfl (by kernel_rfl) true (by exact rfl) (.bool d28_5) (fun _ _ _ h => h) hS_ (by intro _ W_ hW_; rw [hd28_5]; cases d28_4 <;> (go_simp; try exact rfl))
       have Hd28_5 := hQ0 hd28_5; clear hd28_5
       intro hD2_; clear hD_; have hD_ := hD2_; clear hD2_; intro K hK; (try simp only [opt_true]); go_simp; refine hK _ _ ?_; clear hK K
       refine wpZ_nil (by kernel_rfl) ?_
       (try simp only [List.filterMap_cons, List.filterMap_nil, List.getElem?_cons_succ, List.getElem?_cons_zero])
       (try go_simp)
       as_aux_lemma =>
        have hCk := HC3.out.below hS_ (Nat.le_refl _)
        have hTk := HT3.out.below hS_ HT3.out.lt
        have hBk : Below w.heap.size w w_ := HB3.out.trans (hS_.mono HB3.out.size)
        have HF : Hid (d28_5 = x.fB) := hQ0 (by simp only [Hd28_5.out, Hd28_4.out, Hd28_3.out, Hd28_2.out, Hd28_1.out, HHp1.out, HHp2.out, HHp3.out, HHp4.out, HHp5.out, HHp6.out]; rfl)
        have HCk := hQ0 hCk
        have HTk := hQ0 hTk
        have HBk := hQ0 hBk
        clear hCk hTk hBk hS_
        go_wp2_with (go_at_call 27; refine (look_any _ cb mb n (w.heap.size + 1) e L x.nm d28_5 true HCk.out (HN.out x (List.mem_of_getElem? HX.out)) (by unfold maxLen; have := HN2.out; have := HN3.out; omega) hcb hmb).mono ?_; rintro ε w4 ⟨rfl, hb4, m, hm, hC4⟩)
        go_roundg (l.length - (k + 1) + 1)
        case measure => omega
        case rel =>
         refine ⟨k + 1, m, _, _, by omega, by omega, by go_num, by omega, HBk.out.trans (hb4.mono (by have := HBk.out.size; omega)), HTk.out.below hb4 (by omega), hC4, hQ0 ?_⟩
         rw [fold_next HX.out, ← HJ.out, HF.out]
         rfl
  · obtain rfl : k = l.length := by omega
    have HBe := hQ0 hb_ws
    have HTr := hQ0 hTr
    have HCr := hQ0 hCr
    clear hb_ws hTr hCr
    go_wp2_with fail
    show R _ _
    have hj := HJ.out
    rw [List.take_length] at hj
    exact HR.out _ _ n rfl rfl rfl HF3.out.symm HBe.out HTr.out hnk (by rw [← hj]; exact HCr.out)
attribute [local go_sem ↓] evalL getL64 setL64
attribute [local go_sem ↓] getL8 setL8
attribute [local go_sem ↓] getL1 getL0
set_option maxRecDepth 100000 in
set_option maxHeartbeats 8000000 in
theorem lp_zs (w wr : World) (A : Option Addr) (c cb mb n0 N : Nat) (e0 : Int) (L0 : List ByteArray) (l : List Zn) (TC : List Value) (df : List Deferred) (F : List Value) (hF : F.length = 623) (f3 : F[3]? = some (.pointer (some ⟨cb, 0, none⟩))) (f364 : F[364]? = some (.slice A l.length c)) (f365 : F[365]? = some (.int .i64 (l.length : Int))) (f366 : F[366]? = some (.int .i64 0))
  (hA : RowsAt 9 Zn.cells w A l) (hl : l.length ≤ 64) (hnm : ∀ x ∈ l, x.nm.size ≤ maxLen) (hb : Below w.heap.size w wr) (hT : BoxAt wr w.heap.size TC) (hC : CkAt wr cb mb n0 e0 L0) (hn : n0 + l.length ≤ N) (hN : N ≤ 1000) (hcb : w.heap.size < cb) (hmb : w.heap.size < mb) (R : Act → World → Prop)
  (hR : ∀ (F' : List Value) (w' : World) (n : Nat), F'.length = 623 → F'[1]? = F[1]? → F'[2]? = F[2]? → F'[3]? = F[3]? → Below w.heap.size w w' → BoxAt w' w.heap.size TC → n ≤ n0 + l.length → CkAt w' cb mb n (l.foldl Zn.look (e0, L0)).1 (l.foldl Zn.look (e0, L0)).2 → R ⟨F'.toArray, df⟩ w') :
  (blkOf 9 Tryz.f11).wp Tryz.prog (AtEnd R) ⟨F.toArray, df⟩ wr := by
 obtain ⟨s, rfl⟩ := fr623_ex F hF
 have e3 : s 3 = .pointer (some ⟨cb, 0, none⟩) := Option.some.inj f3
 have e364 : s 364 = .slice A l.length c := Option.some.inj f364
 have e365 : s 365 = .int .i64 (l.length : Int) := Option.some.inj f365
 have e366 : s 366 = .int .i64 0 := Option.some.inj f366
 unfold fr623
 rw [e3, e364, e365, e366]
 have HF3 := hQ0 f3
 clear hF e3 f3 e364 f364 e365 f365 e366 f366
 have HA := hQ0 hA
 have HR := hQ0 hR
 have HN := hQ0 hnm
 have HN2 := hQ0 hN
 have HN3 := hQ0 hn
 clear hA hnm hN hn hR
 conv in (blkOf _ _) => whnf
 go_wp2_with fail
 go_loopg [366] (l.length + 1) (fun gk tt wr => ∃ (k n : Nat) (e : Int) (L : List ByteArray), k ≤ l.length ∧ l.length - k < gk ∧ tt = .int .i64 k ∧ n ≤ n0 + k ∧ Below w.heap.size w wr ∧ BoxAt wr w.heap.size TC ∧ CkAt wr cb mb n e L ∧ Hid ((e, L) = ((l.take k).foldl Zn.look (e0, L0))))
 case atStart => exact ⟨0, n0, e0, L0, by omega, by omega, rfl, by omega, hb, hT, hC, hQ0 rfl⟩
 case round =>
  obtain ⟨ws_, rfl⟩ : ∃ z, z = wr := ⟨_, rfl⟩
  clear hb hT hC
  obtain ⟨k, n, e, L, hk, hkk, rfl, hnk, hb_ws, hTr, hCr, HJ⟩ := hrel
  have hz_ws := hb_ws.size
  by_cases hlt : k < l.length
  · obtain ⟨x, hx⟩ : ∃ x, l[k]? = some x := ⟨l[k], by simp⟩
    obtain ⟨g, o, rfl, hg, c0, c1, c2, c3, c4, c5, c6, c7, c8⟩ := Zn.get (HA.out.below hb_ws (Nat.le_refl _)) hx
    have i1 : (k : Int) < (l.length : Int) := by omega
    have HX := hQ0 hx
    have HBe := hQ0 hb_ws
    have HTr := hQ0 hTr
    have HCr := hQ0 hCr
    clear hx hb_ws hTr hCr
    go_upto_region 39 with (fail)
    (refine pin_eqT (fun w3 hE_w3 => ?_))
    obtain ⟨gb, hgb⟩ : ∃ z, z = ws_.heap.size := ⟨_, rfl⟩
    rw [← hgb]
    have hX3 : BoxAt w3 gb x.cells := by rw [hE_w3, hgb]; exact BoxAt.new _ _ _
    have hT3 : BoxAt w3 w.heap.size TC := by rw [hE_w3]; exact HTr.out.alloc _
    have hC3 : CkAt w3 cb mb n e L := by rw [hE_w3]; exact HCr.out.below ((Below.refl _ _).alloc (Nat.le_refl _) _) (Nat.le_refl _)
    have hB3 : Below w.heap.size w w3 := by rw [hE_w3]; exact HBe.out.alloc hz_ws _
    have HGB := hQ0 hgb
    clear hgb hE_w3 c0 c1 c2 c3 c4 c5 c6 c7 c8
    have hg3 := hX3.lt
    have HT3 := hQ0 hT3
    have HC3 := hQ0 hC3
    have HB3 := hQ0 hB3
    clear hT3 hC3 hB3 hg
    obtain ⟨p1, hp1⟩ : ∃ b, b = (in1 0 3 x.lv) := ⟨_, rfl⟩
    have HHp1 := hQ0 hp1
    clear hp1
    obtain ⟨p2, hp2⟩ : ∃ b, b = (nearV 1048576 ⟨x.l1, x.l2⟩ && nearV 1048576 ⟨x.h1, x.h2⟩) := ⟨_, rfl⟩
    have HHp2 := hQ0 hp2
    clear hp2
    obtain ⟨p3, hp3⟩ : ∃ b, b = (nearV 256 ⟨x.f1, x.f2⟩) := ⟨_, rfl⟩
    have HHp3 := hQ0 hp3
    clear hp3
    obtain ⟨p4, hp4⟩ : ∃ b, b = (in1 (-1) 31 x.cl) := ⟨_, rfl⟩
    have HHp4 := hQ0 hp4
    clear hp4
    obtain ⟨b0, hb0⟩ : ∃ b, b = (decide (x.l1 < x.h1)) := ⟨_, rfl⟩
    have HHb0 := hQ0 hb0
    clear hb0
    obtain ⟨b1, hb1⟩ : ∃ b, b = (decide (x.l2 < x.h2)) := ⟨_, rfl⟩
    have HHb1 := hQ0 hb1
    clear hb1
    as_aux_lemma =>
     have hS_ : Below w3.heap.size w3 w3.drew := (Below.refl _ _).drew
     refine wp_region_N (Below w3.heap.size w3) 43 [43] (by kernel_rfl) (by kernel_rfl) (tailBJ_of (nx := [43, 2, 43, 4, 5, 6, 7, 8, 9, 12, 11, 12, 13, 14, 15, 16, 17, 18, 19, 20, 21, 22, 23, 24, 25, 26, 43, 28, 29, 33, 31, 32, 33, 34, 35, 36, 37, 41, 39, 40, 41, 42, 43, 0]) (by kernel_rfl)) (by kernel_rfl) ?_
     intro hT_ hD_
     generalize w3.drew = wd_ at hS_ ⊢
     apply wpN_maybe (i := 0) hT_ hD_ rfl (by kernel_rfl) true (by exact rfl)
     (case h => intro _; intro W_ hW_; have hcW_ := (bcellW hW_).1; go_simp; first | done | exact rfl); (case hQ => exact fun _ _ _ h => h); (case hS => exact hS_)
     intro hD2_; clear hD_; have hD_ := hD2_; clear hD2_; intro K hK; (try simp only [opt_true]); go_simp; refine hK _ _ ?_; clear hK K
     apply wpN_maybe (i := 1) hT_ hD_ rfl (by kernel_rfl) true (by exact rfl)
     (case h => intro _; intro W_ hW_; have hcW_ := (bcellW hW_).1; go_simp; first | done | exact rfl); (case hQ => exact fun _ _ _ h => h); (case hS => exact hS_)
     intro hD2_; clear hD_; have hD_ := hD2_; clear hD2_; intro K hK; (try simp only [opt_true]); go_simp; refine hK _ _ ?_; clear hK K
     apply wpN_maybe (i := 2) hT_ hD_ rfl (by kernel_rfl) true (by exact rfl)
     (case h => intro _; intro W_ hW_; have hY_ := (hX3).below hW_ (hg3); have y0_ := hY_.c 0 (.string x.nm) (rfl); go_simp; first | done | exact rfl); (case hQ => exact fun _ _ _ h => h); (case hS => exact hS_)
     intro hD2_; clear hD_; have hD_ := hD2_; clear hD2_; intro K hK; (try simp only [opt_true]); go_simp; refine hK _ _ ?_; clear hK K
     apply wpN_maybe (i := 3) hT_ hD_ rfl (by kernel_rfl) true (by exact rfl)
     (case h => intro _; intro W_ hW_; have hcW_ := (bcellW hW_).1; go_simp; first | done | exact rfl); (case hQ => exact fun _ _ _ h => h); (case hS => exact hS_)
     intro hD2_; clear hD_; have hD_ := hD2_; clear hD2_; intro K hK; (try simp only [opt_true]); go_simp; refine hK _ _ ?_; clear hK K
     apply wpN_maybe (i := 4) hT_ hD_ rfl (by kernel_rfl) true (by exact rfl)
     (case h => intro _; intro W_ hW_; have hY_ := (hX3).below hW_ (hg3); have y0_ := hY_.c 1 (.int .i64 x.lv) (rfl); go_simp; first | done | exact rfl); (case hQ => exact fun _ _ _ h => h); (case hS => exact hS_)
     intro hD2_; clear hD_; have hD_ := hD2_; clear hD2_; intro K hK; (try simp only [opt_true]); go_simp; refine hK _ _ ?_; clear hK K
     apply wpN_maybe (i := 27) hT_ hD_ rfl (by kernel_rfl) true (by exact rfl)
     (case h => intro _; intro W_ hW_; have hcW_ := (bcellW hW_).1; go_simp; first | done | exact rfl); (case hQ => exact fun _ _ _ h => h); (case hS => exact hS_)
     intro hD2_; clear hD_; have hD_ := hD2_; clear hD2_; intro K hK; (try simp only [opt_true]); go_simp; refine hK _ _ ?_; clear hK K
     apply wpN_maybe (i := 28) hT_ hD_ rfl (by kernel_rfl) true (by exact rfl)
     (case h => intro _; intro W_ hW_; have hcW_ := (bcellW hW_).1; go_simp; first | done | exact rfl); (case hQ => exact fun _ _ _ h => h); (case hS => exact hS_)
     intro hD2_; clear hD_; have hD_ := hD2_; clear hD2_; intro K hK; (try simp only [opt_true]); go_simp; refine hK _ _ ?_; clear hK K
     apply wpN_maybe (i := 29) hT_ hD_ rfl (by kernel_rfl) true (by exact rfl)
     (case h => intro _; intro W_ hW_; have hY_ := (hX3).below hW_ (hg3); have y0_ := hY_.c 2 (.int .i64 x.l1) (rfl); go_simp; first | done | exact rfl); (case hQ => exact fun _ _ _ h => h); (case hS => exact hS_)
     intro hD2_; clear hD_; have hD_ := hD2_; clear hD2_; intro K hK; (try simp only [opt_true]); go_simp; refine hK _ _ ?_; clear hK K
     apply wpN_maybe (i := 30) hT_ hD_ rfl (by kernel_rfl) true (by exact rfl)
     (case h => intro _; intro W_ hW_; have hcW_ := (bcellW hW_).1; go_simp; first | done | exact rfl); (case hQ => exact fun _ _ _ h => h); (case hS => exact hS_)
     intro hD2_; clear hD_; have hD_ := hD2_; clear hD2_; intro K hK; (try simp only [opt_true]); go_simp; refine hK _ _ ?_; clear hK K
     apply wpN_maybe (i := 31) hT_ hD_ rfl (by kernel_rfl) true (by exact rfl)
     (case h => intro _; intro W_ hW_; have hcW_ := (bcellW hW_).1; go_simp; first | done | exact rfl); (case hQ => exact fun _ _ _ h => h); (case hS => exact hS_)
     intro hD2_; clear hD_; have hD_ := hD2_; clear hD2_; intro K hK; (try simp only [opt_true]); go_simp; refine hK _ _ ?_; clear hK K
     apply wpN_maybe (i := 32) hT_ hD_ rfl (by kernel_rfl) true (by exact rfl)
     (case h => intro _; intro W_ hW_; have hY_ := (hX3).below hW_ (hg3); have y0_ := hY_.c 4 (.int .i64 x.h1) (rfl); go_simp; first | done | exact rfl); (case hQ => exact fun _ _ _ h => h); (case hS => exact hS_)
     intro hD2_; clear hD_; have hD_ := hD2_; clear hD2_; intro K hK; (try simp only [opt_true]); go_simp; refine hK _ _ ?_; clear hK K
     apply wpN_maybe (i := 33) hT_ hD_ rfl (by kernel_rfl) true (by exact rfl) (.bool b0)
     (case h => intro _; intro W_ hW_; have hcW_ := (bcellW hW_).1; go_simp; rw [HHb0.out]; first | done | exact rfl | (rfl)); (case hQ => exact fun _ _ _ h => h); (case hS => exact hS_)
     intro hD2_; clear hD_; have hD_ := hD2_; clear hD2_; intro K hK; (try simp only [opt_true]); go_simp; refine hK _ _ ?_; clear hK K
     apply wpN_freshm (S := Below w3.heap.size w3) (i := 5) hD_ rfl (by kernel_rfl) true (by exact rfl)
     (case h => intro _; generalize hev_ : Act.eval _ = ev_; (have v374_ := (congrFun hev_.symm (.tmp 374)).trans (evalL _ _ 374); simp only [getL64, getL8, getL1, getL0, opt_true, Bool.not_false] at v374_); have vc_ : ∀ v_, ev_ (.const v_) = v_ := (fun _ => by rw [← hev_]; rfl); clear hev_; go_simp; first | done | exact rfl | exact ⟨rfl, rfl⟩); (case hS => exact hS_); (case hS' => exact (hS_).alloc (hS_).size _)
     intro hD2_; clear hD_; have hD_ := hD2_; clear hD2_; intro K hK w_ hS2_ hw0_; have hw_ := hQ0 hw0_; clear hw0_; go_simp; refine hK _ _ ?_; clear hK K hS_; have hS_ := hS2_; clear hS2_
     refine wpN_callm (S := Below w3.heap.size w3) (i := 6) hD_ rfl (by kernel_rfl) true (by exact rfl) (.bool p1) ?_ hS_ ?_
     · intro _; intro N_ hN_; generalize hA_ : Act.mk _ _ = A_ at hN_ ⊢; (have v375_ := (congrArg (fun z_ : Act => z_.eval (.tmp 375)) hA_.symm).trans (evalL _ _ 375); simp only [getL64, getL8, getL1, getL0, opt_true, Bool.not_false] at v375_); clear hA_; have vc_ : ∀ v_, Act.eval A_ (.const v_) = v_ := (fun _ => rfl); have vf_ : ∀ f_, Act.eval A_ (.func f_) = .func (.func f_) #[] #[] := (fun _ => rfl); generalize Act.eval A_ = ev_ at vc_ vf_ v375_ ⊢; obtain rfl := hw_.out rfl; go_simp; go_at_call 28; refine (level_new1' x.lv _ _ p1 HHp1.out (by simp)).mono ?_; rintro e w9 ⟨rfl, rfl⟩; exact hN_ _ hS_
     intro hD2_; clear hD_; have hD_ := hD2_; clear hD2_; intro K hK w_ hS2_; go_simp; refine hK _ _ ?_; clear hK K hS_; have hS_ := hS2_; clear hS2_
     apply wpN_maybe (i := 7) hT_ hD_ rfl (by kernel_rfl) true (by exact rfl)
     (case h => intro _; intro W_ hW_; have hcW_ := (bcellW hW_).1; go_simp; first | done | exact rfl); (case hQ => exact fun _ _ _ h => h); (case hS => exact hS_)
     intro hD2_; clear hD_; have hD_ := hD2_; clear hD2_; intro K hK; (try simp only [opt_true]); go_simp; refine hK _ _ ?_; clear hK K
     apply wpN_maybe (i := 8) hT_ hD_ rfl (by kernel_rfl) p1 (by clear hS_; cases p1 <;> rfl)
     (case h => intro hc_; obtain rfl : p1 = true := hc_; (try simp only [opt_true]); intro W_ hW_; have hcW_ := (bcellW hW_).1; go_simp; first | done | exact rfl); (case hQ => exact fun _ _ _ h => h); (case hS => exact hS_)
     intro hD2_; clear hD_; have hD_ := hD2_; clear hD2_; intro K hK; (try simp only [opt_true]); go_simp; refine hK _ _ ?_; clear hK K
     apply wpN_maybe (i := 9) hT_ hD_ rfl (by kernel_rfl) p1 (by clear hS_; cases p1 <;> rfl)
     (case h => intro hc_; obtain rfl : p1 = true := hc_; (try simp only [opt_true]); intro W_ hW_; have hY_ := (hX3).below hW_ (hg3); have y0_ := hY_.c 2 (.int .i64 x.l1) (rfl); have y1_ := hY_.c 3 (.int .i64 x.l2) (rfl); go_simp; first | done | exact rfl); (case hQ => exact fun _ _ _ h => h); (case hS => exact hS_)
     intro hD2_; clear hD_; have hD_ := hD2_; clear hD2_; intro K hK; (try simp only [opt_true]); go_simp; refine hK _ _ ?_; clear hK K
     apply wpN_maybe (i := 10) hT_ hD_ rfl (by kernel_rfl) p1 (by clear hS_; cases p1 <;> rfl)
     (case h => intro hc_; obtain rfl : p1 = true := hc_; (try simp only [opt_true]); intro W_ hW_; have hcW_ := (bcellW hW_).1; go_simp; first | done | exact rfl); (case hQ => exact fun _ _ _ h => h); (case hS => exact hS_)
     intro hD2_; clear hD_; have hD_ := hD2_; clear hD2_; intro K hK; (try simp only [opt_true]); go_simp; refine hK _ _ ?_; clear hK K
     apply wpN_maybe (i := 11) hT_ hD_ rfl (by kernel_rfl) p1 (by clear hS_; cases p1 <;> rfl)
     (case h => intro hc_; obtain rfl : p1 = true := hc_; (try simp only [opt_true]); intro W_ hW_; have hY_ := (hX3).below hW_ (hg3); have y0_ := hY_.c 4 (.int .i64 x.h1) (rfl); have y1_ := hY_.c 5 (.int .i64 x.h2) (rfl); go_simp; first | done | exact rfl); (case hQ => exact fun _ _ _ h => h); (case hS => exact hS_)
     intro hD2_; clear hD_; have hD_ := hD2_; clear hD2_; intro K hK; (try simp only [opt_true]); go_simp; refine hK _ _ ?_; clear hK K
     apply wpN_freshm (S := Below w3.heap.size w3) (i := 12) hD_ rfl (by kernel_rfl) p1 (by clear hS_; cases p1 <;> rfl)
     (case h => intro hc_; obtain rfl : p1 = true := hc_; generalize hev_ : Act.eval _ = ev_; (have v379_ := (congrFun hev_.symm (.tmp 379)).trans (evalL _ _ 379); simp only [getL64, getL8, getL1, getL0, opt_true, Bool.not_false] at v379_); (have v381_ := (congrFun hev_.symm (.tmp 381)).trans (evalL _ _ 381); simp only [getL64, getL8, getL1, getL0, opt_true, Bool.not_false] at v381_); have vc_ : ∀ v_, ev_ (.const v_) = v_ := (fun _ => by rw [← hev_]; rfl); clear hev_; go_simp; first | done | exact rfl | exact ⟨rfl, rfl⟩); (case hS => exact hS_); (case hS' => exact (hS_).alloc (hS_).size _)
     intro hD2_; clear hD_; have hD_ := hD2_; clear hD2_; intro K hK w_ hS2_ hw0_; have hw_ := hQ0 hw0_; clear hw0_; go_simp; refine hK _ _ ?_; clear hK K hS_; have hS_ := hS2_; clear hS2_
     as_aux_lemma =>
      refine wpN_callm (S := Below w3.heap.size w3) (i := 13) hD_ rfl (by kernel_rfl) p1 (by clear hS_; cases p1 <;> rfl) (.bool p2) ?_ hS_ ?_
      · intro hc_; obtain rfl : p1 = true := hc_; intro N_ hN_; generalize hA_ : Act.mk _ _ = A_ at hN_ ⊢; (have v382_ := (congrArg (fun z_ : Act => z_.eval (.tmp 382)) hA_.symm).trans (evalL _ _ 382); simp only [getL64, getL8, getL1, getL0, opt_true, Bool.not_false] at v382_); clear hA_; have vc_ : ∀ v_, Act.eval A_ (.const v_) = v_ := (fun _ => rfl); have vf_ : ∀ f_, Act.eval A_ (.func f_) = .func (.func f_) #[] #[] := (fun _ => rfl); generalize Act.eval A_ = ev_ at vc_ vf_ v382_ ⊢; obtain rfl := hw_.out rfl; go_simp; go_at_call 29; refine (at_new2' x.l1 x.l2 x.h1 x.h2 _ _ p2 HHp2.out (by simp)).mono ?_; rintro e w9 ⟨rfl, hb9⟩; exact hN_ _ (hS_.trans (hb9.mono (by have := hS_.size; simp at this; omega)))
      intro hD2_; clear hD_; have hD_ := hD2_; clear hD2_; intro K hK w_ hS2_; go_simp; refine hK _ _ ?_; clear hK K hS_; have hS_ := hS2_; clear hS2_
      obtain ⟨d39_1, hd39_1⟩ : ∃ b_, b_ = (p1 && p2) := ⟨_, rfl⟩
      apply wpN_maybe (i := 14) hT_ hD_ rfl (by kernel_rfl) true (by exact rfl) (.bool d39_1) (fun _ _ _ h => h) hS_ (by intro _ W_ hW_; rw [hd39_1]; cases p1 <;> (go_simp; try exact rfl))
      have Hd39_1 := hQ0 hd39_1; clear hd39_1
      intro hD2_; clear hD_; have hD_ := hD2_; clear hD2_; intro K hK; (try simp only [opt_true]); go_simp; refine hK _ _ ?_; clear hK K
      apply wpN_maybe (i := 15) hT_ hD_ rfl (by kernel_rfl) true (by exact rfl)
      (case h => intro _; intro W_ hW_; have hcW_ := (bcellW hW_).1; go_simp; first | done | exact rfl); (case hQ => exact fun _ _ _ h => h); (case hS => exact hS_)
      intro hD2_; clear hD_; have hD_ := hD2_; clear hD2_; intro K hK; (try simp only [opt_true]); go_simp; refine hK _ _ ?_; clear hK K
      apply wpN_maybe (i := 16) hT_ hD_ rfl (by kernel_rfl) d39_1 (by clear hS_; cases d39_1 <;> rfl)
      (case h => intro hc_; obtain rfl : d39_1 = true := hc_; (try simp only [opt_true]); intro W_ hW_; have hcW_ := (bcellW hW_).1; go_simp; first | done | exact rfl); (case hQ => exact fun _ _ _ h => h); (case hS => exact hS_)
      intro hD2_; clear hD_; have hD_ := hD2_; clear hD2_; intro K hK; (try simp only [opt_true]); go_simp; refine hK _ _ ?_; clear hK K
      apply wpN_maybe (i := 17) hT_ hD_ rfl (by kernel_rfl) d39_1 (by clear hS_; cases d39_1 <;> rfl)
      (case h => intro hc_; obtain rfl : d39_1 = true := hc_; (try simp only [opt_true]); intro W_ hW_; have hY_ := (hX3).below hW_ (hg3); have y0_ := hY_.c 6 (.int .i64 x.f1) (rfl); have y1_ := hY_.c 7 (.int .i64 x.f2) (rfl); go_simp; first | done | exact rfl); (case hQ => exact fun _ _ _ h => h); (case hS => exact hS_)
      intro hD2_; clear hD_; have hD_ := hD2_; clear hD2_; intro K hK; (try simp only [opt_true]); go_simp; refine hK _ _ ?_; clear hK K
      apply wpN_freshm (S := Below w3.heap.size w3) (i := 18) hD_ rfl (by kernel_rfl) d39_1 (by clear hS_; cases d39_1 <;> rfl)
      (case h => intro hc_; obtain rfl : d39_1 = true := hc_; generalize hev_ : Act.eval _ = ev_; (have v387_ := (congrFun hev_.symm (.tmp 387)).trans (evalL _ _ 387); simp only [getL64, getL8, getL1, getL0, opt_true, Bool.not_false] at v387_); have vc_ : ∀ v_, ev_ (.const v_) = v_ := (fun _ => by rw [← hev_]; rfl); clear hev_; go_simp; first | done | exact rfl | exact ⟨rfl, rfl⟩); (case hS => exact hS_); (case hS' => exact (hS_).alloc (hS_).size _)
      intro hD2_; clear hD_; have hD_ := hD2_; clear hD2_; intro K hK w_ hS2_ hw0_; have hw_ := hQ0 hw0_; clear hw0_; go_simp; refine hK _ _ ?_; clear hK K hS_; have hS_ := hS2_; clear hS2_
      refine wpN_callm (S := Below w3.heap.size w3) (i := 19) hD_ rfl (by kernel_rfl) d39_1 (by clear hS_; cases d39_1 <;> rfl) (.bool p3) ?_ hS_ ?_
      · intro hc_; obtain rfl : d39_1 = true := hc_; intro N_ hN_; generalize hA_ : Act.mk _ _ = A_ at hN_ ⊢; (have v388_ := (congrArg (fun z_ : Act => z_.eval (.tmp 388)) hA_.symm).trans (evalL _ _ 388); simp only [getL64, getL8, getL1, getL0, opt_true, Bool.not_false] at v388_); clear hA_; have vc_ : ∀ v_, Act.eval A_ (.const v_) = v_ := (fun _ => rfl); have vf_ : ∀ f_, Act.eval A_ (.func f_) = .func (.func f_) #[] #[] := (fun _ => rfl); generalize Act.eval A_ = ev_ at vc_ vf_ v388_ ⊢; obtain rfl := hw_.out rfl; go_simp; go_at_call 26; refine (within_new1' 256 x.f1 x.f2 _ _ p3 HHp3.out (by simp) (by omega) (by omega)).mono ?_; rintro e w9 ⟨rfl, hb9⟩; exact hN_ _ (hS_.trans (hb9.mono (by have := hS_.size; simp at this; omega)))
      intro hD2_; clear hD_; have hD_ := hD2_; clear hD2_; intro K hK w_ hS2_; go_simp; refine hK _ _ ?_; clear hK K hS_; have hS_ := hS2_; clear hS2_
      obtain ⟨d39_2, hd39_2⟩ : ∃ b_, b_ = (d39_1 && p3) := ⟨_, rfl⟩
      apply wpN_maybe (i := 20) hT_ hD_ rfl (by kernel_rfl) true (by exact rfl) (.bool d39_2) (fun _ _ _ h => h) hS_ (by intro _ W_ hW_; rw [hd39_2]; cases d39_1 <;> (go_simp; try exact rfl))
      have Hd39_2 := hQ0 hd39_2; clear hd39_2
      intro hD2_; clear hD_; have hD_ := hD2_; clear hD2_; intro K hK; (try simp only [opt_true]); go_simp; refine hK _ _ ?_; clear hK K
      apply wpN_maybe (i := 21) hT_ hD_ rfl (by kernel_rfl) true (by exact rfl)
      (case h => intro _; intro W_ hW_; have hcW_ := (bcellW hW_).1; go_simp; first | done | exact rfl); (case hQ => exact fun _ _ _ h => h); (case hS => exact hS_)
      intro hD2_; clear hD_; have hD_ := hD2_; clear hD2_; intro K hK; (try simp only [opt_true]); go_simp; refine hK _ _ ?_; clear hK K
      apply wpN_maybe (i := 22) hT_ hD_ rfl (by kernel_rfl) d39_2 (by clear hS_; cases d39_2 <;> rfl)
      (case h => intro hc_; obtain rfl : d39_2 = true := hc_; (try simp only [opt_true]); intro W_ hW_; have hcW_ := (bcellW hW_).1; go_simp; first | done | exact rfl); (case hQ => exact fun _ _ _ h => h); (case hS => exact hS_)
      intro hD2_; clear hD_; have hD_ := hD2_; clear hD2_; intro K hK; (try simp only [opt_true]); go_simp; refine hK _ _ ?_; clear hK K
      apply wpN_maybe (i := 23) hT_ hD_ rfl (by kernel_rfl) d39_2 (by clear hS_; cases d39_2 <;> rfl)
      (case h => intro hc_; obtain rfl : d39_2 = true := hc_; (try simp only [opt_true]); intro W_ hW_; have hY_ := (hX3).below hW_ (hg3); have y0_ := hY_.c 8 (.int .i64 x.cl) (rfl); go_simp; first | done | exact rfl); (case hQ => exact fun _ _ _ h => h); (case hS => exact hS_)
      intro hD2_; clear hD_; have hD_ := hD2_; clear hD2_; intro K hK; (try simp only [opt_true]); go_simp; refine hK _ _ ?_; clear hK K
      apply wpN_freshm (S := Below w3.heap.size w3) (i := 24) hD_ rfl (by kernel_rfl) d39_2 (by clear hS_; cases d39_2 <;> rfl)
      (case h => intro hc_; obtain rfl : d39_2 = true := hc_; generalize hev_ : Act.eval _ = ev_; (have v393_ := (congrFun hev_.symm (.tmp 393)).trans (evalL _ _ 393); simp only [getL64, getL8, getL1, getL0, opt_true, Bool.not_false] at v393_); have vc_ : ∀ v_, ev_ (.const v_) = v_ := (fun _ => by rw [← hev_]; rfl); clear hev_; go_simp; first | done | exact rfl | exact ⟨rfl, rfl⟩); (case hS => exact hS_); (case hS' => exact (hS_).alloc (hS_).size _)
      intro hD2_; clear hD_; have hD_ := hD2_; clear hD2_; intro K hK w_ hS2_ hw0_; have hw_ := hQ0 hw0_; clear hw0_; go_simp; refine hK _ _ ?_; clear hK K hS_; have hS_ := hS2_; clear hS2_
      refine wpN_callm (S := Below w3.heap.size w3) (i := 25) hD_ rfl (by kernel_rfl) d39_2 (by clear hS_; cases d39_2 <;> rfl) (.bool p4) ?_ hS_ ?_
      · intro hc_; obtain rfl : d39_2 = true := hc_; intro N_ hN_; generalize hA_ : Act.mk _ _ = A_ at hN_ ⊢; (have v394_ := (congrArg (fun z_ : Act => z_.eval (.tmp 394)) hA_.symm).trans (evalL _ _ 394); simp only [getL64, getL8, getL1, getL0, opt_true, Bool.not_false] at v394_); clear hA_; have vc_ : ∀ v_, Act.eval A_ (.const v_) = v_ := (fun _ => rfl); have vf_ : ∀ f_, Act.eval A_ (.func f_) = .func (.func f_) #[] #[] := (fun _ => rfl); generalize Act.eval A_ = ev_ at vc_ vf_ v394_ ⊢; obtain rfl := hw_.out rfl; go_simp; go_at_call 25; refine (in_new1' (-1) 31 x.cl _ _ p4 HHp4.out (by simp)).mono ?_; rintro e w9 ⟨rfl, rfl⟩; exact hN_ _ hS_
      intro hD2_; clear hD_; have hD_ := hD2_; clear hD2_; intro K hK w_ hS2_; go_simp; refine hK _ _ ?_; clear hK K hS_; have hS_ := hS2_; clear hS2_
      obtain ⟨d39_3, hd39_3⟩ : ∃ b_, b_ = (d39_2 && p4) := ⟨_, rfl⟩
      apply wpN_maybe (i := 26) hT_ hD_ rfl (by kernel_rfl) true (by exact rfl) (.bool d39_3) (fun _ _ _ h => h) hS_ (by intro _ W_ hW_; rw [hd39_3]; cases d39_2 <;> (go_simp; try exact rfl))
      have Hd39_3 := hQ0 hd39_3; clear hd39_3
      intro hD2_; clear hD_; have hD_ := hD2_; clear hD2_; intro K hK; (try simp only [opt_true]); go_simp; refine hK _ _ ?_; clear hK K
      apply wpN_maybe (i := 34) hT_ hD_ rfl (by kernel_rfl) true (by exact rfl)
      (case h => intro _; intro W_ hW_; have hcW_ := (bcellW hW_).1; go_simp; first | done | exact rfl); (case hQ => exact fun _ _ _ h => h); (case hS => exact hS_)
      intro hD2_; clear hD_; have hD_ := hD2_; clear hD2_; intro K hK; (try simp only [opt_true]); go_simp; refine hK _ _ ?_; clear hK K
      apply wpN_maybe (i := 35) hT_ hD_ rfl (by kernel_rfl) b0 (by clear hS_; cases b0 <;> rfl)
      (case h => intro hc_; obtain rfl : b0 = true := hc_; (try simp only [opt_true]); intro W_ hW_; have hcW_ := (bcellW hW_).1; go_simp; first | done | exact rfl); (case hQ => exact fun _ _ _ h => h); (case hS => exact hS_)
      intro hD2_; clear hD_; have hD_ := hD2_; clear hD2_; intro K hK; (try simp only [opt_true]); go_simp; refine hK _ _ ?_; clear hK K
      apply wpN_maybe (i := 36) hT_ hD_ rfl (by kernel_rfl) b0 (by clear hS_; cases b0 <;> rfl)
      (case h => intro hc_; obtain rfl : b0 = true := hc_; (try simp only [opt_true]); intro W_ hW_; have hcW_ := (bcellW hW_).1; go_simp; first | done | exact rfl); (case hQ => exact fun _ _ _ h => h); (case hS => exact hS_)
      intro hD2_; clear hD_; have hD_ := hD2_; clear hD2_; intro K hK; (try simp only [opt_true]); go_simp; refine hK _ _ ?_; clear hK K
      apply wpN_maybe (i := 37) hT_ hD_ rfl (by kernel_rfl) b0 (by clear hS_; cases b0 <;> rfl)
      (case h => intro hc_; obtain rfl : b0 = true := hc_; (try simp only [opt_true]); intro W_ hW_; have hY_ := (hX3).below hW_ (hg3); have y0_ := hY_.c 3 (.int .i64 x.l2) (rfl); go_simp; first | done | exact rfl); (case hQ => exact fun _ _ _ h => h); (case hS => exact hS_)
      intro hD2_; clear hD_; have hD_ := hD2_; clear hD2_; intro K hK; (try simp only [opt_true]); go_simp; refine hK _ _ ?_; clear hK K
      apply wpN_maybe (i := 38) hT_ hD_ rfl (by kernel_rfl) b0 (by clear hS_; cases b0 <;> rfl)
      (case h => intro hc_; obtain rfl : b0 = true := hc_; (try simp only [opt_true]); intro W_ hW_; have hcW_ := (bcellW hW_).1; go_simp; first | done | exact rfl); (case hQ => exact fun _ _ _ h => h); (case hS => exact hS_)
      intro hD2_; clear hD_; have hD_ := hD2_; clear hD2_; intro K hK; (try simp only [opt_true]); go_simp; refine hK _ _ ?_; clear hK K
      apply wpN_maybe (i := 39) hT_ hD_ rfl (by kernel_rfl) b0 (by clear hS_; cases b0 <;> rfl)
      (case h => intro hc_; obtain rfl : b0 = true := hc_; (try simp only [opt_true]); intro W_ hW_; have hcW_ := (bcellW hW_).1; go_simp; first | done | exact rfl); (case hQ => exact fun _ _ _ h => h); (case hS => exact hS_)
      intro hD2_; clear hD_; have hD_ := hD2_; clear hD2_; intro K hK; (try simp only [opt_true]); go_simp; refine hK _ _ ?_; clear hK K
      as_aux_lemma =>
       apply wpN_maybe (i := 40) hT_ hD_ rfl (by kernel_rfl) b0 (by clear hS_; cases b0 <;> rfl)
       (case h => intro hc_; obtain rfl : b0 = true := hc_; (try simp only [opt_true]); intro W_ hW_; have hY_ := (hX3).below hW_ (hg3); have y0_ := hY_.c 5 (.int .i64 x.h2) (rfl); go_simp; first | done | exact rfl); (case hQ => exact fun _ _ _ h => h); (case hS => exact hS_)
       intro hD2_; clear hD_; have hD_ := hD2_; clear hD2_; intro K hK; (try simp only [opt_true]); go_simp; refine hK _ _ ?_; clear hK K
       apply wpN_maybe (i := 41) hT_ hD_ rfl (by kernel_rfl) b0 (by clear hS_; cases b0 <;> rfl) (.bool b1)
       (case h => intro hc_; obtain rfl : b0 = true := hc_; (try simp only [opt_true]); intro W_ hW_; have hcW_ := (bcellW hW_).1; go_simp; rw [HHb1.out]; first | done | exact rfl | (rfl)); (case hQ => exact fun _ _ _ h => h); (case hS => exact hS_)
       intro hD2_; clear hD_; have hD_ := hD2_; clear hD2_; intro K hK; (try simp only [opt_true]); go_simp; refine hK _ _ ?_; clear hK K
       obtain ⟨d39_4, hd39_4⟩ : ∃ b_, b_ = (b0 && b1) := ⟨_, rfl⟩
       apply wpN_maybe (i := 42) hT_ hD_ rfl (by kernel_rfl) true (by exact rfl) (.bool d39_4) (fun _ _ _ h => h) hS_ (by intro _ W_ hW_; rw [hd39_4]; cases b0 <;> (go_simp; try exact rfl))
       have Hd39_4 := hQ0 hd39_4; clear hd39_4
       intro hD2_; clear hD_; have hD_ := hD2_; clear hD2_; intro K hK; (try simp only [opt_true]); go_simp; refine hK _ _ ?_; clear hK K
       refine wpZ_nil (by kernel_rfl) ?_
       (try simp only [List.filterMap_cons, List.filterMap_nil, List.getElem?_cons_succ, List.getElem?_cons_zero])
       (try go_simp)
       as_aux_lemma =>
        have hCk := HC3.out.below hS_ (Nat.le_refl _)
        have hTk := HT3.out.below hS_ HT3.out.lt
        have hBk : Below w.heap.size w w_ := HB3.out.trans (hS_.mono HB3.out.size)
        have HF : Hid (d39_3 = x.fB) := hQ0 (by simp only [Hd39_4.out, Hd39_3.out, Hd39_2.out, Hd39_1.out, HHp1.out, HHp2.out, HHp3.out, HHp4.out, HHb0.out, HHb1.out]; rfl)
        have HSH : Hid (d39_4 = x.sB) := hQ0 (by simp only [Hd39_4.out, Hd39_3.out, Hd39_2.out, Hd39_1.out, HHp1.out, HHp2.out, HHp3.out, HHp4.out, HHb0.out, HHb1.out]; first | done | rfl)
        have HCk := hQ0 hCk
        have HTk := hQ0 hTk
        have HBk := hQ0 hBk
        clear hCk hTk hBk hS_
        go_wp2_with (go_at_call 27; refine (look_any _ cb mb n (w.heap.size + 1) e L x.nm d39_3 d39_4 HCk.out (HN.out x (List.mem_of_getElem? HX.out)) (by unfold maxLen; have := HN2.out; have := HN3.out; omega) hcb hmb).mono ?_; rintro ε w4 ⟨rfl, hb4, m, hm, hC4⟩)
        go_roundg (l.length - (k + 1) + 1)
        case measure => omega
        case rel =>
         refine ⟨k + 1, m, _, _, by omega, by omega, by go_num, by omega, HBk.out.trans (hb4.mono (by have := HBk.out.size; omega)), HTk.out.below hb4 (by omega), hC4, hQ0 ?_⟩
         rw [fold_next HX.out, ← HJ.out, HF.out, HSH.out]
         rfl
  · obtain rfl : k = l.length := by omega
    have HBe := hQ0 hb_ws
    have HTr := hQ0 hTr
    have HCr := hQ0 hCr
    clear hb_ws hTr hCr
    go_wp2_with fail
    show R _ _
    have hj := HJ.out
    rw [List.take_length] at hj
    exact HR.out _ _ n rfl rfl rfl HF3.out.symm HBe.out HTr.out hnk (by rw [← hj]; exact HCr.out)
attribute [local go_sem ↓] evalL getL64 setL64
attribute [local go_sem ↓] getL8 setL8
attribute [local go_sem ↓] getL1 getL0
set_option maxRecDepth 100000 in
set_option maxHeartbeats 8000000 in
theorem lp_las (w wr : World) (A : Option Addr) (c cb mb n0 N : Nat) (e0 : Int) (L0 : List ByteArray) (l : List La) (TC : List Value) (df : List Deferred) (F : List Value) (hF : F.length = 623) (f3 : F[3]? = some (.pointer (some ⟨cb, 0, none⟩))) (f468 : F[468]? = some (.slice A l.length c)) (f469 : F[469]? = some (.int .i64 (l.length : Int))) (f470 : F[470]? = some (.int .i64 0))
  (hA : RowsAt 6 La.cells w A l) (hl : l.length ≤ 64) (hnm : ∀ x ∈ l, x.nm.size ≤ maxLen) (hb : Below w.heap.size w wr) (hT : BoxAt wr w.heap.size TC) (hC : CkAt wr cb mb n0 e0 L0) (hn : n0 + l.length ≤ N) (hN : N ≤ 1000) (hcb : w.heap.size < cb) (hmb : w.heap.size < mb) (R : Act → World → Prop)
  (hR : ∀ (F' : List Value) (w' : World) (n : Nat), F'.length = 623 → F'[1]? = F[1]? → F'[2]? = F[2]? → F'[3]? = F[3]? → Below w.heap.size w w' → BoxAt w' w.heap.size TC → n ≤ n0 + l.length → CkAt w' cb mb n (l.foldl La.look (e0, L0)).1 (l.foldl La.look (e0, L0)).2 → R ⟨F'.toArray, df⟩ w') :
  (blkOf 13 Tryz.f11).wp Tryz.prog (AtEnd R) ⟨F.toArray, df⟩ wr := by
 obtain ⟨s, rfl⟩ := fr623_ex F hF
 have e3 : s 3 = .pointer (some ⟨cb, 0, none⟩) := Option.some.inj f3
 have e468 : s 468 = .slice A l.length c := Option.some.inj f468
 have e469 : s 469 = .int .i64 (l.length : Int) := Option.some.inj f469
 have e470 : s 470 = .int .i64 0 := Option.some.inj f470
 unfold fr623
 rw [e3, e468, e469, e470]
 have HF3 := hQ0 f3
 clear hF e3 f3 e468 f468 e469 f469 e470 f470
 have HA := hQ0 hA
 have HR := hQ0 hR
 have HN := hQ0 hnm
 have HN2 := hQ0 hN
 have HN3 := hQ0 hn
 clear hA hnm hN hn hR
 conv in (blkOf _ _) => whnf
 go_wp2_with fail
 go_loopg [470] (l.length + 1) (fun gk tt wr => ∃ (k n : Nat) (e : Int) (L : List ByteArray), k ≤ l.length ∧ l.length - k < gk ∧ tt = .int .i64 k ∧ n ≤ n0 + k ∧ Below w.heap.size w wr ∧ BoxAt wr w.heap.size TC ∧ CkAt wr cb mb n e L ∧ Hid ((e, L) = ((l.take k).foldl La.look (e0, L0))))
 case atStart => exact ⟨0, n0, e0, L0, by omega, by omega, rfl, by omega, hb, hT, hC, hQ0 rfl⟩
 case round =>
  obtain ⟨ws_, rfl⟩ : ∃ z, z = wr := ⟨_, rfl⟩
  clear hb hT hC
  obtain ⟨k, n, e, L, hk, hkk, rfl, hnk, hb_ws, hTr, hCr, HJ⟩ := hrel
  have hz_ws := hb_ws.size
  by_cases hlt : k < l.length
  · obtain ⟨x, hx⟩ : ∃ x, l[k]? = some x := ⟨l[k], by simp⟩
    obtain ⟨g, o, rfl, hg, c0, c1, c2, c3, c4, c5⟩ := La.get (HA.out.below hb_ws (Nat.le_refl _)) hx
    have i1 : (k : Int) < (l.length : Int) := by omega
    have HX := hQ0 hx
    have HBe := hQ0 hb_ws
    have HTr := hQ0 hTr
    have HCr := hQ0 hCr
    clear hx hb_ws hTr hCr
    go_upto_region 49 with (fail)
    (refine pin_eqT (fun w3 hE_w3 => ?_))
    obtain ⟨gb, hgb⟩ : ∃ z, z = ws_.heap.size := ⟨_, rfl⟩
    rw [← hgb]
    have hX3 : BoxAt w3 gb x.cells := by rw [hE_w3, hgb]; exact BoxAt.new _ _ _
    have hT3 : BoxAt w3 w.heap.size TC := by rw [hE_w3]; exact HTr.out.alloc _
    have hC3 : CkAt w3 cb mb n e L := by rw [hE_w3]; exact HCr.out.below ((Below.refl _ _).alloc (Nat.le_refl _) _) (Nat.le_refl _)
    have hB3 : Below w.heap.size w w3 := by rw [hE_w3]; exact HBe.out.alloc hz_ws _
    have HGB := hQ0 hgb
    clear hgb hE_w3 c0 c1 c2 c3 c4 c5
    have hg3 := hX3.lt
    have HT3 := hQ0 hT3
    have HC3 := hQ0 hC3
    have HB3 := hQ0 hB3
    clear hT3 hC3 hB3 hg
    obtain ⟨p1, hp1⟩ : ∃ b, b = (in1 0 3 x.lv) := ⟨_, rfl⟩
    have HHp1 := hQ0 hp1
    clear hp1
    obtain ⟨p2, hp2⟩ : ∃ b, b = (nearV 1048576 ⟨x.c1, x.c2⟩) := ⟨_, rfl⟩
    have HHp2 := hQ0 hp2
    clear hp2
    obtain ⟨p3, hp3⟩ : ∃ b, b = (in1 1 262144 x.sz) := ⟨_, rfl⟩
    have HHp3 := hQ0 hp3
    clear hp3
    obtain ⟨p4, hp4⟩ : ∃ b, b = (in1 (-1) 63 x.sw) := ⟨_, rfl⟩
    have HHp4 := hQ0 hp4
    clear hp4
    as_aux_lemma =>
     have hS_ : Below w3.heap.size w3 w3.drew := (Below.refl _ _).drew
     refine wp_region_N (Below w3.heap.size w3) 25 [25] (by kernel_rfl) (by kernel_rfl) (tailBJ_of (nx := [25, 2, 25, 4, 5, 6, 7, 8, 9, 10, 11, 12, 13, 14, 15, 16, 17, 18, 19, 20, 21, 22, 23, 24, 25, 0]) (by kernel_rfl)) (by kernel_rfl) ?_
     intro hT_ hD_
     generalize w3.drew = wd_ at hS_ ⊢
     apply wpN_maybe (i := 0) hT_ hD_ rfl (by kernel_rfl) true (by exact rfl)
     (case h => intro _; intro W_ hW_; have hcW_ := (bcellW hW_).1; go_simp; first | done | exact rfl); (case hQ => exact fun _ _ _ h => h); (case hS => exact hS_)
     intro hD2_; clear hD_; have hD_ := hD2_; clear hD2_; intro K hK; (try simp only [opt_true]); go_simp; refine hK _ _ ?_; clear hK K
     apply wpN_maybe (i := 1) hT_ hD_ rfl (by kernel_rfl) true (by exact rfl)
     (case h => intro _; intro W_ hW_; have hcW_ := (bcellW hW_).1; go_simp; first | done | exact rfl); (case hQ => exact fun _ _ _ h => h); (case hS => exact hS_)
     intro hD2_; clear hD_; have hD_ := hD2_; clear hD2_; intro K hK; (try simp only [opt_true]); go_simp; refine hK _ _ ?_; clear hK K
     apply wpN_maybe (i := 2) hT_ hD_ rfl (by kernel_rfl) true (by exact rfl)
     (case h => intro _; intro W_ hW_; have hY_ := (hX3).below hW_ (hg3); have y0_ := hY_.c 0 (.string x.nm) (rfl); go_simp; first | done | exact rfl); (case hQ => exact fun _ _ _ h => h); (case hS => exact hS_)
     intro hD2_; clear hD_; have hD_ := hD2_; clear hD2_; intro K hK; (try simp only [opt_true]); go_simp; refine hK _ _ ?_; clear hK K
     apply wpN_maybe (i := 3) hT_ hD_ rfl (by kernel_rfl) true (by exact rfl)
     (case h => intro _; intro W_ hW_; have hcW_ := (bcellW hW_).1; go_simp; first | done | exact rfl); (case hQ => exact fun _ _ _ h => h); (case hS => exact hS_)
     intro hD2_; clear hD_; have hD_ := hD2_; clear hD2_; intro K hK; (try simp only [opt_true]); go_simp; refine hK _ _ ?_; clear hK K
     apply wpN_maybe (i := 4) hT_ hD_ rfl (by kernel_rfl) true (by exact rfl)
     (case h => intro _; intro W_ hW_; have hY_ := (hX3).below hW_ (hg3); have y0_ := hY_.c 1 (.int .i64 x.lv) (rfl); go_simp; first | done | exact rfl); (case hQ => exact fun _ _ _ h => h); (case hS => exact hS_)
     intro hD2_; clear hD_; have hD_ := hD2_; clear hD2_; intro K hK; (try simp only [opt_true]); go_simp; refine hK _ _ ?_; clear hK K
     apply wpN_freshm (S := Below w3.heap.size w3) (i := 5) hD_ rfl (by kernel_rfl) true (by exact rfl)
     (case h => intro _; generalize hev_ : Act.eval _ = ev_; (have v478_ := (congrFun hev_.symm (.tmp 478)).trans (evalL _ _ 478); simp only [getL64, getL8, getL1, getL0, opt_true, Bool.not_false] at v478_); have vc_ : ∀ v_, ev_ (.const v_) = v_ := (fun _ => by rw [← hev_]; rfl); clear hev_; go_simp; first | done | exact rfl | exact ⟨rfl, rfl⟩); (case hS => exact hS_); (case hS' => exact (hS_).alloc (hS_).size _)
     intro hD2_; clear hD_; have hD_ := hD2_; clear hD2_; intro K hK w_ hS2_ hw0_; have hw_ := hQ0 hw0_; clear hw0_; go_simp; refine hK _ _ ?_; clear hK K hS_; have hS_ := hS2_; clear hS2_
     refine wpN_callm (S := Below w3.heap.size w3) (i := 6) hD_ rfl (by kernel_rfl) true (by exact rfl) (.bool p1) ?_ hS_ ?_
     · intro _; intro N_ hN_; generalize hA_ : Act.mk _ _ = A_ at hN_ ⊢; (have v479_ := (congrArg (fun z_ : Act => z_.eval (.tmp 479)) hA_.symm).trans (evalL _ _ 479); simp only [getL64, getL8, getL1, getL0, opt_true, Bool.not_false] at v479_); clear hA_; have vc_ : ∀ v_, Act.eval A_ (.const v_) = v_ := (fun _ => rfl); have vf_ : ∀ f_, Act.eval A_ (.func f_) = .func (.func f_) #[] #[] := (fun _ => rfl); generalize Act.eval A_ = ev_ at vc_ vf_ v479_ ⊢; obtain rfl := hw_.out rfl; go_simp; go_at_call 28; refine (level_new1' x.lv _ _ p1 HHp1.out (by simp)).mono ?_; rintro e w9 ⟨rfl, rfl⟩; exact hN_ _ hS_
     intro hD2_; clear hD_; have hD_ := hD2_; clear hD2_; intro K hK w_ hS2_; go_simp; refine hK _ _ ?_; clear hK K hS_; have hS_ := hS2_; clear hS2_
     apply wpN_maybe (i := 7) hT_ hD_ rfl (by kernel_rfl) true (by exact rfl)
     (case h => intro _; intro W_ hW_; have hcW_ := (bcellW hW_).1; go_simp; first | done | exact rfl); (case hQ => exact fun _ _ _ h => h); (case hS => exact hS_)
     intro hD2_; clear hD_; have hD_ := hD2_; clear hD2_; intro K hK; (try simp only [opt_true]); go_simp; refine hK _ _ ?_; clear hK K
     apply wpN_maybe (i := 8) hT_ hD_ rfl (by kernel_rfl) p1 (by clear hS_; cases p1 <;> rfl)
     (case h => intro hc_; obtain rfl : p1 = true := hc_; (try simp only [opt_true]); intro W_ hW_; have hcW_ := (bcellW hW_).1; go_simp; first | done | exact rfl); (case hQ => exact fun _ _ _ h => h); (case hS => exact hS_)
     intro hD2_; clear hD_; have hD_ := hD2_; clear hD2_; intro K hK; (try simp only [opt_true]); go_simp; refine hK _ _ ?_; clear hK K
     apply wpN_maybe (i := 9) hT_ hD_ rfl (by kernel_rfl) p1 (by clear hS_; cases p1 <;> rfl)
     (case h => intro hc_; obtain rfl : p1 = true := hc_; (try simp only [opt_true]); intro W_ hW_; have hY_ := (hX3).below hW_ (hg3); have y0_ := hY_.c 2 (.int .i64 x.c1) (rfl); have y1_ := hY_.c 3 (.int .i64 x.c2) (rfl); go_simp; first | done | exact rfl); (case hQ => exact fun _ _ _ h => h); (case hS => exact hS_)
     intro hD2_; clear hD_; have hD_ := hD2_; clear hD2_; intro K hK; (try simp only [opt_true]); go_simp; refine hK _ _ ?_; clear hK K
     apply wpN_freshm (S := Below w3.heap.size w3) (i := 10) hD_ rfl (by kernel_rfl) p1 (by clear hS_; cases p1 <;> rfl)
     (case h => intro hc_; obtain rfl : p1 = true := hc_; generalize hev_ : Act.eval _ = ev_; (have v483_ := (congrFun hev_.symm (.tmp 483)).trans (evalL _ _ 483); simp only [getL64, getL8, getL1, getL0, opt_true, Bool.not_false] at v483_); have vc_ : ∀ v_, ev_ (.const v_) = v_ := (fun _ => by rw [← hev_]; rfl); clear hev_; go_simp; first | done | exact rfl | exact ⟨rfl, rfl⟩); (case hS => exact hS_); (case hS' => exact (hS_).alloc (hS_).size _)
     intro hD2_; clear hD_; have hD_ := hD2_; clear hD2_; intro K hK w_ hS2_ hw0_; have hw_ := hQ0 hw0_; clear hw0_; go_simp; refine hK _ _ ?_; clear hK K hS_; have hS_ := hS2_; clear hS2_
     refine wpN_callm (S := Below w3.heap.size w3) (i := 11) hD_ rfl (by kernel_rfl) p1 (by clear hS_; cases p1 <;> rfl) (.bool p2) ?_ hS_ ?_
     · intro hc_; obtain rfl : p1 = true := hc_; intro N_ hN_; generalize hA_ : Act.mk _ _ = A_ at hN_ ⊢; (have v484_ := (congrArg (fun z_ : Act => z_.eval (.tmp 484)) hA_.symm).trans (evalL _ _ 484); simp only [getL64, getL8, getL1, getL0, opt_true, Bool.not_false] at v484_); clear hA_; have vc_ : ∀ v_, Act.eval A_ (.const v_) = v_ := (fun _ => rfl); have vf_ : ∀ f_, Act.eval A_ (.func f_) = .func (.func f_) #[] #[] := (fun _ => rfl); generalize Act.eval A_ = ev_ at vc_ vf_ v484_ ⊢; obtain rfl := hw_.out rfl; go_simp; go_at_call 29; refine (at_new1' x.c1 x.c2 _ _ p2 HHp2.out (by simp)).mono ?_; rintro e w9 ⟨rfl, hb9⟩; exact hN_ _ (hS_.trans (hb9.mono (by have := hS_.size; simp at this; omega)))
     intro hD2_; clear hD_; have hD_ := hD2_; clear hD2_; intro K hK w_ hS2_; go_simp; refine hK _ _ ?_; clear hK K hS_; have hS_ := hS2_; clear hS2_
     obtain ⟨d49_1, hd49_1⟩ : ∃ b_, b_ = (p1 && p2) := ⟨_, rfl⟩
     apply wpN_maybe (i := 12) hT_ hD_ rfl (by kernel_rfl) true (by exact rfl) (.bool d49_1) (fun _ _ _ h => h) hS_ (by intro _ W_ hW_; rw [hd49_1]; cases p1 <;> (go_simp; try exact rfl))
     have Hd49_1 := hQ0 hd49_1; clear hd49_1
     intro hD2_; clear hD_; have hD_ := hD2_; clear hD2_; intro K hK; (try simp only [opt_true]); go_simp; refine hK _ _ ?_; clear hK K
     apply wpN_maybe (i := 13) hT_ hD_ rfl (by kernel_rfl) true (by exact rfl)
     (case h => intro _; intro W_ hW_; have hcW_ := (bcellW hW_).1; go_simp; first | done | exact rfl); (case hQ => exact fun _ _ _ h => h); (case hS => exact hS_)
     intro hD2_; clear hD_; have hD_ := hD2_; clear hD2_; intro K hK; (try simp only [opt_true]); go_simp; refine hK _ _ ?_; clear hK K
     apply wpN_maybe (i := 14) hT_ hD_ rfl (by kernel_rfl) d49_1 (by clear hS_; cases d49_1 <;> rfl)
     (case h => intro hc_; obtain rfl : d49_1 = true := hc_; (try simp only [opt_true]); intro W_ hW_; have hcW_ := (bcellW hW_).1; go_simp; first | done | exact rfl); (case hQ => exact fun _ _ _ h => h); (case hS => exact hS_)
     intro hD2_; clear hD_; have hD_ := hD2_; clear hD2_; intro K hK; (try simp only [opt_true]); go_simp; refine hK _ _ ?_; clear hK K
     apply wpN_maybe (i := 15) hT_ hD_ rfl (by kernel_rfl) d49_1 (by clear hS_; cases d49_1 <;> rfl)
     (case h => intro hc_; obtain rfl : d49_1 = true := hc_; (try simp only [opt_true]); intro W_ hW_; have hY_ := (hX3).below hW_ (hg3); have y0_ := hY_.c 4 (.int .i64 x.sz) (rfl); go_simp; first | done | exact rfl); (case hQ => exact fun _ _ _ h => h); (case hS => exact hS_)
     intro hD2_; clear hD_; have hD_ := hD2_; clear hD2_; intro K hK; (try simp only [opt_true]); go_simp; refine hK _ _ ?_; clear hK K
     apply wpN_freshm (S := Below w3.heap.size w3) (i := 16) hD_ rfl (by kernel_rfl) d49_1 (by clear hS_; cases d49_1 <;> rfl)
     (case h => intro hc_; obtain rfl : d49_1 = true := hc_; generalize hev_ : Act.eval _ = ev_; (have v489_ := (congrFun hev_.symm (.tmp 489)).trans (evalL _ _ 489); simp only [getL64, getL8, getL1, getL0, opt_true, Bool.not_false] at v489_); have vc_ : ∀ v_, ev_ (.const v_) = v_ := (fun _ => by rw [← hev_]; rfl); clear hev_; go_simp; first | done | exact rfl | exact ⟨rfl, rfl⟩); (case hS => exact hS_); (case hS' => exact (hS_).alloc (hS_).size _)
     intro hD2_; clear hD_; have hD_ := hD2_; clear hD2_; intro K hK w_ hS2_ hw0_; have hw_ := hQ0 hw0_; clear hw0_; go_simp; refine hK _ _ ?_; clear hK K hS_; have hS_ := hS2_; clear hS2_
     refine wpN_callm (S := Below w3.heap.size w3) (i := 17) hD_ rfl (by kernel_rfl) d49_1 (by clear hS_; cases d49_1 <;> rfl) (.bool p3) ?_ hS_ ?_
     · intro hc_; obtain rfl : d49_1 = true := hc_; intro N_ hN_; generalize hA_ : Act.mk _ _ = A_ at hN_ ⊢; (have v490_ := (congrArg (fun z_ : Act => z_.eval (.tmp 490)) hA_.symm).trans (evalL _ _ 490); simp only [getL64, getL8, getL1, getL0, opt_true, Bool.not_false] at v490_); clear hA_; have vc_ : ∀ v_, Act.eval A_ (.const v_) = v_ := (fun _ => rfl); have vf_ : ∀ f_, Act.eval A_ (.func f_) = .func (.func f_) #[] #[] := (fun _ => rfl); generalize Act.eval A_ = ev_ at vc_ vf_ v490_ ⊢; obtain rfl := hw_.out rfl; go_simp; go_at_call 25; refine (in_new1' 1 262144 x.sz _ _ p3 HHp3.out (by simp)).mono ?_; rintro e w9 ⟨rfl, rfl⟩; exact hN_ _ hS_
     intro hD2_; clear hD_; have hD_ := hD2_; clear hD2_; intro K hK w_ hS2_; go_simp; refine hK _ _ ?_; clear hK K hS_; have hS_ := hS2_; clear hS2_
     obtain ⟨d49_2, hd49_2⟩ : ∃ b_, b_ = (d49_1 && p3) := ⟨_, rfl⟩
     apply wpN_maybe (i := 18) hT_ hD_ rfl (by kernel_rfl) true (by exact rfl) (.bool d49_2) (fun _ _ _ h => h) hS_ (by intro _ W_ hW_; rw [hd49_2]; cases d49_1 <;> (go_simp; try exact rfl))
     have Hd49_2 := hQ0 hd49_2; clear hd49_2
     intro hD2_; clear hD_; have hD_ := hD2_; clear hD2_; intro K hK; (try simp only [opt_true]); go_simp; refine hK _ _ ?_; clear hK K
     apply wpN_maybe (i := 19) hT_ hD_ rfl (by kernel_rfl) true (by exact rfl)
     (case h => intro _; intro W_ hW_; have hcW_ := (bcellW hW_).1; go_simp; first | done | exact rfl); (case hQ => exact fun _ _ _ h => h); (case hS => exact hS_)
     intro hD2_; clear hD_; have hD_ := hD2_; clear hD2_; intro K hK; (try simp only [opt_true]); go_simp; refine hK _ _ ?_; clear hK K
     as_aux_lemma =>
      apply wpN_maybe (i := 20) hT_ hD_ rfl (by kernel_rfl) d49_2 (by clear hS_; cases d49_2 <;> rfl)
      (case h => intro hc_; obtain rfl : d49_2 = true := hc_; (try simp only [opt_true]); intro W_ hW_; have hcW_ := (bcellW hW_).1; go_simp; first | done | exact rfl); (case hQ => exact fun _ _ _ h => h); (case hS => exact hS_)
      intro hD2_; clear hD_; have hD_ := hD2_; clear hD2_; intro K hK; (try simp only [opt_true]); go_simp; refine hK _ _ ?_; clear hK K
      apply wpN_maybe (i := 21) hT_ hD_ rfl (by kernel_rfl) d49_2 (by clear hS_; cases d49_2 <;> rfl)
      (case h => intro hc_; obtain rfl : d49_2 = true := hc_; (try simp only [opt_true]); intro W_ hW_; have hY_ := (hX3).below hW_ (hg3); have y0_ := hY_.c 5 (.int .i64 x.sw) (rfl); go_simp; first | done | exact rfl); (case hQ => exact fun _ _ _ h => h); (case hS => exact hS_)
      intro hD2_; clear hD_; have hD_ := hD2_; clear hD2_; intro K hK; (try simp only [opt_true]); go_simp; refine hK _ _ ?_; clear hK K
      apply wpN_freshm (S := Below w3.heap.size w3) (i := 22) hD_ rfl (by kernel_rfl) d49_2 (by clear hS_; cases d49_2 <;> rfl)
      (case h => intro hc_; obtain rfl : d49_2 = true := hc_; generalize hev_ : Act.eval _ = ev_; (have v495_ := (congrFun hev_.symm (.tmp 495)).trans (evalL _ _ 495); simp only [getL64, getL8, getL1, getL0, opt_true, Bool.not_false] at v495_); have vc_ : ∀ v_, ev_ (.const v_) = v_ := (fun _ => by rw [← hev_]; rfl); clear hev_; go_simp; first | done | exact rfl | exact ⟨rfl, rfl⟩); (case hS => exact hS_); (case hS' => exact (hS_).alloc (hS_).size _)
      intro hD2_; clear hD_; have hD_ := hD2_; clear hD2_; intro K hK w_ hS2_ hw0_; have hw_ := hQ0 hw0_; clear hw0_; go_simp; refine hK _ _ ?_; clear hK K hS_; have hS_ := hS2_; clear hS2_
      refine wpN_callm (S := Below w3.heap.size w3) (i := 23) hD_ rfl (by kernel_rfl) d49_2 (by clear hS_; cases d49_2 <;> rfl) (.bool p4) ?_ hS_ ?_
      · intro hc_; obtain rfl : d49_2 = true := hc_; intro N_ hN_; generalize hA_ : Act.mk _ _ = A_ at hN_ ⊢; (have v496_ := (congrArg (fun z_ : Act => z_.eval (.tmp 496)) hA_.symm).trans (evalL _ _ 496); simp only [getL64, getL8, getL1, getL0, opt_true, Bool.not_false] at v496_); clear hA_; have vc_ : ∀ v_, Act.eval A_ (.const v_) = v_ := (fun _ => rfl); have vf_ : ∀ f_, Act.eval A_ (.func f_) = .func (.func f_) #[] #[] := (fun _ => rfl); generalize Act.eval A_ = ev_ at vc_ vf_ v496_ ⊢; obtain rfl := hw_.out rfl; go_simp; go_at_call 25; refine (in_new1' (-1) 63 x.sw _ _ p4 HHp4.out (by simp)).mono ?_; rintro e w9 ⟨rfl, rfl⟩; exact hN_ _ hS_
      intro hD2_; clear hD_; have hD_ := hD2_; clear hD2_; intro K hK w_ hS2_; go_simp; refine hK _ _ ?_; clear hK K hS_; have hS_ := hS2_; clear hS2_
      obtain ⟨d49_3, hd49_3⟩ : ∃ b_, b_ = (d49_2 && p4) := ⟨_, rfl⟩
      apply wpN_maybe (i := 24) hT_ hD_ rfl (by kernel_rfl) true (by exact rfl) (.bool d49_3) (fun _ _ _ h => h) hS_ (by intro _ W_ hW_; rw [hd49_3]; cases d49_2 <;> (go_simp; try exact rfl))
      have Hd49_3 := hQ0 hd49_3; clear hd49_3
      intro hD2_; clear hD_; have hD_ := hD2_; clear hD2_; intro K hK; (try simp only [opt_true]); go_simp; refine hK _ _ ?_; clear hK K
      refine wpZ_nil (by kernel_rfl) ?_
      (try simp only [List.filterMap_cons, List.filterMap_nil, List.getElem?_cons_succ, List.getElem?_cons_zero])
      (try go_simp)
      as_aux_lemma =>
       have hCk := HC3.out.below hS_ (Nat.le_refl _)
       have hTk := HT3.out.below hS_ HT3.out.lt
       have hBk : Below w.heap.size w w_ := HB3.out.trans (hS_.mono HB3.out.size)
       have HF : Hid (d49_3 = x.fB) := hQ0 (by simp only [Hd49_3.out, Hd49_2.out, Hd49_1.out, HHp1.out, HHp2.out, HHp3.out, HHp4.out]; rfl)
       have HCk := hQ0 hCk
       have HTk := hQ0 hTk
       have HBk := hQ0 hBk
       clear hCk hTk hBk hS_
       go_wp2_with (go_at_call 27; refine (look_any _ cb mb n (w.heap.size + 1) e L x.nm d49_3 true HCk.out (HN.out x (List.mem_of_getElem? HX.out)) (by unfold maxLen; have := HN2.out; have := HN3.out; omega) hcb hmb).mono ?_; rintro ε w4 ⟨rfl, hb4, m, hm, hC4⟩)
       go_roundg (l.length - (k + 1) + 1)
       case measure => omega
       case rel =>
        refine ⟨k + 1, m, _, _, by omega, by omega, by go_num, by omega, HBk.out.trans (hb4.mono (by have := HBk.out.size; omega)), HTk.out.below hb4 (by omega), hC4, hQ0 ?_⟩
        rw [fold_next HX.out, ← HJ.out, HF.out]
        rfl
  · obtain rfl : k = l.length := by omega
    have HBe := hQ0 hb_ws
    have HTr := hQ0 hTr
    have HCr := hQ0 hCr
    clear hb_ws hTr hCr
    go_wp2_with fail
    show R _ _
    have hj := HJ.out
    rw [List.take_length] at hj
    exact HR.out _ _ n rfl rfl rfl HF3.out.symm HBe.out HTr.out hnk (by rw [← hj]; exact HCr.out)
attribute [local go_sem ↓] evalL getL64 setL64
attribute [local go_sem ↓] getL8 setL8
attribute [local go_sem ↓] getL1 getL0
set_option maxRecDepth 100000 in
set_option maxHeartbeats 8000000 in
theorem lp_ds (w wr : World) (A : Option Addr) (c cb mb n0 N : Nat) (e0 : Int) (L0 : List ByteArray) (l : List Dr) (TC : List Value) (df : List Deferred) (F : List Value) (hF : F.length = 623) (f3 : F[3]? = some (.pointer (some ⟨cb, 0, none⟩))) (f549 : F[549]? = some (.slice A l.length c)) (f550 : F[550]? = some (.int .i64 (l.length : Int))) (f551 : F[551]? = some (.int .i64 0))
  (hA : RowsAt 5 Dr.cells w A l) (hl : l.length ≤ 64) (hnm : ∀ x ∈ l, x.nm.size ≤ maxLen) (hb : Below w.heap.size w wr) (hT : BoxAt wr w.heap.size TC) (hC : CkAt wr cb mb n0 e0 L0) (hn : n0 + l.length ≤ N) (hN : N ≤ 1000) (hcb : w.heap.size < cb) (hmb : w.heap.size < mb) (R : Act → World → Prop)
  (hR : ∀ (F' : List Value) (w' : World) (n : Nat), F'.length = 623 → F'[1]? = F[1]? → F'[2]? = F[2]? → F'[3]? = F[3]? → Below w.heap.size w w' → BoxAt w' w.heap.size TC → n ≤ n0 + l.length → CkAt w' cb mb n (l.foldl Dr.look (e0, L0)).1 (l.foldl Dr.look (e0, L0)).2 → R ⟨F'.toArray, df⟩ w') :
  (blkOf 17 Tryz.f11).wp Tryz.prog (AtEnd R) ⟨F.toArray, df⟩ wr := by
 obtain ⟨s, rfl⟩ := fr623_ex F hF
 have e3 : s 3 = .pointer (some ⟨cb, 0, none⟩) := Option.some.inj f3
 have e549 : s 549 = .slice A l.length c := Option.some.inj f549
 have e550 : s 550 = .int .i64 (l.length : Int) := Option.some.inj f550
 have e551 : s 551 = .int .i64 0 := Option.some.inj f551
 unfold fr623
 rw [e3, e549, e550, e551]
 have HF3 := hQ0 f3
 clear hF e3 f3 e549 f549 e550 f550 e551 f551
 have HA := hQ0 hA
 have HR := hQ0 hR
 have HN := hQ0 hnm
 have HN2 := hQ0 hN
 have HN3 := hQ0 hn
 clear hA hnm hN hn hR
 conv in (blkOf _ _) => whnf
 go_wp2_with fail
 go_loopg [551] (l.length + 1) (fun gk tt wr => ∃ (k n : Nat) (e : Int) (L : List ByteArray), k ≤ l.length ∧ l.length - k < gk ∧ tt = .int .i64 k ∧ n ≤ n0 + k ∧ Below w.heap.size w wr ∧ BoxAt wr w.heap.size TC ∧ CkAt wr cb mb n e L ∧ Hid ((e, L) = ((l.take k).foldl Dr.look (e0, L0))))
 case atStart => exact ⟨0, n0, e0, L0, by omega, by omega, rfl, by omega, hb, hT, hC, hQ0 rfl⟩
 case round =>
  obtain ⟨ws_, rfl⟩ : ∃ z, z = wr := ⟨_, rfl⟩
  clear hb hT hC
  obtain ⟨k, n, e, L, hk, hkk, rfl, hnk, hb_ws, hTr, hCr, HJ⟩ := hrel
  have hz_ws := hb_ws.size
  by_cases hlt : k < l.length
  · obtain ⟨x, hx⟩ : ∃ x, l[k]? = some x := ⟨l[k], by simp⟩
    obtain ⟨g, o, rfl, hg, c0, c1, c2, c3, c4⟩ := Dr.get (HA.out.below hb_ws (Nat.le_refl _)) hx
    have i1 : (k : Int) < (l.length : Int) := by omega
    have HX := hQ0 hx
    have HBe := hQ0 hb_ws
    have HTr := hQ0 hTr
    have HCr := hQ0 hCr
    clear hx hb_ws hTr hCr
    go_upto_region 59 with (fail)
    (refine pin_eqT (fun w3 hE_w3 => ?_))
    obtain ⟨gb, hgb⟩ : ∃ z, z = ws_.heap.size := ⟨_, rfl⟩
    rw [← hgb]
    have hX3 : BoxAt w3 gb x.cells := by rw [hE_w3, hgb]; exact BoxAt.new _ _ _
    have hT3 : BoxAt w3 w.heap.size TC := by rw [hE_w3]; exact HTr.out.alloc _
    have hC3 : CkAt w3 cb mb n e L := by rw [hE_w3]; exact HCr.out.below ((Below.refl _ _).alloc (Nat.le_refl _) _) (Nat.le_refl _)
    have hB3 : Below w.heap.size w w3 := by rw [hE_w3]; exact HBe.out.alloc hz_ws _
    have HGB := hQ0 hgb
    clear hgb hE_w3 c0 c1 c2 c3 c4
    have hg3 := hX3.lt
    have HT3 := hQ0 hT3
    have HC3 := hQ0 hC3
    have HB3 := hQ0 hB3
    clear hT3 hC3 hB3 hg
    obtain ⟨p1, hp1⟩ : ∃ b, b = (in1 0 3 x.lv) := ⟨_, rfl⟩
    have HHp1 := hQ0 hp1
    clear hp1
    obtain ⟨p2, hp2⟩ : ∃ b, b = (nearV 1048576 ⟨x.c1, x.c2⟩) := ⟨_, rfl⟩
    have HHp2 := hQ0 hp2
    clear hp2
    obtain ⟨p3, hp3⟩ : ∃ b, b = (in1 1 262144 x.sz) := ⟨_, rfl⟩
    have HHp3 := hQ0 hp3
    clear hp3
    as_aux_lemma =>
     have hS_ : Below w3.heap.size w3 w3.drew := (Below.refl _ _).drew
     refine wp_region_N (Below w3.heap.size w3) 19 [19] (by kernel_rfl) (by kernel_rfl) (tailBJ_of (nx := [19, 2, 19, 4, 5, 6, 7, 8, 9, 10, 11, 12, 13, 14, 15, 16, 17, 18, 19, 0]) (by kernel_rfl)) (by kernel_rfl) ?_
     intro hT_ hD_
     generalize w3.drew = wd_ at hS_ ⊢
     apply wpN_maybe (i := 0) hT_ hD_ rfl (by kernel_rfl) true (by exact rfl)
     (case h => intro _; intro W_ hW_; have hcW_ := (bcellW hW_).1; go_simp; first | done | exact rfl); (case hQ => exact fun _ _ _ h => h); (case hS => exact hS_)
     intro hD2_; clear hD_; have hD_ := hD2_; clear hD2_; intro K hK; (try simp only [opt_true]); go_simp; refine hK _ _ ?_; clear hK K
     apply wpN_maybe (i := 1) hT_ hD_ rfl (by kernel_rfl) true (by exact rfl)
     (case h => intro _; intro W_ hW_; have hcW_ := (bcellW hW_).1; go_simp; first | done | exact rfl); (case hQ => exact fun _ _ _ h => h); (case hS => exact hS_)
     intro hD2_; clear hD_; have hD_ := hD2_; clear hD2_; intro K hK; (try simp only [opt_true]); go_simp; refine hK _ _ ?_; clear hK K
     apply wpN_maybe (i := 2) hT_ hD_ rfl (by kernel_rfl) true (by exact rfl)
     (case h => intro _; intro W_ hW_; have hY_ := (hX3).below hW_ (hg3); have y0_ := hY_.c 0 (.string x.nm) (rfl); go_simp; first | done | exact rfl); (case hQ => exact fun _ _ _ h => h); (case hS => exact hS_)
     intro hD2_; clear hD_; have hD_ := hD2_; clear hD2_; intro K hK; (try simp only [opt_true]); go_simp; refine hK _ _ ?_; clear hK K
     apply wpN_maybe (i := 3) hT_ hD_ rfl (by kernel_rfl) true (by exact rfl)
     (case h => intro _; intro W_ hW_; have hcW_ := (bcellW hW_).1; go_simp; first | done | exact rfl); (case hQ => exact fun _ _ _ h => h); (case hS => exact hS_)
     intro hD2_; clear hD_; have hD_ := hD2_; clear hD2_; intro K hK; (try simp only [opt_true]); go_simp; refine hK _ _ ?_; clear hK K
     apply wpN_maybe (i := 4) hT_ hD_ rfl (by kernel_rfl) true (by exact rfl)
     (case h => intro _; intro W_ hW_; have hY_ := (hX3).below hW_ (hg3); have y0_ := hY_.c 1 (.int .i64 x.lv) (rfl); go_simp; first | done | exact rfl); (case hQ => exact fun _ _ _ h => h); (case hS => exact hS_)
     intro hD2_; clear hD_; have hD_ := hD2_; clear hD2_; intro K hK; (try simp only [opt_true]); go_simp; refine hK _ _ ?_; clear hK K
     apply wpN_freshm (S := Below w3.heap.size w3) (i := 5) hD_ rfl (by kernel_rfl) true (by exact rfl)
     (case h => intro _; generalize hev_ : Act.eval _ = ev_; (have v559_ := (congrFun hev_.symm (.tmp 559)).trans (evalL _ _ 559); simp only [getL64, getL8, getL1, getL0, opt_true, Bool.not_false] at v559_); have vc_ : ∀ v_, ev_ (.const v_) = v_ := (fun _ => by rw [← hev_]; rfl); clear hev_; go_simp; first | done | exact rfl | exact ⟨rfl, rfl⟩); (case hS => exact hS_); (case hS' => exact (hS_).alloc (hS_).size _)
     intro hD2_; clear hD_; have hD_ := hD2_; clear hD2_; intro K hK w_ hS2_ hw0_; have hw_ := hQ0 hw0_; clear hw0_; go_simp; refine hK _ _ ?_; clear hK K hS_; have hS_ := hS2_; clear hS2_
     refine wpN_callm (S := Below w3.heap.size w3) (i := 6) hD_ rfl (by kernel_rfl) true (by exact rfl) (.bool p1) ?_ hS_ ?_
     · intro _; intro N_ hN_; generalize hA_ : Act.mk _ _ = A_ at hN_ ⊢; (have v560_ := (congrArg (fun z_ : Act => z_.eval (.tmp 560)) hA_.symm).trans (evalL _ _ 560); simp only [getL64, getL8, getL1, getL0, opt_true, Bool.not_false] at v560_); clear hA_; have vc_ : ∀ v_, Act.eval A_ (.const v_) = v_ := (fun _ => rfl); have vf_ : ∀ f_, Act.eval A_ (.func f_) = .func (.func f_) #[] #[] := (fun _ => rfl); generalize Act.eval A_ = ev_ at vc_ vf_ v560_ ⊢; obtain rfl := hw_.out rfl; go_simp; go_at_call 28; refine (level_new1' x.lv _ _ p1 HHp1.out (by simp)).mono ?_; rintro e w9 ⟨rfl, rfl⟩; exact hN_ _ hS_
     intro hD2_; clear hD_; have hD_ := hD2_; clear hD2_; intro K hK w_ hS2_; go_simp; refine hK _ _ ?_; clear hK K hS_; have hS_ := hS2_; clear hS2_
     apply wpN_maybe (i := 7) hT_ hD_ rfl (by kernel_rfl) true (by exact rfl)
     (case h => intro _; intro W_ hW_; have hcW_ := (bcellW hW_).1; go_simp; first | done | exact rfl); (case hQ => exact fun _ _ _ h => h); (case hS => exact hS_)
     intro hD2_; clear hD_; have hD_ := hD2_; clear hD2_; intro K hK; (try simp only [opt_true]); go_simp; refine hK _ _ ?_; clear hK K
     apply wpN_maybe (i := 8) hT_ hD_ rfl (by kernel_rfl) p1 (by clear hS_; cases p1 <;> rfl)
     (case h => intro hc_; obtain rfl : p1 = true := hc_; (try simp only [opt_true]); intro W_ hW_; have hcW_ := (bcellW hW_).1; go_simp; first | done | exact rfl); (case hQ => exact fun _ _ _ h => h); (case hS => exact hS_)
     intro hD2_; clear hD_; have hD_ := hD2_; clear hD2_; intro K hK; (try simp only [opt_true]); go_simp; refine hK _ _ ?_; clear hK K
     apply wpN_maybe (i := 9) hT_ hD_ rfl (by kernel_rfl) p1 (by clear hS_; cases p1 <;> rfl)
     (case h => intro hc_; obtain rfl : p1 = true := hc_; (try simp only [opt_true]); intro W_ hW_; have hY_ := (hX3).below hW_ (hg3); have y0_ := hY_.c 2 (.int .i64 x.c1) (rfl); have y1_ := hY_.c 3 (.int .i64 x.c2) (rfl); go_simp; first | done | exact rfl); (case hQ => exact fun _ _ _ h => h); (case hS => exact hS_)
     intro hD2_; clear hD_; have hD_ := hD2_; clear hD2_; intro K hK; (try simp only [opt_true]); go_simp; refine hK _ _ ?_; clear hK K
     apply wpN_freshm (S := Below w3.heap.size w3) (i := 10) hD_ rfl (by kernel_rfl) p1 (by clear hS_; cases p1 <;> rfl)
     (case h => intro hc_; obtain rfl : p1 = true := hc_; generalize hev_ : Act.eval _ = ev_; (have v564_ := (congrFun hev_.symm (.tmp 564)).trans (evalL _ _ 564); simp only [getL64, getL8, getL1, getL0, opt_true, Bool.not_false] at v564_); have vc_ : ∀ v_, ev_ (.const v_) = v_ := (fun _ => by rw [← hev_]; rfl); clear hev_; go_simp; first | done | exact rfl | exact ⟨rfl, rfl⟩); (case hS => exact hS_); (case hS' => exact (hS_).alloc (hS_).size _)
     intro hD2_; clear hD_; have hD_ := hD2_; clear hD2_; intro K hK w_ hS2_ hw0_; have hw_ := hQ0 hw0_; clear hw0_; go_simp; refine hK _ _ ?_; clear hK K hS_; have hS_ := hS2_; clear hS2_
     refine wpN_callm (S := Below w3.heap.size w3) (i := 11) hD_ rfl (by kernel_rfl) p1 (by clear hS_; cases p1 <;> rfl) (.bool p2) ?_ hS_ ?_
     · intro hc_; obtain rfl : p1 = true := hc_; intro N_ hN_; generalize hA_ : Act.mk _ _ = A_ at hN_ ⊢; (have v565_ := (congrArg (fun z_ : Act => z_.eval (.tmp 565)) hA_.symm).trans (evalL _ _ 565); simp only [getL64, getL8, getL1, getL0, opt_true, Bool.not_false] at v565_); clear hA_; have vc_ : ∀ v_, Act.eval A_ (.const v_) = v_ := (fun _ => rfl); have vf_ : ∀ f_, Act.eval A_ (.func f_) = .func (.func f_) #[] #[] := (fun _ => rfl); generalize Act.eval A_ = ev_ at vc_ vf_ v565_ ⊢; obtain rfl := hw_.out rfl; go_simp; go_at_call 29; refine (at_new1' x.c1 x.c2 _ _ p2 HHp2.out (by simp)).mono ?_; rintro e w9 ⟨rfl, hb9⟩; exact hN_ _ (hS_.trans (hb9.mono (by have := hS_.size; simp at this; omega)))
     intro hD2_; clear hD_; have hD_ := hD2_; clear hD2_; intro K hK w_ hS2_; go_simp; refine hK _ _ ?_; clear hK K hS_; have hS_ := hS2_; clear hS2_
     obtain ⟨d59_1, hd59_1⟩ : ∃ b_, b_ = (p1 && p2) := ⟨_, rfl⟩
     apply wpN_maybe (i := 12) hT_ hD_ rfl (by kernel_rfl) true (by exact rfl) (.bool d59_1) (fun _ _ _ h => h) hS_ (by intro _ W_ hW_; rw [hd59_1]; cases p1 <;> (go_simp; try exact rfl))
     have Hd59_1 := hQ0 hd59_1; clear hd59_1
     intro hD2_; clear hD_; have hD_ := hD2_; clear hD2_; intro K hK; (try simp only [opt_true]); go_simp; refine hK _ _ ?_; clear hK K
     apply wpN_maybe (i := 13) hT_ hD_ rfl (by kernel_rfl) true (by exact rfl)
     (case h => intro _; intro W_ hW_; have hcW_ := (bcellW hW_).1; go_simp; first | done | exact rfl); (case hQ => exact fun _ _ _ h => h); (case hS => exact hS_)
     intro hD2_; clear hD_; have hD_ := hD2_; clear hD2_; intro K hK; (try simp only [opt_true]); go_simp; refine hK _ _ ?_; clear hK K
     apply wpN_maybe (i := 14) hT_ hD_ rfl (by kernel_rfl) d59_1 (by clear hS_; cases d59_1 <;> rfl)
     (case h => intro hc_; obtain rfl : d59_1 = true := hc_; (try simp only [opt_true]); intro W_ hW_; have hcW_ := (bcellW hW_).1; go_simp; first | done | exact rfl); (case hQ => exact fun _ _ _ h => h); (case hS => exact hS_)
     intro hD2_; clear hD_; have hD_ := hD2_; clear hD2_; intro K hK; (try simp only [opt_true]); go_simp; refine hK _ _ ?_; clear hK K
     apply wpN_maybe (i := 15) hT_ hD_ rfl (by kernel_rfl) d59_1 (by clear hS_; cases d59_1 <;> rfl)
     (case h => intro hc_; obtain rfl : d59_1 = true := hc_; (try simp only [opt_true]); intro W_ hW_; have hY_ := (hX3).below hW_ (hg3); have y0_ := hY_.c 4 (.int .i64 x.sz) (rfl); go_simp; first | done | exact rfl); (case hQ => exact fun _ _ _ h => h); (case hS => exact hS_)
     intro hD2_; clear hD_; have hD_ := hD2_; clear hD2_; intro K hK; (try simp only [opt_true]); go_simp; refine hK _ _ ?_; clear hK K
     apply wpN_freshm (S := Below w3.heap.size w3) (i := 16) hD_ rfl (by kernel_rfl) d59_1 (by clear hS_; cases d59_1 <;> rfl)
     (case h => intro hc_; obtain rfl : d59_1 = true := hc_; generalize hev_ : Act.eval _ = ev_; (have v570_ := (congrFun hev_.symm (.tmp 570)).trans (evalL _ _ 570); simp only [getL64, getL8, getL1, getL0, opt_true, Bool.not_false] at v570_); have vc_ : ∀ v_, ev_ (.const v_) = v_ := (fun _ => by rw [← hev_]; rfl); clear hev_; go_simp; first | done | exact rfl | exact ⟨rfl, rfl⟩); (case hS => exact hS_); (case hS' => exact (hS_).alloc (hS_).size _)
     intro hD2_; clear hD_; have hD_ := hD2_; clear hD2_; intro K hK w_ hS2_ hw0_; have hw_ := hQ0 hw0_; clear hw0_; go_simp; refine hK _ _ ?_; clear hK K hS_; have hS_ := hS2_; clear hS2_
     refine wpN_callm (S := Below w3.heap.size w3) (i := 17) hD_ rfl (by kernel_rfl) d59_1 (by clear hS_; cases d59_1 <;> rfl) (.bool p3) ?_ hS_ ?_
     · intro hc_; obtain rfl : d59_1 = true := hc_; intro N_ hN_; generalize hA_ : Act.mk _ _ = A_ at hN_ ⊢; (have v571_ := (congrArg (fun z_ : Act => z_.eval (.tmp 571)) hA_.symm).trans (evalL _ _ 571); simp only [getL64, getL8, getL1, getL0, opt_true, Bool.not_false] at v571_); clear hA_; have vc_ : ∀ v_, Act.eval A_ (.const v_) = v_ := (fun _ => rfl); have vf_ : ∀ f_, Act.eval A_ (.func f_) = .func (.func f_) #[] #[] := (fun _ => rfl); generalize Act.eval A_ = ev_ at vc_ vf_ v571_ ⊢; obtain rfl := hw_.out rfl; go_simp; go_at_call 25; refine (in_new1' 1 262144 x.sz _ _ p3 HHp3.out (by simp)).mono ?_; rintro e w9 ⟨rfl, rfl⟩; exact hN_ _ hS_
     intro hD2_; clear hD_; have hD_ := hD2_; clear hD2_; intro K hK w_ hS2_; go_simp; refine hK _ _ ?_; clear hK K hS_; have hS_ := hS2_; clear hS2_
     obtain ⟨d59_2, hd59_2⟩ : ∃ b_, b_ = (d59_1 && p3) := ⟨_, rfl⟩
     apply wpN_maybe (i := 18) hT_ hD_ rfl (by kernel_rfl) true (by exact rfl) (.bool d59_2) (fun _ _ _ h => h) hS_ (by intro _ W_ hW_; rw [hd59_2]; cases d59_1 <;> (go_simp; try exact rfl))
     have Hd59_2 := hQ0 hd59_2; clear hd59_2
     intro hD2_; clear hD_; have hD_ := hD2_; clear hD2_; intro K hK; (try simp only [opt_true]); go_simp; refine hK _ _ ?_; clear hK K
     refine wpZ_nil (by kernel_rfl) ?_
     (try simp only [List.filterMap_cons, List.filterMap_nil, List.getElem?_cons_succ, List.getElem?_cons_zero])
     (try go_simp)
     as_aux_lemma =>
      have hCk := HC3.out.below hS_ (Nat.le_refl _)
      have hTk := HT3.out.below hS_ HT3.out.lt
      have hBk : Below w.heap.size w w_ := HB3.out.trans (hS_.mono HB3.out.size)
      have HF : Hid (d59_2 = x.fB) := hQ0 (by simp only [Hd59_2.out, Hd59_1.out, HHp1.out, HHp2.out, HHp3.out]; rfl)
      have HCk := hQ0 hCk
      have HTk := hQ0 hTk
      have HBk := hQ0 hBk
      clear hCk hTk hBk hS_
      go_wp2_with (go_at_call 27; refine (look_any _ cb mb n (w.heap.size + 1) e L x.nm d59_2 true HCk.out (HN.out x (List.mem_of_getElem? HX.out)) (by unfold maxLen; have := HN2.out; have := HN3.out; omega) hcb hmb).mono ?_; rintro ε w4 ⟨rfl, hb4, m, hm, hC4⟩)
      go_roundg (l.length - (k + 1) + 1)
      case measure => omega
      case rel =>
       refine ⟨k + 1, m, _, _, by omega, by omega, by go_num, by omega, HBk.out.trans (hb4.mono (by have := HBk.out.size; omega)), HTk.out.below hb4 (by omega), hC4, hQ0 ?_⟩
       rw [fold_next HX.out, ← HJ.out, HF.out]
       rfl
  · obtain rfl : k = l.length := by omega
    have HBe := hQ0 hb_ws
    have HTr := hQ0 hTr
    have HCr := hQ0 hCr
    clear hb_ws hTr hCr
    go_wp2_with fail
    show R _ _
    have hj := HJ.out
    rw [List.take_length] at hj
    exact HR.out _ _ n rfl rfl rfl HF3.out.symm HBe.out HTr.out hnk (by rw [← hj]; exact HCr.out)
theorem SeenAt.cast {w : World} {b b' n : Nat} {L : List ByteArray} (h : SeenAt w b n L) (e : b = b') : SeenAt w b' n L := e ▸ h
theorem lookR_zero {st : CS} {nm : ByteArray} {f s : Bool} (h : (lookR st nm f s).1 = 0) : st.1 = 0 ∧ f = true := by
 unfold lookR at h
 by_cases h0 : st.1 = 0
 · rw [if_neg (by simpa using h0)] at h
   refine ⟨h0, ?_⟩
   simp only [lookC] at h
   cases f
   · split at h
     · exact absurd h (by decide)
     · split at h
       · exact absurd h (by decide)
       · rw [if_pos rfl] at h
         exact absurd h (by decide)
   · rfl
 · rw [if_pos h0] at h
   exact absurd h h0
theorem fold_zero {α : Type} {look : CS → α → CS} {fB : α → Bool} (hl : ∀ s x, (look s x).1 = 0 → s.1 = 0 ∧ fB x = true) : ∀ (l : List α) (s : CS), (l.foldl look s).1 = 0 → s.1 = 0 ∧ ∀ x ∈ l, fB x = true
 | [], s, h => ⟨h, fun x hx => by simp at hx⟩
 | y :: l, s, h => by
  obtain ⟨h1, h2⟩ := fold_zero hl l (look s y) h
  obtain ⟨h3, h4⟩ := hl s y h1
  refine ⟨h3, fun x hx => ?_⟩
  rcases List.mem_cons.1 hx with rfl | hx
  · exact h4
  · exact h2 x hx
theorem in1_iff {lo hi x : Int} (h : in1 lo hi x = true) : lo ≤ x ∧ x ≤ hi := by
 simp only [in1, Bool.and_eq_true, decide_eq_true_eq] at h
 exact h
theorem fold_ovok (t : Tb) (h : t.fold.1 = 0) (hr : in1 64 32768 t.rad = true) : OvOk t := by
 unfold Tb.fold at h
 obtain ⟨h, q1⟩ := fold_zero (fB := Ln.fB) (fun s x h => lookR_zero h) _ _ h
 obtain ⟨h, _⟩ := fold_zero (fB := Dr.fB) (fun s x h => lookR_zero h) _ _ h
 obtain ⟨h, q2⟩ := fold_zero (fB := Ra.fB) (fun s x h => lookR_zero h) _ _ h
 obtain ⟨h, _⟩ := fold_zero (fB := La.fB) (fun s x h => lookR_zero h) _ _ h
 obtain ⟨h, q3⟩ := fold_zero (fB := Sc.fB) (fun s x h => lookR_zero h) _ _ h
 have hr := in1_iff hr
 refine ⟨fun x hx => ?_, fun x hx => ?_, fun x hx => ?_, by omega, by omega⟩
 · have := q3 x hx
   simp only [Sc.fB, Bool.and_eq_true] at this
   have h2 := in1_iff this.1.1.1.2
   exact ⟨this.1.1.1.1.2, by omega, by omega⟩
 · have := q2 x hx
   simp only [Ra.fB, Bool.and_eq_true] at this
   have h2 := in1_iff this.1.2
   exact ⟨this.1.1.2, by omega, by omega⟩
 · have := q1 x hx
   simp only [Ln.fB, Bool.and_eq_true] at this
   exact this.1.1.2
structure Tb.only5 (t : Tb) : Prop where
  ars : t.ars.length ≤ 0
  fs : t.fs.length ≤ 0
  ss : t.ss.length ≤ 0
  rs : t.rs.length ≤ 0
  lns : t.lns.length ≤ 0
structure TbSmall (t : Tb) : Prop where
  tr : t.tr.length ≤ maxLen
  ws : ∀ x ∈ t.ws, x.nm.size ≤ maxLen
  ars : ∀ x ∈ t.ars, x.nm.size ≤ maxLen
  ps : ∀ x ∈ t.ps, x.nm.size ≤ maxLen
  fs : ∀ x ∈ t.fs, x.nm.size ≤ maxLen
  zs : ∀ x ∈ t.zs, x.nm.size ≤ maxLen
  ss : ∀ x ∈ t.ss, x.nm.size ≤ maxLen
  las : ∀ x ∈ t.las, x.nm.size ≤ maxLen
  rs : ∀ x ∈ t.rs, x.nm.size ≤ maxLen
  ds : ∀ x ∈ t.ds, x.nm.size ≤ maxLen
  lns : ∀ x ∈ t.lns, x.nm.size ≤ maxLen
attribute [local go_sem ↓] evalL getL64 setL64
attribute [local go_sem ↓] getL8 setL8
attribute [local go_sem ↓] getL1 getL0
set_option maxRecDepth 100000 in
set_option maxHeartbeats 8000000 in
theorem check_any (t : Tb) (a : TbA) (w : World) (hA : TbAt w t a) (hk : TbCap t a) (hs : TbSmall t) (h0 : t.only5) :
  Calls Tryz.prog 11 #[t.v a] w fun e w' => e = .returned (.int .i64 (checkR t)) ∧ Below w.heap.size w w' := by
 have HA := hQ0 hA
 have HS := hQ0 hs
 have HZ := hQ0 h0
 have HK := hQ0 hk
 have HTR := hQ0 hs.tr
 clear hA hs hk h0
 obtain ⟨R, hR⟩ : ∃ R, R = checkR t := ⟨_, rfl⟩
 have HRr := hQ0 hR
 rw [← hR]
 clear hR
 obtain ⟨rad, bal, rst, gx, gy, drg, shf, tr, ws, ars, ps, fs, zs, ss, las, rs, ds, lns⟩ := t
 obtain ⟨Atr, ctr, Aws, cws, Aars, cars, Aps, cps, Afs, cfs, Azs, czs, Ass, css, Alas, clas, Ars, crs, Ads, cds, Alns, clns⟩ := a
 unfold Tb.v
 simp only
 obtain ⟨b0, hb0⟩ : ∃ b, decide (64 < (ws.length : Int)) = b := ⟨_, rfl⟩
 have HB0 := hQ0 hb0
 obtain ⟨b1, hb1⟩ : ∃ b, decide (32 < (ars.length : Int)) = b := ⟨_, rfl⟩
 have HB1 := hQ0 hb1
 obtain ⟨b2, hb2⟩ : ∃ b, decide (32 < (ps.length : Int)) = b := ⟨_, rfl⟩
 have HB2 := hQ0 hb2
 obtain ⟨b3, hb3⟩ : ∃ b, decide (4 < (fs.length : Int)) = b := ⟨_, rfl⟩
 have HB3 := hQ0 hb3
 obtain ⟨b4, hb4⟩ : ∃ b, decide (16 < (zs.length : Int)) = b := ⟨_, rfl⟩
 have HB4 := hQ0 hb4
 obtain ⟨b5, hb5⟩ : ∃ b, decide (8 < (ss.length : Int)) = b := ⟨_, rfl⟩
 have HB5 := hQ0 hb5
 obtain ⟨b6, hb6⟩ : ∃ b, decide (24 < (las.length : Int)) = b := ⟨_, rfl⟩
 have HB6 := hQ0 hb6
 obtain ⟨b7, hb7⟩ : ∃ b, decide (8 < (rs.length : Int)) = b := ⟨_, rfl⟩
 have HB7 := hQ0 hb7
 obtain ⟨b8, hb8⟩ : ∃ b, decide (4 < (ds.length : Int)) = b := ⟨_, rfl⟩
 have HB8 := hQ0 hb8
 obtain ⟨b9, hb9⟩ : ∃ b, decide (4 < (lns.length : Int)) = b := ⟨_, rfl⟩
 have HB9 := hQ0 hb9
 obtain ⟨r3, hr3⟩ : ∃ b, b = in1 0 6 bal := ⟨_, rfl⟩
 have HR3 := hQ0 hr3
 clear hr3
 have hmm := @run_makeMap Tryz.prog
 obtain ⟨TC, hTC⟩ : ∃ z : List Value, z = [.int .i64 rad, .int .i64 bal, .int .i64 rst, .int .i64 gx, .int .i64 gy, .int .i64 drg, .int .i64 shf, .slice Atr tr.length ctr, .slice Aws ws.length cws, .slice Aars ars.length cars, .slice Aps ps.length cps, .slice Afs fs.length cfs, .slice Azs zs.length czs, .slice Ass ss.length css, .slice Alas las.length clas, .slice Ars rs.length crs, .slice Ads ds.length cds, .slice Alns lns.length clns] := ⟨_, rfl⟩
 have HTC := hQ0 hTC
 clear hTC
 obtain ⟨r6, hr6⟩ : ∃ b, b = in1 64 32768 rad := ⟨_, rfl⟩
 have HR6 := hQ0 hr6
 clear hr6
 obtain ⟨r7, hr7⟩ : ∃ b, b = in1 0 15 rst := ⟨_, rfl⟩
 have HR7 := hQ0 hr7
 clear hr7
 obtain ⟨r9, hr9⟩ : ∃ b, b = in1 0 1000 drg := ⟨_, rfl⟩
 have HR9 := hQ0 hr9
 clear hr9
 obtain ⟨r10, hr10⟩ : ∃ b, b = in1 0 14 shf := ⟨_, rfl⟩
 have HR10 := hQ0 hr10
 clear hr10
 obtain ⟨r8, hr8⟩ : ∃ b, b = nearV 256 ⟨gx, gy⟩ := ⟨_, rfl⟩
 have HR8 := hQ0 hr8
 clear hr8
 obtain ⟨r11, hr11⟩ : ∃ b, b = inL (-1) 63 tr := ⟨_, rfl⟩
 have HR11 := hQ0 hr11
 clear hr11
 go_enter Tryz.func11, Tryz.ntmps11; (try simp only [List.append_eq, List.cons_append, List.nil_append])
 go_upto_region 1 with (fail)
 (refine pin_eqT (fun w1_ hE_w1 => ?_))
 have HT1 : Hid (BoxAt w1_ w.heap.size TC) := hQ0 (by rw [hE_w1, HTC.out]; exact BoxAt.new _ _ _)
 have HBB : Hid (Below w.heap.size w w1_) := hQ0 (by rw [hE_w1]; ((with_reducible (repeat (first | exact bR _ _ | apply bS | apply bA | apply bD | refine bT ?_ (by assumption) ?_ | refine bO (by assumption) ?_ ?_))) <;> (first | omega | (simp <;> omega))))
 clear hE_w1
 have t0 := HT1.out.c 0 (.int .i64 rad) (by rw [HTC.out]; rfl)
 have t1 := HT1.out.c 1 (.int .i64 bal) (by rw [HTC.out]; rfl)
 have t2 := HT1.out.c 2 (.int .i64 rst) (by rw [HTC.out]; rfl)
 have t3 := HT1.out.c 3 (.int .i64 gx) (by rw [HTC.out]; rfl)
 have t4 := HT1.out.c 4 (.int .i64 gy) (by rw [HTC.out]; rfl)
 have t5 := HT1.out.c 5 (.int .i64 drg) (by rw [HTC.out]; rfl)
 have t6 := HT1.out.c 6 (.int .i64 shf) (by rw [HTC.out]; rfl)
 have t7 := HT1.out.c 7 (.slice Atr tr.length ctr) (by rw [HTC.out]; rfl)
 have t8 := HT1.out.c 8 (.slice Aws ws.length cws) (by rw [HTC.out]; rfl)
 have t9 := HT1.out.c 9 (.slice Aars ars.length cars) (by rw [HTC.out]; rfl)
 have t10 := HT1.out.c 10 (.slice Aps ps.length cps) (by rw [HTC.out]; rfl)
 have t11 := HT1.out.c 11 (.slice Afs fs.length cfs) (by rw [HTC.out]; rfl)
 have t12 := HT1.out.c 12 (.slice Azs zs.length czs) (by rw [HTC.out]; rfl)
 have t13 := HT1.out.c 13 (.slice Ass ss.length css) (by rw [HTC.out]; rfl)
 have t14 := HT1.out.c 14 (.slice Alas las.length clas) (by rw [HTC.out]; rfl)
 have t15 := HT1.out.c 15 (.slice Ars rs.length crs) (by rw [HTC.out]; rfl)
 have t16 := HT1.out.c 16 (.slice Ads ds.length cds) (by rw [HTC.out]; rfl)
 have t17 := HT1.out.c 17 (.slice Alns lns.length clns) (by rw [HTC.out]; rfl)
 have hltT := HT1.out.lt
 refine wp_region_lit ?_
 have hS_ : Below w1_.heap.size w1_ w1_ := Below.refl _ _
 apply wpL_maybe true (by exact rfl)
 (case h => intro _; have hcW_ := (bcellW hS_).1; go_simp; first | done | exact rfl)
 intro K hK; (try simp only [opt_true]); go_simp; refine hK _ _ ?_; clear hK K
 apply wpL_maybe true (by exact rfl)
 (case h => intro _; have hcW_ := (bcellW hS_).1; go_simp; first | done | exact rfl)
 intro K hK; (try simp only [opt_true]); go_simp; refine hK _ _ ?_; clear hK K
 apply wpL_maybe true (by exact rfl)
 (case h => intro _; have hcW_ := (bcellW hS_).1; go_simp; first | done | exact rfl)
 intro K hK; (try simp only [opt_true]); go_simp; refine hK _ _ ?_; clear hK K
 apply wpL_maybe true (by exact rfl)
 (case h => intro _; have hcW_ := (bcellW hS_).1; go_simp; first | done | exact rfl)
 intro K hK; (try simp only [opt_true]); go_simp; refine hK _ _ ?_; clear hK K
 apply wpL_maybe true (by exact rfl)
 (case h => intro _; have hcW_ := (bcellW hS_).1; go_simp; first | done | exact rfl)
 intro K hK; (try simp only [opt_true]); go_simp; refine hK _ _ ?_; clear hK K
 apply wpL_maybe (!b0) (by clear hS_; cases b0 <;> rfl)
 (case h => intro hc_; obtain rfl : b0 = false := (by simpa using hc_); (try simp only [Bool.not_false, opt_true]); have hcW_ := (bcellW hS_).1; go_simp; first | done | exact rfl)
 intro K hK; (try simp only [opt_true]); go_simp; refine hK _ _ ?_; clear hK K
 apply wpL_maybe (!b0) (by clear hS_; cases b0 <;> rfl)
 (case h => intro hc_; obtain rfl : b0 = false := (by simpa using hc_); (try simp only [Bool.not_false, opt_true]); have hcW_ := (bcellW hS_).1; go_simp; first | done | exact rfl)
 intro K hK; (try simp only [opt_true]); go_simp; refine hK _ _ ?_; clear hK K
 apply wpL_maybe (!b0) (by clear hS_; cases b0 <;> rfl)
 (case h => intro hc_; obtain rfl : b0 = false := (by simpa using hc_); (try simp only [Bool.not_false, opt_true]); have hcW_ := (bcellW hS_).1; go_simp; first | done | exact rfl)
 intro K hK; (try simp only [opt_true]); go_simp; refine hK _ _ ?_; clear hK K
 apply wpL_maybe (!b0) (by clear hS_; cases b0 <;> rfl)
 (case h => intro hc_; obtain rfl : b0 = false := (by simpa using hc_); (try simp only [Bool.not_false, opt_true]); have hcW_ := (bcellW hS_).1; go_simp; first | done | exact rfl)
 intro K hK; (try simp only [opt_true]); go_simp; refine hK _ _ ?_; clear hK K
 obtain ⟨d1_1, hd1_1⟩ : ∃ b_, b_ = (b0 || b1) := ⟨_, rfl⟩
 apply wpL_maybe true (by exact rfl) (.bool d1_1) (by intro _; rw [hd1_1]; cases b0 <;> (go_simp; try exact rfl))
 have Hd1_1 := hQ0 hd1_1; clear hd1_1
 intro K hK; (try simp only [opt_true]); go_simp; refine hK _ _ ?_; clear hK K
 apply wpL_maybe true (by exact rfl)
 (case h => intro _; have hcW_ := (bcellW hS_).1; go_simp; first | done | exact rfl)
 intro K hK; (try simp only [opt_true]); go_simp; refine hK _ _ ?_; clear hK K
 apply wpL_maybe (!d1_1) (by clear hS_; cases d1_1 <;> rfl)
 (case h => intro hc_; obtain rfl : d1_1 = false := (by simpa using hc_); (try simp only [Bool.not_false, opt_true]); have hcW_ := (bcellW hS_).1; go_simp; first | done | exact rfl)
 intro K hK; (try simp only [opt_true]); go_simp; refine hK _ _ ?_; clear hK K
 apply wpL_maybe (!d1_1) (by clear hS_; cases d1_1 <;> rfl)
 (case h => intro hc_; obtain rfl : d1_1 = false := (by simpa using hc_); (try simp only [Bool.not_false, opt_true]); have hcW_ := (bcellW hS_).1; go_simp; first | done | exact rfl)
 intro K hK; (try simp only [opt_true]); go_simp; refine hK _ _ ?_; clear hK K
 apply wpL_maybe (!d1_1) (by clear hS_; cases d1_1 <;> rfl)
 (case h => intro hc_; obtain rfl : d1_1 = false := (by simpa using hc_); (try simp only [Bool.not_false, opt_true]); have hcW_ := (bcellW hS_).1; go_simp; first | done | exact rfl)
 intro K hK; (try simp only [opt_true]); go_simp; refine hK _ _ ?_; clear hK K
 apply wpL_maybe (!d1_1) (by clear hS_; cases d1_1 <;> rfl)
 (case h => intro hc_; obtain rfl : d1_1 = false := (by simpa using hc_); (try simp only [Bool.not_false, opt_true]); have hcW_ := (bcellW hS_).1; go_simp; first | done | exact rfl)
 intro K hK; (try simp only [opt_true]); go_simp; refine hK _ _ ?_; clear hK K
 obtain ⟨d1_2, hd1_2⟩ : ∃ b_, b_ = (d1_1 || b2) := ⟨_, rfl⟩
 apply wpL_maybe true (by exact rfl) (.bool d1_2) (by intro _; rw [hd1_2]; cases d1_1 <;> (go_simp; try exact rfl))
 have Hd1_2 := hQ0 hd1_2; clear hd1_2
 intro K hK; (try simp only [opt_true]); go_simp; refine hK _ _ ?_; clear hK K
 apply wpL_maybe true (by exact rfl)
 (case h => intro _; have hcW_ := (bcellW hS_).1; go_simp; first | done | exact rfl)
 intro K hK; (try simp only [opt_true]); go_simp; refine hK _ _ ?_; clear hK K
 apply wpL_maybe (!d1_2) (by clear hS_; cases d1_2 <;> rfl)
 (case h => intro hc_; obtain rfl : d1_2 = false := (by simpa using hc_); (try simp only [Bool.not_false, opt_true]); have hcW_ := (bcellW hS_).1; go_simp; first | done | exact rfl)
 intro K hK; (try simp only [opt_true]); go_simp; refine hK _ _ ?_; clear hK K
 apply wpL_maybe (!d1_2) (by clear hS_; cases d1_2 <;> rfl)
 (case h => intro hc_; obtain rfl : d1_2 = false := (by simpa using hc_); (try simp only [Bool.not_false, opt_true]); have hcW_ := (bcellW hS_).1; go_simp; first | done | exact rfl)
 intro K hK; (try simp only [opt_true]); go_simp; refine hK _ _ ?_; clear hK K
 apply wpL_maybe (!d1_2) (by clear hS_; cases d1_2 <;> rfl)
 (case h => intro hc_; obtain rfl : d1_2 = false := (by simpa using hc_); (try simp only [Bool.not_false, opt_true]); have hcW_ := (bcellW hS_).1; go_simp; first | done | exact rfl)
 intro K hK; (try simp only [opt_true]); go_simp; refine hK _ _ ?_; clear hK K
 apply wpL_maybe (!d1_2) (by clear hS_; cases d1_2 <;> rfl)
 (case h => intro hc_; obtain rfl : d1_2 = false := (by simpa using hc_); (try simp only [Bool.not_false, opt_true]); have hcW_ := (bcellW hS_).1; go_simp; first | done | exact rfl)
 intro K hK; (try simp only [opt_true]); go_simp; refine hK _ _ ?_; clear hK K
 obtain ⟨d1_3, hd1_3⟩ : ∃ b_, b_ = (d1_2 || b3) := ⟨_, rfl⟩
 apply wpL_maybe true (by exact rfl) (.bool d1_3) (by intro _; rw [hd1_3]; cases d1_2 <;> (go_simp; try exact rfl))
 have Hd1_3 := hQ0 hd1_3; clear hd1_3
 intro K hK; (try simp only [opt_true]); go_simp; refine hK _ _ ?_; clear hK K
 apply wpL_maybe true (by exact rfl)
 (case h => intro _; have hcW_ := (bcellW hS_).1; go_simp; first | done | exact rfl)
 intro K hK; (try simp only [opt_true]); go_simp; refine hK _ _ ?_; clear hK K
 apply wpL_maybe (!d1_3) (by clear hS_; cases d1_3 <;> rfl)
 (case h => intro hc_; obtain rfl : d1_3 = false := (by simpa using hc_); (try simp only [Bool.not_false, opt_true]); have hcW_ := (bcellW hS_).1; go_simp; first | done | exact rfl)
 intro K hK; (try simp only [opt_true]); go_simp; refine hK _ _ ?_; clear hK K
 apply wpL_maybe (!d1_3) (by clear hS_; cases d1_3 <;> rfl)
 (case h => intro hc_; obtain rfl : d1_3 = false := (by simpa using hc_); (try simp only [Bool.not_false, opt_true]); have hcW_ := (bcellW hS_).1; go_simp; first | done | exact rfl)
 intro K hK; (try simp only [opt_true]); go_simp; refine hK _ _ ?_; clear hK K
 apply wpL_maybe (!d1_3) (by clear hS_; cases d1_3 <;> rfl)
 (case h => intro hc_; obtain rfl : d1_3 = false := (by simpa using hc_); (try simp only [Bool.not_false, opt_true]); have hcW_ := (bcellW hS_).1; go_simp; first | done | exact rfl)
 intro K hK; (try simp only [opt_true]); go_simp; refine hK _ _ ?_; clear hK K
 apply wpL_maybe (!d1_3) (by clear hS_; cases d1_3 <;> rfl)
 (case h => intro hc_; obtain rfl : d1_3 = false := (by simpa using hc_); (try simp only [Bool.not_false, opt_true]); have hcW_ := (bcellW hS_).1; go_simp; first | done | exact rfl)
 intro K hK; (try simp only [opt_true]); go_simp; refine hK _ _ ?_; clear hK K
 obtain ⟨d1_4, hd1_4⟩ : ∃ b_, b_ = (d1_3 || b4) := ⟨_, rfl⟩
 apply wpL_maybe true (by exact rfl) (.bool d1_4) (by intro _; rw [hd1_4]; cases d1_3 <;> (go_simp; try exact rfl))
 have Hd1_4 := hQ0 hd1_4; clear hd1_4
 intro K hK; (try simp only [opt_true]); go_simp; refine hK _ _ ?_; clear hK K
 apply wpL_maybe true (by exact rfl)
 (case h => intro _; have hcW_ := (bcellW hS_).1; go_simp; first | done | exact rfl)
 intro K hK; (try simp only [opt_true]); go_simp; refine hK _ _ ?_; clear hK K
 refine wpList_nil ?_
 (try go_simp)
 clear hS_
 cases d1_4
 case true =>
  have q1 : (b0 || b1 || b2 || b3 || b4) = true := by rw [← Hd1_1.out, ← Hd1_2.out, ← Hd1_3.out]; exact Hd1_4.out.symm
  have HX := HBB
  obtain rfl : R = 9 := HRr.out.trans (if_pos (by unfold Tb.many; simp only [HB0.out, HB1.out, HB2.out, HB3.out, HB4.out, HB5.out, HB6.out, HB7.out, HB8.out, HB9.out]; rw [q1]; simp))
  clear q1
  go_wp2_with fail
  go_ret
  exact ⟨rfl, HBB.out.trans (by ((with_reducible (repeat (first | exact bR _ _ | apply bS | apply bA | apply bD | refine bT ?_ (by assumption) ?_ | refine bO (by assumption) ?_ ?_))) <;> (first | omega | (simp <;> omega))))⟩
 case false =>
  have HQ1 : Hid ((b0 || b1 || b2 || b3 || b4) = false) := hQ0 (by rw [← Hd1_1.out, ← Hd1_2.out, ← Hd1_3.out]; exact Hd1_4.out.symm)
  clear hb0 hb1 hb2 hb3 hb4
  go_upto_region 2 with (fail)
  refine wp_region_lit ?_
  have hS_ : Below w1_.heap.size w1_ w1_ := Below.refl _ _
  apply wpL_maybe true (by exact rfl)
  (case h => intro _; have hcW_ := (bcellW hS_).1; go_simp; first | done | exact rfl)
  intro K hK; (try simp only [opt_true]); go_simp; refine hK _ _ ?_; clear hK K
  apply wpL_maybe true (by exact rfl)
  (case h => intro _; have hcW_ := (bcellW hS_).1; go_simp; first | done | exact rfl)
  intro K hK; (try simp only [opt_true]); go_simp; refine hK _ _ ?_; clear hK K
  apply wpL_maybe true (by exact rfl)
  (case h => intro _; have hcW_ := (bcellW hS_).1; go_simp; first | done | exact rfl)
  intro K hK; (try simp only [opt_true]); go_simp; refine hK _ _ ?_; clear hK K
  apply wpL_maybe true (by exact rfl)
  (case h => intro _; have hcW_ := (bcellW hS_).1; go_simp; first | done | exact rfl)
  intro K hK; (try simp only [opt_true]); go_simp; refine hK _ _ ?_; clear hK K
  apply wpL_maybe true (by exact rfl)
  (case h => intro _; have hcW_ := (bcellW hS_).1; go_simp; first | done | exact rfl)
  intro K hK; (try simp only [opt_true]); go_simp; refine hK _ _ ?_; clear hK K
  apply wpL_maybe (!b5) (by clear hS_; cases b5 <;> rfl)
  (case h => intro hc_; obtain rfl : b5 = false := (by simpa using hc_); (try simp only [Bool.not_false, opt_true]); have hcW_ := (bcellW hS_).1; go_simp; first | done | exact rfl)
  intro K hK; (try simp only [opt_true]); go_simp; refine hK _ _ ?_; clear hK K
  apply wpL_maybe (!b5) (by clear hS_; cases b5 <;> rfl)
  (case h => intro hc_; obtain rfl : b5 = false := (by simpa using hc_); (try simp only [Bool.not_false, opt_true]); have hcW_ := (bcellW hS_).1; go_simp; first | done | exact rfl)
  intro K hK; (try simp only [opt_true]); go_simp; refine hK _ _ ?_; clear hK K
  apply wpL_maybe (!b5) (by clear hS_; cases b5 <;> rfl)
  (case h => intro hc_; obtain rfl : b5 = false := (by simpa using hc_); (try simp only [Bool.not_false, opt_true]); have hcW_ := (bcellW hS_).1; go_simp; first | done | exact rfl)
  intro K hK; (try simp only [opt_true]); go_simp; refine hK _ _ ?_; clear hK K
  apply wpL_maybe (!b5) (by clear hS_; cases b5 <;> rfl)
  (case h => intro hc_; obtain rfl : b5 = false := (by simpa using hc_); (try simp only [Bool.not_false, opt_true]); have hcW_ := (bcellW hS_).1; go_simp; first | done | exact rfl)
  intro K hK; (try simp only [opt_true]); go_simp; refine hK _ _ ?_; clear hK K
  obtain ⟨d2_1, hd2_1⟩ : ∃ b_, b_ = (b5 || b6) := ⟨_, rfl⟩
  apply wpL_maybe true (by exact rfl) (.bool d2_1) (by intro _; rw [hd2_1]; cases b5 <;> (go_simp; try exact rfl))
  have Hd2_1 := hQ0 hd2_1; clear hd2_1
  intro K hK; (try simp only [opt_true]); go_simp; refine hK _ _ ?_; clear hK K
  apply wpL_maybe true (by exact rfl)
  (case h => intro _; have hcW_ := (bcellW hS_).1; go_simp; first | done | exact rfl)
  intro K hK; (try simp only [opt_true]); go_simp; refine hK _ _ ?_; clear hK K
  apply wpL_maybe (!d2_1) (by clear hS_; cases d2_1 <;> rfl)
  (case h => intro hc_; obtain rfl : d2_1 = false := (by simpa using hc_); (try simp only [Bool.not_false, opt_true]); have hcW_ := (bcellW hS_).1; go_simp; first | done | exact rfl)
  intro K hK; (try simp only [opt_true]); go_simp; refine hK _ _ ?_; clear hK K
  apply wpL_maybe (!d2_1) (by clear hS_; cases d2_1 <;> rfl)
  (case h => intro hc_; obtain rfl : d2_1 = false := (by simpa using hc_); (try simp only [Bool.not_false, opt_true]); have hcW_ := (bcellW hS_).1; go_simp; first | done | exact rfl)
  intro K hK; (try simp only [opt_true]); go_simp; refine hK _ _ ?_; clear hK K
  apply wpL_maybe (!d2_1) (by clear hS_; cases d2_1 <;> rfl)
  (case h => intro hc_; obtain rfl : d2_1 = false := (by simpa using hc_); (try simp only [Bool.not_false, opt_true]); have hcW_ := (bcellW hS_).1; go_simp; first | done | exact rfl)
  intro K hK; (try simp only [opt_true]); go_simp; refine hK _ _ ?_; clear hK K
  apply wpL_maybe (!d2_1) (by clear hS_; cases d2_1 <;> rfl)
  (case h => intro hc_; obtain rfl : d2_1 = false := (by simpa using hc_); (try simp only [Bool.not_false, opt_true]); have hcW_ := (bcellW hS_).1; go_simp; first | done | exact rfl)
  intro K hK; (try simp only [opt_true]); go_simp; refine hK _ _ ?_; clear hK K
  obtain ⟨d2_2, hd2_2⟩ : ∃ b_, b_ = (d2_1 || b7) := ⟨_, rfl⟩
  apply wpL_maybe true (by exact rfl) (.bool d2_2) (by intro _; rw [hd2_2]; cases d2_1 <;> (go_simp; try exact rfl))
  have Hd2_2 := hQ0 hd2_2; clear hd2_2
  intro K hK; (try simp only [opt_true]); go_simp; refine hK _ _ ?_; clear hK K
  apply wpL_maybe true (by exact rfl)
  (case h => intro _; have hcW_ := (bcellW hS_).1; go_simp; first | done | exact rfl)
  intro K hK; (try simp only [opt_true]); go_simp; refine hK _ _ ?_; clear hK K
  apply wpL_maybe (!d2_2) (by clear hS_; cases d2_2 <;> rfl)
  (case h => intro hc_; obtain rfl : d2_2 = false := (by simpa using hc_); (try simp only [Bool.not_false, opt_true]); have hcW_ := (bcellW hS_).1; go_simp; first | done | exact rfl)
  intro K hK; (try simp only [opt_true]); go_simp; refine hK _ _ ?_; clear hK K
  apply wpL_maybe (!d2_2) (by clear hS_; cases d2_2 <;> rfl)
  (case h => intro hc_; obtain rfl : d2_2 = false := (by simpa using hc_); (try simp only [Bool.not_false, opt_true]); have hcW_ := (bcellW hS_).1; go_simp; first | done | exact rfl)
  intro K hK; (try simp only [opt_true]); go_simp; refine hK _ _ ?_; clear hK K
  apply wpL_maybe (!d2_2) (by clear hS_; cases d2_2 <;> rfl)
  (case h => intro hc_; obtain rfl : d2_2 = false := (by simpa using hc_); (try simp only [Bool.not_false, opt_true]); have hcW_ := (bcellW hS_).1; go_simp; first | done | exact rfl)
  intro K hK; (try simp only [opt_true]); go_simp; refine hK _ _ ?_; clear hK K
  apply wpL_maybe (!d2_2) (by clear hS_; cases d2_2 <;> rfl)
  (case h => intro hc_; obtain rfl : d2_2 = false := (by simpa using hc_); (try simp only [Bool.not_false, opt_true]); have hcW_ := (bcellW hS_).1; go_simp; first | done | exact rfl)
  intro K hK; (try simp only [opt_true]); go_simp; refine hK _ _ ?_; clear hK K
  obtain ⟨d2_3, hd2_3⟩ : ∃ b_, b_ = (d2_2 || b8) := ⟨_, rfl⟩
  apply wpL_maybe true (by exact rfl) (.bool d2_3) (by intro _; rw [hd2_3]; cases d2_2 <;> (go_simp; try exact rfl))
  have Hd2_3 := hQ0 hd2_3; clear hd2_3
  intro K hK; (try simp only [opt_true]); go_simp; refine hK _ _ ?_; clear hK K
  apply wpL_maybe true (by exact rfl)
  (case h => intro _; have hcW_ := (bcellW hS_).1; go_simp; first | done | exact rfl)
  intro K hK; (try simp only [opt_true]); go_simp; refine hK _ _ ?_; clear hK K
  apply wpL_maybe (!d2_3) (by clear hS_; cases d2_3 <;> rfl)
  (case h => intro hc_; obtain rfl : d2_3 = false := (by simpa using hc_); (try simp only [Bool.not_false, opt_true]); have hcW_ := (bcellW hS_).1; go_simp; first | done | exact rfl)
  intro K hK; (try simp only [opt_true]); go_simp; refine hK _ _ ?_; clear hK K
  apply wpL_maybe (!d2_3) (by clear hS_; cases d2_3 <;> rfl)
  (case h => intro hc_; obtain rfl : d2_3 = false := (by simpa using hc_); (try simp only [Bool.not_false, opt_true]); have hcW_ := (bcellW hS_).1; go_simp; first | done | exact rfl)
  intro K hK; (try simp only [opt_true]); go_simp; refine hK _ _ ?_; clear hK K
  apply wpL_maybe (!d2_3) (by clear hS_; cases d2_3 <;> rfl)
  (case h => intro hc_; obtain rfl : d2_3 = false := (by simpa using hc_); (try simp only [Bool.not_false, opt_true]); have hcW_ := (bcellW hS_).1; go_simp; first | done | exact rfl)
  intro K hK; (try simp only [opt_true]); go_simp; refine hK _ _ ?_; clear hK K
  apply wpL_maybe (!d2_3) (by clear hS_; cases d2_3 <;> rfl)
  (case h => intro hc_; obtain rfl : d2_3 = false := (by simpa using hc_); (try simp only [Bool.not_false, opt_true]); have hcW_ := (bcellW hS_).1; go_simp; first | done | exact rfl)
  intro K hK; (try simp only [opt_true]); go_simp; refine hK _ _ ?_; clear hK K
  obtain ⟨d2_4, hd2_4⟩ : ∃ b_, b_ = (d2_3 || b9) := ⟨_, rfl⟩
  apply wpL_maybe true (by exact rfl) (.bool d2_4) (by intro _; rw [hd2_4]; cases d2_3 <;> (go_simp; try exact rfl))
  have Hd2_4 := hQ0 hd2_4; clear hd2_4
  intro K hK; (try simp only [opt_true]); go_simp; refine hK _ _ ?_; clear hK K
  apply wpL_maybe true (by exact rfl)
  (case h => intro _; have hcW_ := (bcellW hS_).1; go_simp; first | done | exact rfl)
  intro K hK; (try simp only [opt_true]); go_simp; refine hK _ _ ?_; clear hK K
  refine wpList_nil ?_
  (try go_simp)
  clear hS_
  cases d2_4
  case true =>
   have q2 : (b5 || b6 || b7 || b8 || b9) = true := by rw [← Hd2_1.out, ← Hd2_2.out, ← Hd2_3.out]; exact Hd2_4.out.symm
   have HX := HBB
   obtain rfl : R = 9 := HRr.out.trans (if_pos (by unfold Tb.many; simp only [HB0.out, HB1.out, HB2.out, HB3.out, HB4.out, HB5.out, HB6.out, HB7.out, HB8.out, HB9.out]; rw [HQ1.out, q2]; simp))
   clear q2
   go_wp2_with fail
   go_ret
   exact ⟨rfl, HBB.out.trans (by ((with_reducible (repeat (first | exact bR _ _ | apply bS | apply bA | apply bD | refine bT ?_ (by assumption) ?_ | refine bO (by assumption) ?_ ?_))) <;> (first | omega | (simp <;> omega))))⟩
  case false =>
   have HQ2 : Hid ((b5 || b6 || b7 || b8 || b9) = false) := hQ0 (by rw [← Hd2_1.out, ← Hd2_2.out, ← Hd2_3.out]; exact Hd2_4.out.symm)
   clear hb5 hb6 hb7 hb8 hb9
   go_wp2_with fail
   (go_at_call 25; refine (in_new1' 0 6 bal _ _ r3 HR3.out (by simp)).mono ?_; rintro e w1 ⟨rfl, rfl⟩)
   cases r3
   case false =>
    have HX := HBB
    obtain rfl : R = 9 := HRr.out.trans (if_pos (by unfold Tb.many; simp only [HB0.out, HB1.out, HB2.out, HB3.out, HB4.out, HB5.out, HB6.out, HB7.out, HB8.out, HB9.out]; rw [HQ1.out, HQ2.out, ← HR3.out]; simp))
    go_wp2_with fail
    go_ret
    exact ⟨rfl, HBB.out.trans (by ((with_reducible (repeat (first | exact bR _ _ | apply bS | apply bA | apply bD | refine bT ?_ (by assumption) ?_ | refine bO (by assumption) ?_ ?_))) <;> (first | omega | (simp <;> omega))))⟩
   case true =>
    by_cases htr : bal < (tr.length : Int)
    · have HX := HBB
      obtain rfl : R = 9 := HRr.out.trans (if_pos (by unfold Tb.many; simp only [HB0.out, HB1.out, HB2.out, HB3.out, HB4.out, HB5.out, HB6.out, HB7.out, HB8.out, HB9.out]; rw [HQ1.out, HQ2.out, decide_eq_true htr]; simp))
      go_wp2_with fail
      go_ret
      exact ⟨rfl, HBB.out.trans (by ((with_reducible (repeat (first | exact bR _ _ | apply bS | apply bA | apply bD | refine bT ?_ (by assumption) ?_ | refine bO (by assumption) ?_ ?_))) <;> (first | omega | (simp <;> omega))))⟩
    · have hLn : ws.length ≤ 64 ∧ ars.length ≤ 32 ∧ ps.length ≤ 32 ∧ fs.length ≤ 4 ∧ zs.length ≤ 16 ∧ ss.length ≤ 8 ∧ las.length ≤ 24 ∧ rs.length ≤ 8 ∧ ds.length ≤ 4 ∧ lns.length ≤ 4 := by
       have q1 := HQ1.out
       have q2 := HQ2.out
       rw [← HB0.out, ← HB1.out, ← HB2.out, ← HB3.out, ← HB4.out] at q1
       rw [← HB5.out, ← HB6.out, ← HB7.out, ← HB8.out, ← HB9.out] at q2
       simp only [Bool.or_eq_false_iff, decide_eq_false_iff_not] at q1 q2
       omega
      have HM : Hid (¬ Tb.many ⟨rad, bal, rst, gx, gy, drg, shf, tr, ws, ars, ps, fs, zs, ss, las, rs, ds, lns⟩ = true) := hQ0 (by unfold Tb.many; simp only [HB0.out, HB1.out, HB2.out, HB3.out, HB4.out, HB5.out, HB6.out, HB7.out, HB8.out, HB9.out]; rw [HQ1.out, HQ2.out, ← HR3.out]; simp; omega)
      have HLn := hQ0 hLn
      clear hLn HQ1 HQ2 Hd1_1 Hd1_2 Hd1_3 Hd1_4 Hd2_1 Hd2_2 Hd2_3 Hd2_4 HB0 HB1 HB2 HB3 HB4 HB5 HB6 HB7 HB8 HB9
      go_wp2_with fail
      (go_at_call 25; refine (in_new1' 64 32768 rad _ _ r6 HR6.out (by simp)).mono ?_; rintro e w1 ⟨rfl, rfl⟩)
      cases r6
      · obtain rfl : R = 5 := HRr.out.trans ((if_neg HM.out).trans (if_pos (by unfold Tb.headB; simp only; rw [← HR6.out, ← HR7.out, ← HR8.out, ← HR9.out, ← HR10.out, ← HR11.out]; simp)))
        go_wp2_with fail
        go_ret
        exact ⟨rfl, HBB.out.trans (by ((with_reducible (repeat (first | exact bR _ _ | apply bS | apply bA | apply bD | refine bT ?_ (by assumption) ?_ | refine bO (by assumption) ?_ ?_))) <;> (first | omega | (simp <;> omega))))⟩
      go_wp2_with fail
      (go_at_call 25; refine (in_new1' 0 15 rst _ _ r7 HR7.out (by simp)).mono ?_; rintro e w1 ⟨rfl, rfl⟩)
      cases r7
      · obtain rfl : R = 5 := HRr.out.trans ((if_neg HM.out).trans (if_pos (by unfold Tb.headB; simp only; rw [← HR6.out, ← HR7.out, ← HR8.out, ← HR9.out, ← HR10.out, ← HR11.out]; simp)))
        go_wp2_with fail
        go_ret
        exact ⟨rfl, HBB.out.trans (by ((with_reducible (repeat (first | exact bR _ _ | apply bS | apply bA | apply bD | refine bT ?_ (by assumption) ?_ | refine bO (by assumption) ?_ ?_))) <;> (first | omega | (simp <;> omega))))⟩
      go_upto_region 8 with (fail)
      (refine pin_eqT (fun w7_ hE_w7 => ?_))
      have HT7 : Hid (BoxAt w7_ w.heap.size TC) := hQ0 (by rw [hE_w7]; exact ((HT1.out.alloc _).alloc _).alloc _)
      have HB7 : Hid (Below w.heap.size w w7_) := hQ0 (by rw [hE_w7]; exact HBB.out.trans (by have hzz := HBB.out.size; ((with_reducible (repeat (first | exact bR _ _ | apply bS | apply bA | apply bD | refine bT ?_ (by assumption) ?_ | refine bO (by assumption) ?_ ?_))) <;> (first | omega | (simp <;> omega)))))
      clear hE_w7 t0 t1 t2 t3 t4 t5 t6 t7 t8 t9 t10 t11 t12 t13 t14 t15 t16 t17 HT1 hltT HBB
      have HT1 := HT7
      have HBB := HB7
      have hltT := HT1.out.lt
      have t3 := HT1.out.c 3 (.int .i64 gx) (by rw [HTC.out]; rfl)
      have t4 := HT1.out.c 4 (.int .i64 gy) (by rw [HTC.out]; rfl)
      clear HT7 HB7
      go_wp2_with fail
      (go_at_call 26; refine (within_new1' 256 gx gy _ _ r8 HR8.out (by simp) (by omega) (by omega)).mono ?_; rintro e w8 ⟨rfl, hb8⟩)
      have hzz := HBB.out.size
      have HT8 : Hid (BoxAt w8 w.heap.size TC) := hQ0 ((HT1.out.alloc _).below hb8 (by omega))
      have HB8 : Hid (Below w.heap.size w w8) := hQ0 ((HBB.out.trans (by ((with_reducible (repeat (first | exact bR _ _ | apply bS | apply bA | apply bD | refine bT ?_ (by assumption) ?_ | refine bO (by assumption) ?_ ?_))) <;> (first | omega | (simp <;> omega))))).trans (hb8.mono (by omega)))
      have hz8 := HB8.out.size
      have hlt8 := HT8.out.lt
      clear hb8 t3 t4 HT1 hltT HBB
      have HT1 := HT8
      have HBB := HB8
      have hltT := HT8.out.lt
      cases r8
      · obtain rfl : R = 5 := HRr.out.trans ((if_neg HM.out).trans (if_pos (by unfold Tb.headB; simp only; rw [← HR6.out, ← HR7.out, ← HR8.out, ← HR9.out, ← HR10.out, ← HR11.out]; simp)))
        go_wp2_with fail
        go_ret
        exact ⟨rfl, HBB.out.trans (by ((with_reducible (repeat (first | exact bR _ _ | apply bS | apply bA | apply bD | refine bT ?_ (by assumption) ?_ | refine bO (by assumption) ?_ ?_))) <;> (first | omega | (simp <;> omega))))⟩
      have t5 := HT8.out.c 5 (.int .i64 drg) (by rw [HTC.out]; rfl)
      have t6 := HT8.out.c 6 (.int .i64 shf) (by rw [HTC.out]; rfl)
      have t7 := HT8.out.c 7 (.slice Atr tr.length ctr) (by rw [HTC.out]; rfl)
      have t8 := HT8.out.c 8 (.slice Aws ws.length cws) (by rw [HTC.out]; rfl)
      go_wp2_with fail
      (go_at_call 25; refine (in_new1' 0 1000 drg _ _ r9 HR9.out (by simp)).mono ?_; rintro e w1 ⟨rfl, rfl⟩)
      cases r9
      · obtain rfl : R = 5 := HRr.out.trans ((if_neg HM.out).trans (if_pos (by unfold Tb.headB; simp only; rw [← HR6.out, ← HR7.out, ← HR8.out, ← HR9.out, ← HR10.out, ← HR11.out]; simp)))
        go_wp2_with fail
        go_ret
        exact ⟨rfl, HBB.out.trans (by ((with_reducible (repeat (first | exact bR _ _ | apply bS | apply bA | apply bD | refine bT ?_ (by assumption) ?_ | refine bO (by assumption) ?_ ?_))) <;> (first | omega | (simp <;> omega))))⟩
      go_wp2_with fail
      (go_at_call 25; refine (in_new1' 0 14 shf _ _ r10 HR10.out (by simp)).mono ?_; rintro e w1 ⟨rfl, rfl⟩)
      cases r10
      · obtain rfl : R = 5 := HRr.out.trans ((if_neg HM.out).trans (if_pos (by unfold Tb.headB; simp only; rw [← HR6.out, ← HR7.out, ← HR8.out, ← HR9.out, ← HR10.out, ← HR11.out]; simp)))
        go_wp2_with fail
        go_ret
        exact ⟨rfl, HBB.out.trans (by ((with_reducible (repeat (first | exact bR _ _ | apply bS | apply bA | apply bD | refine bT ?_ (by assumption) ?_ | refine bO (by assumption) ?_ ?_))) <;> (first | omega | (simp <;> omega))))⟩
      go_wp2_with fail
      (go_at_call 25; refine (in_any (-1) 63 tr _ _ _ (HA.out.tr.below (B := w.heap.size) (HBB.out.trans (by ((with_reducible (repeat (first | exact bR _ _ | apply bS | apply bA | apply bD | refine bT ?_ (by assumption) ?_ | refine bO (by assumption) ?_ ?_))) <;> (first | omega | (simp <;> omega))))) (Nat.le_refl _)) HTR.out).mono ?_; rintro e w1 ⟨rfl, rfl⟩; rw [← HR11.out])
      cases r11
      · obtain rfl : R = 5 := HRr.out.trans ((if_neg HM.out).trans (if_pos (by unfold Tb.headB; simp only; rw [← HR6.out, ← HR7.out, ← HR8.out, ← HR9.out, ← HR10.out, ← HR11.out]; simp)))
        go_wp2_with fail
        go_ret
        exact ⟨rfl, HBB.out.trans (by ((with_reducible (repeat (first | exact bR _ _ | apply bS | apply bA | apply bD | refine bT ?_ (by assumption) ?_ | refine bO (by assumption) ?_ ?_))) <;> (first | omega | (simp <;> omega))))⟩
      have HH : Hid (¬ Tb.headB ⟨rad, bal, rst, gx, gy, drg, shf, tr, ws, ars, ps, fs, zs, ss, las, rs, ds, lns⟩ = false) := hQ0 (by unfold Tb.headB; simp only; rw [← HR6.out, ← HR7.out, ← HR8.out, ← HR9.out, ← HR10.out, ← HR11.out]; simp)
      go_upto_region 14 with (fail)
      (refine pin_eqT (fun w2 hE_w2 => ?_))
      have HT2 : Hid (BoxAt w2 w.heap.size TC) := hQ0 (by rw [hE_w2]; exact (((HT8.out.alloc _).alloc _).alloc _).alloc _)
      have HB2 : Hid (Below w.heap.size w w2) := hQ0 (by rw [hE_w2]; exact HBB.out.trans (by ((with_reducible (repeat (first | exact bR _ _ | apply bS | apply bA | apply bD | refine bT ?_ (by assumption) ?_ | refine bO (by assumption) ?_ ?_))) <;> (first | omega | (simp <;> omega)))))
      obtain ⟨cb, hcb⟩ : ∃ z, z = w8.heap.size + 1 + 1 + 1 := ⟨_, rfl⟩
      obtain ⟨mb, hmb⟩ : ∃ z, z = w8.heap.size + 1 + 1 := ⟨_, rfl⟩
      have HC2 : Hid (CkAt w2 cb mb 0 0 []) := hQ0 (by
       rw [hE_w2, hcb, hmb]
       exact ⟨by go_simp, by go_simp, fun o => by go_simp, by simp, by omega, ((SeenAt.new ((w8.alloc _).alloc _)).block (heap_alloc_old _ _ (by simp)) : SeenAt _ _ _ _).cast (by simp)⟩)
      rw [← hcb]
      have hcw : w.heap.size < cb := by omega
      have hmw : w.heap.size < mb := by omega
      clear hE_w2 t5 t6 t7 t8 hcb hmb hlt8 hz8 HT8 HBB HB8 HT1
      as_aux_lemma =>
       refine wp_region_lit ?_
       have hS_ : Below w2.heap.size w2 w2 := Below.refl _ _
       apply wpL_maybe true (by exact rfl)
       (case h => intro _; have hcW_ := (bcellW hS_).1; go_simp; first | done | exact rfl)
       intro K hK; (try simp only [opt_true]); go_simp; refine hK _ _ ?_; clear hK K
       apply wpL_maybe true (by exact rfl)
       (case h => intro _; have hY_ := (HT2.out).below hS_ (HT2.out.lt); have y0_ := hY_.c 8 (.slice Aws ws.length cws) ((by rw [HTC.out]; rfl)); go_simp; first | done | exact rfl)
       intro K hK; (try simp only [opt_true]); go_simp; refine hK _ _ ?_; clear hK K
       apply wpL_maybe true (by exact rfl)
       (case h => intro _; have hcW_ := (bcellW hS_).1; go_simp; first | done | exact rfl)
       intro K hK; (try simp only [opt_true]); go_simp; refine hK _ _ ?_; clear hK K
       apply wpL_maybe true (by exact rfl)
       (case h => intro _; have hcW_ := (bcellW hS_).1; go_simp; first | done | exact rfl)
       intro K hK; (try simp only [opt_true]); go_simp; refine hK _ _ ?_; clear hK K
       refine wpList_nil ?_
       (try go_simp)
       go_step
       clear hS_
       refine wp_of_end (lp_ws w _ Aws cws cb mb 0 1000 (0) ([]) ws TC _ _ (by rfl) (by rfl) (by rfl) (by rfl) (by rfl) HA.out.ws (by have := HLn.out; omega) HS.out.ws HB2.out HT2.out HC2.out (by have := HLn.out; omega) (Nat.le_refl _) hcw hmw _ ?_) (fun _ _ h => h)
       clear HB2 HT2 HC2
       intro F_ wL0 n0 hF_ h1_ h2_ h3_ hb_ hT_ hn_ hC_
       obtain ⟨s0, rfl⟩ := fr623_ex F_ hF_
       have e1_ : s0 1 = .pointer (some ⟨w.heap.size, 0, none⟩) := Option.some.inj h1_
       have e2_ : s0 2 = .int .i64 0 := Option.some.inj h2_
       have e3_ : s0 3 = .pointer (some ⟨cb, 0, none⟩) := Option.some.inj h3_
       obtain ⟨S0, hS0⟩ : ∃ z : CS, z = ws.foldl Wl.look (0, []) := ⟨_, rfl⟩
       have HC2 : Hid (CkAt wL0 cb mb n0 S0.1 S0.2) := hQ0 (by rw [hS0]; exact hC_)
       have HS0 := hQ0 hS0
       have HB2 := hQ0 hb_
       have HT2 := hQ0 hT_
       clear hS0 hC_ hb_ hT_
       unfold fr623
       rw [e1_, e2_, e3_]
       clear e1_ e2_ e3_ h1_ h2_ h3_ hF_
       show _
       go_upto_region 19 with (fail)
       refine wp_region_lit ?_
       have hS_ : Below wL0.heap.size wL0 wL0 := Below.refl _ _
       apply wpL_maybe true (by exact rfl)
       (case h => intro _; have hcW_ := (bcellW hS_).1; go_simp; first | done | exact rfl)
       intro K hK; (try simp only [opt_true]); go_simp; refine hK _ _ ?_; clear hK K
       apply wpL_maybe true (by exact rfl)
       (case h => intro _; have hY_ := (HT2.out).below hS_ (HT2.out.lt); have y0_ := hY_.c 9 (.slice Aars ars.length cars) ((by rw [HTC.out]; rfl)); go_simp; first | done | exact rfl)
       intro K hK; (try simp only [opt_true]); go_simp; refine hK _ _ ?_; clear hK K
       apply wpL_maybe true (by exact rfl)
       (case h => intro _; have hcW_ := (bcellW hS_).1; go_simp; first | done | exact rfl)
       intro K hK; (try simp only [opt_true]); go_simp; refine hK _ _ ?_; clear hK K
       apply wpL_maybe true (by exact rfl)
       (case h => intro _; have hcW_ := (bcellW hS_).1; go_simp; first | done | exact rfl)
       intro K hK; (try simp only [opt_true]); go_simp; refine hK _ _ ?_; clear hK K
       refine wpList_nil ?_
       (try go_simp)
       go_step
       clear hS_
       refine wp_of_end (lp_ars w _ Aars cars cb mb n0 1000 (S0.1) (S0.2) ars TC rad _ _ (by rfl) (by rfl) (by rfl) (by rfl) (by rfl) (by rfl) HA.out.ars HZ.out.ars HS.out.ars HB2.out HT2.out (by rw [HTC.out]; rfl) (by have := in1_iff HR6.out.symm; omega) (by have := in1_iff HR6.out.symm; omega) HC2.out (by have := HLn.out; omega) (Nat.le_refl _) hcw hmw _ ?_) (fun _ _ h => h)
       clear HB2 HT2 HC2
       intro F_ wL1 n1 hF_ h1_ h2_ h3_ hb_ hT_ hn_ hC_
       obtain ⟨s1, rfl⟩ := fr623_ex F_ hF_
       have e1_ : s1 1 = .pointer (some ⟨w.heap.size, 0, none⟩) := Option.some.inj h1_
       have e2_ : s1 2 = .int .i64 0 := Option.some.inj h2_
       have e3_ : s1 3 = .pointer (some ⟨cb, 0, none⟩) := Option.some.inj h3_
       obtain ⟨S1, hS1⟩ : ∃ z : CS, z = ars.foldl (Ac.look rad) S0 := ⟨_, rfl⟩
       have HC2 : Hid (CkAt wL1 cb mb n1 S1.1 S1.2) := hQ0 (by rw [hS1]; exact hC_)
       have HS1 := hQ0 hS1
       have HB2 := hQ0 hb_
       have HT2 := hQ0 hT_
       clear hS1 hC_ hb_ hT_
       unfold fr623
       rw [e1_, e2_, e3_]
       clear e1_ e2_ e3_ h1_ h2_ h3_ hF_
       show _
       as_aux_lemma =>
        go_upto_region 25 with (fail)
        refine wp_region_lit ?_
        have hS_ : Below wL1.heap.size wL1 wL1 := Below.refl _ _
        apply wpL_maybe true (by exact rfl)
        (case h => intro _; have hcW_ := (bcellW hS_).1; go_simp; first | done | exact rfl)
        intro K hK; (try simp only [opt_true]); go_simp; refine hK _ _ ?_; clear hK K
        apply wpL_maybe true (by exact rfl)
        (case h => intro _; have hY_ := (HT2.out).below hS_ (HT2.out.lt); have y0_ := hY_.c 10 (.slice Aps ps.length cps) ((by rw [HTC.out]; rfl)); go_simp; first | done | exact rfl)
        intro K hK; (try simp only [opt_true]); go_simp; refine hK _ _ ?_; clear hK K
        apply wpL_maybe true (by exact rfl)
        (case h => intro _; have hcW_ := (bcellW hS_).1; go_simp; first | done | exact rfl)
        intro K hK; (try simp only [opt_true]); go_simp; refine hK _ _ ?_; clear hK K
        apply wpL_maybe true (by exact rfl)
        (case h => intro _; have hcW_ := (bcellW hS_).1; go_simp; first | done | exact rfl)
        intro K hK; (try simp only [opt_true]); go_simp; refine hK _ _ ?_; clear hK K
        refine wpList_nil ?_
        (try go_simp)
        go_step
        clear hS_
        refine wp_of_end (lp_ps w _ Aps cps cb mb n1 1000 (S1.1) (S1.2) ps TC _ _ (by rfl) (by rfl) (by rfl) (by rfl) (by rfl) HA.out.ps (by have := HLn.out; omega) HS.out.ps HB2.out HT2.out HC2.out (by have := HLn.out; omega) (Nat.le_refl _) hcw hmw _ ?_) (fun _ _ h => h)
        clear HB2 HT2 HC2
        intro F_ wL2 n2 hF_ h1_ h2_ h3_ hb_ hT_ hn_ hC_
        obtain ⟨s2, rfl⟩ := fr623_ex F_ hF_
        have e1_ : s2 1 = .pointer (some ⟨w.heap.size, 0, none⟩) := Option.some.inj h1_
        have e2_ : s2 2 = .int .i64 0 := Option.some.inj h2_
        have e3_ : s2 3 = .pointer (some ⟨cb, 0, none⟩) := Option.some.inj h3_
        obtain ⟨S2, hS2⟩ : ∃ z : CS, z = ps.foldl Ps.look S1 := ⟨_, rfl⟩
        have HC2 : Hid (CkAt wL2 cb mb n2 S2.1 S2.2) := hQ0 (by rw [hS2]; exact hC_)
        have HS2 := hQ0 hS2
        have HB2 := hQ0 hb_
        have HT2 := hQ0 hT_
        clear hS2 hC_ hb_ hT_
        unfold fr623
        rw [e1_, e2_, e3_]
        clear e1_ e2_ e3_ h1_ h2_ h3_ hF_
        show _
        go_upto_region 30 with (fail)
        refine wp_region_lit ?_
        have hS_ : Below wL2.heap.size wL2 wL2 := Below.refl _ _
        apply wpL_maybe true (by exact rfl)
        (case h => intro _; have hcW_ := (bcellW hS_).1; go_simp; first | done | exact rfl)
        intro K hK; (try simp only [opt_true]); go_simp; refine hK _ _ ?_; clear hK K
        apply wpL_maybe true (by exact rfl)
        (case h => intro _; have hY_ := (HT2.out).below hS_ (HT2.out.lt); have y0_ := hY_.c 11 (.slice Afs fs.length cfs) ((by rw [HTC.out]; rfl)); go_simp; first | done | exact rfl)
        intro K hK; (try simp only [opt_true]); go_simp; refine hK _ _ ?_; clear hK K
        apply wpL_maybe true (by exact rfl)
        (case h => intro _; have hcW_ := (bcellW hS_).1; go_simp; first | done | exact rfl)
        intro K hK; (try simp only [opt_true]); go_simp; refine hK _ _ ?_; clear hK K
        apply wpL_maybe true (by exact rfl)
        (case h => intro _; have hcW_ := (bcellW hS_).1; go_simp; first | done | exact rfl)
        intro K hK; (try simp only [opt_true]); go_simp; refine hK _ _ ?_; clear hK K
        refine wpList_nil ?_
        (try go_simp)
        go_step
        clear hS_
        refine wp_of_end (lp_fs w _ Afs cfs cb mb n2 1000 (S2.1) (S2.2) fs TC _ _ (by rfl) (by rfl) (by rfl) (by rfl) (by rfl) HA.out.fs HZ.out.fs HS.out.fs HB2.out HT2.out HC2.out (by have := HLn.out; omega) (Nat.le_refl _) hcw hmw _ ?_) (fun _ _ h => h)
        clear HB2 HT2 HC2
        intro F_ wL3 n3 hF_ h1_ h2_ h3_ hb_ hT_ hn_ hC_
        obtain ⟨s3, rfl⟩ := fr623_ex F_ hF_
        have e1_ : s3 1 = .pointer (some ⟨w.heap.size, 0, none⟩) := Option.some.inj h1_
        have e2_ : s3 2 = .int .i64 0 := Option.some.inj h2_
        have e3_ : s3 3 = .pointer (some ⟨cb, 0, none⟩) := Option.some.inj h3_
        obtain ⟨S3, hS3⟩ : ∃ z : CS, z = fs.foldl Fl.look S2 := ⟨_, rfl⟩
        have HC2 : Hid (CkAt wL3 cb mb n3 S3.1 S3.2) := hQ0 (by rw [hS3]; exact hC_)
        have HS3 := hQ0 hS3
        have HB2 := hQ0 hb_
        have HT2 := hQ0 hT_
        clear hS3 hC_ hb_ hT_
        unfold fr623
        rw [e1_, e2_, e3_]
        clear e1_ e2_ e3_ h1_ h2_ h3_ hF_
        show _
        as_aux_lemma =>
         go_upto_region 36 with (fail)
         refine wp_region_lit ?_
         have hS_ : Below wL3.heap.size wL3 wL3 := Below.refl _ _
         apply wpL_maybe true (by exact rfl)
         (case h => intro _; have hcW_ := (bcellW hS_).1; go_simp; first | done | exact rfl)
         intro K hK; (try simp only [opt_true]); go_simp; refine hK _ _ ?_; clear hK K
         apply wpL_maybe true (by exact rfl)
         (case h => intro _; have hY_ := (HT2.out).below hS_ (HT2.out.lt); have y0_ := hY_.c 12 (.slice Azs zs.length czs) ((by rw [HTC.out]; rfl)); go_simp; first | done | exact rfl)
         intro K hK; (try simp only [opt_true]); go_simp; refine hK _ _ ?_; clear hK K
         apply wpL_maybe true (by exact rfl)
         (case h => intro _; have hcW_ := (bcellW hS_).1; go_simp; first | done | exact rfl)
         intro K hK; (try simp only [opt_true]); go_simp; refine hK _ _ ?_; clear hK K
         apply wpL_maybe true (by exact rfl)
         (case h => intro _; have hcW_ := (bcellW hS_).1; go_simp; first | done | exact rfl)
         intro K hK; (try simp only [opt_true]); go_simp; refine hK _ _ ?_; clear hK K
         refine wpList_nil ?_
         (try go_simp)
         go_step
         clear hS_
         refine wp_of_end (lp_zs w _ Azs czs cb mb n3 1000 (S3.1) (S3.2) zs TC _ _ (by rfl) (by rfl) (by rfl) (by rfl) (by rfl) HA.out.zs (by have := HLn.out; omega) HS.out.zs HB2.out HT2.out HC2.out (by have := HLn.out; omega) (Nat.le_refl _) hcw hmw _ ?_) (fun _ _ h => h)
         clear HB2 HT2 HC2
         intro F_ wL4 n4 hF_ h1_ h2_ h3_ hb_ hT_ hn_ hC_
         obtain ⟨s4, rfl⟩ := fr623_ex F_ hF_
         have e1_ : s4 1 = .pointer (some ⟨w.heap.size, 0, none⟩) := Option.some.inj h1_
         have e2_ : s4 2 = .int .i64 0 := Option.some.inj h2_
         have e3_ : s4 3 = .pointer (some ⟨cb, 0, none⟩) := Option.some.inj h3_
         obtain ⟨S4, hS4⟩ : ∃ z : CS, z = zs.foldl Zn.look S3 := ⟨_, rfl⟩
         have HC2 : Hid (CkAt wL4 cb mb n4 S4.1 S4.2) := hQ0 (by rw [hS4]; exact hC_)
         have HS4 := hQ0 hS4
         have HB2 := hQ0 hb_
         have HT2 := hQ0 hT_
         clear hS4 hC_ hb_ hT_
         unfold fr623
         rw [e1_, e2_, e3_]
         clear e1_ e2_ e3_ h1_ h2_ h3_ hF_
         show _
         go_upto_region 41 with (fail)
         refine wp_region_lit ?_
         have hS_ : Below wL4.heap.size wL4 wL4 := Below.refl _ _
         apply wpL_maybe true (by exact rfl)
         (case h => intro _; have hcW_ := (bcellW hS_).1; go_simp; first | done | exact rfl)
         intro K hK; (try simp only [opt_true]); go_simp; refine hK _ _ ?_; clear hK K
         apply wpL_maybe true (by exact rfl)
         (case h => intro _; have hY_ := (HT2.out).below hS_ (HT2.out.lt); have y0_ := hY_.c 13 (.slice Ass ss.length css) ((by rw [HTC.out]; rfl)); go_simp; first | done | exact rfl)
         intro K hK; (try simp only [opt_true]); go_simp; refine hK _ _ ?_; clear hK K
         apply wpL_maybe true (by exact rfl)
         (case h => intro _; have hcW_ := (bcellW hS_).1; go_simp; first | done | exact rfl)
         intro K hK; (try simp only [opt_true]); go_simp; refine hK _ _ ?_; clear hK K
         apply wpL_maybe true (by exact rfl)
         (case h => intro _; have hcW_ := (bcellW hS_).1; go_simp; first | done | exact rfl)
         intro K hK; (try simp only [opt_true]); go_simp; refine hK _ _ ?_; clear hK K
         refine wpList_nil ?_
         (try go_simp)
         go_step
         clear hS_
         refine wp_of_end (lp_ss w _ Ass css cb mb n4 1000 (S4.1) (S4.2) ss TC rad _ _ (by rfl) (by rfl) (by rfl) (by rfl) (by rfl) (by rfl) HA.out.ss HZ.out.ss HS.out.ss HB2.out HT2.out (by rw [HTC.out]; rfl) (by have := in1_iff HR6.out.symm; omega) (by have := in1_iff HR6.out.symm; omega) HC2.out (by have := HLn.out; omega) (Nat.le_refl _) hcw hmw _ ?_) (fun _ _ h => h)
         clear HB2 HT2 HC2
         intro F_ wL5 n5 hF_ h1_ h2_ h3_ hb_ hT_ hn_ hC_
         obtain ⟨s5, rfl⟩ := fr623_ex F_ hF_
         have e1_ : s5 1 = .pointer (some ⟨w.heap.size, 0, none⟩) := Option.some.inj h1_
         have e2_ : s5 2 = .int .i64 0 := Option.some.inj h2_
         have e3_ : s5 3 = .pointer (some ⟨cb, 0, none⟩) := Option.some.inj h3_
         obtain ⟨S5, hS5⟩ : ∃ z : CS, z = ss.foldl (Sc.look rad) S4 := ⟨_, rfl⟩
         have HC2 : Hid (CkAt wL5 cb mb n5 S5.1 S5.2) := hQ0 (by rw [hS5]; exact hC_)
         have HS5 := hQ0 hS5
         have HB2 := hQ0 hb_
         have HT2 := hQ0 hT_
         clear hS5 hC_ hb_ hT_
         unfold fr623
         rw [e1_, e2_, e3_]
         clear e1_ e2_ e3_ h1_ h2_ h3_ hF_
         show _
         as_aux_lemma =>
          go_upto_region 46 with (fail)
          refine wp_region_lit ?_
          have hS_ : Below wL5.heap.size wL5 wL5 := Below.refl _ _
          apply wpL_maybe true (by exact rfl)
          (case h => intro _; have hcW_ := (bcellW hS_).1; go_simp; first | done | exact rfl)
          intro K hK; (try simp only [opt_true]); go_simp; refine hK _ _ ?_; clear hK K
          apply wpL_maybe true (by exact rfl)
          (case h => intro _; have hY_ := (HT2.out).below hS_ (HT2.out.lt); have y0_ := hY_.c 14 (.slice Alas las.length clas) ((by rw [HTC.out]; rfl)); go_simp; first | done | exact rfl)
          intro K hK; (try simp only [opt_true]); go_simp; refine hK _ _ ?_; clear hK K
          apply wpL_maybe true (by exact rfl)
          (case h => intro _; have hcW_ := (bcellW hS_).1; go_simp; first | done | exact rfl)
          intro K hK; (try simp only [opt_true]); go_simp; refine hK _ _ ?_; clear hK K
          apply wpL_maybe true (by exact rfl)
          (case h => intro _; have hcW_ := (bcellW hS_).1; go_simp; first | done | exact rfl)
          intro K hK; (try simp only [opt_true]); go_simp; refine hK _ _ ?_; clear hK K
          refine wpList_nil ?_
          (try go_simp)
          go_step
          clear hS_
          refine wp_of_end (lp_las w _ Alas clas cb mb n5 1000 (S5.1) (S5.2) las TC _ _ (by rfl) (by rfl) (by rfl) (by rfl) (by rfl) HA.out.las (by have := HLn.out; omega) HS.out.las HB2.out HT2.out HC2.out (by have := HLn.out; omega) (Nat.le_refl _) hcw hmw _ ?_) (fun _ _ h => h)
          clear HB2 HT2 HC2
          intro F_ wL6 n6 hF_ h1_ h2_ h3_ hb_ hT_ hn_ hC_
          obtain ⟨s6, rfl⟩ := fr623_ex F_ hF_
          have e1_ : s6 1 = .pointer (some ⟨w.heap.size, 0, none⟩) := Option.some.inj h1_
          have e2_ : s6 2 = .int .i64 0 := Option.some.inj h2_
          have e3_ : s6 3 = .pointer (some ⟨cb, 0, none⟩) := Option.some.inj h3_
          obtain ⟨S6, hS6⟩ : ∃ z : CS, z = las.foldl La.look S5 := ⟨_, rfl⟩
          have HC2 : Hid (CkAt wL6 cb mb n6 S6.1 S6.2) := hQ0 (by rw [hS6]; exact hC_)
          have HS6 := hQ0 hS6
          have HB2 := hQ0 hb_
          have HT2 := hQ0 hT_
          clear hS6 hC_ hb_ hT_
          unfold fr623
          rw [e1_, e2_, e3_]
          clear e1_ e2_ e3_ h1_ h2_ h3_ hF_
          show _
          go_upto_region 51 with (fail)
          refine wp_region_lit ?_
          have hS_ : Below wL6.heap.size wL6 wL6 := Below.refl _ _
          apply wpL_maybe true (by exact rfl)
          (case h => intro _; have hcW_ := (bcellW hS_).1; go_simp; first | done | exact rfl)
          intro K hK; (try simp only [opt_true]); go_simp; refine hK _ _ ?_; clear hK K
          apply wpL_maybe true (by exact rfl)
          (case h => intro _; have hY_ := (HT2.out).below hS_ (HT2.out.lt); have y0_ := hY_.c 15 (.slice Ars rs.length crs) ((by rw [HTC.out]; rfl)); go_simp; first | done | exact rfl)
          intro K hK; (try simp only [opt_true]); go_simp; refine hK _ _ ?_; clear hK K
          apply wpL_maybe true (by exact rfl)
          (case h => intro _; have hcW_ := (bcellW hS_).1; go_simp; first | done | exact rfl)
          intro K hK; (try simp only [opt_true]); go_simp; refine hK _ _ ?_; clear hK K
          apply wpL_maybe true (by exact rfl)
          (case h => intro _; have hcW_ := (bcellW hS_).1; go_simp; first | done | exact rfl)
          intro K hK; (try simp only [opt_true]); go_simp; refine hK _ _ ?_; clear hK K
          refine wpList_nil ?_
          (try go_simp)
          go_step
          clear hS_
          refine wp_of_end (lp_rs w _ Ars crs cb mb n6 1000 (S6.1) (S6.2) rs TC _ _ (by rfl) (by rfl) (by rfl) (by rfl) (by rfl) HA.out.rs HZ.out.rs HS.out.rs HB2.out HT2.out HC2.out (by have := HLn.out; omega) (Nat.le_refl _) hcw hmw _ ?_) (fun _ _ h => h)
          clear HB2 HT2 HC2
          intro F_ wL7 n7 hF_ h1_ h2_ h3_ hb_ hT_ hn_ hC_
          obtain ⟨s7, rfl⟩ := fr623_ex F_ hF_
          have e1_ : s7 1 = .pointer (some ⟨w.heap.size, 0, none⟩) := Option.some.inj h1_
          have e2_ : s7 2 = .int .i64 0 := Option.some.inj h2_
          have e3_ : s7 3 = .pointer (some ⟨cb, 0, none⟩) := Option.some.inj h3_
          obtain ⟨S7, hS7⟩ : ∃ z : CS, z = rs.foldl Ra.look S6 := ⟨_, rfl⟩
          have HC2 : Hid (CkAt wL7 cb mb n7 S7.1 S7.2) := hQ0 (by rw [hS7]; exact hC_)
          have HS7 := hQ0 hS7
          have HB2 := hQ0 hb_
          have HT2 := hQ0 hT_
          clear hS7 hC_ hb_ hT_
          unfold fr623
          rw [e1_, e2_, e3_]
          clear e1_ e2_ e3_ h1_ h2_ h3_ hF_
          show _
          as_aux_lemma =>
           go_upto_region 56 with (fail)
           refine wp_region_lit ?_
           have hS_ : Below wL7.heap.size wL7 wL7 := Below.refl _ _
           apply wpL_maybe true (by exact rfl)
           (case h => intro _; have hcW_ := (bcellW hS_).1; go_simp; first | done | exact rfl)
           intro K hK; (try simp only [opt_true]); go_simp; refine hK _ _ ?_; clear hK K
           apply wpL_maybe true (by exact rfl)
           (case h => intro _; have hY_ := (HT2.out).below hS_ (HT2.out.lt); have y0_ := hY_.c 16 (.slice Ads ds.length cds) ((by rw [HTC.out]; rfl)); go_simp; first | done | exact rfl)
           intro K hK; (try simp only [opt_true]); go_simp; refine hK _ _ ?_; clear hK K
           apply wpL_maybe true (by exact rfl)
           (case h => intro _; have hcW_ := (bcellW hS_).1; go_simp; first | done | exact rfl)
           intro K hK; (try simp only [opt_true]); go_simp; refine hK _ _ ?_; clear hK K
           apply wpL_maybe true (by exact rfl)
           (case h => intro _; have hcW_ := (bcellW hS_).1; go_simp; first | done | exact rfl)
           intro K hK; (try simp only [opt_true]); go_simp; refine hK _ _ ?_; clear hK K
           refine wpList_nil ?_
           (try go_simp)
           go_step
           clear hS_
           refine wp_of_end (lp_ds w _ Ads cds cb mb n7 1000 (S7.1) (S7.2) ds TC _ _ (by rfl) (by rfl) (by rfl) (by rfl) (by rfl) HA.out.ds (by have := HLn.out; omega) HS.out.ds HB2.out HT2.out HC2.out (by have := HLn.out; omega) (Nat.le_refl _) hcw hmw _ ?_) (fun _ _ h => h)
           clear HB2 HT2 HC2
           intro F_ wL8 n8 hF_ h1_ h2_ h3_ hb_ hT_ hn_ hC_
           obtain ⟨s8, rfl⟩ := fr623_ex F_ hF_
           have e1_ : s8 1 = .pointer (some ⟨w.heap.size, 0, none⟩) := Option.some.inj h1_
           have e2_ : s8 2 = .int .i64 0 := Option.some.inj h2_
           have e3_ : s8 3 = .pointer (some ⟨cb, 0, none⟩) := Option.some.inj h3_
           obtain ⟨S8, hS8⟩ : ∃ z : CS, z = ds.foldl Dr.look S7 := ⟨_, rfl⟩
           have HC2 : Hid (CkAt wL8 cb mb n8 S8.1 S8.2) := hQ0 (by rw [hS8]; exact hC_)
           have HS8 := hQ0 hS8
           have HB2 := hQ0 hb_
           have HT2 := hQ0 hT_
           clear hS8 hC_ hb_ hT_
           unfold fr623
           rw [e1_, e2_, e3_]
           clear e1_ e2_ e3_ h1_ h2_ h3_ hF_
           show _
           go_upto_region 61 with (fail)
           refine wp_region_lit ?_
           have hS_ : Below wL8.heap.size wL8 wL8 := Below.refl _ _
           apply wpL_maybe true (by exact rfl)
           (case h => intro _; have hcW_ := (bcellW hS_).1; go_simp; first | done | exact rfl)
           intro K hK; (try simp only [opt_true]); go_simp; refine hK _ _ ?_; clear hK K
           apply wpL_maybe true (by exact rfl)
           (case h => intro _; have hY_ := (HT2.out).below hS_ (HT2.out.lt); have y0_ := hY_.c 17 (.slice Alns lns.length clns) ((by rw [HTC.out]; rfl)); go_simp; first | done | exact rfl)
           intro K hK; (try simp only [opt_true]); go_simp; refine hK _ _ ?_; clear hK K
           apply wpL_maybe true (by exact rfl)
           (case h => intro _; have hcW_ := (bcellW hS_).1; go_simp; first | done | exact rfl)
           intro K hK; (try simp only [opt_true]); go_simp; refine hK _ _ ?_; clear hK K
           apply wpL_maybe true (by exact rfl)
           (case h => intro _; have hcW_ := (bcellW hS_).1; go_simp; first | done | exact rfl)
           intro K hK; (try simp only [opt_true]); go_simp; refine hK _ _ ?_; clear hK K
           refine wpList_nil ?_
           (try go_simp)
           go_step
           clear hS_
           refine wp_of_end (lp_lns w _ Alns clns cb mb n8 1000 (S8.1) (S8.2) lns TC _ _ (by rfl) (by rfl) (by rfl) (by rfl) (by rfl) HA.out.lns HZ.out.lns HS.out.lns HB2.out HT2.out HC2.out (by have := HLn.out; omega) (Nat.le_refl _) hcw hmw _ ?_) (fun _ _ h => h)
           clear HB2 HT2 HC2
           intro F_ wL9 n9 hF_ h1_ h2_ h3_ hb_ hT_ hn_ hC_
           obtain ⟨s9, rfl⟩ := fr623_ex F_ hF_
           have e1_ : s9 1 = .pointer (some ⟨w.heap.size, 0, none⟩) := Option.some.inj h1_
           have e2_ : s9 2 = .int .i64 0 := Option.some.inj h2_
           have e3_ : s9 3 = .pointer (some ⟨cb, 0, none⟩) := Option.some.inj h3_
           obtain ⟨S9, hS9⟩ : ∃ z : CS, z = lns.foldl Ln.look S8 := ⟨_, rfl⟩
           have HC2 : Hid (CkAt wL9 cb mb n9 S9.1 S9.2) := hQ0 (by rw [hS9]; exact hC_)
           have HS9 := hQ0 hS9
           have HB2 := hQ0 hb_
           have HT2 := hQ0 hT_
           clear hS9 hC_ hb_ hT_
           unfold fr623
           rw [e1_, e2_, e3_]
           clear e1_ e2_ e3_ h1_ h2_ h3_ hF_
           show _
           as_aux_lemma =>
            go_upto_region 66 with (fail)
            have hF : Tb.fold ⟨rad, bal, rst, gx, gy, drg, shf, tr, ws, ars, ps, fs, zs, ss, las, rs, ds, lns⟩ = S9 := by unfold Tb.fold; rw [HS9.out, HS8.out, HS7.out, HS6.out, HS5.out, HS4.out, HS3.out, HS2.out, HS1.out, HS0.out]
            have HF := hQ0 hF
            have hRf : R = if S9.1 = 0 ∧ Tb.over ⟨rad, bal, rst, gx, gy, drg, shf, tr, ws, ars, ps, fs, zs, ss, las, rs, ds, lns⟩ = true then 11 else S9.1 := by rw [HRr.out]; unfold checkR; rw [if_neg HM.out, if_neg HH.out, hF]
            have HRf := hQ0 hRf
            obtain ⟨ε, hε⟩ : ∃ z, z = S9.1 := ⟨_, rfl⟩
            obtain ⟨c0, c1, cfz, clt, cne, csn⟩ := HC2.out
            rw [← hε] at c1
            rw [← hε] at HRf
            have HE := hQ0 hε
            clear hF hRf hε csn
            obtain ⟨ov, hov'⟩ : ∃ b, b = Tb.over ⟨rad, bal, rst, gx, gy, drg, shf, tr, ws, ars, ps, fs, zs, ss, las, rs, ds, lns⟩ := ⟨_, rfl⟩
            have KO : ε = 0 → ∀ (W : World), Below w.heap.size w W → Calls Tryz.prog 33 #[.agg #[.int .i64 rad, .int .i64 bal, .int .i64 rst, .int .i64 gx, .int .i64 gy, .int .i64 drg, .int .i64 shf, .slice Atr tr.length ctr, .slice Aws ws.length cws, .slice Aars ars.length cars, .slice Aps ps.length cps, .slice Afs fs.length cfs, .slice Azs zs.length czs, .slice Ass ss.length css, .slice Alas las.length clas, .slice Ars rs.length crs, .slice Ads ds.length cds, .slice Alns lns.length clns]] W fun e w' => e = .returned (.bool ov) ∧ Below W.heap.size W w' := fun h0 W hb => by
             have hov := fold_ovok _ (by rw [HF.out, ← HE.out, h0]) (by exact HR6.out.symm)
             have h := overlaps_any _ _ W (HA.out.below hb (Nat.le_refl _)) HK.out hov ⟨HZ.out.ss, HZ.out.rs, HZ.out.lns⟩
             rw [← hov'] at h
             exact h
            have KO := hQ0 KO
            rw [← hov'] at HRf
            clear hov'
            obtain ⟨be, hbe⟩ : ∃ b, b = decide (ε = 0) := ⟨_, rfl⟩
            have HHbe := hQ0 hbe
            clear hbe
            have hzL9 := HB2.out.size
            refine wp_region_lit ?_
            have hS_ : Below wL9.heap.size wL9 wL9 := Below.refl _ _
            apply wpL_maybe true (by exact rfl)
            (case h => intro _; have hcW_ := (bcellW hS_).1; have c1y := (hS_.cell (p := ⟨cb, 1, none⟩) clt).trans c1; go_simp; first | done | exact rfl)
            intro K hK; (try simp only [opt_true]); go_simp; refine hK _ _ ?_; clear hK K
            apply wpL_maybe true (by exact rfl)
            (case h => intro _; have hcW_ := (bcellW hS_).1; have c1y := (hS_.cell (p := ⟨cb, 1, none⟩) clt).trans c1; go_simp; first | done | exact rfl)
            intro K hK; (try simp only [opt_true]); go_simp; refine hK _ _ ?_; clear hK K
            apply wpL_maybe true (by exact rfl)
            (case h => intro _; have hcW_ := (bcellW hS_).1; have c1y := (hS_.cell (p := ⟨cb, 1, none⟩) clt).trans c1; go_simp; first | done | exact rfl)
            intro K hK; (try simp only [opt_true]); go_simp; refine hK _ _ ?_; clear hK K
            apply wpL_maybe true (by exact rfl)
            (case h => intro _; have hcW_ := (bcellW hS_).1; have c1y := (hS_.cell (p := ⟨cb, 1, none⟩) clt).trans c1; go_simp; first | done | exact rfl)
            intro K hK; (try simp only [opt_true]); go_simp; refine hK _ _ ?_; clear hK K
            apply wpL_maybe true (by exact rfl) (.bool be)
            (case h => intro _; have hcW_ := (bcellW hS_).1; have c1y := (hS_.cell (p := ⟨cb, 1, none⟩) clt).trans c1; go_simp; rw [HHbe.out]; by_cases q1_ : ε = 0 <;> simp [q1_])
            intro K hK; (try simp only [opt_true]); go_simp; refine hK _ _ ?_; clear hK K
            apply wpL_maybe true (by exact rfl)
            (case h => intro _; have hcW_ := (bcellW hS_).1; have c1y := (hS_.cell (p := ⟨cb, 1, none⟩) clt).trans c1; go_simp; first | done | exact rfl)
            intro K hK; (try simp only [opt_true]); go_simp; refine hK _ _ ?_; clear hK K
            apply wpL_maybe be (by clear hS_; cases be <;> rfl) (.agg #[.int .i64 rad, .int .i64 bal, .int .i64 rst, .int .i64 gx, .int .i64 gy, .int .i64 drg, .int .i64 shf, .slice Atr tr.length ctr, .slice Aws ws.length cws, .slice Aars ars.length cars, .slice Aps ps.length cps, .slice Afs fs.length cfs, .slice Azs zs.length czs, .slice Ass ss.length css, .slice Alas las.length clas, .slice Ars rs.length crs, .slice Ads ds.length cds, .slice Alns lns.length clns])
            (case h => intro hc_; obtain rfl : be = true := hc_; (try simp only [opt_true]); exact load_tb _ _ 1 rfl w.heap.size (by first | rfl | (go_simp; done)) ⟨rad, bal, rst, gx, gy, drg, shf, tr, ws, ars, ps, fs, zs, ss, las, rs, ds, lns⟩ ⟨Atr, ctr, Aws, cws, Aars, cars, Aps, cps, Afs, cfs, Azs, czs, Ass, css, Alas, clas, Ars, crs, Ads, cds, Alns, clns⟩ _ (by have h := HT2.out.below hS_ HT2.out.lt; rw [HTC.out] at h; exact h))
            intro K hK; (try simp only [opt_true]); go_simp; refine hK _ _ ?_; clear hK K
            refine wpL_callm (S := Below wL9.heap.size wL9)  be (by clear hS_; cases be <;> rfl) (.bool ov) ?_ hS_ ?_
            · intro hc_; obtain rfl : be = true := hc_; intro N_ hN_; generalize hA_ : Act.mk _ _ = A_ at hN_ ⊢; (have v616_ := (congrArg (fun z_ : Act => z_.eval (.tmp 616)) hA_.symm).trans (evalL _ _ 616); simp only [getL64, getL8, getL1, getL0, opt_true, Bool.not_false] at v616_); clear hA_; have vc_ : ∀ v_, Act.eval A_ (.const v_) = v_ := (fun _ => rfl); have vf_ : ∀ f_, Act.eval A_ (.func f_) = .func (.func f_) #[] #[] := (fun _ => rfl); generalize Act.eval A_ = ev_ at vc_ vf_ v616_ ⊢; go_simp; go_at_call 33; refine (KO.out (of_decide_eq_true HHbe.out.symm) _ (HB2.out.trans (hS_.mono hzL9))).mono ?_; rintro e w9 ⟨rfl, hb9⟩; exact hN_ _ (hS_.trans (hb9.mono hS_.size))
            intro K hK w_ hS2_; go_simp; refine hK _ _ ?_; clear hK K hS_; have hS_ := hS2_; clear hS2_
            obtain ⟨d66_1, hd66_1⟩ : ∃ b_, b_ = (be && ov) := ⟨_, rfl⟩
            apply wpL_maybe true (by exact rfl) (.bool d66_1) (by intro _; rw [hd66_1]; cases be <;> (go_simp; try exact rfl))
            have Hd66_1 := hQ0 hd66_1; clear hd66_1
            intro K hK; (try simp only [opt_true]); go_simp; refine hK _ _ ?_; clear hK K
            refine wpList_nil ?_
            (try go_simp)
            have HB2x := hS_
            clear hS_
            have c1' := (HB2x.cell (p := ⟨cb, 1, none⟩) clt).trans c1
            have clt' := Nat.lt_of_lt_of_le clt HB2x.size
            clear c0 c1 cfz clt
            cases d66_1
            · obtain rfl : R = ε := by
               rw [HRf.out]
               have hd := Hd66_1.out
               rw [HHbe.out] at hd
               by_cases h : ε = 0 ∧ ov = true
               · rw [decide_eq_true h.1, h.2] at hd; cases hd
               · rw [if_neg h]
              go_wp2_with fail
              go_ret
              exact ⟨rfl, HB2.out.trans (HB2x.mono hzL9)⟩
            · obtain rfl : R = 11 := by
               rw [HRf.out]
               have hd := Hd66_1.out
               rw [HHbe.out] at hd
               have hd : (decide (ε = 0) && ov) = true := hd.symm
               rw [Bool.and_eq_true, decide_eq_true_eq] at hd
               rw [if_pos hd]
              go_wp2_with fail
              go_ret
              exact ⟨rfl, HB2.out.trans (HB2x.mono hzL9)⟩
end Go.Proofs.YtbpcjpiaimdpnaaGreatDoor
namespace Go.Proofs.YtbpcjpiaimdpnaaGreatDoor
open Go
structure KV where
  key : ByteArray
  vals : List Int
  at_ : Int
structure IV where
  word : ByteArray
  name : ByteArray
  keys : List KV
  at_ : Int
def tTable : ByteArray := ⟨#[116, 97, 98, 108, 101]⟩
def txtTab : List (ByteArray × ByteArray) := [
  (⟨#[116, 97, 98, 108, 101]⟩, ⟨#[114, 97, 100, 105, 117, 115, 32, 49, 32, 98, 97, 108, 108, 115, 32, 49, 32, 103, 114, 97, 118, 105, 116, 121, 32, 50, 32, 100, 114, 97, 103, 32, 50, 32, 114, 101, 115, 116, 32, 49, 32, 116, 114, 111, 117, 103, 104, 32, 49]⟩),
  (⟨#[119, 97, 108, 108]⟩, ⟨#[108, 101, 118, 101, 108, 32, 49, 32, 102, 114, 111, 109, 32, 50, 32, 116, 111, 32, 50, 32, 114, 101, 115, 116, 32, 49, 32, 103, 114, 105, 112, 32, 49, 32, 107, 105, 99, 107, 32, 49, 32, 109, 105, 110, 32, 49, 32, 99, 111, 105, 108, 32, 49, 32, 115, 119, 105, 116, 99, 104, 32, 49]⟩),
  (⟨#[103, 97, 116, 101]⟩, ⟨#[108, 101, 118, 101, 108, 32, 49, 32, 102, 114, 111, 109, 32, 50, 32, 116, 111, 32, 50, 32, 114, 101, 115, 116, 32, 49, 32, 103, 114, 105, 112, 32, 49, 32, 107, 105, 99, 107, 32, 49, 32, 109, 105, 110, 32, 49, 32, 99, 111, 105, 108, 32, 49, 32, 115, 119, 105, 116, 99, 104, 32, 49]⟩),
  (⟨#[116, 97, 114, 103, 101, 116]⟩, ⟨#[108, 101, 118, 101, 108, 32, 49, 32, 102, 114, 111, 109, 32, 50, 32, 116, 111, 32, 50, 32, 114, 101, 115, 116, 32, 49, 32, 103, 114, 105, 112, 32, 49, 32, 107, 105, 99, 107, 32, 49, 32, 109, 105, 110, 32, 49, 32, 99, 111, 105, 108, 32, 49, 32, 115, 119, 105, 116, 99, 104, 32, 49]⟩),
  (⟨#[115, 108, 105, 110, 103]⟩, ⟨#[108, 101, 118, 101, 108, 32, 49, 32, 102, 114, 111, 109, 32, 50, 32, 116, 111, 32, 50, 32, 114, 101, 115, 116, 32, 49, 32, 103, 114, 105, 112, 32, 49, 32, 107, 105, 99, 107, 32, 49, 32, 109, 105, 110, 32, 49, 32, 99, 111, 105, 108, 32, 49, 32, 115, 119, 105, 116, 99, 104, 32, 49]⟩),
  (⟨#[97, 114, 99]⟩, ⟨#[108, 101, 118, 101, 108, 32, 49, 32, 99, 101, 110, 116, 101, 114, 32, 50, 32, 102, 114, 111, 109, 32, 50, 32, 116, 111, 32, 50, 32, 114, 101, 115, 116, 32, 49, 32, 103, 114, 105, 112, 32, 49, 32, 109, 105, 110, 32, 49, 32, 115, 119, 105, 116, 99, 104, 32, 49]⟩),
  (⟨#[112, 111, 115, 116]⟩, ⟨#[108, 101, 118, 101, 108, 32, 49, 32, 99, 101, 110, 116, 101, 114, 32, 50, 32, 115, 105, 122, 101, 32, 49, 32, 114, 101, 115, 116, 32, 49, 32, 103, 114, 105, 112, 32, 49, 32, 107, 105, 99, 107, 32, 49, 32, 109, 105, 110, 32, 49, 32, 99, 111, 105, 108, 32, 49, 32, 115, 119, 105, 116, 99, 104, 32, 49]⟩),
  (⟨#[102, 108, 105, 112, 112, 101, 114]⟩, ⟨#[108, 101, 118, 101, 108, 32, 49, 32, 99, 101, 110, 116, 101, 114, 32, 50, 32, 108, 101, 110, 103, 116, 104, 32, 49, 32, 109, 105, 114, 114, 111, 114, 32, 48, 32, 114, 97, 110, 103, 101, 32, 50, 32, 117, 112, 32, 49, 32, 100, 111, 119, 110, 32, 49, 32, 109, 97, 120, 32, 49, 32, 114, 101, 115, 116, 32, 49, 32, 103, 114, 105, 112, 32, 49, 32, 99, 111, 105, 108, 32, 49, 32, 115, 119, 105, 116, 99, 104, 32, 49]⟩),
  (⟨#[122, 111, 110, 101]⟩, ⟨#[108, 101, 118, 101, 108, 32, 49, 32, 102, 114, 111, 109, 32, 50, 32, 116, 111, 32, 50, 32, 104, 97, 108, 102, 32, 50, 32, 99, 111, 105, 108, 32, 49]⟩),
  (⟨#[115, 97, 117, 99, 101, 114]⟩, ⟨#[108, 101, 118, 101, 108, 32, 49, 32, 99, 101, 110, 116, 101, 114, 32, 50, 32, 115, 105, 122, 101, 32, 49, 32, 108, 105, 109, 105, 116, 32, 49, 32, 111, 117, 116, 32, 50, 32, 99, 111, 105, 108, 32, 49, 32, 115, 119, 105, 116, 99, 104, 32, 49]⟩),
  (⟨#[108, 97, 110, 101]⟩, ⟨#[108, 101, 118, 101, 108, 32, 49, 32, 99, 101, 110, 116, 101, 114, 32, 50, 32, 115, 105, 122, 101, 32, 49, 32, 115, 119, 105, 116, 99, 104, 32, 49]⟩),
  (⟨#[114, 97, 109, 112]⟩, ⟨#[108, 101, 118, 101, 108, 32, 49, 32, 105, 110, 116, 111, 32, 49, 32, 99, 101, 110, 116, 101, 114, 32, 50, 32, 115, 105, 122, 101, 32, 49, 32, 100, 105, 114, 32, 50]⟩),
  (⟨#[100, 114, 97, 105, 110]⟩, ⟨#[108, 101, 118, 101, 108, 32, 49, 32, 99, 101, 110, 116, 101, 114, 32, 50, 32, 115, 105, 122, 101, 32, 49]⟩),
  (⟨#[108, 97, 117, 110, 99, 104, 101, 114]⟩, ⟨#[108, 101, 118, 101, 108, 32, 49, 32, 99, 101, 110, 116, 101, 114, 32, 50, 32, 111, 117, 116, 32, 50, 32, 99, 111, 105, 108, 32, 49]⟩)]
def keyTab : List (ByteArray × List (ByteArray × Nat)) := [
  (⟨#[116, 97, 98, 108, 101]⟩, [(⟨#[114, 97, 100, 105, 117, 115]⟩, 1), (⟨#[98, 97, 108, 108, 115]⟩, 1), (⟨#[103, 114, 97, 118, 105, 116, 121]⟩, 2), (⟨#[100, 114, 97, 103]⟩, 2), (⟨#[114, 101, 115, 116]⟩, 1), (⟨#[116, 114, 111, 117, 103, 104]⟩, 1)]),
  (⟨#[119, 97, 108, 108]⟩, [(⟨#[108, 101, 118, 101, 108]⟩, 1), (⟨#[102, 114, 111, 109]⟩, 2), (⟨#[116, 111]⟩, 2), (⟨#[114, 101, 115, 116]⟩, 1), (⟨#[103, 114, 105, 112]⟩, 1), (⟨#[107, 105, 99, 107]⟩, 1), (⟨#[109, 105, 110]⟩, 1), (⟨#[99, 111, 105, 108]⟩, 1), (⟨#[115, 119, 105, 116, 99, 104]⟩, 1)]),
  (⟨#[103, 97, 116, 101]⟩, [(⟨#[108, 101, 118, 101, 108]⟩, 1), (⟨#[102, 114, 111, 109]⟩, 2), (⟨#[116, 111]⟩, 2), (⟨#[114, 101, 115, 116]⟩, 1), (⟨#[103, 114, 105, 112]⟩, 1), (⟨#[107, 105, 99, 107]⟩, 1), (⟨#[109, 105, 110]⟩, 1), (⟨#[99, 111, 105, 108]⟩, 1), (⟨#[115, 119, 105, 116, 99, 104]⟩, 1)]),
  (⟨#[116, 97, 114, 103, 101, 116]⟩, [(⟨#[108, 101, 118, 101, 108]⟩, 1), (⟨#[102, 114, 111, 109]⟩, 2), (⟨#[116, 111]⟩, 2), (⟨#[114, 101, 115, 116]⟩, 1), (⟨#[103, 114, 105, 112]⟩, 1), (⟨#[107, 105, 99, 107]⟩, 1), (⟨#[109, 105, 110]⟩, 1), (⟨#[99, 111, 105, 108]⟩, 1), (⟨#[115, 119, 105, 116, 99, 104]⟩, 1)]),
  (⟨#[115, 108, 105, 110, 103]⟩, [(⟨#[108, 101, 118, 101, 108]⟩, 1), (⟨#[102, 114, 111, 109]⟩, 2), (⟨#[116, 111]⟩, 2), (⟨#[114, 101, 115, 116]⟩, 1), (⟨#[103, 114, 105, 112]⟩, 1), (⟨#[107, 105, 99, 107]⟩, 1), (⟨#[109, 105, 110]⟩, 1), (⟨#[99, 111, 105, 108]⟩, 1), (⟨#[115, 119, 105, 116, 99, 104]⟩, 1)]),
  (⟨#[97, 114, 99]⟩, [(⟨#[108, 101, 118, 101, 108]⟩, 1), (⟨#[99, 101, 110, 116, 101, 114]⟩, 2), (⟨#[102, 114, 111, 109]⟩, 2), (⟨#[116, 111]⟩, 2), (⟨#[114, 101, 115, 116]⟩, 1), (⟨#[103, 114, 105, 112]⟩, 1), (⟨#[109, 105, 110]⟩, 1), (⟨#[115, 119, 105, 116, 99, 104]⟩, 1)]),
  (⟨#[112, 111, 115, 116]⟩, [(⟨#[108, 101, 118, 101, 108]⟩, 1), (⟨#[99, 101, 110, 116, 101, 114]⟩, 2), (⟨#[115, 105, 122, 101]⟩, 1), (⟨#[114, 101, 115, 116]⟩, 1), (⟨#[103, 114, 105, 112]⟩, 1), (⟨#[107, 105, 99, 107]⟩, 1), (⟨#[109, 105, 110]⟩, 1), (⟨#[99, 111, 105, 108]⟩, 1), (⟨#[115, 119, 105, 116, 99, 104]⟩, 1)]),
  (⟨#[102, 108, 105, 112, 112, 101, 114]⟩, [(⟨#[108, 101, 118, 101, 108]⟩, 1), (⟨#[99, 101, 110, 116, 101, 114]⟩, 2), (⟨#[108, 101, 110, 103, 116, 104]⟩, 1), (⟨#[109, 105, 114, 114, 111, 114]⟩, 0), (⟨#[114, 97, 110, 103, 101]⟩, 2), (⟨#[117, 112]⟩, 1), (⟨#[100, 111, 119, 110]⟩, 1), (⟨#[109, 97, 120]⟩, 1), (⟨#[114, 101, 115, 116]⟩, 1), (⟨#[103, 114, 105, 112]⟩, 1), (⟨#[99, 111, 105, 108]⟩, 1), (⟨#[115, 119, 105, 116, 99, 104]⟩, 1)]),
  (⟨#[122, 111, 110, 101]⟩, [(⟨#[108, 101, 118, 101, 108]⟩, 1), (⟨#[102, 114, 111, 109]⟩, 2), (⟨#[116, 111]⟩, 2), (⟨#[104, 97, 108, 102]⟩, 2), (⟨#[99, 111, 105, 108]⟩, 1)]),
  (⟨#[115, 97, 117, 99, 101, 114]⟩, [(⟨#[108, 101, 118, 101, 108]⟩, 1), (⟨#[99, 101, 110, 116, 101, 114]⟩, 2), (⟨#[115, 105, 122, 101]⟩, 1), (⟨#[108, 105, 109, 105, 116]⟩, 1), (⟨#[111, 117, 116]⟩, 2), (⟨#[99, 111, 105, 108]⟩, 1), (⟨#[115, 119, 105, 116, 99, 104]⟩, 1)]),
  (⟨#[108, 97, 110, 101]⟩, [(⟨#[108, 101, 118, 101, 108]⟩, 1), (⟨#[99, 101, 110, 116, 101, 114]⟩, 2), (⟨#[115, 105, 122, 101]⟩, 1), (⟨#[115, 119, 105, 116, 99, 104]⟩, 1)]),
  (⟨#[114, 97, 109, 112]⟩, [(⟨#[108, 101, 118, 101, 108]⟩, 1), (⟨#[105, 110, 116, 111]⟩, 1), (⟨#[99, 101, 110, 116, 101, 114]⟩, 2), (⟨#[115, 105, 122, 101]⟩, 1), (⟨#[100, 105, 114]⟩, 2)]),
  (⟨#[100, 114, 97, 105, 110]⟩, [(⟨#[108, 101, 118, 101, 108]⟩, 1), (⟨#[99, 101, 110, 116, 101, 114]⟩, 2), (⟨#[115, 105, 122, 101]⟩, 1)]),
  (⟨#[108, 97, 117, 110, 99, 104, 101, 114]⟩, [(⟨#[108, 101, 118, 101, 108]⟩, 1), (⟨#[99, 101, 110, 116, 101, 114]⟩, 2), (⟨#[111, 117, 116]⟩, 2), (⟨#[99, 111, 105, 108]⟩, 1)])]
def txtOf (s : ByteArray) : ByteArray := match txtTab.find? (fun p => decide (p.1 = s)) with
  | some p => p.2
  | none => ⟨#[]⟩
def ksOf (s : ByteArray) : List (ByteArray × Nat) := match keyTab.find? (fun p => decide (p.1 = s)) with
  | some p => p.2
  | none => []
def isWord (s : ByteArray) : Bool := keyTab.any fun p => decide (p.1 = s)
def arL (l : List (ByteArray × Nat)) (key : ByteArray) : Int := match l.find? (fun p => decide (p.1 = key)) with
  | some p => p.2
  | none => -1
def arR (word key : ByteArray) : Int := arL (ksOf word) key
inductive PR (α : Type) where
  | err (e : Int) (at_ : Nat)
  | ok (x : α) (rest : List WV)
def atR (l : List WV) (e : Nat) : Nat := match l with
  | [] => e
  | x :: _ => x.at_
def isK (l : List WV) (k : Int) : Bool := match l with
  | [] => false
  | x :: _ => decide (x.kind = k)
def numsF (e : Nat) : Nat → List Int → List WV → PR (List Int)
  | 0, acc, l => .ok acc l
  | _ + 1, _, [] => .err 4 e
  | n + 1, acc, x :: l => if x.kind = 2 then numsF e n (acc ++ [x.num]) l else .err 4 x.at_
def hasK (l : List KV) (k : ByteArray) : Bool := l.any fun p => decide (p.key = k)
def keysF (e : Nat) (word : ByteArray) : Nat → List KV → List WV → PR (List KV)
  | 0, acc, l => .ok acc l
  | _ + 1, _, [] => .err 4 e
  | f + 1, acc, x :: l =>
    if x.kind = 3 then .ok acc l
    else if x.kind ≠ 1 then .err 4 x.at_
    else if arR word x.text < 0 then .err 4 x.at_
    else if hasK acc x.text = true then .err 7 x.at_
    else match numsF e (arR word x.text).toNat [] l with
      | .err a b => .err a b
      | .ok vs l' => keysF e word f (acc ++ [⟨x.text, vs, x.at_⟩]) l'
def restF (e : Nat) (word name : ByteArray) (a : Nat) (l : List WV) : PR IV := match keysF e word (l.length + 1) [] l with
  | .err c b => .err c b
  | .ok ks l' => .ok ⟨word, name, ks, a⟩ l'
def itemF (e : Nat) : List WV → PR IV
  | [] => .err 4 e
  | x :: l =>
    if x.kind ≠ 1 then .err 4 x.at_
    else if isWord x.text = false then .err 4 x.at_
    else if x.text = tTable then restF e x.text ⟨#[]⟩ x.at_ l
    else match l with
      | [] => .err 4 e
      | y :: l' => if y.kind ≠ 1 then .err 4 y.at_ else restF e x.text y.text x.at_ l'
def parseF (e : Nat) : Nat → List IV → List WV → List IV × Int × Nat
  | 0, acc, _ => (acc, 0, 0)
  | _ + 1, acc, [] => (acc, 0, 0)
  | f + 1, acc, x :: l =>
    if acc.length = 400 then ([], 9, x.at_)
    else match itemF e (x :: l) with
      | .err a b => ([], a, b)
      | .ok y l' => parseF e f (acc ++ [y]) l'
def parseR (s : ByteArray) : List IV × Int × Nat :=
  if (scanR s).2.1 ≠ 0 then ([], (scanR s).2.1, (scanR s).2.2) else parseF s.size ((scanR s).1.length + 1) [] (scanR s).1
def getR (l : List KV) (k : ByteArray) : Option (List Int) := (l.find? fun p => decide (p.key = k)).map (·.vals)
theorem hasK_get {l : List KV} {k : ByteArray} : hasK l k = (getR l k).isSome := by
 unfold hasK getR
 rw [Option.isSome_map]
 induction l with
 | nil => rfl
 | cons a l ih =>
  simp only [List.any_cons, List.find?_cons]
  cases h : decide (a.key = k)
  · simpa using ih
  · rfl
theorem numsF_len {e : Nat} : ∀ (n : Nat) (acc : List Int) (l : List WV) {x : List Int} {r : List WV}, numsF e n acc l = .ok x r → r.length + n = l.length ∧ x.length = acc.length + n
 | 0, acc, l, x, r, h => by simp only [numsF, PR.ok.injEq] at h; obtain ⟨rfl, rfl⟩ := h; simp
 | n + 1, acc, [], x, r, h => by simp [numsF] at h
 | n + 1, acc, y :: l, x, r, h => by
  simp only [numsF] at h
  split at h
  · have := numsF_len n _ l h
    simp only [List.length_append, List.length_cons, List.length_nil] at *
    omega
  · cases h
theorem keysF_len {e : Nat} {word : ByteArray} : ∀ (f : Nat) (acc : List KV) (l : List WV) {x : List KV} {r : List WV}, l.length < f → keysF e word f acc l = .ok x r → r.length < l.length ∧ x.length ≤ acc.length + l.length
 | 0, acc, l, x, r, hf, h => by omega
 | f + 1, acc, [], x, r, hf, h => by simp [keysF] at h
 | f + 1, acc, y :: l, x, r, hf, h => by
  simp only [keysF] at h
  split at h
  · simp only [PR.ok.injEq] at h; obtain ⟨rfl, rfl⟩ := h; simp
  · split at h
    · cases h
    · split at h
      · cases h
      · split at h
        · cases h
        · cases hn : numsF e (arR word y.text).toNat [] l with
          | err a b => simp only [hn] at h; cases h
          | ok vs l' =>
           simp only [hn] at h
           have h1 := numsF_len _ _ _ hn
           simp only [List.length_cons] at hf
           have h2 := keysF_len f _ l' (by omega) h
           simp only [List.length_append, List.length_cons, List.length_nil] at *
           omega
theorem restF_len {e a : Nat} {word name : ByteArray} {l : List WV} {x : IV} {r : List WV} (h : restF e word name a l = .ok x r) : r.length < l.length ∧ x.keys.length ≤ l.length := by
 unfold restF at h
 cases hk : keysF e word (l.length + 1) [] l with
 | err c b => simp only [hk] at h; cases h
 | ok ks l' =>
  simp only [hk, PR.ok.injEq] at h
  obtain ⟨rfl, rfl⟩ := h
  have := keysF_len _ _ _ (by omega) hk
  simpa using this
theorem itemF_len {e : Nat} {l : List WV} {x : IV} {r : List WV} (h : itemF e l = .ok x r) : r.length < l.length ∧ x.keys.length ≤ l.length := by
 cases l with
 | nil => cases h
 | cons y l =>
  simp only [itemF] at h
  split at h
  · cases h
  · split at h
    · cases h
    · split at h
      · have := restF_len h; simp only [List.length_cons]; omega
      · cases l with
        | nil => cases h
        | cons z l =>
         simp only at h
         split at h
         · cases h
         · have := restF_len h; simp only [List.length_cons]; omega
end Go.Proofs.YtbpcjpiaimdpnaaGreatDoor
namespace Go.Proofs.YtbpcjpiaimdpnaaGreatDoor
open Go.RowKit
set_option linter.unusedVariables false
attribute [local go_sem] cOf_get
def cellsOfW (x : WV) : List Value := [.int .i64 x.kind, .string x.text, .int .i64 x.num, .int .i64 x.at_]
def flatW (l : List WV) : List Value := l.flatMap cellsOfW
theorem flatW_snoc (l : List WV) (x : WV) : flatW (l ++ [x]) = flatW l ++ cellsOfW x := by simp [flatW]
theorem own_below {w w1 : World} {base B : Nat} {e : TypeId} {size n : Nat} {v : Value} {xs : List Value} (h : w.ownsRow base e size v n xs) (hb : Below B w w1) (hB : w.heap.size ≤ B) : w1.ownsRow base e size v n xs := by
 obtain ⟨h1, h2⟩ := h
 refine ⟨h1, ?_⟩
 rcases h2 with h2 | ⟨g, cap, cur, hv, hg, hh, r⟩
 · exact .inl h2
 · have hlt : g < w.heap.size := by
    rcases Nat.lt_or_ge g w.heap.size with h | h
    · exact h
    · rw [Array.getElem?_eq_none h] at hh; cases hh
   exact .inr ⟨g, cap, cur, hv, hg, by rw [hb.block g (by omega)]; exact hh, r⟩
theorem cells_new {W : World} (cs : List Value) (E : TypeId) (b : Nat) (hb : b = W.heap.size) : ∀ (j : Nat) (u : Value), cs[j]? = some u → (W.alloc (.cells cs.toArray E)).cell? ((⟨b, 0, none⟩ : Addr).add j) = some u := by
 intro j u hu
 subst hb
 have : (⟨W.heap.size, 0, none⟩ : Addr).add j = ⟨W.heap.size, j, none⟩ := by unfold Addr.add; split <;> simp_all
 rw [this, World.cell?_alloc_new]
 simpa using hu
theorem own_fresh {w : World} {base : Nat} {e : TypeId} {size n : Nat} {v : Value} {xs : List Value} (h : w.ownsRow base e size v n xs) : ∀ k, v.ownBlock = some k → base ≤ k := fun k hk => (h.lt k hk).1
theorem wordInfo : (Tryz.prog.info? 239).map (fun i => (i.zero, i.size, i.bytes)) = some (some (.agg #[.int .i64 0, .string ⟨#[]⟩, .int .i64 0, .int .i64 0]), 4, 40) := by kernel_rfl
theorem scan_len (s : ByteArray) : ∀ f i acc, i ≤ s.size → acc.length ≤ i → (scanF s f i acc).1.length ≤ s.size
 | 0, i, acc, hi, h => by simp only [scanF]; omega
 | f + 1, i, acc, hi, h => by
  unfold scanF
  by_cases hlt : i < s.size
  · rw [if_pos hlt]
    by_cases h1 : cOf s i = 32 ∨ cOf s i = 9 ∨ cOf s i = 10
    · rw [if_pos h1]; exact scan_len s f _ _ (by omega) (by omega)
    · rw [if_neg h1]
      by_cases h2 : cOf s i = 35
      · rw [if_pos h2]; exact scan_len s f _ _ (run_le _ _ (by omega)) (by have := run_ge notLf s i; omega)
      · rw [if_neg h2]
        cases hw : wordR s i with
        | err e a => simp
        | ok k t n nx =>
         have := wordR_ok hlt hw
         exact scan_len s f _ _ this.2.1 (by simp; omega)
  · rw [if_neg hlt]; simp only; omega
theorem scanR_len (s : ByteArray) : (scanR s).1.length ≤ 20000 := by
 unfold scanR
 split
 · simp
 · have := scan_len s (s.size + 1) 0 [] (by omega) (by simp); omega
def WordsOut (E : TypeId) (R : List WV × Int × Nat) (B : Nat) (w : World) (e : Ending) (w' : World) : Prop :=
  Below B w w' ∧ ∃ v, e = .returned (.tuple #[v, .int .i64 R.2.1, .int .i64 R.2.2]) ∧ w'.ownsRow B E 4 v R.1.length (flatW R.1)
set_option maxRecDepth 100000 in
set_option maxHeartbeats 1000000 in
theorem words_any (s : ByteArray) (w : World) (hm : s.size ≤ maxLen) :
  Calls Tryz.prog 90 #[.string s] w (WordsOut 239 (scanR s) w.heap.size w) := by
 unfold maxLen at hm
 by_cases hs : 20000 < s.size
 · have HR : Hid (scanR s = ([], 2, 0)) := by unfold scanR; rw [if_pos hs]; rfl
   go_enter Tryz.func90, Tryz.ntmps90; (try simp only [List.append_eq, List.cons_append, List.nil_append])
   go_wp2_with fail
   go_ret3
   refine ⟨Below.refl _ _, .slice none 0 0, ?_, ?_⟩
   · rw [HR.out]; rfl
   · rw [HR.out]; exact World.ownsRow_nil _ _ _ _
 · obtain ⟨i0, hi0, hy0, hy1, hy2⟩ := info_parts wordInfo
   obtain ⟨R, hR⟩ : ∃ R, R = scanR s := ⟨_, rfl⟩
   have HF : Hid (scanF s (s.size + 1) 0 [] = R) := by rw [hR]; unfold scanR; rw [if_neg hs]; rfl
   have hRl : R.1.length ≤ 20000 := by rw [hR]; exact scanR_len s
   rw [← hR]
   clear hR
   have hs' : s.size ≤ 20000 := by omega
   clear hs
   go_enter Tryz.func90, Tryz.ntmps90; (try simp only [List.append_eq, List.cons_append, List.nil_append])
   go_wp2_with fail
   go_loopw [5, 6] (fun v t wr => ∃ (f k : Nat) (acc : List WV), k ≤ s.size ∧ acc.length ≤ k ∧ t = .int .i64 k ∧ wr.ownsRow w.heap.size 239 4 v acc.length (flatW acc) ∧ Below w.heap.size w wr ∧ Hid (scanF s f k acc = R) ∧ s.size - k < f) (fun _ t _ => s.size - (intOf t).toNat)
   case atStart => exact ⟨s.size + 1, 0, [], by omega, Nat.le_refl _, rfl, World.ownsRow_nil _ _ _ _, Below.refl _ _, HF, by omega⟩
   case round =>
    obtain ⟨f, k, acc, hk, hal, rfl, hown, hbel, HF', hf⟩ := hrel
    have hcb := cOf_bd s k
    obtain ⟨hcb1, hcb2⟩ := hcb
    by_cases hlt : k < s.size
    · by_cases h1 : cOf s k = 32 ∨ cOf s k = 9 ∨ cOf s k = 10
      · obtain ⟨f', HF', hf'⟩ := scan_blank HF'.out hlt hf h1
        replace HF' := hQ0 HF'
        clear HF hf
        rcases h1 with h1 | h1 | h1
        · have b1 : (cOf s k == 32) = true := by simp [h1]
          clear h1
          go_wp2_with fail
          go_roundw
          case rel => exact ⟨f', k + 1, acc, by omega, by omega, by go_num, hown, hbel, HF', hf'⟩
          case measure => simp [intOf]; omega
        · have b1 : (cOf s k == 32) = false := by simp [h1]
          have b2 : (cOf s k == 9) = true := by simp [h1]
          clear h1
          go_wp2_with fail
          go_roundw
          case rel => exact ⟨f', k + 1, acc, by omega, by omega, by go_num, hown, hbel, HF', hf'⟩
          case measure => simp [intOf]; omega
        · have b1 : (cOf s k == 32) = false := by simp [h1]
          have b2 : (cOf s k == 9) = false := by simp [h1]
          have b3 : (cOf s k == 10) = true := by simp [h1]
          clear h1
          go_wp2_with fail
          go_roundw
          case rel => exact ⟨f', k + 1, acc, by omega, by omega, by go_num, hown, hbel, HF', hf'⟩
          case measure => simp [intOf]; omega
      · have b1 : (cOf s k == 32) = false := by simp; omega
        have b2 : (cOf s k == 9) = false := by simp; omega
        have b3 : (cOf s k == 10) = false := by simp; omega
        by_cases h2 : cOf s k = 35
        · obtain ⟨f', HF'', hf'⟩ := scan_note HF'.out hlt hf h2
          have b4 : (cOf s k == 35) = true := by simp [h2]
          have b5 : (cOf s k != 10) = true := by simp [h2]
          have hge : k + 1 ≤ run notLf s k := by rw [← run_step hlt (p := notLf) (by simp [notLf, h2])]; exact run_ge _ _ _
          have hle := run_le notLf s (i := k) (by omega)
          obtain ⟨E, hE⟩ : ∃ E, E = run notLf s k := ⟨_, rfl⟩
          rw [← hE] at hge hle hf' HF''
          have HE := hQ0 hE
          replace HF' := hQ0 HF''
          clear hE h2 h1 HF'' hf HF
          go_wp2_with fail
          go_loop [6] (fun t => ∃ j : Nat, k ≤ j ∧ j ≤ s.size ∧ t = .int .i64 j ∧ Hid (run notLf s j = E)) (fun t => s.size - (intOf t).toNat)
          case atStart => exact ⟨k, Nat.le_refl _, by omega, rfl, HE.out.symm⟩
          case round =>
           obtain ⟨j, hj0, hj, rfl, HJ⟩ := hrel
           have hcj := cOf_bd s j
           obtain ⟨hcj1, hcj2⟩ := hcj
           by_cases hltj : j < s.size
           · cases hp : notLf (cOf s j)
             · have hEj : j = E := by rw [← HJ.out]; exact (run_stop (fun h => by rw [hp] at h; exact absurd h.2 (by simp))).symm
               have hbj : (cOf s j != 10) = false := by simpa [notLf] using hp
               clear hp
               subst hEj
               go_wp2_with fail
               go_roundw
               case rel => exact ⟨f', j, acc, by omega, by omega, rfl, hown, hbel, HF', by omega⟩
               case measure => simp [intOf]; omega
             · have hbj : (cOf s j != 10) = true := by simpa [notLf] using hp
               have hst := hQ0 ((run_step hltj hp).trans HJ.out)
               clear hp
               go_wp2_with fail
               go_round
               case rel => exact ⟨j + 1, by omega, by omega, by go_num, hst.out⟩
               case measure => simp [intOf]; omega
           · have hEj : j = E := by rw [← HJ.out]; exact (run_stop (fun h => hltj h.1)).symm
             subst hEj
             go_wp2_with fail
             go_roundw
             case rel => exact ⟨f', j, acc, by omega, by omega, rfl, hown, hbel, HF', by omega⟩
             case measure => simp [intOf]; omega
        · have b4 : (cOf s k == 35) = false := by simp [h2]
          have H1 := hQ0 h1
          have H2 := hQ0 h2
          clear h1 h2 HF
          go_wp2_with fail
          (go_at_call 153; refine (word_any _ _ _ hs' hlt).mono ?_; rintro e w1 ⟨hb1, hc1⟩)
          have hz1 := hb1.size
          have hown1 := own_below hown hb1 (Nat.le_refl _)
          have hbel1 := hbel.trans (hb1.mono hbel.size)
          have hbz := hbel1.size
          clear hown hb1 hbel
          rcases hc1 with ⟨er, pl, hw, rfl⟩ | ⟨kk, tt, nn, nx, hw, rfl⟩
          · have hRe := scan_err HF'.out hlt hf H1.out H2.out hw
            have HRe := hQ0 hRe
            have her : (er != 0) = true := by
             have := wordR_err hw
             simp; omega
            clear hRe hw HF' hf
            go_wp2_with fail
            go_ret3
            refine ⟨?_, .slice none 0 0, ?_, ?_⟩
            · ((with_reducible (repeat (first | exact bR _ _ | apply bS | apply bA | apply bD | refine bT ?_ (by assumption) ?_ | refine bO (by assumption) ?_ ?_))) <;> (first | omega | (simp <;> omega)))
            · rw [HRe.out]; rfl
            · rw [HRe.out]; exact World.ownsRow_nil _ _ _ _
          · have hok := wordR_ok hlt hw
            obtain ⟨f', HF'', hf'⟩ := scan_word HF'.out hlt hf H1.out H2.out hw
            replace HF'' := hQ0 HF''
            have e0 : ((0 : Int) != 0) = false := rfl
            have hts := hQ0 hok.2.2.1
            have htz : tt.size ≤ 20000 := by omega
            obtain ⟨hx1, hx2, -⟩ := hok
            clear hw HF' hf
            go_wp2_with (at_builtin; go_must (refine wpList_append_own _ rfl _ _ 151 rfl w.heap.size 239 i0 _ 4 40 Tryz.underlying151 hi0 hy0 hy1 hy2 rfl (by decide) _ _ _ rfl ((hown1.alloc _).alloc _) ⟨w1.heap.size + 1, 0, none⟩ 1 1 [.int .i64 kk, .string tt, .int .i64 nn, .int .i64 k] rfl rfl ?c1 ?c2 ?c3 ?c4 ?c5 ?_))
            case c1 => exact cells_new _ _ _ (by simp)
            case c2 => intro u hu; simp at hu; rcases hu with rfl | rfl | rfl | rfl <;> rfl
            case c3 => simp [maxLen]; omega
            case c4 => omega
            case c5 => simp; omega
            intro v2 w2 hown2 hg2 _
            have hne : some w1.heap.size ≠ u5.ownBlock := fun e => by have := (hown1.lt _ e.symm).2; omega
            have hblk := hg2.block w1.heap.size (by simp; omega) hne
            have hc8 : w2.cell? ⟨w1.heap.size, 1, none⟩ = some (.string tt) := by rw [World.cell?_of_block hblk]; go_simp
            have hbel2 : Below w.heap.size w w2 := ((hbel1.alloc (by omega) _).alloc (by simp; omega) _).grown hg2 (by simp; omega) (own_fresh hown1)
            clear hblk hne hg2 hown1 hbel1
            go_wp2_with fail
            go_roundw
            case rel => exact ⟨f', nx, acc ++ [⟨kk, tt, nn, k⟩], by omega, by simp; omega, by first | rfl | (congr 1; have := hts.out; omega), by rw [flatW_snoc, List.length_append]; exact hown2, hbel2, HF'', by omega⟩
            case measure => simp [intOf]; have := hts.out; omega
    · have hRe := hQ0 ((scanF_end hlt).symm.trans HF'.out)
      obtain rfl : k = s.size := by omega
      clear HF'
      go_wp2_with fail
      go_ret3
      refine ⟨hbel, u5, ?_, ?_⟩
      · rw [← hRe.out]; rfl
      · rw [← hRe.out]; exact hown
end Go.Proofs.YtbpcjpiaimdpnaaGreatDoor
namespace Go.Proofs.YtbpcjpiaimdpnaaGreatDoor
open Go Go.ChangeShapes Go.WideShapes Go.ChangeAt Go.RowKit
section
variable {H : Type} {enc : TypeId × Value → H} {P : Program} {w : World}
theorem wf_bd {z : Int} (h : (Lit.int .i64 z).wf = true) : -9223372036854775808 ≤ z ∧ z ≤ 9223372036854775807 := by
 simp [Lit.wf, IntKind.min, IntKind.max, IntKind.signed, IntKind.bits] at h
 omega
end
end Go.Proofs.YtbpcjpiaimdpnaaGreatDoor
namespace Go.Proofs.YtbpcjpiaimdpnaaGreatDoor
open Go Go.RowKit
set_option linter.unusedVariables false
structure But (rb : Nat) (w w' : World) : Prop where
  os : w'.os = w.os
  tape : w'.tape = w.tape
  output : w'.output = w.output
  size : w.heap.size ≤ w'.heap.size
  block : ∀ b, b < w.heap.size → b ≠ rb → w'.heap[b]? = w.heap[b]?
theorem But.refl (rb : Nat) (w : World) : But rb w w := ⟨rfl, rfl, rfl, Nat.le_refl _, fun _ _ _ => rfl⟩
theorem But.trans {rb : Nat} {a b c : World} (h : But rb a b) (g : But rb b c) : But rb a c := ⟨g.os.trans h.os, g.tape.trans h.tape, g.output.trans h.output, Nat.le_trans h.size g.size, fun k h1 h2 => (g.block k (Nat.lt_of_lt_of_le h1 h.size) h2).trans (h.block k h1 h2)⟩
theorem But.below {rb B : Nat} {a b c : World} (h : But rb a b) (g : Below B b c) (hB : a.heap.size ≤ B) : But rb a c := ⟨g.os.trans h.os, g.tape.trans h.tape, g.output.trans h.output, Nat.le_trans h.size g.size, fun k h1 h2 => (g.block k (Nat.lt_of_lt_of_le h1 hB)).trans (h.block k h1 h2)⟩
theorem But.alloc {rb : Nat} {a b : World} (h : But rb a b) (o : Obj) : But rb a (b.alloc o) := ⟨h.os, h.tape, h.output, by simp; exact Nat.le_succ_of_le h.size, fun k h1 h2 => (heap_alloc_old b o (Nat.lt_of_lt_of_le h1 h.size)).trans (h.block k h1 h2)⟩
theorem But.set {rb : Nat} {a b : World} (h : But rb a b) {p : Addr} (u : Value) (hp : p.block = rb ∨ a.heap.size ≤ p.block) : But rb a (b.setCell p u) := ⟨h.os, h.tape, h.output, by simpa using h.size, fun k h1 h2 => by
 rw [Below.heap_setCell _ _ _ _ (by rcases hp with e | e <;> omega)]; exact h.block k h1 h2⟩
theorem But.grown {rb : Nat} {a b c : World} {row : Option Nat} (h : But rb a b) (g : b.grownBy c row) (hr : ∀ k, row = some k → a.heap.size ≤ k) : But rb a c :=
 ⟨g.os.trans h.os, g.tape.trans h.tape, g.output.trans h.output, Nat.le_trans h.size g.size, fun k h1 h2 => (g.block k (Nat.lt_of_lt_of_le h1 h.size) (fun e => by have := hr k e.symm; omega)).trans (h.block k h1 h2)⟩
theorem But.cell {rb : Nat} {w w' : World} (h : But rb w w') {p : Addr} (hp : p.block < w.heap.size) (hn : p.block ≠ rb) : w'.cell? p = w.cell? p := World.cell?_of_block (h.block p.block hp hn)
theorem But.frozen {rb : Nat} {w w' : World} (h : But rb w w') {p : Addr} (hp : p.block < w.heap.size) (hn : p.block ≠ rb) : w'.frozen? p = w.frozen? p := World.frozen?_of_block (h.block p.block hp hn)
theorem But.toBelow {rb B : Nat} {w w' : World} (h : But rb w w') (hB : B ≤ rb) (hw : B ≤ w.heap.size) : Below B w w' := ⟨h.os, h.tape, h.output, h.size, fun b hb => h.block b (by omega) (by omega)⟩
theorem But.of_below {rb B : Nat} {w w' : World} (h : Below B w w') (hB : w.heap.size ≤ B) : But rb w w' := (But.refl rb w).below h hB
theorem ownsRow_block {w w' : World} {base size n : Nat} {e : TypeId} {v : Value} {xs : List Value} (h : w.ownsRow base e size v n xs) (hs : ∀ b, v.ownBlock = some b → w'.heap[b]? = w.heap[b]?) : w'.ownsRow base e size v n xs := by
 refine ⟨h.1, ?_⟩
 rcases h.2 with hn | ⟨g, cap, cur, rfl, hb, hgg, rest⟩
 · exact .inl hn
 · exact .inr ⟨g, cap, cur, rfl, hb, by rw [hs g rfl]; exact hgg, rest⟩
theorem own_but {w w' : World} {rb base size n : Nat} {e : TypeId} {v : Value} {xs : List Value} (h : w.ownsRow base e size v n xs) (hb : But rb w w') (hr : rb < base) : w'.ownsRow base e size v n xs :=
 ownsRow_block h fun b hv => hb.block b (h.lt b hv).2 (by have := (h.lt b hv).1; omega)
theorem ownr_weaker {w : World} {base base' size n : Nat} {e : TypeId} {v : Value} {xs : List Value} (h : w.ownsRow base e size v n xs) (hb : base' ≤ base) : w.ownsRow base' e size v n xs := by
 obtain ⟨h1, h2⟩ := h
 rcases h2 with h2 | ⟨g, cap, cur, hv, hg, r⟩
 · exact ⟨h1, .inl h2⟩
 · exact ⟨h1, .inr ⟨g, cap, cur, hv, Nat.le_trans hb hg, r⟩⟩
theorem rowsApart {w : World} {b1 b2 z1 z2 n1 n2 : Nat} {e1 e2 : TypeId} {v1 v2 : Value} {x1 x2 : List Value} (h1 : w.ownsRow b1 e1 z1 v1 n1 x1) (h2 : w.ownsRow b2 e2 z2 v2 n2 x2) (hne : e1 ≠ e2) : v1.ownBlock = none ∨ v1.ownBlock ≠ v2.ownBlock := by
 rcases h1.2 with ⟨rfl, _⟩ | ⟨g, cap, cur, rfl, _, hh, _⟩
 · exact .inl rfl
 · right
   rcases h2.2 with ⟨rfl, _⟩ | ⟨g', cap', cur', rfl, _, hh', _⟩
   · simp [Value.ownBlock]
   · intro e
     simp only [Value.ownBlock, Option.some.injEq] at e
     subst e
     rw [hh] at hh'
     simp only [Option.some.injEq, Obj.cells.injEq] at hh'
     exact hne hh'.2.1
theorem own_kept {w w' : World} {b1 z1 n1 b2 z2 n2 : Nat} {e1 e2 : TypeId} {v1 v2 : Value} {x1 x2 : List Value} (h1 : w.ownsRow b1 e1 z1 v1 n1 x1) (h2 : w.ownsRow b2 e2 z2 v2 n2 x2) (hne : e1 ≠ e2) (hg : w.grownBy w' v2.ownBlock) : w'.ownsRow b1 e1 z1 v1 n1 x1 :=
 ownsRow_block h1 fun b hv => hg.block b (h1.lt b hv).2 (by
  rcases rowsApart h1 h2 hne with h | h
  · rw [hv] at h; cases h
  · rw [← hv]; exact h)
theorem own_cells {w : World} {base size n : Nat} {e : TypeId} {A : Option Addr} {c : Nat} {xs : List Value} (h : w.ownsRow base e size (.slice A n c) n xs) (hn : 0 < n) : ∃ g, A = some ⟨g, 0, none⟩ ∧ g < w.heap.size ∧ base ≤ g ∧ n ≤ c ∧ ∀ j u, xs[j]? = some u → w.cell? ⟨g, j, none⟩ = some u := by
 rcases h.2 with ⟨hv, h0⟩ | ⟨g, cap, cur, hv, hb, hh, hc, hm, hs, ht⟩
 · omega
 · simp only [Value.slice.injEq, true_and] at hv
   obtain ⟨rfl, rfl⟩ := hv
   refine ⟨g, rfl, (Array.getElem?_eq_some_iff.1 hh).1, hb, hc, fun j u hu => ?_⟩
   have hj := (List.getElem?_eq_some_iff.1 hu).1
   rw [h.1] at hj
   have := World.ownsRow.cellAt h j hj
   rw [this]; exact hu
theorem own_sl {w : World} {base size n : Nat} {e : TypeId} {v : Value} {xs : List Value} (h : w.ownsRow base e size v n xs) : ∃ A c, v = .slice A n c := by
 rcases h.2 with ⟨rfl, rfl⟩ | ⟨g, cap, cur, rfl, _⟩
 · exact ⟨_, _, rfl⟩
 · exact ⟨_, _, rfl⟩
theorem wpList_append_one {w : World} {ops : Array Oper} {rest : List Oper} {o : Oper} {a : Act} {Q : Exit → Act → World → Prop} (hgd : o.guard = none) (s x : Operand) (t e : TypeId) (z : Value) (size bytes : Nat)
  (ho : o.op = .call { callee := .builtin .append, args := #[s, x], argTypes := #[t, t] })
  (ht : Tryz.prog.underlying t = some (.slice e)) (hinfo : (Tryz.prog.info? e).map (fun i => (i.zero, i.size, i.bytes)) = some (some z, size, bytes)) (hzs : z.cells.size = size) (hsz : 0 < size) (hby : bytes ≤ 1000)
  (base : Nat) (v : Value) (n : Nat) (xs cs : List Value) (hs : a.eval s = v) (hown : w.ownsRow base e size v n xs)
  (g c : Nat) (hx : a.eval x = .slice (some ⟨g, 0, none⟩) 1 c) (hl : cs.length = size) (hcell : ∀ j u, cs[j]? = some u → w.cell? ⟨g, j, none⟩ = some u) (h1 : ∀ u ∈ cs, u.oneCell' = true) (h63 : n ≤ 1000000) (hbase : base ≤ w.heap.size)
  (h : ∀ v' w', w'.ownsRow base e size v' (n + 1) (xs ++ cs) → w.grownBy w' v.ownBlock → (v'.ownBlock = v.ownBlock ∨ v'.ownBlock = some w.heap.size) → wpList Tryz.prog ops Q rest (a.put o.dst v') w') : wpList Tryz.prog ops Q (o :: rest) a w := by
 refine wpList_plain hgd fun K hK => ?_
 obtain ⟨i, hi, hz, hsi, hb⟩ := info_parts hinfo
 have hbytes : (n + 1) * bytes ≤ 140737488355328 := by
  have := Nat.mul_le_mul (show n + 1 ≤ 1000001 by omega) hby
  omega
 obtain ⟨v', w', hrun, h2, h3, _, h5⟩ := run_append_own_at (P := Tryz.prog) w base t o.type e i _ size bytes ht hi hz hsi hb hzs hsz v n xs hown ⟨g, 0, none⟩ 1 c cs (by rw [hl, Nat.one_mul]) (fun j u hu => by
   rw [show (⟨g, 0, none⟩ : Addr).add j = ⟨g, j, none⟩ by unfold Addr.add; split <;> simp_all]
   exact hcell j u hu) h1 (by unfold maxLen; omega) hbytes hbase
 unfold Oper.wp execOp
 simp only [ho, resolve, invoke, builtin, Sem.run_bind, Sem.run_pure, Result.andThen_ok, List.map_toArray, List.map_cons, List.map_nil, hs, hx, hrun]
 exact hK _ _ (h v' w' h2 h3 h5)
theorem flat_get {α : Type} (f : α → List Value) (z : Nat) (hf : ∀ x, (f x).length = z) : ∀ (l : List α) (k j : Nat) (x : α) (u : Value), l[k]? = some x → (f x)[j]? = some u → (l.flatMap f)[k * z + j]? = some u
 | [], k, j, x, u, h, _ => by simp at h
 | y :: l, 0, j, x, u, h, hu => by
  simp only [List.getElem?_cons_zero, Option.some.injEq] at h
  subst h
  have hj := (List.getElem?_eq_some_iff.1 hu).1
  rw [List.flatMap_cons, Nat.zero_mul, Nat.zero_add, List.getElem?_append_left hj]; exact hu
 | y :: l, k + 1, j, x, u, h, hu => by
  simp only [List.getElem?_cons_succ] at h
  rw [List.flatMap_cons, List.getElem?_append_right (by rw [hf, Nat.succ_mul]; omega), hf, show (k + 1) * z + j - z = k * z + j by rw [Nat.succ_mul]; omega]
  exact flat_get f z hf l k j x u h hu
theorem flat_len {α : Type} (f : α → List Value) (z : Nat) (hf : ∀ x, (f x).length = z) (l : List α) : (l.flatMap f).length = l.length * z := by
 induction l with
 | nil => simp
 | cons x l ih => rw [List.flatMap_cons, List.length_append, ih, hf, List.length_cons, Nat.succ_mul]; omega
def IAt (w : World) (A : Option Addr) (l : List Int) : Prop := ∀ k x, l[k]? = some x → ∃ g o, A = some ⟨g, o, none⟩ ∧ g < w.heap.size ∧ w.cell? ⟨g, o + k, none⟩ = some (.int .i64 x)
theorem IAt.below {w w1 : World} {A : Option Addr} {l : List Int} {B : Nat} (h : IAt w A l) (hb : Below B w w1) (hB : w.heap.size ≤ B) : IAt w1 A l := fun k x hx => by
 obtain ⟨g, o, hA, hg, h0⟩ := h k x hx
 exact ⟨g, o, hA, Nat.lt_of_lt_of_le hg hb.size, (hb.cell (p := ⟨g, o + k, none⟩) (Nat.lt_of_lt_of_le hg hB)).trans h0⟩
def OwnI (w : World) (base : Nat) (A : Option Addr) (c : Nat) (l : List Int) : Prop := w.ownsRow base 3 1 (.slice A l.length c) l.length (l.map (Value.int .i64))
theorem OwnI.iat {w : World} {base : Nat} {A : Option Addr} {c : Nat} {l : List Int} (h : OwnI w base A c l) : IAt w A l := fun k x hx => by
 have hk := (List.getElem?_eq_some_iff.1 hx).1
 obtain ⟨g, hA, hg, _, _, hc⟩ := own_cells h (by omega)
 exact ⟨g, 0, hA, hg, by rw [Nat.zero_add]; exact hc k _ (by rw [List.getElem?_map, hx]; rfl)⟩
def WvAt (w : World) (N : Nat) (A : Option Addr) (l : List WV) : Prop := ∀ k x, l[k]? = some x → ∃ g o, A = some ⟨g, o, none⟩ ∧ g < N ∧ ∀ j u, (cellsOfW x)[j]? = some u → w.cell? ⟨g, o + (k * 4 + j), none⟩ = some u
theorem WvAt.but {w w' : World} {N rb : Nat} {A : Option Addr} {l : List WV} (h : WvAt w N A l) (hb : But rb w w') (hN : N ≤ w.heap.size) (hr : N ≤ rb) : WvAt w' N A l := fun k x hx => by
 obtain ⟨g, o, hA, hg, hc⟩ := h k x hx
 exact ⟨g, o, hA, hg, fun j u hu => (hb.cell (p := ⟨g, _, none⟩) (by show g < _; omega) (by show g ≠ _; omega)).trans (hc j u hu)⟩
theorem WvAt.below {w w' : World} {N B : Nat} {A : Option Addr} {l : List WV} (h : WvAt w N A l) (hb : Below B w w') (hN : N ≤ B) : WvAt w' N A l := fun k x hx => by
 obtain ⟨g, o, hA, hg, hc⟩ := h k x hx
 exact ⟨g, o, hA, hg, fun j u hu => (hb.cell (p := ⟨g, _, none⟩) (by show g < _; omega)).trans (hc j u hu)⟩
theorem WvAt.head {w : World} {N g o : Nat} {x : WV} {l : List WV} (h : WvAt w N (some ⟨g, o, none⟩) (x :: l)) : g < N ∧ w.cell? ⟨g, o, none⟩ = some (.int .i64 x.kind) ∧ w.cell? ⟨g, o + 1, none⟩ = some (.string x.text) ∧ w.cell? ⟨g, o + 2, none⟩ = some (.int .i64 x.num) ∧ w.cell? ⟨g, o + 3, none⟩ = some (.int .i64 x.at_) := by
 obtain ⟨g', o', hA, hg, hc⟩ := h 0 x rfl
 simp only [Option.some.injEq, Addr.mk.injEq, and_true] at hA
 obtain ⟨rfl, rfl⟩ := hA
 have c0 := hc 0 _ rfl
 have c1 := hc 1 _ rfl
 have c2 := hc 2 _ rfl
 have c3 := hc 3 _ rfl
 simp only [Nat.zero_mul, Nat.zero_add, Nat.add_zero] at c0 c1 c2 c3
 exact ⟨hg, c0, c1, c2, c3⟩
theorem WvAt.form {w : World} {N : Nat} {A : Option Addr} {x : WV} {l : List WV} (h : WvAt w N A (x :: l)) : ∃ g o, A = some ⟨g, o, none⟩ := by
 obtain ⟨g, o, hA, _⟩ := h 0 x rfl
 exact ⟨g, o, hA⟩
theorem WvAt.tail {w : World} {N g o : Nat} {x : WV} {l : List WV} (h : WvAt w N (some ⟨g, o, none⟩) (x :: l)) : WvAt w N (some ⟨g, o + 4, none⟩) l := fun k y hy => by
 obtain ⟨g', o', hA, hg, hc⟩ := h (k + 1) y (by simpa using hy)
 simp only [Option.some.injEq, Addr.mk.injEq, and_true] at hA
 obtain ⟨rfl, rfl⟩ := hA
 refine ⟨g, o + 4, rfl, hg, fun j u hu => ?_⟩
 have := hc j u hu
 rwa [show o + ((k + 1) * 4 + j) = o + 4 + (k * 4 + j) by omega] at this
theorem WvAt.get {w : World} {N : Nat} {A : Option Addr} {l : List WV} (h : WvAt w N A l) {k : Nat} {x : WV} (hx : l[k]? = some x) : ∃ g o, A = some ⟨g, o, none⟩ ∧ g < N ∧ w.cell? ⟨g, o + k * 4, none⟩ = some (.int .i64 x.kind) ∧ w.cell? ⟨g, o + k * 4 + 1, none⟩ = some (.string x.text) ∧ w.cell? ⟨g, o + k * 4 + 2, none⟩ = some (.int .i64 x.num) ∧ w.cell? ⟨g, o + k * 4 + 3, none⟩ = some (.int .i64 x.at_) := by
 obtain ⟨g, o, hA, hg, hc⟩ := h k x hx
 have c0 := hc 0 _ rfl
 have c1 := hc 1 _ rfl
 have c2 := hc 2 _ rfl
 have c3 := hc 3 _ rfl
 simp only [← Nat.add_assoc, Nat.add_zero] at c0 c1 c2 c3
 exact ⟨g, o, hA, hg, c0, c1, c2, c3⟩
theorem own_wvat {w : World} {base : Nat} {e : TypeId} {A : Option Addr} {c : Nat} {l : List WV} (h : w.ownsRow base e 4 (.slice A l.length c) l.length (flatW l)) : WvAt w w.heap.size A l := fun k x hx => by
 have hk := (List.getElem?_eq_some_iff.1 hx).1
 obtain ⟨g, hA, hg, _, _, hc⟩ := own_cells h (by omega)
 exact ⟨g, 0, hA, hg, fun j u hu => by rw [Nat.zero_add]; exact hc _ _ (flat_get cellsOfW 4 (fun _ => rfl) l k j x u hx hu)⟩
def cellsOfK (x : KV) (B : Option Addr) (d : Nat) : List Value := [.string x.key, .slice B x.vals.length d, .int .i64 x.at_]
def cellsOfX (x : IV) (B : Option Addr) (d : Nat) : List Value := [.string x.word, .string x.name, .slice B x.keys.length d, .int .i64 x.at_]
def KsAt (w : World) (A : Option Addr) (l : List KV) : Prop := ∀ k x, l[k]? = some x → ∃ g o B d, A = some ⟨g, o, none⟩ ∧ g < w.heap.size ∧ (w.cell? ⟨g, o + k * 3, none⟩ = some (.string x.key) ∧ w.cell? ⟨g, o + k * 3 + 1, none⟩ = some (.slice B x.vals.length d) ∧ w.cell? ⟨g, o + k * 3 + 2, none⟩ = some (.int .i64 x.at_)) ∧ IAt w B x.vals
def XsAt (w : World) (A : Option Addr) (l : List IV) : Prop := ∀ k x, l[k]? = some x → ∃ g o B d, A = some ⟨g, o, none⟩ ∧ g < w.heap.size ∧ (w.cell? ⟨g, o + k * 4, none⟩ = some (.string x.word) ∧ w.cell? ⟨g, o + k * 4 + 1, none⟩ = some (.string x.name) ∧ w.cell? ⟨g, o + k * 4 + 2, none⟩ = some (.slice B x.keys.length d) ∧ w.cell? ⟨g, o + k * 4 + 3, none⟩ = some (.int .i64 x.at_)) ∧ KsAt w B x.keys
theorem KsAt.below {w w1 : World} {A : Option Addr} {l : List KV} {B : Nat} (h : KsAt w A l) (hb : Below B w w1) (hB : w.heap.size ≤ B) : KsAt w1 A l := fun k x hx => by
 obtain ⟨g, o, B', d, hA, hg, ⟨h0, h1, h2⟩, hi⟩ := h k x hx
 have hc := fun j => hb.cell (p := ⟨g, j, none⟩) (Nat.lt_of_lt_of_le hg hB)
 exact ⟨g, o, B', d, hA, Nat.lt_of_lt_of_le hg hb.size, ⟨(hc _).trans h0, (hc _).trans h1, (hc _).trans h2⟩, hi.below hb hB⟩
theorem XsAt.below {w w1 : World} {A : Option Addr} {l : List IV} {B : Nat} (h : XsAt w A l) (hb : Below B w w1) (hB : w.heap.size ≤ B) : XsAt w1 A l := fun k x hx => by
 obtain ⟨g, o, B', d, hA, hg, ⟨h0, h1, h2, h3⟩, hi⟩ := h k x hx
 have hc := fun j => hb.cell (p := ⟨g, j, none⟩) (Nat.lt_of_lt_of_le hg hB)
 exact ⟨g, o, B', d, hA, Nat.lt_of_lt_of_le hg hb.size, ⟨(hc _).trans h0, (hc _).trans h1, (hc _).trans h2, (hc _).trans h3⟩, hi.below hb hB⟩
theorem IAt.nil (w : World) (A : Option Addr) : IAt w A [] := fun k x h => by simp at h
theorem KsAt.nil (w : World) (A : Option Addr) : KsAt w A [] := fun k x h => by simp at h
theorem XsAt.nil (w : World) (A : Option Addr) : XsAt w A [] := fun k x h => by simp at h
def KsOwn (w : World) (base : Nat) (tK : TypeId) (A : Option Addr) (c : Nat) (l : List KV) : Prop :=
  ∃ ps : List (KV × Option Addr × Nat), ps.map (·.1) = l ∧ w.ownsRow base tK 3 (.slice A l.length c) l.length (ps.flatMap fun p => cellsOfK p.1 p.2.1 p.2.2) ∧ ∀ p ∈ ps, OwnI w base p.2.1 p.2.2 p.1.vals
def XsOwn (w : World) (base : Nat) (tX tK : TypeId) (A : Option Addr) (c : Nat) (l : List IV) : Prop :=
  ∃ ps : List (IV × Option Addr × Nat), ps.map (·.1) = l ∧ w.ownsRow base tX 4 (.slice A l.length c) l.length (ps.flatMap fun p => cellsOfX p.1 p.2.1 p.2.2) ∧ ∀ p ∈ ps, KsOwn w base tK p.2.1 p.2.2 p.1.keys
theorem KsOwn.nil (w : World) (base : Nat) (tK : TypeId) : KsOwn w base tK none 0 [] := ⟨[], rfl, World.ownsRow_nil _ _ _ _, by simp⟩
theorem XsOwn.nil (w : World) (base : Nat) (tX tK : TypeId) : XsOwn w base tX tK none 0 [] := ⟨[], rfl, World.ownsRow_nil _ _ _ _, by simp⟩
theorem OwnI.nil (w : World) (base : Nat) : OwnI w base none 0 [] := World.ownsRow_nil _ _ _ _
theorem OwnI.but {w w' : World} {rb base : Nat} {A : Option Addr} {c : Nat} {l : List Int} (h : OwnI w base A c l) (hb : But rb w w') (hr : rb < base) : OwnI w' base A c l := own_but h hb hr
theorem KsOwn.but {w w' : World} {rb base : Nat} {tK : TypeId} {A : Option Addr} {c : Nat} {l : List KV} (h : KsOwn w base tK A c l) (hb : But rb w w') (hr : rb < base) : KsOwn w' base tK A c l := by
 obtain ⟨ps, h1, h2, h3⟩ := h
 exact ⟨ps, h1, own_but h2 hb hr, fun p hp => (h3 p hp).but hb hr⟩
theorem XsOwn.but {w w' : World} {rb base : Nat} {tX tK : TypeId} {A : Option Addr} {c : Nat} {l : List IV} (h : XsOwn w base tX tK A c l) (hb : But rb w w') (hr : rb < base) : XsOwn w' base tX tK A c l := by
 obtain ⟨ps, h1, h2, h3⟩ := h
 exact ⟨ps, h1, own_but h2 hb hr, fun p hp => (h3 p hp).but hb hr⟩
theorem OwnI.weaker {w : World} {base base' : Nat} {A : Option Addr} {c : Nat} {l : List Int} (h : OwnI w base A c l) (hb : base' ≤ base) : OwnI w base' A c l := ownr_weaker h hb
theorem KsOwn.weaker {w : World} {base base' : Nat} {tK : TypeId} {A : Option Addr} {c : Nat} {l : List KV} (h : KsOwn w base tK A c l) (hb : base' ≤ base) : KsOwn w base' tK A c l := by
 obtain ⟨ps, h1, h2, h3⟩ := h
 exact ⟨ps, h1, ownr_weaker h2 hb, fun p hp => (h3 p hp).weaker hb⟩
theorem KsOwn.below {w w' : World} {base B : Nat} {tK : TypeId} {A : Option Addr} {c : Nat} {l : List KV} (h : KsOwn w base tK A c l) (hb : Below B w w') (hB : w.heap.size ≤ B) : KsOwn w' base tK A c l := by
 obtain ⟨ps, h1, h2, h3⟩ := h
 exact ⟨ps, h1, own_below h2 hb hB, fun p hp => own_below (h3 p hp) hb hB⟩
theorem XsOwn.below {w w' : World} {base B : Nat} {tX tK : TypeId} {A : Option Addr} {c : Nat} {l : List IV} (h : XsOwn w base tX tK A c l) (hb : Below B w w') (hB : w.heap.size ≤ B) : XsOwn w' base tX tK A c l := by
 obtain ⟨ps, h1, h2, h3⟩ := h
 exact ⟨ps, h1, own_below h2 hb hB, fun p hp => (h3 p hp).below hb hB⟩
theorem KsOwn.kept {w w' : World} {base b2 z2 n2 : Nat} {tK e2 : TypeId} {A : Option Addr} {c : Nat} {l : List KV} {v2 : Value} {x2 : List Value} (h : KsOwn w base tK A c l) (h2 : w.ownsRow b2 e2 z2 v2 n2 x2) (n1 : tK ≠ e2) (n2' : 3 ≠ e2) (hg : w.grownBy w' v2.ownBlock) : KsOwn w' base tK A c l := by
 obtain ⟨ps, h1, h2', h3⟩ := h
 exact ⟨ps, h1, own_kept h2' h2 n1 hg, fun p hp => own_kept (h3 p hp) h2 n2' hg⟩
theorem KsOwn.at {w : World} {base : Nat} {tK : TypeId} {A : Option Addr} {c : Nat} {l : List KV} (h : KsOwn w base tK A c l) : KsAt w A l := fun k x hx => by
 obtain ⟨ps, rfl, h2, h3⟩ := h
 have hk := (List.getElem?_eq_some_iff.1 hx).1
 rw [List.getElem?_map] at hx
 obtain ⟨p, hp, rfl⟩ := Option.map_eq_some_iff.1 hx
 obtain ⟨g, hA, hg, _, _, hc⟩ := own_cells h2 (by omega)
 have hc' := fun j u hu => hc _ _ (flat_get (fun p : KV × Option Addr × Nat => cellsOfK p.1 p.2.1 p.2.2) 3 (fun _ => rfl) ps k j p u hp hu)
 have c0 := hc' 0 _ rfl
 have c1 := hc' 1 _ rfl
 have c2 := hc' 2 _ rfl
 refine ⟨g, 0, p.2.1, p.2.2, hA, hg, ⟨?_, ?_, ?_⟩, (h3 p (List.mem_of_getElem? hp)).iat⟩
 · rw [Nat.zero_add]; exact c0
 · rw [Nat.zero_add]; exact c1
 · rw [Nat.zero_add]; exact c2
theorem XsOwn.at {w : World} {base : Nat} {tX tK : TypeId} {A : Option Addr} {c : Nat} {l : List IV} (h : XsOwn w base tX tK A c l) : XsAt w A l := fun k x hx => by
 obtain ⟨ps, rfl, h2, h3⟩ := h
 have hk := (List.getElem?_eq_some_iff.1 hx).1
 rw [List.getElem?_map] at hx
 obtain ⟨p, hp, rfl⟩ := Option.map_eq_some_iff.1 hx
 obtain ⟨g, hA, hg, _, _, hc⟩ := own_cells h2 (by omega)
 have hc' := fun j u hu => hc _ _ (flat_get (fun p : IV × Option Addr × Nat => cellsOfX p.1 p.2.1 p.2.2) 4 (fun _ => rfl) ps k j p u hp hu)
 have c0 := hc' 0 _ rfl
 have c1 := hc' 1 _ rfl
 have c2 := hc' 2 _ rfl
 have c3 := hc' 3 _ rfl
 refine ⟨g, 0, p.2.1, p.2.2, hA, hg, ⟨?_, ?_, ?_, ?_⟩, (h3 p (List.mem_of_getElem? hp)).at⟩
 · rw [Nat.zero_add]; exact c0
 · rw [Nat.zero_add]; exact c1
 · rw [Nat.zero_add]; exact c2
 · rw [Nat.zero_add]; exact c3
theorem KsOwn.snoc {w w' : World} {base : Nat} {tK : TypeId} {A : Option Addr} {c : Nat} {ps : List (KV × Option Addr × Nat)} {x : KV} {B : Option Addr} {d : Nat} {v' : Value} (hne : tK ≠ 3)
  (h2 : w.ownsRow base tK 3 (.slice A ps.length c) ps.length (ps.flatMap fun p => cellsOfK p.1 p.2.1 p.2.2)) (h3 : ∀ p ∈ ps, OwnI w base p.2.1 p.2.2 p.1.vals) (hx : OwnI w base B d x.vals)
  (hw : w'.ownsRow base tK 3 v' (ps.length + 1) ((ps.flatMap fun p => cellsOfK p.1 p.2.1 p.2.2) ++ cellsOfK x B d)) (hg : w.grownBy w' (Value.ownBlock (.slice A ps.length c))) :
  ∃ A' c', v' = .slice A' (ps.map (·.1) ++ [x]).length c' ∧ KsOwn w' base tK A' c' (ps.map (·.1) ++ [x]) := by
 obtain ⟨A', c', rfl⟩ := own_sl hw
 refine ⟨A', c', by simp, ps ++ [(x, B, d)], by simp, by simpa using hw, fun p hp => ?_⟩
 rcases List.mem_append.1 hp with h | h
 · exact own_kept (h3 p h) h2 (Ne.symm hne) hg
 · simp only [List.mem_singleton] at h
   subst h
   exact own_kept hx h2 (Ne.symm hne) hg
theorem XsOwn.snoc {w w' : World} {base : Nat} {tX tK : TypeId} {A : Option Addr} {c : Nat} {ps : List (IV × Option Addr × Nat)} {x : IV} {B : Option Addr} {d : Nat} {v' : Value} (n1 : tK ≠ tX) (n2 : 3 ≠ tX)
  (h2 : w.ownsRow base tX 4 (.slice A ps.length c) ps.length (ps.flatMap fun p => cellsOfX p.1 p.2.1 p.2.2)) (h3 : ∀ p ∈ ps, KsOwn w base tK p.2.1 p.2.2 p.1.keys) (hx : KsOwn w base tK B d x.keys)
  (hw : w'.ownsRow base tX 4 v' (ps.length + 1) ((ps.flatMap fun p => cellsOfX p.1 p.2.1 p.2.2) ++ cellsOfX x B d)) (hg : w.grownBy w' (Value.ownBlock (.slice A ps.length c))) :
  ∃ A' c', v' = .slice A' (ps.map (·.1) ++ [x]).length c' ∧ XsOwn w' base tX tK A' c' (ps.map (·.1) ++ [x]) := by
 obtain ⟨A', c', rfl⟩ := own_sl hw
 refine ⟨A', c', by simp, ps ++ [(x, B, d)], by simp, by simpa using hw, fun p hp => ?_⟩
 rcases List.mem_append.1 hp with h | h
 · exact (h3 p h).kept h2 n1 n2 hg
 · simp only [List.mem_singleton] at h
   subst h
   exact hx.kept h2 n1 n2 hg
theorem intInfo : (Tryz.prog.info? 3).map (fun i => (i.zero, i.size, i.bytes)) = some (some (.int .i64 0), 1, 8) := by kernel_rfl
theorem keyInfo : (Tryz.prog.info? 120).map (fun i => (i.zero, i.size, i.bytes)) = some (some (.agg #[.string ⟨#[]⟩, .slice none 0 0, .int .i64 0]), 3, 48) := by kernel_rfl
theorem itemInfo : (Tryz.prog.info? 97).map (fun i => (i.zero, i.size, i.bytes)) = some (some (.agg #[.string ⟨#[]⟩, .string ⟨#[]⟩, .slice none 0 0, .int .i64 0]), 4, 64) := by kernel_rfl
theorem txt_eqL {a : ByteArray} {l : List UInt8} (h : a = ⟨l.toArray⟩) : (a.toList == l) = true := by
 subst h
 rw [ByteArray.toList_eq]
 simp
theorem txt_neL {a : ByteArray} {l : List UInt8} (h : ¬ a = ⟨l.toArray⟩) : (a.toList == l) = false := by
 rw [beq_eq_false_iff_ne]
 intro e
 rw [ByteArray.toList_eq] at e
 exact h (ByteArray.ext (by rw [← e]))
theorem txt_neT {a b : ByteArray} (hne : ¬ a = b) : (a.toList == b.toList) = false := by
 rw [beq_eq_false_iff_ne]
 intro e
 rw [ByteArray.toList_eq, ByteArray.toList_eq] at e
 exact hne (ByteArray.ext (Array.ext' e))
theorem txtOf_none {s : ByteArray} (h : ∀ p ∈ txtTab, ¬ s = p.1) : txtOf s = ⟨#[]⟩ := by
 have : txtTab.find? (fun p => decide (p.1 = s)) = none := by
  rw [List.find?_eq_none]
  intro p hp
  have := h p hp
  simp only [decide_eq_true_eq]
  exact fun e => this e.symm
 unfold txtOf
 rw [this]
set_option maxRecDepth 100000 in
set_option maxHeartbeats 4000000 in
theorem keys_any (s : ByteArray) (w : World) : Calls Tryz.prog 155 #[.string s] w fun e w' => e = .returned (.string (txtOf s)) ∧ Below w.heap.size w w' := by
 by_cases h0 : s = ⟨[116, 97, 98, 108, 101].toArray⟩
 · have b0 := txt_eqL h0
   have hT : txtOf s = ⟨#[114, 97, 100, 105, 117, 115, 32, 49, 32, 98, 97, 108, 108, 115, 32, 49, 32, 103, 114, 97, 118, 105, 116, 121, 32, 50, 32, 100, 114, 97, 103, 32, 50, 32, 114, 101, 115, 116, 32, 49, 32, 116, 114, 111, 117, 103, 104, 32, 49]⟩ := by rw [h0]; exact rfl
   rw [hT]
   clear h0 hT
   go_enter Tryz.func155, Tryz.ntmps155; (try simp only [List.append_eq, List.cons_append, List.nil_append])
   go_wp2_with fail
   go_ret
   exact ⟨rfl, Below.refl _ _⟩
 have b0 := txt_neL h0
 by_cases h1 : s = ⟨[119, 97, 108, 108].toArray⟩
 · have b1 := txt_eqL h1
   have hT : txtOf s = ⟨#[108, 101, 118, 101, 108, 32, 49, 32, 102, 114, 111, 109, 32, 50, 32, 116, 111, 32, 50, 32, 114, 101, 115, 116, 32, 49, 32, 103, 114, 105, 112, 32, 49, 32, 107, 105, 99, 107, 32, 49, 32, 109, 105, 110, 32, 49, 32, 99, 111, 105, 108, 32, 49, 32, 115, 119, 105, 116, 99, 104, 32, 49]⟩ := by rw [h1]; exact rfl
   rw [hT]
   clear h1 hT
   go_enter Tryz.func155, Tryz.ntmps155; (try simp only [List.append_eq, List.cons_append, List.nil_append])
   go_wp2_with fail
   go_ret
   exact ⟨rfl, Below.refl _ _⟩
 have b1 := txt_neL h1
 by_cases h2 : s = ⟨[103, 97, 116, 101].toArray⟩
 · have b2 := txt_eqL h2
   have hT : txtOf s = ⟨#[108, 101, 118, 101, 108, 32, 49, 32, 102, 114, 111, 109, 32, 50, 32, 116, 111, 32, 50, 32, 114, 101, 115, 116, 32, 49, 32, 103, 114, 105, 112, 32, 49, 32, 107, 105, 99, 107, 32, 49, 32, 109, 105, 110, 32, 49, 32, 99, 111, 105, 108, 32, 49, 32, 115, 119, 105, 116, 99, 104, 32, 49]⟩ := by rw [h2]; exact rfl
   rw [hT]
   clear h2 hT
   go_enter Tryz.func155, Tryz.ntmps155; (try simp only [List.append_eq, List.cons_append, List.nil_append])
   go_wp2_with fail
   go_ret
   exact ⟨rfl, Below.refl _ _⟩
 have b2 := txt_neL h2
 by_cases h3 : s = ⟨[116, 97, 114, 103, 101, 116].toArray⟩
 · have b3 := txt_eqL h3
   have hT : txtOf s = ⟨#[108, 101, 118, 101, 108, 32, 49, 32, 102, 114, 111, 109, 32, 50, 32, 116, 111, 32, 50, 32, 114, 101, 115, 116, 32, 49, 32, 103, 114, 105, 112, 32, 49, 32, 107, 105, 99, 107, 32, 49, 32, 109, 105, 110, 32, 49, 32, 99, 111, 105, 108, 32, 49, 32, 115, 119, 105, 116, 99, 104, 32, 49]⟩ := by rw [h3]; exact rfl
   rw [hT]
   clear h3 hT
   go_enter Tryz.func155, Tryz.ntmps155; (try simp only [List.append_eq, List.cons_append, List.nil_append])
   go_wp2_with fail
   go_ret
   exact ⟨rfl, Below.refl _ _⟩
 have b3 := txt_neL h3
 by_cases h4 : s = ⟨[115, 108, 105, 110, 103].toArray⟩
 · have b4 := txt_eqL h4
   have hT : txtOf s = ⟨#[108, 101, 118, 101, 108, 32, 49, 32, 102, 114, 111, 109, 32, 50, 32, 116, 111, 32, 50, 32, 114, 101, 115, 116, 32, 49, 32, 103, 114, 105, 112, 32, 49, 32, 107, 105, 99, 107, 32, 49, 32, 109, 105, 110, 32, 49, 32, 99, 111, 105, 108, 32, 49, 32, 115, 119, 105, 116, 99, 104, 32, 49]⟩ := by rw [h4]; exact rfl
   rw [hT]
   clear h4 hT
   go_enter Tryz.func155, Tryz.ntmps155; (try simp only [List.append_eq, List.cons_append, List.nil_append])
   go_wp2_with fail
   go_ret
   exact ⟨rfl, Below.refl _ _⟩
 have b4 := txt_neL h4
 by_cases h5 : s = ⟨[97, 114, 99].toArray⟩
 · have b5 := txt_eqL h5
   have hT : txtOf s = ⟨#[108, 101, 118, 101, 108, 32, 49, 32, 99, 101, 110, 116, 101, 114, 32, 50, 32, 102, 114, 111, 109, 32, 50, 32, 116, 111, 32, 50, 32, 114, 101, 115, 116, 32, 49, 32, 103, 114, 105, 112, 32, 49, 32, 109, 105, 110, 32, 49, 32, 115, 119, 105, 116, 99, 104, 32, 49]⟩ := by rw [h5]; exact rfl
   rw [hT]
   clear h5 hT
   go_enter Tryz.func155, Tryz.ntmps155; (try simp only [List.append_eq, List.cons_append, List.nil_append])
   go_wp2_with fail
   go_ret
   exact ⟨rfl, Below.refl _ _⟩
 have b5 := txt_neL h5
 by_cases h6 : s = ⟨[112, 111, 115, 116].toArray⟩
 · have b6 := txt_eqL h6
   have hT : txtOf s = ⟨#[108, 101, 118, 101, 108, 32, 49, 32, 99, 101, 110, 116, 101, 114, 32, 50, 32, 115, 105, 122, 101, 32, 49, 32, 114, 101, 115, 116, 32, 49, 32, 103, 114, 105, 112, 32, 49, 32, 107, 105, 99, 107, 32, 49, 32, 109, 105, 110, 32, 49, 32, 99, 111, 105, 108, 32, 49, 32, 115, 119, 105, 116, 99, 104, 32, 49]⟩ := by rw [h6]; exact rfl
   rw [hT]
   clear h6 hT
   go_enter Tryz.func155, Tryz.ntmps155; (try simp only [List.append_eq, List.cons_append, List.nil_append])
   go_wp2_with fail
   go_ret
   exact ⟨rfl, Below.refl _ _⟩
 have b6 := txt_neL h6
 by_cases h7 : s = ⟨[102, 108, 105, 112, 112, 101, 114].toArray⟩
 · have b7 := txt_eqL h7
   have hT : txtOf s = ⟨#[108, 101, 118, 101, 108, 32, 49, 32, 99, 101, 110, 116, 101, 114, 32, 50, 32, 108, 101, 110, 103, 116, 104, 32, 49, 32, 109, 105, 114, 114, 111, 114, 32, 48, 32, 114, 97, 110, 103, 101, 32, 50, 32, 117, 112, 32, 49, 32, 100, 111, 119, 110, 32, 49, 32, 109, 97, 120, 32, 49, 32, 114, 101, 115, 116, 32, 49, 32, 103, 114, 105, 112, 32, 49, 32, 99, 111, 105, 108, 32, 49, 32, 115, 119, 105, 116, 99, 104, 32, 49]⟩ := by rw [h7]; exact rfl
   rw [hT]
   clear h7 hT
   go_enter Tryz.func155, Tryz.ntmps155; (try simp only [List.append_eq, List.cons_append, List.nil_append])
   go_wp2_with fail
   go_ret
   exact ⟨rfl, Below.refl _ _⟩
 have b7 := txt_neL h7
 by_cases h8 : s = ⟨[122, 111, 110, 101].toArray⟩
 · have b8 := txt_eqL h8
   have hT : txtOf s = ⟨#[108, 101, 118, 101, 108, 32, 49, 32, 102, 114, 111, 109, 32, 50, 32, 116, 111, 32, 50, 32, 104, 97, 108, 102, 32, 50, 32, 99, 111, 105, 108, 32, 49]⟩ := by rw [h8]; exact rfl
   rw [hT]
   clear h8 hT
   go_enter Tryz.func155, Tryz.ntmps155; (try simp only [List.append_eq, List.cons_append, List.nil_append])
   go_wp2_with fail
   go_ret
   exact ⟨rfl, Below.refl _ _⟩
 have b8 := txt_neL h8
 by_cases h9 : s = ⟨[115, 97, 117, 99, 101, 114].toArray⟩
 · have b9 := txt_eqL h9
   have hT : txtOf s = ⟨#[108, 101, 118, 101, 108, 32, 49, 32, 99, 101, 110, 116, 101, 114, 32, 50, 32, 115, 105, 122, 101, 32, 49, 32, 108, 105, 109, 105, 116, 32, 49, 32, 111, 117, 116, 32, 50, 32, 99, 111, 105, 108, 32, 49, 32, 115, 119, 105, 116, 99, 104, 32, 49]⟩ := by rw [h9]; exact rfl
   rw [hT]
   clear h9 hT
   go_enter Tryz.func155, Tryz.ntmps155; (try simp only [List.append_eq, List.cons_append, List.nil_append])
   go_wp2_with fail
   go_ret
   exact ⟨rfl, Below.refl _ _⟩
 have b9 := txt_neL h9
 by_cases h10 : s = ⟨[108, 97, 110, 101].toArray⟩
 · have b10 := txt_eqL h10
   have hT : txtOf s = ⟨#[108, 101, 118, 101, 108, 32, 49, 32, 99, 101, 110, 116, 101, 114, 32, 50, 32, 115, 105, 122, 101, 32, 49, 32, 115, 119, 105, 116, 99, 104, 32, 49]⟩ := by rw [h10]; exact rfl
   rw [hT]
   clear h10 hT
   go_enter Tryz.func155, Tryz.ntmps155; (try simp only [List.append_eq, List.cons_append, List.nil_append])
   go_wp2_with fail
   go_ret
   exact ⟨rfl, Below.refl _ _⟩
 have b10 := txt_neL h10
 by_cases h11 : s = ⟨[114, 97, 109, 112].toArray⟩
 · have b11 := txt_eqL h11
   have hT : txtOf s = ⟨#[108, 101, 118, 101, 108, 32, 49, 32, 105, 110, 116, 111, 32, 49, 32, 99, 101, 110, 116, 101, 114, 32, 50, 32, 115, 105, 122, 101, 32, 49, 32, 100, 105, 114, 32, 50]⟩ := by rw [h11]; exact rfl
   rw [hT]
   clear h11 hT
   go_enter Tryz.func155, Tryz.ntmps155; (try simp only [List.append_eq, List.cons_append, List.nil_append])
   go_wp2_with fail
   go_ret
   exact ⟨rfl, Below.refl _ _⟩
 have b11 := txt_neL h11
 by_cases h12 : s = ⟨[100, 114, 97, 105, 110].toArray⟩
 · have b12 := txt_eqL h12
   have hT : txtOf s = ⟨#[108, 101, 118, 101, 108, 32, 49, 32, 99, 101, 110, 116, 101, 114, 32, 50, 32, 115, 105, 122, 101, 32, 49]⟩ := by rw [h12]; exact rfl
   rw [hT]
   clear h12 hT
   go_enter Tryz.func155, Tryz.ntmps155; (try simp only [List.append_eq, List.cons_append, List.nil_append])
   go_wp2_with fail
   go_ret
   exact ⟨rfl, Below.refl _ _⟩
 have b12 := txt_neL h12
 by_cases h13 : s = ⟨[108, 97, 117, 110, 99, 104, 101, 114].toArray⟩
 · have b13 := txt_eqL h13
   have hT : txtOf s = ⟨#[108, 101, 118, 101, 108, 32, 49, 32, 99, 101, 110, 116, 101, 114, 32, 50, 32, 111, 117, 116, 32, 50, 32, 99, 111, 105, 108, 32, 49]⟩ := by rw [h13]; exact rfl
   rw [hT]
   clear h13 hT
   go_enter Tryz.func155, Tryz.ntmps155; (try simp only [List.append_eq, List.cons_append, List.nil_append])
   go_wp2_with fail
   go_ret
   exact ⟨rfl, Below.refl _ _⟩
 have b13 := txt_neL h13
 have hT : txtOf s = ⟨#[]⟩ := txtOf_none (by intro p hp; simp only [txtTab, List.mem_cons, List.not_mem_nil, or_false] at hp; rcases hp with rfl | rfl | rfl | rfl | rfl | rfl | rfl | rfl | rfl | rfl | rfl | rfl | rfl | rfl <;> assumption)
 rw [hT]
 clear hT h0 h1 h2 h3 h4 h5 h6 h7 h8 h9 h10 h11 h12 h13
 go_enter Tryz.func155, Tryz.ntmps155; (try simp only [List.append_eq, List.cons_append, List.nil_append])
 go_wp2_with fail
 go_ret
 exact ⟨rfl, Below.refl _ _⟩
end Go.Proofs.YtbpcjpiaimdpnaaGreatDoor
