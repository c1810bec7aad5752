/- Merged texts: RcA LrP ElP Lews RcB. -/
import Derived.Test.YtbpcjpiaimdpnaaGreatDoorCk4
import Derived.Deep.Cut
set_option linter.unusedSimpArgs false
set_option linter.unusedVariables false
namespace Go.Proofs.YtbpcjpiaimdpnaaGreatDoor
open Go Go.RowKit
set_option linter.unusedVariables false
set_option maxHeartbeats 1000000 in
theorem rin_any (n lo hi : Int) (w : World) :
  Calls Tryz.prog 34 #[.int .i64 n, .int .i64 lo, .int .i64 hi] w fun e w' => e = .returned (.bool (in1 lo hi n)) ∧ Below w.heap.size w w' := by
 obtain ⟨R, hR⟩ : ∃ R, R = in1 lo hi n := ⟨_, rfl⟩
 rw [← hR]
 by_cases h1 : lo ≤ n
 · by_cases h2 : n ≤ hi
   · obtain rfl : R = true := by rw [hR]; simp [in1, h1, h2]
     clear hR
     go_enter Tryz.func34, Tryz.ntmps34; (try simp only [List.append_eq, List.cons_append, List.nil_append])
     go_wp2_with fail
     go_ret
     exact ⟨rfl, Below.refl _ _⟩
   · obtain rfl : R = false := by rw [hR]; simp [in1, h2]
     clear hR
     go_enter Tryz.func34, Tryz.ntmps34; (try simp only [List.append_eq, List.cons_append, List.nil_append])
     go_wp2_with fail
     go_ret
     exact ⟨rfl, Below.refl _ _⟩
 · obtain rfl : R = false := by rw [hR]; simp [in1, h1]
   clear hR
   go_enter Tryz.func34, Tryz.ntmps34; (try simp only [List.append_eq, List.cons_append, List.nil_append])
   go_wp2_with fail
   go_ret
   exact ⟨rfl, Below.refl _ _⟩
set_option maxHeartbeats 1000000 in
theorem rnear_any (x y m : Int) (w : World) (h0 : 0 ≤ m) (h1 : m ≤ 4611686018427387904) :
  Calls Tryz.prog 35 #[.agg #[.int .i64 x, .int .i64 y], .int .i64 m] w fun e w' => e = .returned (.bool (nearV m ⟨x, y⟩)) ∧ Below w.heap.size w w' := by
 have K1 := fun W => rin_any x (-m) m W
 have K2 := fun W => rin_any y (-m) m W
 obtain ⟨R, hR⟩ : ∃ R, R = nearV m ⟨x, y⟩ := ⟨_, rfl⟩
 rw [← hR]
 obtain ⟨p1, hp1⟩ : ∃ b, b = in1 (-m) m x := ⟨_, rfl⟩
 obtain ⟨p2, hp2⟩ : ∃ b, b = in1 (-m) m y := ⟨_, rfl⟩
 rw [← hp1] at K1
 rw [← hp2] at K2
 have hr : R = (p1 && p2) := by rw [hR, hp1, hp2]; rfl
 have HR := hQ0 hr
 clear hR hp1 hp2 hr
 have HK1 := hQ0 K1
 have HK2 := hQ0 K2
 clear K1 K2
 cases p1
 · obtain rfl : R = false := HR.out
   clear HR
   go_enter Tryz.func35, Tryz.ntmps35; (try simp only [List.append_eq, List.cons_append, List.nil_append])
   go_wp2_with (go_at_call 34; refine (HK1.out _).mono ?_; rintro e w1 ⟨rfl, hb1⟩)
   go_ret
   exact ⟨rfl, ((Below.refl _ _).alloc (Nat.le_refl _) _).trans (hb1.mono (by simp))⟩
 · obtain rfl : R = p2 := HR.out
   clear HR
   go_enter Tryz.func35, Tryz.ntmps35; (try simp only [List.append_eq, List.cons_append, List.nil_append])
   go_wp2_with (first | (have hq_ := hb1; go_at_call 34; refine (HK2.out _).mono ?_; rintro e w2 ⟨rfl, hb2⟩) | (go_at_call 34; refine (HK1.out _).mono ?_; rintro e w1 ⟨rfl, hb1⟩; have c1 := (hb1.cell (p := ⟨w.heap.size, 1, none⟩) (by simp)).trans ((BoxAt.new w [.int .i64 x, .int .i64 y] 23).c 1 _ rfl)))
   go_ret
   exact ⟨rfl, (((Below.refl _ _).alloc (Nat.le_refl _) _).trans (hb1.mono (by simp))).trans (hb2.mono (by have := hb1.size; simp at this; omega))⟩
attribute [local go_sem ↓] evalL getL64 setL64
attribute [local go_sem ↓] getL8 setL8
attribute [local go_sem ↓] getL1 getL0
theorem in1_le {lo hi x : Int} (h : in1 lo hi x = true) : lo ≤ x ∧ x ≤ hi := by simpa [in1] using h
def Fl.mvB (x : Fl) : Bool := nearV 1048576 ⟨x.p1, x.p2⟩ && in1 1 262144 x.ln && in1 (-256) 256 x.lo && in1 (-256) 256 x.hi && decide (x.lo < x.hi) && in1 1 64 x.up && in1 1 64 x.dn && in1 1 64 x.mx && decide (x.mx * x.ln ≤ 2097152)
set_option maxRecDepth 100000 in
set_option maxHeartbeats 4000000 in
theorem rflips_any (x : Fl) (w : World) : Calls Tryz.prog 85 #[x.v] w fun e w' => e = .returned (.bool x.mvB) ∧ Below w.heap.size w w' := by
 obtain ⟨R, hR⟩ : ∃ R, R = x.mvB := ⟨_, rfl⟩
 rw [← hR]
 unfold Fl.mvB at hR
 unfold Fl.v
 go_enter Tryz.func85, Tryz.ntmps85; (try simp only [List.append_eq, List.cons_append, List.nil_append])
 go_upto_region 1 with (fail)
 (refine pin_eqT (fun w1 hE => ?_))
 have HX1 : Hid (BoxAt w1 w.heap.size x.cells) := hQ0 (by rw [hE]; exact BoxAt.new _ _ _)
 have HB1 : Hid (Below w.heap.size w w1) := hQ0 (by rw [hE]; ((with_reducible (repeat (first | exact bR _ _ | apply bS | apply bA | apply bD | refine bT ?_ (by assumption) ?_ | refine bO (by assumption) ?_ ?_))) <;> (first | omega | (simp <;> omega))))
 clear hE
 have y2 := HX1.out.c 2 (.int .i64 x.p1) rfl
 have y3 := HX1.out.c 3 (.int .i64 x.p2) rfl
 have y4 := HX1.out.c 4 (.int .i64 x.ln) rfl
 have y6 := HX1.out.c 6 (.int .i64 x.lo) rfl
 have y7 := HX1.out.c 7 (.int .i64 x.hi) rfl
 have y8 := HX1.out.c 8 (.int .i64 x.up) rfl
 have y9 := HX1.out.c 9 (.int .i64 x.dn) rfl
 have y10 := HX1.out.c 10 (.int .i64 x.mx) rfl
 have hl_ := HX1.out.lt
 have hbb := Below.refl w1.heap.size w1
 revert hR
 cases p0 : nearV 1048576 ⟨x.p1, x.p2⟩; rotate_left
 cases p1 : in1 1 262144 x.ln; rotate_left
 cases p2 : in1 (-256) 256 x.lo; rotate_left
 cases p3 : in1 (-256) 256 x.hi; rotate_left
 cases p4 : decide (x.lo < x.hi); rotate_left
 cases p5 : in1 1 64 x.up; rotate_left
 cases p6 : in1 1 64 x.dn; rotate_left
 cases p7 : in1 1 64 x.mx; rotate_left
 cases p8 : decide (x.mx * x.ln ≤ 2097152); rotate_left
 all_goals (as_aux_lemma =>
  intro hR
  simp only [Bool.and_true, Bool.true_and, Bool.false_and, Bool.and_false] at hR
  have HR := hQ0 hR
  clear hR
  first | have q4 := of_decide_eq_true p4 | have q4 := of_decide_eq_false p4 | skip
  first | have q8 := of_decide_eq_true p8 | have q8 := of_decide_eq_false p8 | skip
  try have hw_ : IntKind.i64.wrap (x.mx * x.ln) = x.mx * x.ln := (have a := in1_le p7; have b := in1_le p1; have m1 := Int.mul_le_mul a.2 b.2 (by omega) (by omega); have m0 : 0 ≤ x.mx * x.ln := Int.mul_nonneg (by omega) (by omega); by rw [IntKind.wrap_i64]; omega)
  go_wp2_with ((first | (go_at_call 34; refine (rin_any _ _ _ _).mono ?_; rintro e w9 ⟨rfl, hb9⟩) | (go_at_call 35; refine (rnear_any _ _ _ _ (by decide) (by decide)).mono ?_; rintro e w9 ⟨rfl, hb9⟩)); replace hbb := hbb.trans (hb9.mono hbb.size); clear hb9; (try clear hcW); have hcW := (bcellW hbb).1)
  go_ret
  exact ⟨by rw [HR.out] <;> rfl, HB1.out.trans (hbb.mono HB1.out.size)⟩)
end Go.Proofs.YtbpcjpiaimdpnaaGreatDoor
namespace Go.Proofs.YtbpcjpiaimdpnaaGreatDoor
open Go
set_option linter.unusedVariables false
structure El where
  nm : ByteArray
  rg : Bool
  fm : Bool
def elF : List ByteArray → List El → Int
  | _, [] => 0
  | seen, x :: l => if nameB x.nm = false then 6 else if hasN seen x.nm = true then 7 else if x.rg = false then 5 else if x.fm = false then 10 else elF (seen ++ [x.nm]) l
def El.look (s : CS) (x : El) : CS := lookR s x.nm x.rg x.fm
def Wl.el (x : Wl) : El := ⟨x.nm, x.fB, x.sB⟩
def Ac.el (r : Int) (x : Ac) : El := ⟨x.nm, x.fB, x.fB && roundB x r⟩
def Ps.el (x : Ps) : El := ⟨x.nm, x.fB, true⟩
def Fl.el (x : Fl) : El := ⟨x.nm, x.fB, true⟩
def Zn.el (x : Zn) : El := ⟨x.nm, x.fB, x.sB⟩
def Sc.el (r : Int) (x : Sc) : El := ⟨x.nm, x.fB, decide (x.sz < r)⟩
def La.el (x : La) : El := ⟨x.nm, x.fB, true⟩
def Ra.el (x : Ra) : El := ⟨x.nm, x.fB, x.sB⟩
def Dr.el (x : Dr) : El := ⟨x.nm, x.fB, true⟩
def Ln.el (x : Ln) : El := ⟨x.nm, x.fB, true⟩
def Tb.elems2 (t : Tb) : List El := t.zs.map Zn.el ++ t.ss.map (Sc.el t.rad) ++ t.las.map La.el ++ t.rs.map Ra.el ++ t.ds.map Dr.el ++ t.lns.map Ln.el
def Tb.elems1 (t : Tb) : List El := t.ws.map Wl.el ++ t.ars.map (Ac.el t.rad) ++ t.ps.map Ps.el ++ t.fs.map Fl.el
def Tb.elems (t : Tb) : List El := t.elems1 ++ t.elems2
theorem fold_elems (t : Tb) : t.fold = t.elems.foldl El.look (0, []) := by
 unfold Tb.fold Tb.elems Tb.elems1 Tb.elems2
 simp only [List.foldl_append, List.foldl_map]
 rfl
theorem look_stay : ∀ (l : List El) (s : CS), s.1 ≠ 0 → l.foldl El.look s = s
 | [], s, h => rfl
 | x :: l, s, h => by
  have e : El.look s x = s := by unfold El.look lookR; rw [if_pos h]
  rw [List.foldl_cons, e]
  exact look_stay l s h
theorem elF_fold : ∀ (l : List El) (seen : List ByteArray), (l.foldl El.look (0, seen)).1 = elF seen l
 | [], seen => rfl
 | x :: l, seen => by
  have e : El.look (0, seen) x = (lookC seen x.nm x.rg x.fm, seen ++ [x.nm]) := by unfold El.look lookR; rw [if_neg (by simp)]
  rw [List.foldl_cons, e]
  unfold elF
  unfold lookC
  split
  · rw [look_stay _ _ (by simp)]
  · split
    · rw [look_stay _ _ (by simp)]
    · split
      · rw [look_stay _ _ (by simp)]
      · split
        · rw [look_stay _ _ (by simp)]
        · exact elF_fold l _
def sm30 (x y : Int) : Bool := decide (-1073741824 ≤ x) && decide (x ≤ 1073741824) && decide (-1073741824 ≤ y) && decide (y ≤ 1073741824)
def nearerR (a b : Vc) (n : Int) : Bool := sm30 a.x a.y && sm30 b.x b.y && (decide (max (a.x - b.x) (-(a.x - b.x)) < n) && decide (max (a.y - b.y) (-(a.y - b.y)) < n) && decide ((a.x - b.x) * (a.x - b.x) + (a.y - b.y) * (a.y - b.y) < n * n))
theorem sq_lt {x y n : Int} (hn : 0 < n) (h : x * x + y * y < n * n) : max x (-x) < n := by
 have hy : 0 ≤ y * y := by
  rcases Int.le_total 0 y with h | h
  · exact Int.mul_nonneg h h
  · have := Int.mul_nonneg (show 0 ≤ -y by omega) (show 0 ≤ -y by omega); grind
 have hx : x * x < n * n := by omega
 rcases Int.lt_or_le (max x (-x)) n with h1 | h1
 · exact h1
 · exfalso
   have h2 : n * n ≤ max x (-x) * max x (-x) := Int.mul_le_mul h1 h1 (by omega) (by omega)
   have h3 : max x (-x) * max x (-x) = x * x := by
    rcases Int.le_total x (-x) with h | h
    · rw [Int.max_eq_right h]; grind
    · rw [Int.max_eq_left h]
   omega
theorem nearV_sm {x y : Int} (h : nearV 1048576 ⟨x, y⟩ = true) : sm30 x y = true := by
 simp only [nearV, in1, Bool.and_eq_true, decide_eq_true_eq] at h
 simp only [sm30, Bool.and_eq_true, decide_eq_true_eq]
 omega
theorem nearer_eq {a b : Vc} {n : Int} (ha : nearV 1048576 a = true) (hb : nearV 1048576 b = true) (hn : 0 < n) : nearerR a b n = nearR a b n := by
 unfold nearerR nearR
 rw [show sm30 a.x a.y = true from nearV_sm ha, show sm30 b.x b.y = true from nearV_sm hb]
 by_cases h : (a.x - b.x) * (a.x - b.x) + (a.y - b.y) * (a.y - b.y) < n * n
 · rw [decide_eq_true h, decide_eq_true (sq_lt hn h), decide_eq_true (sq_lt (x := a.y - b.y) (y := a.x - b.x) hn (by omega))]
   rfl
 · rw [decide_eq_false h]
   simp
theorem elF_zero : ∀ (l : List El) (seen : List ByteArray), elF seen l = 0 → ∀ x ∈ l, x.rg = true
 | [], seen, h, x, hx => by simp at hx
 | y :: l, seen, h, x, hx => by
  unfold elF at h
  split at h
  · exact absurd h (by decide)
  · split at h
    · exact absurd h (by decide)
    · split at h
      · exact absurd h (by decide)
      · rename_i h5
        split at h
        · exact absurd h (by decide)
        · rcases List.mem_cons.1 hx with rfl | hx
          · simpa using h5
          · exact elF_zero l _ h x hx
end Go.Proofs.YtbpcjpiaimdpnaaGreatDoor
namespace Go.Proofs.YtbpcjpiaimdpnaaGreatDoor
open Go Go.RowKit
set_option linter.unusedVariables false
set_option maxRecDepth 100000 in
def fr266 (s : Nat → Value) : List Value := s 0 :: s 1 :: s 2 :: s 3 :: s 4 :: s 5 :: s 6 :: s 7 :: s 8 :: s 9 :: s 10 :: s 11 :: s 12 :: s 13 :: s 14 :: s 15 :: s 16 :: s 17 :: s 18 :: s 19 :: s 20 :: s 21 :: s 22 :: s 23 :: s 24 :: s 25 :: s 26 :: s 27 :: s 28 :: s 29 :: s 30 :: s 31 :: s 32 :: s 33 :: s 34 :: s 35 :: s 36 :: s 37 :: s 38 :: s 39 :: s 40 :: s 41 :: s 42 :: s 43 :: s 44 :: s 45 :: s 46 :: s 47 :: s 48 :: s 49 :: s 50 :: s 51 :: s 52 :: s 53 :: s 54 :: s 55 :: s 56 :: s 57 :: s 58 :: s 59 :: s 60 :: s 61 :: s 62 :: s 63 :: s 64 :: s 65 :: s 66 :: s 67 :: s 68 :: s 69 :: s 70 :: s 71 :: s 72 :: s 73 :: s 74 :: s 75 :: s 76 :: s 77 :: s 78 :: s 79 :: s 80 :: s 81 :: s 82 :: s 83 :: s 84 :: s 85 :: s 86 :: s 87 :: s 88 :: s 89 :: s 90 :: s 91 :: s 92 :: s 93 :: s 94 :: s 95 :: s 96 :: s 97 :: s 98 :: s 99 :: s 100 :: s 101 :: s 102 :: s 103 :: s 104 :: s 105 :: s 106 :: s 107 :: s 108 :: s 109 :: s 110 :: s 111 :: s 112 :: s 113 :: s 114 :: s 115 :: s 116 :: s 117 :: s 118 :: s 119 :: s 120 :: s 121 :: s 122 :: s 123 :: s 124 :: s 125 :: s 126 :: s 127 :: s 128 :: s 129 :: s 130 :: s 131 :: s 132 :: s 133 :: s 134 :: s 135 :: s 136 :: s 137 :: s 138 :: s 139 :: s 140 :: s 141 :: s 142 :: s 143 :: s 144 :: s 145 :: s 146 :: s 147 :: s 148 :: s 149 :: s 150 :: s 151 :: s 152 :: s 153 :: s 154 :: s 155 :: s 156 :: s 157 :: s 158 :: s 159 :: s 160 :: s 161 :: s 162 :: s 163 :: s 164 :: s 165 :: s 166 :: s 167 :: s 168 :: s 169 :: s 170 :: s 171 :: s 172 :: s 173 :: s 174 :: s 175 :: s 176 :: s 177 :: s 178 :: s 179 :: s 180 :: s 181 :: s 182 :: s 183 :: s 184 :: s 185 :: s 186 :: s 187 :: s 188 :: s 189 :: s 190 :: s 191 :: s 192 :: s 193 :: s 194 :: s 195 :: s 196 :: s 197 :: s 198 :: s 199 :: s 200 :: s 201 :: s 202 :: s 203 :: s 204 :: s 205 :: s 206 :: s 207 :: s 208 :: s 209 :: s 210 :: s 211 :: s 212 :: s 213 :: s 214 :: s 215 :: s 216 :: s 217 :: s 218 :: s 219 :: s 220 :: s 221 :: s 222 :: s 223 :: s 224 :: s 225 :: s 226 :: s 227 :: s 228 :: s 229 :: s 230 :: s 231 :: s 232 :: s 233 :: s 234 :: s 235 :: s 236 :: s 237 :: s 238 :: s 239 :: s 240 :: s 241 :: s 242 :: s 243 :: s 244 :: s 245 :: s 246 :: s 247 :: s 248 :: s 249 :: s 250 :: s 251 :: s 252 :: s 253 :: s 254 :: s 255 :: s 256 :: s 257 :: s 258 :: s 259 :: s 260 :: s 261 :: s 262 :: s 263 :: s 264 :: s 265 :: []
set_option maxRecDepth 100000 in
theorem fr266_ex (L : List Value) (h : L.length = 266) : ∃ s : Nat → Value, L = fr266 s := ⟨fun i => L.getD i undef, (map_getD L 266 h).trans (by kernel_rfl)⟩
set_option maxRecDepth 100000 in
def fr291 (s : Nat → Value) : List Value := s 0 :: s 1 :: s 2 :: s 3 :: s 4 :: s 5 :: s 6 :: s 7 :: s 8 :: s 9 :: s 10 :: s 11 :: s 12 :: s 13 :: s 14 :: s 15 :: s 16 :: s 17 :: s 18 :: s 19 :: s 20 :: s 21 :: s 22 :: s 23 :: s 24 :: s 25 :: s 26 :: s 27 :: s 28 :: s 29 :: s 30 :: s 31 :: s 32 :: s 33 :: s 34 :: s 35 :: s 36 :: s 37 :: s 38 :: s 39 :: s 40 :: s 41 :: s 42 :: s 43 :: s 44 :: s 45 :: s 46 :: s 47 :: s 48 :: s 49 :: s 50 :: s 51 :: s 52 :: s 53 :: s 54 :: s 55 :: s 56 :: s 57 :: s 58 :: s 59 :: s 60 :: s 61 :: s 62 :: s 63 :: s 64 :: s 65 :: s 66 :: s 67 :: s 68 :: s 69 :: s 70 :: s 71 :: s 72 :: s 73 :: s 74 :: s 75 :: s 76 :: s 77 :: s 78 :: s 79 :: s 80 :: s 81 :: s 82 :: s 83 :: s 84 :: s 85 :: s 86 :: s 87 :: s 88 :: s 89 :: s 90 :: s 91 :: s 92 :: s 93 :: s 94 :: s 95 :: s 96 :: s 97 :: s 98 :: s 99 :: s 100 :: s 101 :: s 102 :: s 103 :: s 104 :: s 105 :: s 106 :: s 107 :: s 108 :: s 109 :: s 110 :: s 111 :: s 112 :: s 113 :: s 114 :: s 115 :: s 116 :: s 117 :: s 118 :: s 119 :: s 120 :: s 121 :: s 122 :: s 123 :: s 124 :: s 125 :: s 126 :: s 127 :: s 128 :: s 129 :: s 130 :: s 131 :: s 132 :: s 133 :: s 134 :: s 135 :: s 136 :: s 137 :: s 138 :: s 139 :: s 140 :: s 141 :: s 142 :: s 143 :: s 144 :: s 145 :: s 146 :: s 147 :: s 148 :: s 149 :: s 150 :: s 151 :: s 152 :: s 153 :: s 154 :: s 155 :: s 156 :: s 157 :: s 158 :: s 159 :: s 160 :: s 161 :: s 162 :: s 163 :: s 164 :: s 165 :: s 166 :: s 167 :: s 168 :: s 169 :: s 170 :: s 171 :: s 172 :: s 173 :: s 174 :: s 175 :: s 176 :: s 177 :: s 178 :: s 179 :: s 180 :: s 181 :: s 182 :: s 183 :: s 184 :: s 185 :: s 186 :: s 187 :: s 188 :: s 189 :: s 190 :: s 191 :: s 192 :: s 193 :: s 194 :: s 195 :: s 196 :: s 197 :: s 198 :: s 199 :: s 200 :: s 201 :: s 202 :: s 203 :: s 204 :: s 205 :: s 206 :: s 207 :: s 208 :: s 209 :: s 210 :: s 211 :: s 212 :: s 213 :: s 214 :: s 215 :: s 216 :: s 217 :: s 218 :: s 219 :: s 220 :: s 221 :: s 222 :: s 223 :: s 224 :: s 225 :: s 226 :: s 227 :: s 228 :: s 229 :: s 230 :: s 231 :: s 232 :: s 233 :: s 234 :: s 235 :: s 236 :: s 237 :: s 238 :: s 239 :: s 240 :: s 241 :: s 242 :: s 243 :: s 244 :: s 245 :: s 246 :: s 247 :: s 248 :: s 249 :: s 250 :: s 251 :: s 252 :: s 253 :: s 254 :: s 255 :: s 256 :: s 257 :: s 258 :: s 259 :: s 260 :: s 261 :: s 262 :: s 263 :: s 264 :: s 265 :: s 266 :: s 267 :: s 268 :: s 269 :: s 270 :: s 271 :: s 272 :: s 273 :: s 274 :: s 275 :: s 276 :: s 277 :: s 278 :: s 279 :: s 280 :: s 281 :: s 282 :: s 283 :: s 284 :: s 285 :: s 286 :: s 287 :: s 288 :: s 289 :: s 290 :: []
set_option maxRecDepth 100000 in
theorem fr291_ex (L : List Value) (h : L.length = 291) : ∃ s : Nat → Value, L = fr291 s := ⟨fun i => L.getD i undef, (map_getD L 291 h).trans (by kernel_rfl)⟩
def El.cells (x : El) : List Value := [.string x.nm, .bool x.rg, .bool x.fm]
def ElOwn (w : World) (base : Nat) (A : Option Addr) (c : Nat) (L : List El) : Prop := w.ownsRow base 91 3 (.slice A L.length c) L.length (L.flatMap El.cells)
theorem ElOwn.snoc {w : World} {base : Nat} {A : Option Addr} {c : Nat} {L : List El} {e : El} (h : w.ownsRow base 91 3 (.slice A (L.length + 1) c) (L.length + 1) (L.flatMap El.cells ++ e.cells)) : ElOwn w base A c (L ++ [e]) := by
 unfold ElOwn
 rw [List.length_append, List.flatMap_append]
 simpa using h
theorem infEl : (Tryz.prog.info? 91).map (fun i => (i.zero, i.size, i.bytes)) = some (some (.agg #[.string ⟨#[]⟩, .bool false, .bool false]), 3, 24) := by kernel_rfl
theorem el_snoc {α : Type} (f : α → El) {l : List α} {k : Nat} {x : α} (hx : l[k]? = some x) (L0 : List El) : (L0 ++ (l.take k).map f) ++ [f x] = L0 ++ (l.take (k + 1)).map f := by
 rw [List.take_add_one, hx, Option.toList_some, List.map_append, List.append_assoc]
 rfl
attribute [local go_sem ↓] evalL getL64 setL64
attribute [local go_sem ↓] getL8 setL8
attribute [local go_sem ↓] getL1 getL0
set_option maxRecDepth 100000 in
set_option maxHeartbeats 8000000 in
theorem le_ws (w wr : World) (base : Nat) (A A0 : Option Addr) (c c0 : Nat) (l : List Wl) (L0 : List El) (TC : List Value) (df : List Deferred) (F : List Value) (hF : F.length = 266) (f1 : F[1]? = some (.pointer (some ⟨w.heap.size, 0, none⟩))) (f3 : F[3]? = some (.slice A0 L0.length c0)) (f4 : F[4]? = some (.int .i64 0))
  (hTC : TC[8]? = some (.slice A l.length c)) (hA : RowsAt 13 Wl.cells w A l) (hl : l.length ≤ 1000) (hL : L0.length ≤ 100000) (hwb : w.heap.size < base) (hb : Below w.heap.size w wr) (hbs : base ≤ wr.heap.size) (hT : BoxAt wr w.heap.size TC) (hX : ElOwn wr base A0 c0 L0) (R : Act → World → Prop)
  (hR : ∀ (F' : List Value) (w' : World) (A' : Option Addr) (c' : Nat), F'.length = 266 → F'[1]? = F[1]? → F'[2]? = F[2]? → F'[3]? = some (.slice A' (L0 ++ l.map Wl.el).length c') → Below w.heap.size w w' → base ≤ w'.heap.size → BoxAt w' w.heap.size TC → ElOwn w' base A' c' (L0 ++ l.map Wl.el) → R ⟨F'.toArray, df⟩ w') :
  (blkOf 0 Tryz.f36).wp Tryz.prog (AtEnd R) ⟨F.toArray, df⟩ wr := by
 obtain ⟨s, rfl⟩ := fr266_ex F hF
 have e1 : s 1 = .pointer (some ⟨w.heap.size, 0, none⟩) := Option.some.inj f1
 have e3 : s 3 = .slice A0 L0.length c0 := Option.some.inj f3
 have e4 : s 4 = .int .i64 0 := Option.some.inj f4
 unfold fr266
 rw [e1, e3, e4]
 have HE1 := hQ0 e1
 clear hF e1 f1 e3 f3 e4 f4
 have HA := hQ0 hA
 have HR := hQ0 hR
 have HLl := hQ0 hL
 have HT := hQ0 hT
 have HX := hQ0 hX
 have HB := hQ0 hb
 have HTC := hQ0 hTC
 clear hA hR hL hT hX hb hTC
 conv in (blkOf _ _) => whnf
 go_wp2_with fail
 go_loopg [3, 4] (l.length + 1) (fun gk t3 tt wr => ∃ (k : Nat) (A1 : Option Addr) (c1 : Nat), k ≤ l.length ∧ l.length - k < gk ∧ t3 = .slice A1 (L0 ++ (l.take k).map Wl.el).length c1 ∧ tt = .int .i64 k ∧ base ≤ wr.heap.size ∧ Hid (Below w.heap.size w wr ∧ BoxAt wr w.heap.size TC ∧ ElOwn wr base A1 c1 (L0 ++ (l.take k).map Wl.el)))
 case atStart => exact ⟨0, A0, c0, by omega, by omega, by simp, rfl, hbs, hQ0 ⟨HB.out, HT.out, by simpa using HX.out⟩⟩
 case round =>
  obtain ⟨wq, rfl⟩ : ∃ z, z = wr := ⟨_, rfl⟩
  clear HB HT HX hbs
  obtain ⟨k, A1, c1_, hk, hkk, rfl, rfl, hbs, HJ⟩ := hrel
  have hz_wq := HJ.out.1.size
  obtain ⟨L, hL⟩ : ∃ L : List El, L = L0 ++ (l.take k).map Wl.el := ⟨_, rfl⟩
  rw [← hL] at HJ ⊢
  have HL := hQ0 hL
  clear hL
  have tq := HJ.out.2.1.c 8 _ HTC.out
  have hltT := HJ.out.2.1.lt
  by_cases hlt : k < l.length
  · obtain ⟨x, hx⟩ : ∃ x, l[k]? = some x := ⟨l[k], by simp⟩
    obtain ⟨g, o, rfl, hg, c0, c1, c2, c3, c4, c5, c6, c7, c8, c9, c10, c11, c12⟩ := Wl.get (HA.out.below HJ.out.1 (Nat.le_refl _)) hx
    have i1 : (k : Int) < (l.length : Int) := by omega
    have HXX := hQ0 hx
    clear hx
    go_upto_region 6 with (fail)
    (refine pin_eqT (fun w3 hE_w3 => ?_))
    obtain ⟨gb, hgb⟩ : ∃ z, z = wq.heap.size := ⟨_, rfl⟩
    rw [← hgb]
    have HX3 : Hid (BoxAt w3 gb x.cells) := hQ0 (by rw [hE_w3, hgb]; exact BoxAt.new _ _ _)
    have HJ3 : Hid (Below w.heap.size w w3 ∧ BoxAt w3 w.heap.size TC ∧ ElOwn w3 base A1 c1_ L) := hQ0 (by
     rw [hE_w3]
     exact ⟨HJ.out.1.alloc hz_wq _, HJ.out.2.1.alloc _, own_below HJ.out.2.2 ((Below.refl _ _).alloc (Nat.le_refl _) _) (Nat.le_refl _)⟩)
    have hz3 : wq.heap.size < w3.heap.size := by rw [hE_w3]; simp
    clear hgb hE_w3 c0 c1 c2 c3 c4 c5 c6 c7 c8 c9 c10 c11 c12 hg tq hltT
    have y0 := HX3.out.c 0 _ rfl
    have y1 := HX3.out.c 1 _ rfl
    have y2 := HX3.out.c 2 _ rfl
    have y3 := HX3.out.c 3 _ rfl
    have y4 := HX3.out.c 4 _ rfl
    have y5 := HX3.out.c 5 _ rfl
    have y6 := HX3.out.c 6 _ rfl
    have y7 := HX3.out.c 7 _ rfl
    have y8 := HX3.out.c 8 _ rfl
    have y9 := HX3.out.c 9 _ rfl
    have y10 := HX3.out.c 10 _ rfl
    have y11 := HX3.out.c 11 _ rfl
    have y12 := HX3.out.c 12 _ rfl
    have lt_ := HX3.out.lt
    obtain ⟨d_, hd_⟩ : ∃ b, b = (((((((((in1 1 4 x.kd && in1 0 3 x.lv) && nearV 1048576 ⟨x.a1, x.a2⟩) && nearV 1048576 ⟨x.b1, x.b2⟩) && in1 0 15 x.rs) && in1 0 15 x.gr) && in1 0 16384 x.kk) && in1 0 16384 x.mn) && in1 (-1) 31 x.cl) && in1 (-1) 63 x.sw) := ⟨_, rfl⟩
    have HF : Hid (d_ = x.fB) := hQ0 (by rw [hd_]; first | rfl | (simp only [Wl.fB]; first | ac_rfl | (simp only [Bool.and_assoc]; done)))
    have hb3 := Below.refl w3.heap.size w3
    revert hd_
    cases h0 : in1 1 4 x.kd
    rotate_left
    cases h1 : in1 0 3 x.lv
    rotate_left
    cases h2 : nearV 1048576 ⟨x.a1, x.a2⟩
    rotate_left
    cases h3 : nearV 1048576 ⟨x.b1, x.b2⟩
    rotate_left
    cases h4 : in1 0 15 x.rs
    rotate_left
    cases h5 : in1 0 15 x.gr
    rotate_left
    cases h6 : in1 0 16384 x.kk
    rotate_left
    cases h7 : in1 0 16384 x.mn
    rotate_left
    cases h8 : in1 (-1) 31 x.cl
    rotate_left
    cases h9 : in1 (-1) 63 x.sw
    rotate_left
    all_goals (
     intro hd_
     simp only [Bool.and_true, Bool.true_and, Bool.and_false, Bool.false_and] at hd_
     have HD := hQ0 hd_
     clear hd_
     go_upto_region 7 with (first | (go_at_call 34; refine (rin_any _ _ _ _).mono ?_; rintro e w9 ⟨rfl, hb9⟩; replace hb3 := hb3.trans (hb9.mono hb3.size); replace HX3 := hQ0 (HX3.out.below hb9 HX3.out.lt); clear hb9 lt_ y0 y1 y2 y3 y4 y5 y6 y7 y8 y9 y10 y11 y12; have y0 := HX3.out.c 0 _ rfl; have y1 := HX3.out.c 1 _ rfl; have y2 := HX3.out.c 2 _ rfl; have y3 := HX3.out.c 3 _ rfl; have y4 := HX3.out.c 4 _ rfl; have y5 := HX3.out.c 5 _ rfl; have y6 := HX3.out.c 6 _ rfl; have y7 := HX3.out.c 7 _ rfl; have y8 := HX3.out.c 8 _ rfl; have y9 := HX3.out.c 9 _ rfl; have y10 := HX3.out.c 10 _ rfl; have y11 := HX3.out.c 11 _ rfl; have y12 := HX3.out.c 12 _ rfl; have lt_ := HX3.out.lt) | (go_at_call 35; refine (rnear_any _ _ _ _ (by decide) (by decide)).mono ?_; rintro e w9 ⟨rfl, hb9⟩; replace hb3 := hb3.trans (hb9.mono hb3.size); replace HX3 := hQ0 (HX3.out.below hb9 HX3.out.lt); clear hb9 lt_ y0 y1 y2 y3 y4 y5 y6 y7 y8 y9 y10 y11 y12; have y0 := HX3.out.c 0 _ rfl; have y1 := HX3.out.c 1 _ rfl; have y2 := HX3.out.c 2 _ rfl; have y3 := HX3.out.c 3 _ rfl; have y4 := HX3.out.c 4 _ rfl; have y5 := HX3.out.c 5 _ rfl; have y6 := HX3.out.c 6 _ rfl; have y7 := HX3.out.c 7 _ rfl; have y8 := HX3.out.c 8 _ rfl; have y9 := HX3.out.c 9 _ rfl; have y10 := HX3.out.c 10 _ rfl; have y11 := HX3.out.c 11 _ rfl; have y12 := HX3.out.c 12 _ rfl; have lt_ := HX3.out.lt))
     obtain ⟨w4, rfl⟩ : ∃ z, z = w9 := ⟨_, rfl⟩
     clear lt_ y0 y1 y2 y3 y4 y5 y6 y7 y8 y9 y10 y11 y12
     clear h0
     have HX4 := HX3
     have HJ4 : Hid (Below w.heap.size w w4 ∧ BoxAt w4 w.heap.size TC ∧ ElOwn w4 base A1 c1_ L) := hQ0 ⟨HJ3.out.1.trans (hb3.mono (by omega)), HJ3.out.2.1.below hb3 (by omega), own_below HJ3.out.2.2 hb3 (Nat.le_refl _)⟩
     have hz4 : wq.heap.size < w4.heap.size := Nat.lt_of_lt_of_le hz3 hb3.size
     clear hb3 HX3 HJ3 hz3
     obtain ⟨s0, hs0⟩ : ∃ b, b = (x.sB) := ⟨_, rfl⟩
     have HHs0 := hQ0 hs0
     clear hs0
     have hS_ : (Below w4.heap.size w4) w4.drew := (Below.refl _ _).drew
     refine wp_region_Y (Below w4.heap.size w4) 11 [11, 12] (by kernel_rfl) (by kernel_rfl) (by kernel_rfl) (by kernel_rfl) (fun _ _ _ _ _ h => h) hS_ ?_
     generalize w4.drew = wd_ at hS_  ⊢
     iterate 3 (apply wpY_seq 11 rfl (by kernel_rfl) true (by exact rfl); (case h => intro _ W_ hW_; have hcW_ := (bcellW hW_).1; have hY_ := (HX4.out).below hW_ (HX4.out.lt); have y0_ := hY_.c 0 (.string x.nm) (rfl); go_simp; try exact rfl); intro K hK; go_simp; apply hK; clear hK K)
     apply wpY_maybe (i := 3) rfl (by kernel_rfl) true (by exact rfl) (.bool d_)
     (case h => intro _ W_ hW_; have hcW_ := (bcellW hW_).1; go_simp; first | done | exact rfl | (rw [HD.out]))
     intro K hK; go_simp; apply hK; clear hK K
     iterate 4 (apply wpY_seq 11 rfl (by kernel_rfl) true (by exact rfl); (case h => intro _ W_ hW_; have hcW_ := (bcellW hW_).1; have hY_ := (HX4.out).below hW_ (HX4.out.lt); have y0_ := hY_.c 3 (.int .i64 x.a1) (rfl); have y1_ := hY_.c 4 (.int .i64 x.a2) (rfl); have y2_ := hY_.c 5 (.int .i64 x.b1) (rfl); have y3_ := hY_.c 6 (.int .i64 x.b2) (rfl); go_simp; try exact rfl); intro K hK; go_simp; apply hK; clear hK K)
     apply wpY_maybe (i := 8) rfl (by kernel_rfl) true (by exact rfl) (.bool s0)
     (case h => intro _ W_ hW_; have hcW_ := (bcellW hW_).1; go_simp; rw [HHs0.out]; first | done | exact rfl | (unfold Wl.sB; by_cases q1_ : x.a1 = x.b1 <;> by_cases q2_ : x.a2 = x.b2 <;> simp [q1_, q2_]))
     intro K hK; go_simp; apply hK; clear hK K
     apply wpY_maybe (i := 9) rfl (by kernel_rfl) true (by exact rfl)
     (case h => intro _ W_ hW_; have hcW_ := (bcellW hW_).1; go_simp; try exact rfl)
     intro K hK; go_simp; apply hK; clear hK K
     obtain ⟨wf_, rfl⟩ : ∃ z, z = wd_ := ⟨_, rfl⟩
     apply wpY_freshm (i := 10) rfl (by kernel_rfl) true (by exact rfl)
     (case h => intro _; generalize hev_ : Act.eval _ = ev_; (have v85_ := evE hev_ 85; simp only [getL64, getL8, getL1, getL0, opt_true, Bool.not_false] at v85_); have vc_ := evC hev_; clear hev_; go_simp; first | done | exact rfl | exact ⟨rfl, rfl⟩); (case hS' => exact (hS_).alloc (hS_).size _)
     intro K hK w_ hS2_ hw0_; have hw_ := hQ0 hw0_; clear hw0_; go_simp; apply hK; clear hK K hS_; have hS_ := hS2_; clear hS2_
     refine wpY_nil (by kernel_rfl) ?_
     (try simp only [List.filterMap_cons, List.filterMap_nil, List.getElem?_cons_succ, List.getElem?_cons_zero])
     (try go_simp)
     have hE_ := hw_.out rfl
     have HEL : Hid (Wl.el x = ⟨x.nm, d_, s0⟩) := hQ0 (by
      have h1 : d_ = x.fB := HF.out
      have h2 : s0 = (Wl.el x).fm := by simp only [HHs0.out]; first | rfl | (simp only [Wl.sB]; first | rfl | ac_rfl | (simp; done))
      rw [h1, h2]
      rfl)
     have hR_ : BoxAt w_ wf_.heap.size [.string x.nm, .bool d_, .bool s0] := by rw [hE_]; exact BoxAt.new wf_ [.string x.nm, .bool d_, .bool s0] _
     have HJ5 : Hid (Below w.heap.size w w_ ∧ BoxAt w_ w.heap.size TC ∧ ElOwn w_ base A1 c1_ L) := hQ0 ⟨HJ4.out.1.trans (hS_.mono (by have := HJ4.out.1.size; omega)), HJ4.out.2.1.below hS_ HJ4.out.2.1.lt, own_below HJ4.out.2.2 hS_ (Nat.le_refl _)⟩
     have hbs5 : base ≤ w_.heap.size := by have := hS_.size; omega
     have HLL : Hid (L.length ≤ 1000000) := hQ0 (by rw [HL.out, List.length_append, List.length_map, List.length_take]; have := HLl.out; omega)
     refine wpList_append_one rfl (.tmp 76) (.tmp 86) 88 91 _ 3 _ rfl Tryz.underlying88 infEl rfl (by decide) (by decide) base (.slice A1 L.length c1_) L.length (L.flatMap El.cells) [.string x.nm, .bool d_, .bool s0] (by go_simp; try exact rfl) HJ5.out.2.2 wf_.heap.size 1 (by go_simp; try exact rfl) rfl hR_.c (by simp [Value.oneCell']) HLL.out hbs5 ?_
     intro v7 w7 ho7 hg7 _
     obtain ⟨A2, c2, rfl⟩ := own_sl ho7
     have hfr : ∀ j, (Value.slice A1 L.length c1_).ownBlock = some j → base ≤ j := fun j hj => (World.ownsRow.lt HJ5.out.2.2 j hj).1
     have hX7 : ElOwn w7 base A2 c2 (L ++ [Wl.el x]) := ElOwn.snoc (by rw [HEL.out]; exact ho7)
     have hE : L ++ [Wl.el x] = L0 ++ (l.take (k + 1)).map Wl.el := by rw [HL.out]; exact el_snoc Wl.el HXX.out L0
     rw [hE] at hX7
     have hn7 : L.length + 1 = (L0 ++ (l.take (k + 1)).map Wl.el).length := by rw [← hE]; simp
     have HN7 := hQ0 hn7
     have HJ7 : Hid (Below w.heap.size w w7 ∧ BoxAt w7 w.heap.size TC ∧ ElOwn w7 base A2 c2 (L0 ++ (l.take (k + 1)).map Wl.el)) := hQ0 ⟨HJ5.out.1.trans (below_grown hg7 (fun j hj => by have := hfr j hj; omega) HJ5.out.1.size), boxAt_grown HJ5.out.2.1 hg7 (fun j hj e => by have := hfr j hj; omega), hX7⟩
     have hbs7 : base ≤ w7.heap.size := Nat.le_trans hbs5 hg7.size
     clear hX7 hfr hE ho7 hg7 hn7 hR_ hE_ hS_
     go_simp
     refine wpList_plain rfl fun K hK => ?_; go_simp; apply hK; clear hK K
     refine wpList_nil ?_
     (try go_simp)
     go_wp2_with fail
     go_roundg (l.length - (k + 1) + 1)
     case measure => omega
     case rel => exact ⟨k + 1, A2, c2, by omega, by omega, by rw [← HN7.out], by go_num, hbs7, HJ7⟩)
  · obtain rfl : k = l.length := by omega
    go_wp2_with fail
    show R _ _
    have hj := HJ.out
    have hL2 : L = L0 ++ l.map Wl.el := by rw [HL.out, List.take_length]
    rw [hL2] at hj ⊢
    exact HR.out _ _ A1 c1_ rfl (congrArg some HE1.out.symm) rfl rfl hj.1 hbs hj.2.1 hj.2.2
set_option maxHeartbeats 400000 in
theorem rsmall_any (x y : Int) (w : World) :
  Calls Tryz.prog 152 #[.agg #[.int .i64 x, .int .i64 y]] w fun e w' => e = .returned (.bool (smallB x y)) ∧ Below w.heap.size w w' := by
 go_enter Tryz.func152, Tryz.ntmps152
 go_wp2
 all_goals
  go_ret
  refine ⟨ret_bool ?_, by ((with_reducible (repeat (first | exact bR _ _ | apply bS | apply bA | apply bD | refine bT ?_ (by assumption) ?_ | refine bO (by assumption) ?_ ?_))) <;> (first | omega | (simp <;> omega)))⟩
  simp [smallB, *]
  try omega
set_option maxHeartbeats 400000 in
theorem rkept_sm (x y : Int) (w : World) (h : smallB x y = true) :
  Calls Tryz.prog 182 #[.agg #[.int .i64 x, .int .i64 y]] w fun e w' => e = .returned (.agg #[.int .i64 x, .int .i64 y]) ∧ Below w.heap.size w w' := by
 go_enter Tryz.func182, Tryz.ntmps182; (try simp only [List.append_eq, List.cons_append, List.nil_append])
 go_wp2_with (first | (go_at_call 152; refine (rsmall_any _ _ _).mono ?_; rintro e w1 ⟨rfl, hb1⟩; have hz1 : w.heap.size + 2 ≤ w1.heap.size := (by have h := hb1.size; (try simp at h); omega); have hbb := Below.mono hb1 (B' := w.heap.size + 2) (by (try simp) <;> omega); clear hb1; (with_reducible apply cel2 (b := w.heap.size) hbb); ((try simp) <;> omega); omega; (iterate 2 (focus (go_simp; try exact rfl))); (intro o; go_simp); intro cc cc fz hl; (with_reducible apply cel2 (b := w.heap.size + 1) hbb); ((try simp) <;> omega); omega; (iterate 2 (focus (go_simp; try exact rfl))); (intro o; go_simp); intro cc cc fz hl))
 refine bodyPost_ret (v := .agg #[.int .i64 x, .int .i64 y]) (by simp only [results, Tryz.results182]; go_simp) rfl ⟨?_, ?_⟩
 · rfl
 · ((with_reducible (repeat (first | exact bR _ _ | apply bS | apply bA | apply bD | refine bT ?_ (by assumption) ?_ | refine bO (by assumption) ?_ ?_))) <;> (first | omega | (simp <;> omega)))
set_option maxHeartbeats 400000 in
theorem rsub_sm (a b c d : Int) (w : World) (h1 : smallB a b = true) (h2 : smallB c d = true) (h3 : smallB (a - c) (b - d) = true) :
  Calls Tryz.prog 148 #[.agg #[.int .i64 a, .int .i64 b], .agg #[.int .i64 c, .int .i64 d]] w fun e w' => e = .returned (.agg #[.int .i64 (a - c), .int .i64 (b - d)]) ∧ Below w.heap.size w w' := by
 obtain ⟨q1, q2, q3, q4⟩ := small_bd h1
 obtain ⟨r1, r2, r3, r4⟩ := small_bd h2
 go_enter Tryz.func148, Tryz.ntmps148; (try simp only [List.append_eq, List.cons_append, List.nil_append])
 go_wp2_with (first | (go_at_call 152; refine (rsmall_any _ _ _).mono ?_; rintro e w1 ⟨rfl, hb1⟩; have hz1 : w.heap.size + 3 ≤ w1.heap.size := (by have h := hb1.size; (try simp at h); omega); have hbb := Below.mono hb1 (B' := w.heap.size + 3) (by (try simp) <;> omega); clear hb1; (with_reducible apply cel2 (b := w.heap.size) hbb); ((try simp) <;> omega); omega; (iterate 2 (focus (go_simp; try exact rfl))); (intro o; go_simp); intro cc cc fz hl; (with_reducible apply cel2 (b := w.heap.size + 1) hbb); ((try simp) <;> omega); omega; (iterate 2 (focus (go_simp; try exact rfl))); (intro o; go_simp); intro cc cc fz hl; (with_reducible apply cel2 (b := w.heap.size + 1 + 1) hbb); ((try simp) <;> omega); omega; (iterate 2 (focus (go_simp; try exact rfl))); (intro o; go_simp); intro cc cc fz hl) | (go_at_call 182; refine (rkept_sm _ _ _ h3).mono ?_; rintro e w1 ⟨rfl, hb1⟩; have hz1 : w.heap.size + 3 ≤ w1.heap.size := (by have h := hb1.size; (try simp at h); omega); have hbb := Below.mono hb1 (B' := w.heap.size + 3) (by (try simp) <;> omega); clear hb1; (with_reducible apply cel2 (b := w.heap.size) hbb); ((try simp) <;> omega); omega; (iterate 2 (focus (go_simp; try exact rfl))); (intro o; go_simp); intro cc cc fz hl; (with_reducible apply cel2 (b := w.heap.size + 1) hbb); ((try simp) <;> omega); omega; (iterate 2 (focus (go_simp; try exact rfl))); (intro o; go_simp); intro cc cc fz hl; (with_reducible apply cel2 (b := w.heap.size + 1 + 1) hbb); ((try simp) <;> omega); omega; (iterate 2 (focus (go_simp; try exact rfl))); (intro o; go_simp); intro cc cc fz hl))
 refine bodyPost_ret (v := .agg #[.int .i64 (a - c), .int .i64 (b - d)]) (by simp only [results, Tryz.results148]; go_simp) rfl ⟨?_, ?_⟩
 · rfl
 · ((with_reducible (repeat (first | exact bR _ _ | apply bS | apply bA | apply bD | refine bT ?_ (by assumption) ?_ | refine bO (by assumption) ?_ ?_))) <;> (first | omega | (simp <;> omega)))
set_option maxHeartbeats 400000 in
theorem rdot_sm (a b c d : Int) (w : World) (h1 : smallB a b = true) (h2 : smallB c d = true) :
  Calls Tryz.prog 149 #[.agg #[.int .i64 a, .int .i64 b], .agg #[.int .i64 c, .int .i64 d]] w fun e w' => e = .returned (.int .i64 (a * c + b * d)) ∧ Below w.heap.size w w' := by
 obtain ⟨q1, q2, q3, q4⟩ := small_bd h1
 obtain ⟨r1, r2, r3, r4⟩ := small_bd h2
 obtain ⟨m1, m2⟩ := mul_bd a c 1073741824 1073741824 q1 q2 r1 r2
 obtain ⟨m3, m4⟩ := mul_bd b d 1073741824 1073741824 q3 q4 r3 r4
 go_enter Tryz.func149, Tryz.ntmps149; (try simp only [List.append_eq, List.cons_append, List.nil_append])
 go_wp2_with (first | (go_at_call 152; refine (rsmall_any _ _ _).mono ?_; rintro e w1 ⟨rfl, hb1⟩; have hz1 : w.heap.size + 2 ≤ w1.heap.size := (by have h := hb1.size; (try simp at h); omega); have hbb := Below.mono hb1 (B' := w.heap.size + 2) (by (try simp) <;> omega); clear hb1; (with_reducible apply cel2 (b := w.heap.size) hbb); ((try simp) <;> omega); omega; (iterate 2 (focus (go_simp; try exact rfl))); (intro o; go_simp); intro cc cc fz hl; (with_reducible apply cel2 (b := w.heap.size + 1) hbb); ((try simp) <;> omega); omega; (iterate 2 (focus (go_simp; try exact rfl))); (intro o; go_simp); intro cc cc fz hl))
 go_ret
 refine ⟨rfl, ?_⟩
 ((with_reducible (repeat (first | exact bR _ _ | apply bS | apply bA | apply bD | refine bT ?_ (by assumption) ?_ | refine bO (by assumption) ?_ ?_))) <;> (first | omega | (simp <;> omega)))
set_option maxHeartbeats 400000 in
theorem rcross_sm (a b c d : Int) (w : World) (h1 : smallB a b = true) (h2 : smallB c d = true) :
  Calls Tryz.prog 151 #[.agg #[.int .i64 a, .int .i64 b], .agg #[.int .i64 c, .int .i64 d]] w fun e w' => e = .returned (.int .i64 (a * d - b * c)) ∧ Below w.heap.size w w' := by
 obtain ⟨q1, q2, q3, q4⟩ := small_bd h1
 obtain ⟨r1, r2, r3, r4⟩ := small_bd h2
 obtain ⟨m1, m2⟩ := mul_bd a d 1073741824 1073741824 q1 q2 r3 r4
 obtain ⟨m3, m4⟩ := mul_bd b c 1073741824 1073741824 q3 q4 r1 r2
 go_enter Tryz.func151, Tryz.ntmps151; (try simp only [List.append_eq, List.cons_append, List.nil_append])
 go_wp2_with (first | (go_at_call 152; refine (rsmall_any _ _ _).mono ?_; rintro e w1 ⟨rfl, hb1⟩; have hz1 : w.heap.size + 2 ≤ w1.heap.size := (by have h := hb1.size; (try simp at h); omega); have hbb := Below.mono hb1 (B' := w.heap.size + 2) (by (try simp) <;> omega); clear hb1; (with_reducible apply cel2 (b := w.heap.size) hbb); ((try simp) <;> omega); omega; (iterate 2 (focus (go_simp; try exact rfl))); (intro o; go_simp); intro cc cc fz hl; (with_reducible apply cel2 (b := w.heap.size + 1) hbb); ((try simp) <;> omega); omega; (iterate 2 (focus (go_simp; try exact rfl))); (intro o; go_simp); intro cc cc fz hl))
 go_ret
 refine ⟨rfl, ?_⟩
 ((with_reducible (repeat (first | exact bR _ _ | apply bS | apply bA | apply bD | refine bT ?_ (by assumption) ?_ | refine bO (by assumption) ?_ ?_))) <;> (first | omega | (simp <;> omega)))
theorem rootAux_spec : ∀ (i : Nat) (n r : Int), 0 ≤ r → r * r ≤ n → n < (r + 2 ^ i) * (r + 2 ^ i) → 0 ≤ rootAux i n r ∧ rootAux i n r * rootAux i n r ≤ n ∧ n < (rootAux i n r + 1) * (rootAux i n r + 1)
 | 0, n, r, h0, h1, h2 => ⟨h0, h1, by rw [show (2 : Int) ^ 0 = 1 from rfl] at h2; exact h2⟩
 | i + 1, n, r, h0, h1, h2 => by
  have hp : (0 : Int) < 2 ^ i := Int.pow_pos (by decide)
  unfold rootAux
  split
  · rename_i h
    refine rootAux_spec i n _ (by omega) h ?_
    have e : r + 2 ^ i + 2 ^ i = r + 2 ^ (i + 1) := by rw [Int.pow_succ]; omega
    rw [e]; exact h2
  · rename_i h
    exact rootAux_spec i n r h0 h1 (by omega)
theorem rootR_spec {n : Int} (h0 : 0 ≤ n) (h : n ≤ 9223372036854775807) : 0 ≤ rootR n ∧ rootR n * rootR n ≤ n ∧ n < (rootR n + 1) * (rootR n + 1) := by
 unfold rootR
 split
 · have : n = 0 := by omega
   subst this
   decide
 · exact rootAux_spec 32 n 0 (by omega) (by omega) (by
    have e : ((0 : Int) + 2 ^ 32) * (0 + 2 ^ 32) = 18446744073709551616 := by decide
    omega)
theorem mul_self_mono {a b : Int} (h0 : 0 ≤ a) (h : a ≤ b) : a * a ≤ b * b := Int.mul_le_mul h h h0 (by omega)
theorem root_iff {n m : Int} (hn : n ≤ 9223372036854775807) (hm : 1 ≤ m) : m ≤ rootR n ↔ m * m ≤ n := by
 rcases Int.lt_or_le n 0 with h | h
 · have e : rootR n = 0 := if_pos (by omega)
   have := mul_self_mono (show (0 : Int) ≤ 1 by decide) hm
   omega
 · obtain ⟨a, b, c⟩ := rootR_spec h hn
   constructor
   · intro g
     have := mul_self_mono (show 0 ≤ m by omega) g
     omega
   · intro g
     rcases Int.lt_or_le (rootR n) m with g2 | g2
     · have := mul_self_mono (show 0 ≤ rootR n + 1 by omega) (show rootR n + 1 ≤ m by omega)
       omega
     · exact g2
theorem root_bd {n : Int} (hn : n ≤ 9223372036854775807) : 0 ≤ rootR n ∧ rootR n ≤ 3037000499 := by
 rcases Int.lt_or_le n 0 with h | h
 · have e : rootR n = 0 := if_pos (by omega)
   omega
 · obtain ⟨a, b, c⟩ := rootR_spec h hn
   refine ⟨a, ?_⟩
   rcases Int.lt_or_le 3037000499 (rootR n) with g | g
   · have := mul_self_mono (show (0 : Int) ≤ 3037000500 by decide) (show 3037000500 ≤ rootR n by omega)
     omega
   · exact g
set_option maxHeartbeats 1000000 in
theorem rroot_any (n : Int) (w : World) (n1 : -9223372036854775808 ≤ n) (n2 : n ≤ 9223372036854775807) :
  Calls Tryz.prog 150 #[.int .i64 n] w fun e w' => e = .returned (.int .i64 (rootR n)) ∧ Below w.heap.size w w' := by
 have hb := root_bd n2
 have HI := hQ0 (fun m => @root_iff n m n2)
 obtain ⟨S, hS⟩ : ∃ S, S = rootR n := ⟨_, rfl⟩
 rw [← hS] at hb ⊢
 obtain ⟨s0, s1⟩ := hb
 have HS := hQ0 hS
 clear hS
 go_enter Tryz.func150, Tryz.ntmps150; (try simp only [List.append_eq, List.cons_append, List.nil_append])
 go_wp2_with fail
 go_loop [3, 4] (fun vl vh => ∃ l h : Int, vl = .int .i64 l ∧ vh = .int .i64 h ∧ 0 ≤ l ∧ l ≤ S ∧ S ≤ h ∧ h ≤ 3037000499) (fun vl vh => (intOf vh - intOf vl).toNat)
 case atStart => exact ⟨0, 3037000499, rfl, rfl, by omega, s0, s1, by omega⟩
 case round =>
  obtain ⟨l, h, rfl, rfl, l0, l1, h0, h1⟩ := hrel
  by_cases hlt : l < h
  · obtain ⟨m, hm⟩ : ∃ m, m = (l + h + 1) / 2 := ⟨_, rfl⟩
    have hq : (l + h + 1).tdiv 2 = m := by rw [hm]; exact Int.tdiv_eq_ediv_of_nonneg (by omega)
    have m0 : l + 1 ≤ m := by omega
    have m1 : m ≤ h := by omega
    have m2 : 0 ≤ m := by omega
    have hmm := Int.mul_le_mul (show m ≤ 3037000499 by omega) (show m ≤ 3037000499 by omega) m2 (by omega)
    have hmn := Int.mul_nonneg m2 m2
    have hiff := HI.out m (by omega)
    rw [← HS.out] at hiff
    have hm' := hm.symm
    obtain ⟨M, hM⟩ : ∃ M, M = m * m := ⟨_, rfl⟩
    rw [← hM] at hmm hmn hiff
    have hM' := hM.symm
    have HIF := hQ0 hiff
    clear hm hM hiff
    by_cases hc : M ≤ n
    · have hS := HIF.out.2 hc
      go_wp2_with fail
      go_round
      case rel => exact ⟨m, h, rfl, rfl, m2, hS, h0, h1⟩
      case measure => simp [intOf]; omega
    · have hS : ¬ m ≤ S := fun g => hc (HIF.out.1 g)
      go_wp2_with fail
      go_round
      case rel => exact ⟨l, m - 1, rfl, rfl, l0, l1, by omega, by omega⟩
      case measure => simp [intOf]; omega
  · obtain rfl : l = S := by omega
    go_wp2_with fail
    go_ret
    exact ⟨rfl, Below.refl _ _⟩
end Go.Proofs.YtbpcjpiaimdpnaaGreatDoor
