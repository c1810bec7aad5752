/- What the lifted vector is, of its candidates' set alone: plain laws. -/
import Derived.Test.YtklkhnhieihfoaaLiftA
namespace Go.Proofs.Ytklkhnhieihfoaa
open Go.RowKit
set_option linter.unusedVariables false
def kA (x c : V2) : Int := sqI (c.1 - x.1) (c.2 - x.2)
def kC (c : V2) : Int := sqI c.1 c.2
def leK (x c d : V2) : Prop := kA x c < kA x d ∨ (kA x c = kA x d ∧ kC c ≤ kC d)
theorem order_cases (x y h : V2) : (orderR x.1 x.2 y.1 y.2 h.1 h.2 = -1 ∧ ¬ leK x h y) ∨ (orderR x.1 x.2 y.1 y.2 h.1 h.2 = 0 ∧ leK x h y ∧ leK x y h) ∨ (orderR x.1 x.2 y.1 y.2 h.1 h.2 = 1 ∧ ¬ leK x y h) := by
  unfold orderR leK
  show ((if kA x y = kA x h then cmpV (kC y) (kC h) else cmpV (kA x y) (kA x h)) = -1 ∧ _) ∨ ((if kA x y = kA x h then cmpV (kC y) (kC h) else cmpV (kA x y) (kA x h)) = 0 ∧ _) ∨ ((if kA x y = kA x h then cmpV (kC y) (kC h) else cmpV (kA x y) (kA x h)) = 1 ∧ _)
  generalize kA x y = a
  generalize kA x h = b
  generalize kC y = c
  generalize kC h = d
  unfold cmpV
  split <;> (split <;> (try split) <;> omega)
theorem leK_trans {x a b c : V2} (h : leK x a b) (h' : leK x b c) : leK x a c := by unfold leK at *; omega
theorem leK_total {x a b : V2} (h : ¬ leK x a b) : leK x b a := by unfold leK at *; omega
theorem leK_refl (x a : V2) : leK x a a := by unfold leK; omega
def Least (x : V2) (S : V2 → Prop) (b : List V2) : Prop := b ≠ [] ∧ ∀ c, c ∈ b ↔ (S c ∧ ∀ d, S d → leK x c d)
theorem Least.congr {x : V2} {S S' : V2 → Prop} {b : List V2} (h : Least x S b) (hs : ∀ c, S c ↔ S' c) : Least x S' b :=
  ⟨h.1, fun c => by rw [h.2 c, hs c]; exact ⟨fun g => ⟨g.1, fun d hd => g.2 d ((hs d).2 hd)⟩, fun g => ⟨g.1, fun d hd => g.2 d ((hs d).1 hd)⟩⟩⟩
theorem headD_mem {b : List V2} (h : b ≠ []) : b.headD (0, 0) ∈ b := by cases b with
  | nil => exact absurd rfl h
  | cons a t => exact List.mem_cons_self ..
theorem Least.step {x : V2} {l : List V2} {S : V2 → Prop} {b : List V2} (h : Least x S b) (y : V2) : Least x (fun c => S c ∨ (c = y ∧ smB y = true ∧ allowedR y l = true)) (candR x l b y) := by
  unfold candR
  by_cases hg : smB y = true ∧ allowedR y l = true
  · rw [if_pos hg]
    have hm := headD_mem h.1
    generalize b.headD (0, 0) = hd at hm ⊢
    have hS := (h.2 hd).1 hm
    rcases order_cases x y hd with ⟨e, g⟩ | ⟨e, g, g'⟩ | ⟨e, g⟩
    · rw [if_pos e]
      have gy := leK_total g
      refine ⟨by simp, fun c => ?_⟩
      rw [List.mem_singleton]
      constructor
      · rintro rfl
        refine ⟨.inr ⟨rfl, hg⟩, fun d hd' => ?_⟩
        rcases hd' with hd' | ⟨rfl, _⟩
        · exact leK_trans gy (hS.2 d hd')
        · exact leK_refl _ _
      · rintro ⟨hc, hmin⟩
        rcases hc with hc | ⟨rfl, _⟩
        · exact absurd (leK_trans (hS.2 c hc) (hmin y (.inr ⟨rfl, hg⟩))) g
        · rfl
    · rw [if_neg (by rw [e]; decide), if_pos e]
      refine ⟨by simp, fun c => ?_⟩
      rw [List.mem_append, List.mem_singleton]
      constructor
      · rintro (hc | rfl)
        · have hc' := (h.2 c).1 hc
          refine ⟨.inl hc'.1, fun d hd' => ?_⟩
          rcases hd' with hd' | ⟨rfl, _⟩
          · exact hc'.2 d hd'
          · exact leK_trans (hc'.2 hd hS.1) g
        · refine ⟨.inr ⟨rfl, hg⟩, fun d hd' => ?_⟩
          rcases hd' with hd' | ⟨rfl, _⟩
          · exact leK_trans g' (hS.2 d hd')
          · exact leK_refl _ _
      · rintro ⟨hc, hmin⟩
        rcases hc with hc | ⟨rfl, _⟩
        · exact .inl ((h.2 c).2 ⟨hc, fun d hd' => hmin d (.inl hd')⟩)
        · exact .inr rfl
    · rw [if_neg (by rw [e]; decide), if_neg (by rw [e]; decide)]
      have gy := leK_total g
      refine ⟨h.1, fun c => ?_⟩
      constructor
      · intro hc
        have hc' := (h.2 c).1 hc
        refine ⟨.inl hc'.1, fun d hd' => ?_⟩
        rcases hd' with hd' | ⟨rfl, _⟩
        · exact hc'.2 d hd'
        · exact leK_trans (hc'.2 hd hS.1) gy
      · rintro ⟨hc, hmin⟩
        rcases hc with hc | ⟨rfl, _⟩
        · exact (h.2 c).2 ⟨hc, fun d hd' => hmin d (.inl hd')⟩
        · exact absurd (hmin hd (.inl hS.1)) g
  · rw [if_neg hg]
    exact h.congr fun c => ⟨.inl, fun hh => by
      rcases hh with hh | ⟨_, hh⟩
      · exact hh
      · exact absurd hh hg⟩
theorem Least.steps {x : V2} {l : List V2} : ∀ (ys : List V2) {S : V2 → Prop} {b : List V2}, Least x S b → Least x (fun c => S c ∨ (c ∈ ys ∧ smB c = true ∧ allowedR c l = true)) (ys.foldl (candR x l) b)
  | [], S, b, h => h.congr fun c => by simp
  | y :: ys, S, b, h => by
    refine (Least.steps ys (h.step (l := l) y)).congr fun c => ?_
    rw [List.mem_cons]
    constructor
    · rintro ((a | ⟨rfl, a⟩) | ⟨a, a'⟩)
      · exact .inl a
      · exact .inr ⟨.inl rfl, a⟩
      · exact .inr ⟨.inr a, a'⟩
    · rintro (a | ⟨rfl | a, a'⟩)
      · exact .inl (.inl a)
      · exact .inl (.inr ⟨rfl, a'⟩)
      · exact .inr ⟨a, a'⟩
theorem Least.walks {x : V2} {l : List V2} : ∀ (ns : List V2) {S : V2 → Prop} {b : List V2}, Least x S b → Least x (fun c => S c ∨ ((∃ n ∈ ns, vd x n < 0 ∧ c ∈ cornersR x n) ∧ smB c = true ∧ allowedR c l = true)) (ns.foldl (stepR x l) b)
  | [], S, b, h => h.congr fun c => by simp
  | n :: ns, S, b, h => by
    rw [List.foldl_cons]
    by_cases hn : 0 ≤ vd x n
    · rw [show stepR x l b n = b from if_pos hn]
      refine (Least.walks ns h).congr fun c => ?_
      constructor
      · rintro (a | ⟨⟨m, hm, a⟩, a'⟩)
        · exact .inl a
        · exact .inr ⟨⟨m, List.mem_cons_of_mem _ hm, a⟩, a'⟩
      · rintro (a | ⟨⟨m, hm, a⟩, a'⟩)
        · exact .inl a
        · rcases List.mem_cons.1 hm with rfl | hm
          · exact absurd a.1 (by omega)
          · exact .inr ⟨⟨m, hm, a⟩, a'⟩
    · rw [show stepR x l b n = (cornersR x n).foldl (candR x l) b from if_neg hn]
      refine (Least.walks ns (h.steps (l := l) (cornersR x n))).congr fun c => ?_
      constructor
      · rintro ((a | ⟨a, a'⟩) | ⟨⟨m, hm, a⟩, a'⟩)
        · exact .inl a
        · exact .inr ⟨⟨n, List.mem_cons_self .., by omega, a⟩, a'⟩
        · exact .inr ⟨⟨m, List.mem_cons_of_mem _ hm, a⟩, a'⟩
      · rintro (a | ⟨⟨m, hm, a⟩, a'⟩)
        · exact .inl (.inl a)
        · rcases List.mem_cons.1 hm with rfl | hm
          · exact .inl (.inr ⟨a.2, a'⟩)
          · exact .inr ⟨⟨m, hm, a⟩, a'⟩
/-- The candidates. -/
def isC (x : V2) (l : List V2) (c : V2) : Prop := c = (0, 0) ∨ ((∃ n ∈ l, vd x n < 0 ∧ c ∈ cornersR x n) ∧ smB c = true ∧ allowedR c l = true)
theorem best_least (x : V2) (l : List V2) : Least x (isC x l) (bestR x l) :=
  (Least.walks l (S := fun c => c = (0, 0)) ⟨by simp, fun c => by
    rw [List.mem_singleton]
    exact ⟨fun h => ⟨h, fun d hd => by rw [h, hd]; exact leK_refl _ _⟩, fun h => h.1⟩⟩)
theorem allowed_zero (l : List V2) : allowedR (0, 0) l = true := by
  unfold allowedR
  rw [List.all_eq_true]
  intro n _
  simp [vd]
theorem allowed_iff {y : V2} {l : List V2} : allowedR y l = true ↔ ∀ n ∈ l, 0 ≤ vd y n := by
  unfold allowedR
  rw [List.all_eq_true]
  exact ⟨fun h n hn => by simpa using h n hn, fun h n hn => by simpa using h n hn⟩
theorem isC_good {x c : V2} {l : List V2} (h : isC x l c) : smB c = true ∧ allowedR c l = true := by
  rcases h with rfl | ⟨_, h⟩
  · exact ⟨by decide, allowed_zero l⟩
  · exact h
/-- The picked one is the one best candidate, or zero. -/
theorem pick_cases {x : V2} {S : V2 → Prop} {b : List V2} (h : Least x S b) : (∃ c, S c ∧ (∀ d, S d → leK x c d) ∧ pickR b = c ∧ ∀ d, d ∈ b → d = c) ∨ (pickR b = (0, 0) ∧ ∃ c d, c ∈ b ∧ d ∈ b ∧ c ≠ d) := by
  have hm := headD_mem h.1
  unfold pickR
  split
  · rename_i he
    rw [List.all_eq_true] at he
    exact .inl ⟨_, ((h.2 _).1 hm).1, ((h.2 _).1 hm).2, rfl, fun d hd => by simpa using he d hd⟩
  · rename_i he
    have he' : b.all (fun y => decide (y = b.headD (0, 0))) = false := by simpa using he
    rw [List.all_eq_false] at he'
    obtain ⟨d, hd, hne⟩ := he'
    exact .inr ⟨rfl, d, _, hd, hm, by simpa using hne⟩
theorem pick_mem {b b' : List V2} (h0 : b ≠ []) (h0' : b' ≠ []) (f : V2 → V2) (hf : f (0, 0) = (0, 0)) (inj : ∀ a c, f a = f c → a = c) (h : ∀ c, c ∈ b' ↔ ∃ a, a ∈ b ∧ f a = c) : pickR b' = f (pickR b) := by
  have hm := headD_mem h0
  have hm' := headD_mem h0'
  unfold pickR
  by_cases he : b.all (fun y => decide (y = b.headD (0, 0))) = true
  · rw [if_pos he]
    rw [List.all_eq_true] at he
    have all' : ∀ c, c ∈ b' → c = f (b.headD (0, 0)) := fun c hc => by
      obtain ⟨a, ha, rfl⟩ := (h c).1 hc
      rw [show a = b.headD (0, 0) by simpa using he a ha]
    have e := all' _ hm'
    rw [if_pos (by rw [List.all_eq_true]; intro c hc; simp only [decide_eq_true_eq]; rw [all' c hc, e]), e]
  · rw [if_neg he, if_neg, hf]
    intro he'
    rw [List.all_eq_true] at he'
    apply he
    rw [List.all_eq_true]
    intro a ha
    have h1 := he' _ ((h _).2 ⟨a, ha, rfl⟩)
    have h2 := he' _ ((h _).2 ⟨_, hm, rfl⟩)
    simp only [decide_eq_true_eq] at h1 h2 ⊢
    exact inj _ _ (h1.trans h2.symm)
theorem lift_good {x : V2} {l : List V2} (hx : smB x = true) (hl : ∀ n ∈ l, smB n = true) : smB (liftR x l) = true ∧ allowedR (liftR x l) l = true := by
  unfold liftR
  rw [if_neg (by rw [hx]; decide), if_neg (by rw [List.all_eq_true.2 hl]; decide)]
  split
  · rename_i h; exact ⟨hx, h⟩
  · rcases pick_cases (best_least x l) with ⟨c, hc, _, e, _⟩ | ⟨e, _⟩
    · rw [e]; exact isC_good hc
    · rw [e]; exact ⟨by decide, allowed_zero l⟩
theorem lift_same {x : V2} {l : List V2} (hx : smB x = true) (hl : ∀ n ∈ l, smB n = true) (h : allowedR x l = true) : liftR x l = x := by
  unfold liftR
  rw [if_neg (by rw [hx]; decide), if_neg (by rw [List.all_eq_true.2 hl]; decide), if_pos h]
theorem lift_pick {x : V2} {l : List V2} (hx : smB x = true) (hl : ∀ n ∈ l, smB n = true) (h : ¬ allowedR x l = true) : liftR x l = pickR (bestR x l) := by
  unfold liftR
  rw [if_neg (by rw [hx]; decide), if_neg (by rw [List.all_eq_true.2 hl]; decide), if_neg h]
/-- The result depends on the set alone. -/
theorem lift_set {x : V2} {l l' : List V2} (hx : smB x = true) (hl : ∀ n ∈ l, smB n = true) (h : ∀ n, n ∈ l' ↔ n ∈ l) : liftR x l' = liftR x l := by
  have hl' : ∀ n ∈ l', smB n = true := fun n hn => hl n ((h n).1 hn)
  have ha : ∀ y, allowedR y l' = allowedR y l := fun y => bool_iff (by rw [allowed_iff, allowed_iff]; exact ⟨fun g n hn => g n ((h n).2 hn), fun g n hn => g n ((h n).1 hn)⟩)
  by_cases hal : allowedR x l = true
  · rw [lift_same hx hl hal, lift_same hx hl' (by rw [ha]; exact hal)]
  · rw [lift_pick hx hl hal, lift_pick hx hl' (by rw [ha]; exact hal)]
    have B := best_least x l
    have B' := best_least x l'
    have hC : ∀ c, isC x l' c ↔ isC x l c := fun c => by
      unfold isC
      rw [ha]
      constructor
      · rintro (a | ⟨⟨n, hn, a⟩, a'⟩)
        · exact .inl a
        · exact .inr ⟨⟨n, (h n).1 hn, a⟩, a'⟩
      · rintro (a | ⟨⟨n, hn, a⟩, a'⟩)
        · exact .inl a
        · exact .inr ⟨⟨n, (h n).2 hn, a⟩, a'⟩
    have B2 := B'.congr hC
    exact pick_mem B.1 B'.1 id rfl (fun _ _ e => e) (fun c => by
      rw [B2.2 c, ← B.2 c]
      simp)
def flipV (a : V2) : V2 := (-a.1, a.2)
theorem flip_flip (a : V2) : flipV (flipV a) = a := by unfold flipV; simp
theorem flip_inj (a c : V2) (h : flipV a = flipV c) : a = c := by rw [← flip_flip a, h, flip_flip]
theorem sm_flip (a : V2) : smB (flipV a) = smB a := bool_iff (by
  unfold flipV smB smallB
  simp only [decide_eq_true_eq]
  omega)
theorem vd_flip (a b : V2) : vd (flipV a) (flipV b) = vd a b := by unfold vd flipV; simp only [Int.neg_mul_neg]
theorem kA_flip (x c : V2) : kA (flipV x) (flipV c) = kA x c := by unfold kA sqI flipV; simp only; grind
theorem kC_flip (c : V2) : kC (flipV c) = kC c := by unfold kC sqI flipV; simp only; grind
theorem leK_flip (x c d : V2) : leK (flipV x) (flipV c) (flipV d) ↔ leK x c d := by unfold leK; rw [kA_flip, kA_flip, kC_flip, kC_flip]
theorem corners_flip (x n c : V2) : c ∈ cornersR (flipV x) (flipV n) ↔ flipV c ∈ cornersR x n := by
  unfold cornersR
  rw [vd_flip]
  obtain ⟨c1, c2⟩ := c
  obtain ⟨x1, x2⟩ := x
  obtain ⟨n1, n2⟩ := n
  simp only [flipV]
  generalize vd (n1, n2) (n1, n2) = D
  have e1 : -(-n1 * x2 - n2 * -x1) * n2 = -(-(n1 * x2 - n2 * x1) * n2) := by grind
  have e2 : (-n1 * x2 - n2 * -x1) * -n1 = (n1 * x2 - n2 * x1) * n1 := by grind
  rw [e1, e2]
  generalize -(n1 * x2 - n2 * x1) * n2 = P
  generalize (n1 * x2 - n2 * x1) * n1 = Q
  simp only [List.mem_cons, Prod.mk.injEq, List.not_mem_nil, or_false, Int.neg_neg]
  generalize P / D = p
  generalize -P / D = p'
  generalize Q / D = q
  generalize -Q / D = q'
  omega
theorem isC_flip (x : V2) (l : List V2) (c : V2) : isC (flipV x) (l.map flipV) (flipV c) ↔ isC x l c := by
  have ha : allowedR (flipV c) (l.map flipV) = allowedR c l := by
    unfold allowedR
    rw [List.all_map]
    congr 1
    funext n
    show decide (0 ≤ vd (flipV c) (flipV n)) = _
    rw [vd_flip]
  unfold isC
  rw [ha, sm_flip]
  have h0 : flipV c = (0, 0) ↔ c = (0, 0) := ⟨fun h => flip_inj _ _ (by rw [h]; rfl), fun h => by rw [h]; rfl⟩
  rw [h0]
  have h1 : (∃ n ∈ l.map flipV, vd (flipV x) n < 0 ∧ flipV c ∈ cornersR (flipV x) n) ↔ (∃ n ∈ l, vd x n < 0 ∧ c ∈ cornersR x n) := by
    constructor
    · rintro ⟨n, hn, a, b⟩
      obtain ⟨m, hm, rfl⟩ := List.mem_map.1 hn
      rw [vd_flip] at a
      rw [corners_flip, flip_flip] at b
      exact ⟨m, hm, a, b⟩
    · rintro ⟨n, hn, a, b⟩
      exact ⟨flipV n, List.mem_map.2 ⟨n, hn, rfl⟩, by rw [vd_flip]; exact a, by rw [corners_flip, flip_flip]; exact b⟩
  rw [h1]
theorem lift_flip {x : V2} {l : List V2} (hx : smB x = true) (hl : ∀ n ∈ l, smB n = true) : liftR (flipV x) (l.map flipV) = flipV (liftR x l) := by
  have hl' : ∀ n ∈ l.map flipV, smB n = true := fun n hn => by obtain ⟨m, hm, rfl⟩ := List.mem_map.1 hn; rw [sm_flip]; exact hl m hm
  have hx' : smB (flipV x) = true := by rw [sm_flip]; exact hx
  have ha : allowedR (flipV x) (l.map flipV) = allowedR x l := by
    unfold allowedR
    rw [List.all_map]
    congr 1
    funext n
    show decide (0 ≤ vd (flipV x) (flipV n)) = _
    rw [vd_flip]
  by_cases hal : allowedR x l = true
  · rw [lift_same hx hl hal, lift_same hx' hl' (by rw [ha]; exact hal)]
  · rw [lift_pick hx hl hal, lift_pick hx' hl' (by rw [ha]; exact hal)]
    have B := best_least x l
    have B' := best_least (flipV x) (l.map flipV)
    refine pick_mem B.1 B'.1 flipV rfl flip_inj (fun c => ?_)
    rw [B'.2 c]
    constructor
    · rintro ⟨hc, hmin⟩
      refine ⟨flipV c, (B.2 _).2 ⟨?_, fun d hd => ?_⟩, flip_flip c⟩
      · rw [← isC_flip, flip_flip]; exact hc
      · rw [← leK_flip, flip_flip]; exact hmin _ ((isC_flip x l d).2 hd)
    · rintro ⟨a, ha', rfl⟩
      obtain ⟨hc, hmin⟩ := (B.2 _).1 ha'
      refine ⟨(isC_flip x l a).2 hc, fun d hd => ?_⟩
      rw [← flip_flip d, leK_flip]
      exact hmin _ (by rw [← isC_flip, flip_flip]; exact hd)
end Go.Proofs.Ytklkhnhieihfoaa
