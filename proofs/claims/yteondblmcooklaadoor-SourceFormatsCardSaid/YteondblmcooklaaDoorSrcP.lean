/- What the statements of a text are: plain functions; no program in sight. -/
import Derived.Test.YteondblmcooklaaDoorScanSpec
import Derived.Lib.Hide
import Derived.KernelRfl
namespace Go.Proofs.YteondblmcooklaaDoor
open Go
structure KV where
  key : ByteArray
  vals : List Int
  at_ : Int
structure IV where
  word : ByteArray
  name : ByteArray
  keys : List KV
  at_ : Int
def tTable : ByteArray := ⟨#[116, 97, 98, 108, 101]⟩
/-- The words and the texts of their keys. -/
def txtTab : List (ByteArray × ByteArray) := [
  (⟨#[116, 97, 98, 108, 101]⟩, ⟨#[114, 97, 100, 105, 117, 115, 32, 49, 32, 98, 97, 108, 108, 115, 32, 49, 32, 103, 114, 97, 118, 105, 116, 121, 32, 50, 32, 100, 114, 97, 103, 32, 50, 32, 114, 101, 115, 116, 32, 49, 32, 116, 114, 111, 117, 103, 104, 32, 49]⟩),
  (⟨#[119, 97, 108, 108]⟩, ⟨#[108, 101, 118, 101, 108, 32, 49, 32, 102, 114, 111, 109, 32, 50, 32, 116, 111, 32, 50, 32, 114, 101, 115, 116, 32, 49, 32, 103, 114, 105, 112, 32, 49, 32, 107, 105, 99, 107, 32, 49, 32, 109, 105, 110, 32, 49, 32, 99, 111, 105, 108, 32, 49, 32, 115, 119, 105, 116, 99, 104, 32, 49]⟩),
  (⟨#[103, 97, 116, 101]⟩, ⟨#[108, 101, 118, 101, 108, 32, 49, 32, 102, 114, 111, 109, 32, 50, 32, 116, 111, 32, 50, 32, 114, 101, 115, 116, 32, 49, 32, 103, 114, 105, 112, 32, 49, 32, 107, 105, 99, 107, 32, 49, 32, 109, 105, 110, 32, 49, 32, 99, 111, 105, 108, 32, 49, 32, 115, 119, 105, 116, 99, 104, 32, 49]⟩),
  (⟨#[116, 97, 114, 103, 101, 116]⟩, ⟨#[108, 101, 118, 101, 108, 32, 49, 32, 102, 114, 111, 109, 32, 50, 32, 116, 111, 32, 50, 32, 114, 101, 115, 116, 32, 49, 32, 103, 114, 105, 112, 32, 49, 32, 107, 105, 99, 107, 32, 49, 32, 109, 105, 110, 32, 49, 32, 99, 111, 105, 108, 32, 49, 32, 115, 119, 105, 116, 99, 104, 32, 49]⟩),
  (⟨#[115, 108, 105, 110, 103]⟩, ⟨#[108, 101, 118, 101, 108, 32, 49, 32, 102, 114, 111, 109, 32, 50, 32, 116, 111, 32, 50, 32, 114, 101, 115, 116, 32, 49, 32, 103, 114, 105, 112, 32, 49, 32, 107, 105, 99, 107, 32, 49, 32, 109, 105, 110, 32, 49, 32, 99, 111, 105, 108, 32, 49, 32, 115, 119, 105, 116, 99, 104, 32, 49]⟩),
  (⟨#[97, 114, 99]⟩, ⟨#[108, 101, 118, 101, 108, 32, 49, 32, 99, 101, 110, 116, 101, 114, 32, 50, 32, 102, 114, 111, 109, 32, 50, 32, 116, 111, 32, 50, 32, 114, 101, 115, 116, 32, 49, 32, 103, 114, 105, 112, 32, 49, 32, 109, 105, 110, 32, 49, 32, 115, 119, 105, 116, 99, 104, 32, 49]⟩),
  (⟨#[112, 111, 115, 116]⟩, ⟨#[108, 101, 118, 101, 108, 32, 49, 32, 99, 101, 110, 116, 101, 114, 32, 50, 32, 115, 105, 122, 101, 32, 49, 32, 114, 101, 115, 116, 32, 49, 32, 103, 114, 105, 112, 32, 49, 32, 107, 105, 99, 107, 32, 49, 32, 109, 105, 110, 32, 49, 32, 99, 111, 105, 108, 32, 49, 32, 115, 119, 105, 116, 99, 104, 32, 49]⟩),
  (⟨#[102, 108, 105, 112, 112, 101, 114]⟩, ⟨#[108, 101, 118, 101, 108, 32, 49, 32, 99, 101, 110, 116, 101, 114, 32, 50, 32, 108, 101, 110, 103, 116, 104, 32, 49, 32, 109, 105, 114, 114, 111, 114, 32, 48, 32, 114, 97, 110, 103, 101, 32, 50, 32, 117, 112, 32, 49, 32, 100, 111, 119, 110, 32, 49, 32, 109, 97, 120, 32, 49, 32, 114, 101, 115, 116, 32, 49, 32, 103, 114, 105, 112, 32, 49, 32, 99, 111, 105, 108, 32, 49, 32, 115, 119, 105, 116, 99, 104, 32, 49]⟩),
  (⟨#[122, 111, 110, 101]⟩, ⟨#[108, 101, 118, 101, 108, 32, 49, 32, 102, 114, 111, 109, 32, 50, 32, 116, 111, 32, 50, 32, 104, 97, 108, 102, 32, 50, 32, 99, 111, 105, 108, 32, 49]⟩),
  (⟨#[115, 97, 117, 99, 101, 114]⟩, ⟨#[108, 101, 118, 101, 108, 32, 49, 32, 99, 101, 110, 116, 101, 114, 32, 50, 32, 115, 105, 122, 101, 32, 49, 32, 108, 105, 109, 105, 116, 32, 49, 32, 111, 117, 116, 32, 50, 32, 99, 111, 105, 108, 32, 49, 32, 115, 119, 105, 116, 99, 104, 32, 49]⟩),
  (⟨#[108, 97, 110, 101]⟩, ⟨#[108, 101, 118, 101, 108, 32, 49, 32, 99, 101, 110, 116, 101, 114, 32, 50, 32, 115, 105, 122, 101, 32, 49, 32, 115, 119, 105, 116, 99, 104, 32, 49]⟩),
  (⟨#[114, 97, 109, 112]⟩, ⟨#[108, 101, 118, 101, 108, 32, 49, 32, 105, 110, 116, 111, 32, 49, 32, 99, 101, 110, 116, 101, 114, 32, 50, 32, 115, 105, 122, 101, 32, 49, 32, 100, 105, 114, 32, 50]⟩),
  (⟨#[100, 114, 97, 105, 110]⟩, ⟨#[108, 101, 118, 101, 108, 32, 49, 32, 99, 101, 110, 116, 101, 114, 32, 50, 32, 115, 105, 122, 101, 32, 49]⟩),
  (⟨#[108, 97, 117, 110, 99, 104, 101, 114]⟩, ⟨#[108, 101, 118, 101, 108, 32, 49, 32, 99, 101, 110, 116, 101, 114, 32, 50, 32, 111, 117, 116, 32, 50, 32, 99, 111, 105, 108, 32, 49]⟩)]
/-- The words, their keys and arities. -/
def keyTab : List (ByteArray × List (ByteArray × Nat)) := [
  (⟨#[116, 97, 98, 108, 101]⟩, [(⟨#[114, 97, 100, 105, 117, 115]⟩, 1), (⟨#[98, 97, 108, 108, 115]⟩, 1), (⟨#[103, 114, 97, 118, 105, 116, 121]⟩, 2), (⟨#[100, 114, 97, 103]⟩, 2), (⟨#[114, 101, 115, 116]⟩, 1), (⟨#[116, 114, 111, 117, 103, 104]⟩, 1)]),
  (⟨#[119, 97, 108, 108]⟩, [(⟨#[108, 101, 118, 101, 108]⟩, 1), (⟨#[102, 114, 111, 109]⟩, 2), (⟨#[116, 111]⟩, 2), (⟨#[114, 101, 115, 116]⟩, 1), (⟨#[103, 114, 105, 112]⟩, 1), (⟨#[107, 105, 99, 107]⟩, 1), (⟨#[109, 105, 110]⟩, 1), (⟨#[99, 111, 105, 108]⟩, 1), (⟨#[115, 119, 105, 116, 99, 104]⟩, 1)]),
  (⟨#[103, 97, 116, 101]⟩, [(⟨#[108, 101, 118, 101, 108]⟩, 1), (⟨#[102, 114, 111, 109]⟩, 2), (⟨#[116, 111]⟩, 2), (⟨#[114, 101, 115, 116]⟩, 1), (⟨#[103, 114, 105, 112]⟩, 1), (⟨#[107, 105, 99, 107]⟩, 1), (⟨#[109, 105, 110]⟩, 1), (⟨#[99, 111, 105, 108]⟩, 1), (⟨#[115, 119, 105, 116, 99, 104]⟩, 1)]),
  (⟨#[116, 97, 114, 103, 101, 116]⟩, [(⟨#[108, 101, 118, 101, 108]⟩, 1), (⟨#[102, 114, 111, 109]⟩, 2), (⟨#[116, 111]⟩, 2), (⟨#[114, 101, 115, 116]⟩, 1), (⟨#[103, 114, 105, 112]⟩, 1), (⟨#[107, 105, 99, 107]⟩, 1), (⟨#[109, 105, 110]⟩, 1), (⟨#[99, 111, 105, 108]⟩, 1), (⟨#[115, 119, 105, 116, 99, 104]⟩, 1)]),
  (⟨#[115, 108, 105, 110, 103]⟩, [(⟨#[108, 101, 118, 101, 108]⟩, 1), (⟨#[102, 114, 111, 109]⟩, 2), (⟨#[116, 111]⟩, 2), (⟨#[114, 101, 115, 116]⟩, 1), (⟨#[103, 114, 105, 112]⟩, 1), (⟨#[107, 105, 99, 107]⟩, 1), (⟨#[109, 105, 110]⟩, 1), (⟨#[99, 111, 105, 108]⟩, 1), (⟨#[115, 119, 105, 116, 99, 104]⟩, 1)]),
  (⟨#[97, 114, 99]⟩, [(⟨#[108, 101, 118, 101, 108]⟩, 1), (⟨#[99, 101, 110, 116, 101, 114]⟩, 2), (⟨#[102, 114, 111, 109]⟩, 2), (⟨#[116, 111]⟩, 2), (⟨#[114, 101, 115, 116]⟩, 1), (⟨#[103, 114, 105, 112]⟩, 1), (⟨#[109, 105, 110]⟩, 1), (⟨#[115, 119, 105, 116, 99, 104]⟩, 1)]),
  (⟨#[112, 111, 115, 116]⟩, [(⟨#[108, 101, 118, 101, 108]⟩, 1), (⟨#[99, 101, 110, 116, 101, 114]⟩, 2), (⟨#[115, 105, 122, 101]⟩, 1), (⟨#[114, 101, 115, 116]⟩, 1), (⟨#[103, 114, 105, 112]⟩, 1), (⟨#[107, 105, 99, 107]⟩, 1), (⟨#[109, 105, 110]⟩, 1), (⟨#[99, 111, 105, 108]⟩, 1), (⟨#[115, 119, 105, 116, 99, 104]⟩, 1)]),
  (⟨#[102, 108, 105, 112, 112, 101, 114]⟩, [(⟨#[108, 101, 118, 101, 108]⟩, 1), (⟨#[99, 101, 110, 116, 101, 114]⟩, 2), (⟨#[108, 101, 110, 103, 116, 104]⟩, 1), (⟨#[109, 105, 114, 114, 111, 114]⟩, 0), (⟨#[114, 97, 110, 103, 101]⟩, 2), (⟨#[117, 112]⟩, 1), (⟨#[100, 111, 119, 110]⟩, 1), (⟨#[109, 97, 120]⟩, 1), (⟨#[114, 101, 115, 116]⟩, 1), (⟨#[103, 114, 105, 112]⟩, 1), (⟨#[99, 111, 105, 108]⟩, 1), (⟨#[115, 119, 105, 116, 99, 104]⟩, 1)]),
  (⟨#[122, 111, 110, 101]⟩, [(⟨#[108, 101, 118, 101, 108]⟩, 1), (⟨#[102, 114, 111, 109]⟩, 2), (⟨#[116, 111]⟩, 2), (⟨#[104, 97, 108, 102]⟩, 2), (⟨#[99, 111, 105, 108]⟩, 1)]),
  (⟨#[115, 97, 117, 99, 101, 114]⟩, [(⟨#[108, 101, 118, 101, 108]⟩, 1), (⟨#[99, 101, 110, 116, 101, 114]⟩, 2), (⟨#[115, 105, 122, 101]⟩, 1), (⟨#[108, 105, 109, 105, 116]⟩, 1), (⟨#[111, 117, 116]⟩, 2), (⟨#[99, 111, 105, 108]⟩, 1), (⟨#[115, 119, 105, 116, 99, 104]⟩, 1)]),
  (⟨#[108, 97, 110, 101]⟩, [(⟨#[108, 101, 118, 101, 108]⟩, 1), (⟨#[99, 101, 110, 116, 101, 114]⟩, 2), (⟨#[115, 105, 122, 101]⟩, 1), (⟨#[115, 119, 105, 116, 99, 104]⟩, 1)]),
  (⟨#[114, 97, 109, 112]⟩, [(⟨#[108, 101, 118, 101, 108]⟩, 1), (⟨#[105, 110, 116, 111]⟩, 1), (⟨#[99, 101, 110, 116, 101, 114]⟩, 2), (⟨#[115, 105, 122, 101]⟩, 1), (⟨#[100, 105, 114]⟩, 2)]),
  (⟨#[100, 114, 97, 105, 110]⟩, [(⟨#[108, 101, 118, 101, 108]⟩, 1), (⟨#[99, 101, 110, 116, 101, 114]⟩, 2), (⟨#[115, 105, 122, 101]⟩, 1)]),
  (⟨#[108, 97, 117, 110, 99, 104, 101, 114]⟩, [(⟨#[108, 101, 118, 101, 108]⟩, 1), (⟨#[99, 101, 110, 116, 101, 114]⟩, 2), (⟨#[111, 117, 116]⟩, 2), (⟨#[99, 111, 105, 108]⟩, 1)])]
def txtOf (s : ByteArray) : ByteArray := match txtTab.find? (fun p => decide (p.1 = s)) with
  | some p => p.2
  | none => ⟨#[]⟩
def ksOf (s : ByteArray) : List (ByteArray × Nat) := match keyTab.find? (fun p => decide (p.1 = s)) with
  | some p => p.2
  | none => []
def isWord (s : ByteArray) : Bool := keyTab.any fun p => decide (p.1 = s)
def arL (l : List (ByteArray × Nat)) (key : ByteArray) : Int := match l.find? (fun p => decide (p.1 = key)) with
  | some p => p.2
  | none => -1
def arR (word key : ByteArray) : Int := arL (ksOf word) key
/-- What a reader hands back. -/
inductive PR (α : Type) where
  | err (e : Int) (at_ : Nat)
  | ok (x : α) (rest : List WV)
def atR (l : List WV) (e : Nat) : Nat := match l with
  | [] => e
  | x :: _ => x.at_
def isK (l : List WV) (k : Int) : Bool := match l with
  | [] => false
  | x :: _ => decide (x.kind = k)
def numsF (e : Nat) : Nat → List Int → List WV → PR (List Int)
  | 0, acc, l => .ok acc l
  | _ + 1, _, [] => .err 4 e
  | n + 1, acc, x :: l => if x.kind = 2 then numsF e n (acc ++ [x.num]) l else .err 4 x.at_
def hasK (l : List KV) (k : ByteArray) : Bool := l.any fun p => decide (p.key = k)
def keysF (e : Nat) (word : ByteArray) : Nat → List KV → List WV → PR (List KV)
  | 0, acc, l => .ok acc l
  | _ + 1, _, [] => .err 4 e
  | f + 1, acc, x :: l =>
    if x.kind = 3 then .ok acc l
    else if x.kind ≠ 1 then .err 4 x.at_
    else if arR word x.text < 0 then .err 4 x.at_
    else if hasK acc x.text = true then .err 7 x.at_
    else match numsF e (arR word x.text).toNat [] l with
      | .err a b => .err a b
      | .ok vs l' => keysF e word f (acc ++ [⟨x.text, vs, x.at_⟩]) l'
def restF (e : Nat) (word name : ByteArray) (a : Nat) (l : List WV) : PR IV := match keysF e word (l.length + 1) [] l with
  | .err c b => .err c b
  | .ok ks l' => .ok ⟨word, name, ks, a⟩ l'
def itemF (e : Nat) : List WV → PR IV
  | [] => .err 4 e
  | x :: l =>
    if x.kind ≠ 1 then .err 4 x.at_
    else if isWord x.text = false then .err 4 x.at_
    else if x.text = tTable then restF e x.text ⟨#[]⟩ x.at_ l
    else match l with
      | [] => .err 4 e
      | y :: l' => if y.kind ≠ 1 then .err 4 y.at_ else restF e x.text y.text x.at_ l'
def parseF (e : Nat) : Nat → List IV → List WV → List IV × Int × Nat
  | 0, acc, _ => (acc, 0, 0)
  | _ + 1, acc, [] => (acc, 0, 0)
  | f + 1, acc, x :: l =>
    if acc.length = 400 then ([], 9, x.at_)
    else match itemF e (x :: l) with
      | .err a b => ([], a, b)
      | .ok y l' => parseF e f (acc ++ [y]) l'
/-- The statements of a text, or its first error and where it is. -/
def parseR (s : ByteArray) : List IV × Int × Nat :=
  if (scanR s).2.1 ≠ 0 then ([], (scanR s).2.1, (scanR s).2.2) else parseF s.size ((scanR s).1.length + 1) [] (scanR s).1
def getR (l : List KV) (k : ByteArray) : Option (List Int) := (l.find? fun p => decide (p.key = k)).map (·.vals)
theorem hasK_get {l : List KV} {k : ByteArray} : hasK l k = (getR l k).isSome := by
  unfold hasK getR
  rw [Option.isSome_map]
  induction l with
  | nil => rfl
  | cons a l ih =>
    simp only [List.any_cons, List.find?_cons]
    cases h : decide (a.key = k)
    · simpa using ih
    · rfl
/-- How many words are left behind a statement. -/
theorem numsF_len {e : Nat} : ∀ (n : Nat) (acc : List Int) (l : List WV) {x : List Int} {r : List WV}, numsF e n acc l = .ok x r → r.length + n = l.length ∧ x.length = acc.length + n
  | 0, acc, l, x, r, h => by simp only [numsF, PR.ok.injEq] at h; obtain ⟨rfl, rfl⟩ := h; simp
  | n + 1, acc, [], x, r, h => by simp [numsF] at h
  | n + 1, acc, y :: l, x, r, h => by
    simp only [numsF] at h
    split at h
    · have := numsF_len n _ l h
      simp only [List.length_append, List.length_cons, List.length_nil] at *
      omega
    · cases h
theorem keysF_len {e : Nat} {word : ByteArray} : ∀ (f : Nat) (acc : List KV) (l : List WV) {x : List KV} {r : List WV}, l.length < f → keysF e word f acc l = .ok x r → r.length < l.length ∧ x.length ≤ acc.length + l.length
  | 0, acc, l, x, r, hf, h => by omega
  | f + 1, acc, [], x, r, hf, h => by simp [keysF] at h
  | f + 1, acc, y :: l, x, r, hf, h => by
    simp only [keysF] at h
    split at h
    · simp only [PR.ok.injEq] at h; obtain ⟨rfl, rfl⟩ := h; simp
    · split at h
      · cases h
      · split at h
        · cases h
        · split at h
          · cases h
          · cases hn : numsF e (arR word y.text).toNat [] l with
            | err a b => simp only [hn] at h; cases h
            | ok vs l' =>
              simp only [hn] at h
              have h1 := numsF_len _ _ _ hn
              simp only [List.length_cons] at hf
              have h2 := keysF_len f _ l' (by omega) h
              simp only [List.length_append, List.length_cons, List.length_nil] at *
              omega
theorem restF_len {e a : Nat} {word name : ByteArray} {l : List WV} {x : IV} {r : List WV} (h : restF e word name a l = .ok x r) : r.length < l.length ∧ x.keys.length ≤ l.length := by
  unfold restF at h
  cases hk : keysF e word (l.length + 1) [] l with
  | err c b => simp only [hk] at h; cases h
  | ok ks l' =>
    simp only [hk, PR.ok.injEq] at h
    obtain ⟨rfl, rfl⟩ := h
    have := keysF_len _ _ _ (by omega) hk
    simpa using this
theorem itemF_len {e : Nat} {l : List WV} {x : IV} {r : List WV} (h : itemF e l = .ok x r) : r.length < l.length ∧ x.keys.length ≤ l.length := by
  cases l with
  | nil => cases h
  | cons y l =>
    simp only [itemF] at h
    split at h
    · cases h
    · split at h
      · cases h
      · split at h
        · have := restF_len h; simp only [List.length_cons]; omega
        · cases l with
          | nil => cases h
          | cons z l =>
            simp only at h
            split at h
            · cases h
            · have := restF_len h; simp only [List.length_cons]; omega
end Go.Proofs.YteondblmcooklaaDoor
