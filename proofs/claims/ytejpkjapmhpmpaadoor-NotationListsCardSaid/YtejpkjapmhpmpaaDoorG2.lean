/- Rules and walks, joined from 50 texts: the first of them says: Curves, plain: normal forms of functions that repeat. No condition. -/
import Derived.Test.YtejpkjapmhpmpaaDoorG1
import Derived.Deep.Strs
import Derived.Lib.SmallJoins
import Derived.WalkSpells
import Derived.Laws.StructEq
import Derived.Laws.Concat
import Derived.Laws.Bits64
import Derived.WideLaws
import Derived.ChangeKeysEq
import Derived.Lib.ItoaNum
import Derived.Lib.LaidTab
import Derived.Lib.AppendIntMem
import Derived.Lib.AtoiErrMem
import Derived.Lib.IndexMore
import Derived.Lib.Atoi
import Derived.Lib.AtoiAll
import Derived.Lib.AtoiTie
import Derived.Lib.AtoiAllCases
import Derived.Lib.ItoaLen
import Derived.Lib.IndexBytes
import Derived.Lib.Split
import Derived.Lib.CutLaws
import Derived.Test.YtejpkjapmhpmpaaDoorChecked
import Derived.WideMake
import Derived.Laws.Pointers
import Derived.Lib.Builder
import Derived.Lib.AppendStr
import Derived.Laws.Externs
import Derived.Laws.BytesString
import Derived.Laws.IdiomStrings
import Derived.Laws.Runes
import Derived.Laws.IdiomCopy
import Derived.Laws.BitsAllLaws
/- Curves, plain: normal forms of functions that repeat. No condition. -/
namespace Go.Proofs.YtejpkjapmhpmpaaDoor.M
open Go Go.Proofs.YtejpkjapmhpmpaaDoor.K

def INF : Int := 4611686018427387904
def MAXV : Int := 1073741824
/-- the first values of a function -/
def fvals (F : Nat → Int) (n : Nat) : List Int := (List.range n).map F
theorem fvals_len (F : Nat → Int) (n : Nat) : (fvals F n).length = n := by simp [fvals]
theorem fvals_nth (F : Nat → Int) {n i : Nat} (h : i < n) : nth (fvals F n) i = F i := range_map_nth F h
theorem fvals_snoc (F : Nat → Int) (n : Nat) : fvals F (n + 1) = fvals F n ++ [F n] := range_map_snoc F n
theorem fvals_take (F : Nat → Int) {n k : Nat} (h : k ≤ n) : (fvals F n).take k = fvals F k := by
 refine nth_ext (by simp [fvals]; omega) (fun i hi => ?_)
 have hi' : i < k := by simp [fvals] at hi; omega
 rw [fvals_nth F hi']
 unfold nth List.getD
 rw [List.getElem?_take, if_pos hi']
 exact fvals_nth F (by omega)
theorem fvals_drop (F : Nat → Int) {n k : Nat} (h : k ≤ n) : (fvals F n).drop k = fvals (fun t => F (k + t)) (n - k) := by
 refine nth_ext (by simp [fvals]) (fun i hi => ?_)
 have hi' : i < n - k := by simp [fvals] at hi; omega
 rw [fvals_nth _ hi']
 unfold nth List.getD
 rw [List.getElem?_drop]
 exact fvals_nth F (by omega)
theorem fvals_eq {F : Nat → Int} {l : List Int} (h : ∀ i, i < l.length → nth l i = F i) : l = fvals F l.length :=
 nth_ext (by simp [fvals]) (fun i hi => by rw [fvals_nth F hi, h i hi])

/-! ### the least period and the start -/
/-- it grows by I in P ticks from S on -/
def Grows (F : Nat → Int) (S P : Nat) (I : Int) : Prop := ∀ t, S ≤ t → F (t + P) = F t + I
theorem Grows.mono {F : Nat → Int} {S S' P : Nat} {I : Int} (h : Grows F S P I) (hs : S ≤ S') : Grows F S' P I := fun t ht => h t (by omega)
theorem Grows.mul {F : Nat → Int} {S P : Nat} {I : Int} (h : Grows F S P I) : ∀ (k t : Nat), S ≤ t → F (t + k * P) = F t + k * I
 | 0, t, _ => by simp
 | k + 1, t, ht => by
  rw [show t + (k + 1) * P = (t + k * P) + P by rw [Nat.add_mul]; omega, h _ (by omega), Grows.mul h k t ht, Int.natCast_add, Int.add_mul]
  simp; omega
/-- a window shows it -/
def PerOk (F : Nat → Int) (S P : Nat) (I : Int) (p : Nat) : Prop := P % p = 0 ∧ (I * p) % P = 0 ∧ ∀ t, S ≤ t → t < S + P → F (t + p) = F t + I * p / P
theorem PerOk.all {F : Nat → Int} {S P : Nat} {I : Int} {p : Nat} (hP : 0 < P) (hg : Grows F S P I) (h : PerOk F S P I p) : Grows F S p (I * p / P) := by
 intro t
 induction t using Nat.strongRecOn with
 | _ t ih =>
  intro ht
  by_cases hw : t < S + P
  ·exact h.2.2 t ht hw
  ·have h1 := ih (t - P) (by omega) (by omega)
   have h2 := hg (t - P) (by omega)
   have h3 := hg (t - P + p) (by omega)
   rw [show t - P + P = t by omega] at h2
   rw [show t - P + p + P = t + p by omega] at h3
   omega
theorem PerOk.move {F : Nat → Int} {S S' P : Nat} {I : Int} {p : Nat} (hP : 0 < P) (hg : Grows F S P I) (hg' : Grows F S' P I) (h : PerOk F S P I p) : PerOk F S' P I p := by
 refine ⟨h.1, h.2.1, fun t ht _ => ?_⟩
 have ha := h.all hP hg (t + S * P) (by have := Nat.le_mul_of_pos_right S hP; omega)
 have h1 := hg'.mul S t ht
 have h2 := hg'.mul S (t + p) (by omega)
 rw [show t + S * P + p = t + p + S * P by omega] at ha
 omega
theorem PerOk.self {F : Nat → Int} {S P : Nat} {I : Int} (hP : 0 < P) (hg : Grows F S P I) : PerOk F S P I P := by
 refine ⟨Nat.mod_self P, Int.mul_emod_left I P, fun t ht _ => ?_⟩
 rw [Int.mul_ediv_cancel _ (by omega)]
 exact hg t ht
/-- the least number from 1 on -/
def LeastN (Q : Nat → Prop) (p : Nat) : Prop := 1 ≤ p ∧ Q p ∧ ∀ r, 1 ≤ r → r < p → ¬ Q r
theorem LeastN.unique {Q Q' : Nat → Prop} {p p' : Nat} (h : LeastN Q p) (h' : LeastN Q' p') (hq : ∀ r, Q r ↔ Q' r) : p = p' := by
 rcases Nat.lt_trichotomy p p' with h1 | h1 | h1
 ·exact absurd ((hq p).1 h.2.1) (h'.2.2 p h.1 h1)
 ·exact h1
 ·exact absurd ((hq p').2 h'.2.1) (h.2.2 p' h'.1 h1)
/-- from where on it grows so -/
def Starts (F : Nat → Int) (p : Nat) (q : Int) (s : Nat) : Prop := Grows F s p q ∧ (s = 0 ∨ F (s - 1 + p) ≠ F (s - 1) + q)
theorem Starts.unique {F : Nat → Int} {p : Nat} {q : Int} {s s' : Nat} (h : Starts F p q s) (h' : Starts F p q s') : s = s' := by
 rcases Nat.lt_trichotomy s s' with h1 | h1 | h1
 ·rcases h'.2 with h2 | h2
  ·omega
  ·exact absurd (h.1 (s' - 1) (by omega)) h2
 ·exact h1
 ·rcases h.2 with h2 | h2
  ·omega
  ·exact absurd (h'.1 (s - 1) (by omega)) h2

/-! ### what the program does -/
def leastOk (v : List Int) (inc : Int) (p : Nat) : Bool :=
  v.length % p == 0 && (inc * p) % v.length == 0 && (List.range v.length).all fun i => (if i + p < v.length then nth v (i + p) else nth v (i + p - v.length) + inc) == nth v i + inc * p / v.length
def leastL (v : List Int) (inc : Int) : Nat :=
  if findFrom (leastOk v inc) (v.length - 1) 1 = -1 then v.length else (findFrom (leastOk v inc) (v.length - 1) 1).toNat
def downL (v : List Int) (p : Nat) (q : Int) : Nat → Nat
  | 0 => 0
  | s + 1 => if nth v s + q = nth v (s + p) then downL v p q s else s + 1
/-- a curve: values, period, increment -/
structure Cv where
  vals : List Int
  per : Int
  inc : Int
def zcv : Cv := ⟨[], 0, 0⟩
def checkedE (v : List Int) : Int := if 400 < v.length ∨ (v.any fun x => x != INF && decide (x > MAXV)) = true then 3 else 0
def checkedL (v : List Int) (p : Int) (q : Int) : Cv × Int := if checkedE v = 3 then (zcv, 3) else (⟨v, p, q⟩, 0)
def finL (v : List Int) (S P : Nat) (I : Int) : Cv × Int :=
  let p := leastL (v.drop S) I
  let q := I * p / P
  let s := downL v p q S
  if 120 < p ∨ MAXV < q then (zcv, 3) else checkedL (v.take (s + p)) p q
def infAt (F : Nat → Int) (n : Nat) : Int := findFrom (fun t => F t == INF) n 0
def mbuild (F : Nat → Int) (S P : Nat) (I : Int) : Cv × Int :=
  if infAt F (S + P) = -1 then finL (fvals F (S + P)) S P I else checkedL (fvals F ((infAt F (S + P)).toNat + 1)) 1 0

theorem leastOk_iff {F : Nat → Int} {S P : Nat} {I : Int} {p : Nat} (hg : Grows F S P I) (hp : p ≤ P) : leastOk (fvals (fun t => F (S + t)) P) I p = true ↔ PerOk F S P I p := by
 unfold leastOk PerOk
 simp only [fvals_len, Bool.and_eq_true, beq_iff_eq, List.all_eq_true, List.mem_range]
 have key : ∀ i, i < P → (if i + p < P then nth (fvals (fun t => F (S + t)) P) (i + p) else nth (fvals (fun t => F (S + t)) P) (i + p - P) + I) = F (S + i + p) := fun i hi => by
  split
  ·rename_i h; rw [fvals_nth _ h, Nat.add_assoc]
  ·rename_i h
   rw [fvals_nth _ (by omega), ← hg _ (by omega)]
   congr 1; omega
 constructor
 ·rintro ⟨⟨h1, h2⟩, h3⟩
  refine ⟨h1, h2, fun t ht htp => ?_⟩
  have := h3 (t - S) (by omega)
  rw [key _ (by omega), fvals_nth _ (by omega), show S + (t - S) = t by omega] at this
  exact this
 ·rintro ⟨h1, h2, h3⟩
  refine ⟨⟨h1, h2⟩, fun i hi => ?_⟩
  rw [key i hi, fvals_nth _ hi]
  exact h3 _ (by omega) (by omega)
theorem leastL_is {F : Nat → Int} {S P : Nat} {I : Int} (hP : 0 < P) (hg : Grows F S P I) : LeastN (PerOk F S P I) (leastL (fvals (fun t => F (S + t)) P) I) ∧ leastL (fvals (fun t => F (S + t)) P) I ≤ P := by
 unfold leastL
 rw [fvals_len]
 rcases findFrom_cases (leastOk (fvals (fun t => F (S + t)) P) I) (P - 1) 1 with ⟨i, h1, h2, h3, h4, h5⟩ | ⟨h1, h2⟩
 ·rw [h3, if_neg (by omega), Int.toNat_natCast]
  refine ⟨⟨h1, (leastOk_iff hg (by omega)).1 h4, fun r hr hri hq => ?_⟩, by omega⟩
  have := h5 r hr hri
  rw [(leastOk_iff hg (by omega)).2 hq] at this
  cases this
 ·rw [h1, if_pos rfl]
  refine ⟨⟨hP, PerOk.self hP hg, fun r hr hri hq => ?_⟩, Nat.le_refl _⟩
  have := h2 r hr (by omega)
  rw [(leastOk_iff hg (by omega)).2 hq] at this
  cases this
theorem downL_is {F : Nat → Int} {p n : Nat} {q : Int} : ∀ (s : Nat), s + p ≤ n → Grows F s p q → Starts F p q (downL (fvals F n) p q s) ∧ downL (fvals F n) p q s ≤ s
 | 0, _, h => ⟨⟨h, .inl rfl⟩, Nat.le_refl _⟩
 | s + 1, hn, h => by
  simp only [downL]
  rw [fvals_nth F (show s < n by omega)]
  by_cases hp : s + p < n
  ·rw [fvals_nth F hp]
   split
   ·rename_i he
    have := downL_is (F := F) (p := p) (n := n) (q := q) s (by omega) (fun t ht => by
     by_cases hts : t = s
     ·subst hts; exact he.symm
     ·exact h t (by omega))
    exact ⟨this.1, by omega⟩
   ·rename_i he
    exact ⟨⟨h, .inr (by simpa using fun h => he h.symm)⟩, Nat.le_refl _⟩
  ·omega

/-! ### what it is -/
/-- the normal form of a finite function -/
structure NF (F : Nat → Int) (S P : Nat) (I : Int) (p s : Nat) : Prop where
  least : LeastN (PerOk F S P I) p
  starts : Starts F p (I * p / P) s
theorem NF.unique {F : Nat → Int} {S S' P : Nat} {I : Int} {p p' s s' : Nat} (hP : 0 < P) (hg : Grows F S P I) (hg' : Grows F S' P I) (h : NF F S P I p s) (h' : NF F S' P I p' s') : p = p' ∧ s = s' := by
 have hp := h.least.unique h'.least (fun r => ⟨fun hr => hr.move hP hg hg', fun hr => hr.move hP hg' hg⟩)
 subst hp
 exact ⟨rfl, h.starts.unique h'.starts⟩
def nfE (F : Nat → Int) (p s : Nat) (q : Int) : Int := if 120 < p ∨ MAXV < q ∨ 400 < s + p ∨ ((List.range (s + p)).any fun i => decide (F i > MAXV)) = true then 3 else 0
def nfC (F : Nat → Int) (p s : Nat) (q : Int) : Cv × Int := if nfE F p s q = 3 then (zcv, 3) else (⟨fvals F (s + p), p, q⟩, 0)
theorem finL_nf {F : Nat → Int} {S P : Nat} {I : Int} (hP : 0 < P) (hg : Grows F S P I) (hf : ∀ t, t < S + P → F t ≠ INF) :
  ∃ p s, NF F S P I p s ∧ p ≤ P ∧ s ≤ S ∧ finL (fvals F (S + P)) S P I = nfC F p s (I * p / P) := by
 have hd : (fvals F (S + P)).drop S = fvals (fun t => F (S + t)) P := by rw [fvals_drop F (by omega)]; congr 1; omega
 obtain ⟨h1, h2⟩ := leastL_is hP hg
 have h3 := h1.2.1.all hP hg
 obtain ⟨h4, h5⟩ := downL_is (n := S + P) S (by omega) h3
 refine ⟨_, _, ⟨h1, h4⟩, h2, h5, ?_⟩
 unfold finL
 rw [hd]
 generalize leastL (fvals (fun t => F (S + t)) P) I = p at h1 h2 h3 h4 h5 ⊢
 generalize hs : downL (fvals F (S + P)) p (I * p / P) S = s at h4 h5 ⊢
 dsimp only
 rw [hs, fvals_take F (by omega)]
 unfold nfC nfE checkedL checkedE
 rw [fvals_len]
 have hany : (fvals F (s + p)).any (fun x => x != INF && decide (x > MAXV)) = (List.range (s + p)).any fun i => decide (F i > MAXV) := by
  unfold fvals
  rw [List.any_map, Bool.eq_iff_iff]
  simp only [List.any_eq_true, List.mem_range, Function.comp, Bool.and_eq_true, decide_eq_true_eq]
  constructor
  ·rintro ⟨i, h1, h2⟩; exact ⟨i, h1, h2.2⟩
  ·rintro ⟨i, h1, h2⟩; exact ⟨i, h1, by simpa using hf i (by omega), h2⟩
 rw [hany]
 by_cases a : 120 < p ∨ MAXV < I * p / P
 ·rw [if_pos a, if_pos (by rw [if_pos]; rcases a with a | a; exact .inl a; exact .inr (.inl a))]
 ·rw [if_neg a]
  by_cases b : 400 < s + p ∨ ((List.range (s + p)).any fun i => decide (F i > MAXV)) = true
  ·rw [if_pos (if_pos b), if_pos (if_pos (.inr (.inr b)))]
  ·rw [if_neg (show ¬ (if 400 < s + p ∨ ((List.range (s + p)).any fun i => decide (F i > MAXV)) = true then (3 : Int) else 0) = 3 by rw [if_neg b]; decide),
    if_neg (show ¬ (if 120 < p ∨ MAXV < I * p / P ∨ 400 < s + p ∨ ((List.range (s + p)).any fun i => decide (F i > MAXV)) = true then (3 : Int) else 0) = 3 by
     rw [if_neg (fun h => by rcases h with h | h | h; exact a (.inl h); exact a (.inr h); exact b h)]; decide)]

/-! ### what the references do -/
def perR (c : Cv) (start : Int) (p : Int) : Bool :=
  c.per.tmod p == 0 && (c.inc * p).tmod c.per == 0 && (List.range c.per.toNat).all fun i => atR c.vals c.per c.inc (start + i + p) == atR c.vals c.per c.inc (start + i) + c.inc * p / c.per
def leastR (c : Cv) : Nat := (findFrom (fun p => perR c (c.vals.length - c.per) p) (c.per.toNat) 1).toNat
def downR (c : Cv) (p : Int) (q : Int) : Nat → Nat
  | 0 => 0
  | s + 1 => if atR c.vals c.per c.inc ((s : Int) + p) = atR c.vals c.per c.inc s + q then downR c p q s else s + 1
def infL (l : List Int) : Int := findFrom (fun i => nth l i == INF) l.length 0
def normR (c : Cv) : Cv :=
  if infL c.vals = -1 then
    let p := leastR c
    let q := c.inc * p / c.per
    let s := downR c p q (c.vals.length - c.per).toNat
    ⟨(List.range (s + p)).map fun (t : Nat) => atR c.vals c.per c.inc (t : Int), p, q⟩
  else ⟨c.vals.take ((infL c.vals).toNat + 1), 1, 0⟩
def sortedB : Int → List Int → Bool
  | _, [] => true
  | a, x :: xs => decide (a ≤ x) && sortedB x xs
def validB (c : Cv) : Bool :=
  decide (1 ≤ c.vals.length) && decide (c.vals.length ≤ 400) && decide (1 ≤ c.per) && decide (c.per ≤ 120) && decide (c.per ≤ c.vals.length) && decide (0 ≤ c.inc) && decide (c.inc ≤ MAXV) &&
  (List.range c.vals.length).all (fun i => (nth c.vals i == INF || (decide (0 ≤ nth c.vals i) && decide (nth c.vals i ≤ MAXV))) && (i == 0 || decide (nth c.vals (i - 1) ≤ nth c.vals i))) &&
  (if nth c.vals (c.vals.length - 1) = INF then c.per == 1 && c.inc == 0 else decide (nth c.vals (c.vals.length - 1) ≤ nth c.vals (c.vals.length - c.per.toNat) + c.inc))
def madeR (c : Cv) : Cv × Int := if validB (normR c) then (normR c, 0) else (zcv, 3)

section
variable {F : Nat → Int} {S P : Nat} {I : Int}
theorem atR_fvals (hP : 0 < P) (hg : Grows F S P I) (hf : ∀ t, t < S + P → F t ≠ INF) (t : Nat) : atR (fvals F (S + P)) P I (t : Int) = F t := by
 unfold atR
 rw [fvals_len, if_neg (by omega)]
 by_cases h : t < S + P
 ·rw [if_pos (by omega), Int.toNat_natCast, fvals_nth F h]
 ·rw [if_neg (by omega)]
  obtain ⟨d, rfl⟩ : ∃ d, t = S + P + d := ⟨t - (S + P), by omega⟩
  have e1 : (((S + P + d : Nat) : Int) - ((S + P : Nat) : Int)) / (P : Int) = ((d / P : Nat) : Int) := by
   rw [show ((S + P + d : Nat) : Int) - ((S + P : Nat) : Int) = (d : Int) by omega]; rfl
  rw [e1]
  have h1 : d / P * P ≤ d := Nat.div_mul_le_self d P
  have h2 : d < (d / P + 1) * P := Nat.lt_mul_of_div_lt (Nat.lt_succ_self _) hP
  have h3 : (d / P + 1) * P = d / P * P + P := by rw [Nat.add_mul]; omega
  have e2 : (((S + P + d : Nat) : Int) - (((d / P : Nat) : Int) + 1) * (P : Int)).toNat = S + d - d / P * P := by
   have : (((d / P : Nat) : Int) + 1) * (P : Int) = (((d / P + 1) * P : Nat) : Int) := by simp
   rw [this, h3]; omega
  rw [e2, fvals_nth F (show S + d - d / P * P < S + P by omega)]
  have hne : ¬ F (S + d - d / P * P) = 4611686018427387904 := hf _ (by omega)
  rw [if_neg hne]
  have := hg.mul (d / P + 1) (S + d - d / P * P) (by omega)
  rw [show S + d - d / P * P + (d / P + 1) * P = S + P + d by omega] at this
  rw [this]; simp
theorem tmod_zero {a : Int} {b : Nat} (ha : 0 ≤ a) : (a.tmod (b : Int) == 0) = decide (a % (b : Int) = 0) := by
 rw [Int.tmod_eq_emod_of_nonneg ha]
 rfl
theorem perR_iff (hP : 0 < P) (hI : 0 ≤ I) (hg : Grows F S P I) (hf : ∀ t, t < S + P → F t ≠ INF) (p : Nat) : perR ⟨fvals F (S + P), P, I⟩ ((((fvals F (S + P)).length : Nat) : Int) - (P : Int)) (p : Int) = true ↔ PerOk F S P I p := by
 unfold perR PerOk
 dsimp only
 rw [fvals_len, show ((S + P : Nat) : Int) - (P : Int) = (S : Int) by omega, tmod_zero (by omega), tmod_zero (Int.mul_nonneg hI (by omega)), Int.toNat_natCast]
 simp only [Bool.and_eq_true, decide_eq_true_eq, List.all_eq_true, List.mem_range, beq_iff_eq]
 have e : ∀ i : Nat, atR (fvals F (S + P)) P I ((S : Int) + i + p) = F (S + i + p) ∧ atR (fvals F (S + P)) P I ((S : Int) + i) = F (S + i) := fun i => by
  have h1 := atR_fvals hP hg hf (S + i + p)
  have h2 := atR_fvals hP hg hf (S + i)
  simp only [Int.natCast_add] at h1 h2
  exact ⟨h1, h2⟩
 have e3 : ((P : Int) % (p : Int) = 0) ↔ P % p = 0 := by omega
 rw [e3, and_assoc]
 constructor
 ·rintro ⟨h1, h2, h3⟩
  refine ⟨h1, h2, fun t ht htp => ?_⟩
  have := h3 (t - S) (by omega)
  rw [(e _).1, (e _).2, show S + (t - S) = t by omega] at this
  exact this
 ·rintro ⟨h1, h2, h3⟩
  refine ⟨h1, h2, fun i hi => ?_⟩
  rw [(e i).1, (e i).2]
  exact h3 _ (by omega) (by omega)
theorem leastR_is (hP : 0 < P) (hI : 0 ≤ I) (hg : Grows F S P I) (hf : ∀ t, t < S + P → F t ≠ INF) : LeastN (PerOk F S P I) (leastR ⟨fvals F (S + P), P, I⟩) ∧ leastR ⟨fvals F (S + P), P, I⟩ ≤ P := by
 unfold leastR
 dsimp only
 rw [Int.toNat_natCast]
 rcases findFrom_cases (fun p => perR ⟨fvals F (S + P), P, I⟩ ((((fvals F (S + P)).length : Nat) : Int) - (P : Int)) (p : Int)) P 1 with ⟨i, h1, h2, h3, h4, h5⟩ | ⟨h1, h2⟩
 ·rw [h3, Int.toNat_natCast]
  refine ⟨⟨h1, (perR_iff hP hI hg hf i).1 h4, fun r hr hri hq => ?_⟩, by omega⟩
  have := h5 r hr hri
  rw [(perR_iff hP hI hg hf r).2 hq] at this
  cases this
 ·have := h2 P (by omega) (by omega)
  rw [(perR_iff hP hI hg hf P).2 (PerOk.self hP hg)] at this
  cases this
theorem downR_is (hP : 0 < P) (hg : Grows F S P I) (hf : ∀ t, t < S + P → F t ≠ INF) {p : Nat} {q : Int} : ∀ (s : Nat), Grows F s p q → Starts F p q (downR ⟨fvals F (S + P), P, I⟩ (p : Int) q s) ∧ downR ⟨fvals F (S + P), P, I⟩ (p : Int) q s ≤ s
 | 0, h => ⟨⟨h, .inl rfl⟩, Nat.le_refl _⟩
 | s + 1, h => by
  simp only [downR]
  have h1 := atR_fvals hP hg hf (s + p)
  have h2 := atR_fvals hP hg hf s
  simp only [Int.natCast_add] at h1
  rw [h1, h2]
  split
  ·rename_i he
   have := downR_is hP hg hf (p := p) (q := q) s (fun t ht => by
    by_cases hts : t = s
    ·subst hts; exact he
    ·exact h t (by omega))
   exact ⟨this.1, by omega⟩
  ·rename_i he
   exact ⟨⟨h, .inr (by simpa using he)⟩, Nat.le_refl _⟩
theorem infL_fvals (n : Nat) (hf : ∀ t, t < n → F t ≠ INF) : infL (fvals F n) = -1 := by
 unfold infL
 rw [fvals_len]
 rcases findFrom_cases (fun i => nth (fvals F n) i == INF) n 0 with ⟨i, h1, h2, h3, h4, h5⟩ | ⟨h1, h2⟩
 ·rw [fvals_nth F (by omega)] at h4
  exact absurd (by simpa using h4) (hf i (by omega))
 ·exact h1
theorem normR_nf (hP : 0 < P) (hI : 0 ≤ I) (hg : Grows F S P I) (hf : ∀ t, t < S + P → F t ≠ INF) : ∃ p s, NF F S P I p s ∧ p ≤ P ∧ s ≤ S ∧ normR ⟨fvals F (S + P), P, I⟩ = ⟨fvals F (s + p), p, I * p / P⟩ := by
 obtain ⟨h1, h2⟩ := leastR_is hP hI hg hf
 have h3 := h1.2.1.all hP hg
 obtain ⟨h4, h5⟩ := downR_is hP hg hf S h3
 refine ⟨_, _, ⟨h1, h4⟩, h2, h5, ?_⟩
 unfold normR
 dsimp only
 rw [if_pos (infL_fvals _ hf), fvals_len, show (((S + P : Nat) : Int) - (P : Int)).toNat = S by omega]
 congr 1
 unfold fvals
 apply List.map_congr_left
 intro t _
 exact atR_fvals hP hg hf t
theorem mono_le (hm : ∀ t, F t ≤ F (t + 1)) {a b : Nat} (h : a ≤ b) : F a ≤ F b := by
 induction b with
 | zero =>
  obtain rfl : a = 0 := by omega
  exact Int.le_refl _
 | succ b ih =>
  by_cases e : a = b + 1
  ·subst e; omega
  ·have := ih (by omega); have := hm b; omega
theorem madeR_nf (hP : 0 < P) (hI : 0 ≤ I) (hg : Grows F S P I) (hm : ∀ t, F t ≤ F (t + 1)) (h0 : 0 ≤ F 0) (hf : ∀ t, t < S + P → F t < INF) : ∃ p s, NF F S P I p s ∧ p ≤ P ∧ s ≤ S ∧ madeR ⟨fvals F (S + P), P, I⟩ = nfC F p s (I * p / P) := by
 have hne : ∀ t, t < S + P → F t ≠ INF := fun t ht => by have := hf t ht; omega
 obtain ⟨p, s, hnf, h1, h2, h3⟩ := normR_nf hP hI hg hne
 refine ⟨p, s, hnf, h1, h2, ?_⟩
 unfold madeR
 rw [h3]
 have hp := hnf.least.1
 have hq : 0 ≤ I * (p : Int) / (P : Int) := Int.ediv_nonneg (Int.mul_nonneg hI (by omega)) (by omega)
 have hgr := hnf.starts.1 s (Nat.le_refl _)
 generalize I * (p : Int) / (P : Int) = q at hq hgr ⊢
 have hnn : ∀ t, 0 ≤ F t := fun t => by have := mono_le hm (Nat.zero_le t); omega
 have hval : validB ⟨fvals F (s + p), p, q⟩ = decide (¬ nfE F p s q = 3) := by
  unfold validB nfE
  dsimp only
  rw [fvals_len, fvals_nth F (show s + p - 1 < s + p by omega), if_neg (hne _ (by omega)), Int.toNat_natCast, show s + p - p = s by omega, fvals_nth F (show s < s + p by omega), ← hgr]
  have hlast : decide (F (s + p - 1) ≤ F (s + p)) = true := decide_eq_true (mono_le hm (by omega))
  rw [hlast]
  have hall : ((List.range (s + p)).all fun i => (nth (fvals F (s + p)) i == INF || (decide (0 ≤ nth (fvals F (s + p)) i) && decide (nth (fvals F (s + p)) i ≤ MAXV))) && (i == 0 || decide (nth (fvals F (s + p)) (i - 1) ≤ nth (fvals F (s + p)) i))) = !((List.range (s + p)).any fun i => decide (F i > MAXV)) := by
   rw [List.all_eq_not_any_not]
   congr 1
   rw [Bool.eq_iff_iff]
   simp only [List.any_eq_true, List.mem_range]
   constructor
   ·rintro ⟨i, hi, h⟩
    refine ⟨i, hi, ?_⟩
    rw [fvals_nth F hi] at h
    have e1 : (F i == INF) = false := by simpa using hne i (by omega)
    have e2 : decide (0 ≤ F i) = true := decide_eq_true (hnn i)
    have e3 : (i == 0 || decide (nth (fvals F (s + p)) (i - 1) ≤ F i)) = true := by
     by_cases hi0 : i = 0
     ·simp [hi0]
     ·rw [fvals_nth F (by omega)]; simp [mono_le hm (show i - 1 ≤ i by omega)]
    rw [e1, e2, e3] at h
    simp at h
    exact decide_eq_true (by omega)
   ·rintro ⟨i, hi, h⟩
    refine ⟨i, hi, ?_⟩
    rw [fvals_nth F hi]
    have e1 : (F i == INF) = false := by simpa using hne i (by omega)
    have h' := of_decide_eq_true h
    have e4 : decide (F i ≤ MAXV) = false := decide_eq_false (by omega)
    rw [e1, e4]; simp
  rw [hall]
  generalize ((List.range (s + p)).any fun i => decide (F i > MAXV)) = b
  rw [Bool.eq_iff_iff]
  simp only [Bool.and_eq_true, decide_eq_true_eq, Bool.not_eq_true', and_true]
  constructor
  ·rintro ⟨⟨⟨⟨⟨⟨⟨a1, a2⟩, a3⟩, a4⟩, a5⟩, a6⟩, a7⟩, a8⟩ h
   rw [if_neg] at h
   ·omega
   ·rintro (h | h | h | h)
    ·omega
    ·omega
    ·omega
    ·rw [a8] at h; cases h
  ·intro h
   have h' : ¬ (120 < p ∨ MAXV < q ∨ 400 < s + p ∨ b = true) := fun hh => h (if_pos hh)
   refine ⟨⟨⟨⟨⟨⟨⟨by omega, by omega⟩, by omega⟩, by omega⟩, by omega⟩, hq⟩, by omega⟩, ?_⟩
   cases b with
   | false => rfl
   | true => exact absurd (.inr (.inr (.inr rfl))) h'
 rw [hval]
 unfold nfC
 by_cases h : nfE F p s q = 3
 ·rw [if_pos h, if_neg (by simp [h])]
 ·rw [if_neg h, if_pos (by simp [h])]
/-- the program's normal form is the references', wherever they begin -/
theorem build_made {S' : Nat} (hP : 0 < P) (hI : 0 ≤ I) (hg : Grows F S P I) (hg' : Grows F S' P I) (hm : ∀ t, F t ≤ F (t + 1)) (h0 : 0 ≤ F 0) (hf : ∀ t, t < S + P → F t < INF) (hf' : ∀ t, t < S' + P → F t < INF) : finL (fvals F (S + P)) S P I = madeR ⟨fvals F (S' + P), P, I⟩ := by
 have hne : ∀ t, t < S + P → F t ≠ INF := fun t ht => by have := hf t ht; omega
 obtain ⟨p, s, h1, _, _, h2⟩ := finL_nf hP hg hne
 obtain ⟨p', s', h3, _, _, h4⟩ := madeR_nf hP hI hg' hm h0 hf'
 obtain ⟨rfl, rfl⟩ := h1.unique hP hg hg' h3
 rw [h2, h4]
theorem mbuild_fin (hf : ∀ t, t < S + P → F t ≠ INF) : mbuild F S P I = finL (fvals F (S + P)) S P I := by
 unfold mbuild
 rw [if_pos]
 unfold infAt
 rcases findFrom_cases (fun t => F t == INF) (S + P) 0 with ⟨i, h1, h2, h3, h4, h5⟩ | ⟨h1, h2⟩
 ·exact absurd (by simpa using h4) (hf i (by omega))
 ·exact h1
end
end Go.Proofs.YtejpkjapmhpmpaaDoor.M

/- The rules of the walks, over any program: loops that name only what they change. No condition. -/
namespace Go.Proofs.YtejpkjapmhpmpaaDoor.K
open Go Go.RowKit

theorem rs_nil {R : Ro} {α : Type} {_i : Inhabited α} {k : Nat} {enc : α → List Value} : RS (_i := _i) R k enc none [] := ⟨by simp, .inl rfl, by simp⟩
def zipE : List Nat → List Value → Env → Env
  | k :: ks, v :: vs, e => (k, true, v) :: zipE ks vs e
  | _, _, e => e
def setAll : List Ent → List (Nat × Ent) → List Ent
  | E, [] => E
  | E, (i, e) :: r => setAll (E.set i e) r
section
variable {P : Program} {T : Tab} {n : Nat} {env : Env} {w0 : World} {R : Ro} {E : List Ent} {Q : Exit → Act → World → Prop} {x y : Code}
/-- a loop; ks, kv: places that it keeps; mk: the mark, if there is one -/
theorem W.loopK {β : Type} (inv : β → Prop) (vars : β → Env) (ks : List Nat) (kv : List Value) (mk : Env) (kE : List Ent) (hk : E = kE) (es : β → List (Nat × Ent)) (μ : β → Nat) (x0 : β)
  (h0 : inv x0) (hs : Sub (vars x0 ++ zipE ks kv mk) env) (hE : (setAll kE (es x0)).Sublist E)
  (round : ∀ s, inv s → W P x (Exit.then (Again inv n (fun s => vars s ++ zipE ks kv mk) w0 (fun _ => R) (fun s => setAll kE (es s)) μ (μ s)) Q) n (vars s ++ zipE ks kv mk) w0 R (setAll kE (es s))) :
  W P (.loop x) Q n env w0 R E :=
 W.loop inv (fun s => vars s ++ zipE ks kv mk) (fun _ => R) (fun s => setAll kE (es s)) μ x0 h0 hs (RLe.refl R) hE round
/-- the same, where what is read only grows -/
theorem W.loopR {β : Type} (inv : β → Prop) (vars : β → Env) (ks : List Nat) (kv : List Value) (mk : Env) (kE : List Ent) (hk : E = kE) (es : β → List (Nat × Ent)) (RR : β → Ro) (μ : β → Nat) (x0 : β)
  (h0 : inv x0) (hs : Sub (vars x0 ++ zipE ks kv mk) env) (hR : RLe (RR x0) R) (hE : (setAll kE (es x0)).Sublist E)
  (round : ∀ s, inv s → W P x (Exit.then (Again inv n (fun s => vars s ++ zipE ks kv mk) w0 RR (fun s => setAll kE (es s)) μ (μ s)) Q) n (vars s ++ zipE ks kv mk) w0 (RR s) (setAll kE (es s))) :
  W P (.loop x) Q n env w0 R E :=
 W.loop inv (fun s => vars s ++ zipE ks kv mk) RR (fun s => setAll kE (es s)) μ x0 h0 hs hR hE round
/-- a cell block becomes immutable -/
theorem Mem.freezeBlk {w : World} {i b : Nat} {cs : List Value} (hm : Mem w0 w R E) (hE : E[i]? = some (.blk b cs)) : ∃ R', RLe R R' ∧ R' b = some cs ∧ Mem w0 w R' (E.eraseIdx i) := by
 have hp := hm.perm (perm_get hE)
 obtain ⟨hbase, T, hh⟩ := hm.own _ (mem_of_get hE)
 refine ⟨fun c => if c = b then some cs else R c, ?_, by simp, ?_⟩
 ·intro c cs' hc
  have := hm.disj _ (mem_of_get hE) b rfl
  by_cases hcb : c = b
  ·subst hcb; rw [this] at hc; cases hc
  ·simp [hcb, hc]
 ·have hsub := hm.sub (RLe.refl R) (List.eraseIdx_sublist E i)
  have hnd := List.pairwise_cons.1 hp.nodup
  refine ⟨hsub.below, fun c cs' hc => ?_, hsub.own, fun e' he' c hc => ?_, hsub.nodup⟩
  ·by_cases hcb : c = b
   ·subst hcb; simp at hc; subst hc; exact ⟨T, _, hh⟩
   ·simp [hcb] at hc; exact hm.ro c cs' hc
  ·have := hnd.1 e' he' b rfl
   by_cases hcb : c = b
   ·subst hcb; exact absurd hc this
   ·simp [hcb]; exact hsub.disj e' he' c hc
theorem W.freezeBlk {b : Nat} {cs : List Value} (i : Nat) (hE : E[i]? = some (.blk b cs)) (h : ∀ R', RLe R R' → R' b = some cs → W P x Q n env w0 R' (E.eraseIdx i)) : W P x Q n env w0 R E := by
 intro ac w hk hm
 obtain ⟨R', hR, hb, hm'⟩ := hm.freezeBlk hE
 exact h R' hR hb ac w hk hm'
theorem WL.freezeBlk {ops rest : List Oper} {b : Nat} {cs : List Value} (i : Nat) (hE : E[i]? = some (.blk b cs)) (h : ∀ R', RLe R R' → R' b = some cs → WG false P ops Q rest n env w0 R' (E.eraseIdx i)) : WG false P ops Q rest n env w0 R E := by
 intro ac w hk hm
 obtain ⟨R', hR, hb, hm'⟩ := hm.freezeBlk hE
 exact h R' hR hb ac w hk hm'
theorem Rd.ro {b : Nat} {cs : List Value} (h : R b = some cs) : Rd R E ⟨b, 0, none⟩ cs := by
 intro w0 w hm j v hv
 obtain ⟨T, fz, hb⟩ := hm.ro _ _ h
 rw [addr_add_mk]
 simp [World.cell?, hb, hv]
/-- append([]T{}, y...): a copy -/
theorem Ef.cloneL {α : Type} [_i : Inhabited α] {enc : α → List Value} {o : Oper} {K : Value → Ro → List Ent → Prop} {t e : TypeId} {x y : Operand} {k m c cap : Nat} {a b : Option Addr} {ys : List α} {d d2 : TD} (i : Nat) (hT : TabOk P T) (ho : o.op = .call { callee := .builtin .append, args := #[x, y], argTypes := #[t, t] }) (hd : T.at t = some d) (hk : d.k = .slice e) (hd2 : T.at e = some d2)
  (hx : ev env x = some (true, .slice a 0 cap)) (hE : E[i]? = some (.sl e k a cap [])) (hks : d2.size = k) (hzl : d2.zero.length = k)
  (hy : ev env y = some (true, .slice b m c)) (hm : m = ys.length) (hj : RS (_i := _i) R k enc b ys) (h1 : ∀ u ∈ ys, cells1 (enc u) = true)
  (hbytes : ys.length * d2.bytes ≤ 140737488355328) (hmax : ys.length ≤ 9223372036854775807)
  (hK : ∀ a' cap', (0 < ys.length → a'.isSome = true) → K (.slice a' m cap') R (E.set i (.sl e k a' cap' (ys.map enc)))) : Ef P n env w0 R E o K := by
 subst hm
 exact Ef.appendR (enc := enc) (xs := []) i hT ho hd hk hd2 hx rfl hE hks hzl hy hj h1 (by simpa using hbytes) (by simpa using hmax) hK
variable {ops : List Oper} {o : Oper} {ES : List Ent} {R0 : Ro} {fuel : Nat} {listed : Array Bool} {pc : Bool}
/-- a call, the only operation that may come up; its guard is known to hold -/
theorem WA.callG {d : Nat} {f : FuncId} {vs : List Value} {Post : Value → Ro → List Ent → Prop} (i : Nat) (hi : ops.toArray[i]? = some o) (hr : Region.ready .any ops.toArray listed = [i]) (hf : Enters P f) (hg : gpc ops env o = some pc) (hpc : pc = true) (hd : o.dst = some d) (hdn : d < n)
  (hc : CallOp env o.op true f vs) (hv : Fn P f vs w0 R E Post)
  (h : ∀ v R' E', RLe R R' → Post v R' E' → RLe R0 R' ∧ ES.Sublist E' ∧ WA P ops Q ES R0 w0 fuel (listed.setIfInBounds i true) n ((d, true, v) :: env) R' E') : WA P ops Q ES R0 w0 (fuel + 1) listed n env R E := by
 intro a w hk hm
 refine wpAnyH_all hr (by simp) fun j hj => ?_
 obtain rfl : j = i := by simpa using hj
 unfold wpOp
 rw [hi]
 have hw := hk.wanted hg
 rw [hpc] at hw
 simp only [hw, if_true]
 left
 unfold Oper.wp
 rw [run_call hk hc rfl hf]
 refine (hv w hm).mono ?_
 rintro e w' ⟨v, R', E', rfl, hR, hm', hp⟩
 obtain ⟨g1, g2, g3⟩ := h v R' E' hR hp
 simp only [hd]
 exact ⟨hm'.sub g1 g2, g3 _ _ (hk.putT hdn v) hm'⟩
theorem WS.callG {d : Nat} {f : FuncId} {vs : List Value} {Post : Value → Ro → List Ent → Prop} {i : Nat} (hi : ops.toArray[i]? = some o) (hf : Enters P f) (hg : gpc ops env o = some pc) (hpc : pc = true) (hd : o.dst = some d) (hdn : d < n)
  (hc : CallOp env o.op true f vs) (hv : Fn P f vs w0 R E Post)
  (h : ∀ v R' E', RLe R R' → Post v R' E' → RLe R0 R' ∧ ES.Sublist E' ∧ WA P ops Q ES R0 w0 fuel (listed.setIfInBounds i true) n ((d, true, v) :: env) R' E') : WS P ops Q ES R0 w0 fuel listed n env R E i := by
 intro a w hk hm
 unfold wpOp
 rw [hi]
 have hw := hk.wanted hg
 rw [hpc] at hw
 simp only [hw, if_true]
 left
 unfold Oper.wp
 rw [run_call hk hc rfl hf]
 refine (hv w hm).mono ?_
 rintro e w' ⟨v, R', E', rfl, hR, hm', hp⟩
 obtain ⟨g1, g2, g3⟩ := h v R' E' hR hp
 simp only [hd]
 exact ⟨hm'.sub g1 g2, g3 _ _ (hk.putT hdn v) hm'⟩
theorem WA.subE {E' : List Ent} (hE : E'.Sublist E) (h : WA P ops Q ES R0 w0 fuel listed n env R E') : WA P ops Q ES R0 w0 fuel listed n env R E := fun a w hk hm => h a w hk (hm.sub (RLe.refl R) hE)
theorem WA.freeze {α : Type} [_i : Inhabited α] {enc : α → List Value} {e : TypeId} {k : Nat} {a : Option Addr} {cap : Nat} {xs : List α} (i : Nat) (hE : E[i]? = some (.sl e k a cap (xs.map enc)))
  (h : ∀ R', RLe R R' → RS (_i := _i) R' k enc a xs → WA P ops Q ES R0 w0 fuel listed n env R' (E.eraseIdx i)) : WA P ops Q ES R0 w0 fuel listed n env R E := by
 intro ac w hk hm
 obtain ⟨R', hR, hrs, hm'⟩ := hm.freeze (_i := _i) hE
 exact h R' hR hrs ac w hk hm'
end
end Go.Proofs.YtejpkjapmhpmpaaDoor.K

/- What the line answers, plain: errors and runs; queues. No condition. -/
namespace Go.Proofs.YtejpkjapmhpmpaaDoor.M
open Go Go.Proofs.YtejpkjapmhpmpaaDoor.K

/-- slices of packets, and three numbers, in a slice -/
structure SlP where
  a : Option Addr
  cap : Nat
  xs : List Pkt
instance instSlP : Inhabited SlP := ⟨⟨none, 0, []⟩⟩
def encL (s : SlP) : List Value := [.slice s.a s.xs.length s.cap]
def enc3 (x : Int × Int × Int) : List Value := [.int .i64 x.1, .int .i64 x.2.1, .int .i64 x.2.2]
def enc2 (x : Int × Int) : List Value := [.int .i64 x.1, .int .i64 x.2]
def lrunE (cap classes ticks : Int) (ps : List Pkt) : Int := if validate ps ≠ 0 then validate ps else checkE cap classes ticks ps
def lineOut (cap classes ticks : Int) (ps : List Pkt) : List Int × List (List Int) :=
  if lrunE cap classes ticks ps ≠ 0 then ([], []) else ((mrun ps (fifo ps) cap classes.toNat ticks.toNat ()).done, (mrun ps (fifo ps) cap classes.toNat ticks.toNat ()).sent)
/-! ### queues -/
def selSum (cls t : Int) : Nat → List (List Int) → Int
  | _, [] => 0
  | c, l :: ls => (if (c : Int) ≠ cls ∧ cls ≠ -1 then 0 else nth l t.toNat) + selSum cls t (c + 1) ls
end Go.Proofs.YtejpkjapmhpmpaaDoor.M

/- Choices by classes, plain: the first packet of a class that waits; weighted round robin. No condition. -/
namespace Go.Proofs.YtejpkjapmhpmpaaDoor.M
open Go Go.Proofs.YtejpkjapmhpmpaaDoor.K

/-- the first packet of a class that waits -/
def nextP (ps : List Pkt) (ms : MS) (cls : Int) (i : Nat) : Bool := decide ((nth ps i).time ≤ ms.now) && !nth ms.begun i && (nth ps i).flow == cls
def nextW (ps : List Pkt) (ms : MS) (cls : Int) : Int := findN (nextP ps ms cls) ps.length
/-! ### weighted round robin -/
def robinGo (nx : Int → Int) (w : List Int) : Nat → Nat → Int → Int × (Nat × Int)
  | 0, c, l => (-1, (c, l))
  | k + 1, c, l => if 0 ≤ nx c ∧ 0 < l then (nx c, (c, l - 1)) else robinGo nx w k ((c + 1) % w.length) (nth w ((c + 1) % w.length))
def robinCh (ps : List Pkt) (w : List Int) (ms : MS) (s : Nat × Int) : Int × Nat × (Nat × Int) :=
  if firstR ps ms < 0 then (-1, skipTo ms.begun ms.before, s)
  else ((robinGo (nextW ps ms) w (w.length + 1) s.1 s.2).1, skipTo ms.begun ms.before, (robinGo (nextW ps ms) w (w.length + 1) s.1 s.2).2)
def robinRc (ps : List Pkt) (w : List Int) (st : St) (g : Nat × Int) : Int × (Nat × Int) :=
  if 0 ≤ firstW ps st (-1) then robinGo (firstW ps st) w (w.length + 1) g.1 g.2 else (-1, g)
/-- within so many steps something is found -/
def Soon (nx : Int → Int) (n k c : Nat) (l : Int) : Prop := ∃ j, j < k ∧ 0 ≤ nx (((c + j) % n : Nat) : Int) ∧ (0 < j ∨ 0 < l)
theorem Soon.step {nx : Int → Int} {w : List Int} {k c : Nat} {l : Int} (hw : ∀ x ∈ w, 1 ≤ x) (hn : 0 < w.length) (hc : c < w.length) (h : Soon nx w.length (k + 1) c l) (hno : ¬ (0 ≤ nx c ∧ 0 < l)) : Soon nx w.length k ((c + 1) % w.length) (nth w ((c + 1) % w.length)) := by
 obtain ⟨j, h1, h2, h3⟩ := h
 have hj : 0 < j := by
  rcases Nat.eq_zero_or_pos j with hj | hj
  ·subst hj
   rw [Nat.add_zero, Nat.mod_eq_of_lt hc] at h2
   exact absurd ⟨h2, by omega⟩ hno
  ·exact hj
 refine ⟨j - 1, by omega, ?_, .inr ?_⟩
 ·rw [Nat.mod_add_mod, show c + 1 + (j - 1) = c + j by omega]; exact h2
 ·have := hw _ (nth_mem (xs := w) (k := (c + 1) % w.length) (Nat.mod_lt _ hn)); omega
def goodRb (ps : List Pkt) (n : Nat) (ms : MS) (s : Nat × Int) : Prop := goodB ps ms ∧ s.1 < n ∧ 0 ≤ s.2 ∧ s.2 ≤ 20
def sameFlow (ps : List Pkt) (i k : Nat) : Prop := (nth ps i).flow = (nth ps k).flow
/-- weights that are in their range -/
def okW (hi : Int) (w : List Int) : Bool := w.all fun x => decide (1 ≤ x) && decide (x ≤ hi)
def wrunE (hi cap ticks : Int) (w : List Int) (ps : List Pkt) : Int := if lrunE cap w.length ticks ps ≠ 0 then lrunE cap w.length ticks ps else if okW hi w = true then 0 else 2
def outOf {σ : Type} (e : Int) (s : RS σ) : List Int × List (List Int) := if e ≠ 0 then ([], []) else (s.done, s.sent)
end Go.Proofs.YtejpkjapmhpmpaaDoor.M

/- Curves of schedulers, plain: sizes, rounds, what a class is left. No condition. -/
namespace Go.Proofs.YtejpkjapmhpmpaaDoor.M
open Go Go.Proofs.YtejpkjapmhpmpaaDoor.K

structure Sz where
  least : Int
  most : Int
instance instSz : Inhabited Sz := ⟨⟨0, 0⟩⟩
def encZ (s : Sz) : List Value := [.int .i64 s.least, .int .i64 s.most]
def zOk (z : List Sz) : Bool := z.all fun s => decide (0 ≤ s.least) && decide (s.least ≤ s.most) && decide (s.most ≤ 1500)
def chk18 (cap cls : Int) (z : List Sz) : Int := if cap < 1 ∨ 4000 < cap ∨ (z.length : Int) < 1 ∨ (6 : Int) < z.length ∨ zOk z = false ∨ cls < 0 ∨ (z.length : Int) ≤ cls then 2 else 0
def chkW (hi cap cls : Int) (w : List Int) (z : List Sz) : Int := if chk18 cap cls z ≠ 0 then 2 else if w.length ≠ z.length ∨ okW hi w = false then 2 else 0
/-- what others send in a round at most -/
def qSum (k : Int) (w : List Int) (z : List Sz) : Nat → Int
  | 0 => 0
  | n + 1 => qSum k w z n + (if (n : Int) ≠ k then nth w n * (nth z n).most else 0)
def shortN (low cap : Nat) : Int := findFrom (fun s => decide (s / Nat.gcd s cap ≤ 120)) (120 * cap + 1 - low) low
def robinOthers (hi k : Int) (w : List Int) (z : List Sz) (own : Int) : Int :=
  if chkW hi 1 k w z ≠ 0 ∨ (nth z k.toNat).least < 1 ∨ own < 0 ∨ MAXV < own then 0 else qSum k w z w.length * (own / (nth w k.toNat * (nth z k.toNat).least) + 1)
/-- the least number that is enough -/
def leastY (H : Nat → Bool) (bound : Nat) : Nat := (findFrom H (bound + 1) 0).toNat
theorem leastY_is {H : Nat → Bool} {b : Nat} (h : H b = true) : leastY H b ≤ b ∧ H (leastY H b) = true ∧ ∀ j, j < leastY H b → H j = false := by
 unfold leastY
 rcases findFrom_cases H (b + 1) 0 with ⟨i, h1, h2, h3, h4, h5⟩ | ⟨_, h2⟩
 ·rw [h3, Int.toNat_natCast]
  exact ⟨by omega, h4, fun j hj => h5 j (by omega) hj⟩
 ·rw [h2 b (by omega) (by omega)] at h; cases h
def robinH (cap s r : Int) (t y : Nat) : Bool := decide ((y : Int) + (s - r) * ((y : Int) / r + 1) ≥ cap * t)
def robinF (cap s r : Int) (t : Nat) : Int := leastY (robinH cap s r t) (cap * t).toNat
def robinC (cap k : Int) (w : List Int) (z : List Sz) : Cv × Int :=
  if chkW 20 cap k w z ≠ 0 then (zcv, chkW 20 cap k w z) else if (nth z k.toNat).least < 1 then (zcv, 5) else
    let r := nth w k.toNat * (nth z k.toNat).least
    let s := shortN (r + qSum k w z w.length).toNat cap.toNat
    if s = -1 then (zcv, 3) else
      let p := s.toNat / Nat.gcd s.toNat cap.toNat
      mbuild (robinF cap s r) 0 p (cap * p / s * r)
theorem robinH_bound {cap s r : Int} (hr : 0 < r) (hs : r ≤ s) (t : Nat) (hc : 0 ≤ cap) : robinH cap s r t (cap * t).toNat = true := by
 unfold robinH
 have h1 : 0 ≤ cap * (t : Int) := Int.mul_nonneg hc (by omega)
 have h2 : 0 ≤ (s - r) * ((((cap * t).toNat : Nat) : Int) / r + 1) := Int.mul_nonneg (by omega) (by have := Int.ediv_nonneg (a := (((cap * t).toNat : Nat) : Int)) (b := r) (by omega) (by omega); omega)
 exact decide_eq_true (by omega)
/-! ### valid curves -/
theorem validB_iff {c : Cv} : validB c = true ↔ (1 ≤ c.vals.length ∧ c.vals.length ≤ 400 ∧ 1 ≤ c.per ∧ c.per ≤ 120 ∧ c.per ≤ c.vals.length ∧ 0 ≤ c.inc ∧ c.inc ≤ MAXV) ∧
  (∀ i, i < c.vals.length → (nth c.vals i = INF ∨ (0 ≤ nth c.vals i ∧ nth c.vals i ≤ MAXV)) ∧ (i = 0 ∨ nth c.vals (i - 1) ≤ nth c.vals i)) ∧
  (if nth c.vals (c.vals.length - 1) = INF then c.per = 1 ∧ c.inc = 0 else nth c.vals (c.vals.length - 1) ≤ nth c.vals (c.vals.length - c.per.toNat) + c.inc) := by
 unfold validB
 by_cases h : nth c.vals (c.vals.length - 1) = INF
 ·rw [if_pos h, if_pos h]
  simp only [Bool.and_eq_true, decide_eq_true_eq, List.all_eq_true, List.mem_range, Bool.or_eq_true, beq_iff_eq, and_assoc]
 ·rw [if_neg h, if_neg h]
  simp only [Bool.and_eq_true, decide_eq_true_eq, List.all_eq_true, List.mem_range, Bool.or_eq_true, beq_iff_eq, and_assoc]
theorem validB_false {c : Cv} (h : ¬ ((1 ≤ c.vals.length ∧ c.vals.length ≤ 400 ∧ 1 ≤ c.per ∧ c.per ≤ 120 ∧ c.per ≤ c.vals.length ∧ 0 ≤ c.inc ∧ c.inc ≤ MAXV) ∧
  (∀ i, i < c.vals.length → (nth c.vals i = INF ∨ (0 ≤ nth c.vals i ∧ nth c.vals i ≤ MAXV)) ∧ (i = 0 ∨ nth c.vals (i - 1) ≤ nth c.vals i)) ∧
  (if nth c.vals (c.vals.length - 1) = INF then c.per = 1 ∧ c.inc = 0 else nth c.vals (c.vals.length - 1) ≤ nth c.vals (c.vals.length - c.per.toNat) + c.inc))) : validB c = false := by
 rw [← Bool.not_eq_true, validB_iff]; exact h
end Go.Proofs.YtejpkjapmhpmpaaDoor.M

/- Curves of schedulers, plain: what the walks of rounds, the first enough and the build want. No condition. -/
namespace Go.Proofs.YtejpkjapmhpmpaaDoor.M
open Go Go.Proofs.YtejpkjapmhpmpaaDoor.K

theorem findFrom_some {P : Nat → Bool} {k a i : Nat} (h1 : a ≤ i) (h2 : i < a + k) (hP : P i = true) (h : ∀ j, a ≤ j → j < i → P j = false) : findFrom P k a = i := by
 rcases findFrom_cases P k a with ⟨r, r1, r2, r3, r4, r5⟩ | ⟨_, r2⟩
 ·rcases Nat.lt_trichotomy i r with h5 | h5 | h5
  ·rw [r5 i h1 h5] at hP; cases hP
  ·subst h5; exact r3
  ·rw [h r r1 h5] at r4; cases r4
 ·rw [r2 i h1 h2] at hP; cases hP
def shortP (cap : Nat) (s : Nat) : Bool := decide (s / Nat.gcd s cap ≤ 120)
def rvR (s : Int) (cap : Nat) : Value := .tuple #[.int .i64 (if s = -1 then 0 else s), .int .i64 (if s = -1 then 0 else ((s.toNat / Nat.gcd s.toNat cap : Nat) : Int)), .bool (s != -1)]
def svR (s : Int) : Value := .tuple #[.int .i64 (if s = -1 then 0 else s), .bool (s != -1)]
theorem leastY_eq {H : Nat → Bool} {b lo : Nat} (hb : H b = true) (h1 : H lo = true) (h2 : ∀ j, j < lo → H j = false) : leastY H b = lo := by
 obtain ⟨a1, a2, a3⟩ := leastY_is hb
 rcases Nat.lt_trichotomy lo (leastY H b) with h | h | h
 ·rw [a3 _ h] at h1; cases h1
 ·exact h.symm
 ·rw [h2 _ h] at a2; cases a2
def partV (F : Nat → Int) (t n : Nat) : List Int := fvals F t ++ List.replicate (n - t) 0
def cvV (f : Option Addr) (fc : Nat) (x : Cv × Int) : Value := .tuple #[.agg #[.slice f x.1.vals.length fc, .int .i64 x.1.per, .int .i64 x.1.inc], .int .i64 x.2]
def cuV (f : Option Addr) (fc : Nat) (x : Cv) : Value := .agg #[.slice f x.vals.length fc, .int .i64 x.per, .int .i64 x.inc]
/-- the pattern of `least`, one place of the row -/
def leastC (v : List Int) (inc : Int) (p i : Nat) : Bool := (if i + p < v.length then nth v (i + p) else nth v (i + p - v.length) + inc) == nth v i + inc * p / v.length
end Go.Proofs.YtejpkjapmhpmpaaDoor.M

/- The curve of weighted round robin, plain: it repeats itself, so that the program's and the references' forms are one. No condition. -/
namespace Go.Proofs.YtejpkjapmhpmpaaDoor.M
open Go Go.Proofs.YtejpkjapmhpmpaaDoor.K

theorem robinH_shift {cap s : Int} {r p m : Nat} (hr : 0 < r) (hm : cap * (p : Int) = (m : Int) * s) (t y : Nat) : robinH cap s r (t + p) (y + m * r) = robinH cap s r t y := by
 unfold robinH
 have e1 : (((y + m * r : Nat) : Int)) / (r : Int) = (y : Int) / (r : Int) + m := by
  rw [Int.natCast_add, Int.natCast_mul]
  exact Int.add_mul_ediv_right _ _ (by omega)
 rw [e1]
 have e2 : (s - (r : Int)) * ((y : Int) / (r : Int) + (m : Int) + 1) = (s - (r : Int)) * ((y : Int) / (r : Int) + 1) + ((m : Int) * s - (m : Int) * (r : Int)) := by
  rw [show (y : Int) / (r : Int) + (m : Int) + 1 = ((y : Int) / (r : Int) + 1) + (m : Int) by omega, Int.mul_add, Int.sub_mul s (r : Int) (m : Int), Int.mul_comm s, Int.mul_comm (r : Int) (m : Int)]
 have e3 : cap * ((t + p : Nat) : Int) = cap * (t : Int) + (m : Int) * s := by rw [Int.natCast_add, Int.mul_add, hm]
 rw [e2, e3, Int.natCast_add, Int.natCast_mul]
 apply decide_eq_decide.2
 generalize (m : Int) * s = a
 generalize (m : Int) * (r : Int) = b
 generalize (s - (r : Int)) * ((y : Int) / (r : Int) + 1) = c
 omega
theorem robinH_low {cap s : Int} {r p m : Nat} (hr : 0 < r) (hs : (r : Int) ≤ s) (hc : 0 ≤ cap) (hm : cap * (p : Int) = (m : Int) * s) {t y : Nat} (hy : y < m * r) : robinH cap s r (t + p) y = false := by
 unfold robinH
 apply decide_eq_false
 have h1 : (y : Int) / (r : Int) + 1 ≤ m := by
  have : y / r < m := Nat.div_lt_of_lt_mul (by rw [Nat.mul_comm]; exact hy)
  have e : (y : Int) / (r : Int) = ((y / r : Nat) : Int) := rfl
  omega
 have h2 : (s - (r : Int)) * ((y : Int) / (r : Int) + 1) ≤ (s - (r : Int)) * (m : Int) := Int.mul_le_mul_of_nonneg_left h1 (by omega)
 have e2 : (s - (r : Int)) * (m : Int) = (m : Int) * s - ((m * r : Nat) : Int) := by rw [Int.sub_mul, Int.mul_comm s, Int.mul_comm (r : Int), Int.natCast_mul]
 have e3 : cap * ((t + p : Nat) : Int) = cap * (t : Int) + (m : Int) * s := by rw [Int.natCast_add, Int.mul_add, hm]
 have h3 : 0 ≤ cap * (t : Int) := Int.mul_nonneg hc (by omega)
 rw [e3]
 rw [e2] at h2
 generalize (m : Int) * s = a at *
 generalize (s - (r : Int)) * ((y : Int) / (r : Int) + 1) = c at *
 omega
theorem robinF_grows {cap s r : Int} {p m : Nat} (hc : 0 ≤ cap) (hr : 0 < r) (hs : r ≤ s) (hm : cap * (p : Int) = (m : Int) * s) : Grows (robinF cap s r) 0 p ((m : Int) * r) := by
 intro t _
 obtain ⟨rn, rfl⟩ := Int.eq_ofNat_of_zero_le (show 0 ≤ r by omega)
 have hrn : 0 < rn := by omega
 obtain ⟨a1, a2, a3⟩ := leastY_is (robinH_bound hr hs t hc)
 unfold robinF
 rw [leastY_eq (robinH_bound hr hs (t + p) hc) (lo := leastY (robinH cap s rn t) (cap * t).toNat + m * rn) (by rw [robinH_shift hrn hm]; exact a2) (fun j hj => ?_)]
 ·rw [Int.natCast_add, Int.natCast_mul]
 ·by_cases h : j < m * rn
  ·exact robinH_low hrn hs hc hm h
  ·obtain ⟨y, rfl⟩ : ∃ y, j = y + m * rn := ⟨j - m * rn, by omega⟩
   rw [robinH_shift hrn hm]
   exact a3 y (by omega)
theorem robinH_less {cap s r : Int} (hc : 0 ≤ cap) {t y : Nat} (h : robinH cap s r (t + 1) y = true) : robinH cap s r t y = true := by
 unfold robinH at h ⊢
 have h0 := of_decide_eq_true h
 have h1 : cap * ((t + 1 : Nat) : Int) = cap * (t : Int) + cap := by rw [Int.natCast_add, Int.mul_add]; simp
 rw [h1] at h0
 exact decide_eq_true (by omega)
theorem robinF_mono {cap s r : Int} (hc : 0 ≤ cap) (hr : 0 < r) (hs : r ≤ s) (t : Nat) : robinF cap s r t ≤ robinF cap s r (t + 1) := by
 obtain ⟨a1, a2, a3⟩ := leastY_is (robinH_bound hr hs t hc)
 obtain ⟨b1, b2, b3⟩ := leastY_is (robinH_bound hr hs (t + 1) hc)
 unfold robinF
 apply Int.ofNat_le.2
 apply Classical.byContradiction
 intro h
 have := a3 _ (Nat.lt_of_not_le h)
 rw [robinH_less hc b2] at this
 cases this
theorem robinF_bound {cap s r : Int} (hc : 0 ≤ cap) (hr : 0 < r) (hs : r ≤ s) (t : Nat) : 0 ≤ robinF cap s r t ∧ robinF cap s r t ≤ cap * t := by
 obtain ⟨a1, a2, a3⟩ := leastY_is (robinH_bound hr hs t hc)
 unfold robinF
 have : 0 ≤ cap * (t : Int) := Int.mul_nonneg hc (by omega)
 omega
/-- all of it, for the walks -/
structure RobOk (cap k : Int) (w : List Int) (z : List Sz) (cn kn m s p mm : Nat) (r : Int) : Prop where
  hcap : cap = cn
  hk : k = kn
  c1 : 1 ≤ cn ∧ cn ≤ 4000
  k1 : kn < z.length
  zl : z.length ≤ 6
  wl : w.length = z.length
  hw : ∀ x ∈ w, 1 ≤ x ∧ x ≤ 20
  hz : ∀ s ∈ z, 0 ≤ s.least ∧ s.least ≤ s.most ∧ s.most ≤ 1500
  hr : r = nth w kn * (nth z kn).least
  r1 : 1 ≤ r ∧ r ≤ 30000
  hm : (m : Int) = r + qSum k w z w.length
  m1 : m ≤ 210000
  hs : shortN m cn = s
  s1 : r ≤ s ∧ s ≤ 120 * cn
  hp : p = s / Nat.gcd s cn
  p1 : 1 ≤ p ∧ p ≤ 120
  hmm : (cn : Int) * p = mm * s
  mm1 : mm ≤ 4000
  hinc : (cn : Int) * p / s * r = mm * r
theorem mulB {a b A B : Int} (h1 : 0 ≤ a ∧ a ≤ A) (h2 : 0 ≤ b ∧ b ≤ B) : 0 ≤ a * b ∧ a * b ≤ A * B :=
 ⟨Int.mul_nonneg h1.1 h2.1, Int.mul_le_mul h1.2 h2.2 h2.1 (by omega)⟩
theorem RobOk.facts {cap k : Int} {w : List Int} {z : List Sz} {cn kn m s p mm : Nat} {r : Int} (h : RobOk cap k w z cn kn m s p mm r) :
  Grows (robinF cap s r) 0 p (cap * p / s * r) ∧ (0 ≤ cap * p / s * r ∧ cap * p / s * r ≤ 120000000) ∧ (∀ t, t ≤ 240 → 0 ≤ robinF cap s r t ∧ robinF cap s r t ≤ 960000) ∧
  mbuild (robinF cap s r) 0 p (cap * p / s * r) = madeR ⟨fvals (robinF cap s r) p, p, cap * p / s * r⟩ := by
 obtain ⟨rfl, rfl, c1, k1, zl, wl, hw, hz, hr, r1, hm, m1, hs, s1, hp, p1, hmm, mm1, hinc⟩ := h
 have hg : Grows (robinF cn s r) 0 p ((cn : Int) * p / s * r) := by rw [hinc]; exact robinF_grows (by omega) (by omega) s1.1 hmm
 have hi : 0 ≤ (cn : Int) * p / s * r ∧ (cn : Int) * p / s * r ≤ 120000000 := by
  rw [hinc]
  have := mulB (a := (mm : Int)) (b := r) (A := 4000) (B := 30000) (by omega) (by omega)
  omega
 have hb : ∀ t : Nat, t ≤ 240 → 0 ≤ robinF cn s r t ∧ robinF cn s r t ≤ 960000 := fun t ht => by
  have h1 := robinF_bound (cap := (cn : Int)) (s := (s : Int)) (r := r) (by omega) (by omega) s1.1 t
  have h2 := mulB (a := (cn : Int)) (b := (t : Int)) (A := 4000) (B := 240) (by omega) (by omega)
  omega
 refine ⟨hg, hi, hb, ?_⟩
 have hf : ∀ t, t < 0 + p → robinF cn s r t < INF := fun t ht => by have := hb t (by omega); unfold INF; omega
 rw [mbuild_fin (fun t ht => by have := hf t ht; omega), build_made (S' := 0) (by omega) hi.1 hg hg (fun t => robinF_mono (by omega) (by omega) s1.1 t) (hb 0 (by omega)).1 hf hf]
 simp only [Nat.zero_add]
end Go.Proofs.YtejpkjapmhpmpaaDoor.M

/- Which of two curves grows less, plain. No condition. -/
namespace Go.Proofs.YtejpkjapmhpmpaaDoor.M
open Go Go.Proofs.YtejpkjapmhpmpaaDoor.K

def lcmN (a b : Nat) : Nat := a / Nat.gcd a b * b
/-! ### the curve of weighted round robin: greater sums leave less -/
end Go.Proofs.YtejpkjapmhpmpaaDoor.M

/- Finite curves in the program's own form, delays, what a flow keeps, plain. No condition. -/
namespace Go.Proofs.YtejpkjapmhpmpaaDoor.M
open Go Go.Proofs.YtejpkjapmhpmpaaDoor.K

/-- a finite valid curve: values of F up to S + P, period P, increment I -/
structure FC (F : Nat → Int) (S P : Nat) (I : Int) : Prop where
  hP : 1 ≤ P ∧ P ≤ 120
  hn : S + P ≤ 400
  hI : 0 ≤ I ∧ I ≤ 1073741824
  hg : Grows F S P I
  hm : ∀ t, F t ≤ F (t + 1)
  h0 : 0 ≤ F 0
  hb : ∀ t, t < S + P → F t ≤ 1073741824
section
variable {F G : Nat → Int} {S P S1 P1 S2 P2 : Nat} {I I1 I2 : Int}
theorem FC.nonneg (h : FC F S P I) (t : Nat) : 0 ≤ F t := by have := mono_le h.hm (Nat.zero_le t); have := h.h0; omega
theorem FC.mono (h : FC F S P I) {a b : Nat} (hab : a ≤ b) : F a ≤ F b := mono_le h.hm hab
theorem FC.bound (h : FC F S P I) (t : Nat) : F t ≤ 1073741824 * ((t : Int) + 2) := by
 have hP := h.hP
 have hI := h.hI
 induction t using Nat.strongRecOn with
 | _ t ih =>
  by_cases ht : t < S + P
  ·have := h.hb t ht; omega
  ·have h1 := ih (t - P) (by omega)
   have h2 := h.hg (t - P) (by omega)
   rw [show t - P + P = t by omega] at h2
   omega
theorem FC.fin (h : FC F S P I) {t : Nat} (ht : t < S + P) : F t ≠ INF := by have := h.hb t ht; unfold INF; omega
theorem FC.atR (h : FC F S P I) (t : Nat) : M.atR (fvals F (S + P)) P I (t : Int) = F t := atR_fvals (by have := h.hP; omega) h.hg (fun t ht => h.fin ht) t
/-- the least tick with so much, and whether there is one -/
def reachF (G : Nat → Int) (S P : Nat) (I v : Int) : Int × Bool :=
  if findFrom (fun t => decide (G t ≥ v)) (S + P) 0 ≠ -1 then (findFrom (fun t => decide (G t ≥ v)) (S + P) 0, true)
  else if I = 0 then (0, false)
  else (findFrom (fun t => decide (G t ≥ v)) (P + 1) (S + P + (((v - G (S + P - 1) + I - 1) / I).toNat - 1) * P), true)
/-- the greatest of the distances -/
def greatW (f : Nat → Int × Bool) : Nat → Nat → Int → Int → Bool × Int × Int
  | 0, _, v, a => (false, v, a)
  | n + 1, t, v, a => if (f t).2 = false then (true, 0, 0) else if (f t).1 > v then greatW f n (t + 1) (f t).1 t else greatW f n (t + 1) v a
end
end Go.Proofs.YtejpkjapmhpmpaaDoor.M
namespace Go.Proofs.YtejpkjapmhpmpaaDoor.M
open Go Go.Proofs.YtejpkjapmhpmpaaDoor.K
end Go.Proofs.YtejpkjapmhpmpaaDoor.M

/- Valid curves, finite or not, plain: what they say, their normal forms, and that two ways to make a curve give the same. No condition. -/
namespace Go.Proofs.YtejpkjapmhpmpaaDoor.M
open Go Go.Proofs.YtejpkjapmhpmpaaDoor.K

/-! ### normal forms do not depend on the period that one began with -/
section
variable {F : Nat → Int} {S P S' P' : Nat} {I I' : Int}
theorem infL_some {n m : Nat} (hn : n < m) (hi : F n = INF) (hf : ∀ t, t < n → F t ≠ INF) : infL (fvals F m) = n := by
 unfold infL
 rw [fvals_len]
 exact findFrom_some (Nat.zero_le _) (by omega) (by rw [fvals_nth F hn, hi]; simp) (fun j _ hj => by rw [fvals_nth F (by omega)]; simp [hf j hj])
theorem normR_inf {n m : Nat} {per inc : Int} (hn : n < m) (hi : F n = INF) (hf : ∀ t, t < n → F t ≠ INF) : normR ⟨fvals F m, per, inc⟩ = ⟨fvals F (n + 1), 1, 0⟩ := by
 unfold normR
 dsimp only
 rw [infL_some hn hi hf, if_neg (by omega), Int.toNat_natCast, fvals_take F (by omega)]
end
/-! ### what valid curves say -/
/-- infinite from n on -/
structure IC (F : Nat → Int) (n : Nat) : Prop where
  hn : n < 400
  hi : ∀ t, n ≤ t → F t = INF
  hb : ∀ t, t < n → 0 ≤ F t ∧ F t ≤ 1073741824
  hm : ∀ t, F t ≤ F (t + 1)
def cvF (c : Cv) (t : Nat) : Int := atR c.vals c.per c.inc (t : Int)
theorem cvF_low {c : Cv} {t : Nat} (ht : t < c.vals.length) : cvF c t = nth c.vals t := by
 unfold cvF atR
 rw [if_neg (by omega), if_pos (by omega), Int.toNat_natCast]
theorem cvF_vals (c : Cv) : c.vals = fvals (cvF c) c.vals.length := fvals_eq (fun i hi => (cvF_low hi).symm)
/-- where the value of a late tick stands -/
def cvJ (n P t : Nat) : Nat := t - ((t - n) / P + 1) * P
theorem cvJ_at {n P t : Nat} (hP : 1 ≤ P ∧ P ≤ n) (ht : n ≤ t) : n - P ≤ cvJ n P t ∧ cvJ n P t < n ∧ cvJ n P t + ((t - n) / P + 1) * P = t := by
 have hd := Nat.mod_add_div (t - n) P
 have hm := Nat.mod_lt (t - n) (show 0 < P by omega)
 have hmul : ((t - n) / P + 1) * P = P * ((t - n) / P) + P := by rw [Nat.add_mul, Nat.mul_comm]; simp
 unfold cvJ
 omega
theorem cvF_high {c : Cv} {P : Nat} (hc : c.per = P) (hP : 1 ≤ P ∧ P ≤ c.vals.length) {t : Nat} (ht : c.vals.length ≤ t) :
  cvF c t = if nth c.vals (cvJ c.vals.length P t) = INF then INF else nth c.vals (cvJ c.vals.length P t) + (((t - c.vals.length) / P + 1 : Nat) : Int) * c.inc := by
 obtain ⟨j1, j2, j3⟩ := cvJ_at hP ht
 unfold cvF atR
 have e1 : ((t : Int) - (c.vals.length : Int)) / c.per + 1 = (((t - c.vals.length) / P + 1 : Nat) : Int) := by
  rw [hc, show (t : Int) - (c.vals.length : Int) = ((t - c.vals.length : Nat) : Int) by omega]
  rfl
 rw [if_neg (by omega), if_neg (by omega), e1, hc]
 have e2 : ((t : Int) - (((t - c.vals.length) / P + 1 : Nat) : Int) * (P : Int)).toNat = cvJ c.vals.length P t := by
  rw [← Int.natCast_mul]
  omega
 rw [e2]
 rfl
section
variable {c : Cv}
theorem valid_each (h : validB c = true) : ∀ i, i < c.vals.length → (nth c.vals i = INF ∨ (0 ≤ nth c.vals i ∧ nth c.vals i ≤ MAXV)) := fun i hi => ((validB_iff.1 h).2.1 i hi).1
theorem valid_mono (h : validB c = true) {i : Nat} : ∀ {j : Nat}, i ≤ j → j < c.vals.length → nth c.vals i ≤ nth c.vals j
  | 0, hij, _ => by obtain rfl : i = 0 := by omega
                    exact Int.le_refl _
  | j + 1, hij, hj => by
    by_cases e : i = j + 1
    · subst e; exact Int.le_refl _
    · have a := valid_mono h (i := i) (j := j) (by omega) (by omega)
      have b := (((validB_iff.1 h).2.1 (j + 1) hj).2).resolve_left (by omega)
      rw [show j + 1 - 1 = j by omega] at b
      omega
/-- a finite valid curve -/
theorem valid_fin (h : validB c = true) (hf : nth c.vals (c.vals.length - 1) ≠ INF) : ∃ S P : Nat, c.per = P ∧ c.vals.length = S + P ∧ FC (cvF c) S P c.inc := by
 obtain ⟨⟨h1, h2, h3, h4, h5, h6, h7⟩, _, h8⟩ := validB_iff.1 h
 rw [if_neg hf] at h8
 obtain ⟨P, hP⟩ := Int.eq_ofNat_of_zero_le (show 0 ≤ c.per by omega)
 have hPn : 1 ≤ P ∧ P ≤ c.vals.length := by omega
 have hlow : ∀ t, t < c.vals.length → 0 ≤ cvF c t ∧ cvF c t ≤ 1073741824 := fun t ht => by
  rw [cvF_low ht]
  have a := valid_mono h (i := t) (j := c.vals.length - 1) (by omega) (by omega)
  have b := valid_each h (c.vals.length - 1) (by omega)
  have d := valid_each h t ht
  unfold INF MAXV at b d
  unfold INF at hf
  omega
 have hfin : ∀ j, j < c.vals.length → nth c.vals j ≠ INF := fun j hj => by
  have := hlow j hj
  rw [cvF_low hj] at this
  unfold INF; omega
 have hg : Grows (cvF c) (c.vals.length - P) P c.inc := fun t ht => by
  obtain ⟨j1, j2, j3⟩ := cvJ_at hPn (show c.vals.length ≤ t + P by omega)
  rw [cvF_high hP hPn (show c.vals.length ≤ t + P by omega), if_neg (hfin _ j2)]
  by_cases hn : t < c.vals.length
  ·have e : (t + P - c.vals.length) / P = 0 := Nat.div_eq_of_lt (by omega)
   rw [e] at j3 ⊢
   have ej : cvJ c.vals.length P (t + P) = t := by omega
   rw [ej, cvF_low hn]; simp
  ·obtain ⟨i1, i2, i3⟩ := cvJ_at hPn (show c.vals.length ≤ t by omega)
   rw [cvF_high hP hPn (show c.vals.length ≤ t by omega), if_neg (hfin _ i2)]
   have e : (t + P - c.vals.length) / P = (t - c.vals.length) / P + 1 := by
    rw [show t + P - c.vals.length = t - c.vals.length + P by omega, Nat.add_div_right _ (by omega)]
   rw [e] at j3 ⊢
   have ej : cvJ c.vals.length P (t + P) = cvJ c.vals.length P t := by
    have : ((t - c.vals.length) / P + 1 + 1) * P = ((t - c.vals.length) / P + 1) * P + P := by rw [Nat.add_mul _ 1 P]; simp
    omega
   rw [ej]
   have e3 : (((t - c.vals.length) / P + 1 + 1 : Nat) : Int) * c.inc = (((t - c.vals.length) / P + 1 : Nat) : Int) * c.inc + c.inc := by
    rw [Int.natCast_add _ 1, Int.add_mul]; simp
   rw [e3]; omega
 have hstep : ∀ t, t + 1 ≤ c.vals.length → cvF c t ≤ cvF c (t + 1) := fun t ht => by
  by_cases e : t + 1 < c.vals.length
  ·rw [cvF_low e, cvF_low (show t < c.vals.length by omega)]
   exact valid_mono h (by omega) e
  ·have g := hg (c.vals.length - P) (Nat.le_refl _)
   rw [show c.vals.length - P + P = t + 1 by omega, cvF_low (show c.vals.length - P < c.vals.length by omega)] at g
   rw [g, cvF_low (show t < c.vals.length by omega)]
   rw [hP, Int.toNat_natCast, show c.vals.length - 1 = t by omega] at h8
   exact h8
 refine ⟨c.vals.length - P, P, hP, by omega, by omega, by omega, by unfold MAXV at h7; omega, hg, ?_, (hlow 0 (by omega)).1, fun t ht => (hlow t (by omega)).2⟩
 intro t
 induction t using Nat.strongRecOn with
 | _ t ih =>
  by_cases ht : t + 1 ≤ c.vals.length
  ·exact hstep t ht
  ·have a := ih (t - P) (by omega)
   have g1 := hg (t - P) (by omega)
   have g2 := hg (t - P + 1) (by omega)
   rw [show t - P + P = t by omega] at g1
   rw [show t - P + 1 + P = t + 1 by omega] at g2
   omega
theorem valid_ic (h : validB c = true) (hf : nth c.vals (c.vals.length - 1) = INF) : c.per = 1 ∧ c.inc = 0 ∧ ∃ n : Nat, n < c.vals.length ∧ infL c.vals = n ∧ IC (cvF c) n := by
 obtain ⟨⟨h1, h2, h3, h4, h5, h6, h7⟩, _, h8⟩ := validB_iff.1 h
 rw [if_pos hf] at h8
 refine ⟨h8.1, h8.2, ?_⟩
 unfold infL
 rcases findFrom_cases (fun i => nth c.vals i == INF) c.vals.length 0 with ⟨n, n1, n2, n3, n4, n5⟩ | ⟨_, n2⟩
 ·rw [n3]
  have hnI : nth c.vals n = INF := by simpa using n4
  have hlow : ∀ t, t < n → 0 ≤ nth c.vals t ∧ nth c.vals t ≤ 1073741824 := fun t ht => by
   have a := valid_each h t (by omega)
   have b := n5 t (by omega) ht
   unfold MAXV at a
   rcases a with a | a
   ·rw [a] at b; simp at b
   ·exact a
  have hhi : ∀ t, n ≤ t → cvF c t = INF := fun t ht => by
   by_cases e : t < c.vals.length
   ·rw [cvF_low e]
    have a := valid_mono h ht e
    have b := valid_each h t e
    rw [hnI] at a
    unfold MAXV INF at b
    unfold INF at a ⊢
    omega
   ·obtain ⟨j1, j2, j3⟩ := cvJ_at (n := c.vals.length) (P := 1) (t := t) (by omega) (by omega)
    have ej : cvJ c.vals.length 1 t = c.vals.length - 1 := by omega
    rw [cvF_high (P := 1) (by rw [h8.1]; rfl) (by omega) (by omega), ej, if_pos hf]
  refine ⟨n, by omega, rfl, by omega, hhi, fun t ht => by rw [cvF_low (by omega)]; exact hlow t ht, fun t => ?_⟩
  by_cases ht : t + 1 < n
  ·rw [cvF_low (show t + 1 < c.vals.length by omega), cvF_low (show t < c.vals.length by omega)]
   exact valid_mono h (by omega) (by omega)
  ·rw [hhi (t + 1) (by omega)]
   by_cases e : t < n
   ·rw [cvF_low (by omega)]
    have := hlow t e
    unfold INF; omega
   ·rw [hhi t (by omega)]; exact Int.le_refl _
 ·have := n2 (c.vals.length - 1) (by omega) (by omega)
  rw [hf] at this; simp at this
/-- of a finite curve, of any valid one -/
def finB (c : Cv) : Bool := nth c.vals (c.vals.length - 1) != INF
theorem cv_eq {S P : Nat} (hP : c.per = P) (hn : c.vals.length = S + P) : c = ⟨fvals (cvF c) (S + P), P, c.inc⟩ := by
 have := cvF_vals c
 rw [hn] at this
 cases c
 simp only at *
 subst hP
 rw [← this]
theorem cv_eqI {n : Nat} (hP : c.per = 1) (hI : c.inc = 0) (hn : n < c.vals.length) : c = ⟨fvals (cvF c) c.vals.length, 1, 0⟩ := by
 have := cvF_vals c
 cases c
 simp only at *
 subst hP; subst hI
 rw [← this]
end
theorem IC.fin {F : Nat → Int} {n t : Nat} (h : IC F n) (ht : t < n) : F t ≠ INF := by have := h.hb t ht; unfold INF; omega
theorem IC.valid {F : Nat → Int} {n m : Nat} (h : IC F n) (hm : n < m) (hm' : m ≤ 400) : validB ⟨fvals F m, 1, 0⟩ = true := by
 rw [validB_iff]
 dsimp only
 rw [fvals_len, fvals_nth F (show m - 1 < m by omega), if_pos (h.hi _ (by omega))]
 refine ⟨⟨by omega, hm', by decide, by decide, by omega, by decide, by unfold MAXV; omega⟩, fun i hi => ?_, rfl, rfl⟩
 rw [fvals_nth F hi]
 refine ⟨?_, ?_⟩
 ·by_cases e : i < n
  ·have := h.hb i e
   right; unfold MAXV; exact this
  ·exact .inl (h.hi i (by omega))
 ·by_cases e : i = 0
  ·exact .inl e
  ·right
   rw [fvals_nth F (by omega)]
   have := h.hm (i - 1)
   rwa [show i - 1 + 1 = i by omega] at this
theorem FC.valid' {F : Nat → Int} {S P : Nat} {I : Int} (h : FC F S P I) : validB ⟨fvals F (S + P), P, I⟩ = true := by
 have hP := h.hP
 have hn := h.hn
 have hI := h.hI
 rw [validB_iff]
 dsimp only
 rw [fvals_len]
 refine ⟨⟨by omega, by omega, by omega, by omega, by omega, by omega, by unfold MAXV; omega⟩, fun i hi => ?_, ?_⟩
 ·rw [fvals_nth F hi]
  have a := h.nonneg i
  have b := h.hb i hi
  refine ⟨.inr ⟨a, by unfold MAXV; omega⟩, ?_⟩
  by_cases h0 : i = 0
  ·exact .inl h0
  ·right
   rw [fvals_nth F (by omega)]
   exact h.mono (show i - 1 ≤ i by omega)
 ·rw [fvals_nth F (by omega), if_neg (h.fin (by omega)), Int.toNat_natCast, fvals_nth F (by omega)]
  have h1 := h.hg (S + P - P) (by omega)
  have h2 := h.mono (show S + P - 1 ≤ S + P - P + P by omega)
  omega
/-- the normal form of a finite curve -/
theorem FC.norm {F : Nat → Int} {S P : Nat} {I : Int} (h : FC F S P I) : ∃ (s p : Nat) (q : Int), normR ⟨fvals F (S + P), P, I⟩ = ⟨fvals F (s + p), p, q⟩ ∧ FC F s p q ∧ s ≤ S ∧ p ≤ P ∧ NF F S P I p s ∧ q = I * p / P := by
 have hP := h.hP
 have hI := h.hI
 obtain ⟨p, s, h1, h2, h3, h4⟩ := normR_nf (by omega) hI.1 h.hg (fun t ht => h.fin ht)
 have hp := h1.least.1
 have hq0 : 0 ≤ I * (p : Int) / P := Int.ediv_nonneg (Int.mul_nonneg hI.1 (by omega)) (by omega)
 have hq : I * (p : Int) / P ≤ I := by
  have h3 : I * (p : Int) ≤ I * (P : Int) := Int.mul_le_mul_of_nonneg_left (by omega) hI.1
  have h4 : I * (p : Int) / P ≤ I * (P : Int) / P := Int.ediv_le_ediv (by omega) h3
  rw [Int.mul_ediv_cancel _ (by omega)] at h4
  exact h4
 have hn := h.hn
 exact ⟨s, p, I * p / P, h4, ⟨by omega, by omega, ⟨hq0, by omega⟩, h1.starts.1, h.hm, h.h0, fun t ht => h.hb t (by omega)⟩, h3, h2, h1, rfl⟩
theorem IC.norm {F : Nat → Int} {n m : Nat} (h : IC F n) (hm : n < m) : normR ⟨fvals F m, 1, 0⟩ = ⟨fvals F (n + 1), 1, 0⟩ :=
 normR_inf hm (h.hi n (Nat.le_refl _)) (fun t ht => h.fin ht)
/-- what is known of a valid curve: finite or not -/
theorem valid_cases {c : Cv} (h : validB c = true) : (∃ S P : Nat, c = ⟨fvals (cvF c) (S + P), P, c.inc⟩ ∧ c.vals.length = S + P ∧ c.per = P ∧ FC (cvF c) S P c.inc ∧ finB c = true) ∨ (∃ n : Nat, c = ⟨fvals (cvF c) c.vals.length, 1, 0⟩ ∧ n < c.vals.length ∧ c.per = 1 ∧ c.inc = 0 ∧ infL c.vals = n ∧ IC (cvF c) n ∧ finB c = false) := by
 by_cases hf : nth c.vals (c.vals.length - 1) = INF
 ·obtain ⟨h1, h2, n, h3, h4, h5⟩ := valid_ic h hf
  exact .inr ⟨n, cv_eqI h1 h2 h3, h3, h1, h2, h4, h5, by unfold finB; rw [hf]; simp⟩
 ·obtain ⟨S, P, h1, h2, h3⟩ := valid_fin h hf
  exact .inl ⟨S, P, cv_eq h1 h2, h2, h1, h3, by unfold finB; simp [hf]⟩
end Go.Proofs.YtejpkjapmhpmpaaDoor.M

/- What the references' normal form wants of long lists, plain; curves less a number. No condition. -/
namespace Go.Proofs.YtejpkjapmhpmpaaDoor.M
open Go Go.Proofs.YtejpkjapmhpmpaaDoor.K

/-- what Made wants -/
structure MadeOk (v : List Int) (per inc : Int) : Prop where
  vals : ∀ x ∈ v, -2305843009213693952 ≤ x ∧ x ≤ 4611686018427387904
  hper : 1 ≤ per ∧ per ≤ 10000 ∧ per ≤ v.length
  hinc : 0 ≤ inc ∧ inc ≤ 549755813888
  self : infL v = -1 → perR ⟨v, per, inc⟩ ((v.length : Int) - per) per = true
  at_ : ∀ t : Int, 0 ≤ t → t ≤ (v.length : Int) + per → infL v = -1 → 0 ≤ atR v per inc t ∧ atR v per inc t ≤ 1000000000000000
  nb : (∀ x ∈ (normR ⟨v, per, inc⟩).vals, -2305843009213693952 ≤ x ∧ x ≤ 4611686018427387904) ∧ InR (normR ⟨v, per, inc⟩).per ∧ InR (normR ⟨v, per, inc⟩).inc
theorem valid_range {c : Cv} (h : validB c = true) : (∀ x ∈ c.vals, -2305843009213693952 ≤ x ∧ x ≤ 4611686018427387904) ∧ 1 ≤ c.vals.length ∧ c.vals.length ≤ 400 ∧ 1 ≤ c.per ∧ c.per ≤ 120 ∧ c.per ≤ c.vals.length ∧ 0 ≤ c.inc ∧ c.inc ≤ 1073741824 := by
 obtain ⟨⟨h1, h2, h3, h4, h5, h6, h7⟩, _, _⟩ := validB_iff.1 h
 refine ⟨all_of_nth (fun j hj => ?_), h1, h2, h3, h4, h5, h6, by unfold MAXV at h7; omega⟩
 have := valid_each h j hj
 unfold INF MAXV at this
 omega
/-! ### a curve less a number -/
/-- infinite there -/
def isInf (c : Cv) (t : Nat) : Prop := finB c = false ∧ cvF c t = INF
instance (c : Cv) (t : Nat) : Decidable (isInf c t) := by unfold isInf; infer_instance
def lowF (c : Cv) (k : Int) (t : Nat) : Int := if isInf c t then INF else max 0 (cvF c t - k)
def lowerR (c : Cv) (k : Int) : Cv × Int :=
  if finB (normR c) = true ∧ 0 < (normR c).inc ∧ cvF (normR c) 400 < k then (zcv, 3)
  else madeR ⟨fvals (lowF (normR c) k) (400 + (normR c).per.toNat), (normR c).per, (normR c).inc⟩
end Go.Proofs.YtejpkjapmhpmpaaDoor.M

/- Sums of curves, curves raised, what is left of a line, plain: the program and the reference make the same. No condition. -/
namespace Go.Proofs.YtejpkjapmhpmpaaDoor.M
open Go Go.Proofs.YtejpkjapmhpmpaaDoor.K

/-! ### functions that repeat, or are infinite from some tick on -/
structure RepF (F : Nat → Int) (S P : Nat) (I : Int) : Prop where
  hP : 0 < P
  hI : 0 ≤ I
  hg : Grows F S P I
  hm : ∀ t, F t ≤ F (t + 1)
  h0 : 0 ≤ F 0
  hf : ∀ t, t < S + P → F t < INF
structure RepI (F : Nat → Int) (n m : Nat) : Prop where
  hn : n < m
  hi : ∀ t, n ≤ t → F t = INF
  hf : ∀ t, t < n → 0 ≤ F t ∧ F t < INF
  hm : ∀ t, F t ≤ F (t + 1)
/-- a curve in normal form -/
structure Nrm (c : Cv) : Prop where
  valid : validB c = true
  norm : normR c = c
def stN (c : Cv) : Nat := c.vals.length - c.per.toNat
/-- a curve, if it is one, in normal form -/
def normC (c : Cv) : Cv × Int := if validB c = true then (normR c, 0) else (zcv, 1)
/-! ### sums -/
def lcmC (a b : Cv) : Nat := lcmN a.per.toNat b.per.toNat
def gainC (c : Cv) (L : Nat) : Int := (L : Int) / c.per * c.inc
def plusF (a b : Cv) (t : Nat) : Int := if isInf a t ∨ isInf b t then INF else cvF a t + cvF b t
section
variable {a b : Cv}
end
def sumC (f g : Cv) : Cv × Int :=
  if validB f = false ∨ validB g = false then (zcv, 1)
  else if 120 < lcmC (normR f) (normR g) then (zcv, 3)
  else mbuild (plusF (normR f) (normR g)) (max (stN (normR f)) (stN (normR g))) (lcmC (normR f) (normR g)) (gainC (normR f) (lcmC (normR f) (normR g)) + gainC (normR g) (lcmC (normR f) (normR g)))
/-! ### raised -/
def raiseF (a : Cv) (k : Int) (t : Nat) : Int := if t = 0 then 0 else if isInf a t then INF else cvF a t + k
def raiseC (f : Cv) (k : Int) : Cv × Int :=
  if validB f = false then (zcv, 1) else if k < 0 ∨ MAXV < k then (zcv, 2)
  else mbuild (raiseF (normR f) k) (max 1 (stN (normR f))) (normR f).per.toNat (normR f).inc
/-! ### totals -/
def zeroC : Cv := ⟨[0], 1, 0⟩
def totalGo (s : Cv) : List Cv → Cv × Int
  | [] => (s, 0)
  | f :: l => if (sumC s f).2 ≠ 0 then (zcv, (sumC s f).2) else totalGo (sumC s f).1 l
def totalC (l : List Cv) : Cv × Int := totalGo zeroC l
/-- a flat one -/
def flatF (k : Int) (t : Nat) : Int := if t = 0 then 0 else k
def flatC (k : Int) : Cv × Int := mbuild (flatF k) 1 1 0
/-- curves in memory -/
structure CvS where
  a : Option Addr
  cap : Nat
  cv : Cv
instance instCvS : Inhabited CvS := ⟨⟨none, 0, zcv⟩⟩
def encC (s : CvS) : List Value := [.slice s.a s.cv.vals.length s.cap, .int .i64 s.cv.per, .int .i64 s.cv.inc]
/-- the last value that was looked at -/
def lastV (v : List Int) (t : Nat) : Int := if t = 0 then 0 else nth v (t - 1)
theorem lastV_succ (v : List Int) (t : Nat) : lastV v (t + 1) = nth v t := by unfold lastV; rw [if_neg (by omega)]; rfl
end Go.Proofs.YtejpkjapmhpmpaaDoor.M

/- Curves in memory, alone and in pairs. No condition. -/
namespace Go.Proofs.YtejpkjapmhpmpaaDoor.K
open Go Go.RowKit Go.Proofs.YtejpkjapmhpmpaaDoor.M
def enc2C (x : CvS × CvS) : List Value := encC x.1 ++ encC x.2
def OkC (R : Ro) (s : CvS) : Prop := RS R 1 encI s.a s.cv.vals ∧ s.cv.vals.length ≤ 1000 ∧ s.cv.vals.length ≤ s.cap
theorem OkC.mono {R R' : Ro} {s : CvS} (h : OkC R s) (hR : RLe R R') : OkC R' s := ⟨h.1.mono hR, h.2⟩
/-- a slice in memory -/
structure SlA (α : Type) where
  a : Option Addr
  cap : Nat
  xs : List α
instance instSlA {α : Type} : Inhabited (SlA α) := ⟨⟨none, 0, []⟩⟩
def encSl {α : Type} (s : SlA α) : List Value := [.slice s.a s.xs.length s.cap]
def OkL (R : Ro) (s : SlA CvS) : Prop := RS R 3 encC s.a s.xs ∧ s.xs.length ≤ s.cap ∧ ∀ x ∈ s.xs, OkC R x
theorem OkL.mono {R R' : Ro} {s : SlA CvS} (h : OkL R s) (hR : RLe R R') : OkL R' s := ⟨h.1.mono hR, h.2.1, fun x hx => (h.2.2 x hx).mono hR⟩
end Go.Proofs.YtejpkjapmhpmpaaDoor.K

/- Any typed data, opened: from the data of a row to what the walks know of memory. No condition. -/
namespace Go.Proofs.YtejpkjapmhpmpaaDoor.K
open Go Go.RowKit Go.ChangeShapes Go.WideShapes Go.ChangeAt Go.WideElems Go.Maps Go.Proofs.YtejpkjapmhpmpaaDoor.M
theorem rsl_ofG {W : World} {k : Nat} {a : Addr} {rows : List (List Value)} (hk : 0 < k) (hlen : ∀ r ∈ rows, r.length = k) (hm : rows.length ≤ 9223372036854775807)
  (hc : ∀ i r, rows[i]? = some r → ∀ j v, r[j]? = some v → W.cell? (a.add (i * k + j)) = some v) : RSl (roOf W) k (some a) rows := by
 by_cases h0 : rows = []
 ·subst h0
  exact ⟨by simp, .inl rfl, by simp⟩
 ·have hpos : 0 < rows.length := List.length_pos_iff.2 h0
  have hz0 : (rows[0]).length = k := hlen _ (List.getElem_mem hpos)
  have h1 := hc 0 rows[0] (List.getElem?_eq_getElem hpos) 0 ((rows[0])[0]'(by omega)) (List.getElem?_eq_getElem (by omega))
  rw [Nat.zero_mul, Nat.zero_add] at h1
  unfold World.cell? at h1
  cases hh : W.heap[(a.add 0).block]? with
  | none => simp [hh] at h1
  | some o =>
   cases o with
   | cells arr T fz =>
    have hs : a.spot = none := by
     simp only [hh] at h1
     cases hsp : a.spot with
     | none => rfl
     | some x => simp [Addr.add, hsp] at h1
    have hb : (a.add 0).block = a.block := rfl
    rw [hb] at hh
    refine ⟨hlen, .inr ⟨a.block, a.off, arr.toList, ?_, ?_, fun m v hv => ?_⟩, hm⟩
    ·cases a; simp only at hs; subst hs; rfl
    ·unfold roOf; rw [hh]
    ·have hmlt : m < rows.flatten.length := (List.getElem?_eq_some_iff.1 hv).1
     rw [flatten_len hlen] at hmlt
     have hi : m / k < rows.length := Nat.div_lt_of_lt_mul (by rw [Nat.mul_comm]; exact hmlt)
     have hj : m % k < k := Nat.mod_lt _ hk
     have hzi := hlen _ (List.getElem_mem hi)
     have hg := flatten_get hlen (i := m / k) (j := m % k) (row := rows[m / k]) (v := (rows[m / k])[m % k]'(by omega)) (List.getElem?_eq_getElem hi) (List.getElem?_eq_getElem _)
     have hme : m / k * k + m % k = m := by rw [Nat.mul_comm]; exact Nat.div_add_mod m k
     rw [hme, hv] at hg
     have hv' : v = (rows[m / k])[m % k]'(by omega) := by simpa using hg
     have h2 := hc (m / k) _ (List.getElem?_eq_getElem hi) (m % k) v (by rw [hv']; exact List.getElem?_eq_getElem _)
     rw [hme] at h2
     unfold World.cell? at h2
     have hbj : (a.add m).block = a.block := by unfold Addr.add; split <;> rfl
     have hsj : (a.add m).spot = a.spot := by unfold Addr.add; split <;> simp [hs]
     have hoj : (a.add m).off = a.off + m := by unfold Addr.add; split <;> simp [*]
     rw [hbj, hh] at h2
     simp only [hsj, hs, hoj] at h2
     simpa using h2
   | _ => simp [hh] at h1
section
variable {H : Type} {enc : TypeId × Value → H} {P : Program}
def Opn {α : Type} (enc : TypeId × Value → H) (P : Program) (t k : Nat) (en : α → List Value) (ok : Ro → α → Prop) : Prop :=
  (∀ z, (en z).length = k) ∧ ∀ (W : World) (spare : Nat → Bool) (fuel : Nat) (cs : List Value) (x : DataW H × List MemPlace), DataW.trod enc P W 0 spare true fuel t cs = some x → ∃ z, cs = en z ∧ ok (roOf W) z
theorem opn_int {t : Nat} (ht : P.underlying t = some (.int .i64)) : Opn enc P t 1 encI (fun _ z => InR z) :=
 ⟨fun _ => rfl, fun W spare fuel cs x h => by
  obtain ⟨n, rfl, _, hw⟩ := DataW.trod_int ht h
  exact ⟨n, rfl, bounds_i64 hw⟩⟩
def encStr (s : List UInt8) : List Value := [.string ⟨s.toArray⟩]
theorem opn_str {t : Nat} (ht : P.underlying t = some .string) : Opn enc P t 1 encStr (fun _ s => s.length ≤ maxLen) :=
 ⟨fun _ => rfl, fun W spare fuel cs x h => by
  obtain ⟨s, rfl, _, hw⟩ := DataW.trod_string ht h
  refine ⟨s.data.toList, ?_, by simpa using hw⟩
  unfold encStr
  simp⟩
theorem Opn.map {α β : Type} {t k : Nat} {en : α → List Value} {ok : Ro → α → Prop} {en' : β → List Value} {ok' : Ro → β → Prop} (h : Opn enc P t k en ok) (f : α → β) (hl : ∀ z, (en' z).length = k) (he : ∀ z, en z = en' (f z)) (ho : ∀ R z, ok R z → ok' R (f z)) : Opn enc P t k en' ok' :=
 ⟨hl, fun W spare fuel cs x hx => by
  obtain ⟨z, rfl, hz⟩ := h.2 W spare fuel cs x hx
  exact ⟨f z, he z, ho _ _ hz⟩⟩
theorem opn_slice {α : Type} [Inhabited α] {t e k : Nat} {en : α → List Value} {ok : Ro → α → Prop} (ht : P.underlying t = some (.slice e)) (hk : 0 < k) (hce : P.cellsOf e = k) (he : Opn enc P e k en ok) :
  Opn enc P t 1 (encSl (α := α)) (fun R s => RS R k en s.a s.xs ∧ s.xs.length ≤ s.cap ∧ ∀ x ∈ s.xs, ok R x) := by
 refine ⟨fun _ => rfl, fun W spare fuel cs x h => ?_⟩
 rcases Go.Deep.open_slice ht h with ⟨hcs, _⟩ | ⟨a, len, cap, m, n, D, Pl, hcs, _, hl, hm, hmm, _, hx⟩
 ·exact ⟨⟨none, 0, []⟩, hcs, ⟨by simp, .inl rfl, by simp⟩, Nat.le_refl _, by simp⟩
 ·have hlm : len ≤ m := by rw [hmm]; split <;> omega
  have each : ∀ i, i < len → ∃ z : α, (∀ j v, (en z)[j]? = some v → W.cell? (a.add (i * k + j)) = some v) ∧ ok (roOf W) z := by
   intro i hi
   obtain ⟨cs', h1, h2⟩ := hx i (by omega)
   rw [hce] at h1
   obtain ⟨_, hlen, hcell⟩ := World.cells?_some h1
   obtain ⟨z, rfl, hr⟩ := he.2 W spare n cs' _ h2
   refine ⟨z, fun j v hj => ?_, hr⟩
   have hjk : j < k := by have := (List.getElem?_eq_some_iff.1 hj).1; rw [he.1] at this; exact this
   have := hcell j hjk
   rw [addr_add_add] at this
   rw [this, hj]
  have hch : ∃ f : Nat → α, ∀ i, i < len → (∀ j v, (en (f i))[j]? = some v → W.cell? (a.add (i * k + j)) = some v) ∧ ok (roOf W) (f i) :=
   ⟨fun i => if h : i < len then (each i h).choose else default, fun i hi => by simp only [hi, dif_pos]; exact (each i hi).choose_spec⟩
  obtain ⟨f, hf⟩ := hch
  have hlen : ((List.range len).map f).length = len := by simp
  refine ⟨⟨some a, cap, (List.range len).map f⟩, by rw [hcs]; unfold encSl; rw [hlen], ?_, by (try dsimp only); rw [hlen]; exact hl, fun z hz => ?_⟩
  ·refine rsl_ofG hk (fun r hr => ?_) (by rw [List.length_map]; (try dsimp only); rw [hlen]; simp only [maxLen] at hm; omega) (fun i r hi j v hv => ?_)
   ·obtain ⟨z, _, rfl⟩ := List.mem_map.1 hr
    exact he.1 z
   ·have hil : i < len := by have := (List.getElem?_eq_some_iff.1 hi).1; simpa using this
    have : r = en (f i) := by simp [List.getElem?_map, hil] at hi; exact hi.symm
    subst this
    exact (hf i hil).1 j v hv
  ·obtain ⟨i, hi, rfl⟩ := List.mem_map.1 hz
   exact (hf i (by simpa using hi)).2
theorem cut2 {cs : List Value} {a b : Nat} (h : cs.length = a + b) : cs = (cs.drop 0).take a ++ (cs.drop a).take b := by
 rw [List.drop_zero, List.take_of_length_le (l := cs.drop a) (by rw [List.length_drop]; omega), List.take_append_drop]
theorem cut3 {cs : List Value} {a b c : Nat} (h : cs.length = a + b + c) : cs = (cs.drop 0).take a ++ (cs.drop a).take b ++ (cs.drop (a + b)).take c := by
 rw [List.drop_zero, List.take_of_length_le (l := cs.drop (a + b)) (by rw [List.length_drop]; omega), ← List.drop_drop, List.append_assoc, List.take_append_drop, List.take_append_drop]
theorem opn_struct2 {α β : Type} {t k0 k1 : Nat} {f0 f1 : Field} {e0 : α → List Value} {e1 : β → List Value} {p0 : Ro → α → Prop} {p1 : Ro → β → Prop} (ht : P.underlying t = some (.struct #[f0, f1])) (hc : P.cellsOf t = k0 + k1)
  (c0 : P.cellsOf f0.type = k0) (c1 : P.cellsOf f1.type = k1) (o0 : f0.offset = 0) (o1 : f1.offset = k0) (h0 : Opn enc P f0.type k0 e0 p0) (h1 : Opn enc P f1.type k1 e1 p1) :
  Opn enc P t (k0 + k1) (fun z : α × β => e0 z.1 ++ e1 z.2) (fun R z => p0 R z.1 ∧ p1 R z.2) := by
 refine ⟨fun z => by rw [List.length_append, h0.1, h1.1], fun W spare fuel cs x h => ?_⟩
 obtain ⟨y0, y1, n, _, hl, g0, g1⟩ := trod_struct2 ht h
 rw [c0, o0] at g0
 rw [c1, o1] at g1
 obtain ⟨z0, q0, r0⟩ := h0.2 _ _ _ _ _ g0
 obtain ⟨z1, q1, r1⟩ := h1.2 _ _ _ _ _ g1
 refine ⟨(z0, z1), ?_, r0, r1⟩
 rw [cut2 (hl.trans hc), q0, q1]
theorem opn_struct3 {α β γ : Type} {t k0 k1 k2 : Nat} {f0 f1 f2 : Field} {e0 : α → List Value} {e1 : β → List Value} {e2 : γ → List Value} {p0 : Ro → α → Prop} {p1 : Ro → β → Prop} {p2 : Ro → γ → Prop} (ht : P.underlying t = some (.struct #[f0, f1, f2])) (hc : P.cellsOf t = k0 + k1 + k2)
  (c0 : P.cellsOf f0.type = k0) (c1 : P.cellsOf f1.type = k1) (c2 : P.cellsOf f2.type = k2) (o0 : f0.offset = 0) (o1 : f1.offset = k0) (o2 : f2.offset = k0 + k1) (h0 : Opn enc P f0.type k0 e0 p0) (h1 : Opn enc P f1.type k1 e1 p1) (h2 : Opn enc P f2.type k2 e2 p2) :
  Opn enc P t (k0 + k1 + k2) (fun z : α × β × γ => e0 z.1 ++ e1 z.2.1 ++ e2 z.2.2) (fun R z => p0 R z.1 ∧ p1 R z.2.1 ∧ p2 R z.2.2) := by
 refine ⟨fun z => by rw [List.length_append, List.length_append, h0.1, h1.1, h2.1], fun W spare fuel cs x h => ?_⟩
 obtain ⟨y0, y1, y2, n, _, hl, g0, g1, g2⟩ := Go.Deep.trod_struct3 ht h
 rw [c0, o0] at g0
 rw [c1, o1] at g1
 rw [c2, o2] at g2
 obtain ⟨z0, q0, r0⟩ := h0.2 _ _ _ _ _ g0
 obtain ⟨z1, q1, r1⟩ := h1.2 _ _ _ _ _ g1
 obtain ⟨z2, q2, r2⟩ := h2.2 _ _ _ _ _ g2
 refine ⟨(z0, z1, z2), ?_, r0, r1, r2⟩
 rw [cut3 (hl.trans hc), q0, q1, q2]
theorem Opn.topS {α : Type} {W : World} {spare : Nat → Bool} {t e : Nat} {ok : Ro → SlA α → Prop} {v : Value} {d : DataW H} {ps : List MemPlace} (he : Opn enc P t 1 (encSl (α := α)) ok) (ht : P.underlying t = some (.slice e)) (hval : Value.okWide P W .any 0 t v) (h : DataW.Trod enc P W 0 spare true t v d ps) :
  ∃ z : SlA α, v = .slice z.a z.xs.length z.cap ∧ ok (roOf W) z := by
 obtain ⟨a0, len, cap, rfl⟩ := okWide_slice ht hval
 obtain ⟨fuel, hf⟩ := h
 obtain ⟨z, hz, hr⟩ := he.2 W spare fuel _ _ hf
 refine ⟨z, ?_, hr⟩
 simp [Value.cells, encSl] at hz
 obtain ⟨rfl, rfl, rfl⟩ := hz
 rfl
/-- curves -/
def OkI (R : Ro) (s : CvS) : Prop := RS R 1 encI s.a s.cv.vals ∧ s.cv.vals.length ≤ s.cap ∧ InR s.cv.per ∧ InR s.cv.inc
theorem opn_curve {t ts ti : Nat} {f0 f1 f2 : Field} (ht : P.underlying t = some (.struct #[f0, f1, f2])) (hc : P.cellsOf t = 3) (t0 : f0.type = ts) (t1 : f1.type = ti) (t2 : f2.type = ti) (cs : P.cellsOf ts = 1) (ci : P.cellsOf ti = 1) (o0 : f0.offset = 0) (o1 : f1.offset = 1) (o2 : f2.offset = 2)
  (us : P.underlying ts = some (.slice ti)) (ui : P.underlying ti = some (.int .i64)) : Opn enc P t 3 encC OkI := by
 have hs := opn_slice (α := Int) (enc := enc) us (by decide) ci (opn_int ui)
 have h3 := opn_struct3 (enc := enc) (k0 := 1) (k1 := 1) (k2 := 1) ht hc (by rw [t0]; exact cs) (by rw [t1]; exact ci) (by rw [t2]; exact ci) o0 o1 o2 (by rw [t0]; exact hs) (by rw [t1]; exact opn_int ui) (by rw [t2]; exact opn_int ui)
 exact h3.map (fun z => ⟨z.1.a, z.1.cap, ⟨z.1.xs, z.2.1, z.2.2⟩⟩) (fun _ => rfl) (fun _ => rfl) (fun R z h => ⟨h.1.1, h.1.2.1, h.2.1, h.2.2⟩)
end
end Go.Proofs.YtejpkjapmhpmpaaDoor.K

/- A function made with any captured values. No condition. -/
namespace Go.Proofs.YtejpkjapmhpmpaaDoor.K
open Go Go.RowKit
variable {P : Program} {T : Tab} {n : Nat} {env : Env} {w0 : World} {R : Ro} {E : List Ent} {o : Oper} {pc p q : Bool}
theorem Yl.makeFunc {fn : Go.Fn} {fi ca : List Operand} {us vs : List Value} (ho : o.op = .makeFunc fn fi.toArray ca.toArray) (hf : evs env fi = some (p, us)) (hc : evs env ca = some (q, vs)) (hpq : pc = true → (p && q) = true) : Yl P n env w0 R E o pc (.func fn us.toArray vs.toArray) := by
 intro a w hk hm hpc
 obtain ⟨h1, h2⟩ := and_both (hpq hpc)
 have e1 := evs_ok hk hf h1
 have e2 := evs_ok hk hc h2
 have e3 : fi.toArray.map a.eval = us.toArray := by rw [← e1]; simp
 have e4 : ca.toArray.map a.eval = vs.toArray := by rw [← e2]; simp
 unfold execOp
 rw [ho]
 simp only [Instr.makeFunc]
 rw [e3, e4]
 rfl
/-- a field of a value, of one cell -/
theorem Yl.field {t : TypeId} {x : Operand} {f : Nat} {ff : Array Field} {fl : Field} {cs : Array Value} {v : Value} {d : TD} (hT : TabOk P T) (ho : o.op = .field t x f) (hu : P.underlying t = some (.struct ff)) (hfl : ff[f]? = some fl) (hd : T.at fl.type = some d) (hk : d.k.known = true) (hka : d.k.agg = false)
  (hx : ev env x = some (p, .agg cs)) (hpq : pc = true → p = true) (hv : cs[fl.offset]? = some v) : Yl P n env w0 R E o pc v := by
 intro a w hk2 hm hpc
 have h1 := hk2.ev hx (hpq hpc)
 have h2 := run_isAgg hT hd (TK.ne_other hk) w
 unfold execOp
 rw [ho]
 simp [Instr.field, underlying, hu, hfl, h1, asAgg, part, h2, hka, hv]
/-- an owned slice lies within its room -/
theorem WL.cap {ops rest : List Oper} {Q : Exit → Act → World → Prop} {e : TypeId} {k : Nat} {a : Option Addr} {cap : Nat} {rows : List (List Value)} (i : Nat) (hE : E[i]? = some (.sl e k a cap rows)) (h : rows.length ≤ cap → WG false P ops Q rest n env w0 R E) : WG false P ops Q rest n env w0 R E := by
 intro ac w hk hm
 refine h ?_ ac w hk hm
 obtain ⟨g1, g2, h⟩ := own_sl hm (List.mem_of_getElem? hE)
 rcases h with ⟨_, h2, _⟩ | ⟨g, cur, _, _, _, hn, _⟩
 ·subst h2; exact Nat.zero_le _
 ·simpa using hn
theorem W.cap {c : Code} {Q : Exit → Act → World → Prop} {e : TypeId} {k : Nat} {a : Option Addr} {cap : Nat} {rows : List (List Value)} (i : Nat) (hE : E[i]? = some (.sl e k a cap rows)) (h : rows.length ≤ cap → W P c Q n env w0 R E) : W P c Q n env w0 R E := by
 intro ac w hk hm
 refine h ?_ ac w hk hm
 obtain ⟨g1, g2, h⟩ := own_sl hm (List.mem_of_getElem? hE)
 rcases h with ⟨_, h2, _⟩ | ⟨g, cur, _, _, _, hn, _⟩
 ·subst h2; exact Nat.zero_le _
 ·simpa using hn
theorem WS.callAt {ops : List Oper} {Q : Exit → Act → World → Prop} {ES : List Ent} {R0 : Ro} {fuel : Nat} {listed : Array Bool} {d : Nat} {f : FuncId} {vs : List Value} {e : Ent} {Post : Value → Ro → Ent → List Ent → Prop} (k : Nat) {i : Nat} (hi : ops.toArray[i]? = some o) (hf : Enters P f) (hg : o.guard = none) (hd : o.dst = some d) (hdn : d < n)
  (hc : CallOp env o.op true f vs) (hE : E[k]? = some e) (hv : Fn P f vs w0 R (e :: E.eraseIdx k) (fun v R' E' => ∃ e' N, E' = N ++ e' :: E.eraseIdx k ∧ Post v R' e' N))
  (h : ∀ v R' e' N, RLe R R' → Post v R' e' N → RLe R0 R' ∧ ES.Sublist (N ++ E.set k e') ∧ WA P ops Q ES R0 w0 fuel (listed.setIfInBounds i true) n ((d, true, v) :: env) R' (N ++ E.set k e')) : WS P ops Q ES R0 w0 fuel listed n env R E i := by
 intro a w hk hm
 unfold wpOp
 rw [hi]
 simp only [Region.wanted, hg, if_true]
 left
 unfold Oper.wp
 rw [run_call hk hc rfl hf]
 refine (hv w (hm.perm (perm_get hE))).mono ?_
 rintro e0 w' ⟨v, R', E', rfl, hR, hm', e', N, rfl, hp⟩
 obtain ⟨g1, g2, g3⟩ := h v R' e' N hR hp
 have hm2 := hm'.perm ((perm_set e' hE).append_left N)
 simp only [hd]
 exact ⟨hm2.sub g1 g2, g3 _ _ (hk.putT hdn v) hm2⟩
end Go.Proofs.YtejpkjapmhpmpaaDoor.K

/- The rules of the walks, over any program: a call that only reads the memory that is owned. No condition. -/
namespace Go.Proofs.YtejpkjapmhpmpaaDoor.K
open Go Go.RowKit

/-- a call that hands back this value and leaves this memory as it is -/
def FnE (P : Program) (f : FuncId) (args : List Value) (w0 : World) (R : Ro) (E : List Ent) (v : Value) : Prop :=
  ∀ w, Mem w0 w R E → Calls P f args.toArray w fun e w' => e = .returned v ∧ Mem w0 w' R E
section
variable {P : Program} {ops : List Oper} {Q : Exit → Act → World → Prop} {rest : List Oper} {n : Nat} {env : Env} {w0 : World} {R : Ro} {E : List Ent} {o : Oper} {pc q draw : Bool}
theorem Fn.toE {f : FuncId} {args : List Value} {v : Value} (h : Fn P f args w0 R E (fun v' _ E' => v' = v ∧ E' = E)) : FnE P f args w0 R E v := by
 intro w hm
 refine (h w hm).mono ?_
 rintro e w' ⟨v', R', E', rfl, hR, hm', rfl, rfl⟩
 exact ⟨rfl, hm'.sub hR (List.Sublist.refl _)⟩
theorem WG.callE {v : Value} {d : Nat} {f : FuncId} {vs : List Value} (hf : Enters P f) (hg : gpc ops env o = some pc) (hd : o.dst = some d) (hdn : d < n)
  (hc : CallOp env o.op q f vs) (hq : pc = true → q = true) (hv : pc = true → FnE P f vs w0 R E v)
  (h : WG draw P ops Q rest n ((d, pc, v) :: env) w0 R E) : WG draw P ops Q (o :: rest) n env w0 R E := by
 cases draw with
 | false =>
  intro a w hk hm
  refine wpList_step fun K hK => ?_
  rw [hk.wanted hg]
  have hput := hk.put hdn pc v
  cases pc with
  | true =>
   simp only [if_true, Oper.wp, run_call hk hc (hq rfl) hf, Oper.upon, hd]
   refine (hv rfl w hm).mono ?_
   rintro e w' ⟨rfl, hm'⟩
   exact hK _ _ (h _ _ (by simpa using hput) hm')
  | false =>
   simp only [Bool.false_eq_true, if_false, hd]
   exact hK _ _ (h _ _ (by simpa using hput) hm)
 | true =>
  intro a hk
  refine wpQuiet_step fun K hK => ?_
  rw [hk.wanted hg]
  have hput := hk.put hdn pc v
  cases pc with
  | true =>
   simp only [if_true]
   refine ⟨v, fun w hm => ?_, ?_⟩
   ·unfold Oper.quietAt
    rw [run_call hk hc (hq rfl) hf]
    exact ⟨rfl, hv rfl w hm⟩
   ·rw [hd]; exact hK _ (h _ (by simpa using hput))
  | false =>
   simp only [Bool.false_eq_true, if_false, hd]
   exact hK _ (h _ (by simpa using hput))
end
end Go.Proofs.YtejpkjapmhpmpaaDoor.K
namespace Go.Proofs.YtejpkjapmhpmpaaDoor.K
open Go Go.RowKit
section
variable {P : Program} {n : Nat} {env : Env} {w0 : World} {R : Ro} {E : List Ent} {o : Oper} {pc p q : Bool}
end
end Go.Proofs.YtejpkjapmhpmpaaDoor.K
namespace Go.Proofs.YtejpkjapmhpmpaaDoor.K
open Go Go.RowKit
section
variable {P : Program} {n : Nat} {env : Env} {w0 : World} {R : Ro} {E : List Ent} {o : Oper} {pc p q : Bool}
end
theorem RS.some {α : Type} {_i : Inhabited α} {R : Ro} {k : Nat} {enc : α → List Value} {a : Option Addr} {xs : List α} (h : RS (_i := _i) R k enc a xs) (hx : 0 < xs.length) : a.isNone = false := by
 rcases h.2.1 with h1 | ⟨b, off, cs, h1, _⟩
 ·rw [List.map_eq_nil_iff] at h1; rw [h1] at hx; simp at hx
 ·rw [h1]; rfl
end Go.Proofs.YtejpkjapmhpmpaaDoor.K

/- Rules: conversions of integers, arithmetic of uint64, equality of bools, of strings and of structs of two numbers, an interface against nil, strings joined. No condition. -/
namespace Go.Proofs.YtejpkjapmhpmpaaDoor.K
open Go Go.RowKit

section
variable {P : Program} {T : Tab} {n : Nat} {env : Env} {w0 : World} {R : Ro} {E : List Ent} {o : Oper} {pc p q : Bool}

theorem Yl.conv {src dst : TypeId} {x : Operand} {k k' : IntKind} {a b : Int} {d d2 : TD} (hT : TabOk P T) (ho : o.op = .convert src dst x) (hd : T.at src = some d) (hk : d.k = .int k) (hd2 : T.at dst = some d2) (hk2 : d2.k = .int k') (hx : ev env x = some (p, .int k a))
  (hpq : pc = true → p = true) (hr : pc = true → k'.wrap a = b) : Yl P n env w0 R E o pc (.int k' b) := by
 intro ac w hkn hm hp
 have h1 := hT.int hd hk
 have h2 := hT.int hd2 hk2
 unfold execOp
 simp [ho, hkn.ev hx (hpq hp), convert, run_underlying h1, run_underlying h2, Conv.intToInt, hr hp]
theorem Yl.convId {src dst : TypeId} {x : Operand} {k k' : IntKind} {a : Int} {d d2 : TD} (hT : TabOk P T) (ho : o.op = .convert src dst x) (hd : T.at src = some d) (hk : d.k = .int k) (hd2 : T.at dst = some d2) (hk2 : d2.k = .int k') (hx : ev env x = some (p, .int k a))
  (hpq : pc = true → p = true) (hr : pc = true → k'.wrap a = a) : Yl P n env w0 R E o pc (.int k' a) := Yl.conv hT ho hd hk hd2 hk2 hx hpq hr

theorem u64_id {x : Int} (h : 0 ≤ x ∧ x ≤ 18446744073709551615) : IntKind.u64.wrap x = x := by rw [IntKind.wrap_u64]; omega
theorem u8_id {x : Int} (h : 0 ≤ x ∧ x ≤ 255) : IntKind.u8.wrap x = x := by simp [IntKind.wrap, IntKind.bits, IntKind.signed]; omega
/-- the quotient as Go has it -/
theorem Yl.tdiv {t t' x y} {a b : Int} (ho : o.op = .binOp .quo t x y t') (hx : ev env x = some (p, .int .i64 a)) (hy : ev env y = some (q, .int .i64 b))
  (hpq : pc = true → (p && q) = true) (hb : pc = true → b ≠ 0) (hr : pc = true → InR (a.tdiv b)) : Yl P n env w0 R E o pc (.int .i64 (a.tdiv b)) := by
 intro ac w hk hm hp
 obtain ⟨h1, h2⟩ := and_both (hpq hp)
 have hb := hb hp
 have e4 := i64_wrap (hr hp)
 unfold execOp
 simp [ho, hk.ev hx h1, hk.ev hy h2, eqGuard, binOp, Op.intDiv, hb, e4]
theorem str_beq (a b : ByteArray) : (a.toList == b.toList) = decide (a = b) := by
 by_cases h : a = b
 ·subst h; simp
 ·have h2 : a.toList ≠ b.toList := fun h' => h (by
   rw [ByteArray.toList_eq, ByteArray.toList_eq] at h'
   cases a; cases b
   rename_i x y
   obtain ⟨x⟩ := x
   obtain ⟨y⟩ := y
   exact congrArg (fun z => ByteArray.mk (Array.mk z)) h')
  rw [decide_eq_false h]
  exact beq_eq_false_iff_ne.2 h2
theorem Yl.eqS {t t' x y} {a b : ByteArray} (ho : o.op = .binOp .eql t x y t') (hx : ev env x = some (p, .string a)) (hy : ev env y = some (q, .string b))
  (hpq : pc = true → (p && q) = true) : Yl P n env w0 R E o pc (.bool (decide (a = b))) := by
 intro ac w hkn hm hp
 obtain ⟨h1, h2⟩ := and_both (hpq hp)
 unfold execOp
 simp [ho, hkn.ev hx h1, hkn.ev hy h2, eqGuard, binOp, Op.stringOp, str_beq]
theorem Yl.neS {t t' x y} {a b : ByteArray} (ho : o.op = .binOp .neq t x y t') (hx : ev env x = some (p, .string a)) (hy : ev env y = some (q, .string b))
  (hpq : pc = true → (p && q) = true) : Yl P n env w0 R E o pc (.bool (!decide (a = b))) := by
 intro ac w hkn hm hp
 obtain ⟨h1, h2⟩ := and_both (hpq hp)
 unfold execOp
 simp [ho, hkn.ev hx h1, hkn.ev hy h2, eqGuard, binOp, Op.stringOp, str_beq]
theorem Yl.cat {t t' x y} {a b : ByteArray} (ho : o.op = .binOp .add t x y t') (hx : ev env x = some (p, .string a)) (hy : ev env y = some (q, .string b))
  (hpq : pc = true → (p && q) = true) (hr : pc = true → a.size + b.size ≤ 9223372036854775807) : Yl P n env w0 R E o pc (.string (a ++ b)) := by
 intro ac w hkn hm hp
 obtain ⟨h1, h2⟩ := and_both (hpq hp)
 unfold execOp
 simp [ho, hkn.ev hx h1, hkn.ev hy h2, eqGuard, binOp, run_string_add_sum w a b (hr hp)]
/-- structs of two numbers -/
def Duo (P : Program) (t : TypeId) : Prop := ∃ f g : Field, P.underlying t = some (.struct #[f, g]) ∧ P.stoodInHeld t = false ∧ P.eqGuardType P.depth t = false ∧ f.name ≠ "_" ∧ g.name ≠ "_" ∧ f.offset = 0 ∧ g.offset = 1 ∧ (∃ k, P.underlying f.type = some (.int k)) ∧ (∃ k, P.underlying g.type = some (.int k)) ∧ (∀ (xs : Array Value) (w : World) (v : Value), xs[0]? = some v → (part f.type xs 0).run P w = .ok v w) ∧ (∀ (xs : Array Value) (w : World) (v : Value), xs[1]? = some v → (part g.type xs 1).run P w = .ok v w)
/-- an interface against nil -/
theorem Yl.neNilI {t t' x y} {v : Value} {r : Bool} (hu : P.underlying t = some (.interface (P.methodsAt t))) (ho : o.op = .binOp .neq t x y t') (hc : y = .const .nilIface) (hx : ev env x = some (p, v))
  (hpq : pc = true → p = true) (hv : (v = .nilIface ∧ r = false) ∨ ((∃ u z, v = .iface u z) ∧ r = true)) : Yl P n env w0 R E o pc (.bool r) := by
 intro ac w hkn hm hp
 subst hc
 have hy : ac.eval (.const .nilIface) = .nilIface := rfl
 unfold execOp
 rcases hv with ⟨rfl, rfl⟩ | ⟨⟨u, z, rfl⟩, rfl⟩
 ·have e := run_equal_nil_nil w t hu
  simp [ho, hkn.ev hx (hpq hp), hy, eqGuard, binOp, e]
 ·have e := run_equal_held_nil w t u z hu
  simp [ho, hkn.ev hx (hpq hp), hy, eqGuard, binOp, e]
end
end Go.Proofs.YtejpkjapmhpmpaaDoor.K

/- What the library's contracts leave of memory; strings as lists of bytes. No condition. -/
namespace Go.Proofs.YtejpkjapmhpmpaaDoor.K
open Go Go.RowKit

theorem Mem.belowAll {w0 w w' : World} {R : Ro} {E : List Ent} (h : Mem w0 w R E) (hb : Below w.heap.size w w') : Mem w0 w' R E :=
 ⟨h.below.trans (hb.mono h.below.size), fun b cs hr => by
  obtain ⟨T, fz, h1⟩ := h.ro b cs hr
  exact ⟨T, fz, by rw [hb.block b (h.ro_lt hr)]; exact h1⟩, fun e he => Ent.ok_of_block (h.own e he) (fun b hbk => hb.block b (h.lt he hbk)), h.disj, h.nodup⟩
theorem below_drewN (w : World) (n : Nat) : Below w.heap.size w (w.drewN n) := ⟨rfl, rfl, rfl, Nat.le_refl _, fun _ _ => rfl⟩
theorem FnV.of {P : Program} {f : FuncId} {args : List Value} {R : Ro} {v : Value} (h : ∀ w0 E w, Mem w0 w R E → Calls P f args.toArray w fun e w' => e = .returned v ∧ Below w.heap.size w w') : FnV P f args R v := by
 intro w0 E w hm
 refine (h w0 E w hm).mono ?_
 rintro e w' ⟨rfl, hb⟩
 exact ⟨rfl, hm.belowAll hb⟩
theorem Mem.cell {w0 w : World} {R : Ro} {E : List Ent} (h : Mem w0 w R E) {b : Nat} {v : Value} {rest : List Value} (hr : R b = some (v :: rest)) : w.cell? ⟨b, 0, none⟩ = some v := by
 obtain ⟨T, fz, h1⟩ := h.ro b _ hr
 unfold World.cell?
 simp [h1]
/-- a string of these bytes -/
def str (l : List UInt8) : ByteArray := ⟨l.toArray⟩
theorem str_append (a b : List UInt8) : str a ++ str b = str (a ++ b) := by
 unfold str
 apply ByteArray.ext
 simp
theorem str_inj {a b : List UInt8} (h : str a = str b) : a = b := by
 have := congrArg (fun x : ByteArray => x.data.toList) h
 simpa [str] using this
theorem str_size (a : List UInt8) : (str a).size = a.length := by simp [str, ByteArray.size]
theorem str_of (s : ByteArray) : s = str s.data.toList := by unfold str; apply ByteArray.ext; simp
theorem decDigits_le (u : Nat) : (Lib.decDigits u).length ≤ u + 1 := by
 induction u using Nat.strongRecOn with
 | _ u ih =>
  rw [Lib.decDigits]
  split
  ·simp
  ·have := ih (u / 10) (by omega)
   simp only [List.length_append, List.length_cons, List.length_nil]
   omega
end Go.Proofs.YtejpkjapmhpmpaaDoor.K

/- Rules: strings as lists of bytes: a byte, parts, and arithmetic of bytes. No condition. -/
namespace Go.Proofs.YtejpkjapmhpmpaaDoor.K
open Go Go.RowKit

def byteAt (l : List UInt8) (i : Nat) : Int := ((l.getD i 0).toNat : Int)
theorem byteAt_range (l : List UInt8) (i : Nat) : 0 ≤ byteAt l i ∧ byteAt l i ≤ 255 := by
 have := (l.getD i 0).toNat_lt
 unfold byteAt; omega
theorem str_get (l : List UInt8) (i : Nat) (h : i < (str l).size) : (str l)[i] = l.getD i 0 := by
 have h2 : i < l.length := by rw [str_size] at h; exact h
 show l.toArray[i]'(by simpa using h2) = l.getD i 0
 rw [List.getD_eq_getElem?_getD, List.getElem?_eq_getElem h2]
 simp
theorem str_extract (l : List UInt8) (a b : Nat) : (str l).extract a b = str ((l.take b).drop a) := by
 apply ByteArray.ext
 have : ((str l).extract a b).data = (str l).data.extract a b := by simp
 rw [this]
 apply Array.ext'
 simp [str, List.extract_eq_take_drop, List.drop_take]
section
variable {P : Program} {T : Tab} {n : Nat} {env : Env} {w0 : World} {R : Ro} {E : List Ent} {o : Oper} {pc p q r : Bool}
theorem Yl.sidx {t : TypeId} {x y : Operand} {l : List UInt8} {i : Int} {d : TD} (hT : TabOk P T) (ho : o.op = .index t x y) (hd : T.at t = some d) (hk : d.k = .str) (hx : ev env x = some (p, .string (str l))) (hy : ev env y = some (q, .int .i64 i))
  (hpq : pc = true → (p && q) = true) (hi : pc = true → 0 ≤ i ∧ i < l.length) : Yl P n env w0 R E o pc (.int .u8 (byteAt l i.toNat)) := by
 intro ac w hkn hm hp
 obtain ⟨h1, h2⟩ := and_both (hpq hp)
 have hi := hi hp
 have hsz := str_size l
 have e := run_index_string (P := P) w t (str l) .i64 i (hT.str hd hk)
 rw [dif_pos (show 0 ≤ i ∧ i < ((str l).size : Int) by omega), str_get] at e
 unfold execOp
 simp [ho, hkn.ev hx h1, hkn.ev hy h2, e, byteAt]
theorem Yl.sliceSH {t : TypeId} {x h : Operand} {l : List UInt8} {i : Int} {d : TD} (hT : TabOk P T) (ho : o.op = .slice t x none (some h) none) (hd : T.at t = some d) (hk : d.k = .str) (hx : ev env x = some (p, .string (str l))) (hh : ev env h = some (q, .int .i64 i))
  (hpq : pc = true → (p && q) = true) (hi : pc = true → 0 ≤ i ∧ i ≤ l.length) : Yl P n env w0 R E o pc (.string (str (l.take i.toNat))) := by
 intro ac w hkn hm hp
 obtain ⟨h1, h2⟩ := and_both (hpq hp)
 have hi := hi hp
 have hsz := str_size l
 have e := run_slice_string_h w t (str l) (hT.str hd hk) .i64 i hi.1 (by omega)
 rw [str_extract, List.drop_zero, ← run_sliceAt_string w t _ _ _ _ (hT.str hd hk)] at e
 unfold execOp
 simp [ho, hkn.ev hx h1, hkn.ev hh h2, e]
theorem Yl.sliceSL {t : TypeId} {x h : Operand} {l : List UInt8} {i : Int} {d : TD} (hT : TabOk P T) (ho : o.op = .slice t x (some h) none none) (hd : T.at t = some d) (hk : d.k = .str) (hx : ev env x = some (p, .string (str l))) (hh : ev env h = some (q, .int .i64 i))
  (hpq : pc = true → (p && q) = true) (hi : pc = true → 0 ≤ i ∧ i ≤ l.length) : Yl P n env w0 R E o pc (.string (str (l.drop i.toNat))) := by
 intro ac w hkn hm hp
 obtain ⟨h1, h2⟩ := and_both (hpq hp)
 have hi := hi hp
 have hsz := str_size l
 have e := run_slice_string_l w t (str l) (hT.str hd hk) .i64 i hi.1 (by omega)
 rw [str_extract, str_size, List.take_length, ← run_sliceAt_string w t _ _ _ _ (hT.str hd hk)] at e
 unfold execOp
 simp [ho, hkn.ev hx h1, hkn.ev hh h2, e]
theorem Yl.sliceSLH {t : TypeId} {x lo h : Operand} {l : List UInt8} {i j : Int} {d : TD} (hT : TabOk P T) (ho : o.op = .slice t x (some lo) (some h) none) (hd : T.at t = some d) (hk : d.k = .str) (hx : ev env x = some (p, .string (str l))) (hl : ev env lo = some (q, .int .i64 i)) (hh : ev env h = some (r, .int .i64 j))
  (hpq : pc = true → (p && q && r) = true) (hi : pc = true → 0 ≤ i ∧ i ≤ j ∧ j ≤ l.length) : Yl P n env w0 R E o pc (.string (str ((l.take j.toNat).drop i.toNat))) := by
 intro ac w hkn hm hp
 obtain ⟨h12, h3⟩ := and_both (hpq hp)
 obtain ⟨h1, h2⟩ := and_both h12
 have hi := hi hp
 have hsz := str_size l
 have e : (Instr.slice t (.string (str l)) (some (.int .i64 i)) (some (.int .i64 j)) none).run P w = .ok (.string ((str l).extract i.toNat j.toNat)) w := by
  simp [Instr.slice, run_underlying (hT.str hd hk), Instr.sliceBounds, Instr.sliceBound, asIntOf, hi, (by omega : 0 ≤ j), (by omega : j ≤ ((str l).size : Int)), (by omega : i ≤ max j 0)]
 rw [str_extract, ← run_sliceAt_string w t _ _ _ _ (hT.str hd hk)] at e
 unfold execOp
 simp [ho, hkn.ev hx h1, hkn.ev hl h2, hkn.ev hh h3, e]
/-- a byte less a byte -/
theorem Yl.subB {t t' x y} {a b : Int} (ho : o.op = .binOp .sub t x y t') (hx : ev env x = some (p, .int .u8 a)) (hy : ev env y = some (q, .int .u8 b))
  (hpq : pc = true → (p && q) = true) (hr : pc = true → 0 ≤ a - b ∧ a - b ≤ 255) : Yl P n env w0 R E o pc (.int .u8 (a - b)) := by
 intro ac w hk hm hp
 obtain ⟨h1, h2⟩ := and_both (hpq hp)
 have e : IntKind.u8.wrap (a - b) = a - b := by have := hr hp; simp [IntKind.wrap, IntKind.bits, IntKind.signed]; omega
 unfold execOp
 simp [ho, hk.ev hx h1, hk.ev hy h2, eqGuard, binOp, Op.intArith, e]
theorem Yl.addB {t t' x y} {a b : Int} (ho : o.op = .binOp .add t x y t') (hx : ev env x = some (p, .int .u8 a)) (hy : ev env y = some (q, .int .u8 b))
  (hpq : pc = true → (p && q) = true) (hr : pc = true → 0 ≤ a + b ∧ a + b ≤ 255) : Yl P n env w0 R E o pc (.int .u8 (a + b)) := by
 intro ac w hk hm hp
 obtain ⟨h1, h2⟩ := and_both (hpq hp)
 have e : IntKind.u8.wrap (a + b) = a + b := by have := hr hp; simp [IntKind.wrap, IntKind.bits, IntKind.signed]; omega
 unfold execOp
 simp [ho, hk.ev hx h1, hk.ev hy h2, eqGuard, binOp, Op.intArith, e]
/-- the negative, as Go has it -/
def neg64 (a : Int) : Int := if a = -9223372036854775808 then a else -a
theorem Yl.catS {t t' x y} {a b : List UInt8} (ho : o.op = .binOp .add t x y t') (hx : ev env x = some (p, .string (str a))) (hy : ev env y = some (q, .string (str b)))
  (hpq : pc = true → (p && q) = true) (hr : pc = true → a.length + b.length ≤ 9223372036854775807) : Yl P n env w0 R E o pc (.string (str (a ++ b))) := by
 have := Yl.cat (P := P) (n := n) (w0 := w0) (R := R) (E := E) ho hx hy hpq (fun hp => by rw [str_size, str_size]; exact hr hp)
 rwa [str_append] at this
end
end Go.Proofs.YtejpkjapmhpmpaaDoor.K

/- The text of a curve, read word for word. Plain. No condition. -/
namespace Go.Proofs.YtejpkjapmhpmpaaDoor.M
open Go Go.Proofs.YtejpkjapmhpmpaaDoor.K
/-- words with one space between -/
def spl : List UInt8 → List (List UInt8)
  | [] => [[]]
  | c :: s => if c = 32 then [] :: spl s else match spl s with
    | w :: ws => (c :: w) :: ws
    | [] => [[c]]
def wInf : List UInt8 := [105, 110, 102]
def wPer : List UInt8 := [112, 101, 114]
def wInc : List UInt8 := [105, 110, 99]
def digs (w : List UInt8) : Bool := decide (w ≠ [] ∧ ¬ (1 < w.length ∧ byteAt w 0 = 48) ∧ ∀ i, i < w.length → 48 ≤ byteAt w i ∧ byteAt w i ≤ 57)
def numV (w : List UInt8) : Nat := w.foldl (fun n c => 10 * n + (c.toNat - 48)) 0
/-- where: 0 behind no value, 1 behind a value, 2 behind per, 3 behind the period, 4 behind inc, 5 behind the increment; what is read, where it ended, and why -/
def parseGo (size : Nat) : Nat → List Int → Int → Int → Nat → List (List UInt8) → Cv × Nat × Int
  | wh, vals, per, inc, _, [] => if wh = 5 then (⟨vals, per, inc⟩, 0, 0) else (zcv, size, 4)
  | wh, vals, per, inc, at', w :: ws =>
    if wh ≤ 1 ∧ w = wInf then parseGo size 1 (vals ++ [INF]) per inc (at' + w.length + 1) ws
    else if wh = 1 ∧ w = wPer then parseGo size 2 vals per inc (at' + w.length + 1) ws
    else if wh = 3 ∧ w = wInc then parseGo size 4 vals per inc (at' + w.length + 1) ws
    else if digs w = true ∧ wh ≠ 3 ∧ wh ≠ 5 then
      if 1073741824 < numV w then (zcv, at', 2)
      else if wh = 2 then parseGo size 3 vals (numV w) inc (at' + w.length + 1) ws
      else if wh = 4 then parseGo size 5 vals per (numV w) (at' + w.length + 1) ws
      else parseGo size 1 (vals ++ [(numV w : Int)]) per inc (at' + w.length + 1) ws
    else (zcv, at', 4)
/-- why a word that must be there fails -/
def wordE (ws : List (List UInt8)) (want : List UInt8) (k at' size : Nat) : Nat × Int := if k < ws.length then (if nth ws k = want then (0, 0) else (at', 4)) else (size, 4)
def numE (ws : List (List UInt8)) (k at' size : Nat) : Nat × Int := if k < ws.length then (if digs (nth ws k) = true then (if 1073741824 < numV (nth ws k) then (at', 2) else (0, 0)) else (at', 4)) else (size, 4)
def parseR (s : List UInt8) : Cv × Nat × Int :=
  if 4000 < s.length then (zcv, 0, 3)
  else if (parseGo s.length 0 [] 0 0 0 (spl s)).2.2 ≠ 0 then parseGo s.length 0 [] 0 0 0 (spl s)
  else if validB (parseGo s.length 0 [] 0 0 0 (spl s)).1 = true then parseGo s.length 0 [] 0 0 0 (spl s) else (zcv, 0, 1)
end Go.Proofs.YtejpkjapmhpmpaaDoor.M

/- Numbers as texts: what is written is read back. No condition. -/
namespace Go.Proofs.YtejpkjapmhpmpaaDoor.M
open Go Go.Proofs.YtejpkjapmhpmpaaDoor.K

theorem str_list (l : List UInt8) : (str l).data.toList = l := by simp [str]
theorem decDigits_len {k : Nat} : ∀ {u : Nat}, u < 10 ^ (k + 1) → (Lib.decDigits u).length ≤ k + 1 := by
 induction k with
 | zero =>
  intro u h
  rw [Lib.decDigits, dif_pos (by omega)]; simp
 | succ k ih =>
  intro u h
  rw [Lib.decDigits]
  split
  ·simp
  ·have := ih (u := u / 10) (by rw [Nat.pow_succ] at h; omega)
   simp only [List.length_append, List.length_cons, List.length_nil]; omega
theorem itoa_len {n : Int} (hn : -1073741824 ≤ n ∧ n ≤ 1073741824) : (Lib.itoa n).length ≤ 11 := by
 unfold Lib.itoa
 split
 ·have := decDigits_len (k := 9) (u := n.natAbs) (by omega); simp only [List.length_cons]; omega
 ·have := decDigits_len (k := 9) (u := n.toNat) (by omega); omega
def cutS (s : List UInt8) : List UInt8 × List UInt8 × Bool := Lib.cut s [47]
def atBad (s : List UInt8) : Bool := match Lib.atoiAll s with | .ok _ => false | _ => true
def atNum (s : List UInt8) : Int := match Lib.atoiAll s with | .ok v => v | _ => 0
theorem atBad_ok {s : List UInt8} {v : Int} (h : Lib.atoiAll s = .ok v) : atBad s = false ∧ atNum s = v := by
 unfold atBad atNum; rw [h]; exact ⟨rfl, rfl⟩
def errV (b : Bool) (t : TypeId) (p : Value) : Value := match b with | true => .iface t p | false => .nilIface
theorem errV_cases (b : Bool) (t : TypeId) (p : Value) : (errV b t p = .nilIface ∧ b = false) ∨ ((∃ u z, errV b t p = .iface u z) ∧ b = true) := by
 cases b
 ·exact .inl ⟨rfl, rfl⟩
 ·exact .inr ⟨⟨t, p, rfl⟩, rfl⟩
end Go.Proofs.YtejpkjapmhpmpaaDoor.M

/- The numbers of the notation: what strconv.Atoi says of digits. Plain. No condition. -/
namespace Go.Proofs.YtejpkjapmhpmpaaDoor.M
open Go Go.Proofs.YtejpkjapmhpmpaaDoor.K
def numF (n : Nat) (c : UInt8) : Nat := 10 * n + (c.toNat - 48)
theorem numV_eq (w : List UInt8) : numV w = w.foldl numF 0 := rfl
theorem num_ge : ∀ (w : List UInt8) (n : Nat), n ≤ w.foldl numF n
 | [], _ => Nat.le_refl _
 | c :: w, n => by
  rw [List.foldl_cons]
  have := num_ge w (numF n c)
  unfold numF at this ⊢
  omega
theorem parse_num : ∀ (w : List UInt8) (n : Nat), (∀ c ∈ w, 48 ≤ c.toNat ∧ c.toNat ≤ 57) → Lib.parseUint10 n w = .ok (w.foldl numF n) ∨ (Lib.parseUint10 n w = .range ∧ 1844674407370955162 ≤ w.foldl numF n)
 | [], n, _ => .inl rfl
 | c :: w, n, h => by
  have hc := h c (by simp)
  rw [List.foldl_cons]
  have hg := num_ge w (numF n c)
  unfold Lib.parseUint10
  rw [if_pos hc]
  by_cases h1 : 1844674407370955162 ≤ n
  ·rw [if_pos h1]; exact .inr ⟨rfl, by unfold numF at hg ⊢; omega⟩
  ·rw [if_neg h1]
   by_cases h2 : 18446744073709551616 ≤ n * 10 + (c.toNat - 48)
   ·rw [if_pos h2]; exact .inr ⟨rfl, by unfold numF at hg ⊢; omega⟩
   ·rw [if_neg h2, show n * 10 + (c.toNat - 48) = numF n c by unfold numF; omega]
    exact parse_num w (numF n c) (fun x hx => h x (by simp [hx]))
theorem digs_mem {w : List UInt8} (h : digs w = true) : w ≠ [] ∧ ∀ c ∈ w, 48 ≤ c.toNat ∧ c.toNat ≤ 57 := by
 obtain ⟨h1, _, h3⟩ := of_decide_eq_true h
 refine ⟨h1, fun c hc => ?_⟩
 obtain ⟨i, hi, rfl⟩ := List.getElem_of_mem hc
 have := h3 i hi
 unfold byteAt at this
 rw [show w.getD i 0 = w[i] by unfold List.getD; rw [List.getElem?_eq_getElem hi]; rfl] at this
 omega
theorem digs_num {w : List UInt8} (h : digs w = true) : (atBad w = false → atNum w = numV w) ∧ (atBad w = true → 1073741824 < numV w) := by
 obtain ⟨h1, h2⟩ := digs_mem h
 cases w with
 | nil => exact absurd rfl h1
 | cons c r =>
  have hc := h2 c (by simp)
  have hmag : Lib.parseMag (c :: r) = Lib.parseUint10 0 (c :: r) := by unfold Lib.parseMag; rw [if_neg h1]
  have e : Lib.atoiAll (c :: r) = match Lib.parseUint10 0 (c :: r) with
    | .syntax => .syntax
    | .range => .range
    | .ok u => if 9223372036854775808 ≤ u then .range else .ok (u : Int) := by
   unfold Lib.atoiAll
   dsimp only
   rw [if_neg (show ¬ (c.toNat = 43 ∨ c.toNat = 45) by omega), hmag]
   cases Lib.parseUint10 0 (c :: r) with
   | ok u => dsimp only; simp only [show ¬ c.toNat = 45 by omega, not_false_eq_true, true_and, false_and, if_false]
   | _ => rfl
  rw [numV_eq]
  rcases parse_num (c :: r) 0 h2 with q | ⟨q, hq⟩
  ·rw [q] at e
   dsimp only at e
   generalize (c :: r).foldl numF 0 = u at e ⊢
   unfold atBad atNum
   rw [e]
   by_cases hu : 9223372036854775808 ≤ u
   ·rw [if_pos hu]; exact ⟨fun h => (by cases h), fun _ => by omega⟩
   ·rw [if_neg hu]; exact ⟨fun _ => rfl, fun h => (by cases h)⟩
  ·rw [q] at e
   unfold atBad atNum
   rw [e]
   exact ⟨fun h => (by cases h), fun _ => by omega⟩
end Go.Proofs.YtejpkjapmhpmpaaDoor.M

/- The text of a curve: where reading fails; what was written is read back; what is read was written so. Plain. No condition. -/
namespace Go.Proofs.YtejpkjapmhpmpaaDoor.M
open Go Go.Proofs.YtejpkjapmhpmpaaDoor.K
theorem spl_ne : ∀ s : List UInt8, spl s ≠ []
 | [] => by simp [spl]
 | c :: s => by
  unfold spl
  split
  ·simp
  ·have := spl_ne s
   split
   ·simp
   ·simp
/-- the first word and the rest -/
theorem spl_word : ∀ (w s : List UInt8), (∀ c ∈ w, c ≠ 32) → spl (w ++ 32 :: s) = w :: spl s ∧ spl w = [w]
 | [], s, _ => by simp [spl]
 | c :: w, s, h => by
  obtain ⟨h1, h2⟩ := spl_word w s (fun x hx => h x (by simp [hx]))
  have hc := h c (by simp)
  refine ⟨?_, ?_⟩
  ·rw [List.cons_append, spl, if_neg hc, h1]
  ·rw [spl, if_neg hc, h2]
/-- where the words that are left begin -/
def Left (s : List UInt8) (at' : Nat) (ws : List (List UInt8)) : Prop := ws = [] ∨ (ws = spl (s.drop at') ∧ at' ≤ s.length ∧ (at' = 0 ∨ s[at' - 1]? = some 32))
def PosOk (s : List UInt8) (q : Cv × Nat × Int) : Prop := q.2.1 ≤ s.length ∧ (q.2.2 ≠ 4 → q.2.2 ≠ 2 → q.2.1 = 0) ∧ (q.2.2 = 4 → 0 < q.2.1 → q.2.1 < s.length → s[q.2.1 - 1]? = some 32)
/-! ### word for word over the bytes -/
theorem byte_get {s : List UInt8} {j : Nat} (h : j < s.length) : byteAt s j = (s[j].toNat : Int) := by unfold byteAt List.getD; rw [List.getElem?_eq_getElem h]; rfl
theorem byte_32 {c : UInt8} (h : (c.toNat : Int) = 32) : c = 32 := UInt8.toNat_inj.1 (by have : (32 : UInt8).toNat = 32 := rfl; omega)
theorem word_at {s : List UInt8} {a i : Nat} (h : a ≤ i) (hi : i ≤ s.length) (hn : ∀ j, a ≤ j → j < i → byteAt s j ≠ 32) (he : i = s.length ∨ byteAt s i = 32) :
  spl (s.drop a) = (s.take i).drop a :: (if i = s.length then [] else spl (s.drop (i + 1))) := by
 have e : s.drop a = (s.take i).drop a ++ s.drop i := by
  have := congrArg (List.drop a) (List.take_append_drop i s).symm
  rw [List.drop_append_of_le_length (by rw [List.length_take]; omega)] at this
  exact this
 have hw : ∀ c ∈ (s.take i).drop a, c ≠ 32 := by
  intro c hc e
  obtain ⟨k, hk, rfl⟩ := List.getElem_of_mem hc
  have hk' := hk
  rw [List.length_drop, List.length_take] at hk'
  rw [List.getElem_drop, List.getElem_take] at e
  have h2 := hn (a + k) (by omega) (by omega)
  rw [byte_get (by omega), e] at h2
  exact h2 rfl
 rw [e]
 by_cases hl : i = s.length
 ·rw [if_pos hl, hl, List.drop_length, List.append_nil]
  rw [hl] at hw
  exact (spl_word _ [] hw).2
 ·rw [if_neg hl]
  have hb := he.resolve_left hl
  rw [byte_get (by omega)] at hb
  rw [List.drop_eq_getElem_cons (by omega : i < s.length), byte_32 hb]
  exact (spl_word _ _ hw).1
/-- the scan of the bytes: what is left to be read -/
def Scan (s : List UInt8) (wh : Nat) (vals : List Int) (per inc : Int) (a i : Nat) : Prop :=
  (i ≤ s.length ∧ a ≤ i ∧ (∀ j, a ≤ j → j < i → byteAt s j ≠ 32) ∧ parseGo s.length 0 [] 0 0 0 (spl s) = parseGo s.length wh vals per inc a (spl (s.drop a))) ∨
  (i = s.length + 1 ∧ a = i ∧ parseGo s.length 0 [] 0 0 0 (spl s) = parseGo s.length wh vals per inc a [])
theorem Scan.le {s : List UInt8} {wh : Nat} {vals : List Int} {per inc : Int} {a i : Nat} (h : Scan s wh vals per inc a i) : i ≤ s.length + 1 ∧ a ≤ i := by
 rcases h with h | h <;> omega
theorem Scan.start (s : List UInt8) : Scan s 0 [] 0 0 0 0 := .inl ⟨Nat.zero_le _, Nat.le_refl _, fun j _ h => absurd h (Nat.not_lt_zero j), rfl⟩
theorem Scan.skip {s : List UInt8} {wh : Nat} {vals : List Int} {per inc : Int} {a i : Nat} (h : Scan s wh vals per inc a i) (hi : i < s.length) (hb : byteAt s i ≠ 32) : Scan s wh vals per inc a (i + 1) := by
 rcases h with ⟨h1, h2, h3, h4⟩ | h
 ·exact .inl ⟨by omega, by omega, fun j hj hj2 => by
   by_cases e : j = i
   ·rw [e]; exact hb
   ·exact h3 j hj (by omega), h4⟩
 ·omega
theorem Scan.word {s : List UInt8} {wh : Nat} {vals : List Int} {per inc : Int} {a i : Nat} (h : Scan s wh vals per inc a i) (hi : i ≤ s.length) (hb : i = s.length ∨ byteAt s i = 32) :
  ∃ ws, parseGo s.length 0 [] 0 0 0 (spl s) = parseGo s.length wh vals per inc a ((s.take i).drop a :: ws) ∧ ∀ wh' vals' per' inc', parseGo s.length 0 [] 0 0 0 (spl s) = parseGo s.length wh' vals' per' inc' (a + ((s.take i).drop a).length + 1) ws → Scan s wh' vals' per' inc' (i + 1) (i + 1) := by
 rcases h with ⟨h1, h2, h3, h4⟩ | h
 ·rw [word_at h2 hi h3 hb] at h4
  refine ⟨_, h4, fun wh' vals' per' inc' e => ?_⟩
  have el : a + ((s.take i).drop a).length + 1 = i + 1 := by rw [List.length_drop, List.length_take]; omega
  rw [el] at e
  by_cases hl : i = s.length
  ·rw [if_pos hl] at e
   exact .inr ⟨by omega, rfl, e⟩
  ·rw [if_neg hl] at e
   exact .inl ⟨by omega, Nat.le_refl _, fun j hj hj2 => absurd hj2 (by omega), e⟩
 ·omega
theorem Scan.stop {s : List UInt8} {wh : Nat} {vals : List Int} {per inc : Int} {a i : Nat} (h : Scan s wh vals per inc a i) (hi : ¬ i ≤ s.length) : parseGo s.length 0 [] 0 0 0 (spl s) = if wh = 5 then (⟨vals, per, inc⟩, 0, 0) else (zcv, s.length, 4) := by
 rcases h with h | ⟨_, _, e⟩
 ·omega
 ·rw [e, parseGo]
/-! ### what is written -/
def wordV (v : Int) : List UInt8 := if v = INF then wInf else Lib.itoa v
def fmtVals : List Int → List UInt8
  | [] => []
  | v :: r => wordV v ++ 32 :: fmtVals r
def fmtC (c : Cv) : List UInt8 := fmtVals c.vals ++ (wPer ++ 32 :: (Lib.itoa c.per ++ 32 :: (wInc ++ 32 :: Lib.itoa c.inc)))
def formatR (c : Cv) : List UInt8 × Int := if validB c = false then ([], 1) else if 4000 < (fmtC c).length then ([], 3) else (fmtC c, 0)
theorem itoa_pos {n : Int} (h : 0 ≤ n) : Lib.itoa n = Lib.decDigits n.toNat := by unfold Lib.itoa; rw [if_neg (by omega)]
theorem dec_one {u : Nat} (h : u < 10) : Lib.decDigits u = [UInt8.ofNat (48 + u)] := by rw [Lib.decDigits]; rw [dif_pos h]
theorem numV_snoc (w : List UInt8) (c : UInt8) : numV (w ++ [c]) = 10 * numV w + (c.toNat - 48) := by unfold numV; rw [List.foldl_append]; rfl
theorem wInf_no : digs wInf = false := by decide
theorem wPer_no : digs wPer = false := by decide
theorem wInc_no : digs wInc = false := by decide
def endW (per inc : Int) : List (List UInt8) := [wPer, Lib.itoa per, wInc, Lib.itoa inc]
/-! ### what is read was written so -/
def joinS : List (List UInt8) → List UInt8
  | [] => []
  | [w] => w
  | w :: ws => w ++ 32 :: joinS ws
/-- what stands at the words that are left, where reading comes to its end -/
def Rest (c : Cv) (vals : List Int) (per inc : Int) : Nat → List (List UInt8) → Prop
  | 5, ws => ws = [] ∧ c = ⟨vals, per, inc⟩
  | 4, ws => c.vals = vals ∧ c.per = per ∧ 0 ≤ c.inc ∧ ws = [Lib.itoa c.inc]
  | 3, ws => c.vals = vals ∧ c.per = per ∧ 0 ≤ c.inc ∧ ws = [wInc, Lib.itoa c.inc]
  | 2, ws => c.vals = vals ∧ 0 ≤ c.per ∧ 0 ≤ c.inc ∧ ws = [Lib.itoa c.per, wInc, Lib.itoa c.inc]
  | _, ws => ∃ vs, c.vals = vals ++ vs ∧ 0 ≤ c.per ∧ 0 ≤ c.inc ∧ ws = vs.map wordV ++ endW c.per c.inc
end Go.Proofs.YtejpkjapmhpmpaaDoor.M

/- Words between the instances of one byte: what strings.Split gives. Plain. No condition. -/
namespace Go.Proofs.YtejpkjapmhpmpaaDoor.M
open Go Go.Proofs.YtejpkjapmhpmpaaDoor.K
/-- the words between the instances of a byte -/
def splC (d : UInt8) : List UInt8 → List (List UInt8)
  | [] => [[]]
  | c :: s => if c = d then [] :: splC d s else match splC d s with
    | w :: ws => (c :: w) :: ws
    | [] => [[c]]
theorem spl_eq : ∀ s : List UInt8, spl s = splC 32 s
 | [] => rfl
 | c :: s => by
  have h := spl_eq s
  unfold spl splC
  by_cases e : c = 32
  ·rw [if_pos e, if_pos e, h]
  ·rw [if_neg e, if_neg e, h]
   all_goals (cases splC 32 s <;> rfl)
theorem splC_ne (d : UInt8) : ∀ s : List UInt8, splC d s ≠ []
 | [] => by simp [splC]
 | c :: s => by
  unfold splC
  split
  ·simp
  ·split <;> simp
theorem splC_cons {d : UInt8} : ∀ {s w : List UInt8} {ws : List (List UInt8)}, splC d s = w :: ws → (∀ c ∈ w, c ≠ d) ∧ ((ws = [] ∧ s = w) ∨ ∃ s', s = w ++ d :: s' ∧ ws = splC d s')
 | [], w, ws, h => by
  simp [splC] at h
  obtain ⟨rfl, rfl⟩ := h
  exact ⟨by simp, .inl ⟨rfl, rfl⟩⟩
 | c :: s, w, ws, h => by
  unfold splC at h
  by_cases hc : c = d
  ·rw [if_pos hc] at h
   simp only [List.cons.injEq] at h
   obtain ⟨rfl, rfl⟩ := h
   exact ⟨by simp, .inr ⟨s, by rw [hc]; rfl, rfl⟩⟩
  ·rw [if_neg hc] at h
   cases hs : splC d s with
   | nil => exact absurd hs (splC_ne d s)
   | cons v vs =>
    rw [hs] at h
    simp only [List.cons.injEq] at h
    obtain ⟨rfl, rfl⟩ := h
    obtain ⟨h1, h2⟩ := splC_cons hs
    refine ⟨fun x hx => ?_, ?_⟩
    ·rcases List.mem_cons.1 hx with rfl | hx
     ·exact hc
     ·exact h1 x hx
    ·rcases h2 with ⟨rfl, rfl⟩ | ⟨s', rfl, rfl⟩
     ·exact .inl ⟨rfl, rfl⟩
     ·exact .inr ⟨s', rfl, rfl⟩
theorem idx_none {d : UInt8} : ∀ {w : List UInt8}, (∀ c ∈ w, c ≠ d) → Lib.index w [d] = -1
 | [], _ => rfl
 | c :: w, h => by
  have hc := h c (by simp)
  unfold Lib.index
  rw [if_neg (by simp [List.isPrefixOf]; exact fun e => hc e.symm), idx_none (fun x hx => h x (by simp [hx]))]
  rfl
theorem idx_word {d : UInt8} {s' : List UInt8} : ∀ {w : List UInt8}, (∀ c ∈ w, c ≠ d) → Lib.index (w ++ d :: s') [d] = (w.length : Int)
 | [], _ => by
  show Lib.index (d :: s') [d] = 0
  unfold Lib.index
  rw [if_pos (by simp [List.isPrefixOf])]
 | c :: w, h => by
  have hc := h c (by simp)
  show Lib.index (c :: (w ++ d :: s')) [d] = _
  unfold Lib.index
  rw [if_neg (by simp [List.isPrefixOf]; exact fun e => hc e.symm), idx_word (fun x hx => h x (by simp [hx])), if_neg (by rw [beq_iff_eq]; omega)]
  simp
theorem split_splC (d : UInt8) : ∀ (n : Nat) (s : List UInt8), s.length ≤ n → Lib.splitK [d] 0 (Lib.count s [d]) s = splC d s ∧ Lib.count s [d] + 1 = (splC d s).length
 | n, s, hn => by
  cases hs : splC d s with
  | nil => exact absurd hs (splC_ne d s)
  | cons w ws =>
   obtain ⟨h1, ⟨rfl, rfl⟩ | ⟨s', rfl, rfl⟩⟩ := splC_cons hs
   ·rw [Lib.count_miss (idx_none h1)]
    exact ⟨rfl, rfl⟩
   ·have hi := idx_word (s' := s') h1
    have hd : (w ++ d :: s').drop (w.length + [d].length) = s' := by
     rw [← List.drop_drop, List.drop_left]; rfl
    match n with
    | 0 => simp at hn
    | n + 1 =>
     have hl : s'.length ≤ n := by rw [List.length_append, List.length_cons] at hn; omega
     obtain ⟨g1, g2⟩ := split_splC d n s' hl
     rw [Lib.count_hit (by simp) hi, hd]
     refine ⟨?_, by rw [List.length_cons]; omega⟩
     rw [Nat.add_comm 1, Lib.splitK, if_neg (by rw [hi, beq_iff_eq]; omega), hi, Int.toNat_natCast, hd, g1]
     congr 1
     rw [Nat.add_zero, List.take_left]
theorem splC_len (d : UInt8) : ∀ s : List UInt8, (splC d s).length ≤ s.length + 1
 | [] => by simp [splC]
 | c :: s => by
  have ih := splC_len d s
  unfold splC
  split
  ·simp only [List.length_cons]; omega
  ·cases hs : splC d s with
   | nil => exact absurd hs (splC_ne d s)
   | cons w ws => rw [hs] at ih; simp only [List.length_cons] at ih ⊢; omega
end Go.Proofs.YtejpkjapmhpmpaaDoor.M

/- Lists of named curves: what is written and what is read. Plain. No condition. -/
namespace Go.Proofs.YtejpkjapmhpmpaaDoor.M
open Go Go.Proofs.YtejpkjapmhpmpaaDoor.K
def isNameB (s : List UInt8) : Bool := decide (1 ≤ s.length ∧ s.length ≤ 12 ∧ ∀ i, i < s.length → (97 ≤ byteAt s i ∧ byteAt s i ≤ 122) ∨ (0 < i ∧ 48 ≤ byteAt s i ∧ byteAt s i ≤ 57))
theorem name_mem {s : List UInt8} (h : isNameB s = true) : 1 ≤ s.length ∧ s.length ≤ 12 ∧ ∀ c ∈ s, 48 ≤ c.toNat := by
 obtain ⟨h1, h2, h3⟩ := of_decide_eq_true h
 refine ⟨h1, h2, fun c hc => ?_⟩
 obtain ⟨i, hi, rfl⟩ := List.getElem_of_mem hc
 have h4 := h3 i hi
 rw [byte_get hi] at h4
 omega
theorem name_no {s : List UInt8} (h : isNameB s = true) {d : UInt8} (hd : d.toNat < 48) : ∀ c ∈ s, c ≠ d := fun c hc e => by
 have := (name_mem h).2.2 c hc
 rw [e] at this
 omega
/-- up to the first instance of a byte, and what is behind it -/
def brk (d : UInt8) : List UInt8 → List UInt8 × Option (List UInt8)
  | [] => ([], none)
  | c :: s => if c = d then ([], some s) else (c :: (brk d s).1, (brk d s).2)
theorem brk_some {d : UInt8} : ∀ {w : List UInt8} (s : List UInt8), (∀ c ∈ w, c ≠ d) → brk d (w ++ d :: s) = (w, some s)
 | [], s, _ => by simp [brk]
 | c :: w, s, h => by
  have hc := h c (by simp)
  rw [List.cons_append, brk, if_neg hc, brk_some s (fun x hx => h x (by simp [hx]))]
theorem brk_none {d : UInt8} : ∀ {w : List UInt8}, (∀ c ∈ w, c ≠ d) → brk d w = (w, none)
 | [], _ => rfl
 | c :: w, h => by
  have hc := h c (by simp)
  rw [brk, if_neg hc, brk_none (fun x hx => h x (by simp [hx]))]
theorem brk_spec (d : UInt8) : ∀ s : List UInt8, (∀ c ∈ (brk d s).1, c ≠ d) ∧ (((brk d s).2 = none ∧ s = (brk d s).1) ∨ ∃ r, (brk d s).2 = some r ∧ s = (brk d s).1 ++ d :: r)
 | [] => ⟨by simp [brk], .inl ⟨rfl, rfl⟩⟩
 | c :: s => by
  unfold brk
  by_cases hc : c = d
  ·rw [if_pos hc]; exact ⟨by simp, .inr ⟨s, rfl, by rw [hc]; rfl⟩⟩
  ·rw [if_neg hc]
   obtain ⟨h1, h2⟩ := brk_spec d s
   refine ⟨fun x hx => ?_, ?_⟩
   ·rcases List.mem_cons.1 hx with rfl | hx
    ·exact hc
    ·exact h1 x hx
   ·rcases h2 with ⟨h3, h4⟩ | ⟨r, h3, h4⟩
    ·exact .inl ⟨h3, congrArg (c :: ·) h4⟩
    ·exact .inr ⟨r, h3, congrArg (c :: ·) h4⟩
theorem brk_at {d : UInt8} {s : List UInt8} {n : Nat} (h : n ≤ s.length) (hn : ∀ j, j < n → byteAt s j ≠ (d.toNat : Int)) (he : n = s.length ∨ byteAt s n = (d.toNat : Int)) :
  brk d s = (s.take n, if n = s.length then none else some (s.drop (n + 1))) := by
 have hw : ∀ c ∈ s.take n, c ≠ d := by
  intro c hc e
  obtain ⟨k, hk, rfl⟩ := List.getElem_of_mem hc
  rw [List.length_take] at hk
  rw [List.getElem_take] at e
  have := hn k (by omega)
  rw [byte_get (by omega), e] at this
  exact this rfl
 by_cases hl : n = s.length
 ·rw [if_pos hl, hl, List.take_length]
  rw [hl, List.take_length] at hw
  exact brk_none hw
 ·rw [if_neg hl]
  have hb := he.resolve_left hl
  rw [byte_get (by omega)] at hb
  have hd : s[n]'(by omega) = d := UInt8.toNat_inj.1 (by omega)
  have e : s = s.take n ++ d :: s.drop (n + 1) := by
   conv => lhs; rw [← List.take_append_drop n s, List.drop_eq_getElem_cons (by omega : n < s.length), hd]
  conv => lhs; rw [e]
  exact brk_some _ hw
theorem cut_brk (d : UInt8) (s : List UInt8) : Lib.cut s [d] = ((brk d s).1, (brk d s).2.getD [], (brk d s).2.isSome) := by
 obtain ⟨h1, ⟨h2, h3⟩ | ⟨r, h2, h3⟩⟩ := brk_spec d s
 ·rw [h2]
  have hi := idx_none h1
  rw [← h3] at hi ⊢
  unfold Lib.cut
  rw [hi, if_neg (by decide)]
  rfl
 ·rw [h2]
  generalize (brk d s).1 = w at h1 h3
  subst h3
  have hi := idx_word (s' := r) h1
  unfold Lib.cut
  rw [hi, if_pos (by omega), Int.toNat_natCast, List.take_left]
  refine Prod.ext rfl (Prod.ext ?_ rfl)
  show (w ++ d :: r).drop (w.length + 1) = r
  rw [← List.drop_drop, List.drop_left]; rfl
/-- a row: a name, and the text behind it -/
def cutN (row : List UInt8) : Option (List UInt8 × List UInt8) :=
  match (brk 32 row).2 with
  | some (61 :: 32 :: t) => if isNameB (brk 32 row).1 = true then some ((brk 32 row).1, t) else none
  | _ => none
theorem cutN_some {w t : List UInt8} (h : isNameB w = true) : cutN (w ++ 32 :: 61 :: 32 :: t) = some (w, t) := by
 unfold cutN
 rw [brk_some _ (name_no h (by decide))]
 show (if isNameB w = true then some (w, t) else none) = _
 rw [if_pos h]
theorem cutN_row {row w t : List UInt8} (h : cutN row = some (w, t)) : row = w ++ 32 :: 61 :: 32 :: t ∧ isNameB w = true := by
 unfold cutN at h
 obtain ⟨h1, ⟨h2, h3⟩ | ⟨r, h2, h3⟩⟩ := brk_spec 32 row
 ·rw [h2] at h; cases h
 ·rw [h2] at h
  split at h
  ·rename_i e
   cases e
   split at h
   ·rename_i hn
    simp only [Option.some.injEq, Prod.mk.injEq] at h
    obtain ⟨rfl, rfl⟩ := h
    exact ⟨h3, hn⟩
   ·cases h
  ·cases h
theorem occ3 {w t : List UInt8} : Lib.occAt (w ++ 32 :: 61 :: 32 :: t) [32, 61, 32] w.length = true := by
 unfold Lib.occAt
 rw [List.drop_left]
 simp [List.isPrefixOf]
theorem cut_name {w t : List UInt8} (h : isNameB w = true) : Lib.cut (w ++ 32 :: 61 :: 32 :: t) [32, 61, 32] = (w, t, true) := by
 have hi : Lib.index (w ++ 32 :: 61 :: 32 :: t) [32, 61, 32] = (w.length : Int) := by
  refine Lib.index_first (by simp) occ3 (fun j hj => ?_)
  unfold Lib.occAt
  rw [List.drop_append_of_le_length (by omega), List.drop_eq_getElem_cons hj]
  have := name_no h (d := 32) (by decide) _ (List.getElem_mem hj)
  simp only [List.cons_append, List.isPrefixOf, Bool.and_eq_false_imp, beq_iff_eq]
  intro e; exact absurd e.symm this
 unfold Lib.cut
 rw [hi, if_pos (by omega), Int.toNat_natCast, List.take_left]
 refine Prod.ext rfl (Prod.ext ?_ rfl)
 show (w ++ 32 :: 61 :: 32 :: t).drop (w.length + 3) = t
 rw [← List.drop_drop, List.drop_left]; rfl
/-- what the program finds in a row -/
theorem cutN_cut (row : List UInt8) : cutN row = if (Lib.cut row [32, 61, 32]).2.2 = true ∧ isNameB (Lib.cut row [32, 61, 32]).1 = true then some ((Lib.cut row [32, 61, 32]).1, (Lib.cut row [32, 61, 32]).2.1) else none := by
 cases hc : cutN row with
 | some q =>
  obtain ⟨w, t⟩ := q
  obtain ⟨rfl, hn⟩ := cutN_row hc
  rw [cut_name hn, if_pos ⟨rfl, hn⟩]
 | none =>
  split
  ·rename_i h
   obtain ⟨h1, h2⟩ := h
   exfalso
   rcases Lib.index_spec row [32, 61, 32] with ⟨i1, _⟩ | ⟨i, i1, i2, i3, _⟩
   ·unfold Lib.cut at h1; rw [i1, if_neg (by decide)] at h1; cases h1
   ·have e : row = row.take i ++ 32 :: 61 :: 32 :: row.drop (i + 3) := by
     unfold Lib.occAt at i3
     have h5 : ∃ t, row.drop i = 32 :: 61 :: 32 :: t := by
      obtain ⟨t, ht⟩ := List.isPrefixOf_iff_prefix.1 i3
      exact ⟨t, ht.symm⟩
     obtain ⟨t, ht⟩ := h5
     have h6 : row.drop (i + 3) = t := by rw [← List.drop_drop, ht]; rfl
     rw [h6]
     conv => lhs; rw [← List.take_append_drop i row, ht]
    have h7 : (Lib.cut row [32, 61, 32]).1 = row.take i := by
     unfold Lib.cut; rw [i1, if_pos (by omega), Int.toNat_natCast]
    rw [h7] at h2
    rw [e, cutN_some h2] at hc
    cases hc
  ·rfl
/-! ### lists -/
abbrev Nmd := List UInt8 × Cv
def hasN (l : List Nmd) (n : List UInt8) : Bool := l.any (fun x => decide (x.1 = n))
def findNm : List Nmd → List UInt8 → Cv × Int
  | [], _ => (zcv, 5)
  | x :: l, n => if x.1 = n then (x.2, 0) else findNm l n
theorem find_has : ∀ (l : List Nmd) (n : List UInt8), (findNm l n).2 = 0 ↔ hasN l n = true
 | [], n => by simp [findNm, hasN]
 | x :: l, n => by
  unfold findNm
  by_cases h : x.1 = n
  ·rw [if_pos h]; simp [hasN, h]
  ·rw [if_neg h, find_has l n]; simp [hasN, h]
theorem find_err (l : List Nmd) (n : List UInt8) : (findNm l n).2 = 0 ∨ findNm l n = (zcv, 5) := by
 induction l with
 | nil => exact .inr rfl
 | cons x l ih =>
  unfold findNm
  split
  ·exact .inl rfl
  ·exact ih
def rowF (x : Nmd) : List UInt8 := ((x.1 ++ [32, 61, 32]) ++ (formatR x.2).1) ++ [10]
def fallGo : List Nmd → List UInt8 → List Nmd → List UInt8 × Int
  | _, acc, [] => if 4000 < acc.length then ([], 3) else (acc, 0)
  | pre, acc, x :: r => if isNameB x.1 = false then ([], 4) else if (formatR x.2).2 ≠ 0 then ([], (formatR x.2).2) else if hasN pre x.1 = true then ([], 7) else fallGo (pre ++ [x]) (acc ++ rowF x) r
def formatAllR (l : List Nmd) : List UInt8 × Int := if 40 < l.length then ([], 3) else fallGo [] [] l
def pallGo : Nat → Int → List Nmd → List UInt8 → List Nmd × Int × Int × Int
  | 0, _, acc, _ => (acc, 0, 0, 0)
  | f + 1, n, acc, s => if s = [] then (acc, 0, 0, 0) else
    match cutN (brk 10 s).1, (brk 10 s).2 with
    | some (nm, t), some s' =>
      if (parseR t).2.2 ≠ 0 then ([], n, ((parseR t).2.1 : Int), (parseR t).2.2)
      else if hasN acc nm = true then ([], n, 0, 7)
      else if 40 < n then ([], n, 0, 3)
      else pallGo f (n + 1) (acc ++ [(nm, (parseR t).1)]) s'
    | _, _ => ([], n, 0, 4)
def parseAllR (s : List UInt8) : List Nmd × Int × Int × Int := if 4000 < s.length then ([], 0, 0, 3) else pallGo (s.length + 1) 1 [] s
/-- what is left to be read -/
def PSt (s0 : List UInt8) (n : Int) (acc : List Nmd) (s : List UInt8) : Prop := ∃ f, s.length < f ∧ pallGo (s0.length + 1) 1 [] s0 = pallGo f n acc s
theorem PSt.start (s : List UInt8) : PSt s 1 [] s := ⟨_, Nat.lt_succ_self _, rfl⟩
theorem PSt.fin {s0 : List UInt8} {n : Int} {acc : List Nmd} (h : PSt s0 n acc []) : pallGo (s0.length + 1) 1 [] s0 = (acc, 0, 0, 0) := by
 obtain ⟨f, hf, e⟩ := h
 obtain ⟨f, rfl⟩ : ∃ g, f = g + 1 := ⟨f - 1, by have := hf; omega⟩
 rw [e, pallGo, if_pos rfl]
section
variable {s0 : List UInt8} {n : Int} {acc : List Nmd} {s : List UInt8}
theorem PSt.bad (h : PSt s0 n acc s) (hs : s ≠ []) (hc : cutN (brk 10 s).1 = none ∨ (brk 10 s).2 = none) : pallGo (s0.length + 1) 1 [] s0 = ([], n, 0, 4) := by
 obtain ⟨f, hf, e⟩ := h
 obtain ⟨f, rfl⟩ : ∃ g, f = g + 1 := ⟨f - 1, by have := hf; omega⟩
 rw [e, pallGo, if_neg hs]
 rcases hc with h | h
 ·rw [h]
 ·rw [h]
  cases cutN (brk 10 s).1 <;> rfl
theorem PSt.row (h : PSt s0 n acc s) (hs : s ≠ []) {nm t s' : List UInt8} (hc : cutN (brk 10 s).1 = some (nm, t)) (hb : (brk 10 s).2 = some s') :
  ((parseR t).2.2 ≠ 0 → pallGo (s0.length + 1) 1 [] s0 = ([], n, ((parseR t).2.1 : Int), (parseR t).2.2)) ∧
  ((parseR t).2.2 = 0 → hasN acc nm = true → pallGo (s0.length + 1) 1 [] s0 = ([], n, 0, 7)) ∧
  ((parseR t).2.2 = 0 → hasN acc nm = false → 40 < n → pallGo (s0.length + 1) 1 [] s0 = ([], n, 0, 3)) ∧
  ((parseR t).2.2 = 0 → hasN acc nm = false → ¬ 40 < n → PSt s0 (n + 1) (acc ++ [(nm, (parseR t).1)]) s') := by
 obtain ⟨f, hf, e⟩ := h
 obtain ⟨f, rfl⟩ : ∃ g, f = g + 1 := ⟨f - 1, by have := hf; omega⟩
 generalize hT : pallGo (s0.length + 1) 1 [] s0 = T at e ⊢
 rw [pallGo, if_neg hs, hc, hb] at e
 dsimp only at e
 refine ⟨fun h1 => ?_, fun h1 h2 => ?_, fun h1 h2 h3 => ?_, fun h1 h2 h3 => ?_⟩
 ·rw [e, if_pos h1]
 ·rw [e, if_neg (fun hh => hh h1), if_pos h2]
 ·rw [e, if_neg (fun hh => hh h1), if_neg (by rw [h2]; decide), if_pos h3]
 ·rw [if_neg (fun hh => hh h1), if_neg (by rw [h2]; decide), if_neg h3] at e
  refine ⟨f, ?_, hT.trans e⟩
  obtain ⟨_, ⟨h5, _⟩ | ⟨r, h5, h6⟩⟩ := brk_spec 10 s
  ·rw [h5] at hb; cases hb
  ·rw [h5] at hb
   cases hb
   have := congrArg List.length h6
   rw [List.length_append, List.length_cons] at this
   omega
end
end Go.Proofs.YtejpkjapmhpmpaaDoor.M

/- Named curves in memory. No condition. -/
namespace Go.Proofs.YtejpkjapmhpmpaaDoor.M
open Go Go.Proofs.YtejpkjapmhpmpaaDoor.K
structure NmS where
  nm : List UInt8
  c : CvS
instance : Inhabited NmS := ⟨⟨[], ⟨none, 0, zcv⟩⟩⟩
instance : Inhabited Nmd := ⟨([], zcv)⟩
def NmS.p (x : NmS) : Nmd := (x.nm, x.c.cv)
def encNm (x : NmS) : List Value := .string (str x.nm) :: encC x.c
def OkNm (R : Ro) (x : NmS) : Prop := K.RS R 1 encI x.c.a x.c.cv.vals ∧ x.c.cv.vals.length ≤ x.c.cap ∧ x.nm.length ≤ 9223372036854775807
theorem OkNm.mono {R R' : Ro} {x : NmS} (h : OkNm R x) (hR : RLe R R') : OkNm R' x := ⟨h.1.mono hR, h.2⟩
/-- a list of named curves that may be read: immutable or one's own -/
structure LsN (R : Ro) (E : List Ent) (la : Option Addr) (l : List NmS) : Prop where
  rd : ∀ i, i < l.length → Rd R E (eaddr la 4 i) (encNm (nth l i))
  has : HasMem R E la l.length
  len : l.length ≤ 9223372036854775807
theorem LsN.sub {R R' : Ro} {E E' : List Ent} {la : Option Addr} {l : List NmS} (h : LsN R E la l) (hR : RLe R R') (hE : E.Sublist E') : LsN R' E' la l :=
 ⟨fun i hi w0 w hm => h.rd i hi w0 w (hm.sub hR hE), fun w0 w hm => h.has w0 w (hm.sub hR hE), h.len⟩
theorem LsN.ro {R : Ro} {E : List Ent} {la : Option Addr} {l : List NmS} (h : K.RS R 4 encNm la l) : LsN R E la l := ⟨fun _ hi => RS.rdD h hi, RS.has h, h.len⟩
theorem LsN.own {R : Ro} {E : List Ent} {la : Option Addr} {l : List NmS} {e cap : Nat} (i : Nat) (h : E[i]? = some (.sl e 4 la cap (l.map encNm))) (hl : l.length ≤ 1000000) : LsN R E la l := ⟨fun _ hj => Rd.slD i h hj, HasMem.ownD i h, by omega⟩
theorem LsN.take {R : Ro} {E : List Ent} {la : Option Addr} {l : List NmS} (h : LsN R E la l) (k : Nat) : LsN R E la (l.take k) := by
 refine ⟨fun i hi => ?_, fun w0 w hm h2 => ?_, by rw [List.length_take]; have := h.len; omega⟩
 ·rw [List.length_take] at hi
  have e : nth (l.take k) i = nth l i := by rw [nth_eq (by rw [List.length_take]; omega), nth_eq (by omega), List.getElem_take]
  rw [e]
  exact h.rd i (by omega)
 ·rw [List.length_take] at h2
  exact h.has w0 w hm (by omega)
theorem has_false {l : List NmS} {n : List UInt8} (h : ∀ j, j < l.length → (nth l j).nm ≠ n) : hasN (l.map NmS.p) n = false := by
 unfold hasN
 rw [List.any_eq_false]
 intro x hx
 obtain ⟨y, hy, rfl⟩ := List.mem_map.1 hx
 obtain ⟨j, hj, rfl⟩ := List.getElem_of_mem hy
 have := h j hj
 rw [nth_eq hj] at this
 exact fun hh => this (of_decide_eq_true hh)
theorem has_true {l : List NmS} {n : List UInt8} {j : Nat} (hj : j < l.length) (h : (nth l j).nm = n) : hasN (l.map NmS.p) n = true := by
 unfold hasN
 rw [List.any_eq_true]
 exact ⟨_, List.mem_map_of_mem (nth_mem hj), decide_eq_true h⟩
theorem find_at : ∀ {l : List NmS} {n : List UInt8} {j : Nat}, j < l.length → (∀ i, i < j → (nth l i).nm ≠ n) → (nth l j).nm = n → findNm (l.map NmS.p) n = ((nth l j).c.cv, 0)
 | [], _, _, h, _, _ => absurd h (Nat.not_lt_zero _)
 | x :: l, n, 0, _, _, h => by
  have h' : x.nm = n := h
  rw [List.map_cons, findNm, if_pos (show x.p.1 = n from h')]; rfl
 | x :: l, n, j + 1, hj, hn, h => by
  have h0 : x.nm ≠ n := hn 0 (Nat.succ_pos j)
  rw [List.map_cons, findNm, if_neg (show ¬ x.p.1 = n from h0)]
  exact find_at (l := l) (j := j) (Nat.lt_of_succ_lt_succ hj) (fun i hi => hn (i + 1) (Nat.succ_lt_succ hi)) h
theorem find_no {l : List NmS} {n : List UInt8} (h : ∀ j, j < l.length → (nth l j).nm ≠ n) : findNm (l.map NmS.p) n = (zcv, 5) := by
 rcases find_err (l.map NmS.p) n with e | e
 ·rw [find_has, has_false h] at e; cases e
 ·exact e
/-- the list, from some place on -/
theorem fall_step {l : List NmS} {k : Nat} (hk : k < l.length) {acc : List UInt8} : fallGo ((l.take k).map NmS.p) acc ((l.drop k).map NmS.p) =
  if isNameB (nth l k).nm = false then ([], 4) else if (formatR (nth l k).c.cv).2 ≠ 0 then ([], (formatR (nth l k).c.cv).2) else if hasN ((l.take k).map NmS.p) (nth l k).nm = true then ([], 7) else fallGo ((l.take (k + 1)).map NmS.p) (acc ++ rowF (nth l k).p) ((l.drop (k + 1)).map NmS.p) := by
 have e : l.drop k = nth l k :: l.drop (k + 1) := by rw [nth_eq hk]; exact List.drop_eq_getElem_cons hk
 have e2 : (l.take (k + 1)).map NmS.p = (l.take k).map NmS.p ++ [(nth l k).p] := by rw [List.take_succ_eq_append_getElem hk, List.map_append, nth_eq hk]; rfl
 rw [e, List.map_cons, fallGo, e2]
 rfl
theorem brk_len (d : UInt8) (s : List UInt8) : (brk d s).1.length ≤ s.length ∧ ∀ r, (brk d s).2 = some r → r.length < s.length := by
 obtain ⟨_, ⟨h1, h2⟩ | ⟨r, h1, h2⟩⟩ := brk_spec d s
 ·refine ⟨by rw [← h2]; exact Nat.le_refl _, fun r h => by rw [h1] at h; cases h⟩
 ·have := congrArg List.length h2
  rw [List.length_append, List.length_cons] at this
  exact ⟨by omega, fun r' h => by rw [h1] at h; cases h; omega⟩
theorem cut_len (s sep : List UInt8) : (Lib.cut s sep).1.length ≤ s.length ∧ (Lib.cut s sep).2.1.length ≤ s.length := by
 unfold Lib.cut
 split
 ·exact ⟨by rw [List.length_take]; omega, by rw [List.length_drop]; omega⟩
 ·exact ⟨Nat.le_refl _, Nat.zero_le _⟩
/-- where a row is cut -/
theorem cutN_at {s : List UInt8} {n : Nat} (h : n ≤ s.length) (hn : ∀ j, j < n → byteAt s j ≠ 32) (he : n = s.length ∨ byteAt s n = 32) :
  cutN s = if isNameB (s.take n) = true ∧ n + 3 ≤ s.length ∧ (s.take (n + 3)).drop n = [32, 61, 32] then some (s.take n, s.drop (n + 3)) else none := by
 have hb := brk_at (d := 32) h hn he
 split
 ·rename_i hc
  obtain ⟨h1, h2, h3⟩ := hc
  have e : s = s.take n ++ 32 :: 61 :: 32 :: s.drop (n + 3) := by
   have e1 := (List.take_append_drop (n + 3) s).symm
   have e2 : s.take (n + 3) = s.take n ++ [32, 61, 32] := by
    rw [← h3]
    have := (List.take_append_drop n (s.take (n + 3))).symm
    rwa [List.take_take, Nat.min_eq_left (by omega)] at this
   rw [e2, List.append_assoc] at e1
   exact e1
  conv => lhs; rw [e]
  exact cutN_some h1
 ·rename_i hc
  cases hq : cutN s with
  | none => rfl
  | some q =>
   obtain ⟨w, t⟩ := q
   obtain ⟨e, hw⟩ := cutN_row hq
   exfalso
   have hb2 : brk 32 s = (w, some (61 :: 32 :: t)) := by rw [e]; exact brk_some _ (name_no hw (by decide))
   rw [hb2] at hb
   have e3 : w = s.take n := congrArg Prod.fst hb
   have hlen : w.length = n := by rw [e3, List.length_take]; omega
   have hsl : s.length = w.length + (t.length + 3) := by rw [e, List.length_append]; rfl
   refine hc ⟨by rw [← e3]; exact hw, by omega, ?_⟩
   rw [← hlen]
   rw [e]
   rw [List.take_append, List.take_of_length_le (by omega), Nat.add_sub_cancel_left, List.drop_left]
   rfl
end Go.Proofs.YtejpkjapmhpmpaaDoor.M

/- A named curve, opened: from the data of a row to a name and a curve. No condition. -/
namespace Go.Proofs.YtejpkjapmhpmpaaDoor.K
open Go Go.RowKit Go.Proofs.YtejpkjapmhpmpaaDoor.M
section
variable {H : Type} {enc : TypeId × Value → H} {P : Program}
theorem opn_named {t ts tc : Nat} {f0 f1 : Field} (ht : P.underlying t = some (.struct #[f0, f1])) (hc : P.cellsOf t = 4) (t0 : f0.type = ts) (t1 : f1.type = tc) (cs : P.cellsOf ts = 1) (cc : P.cellsOf tc = 3) (o0 : f0.offset = 0) (o1 : f1.offset = 1)
  (us : P.underlying ts = some .string) (oc : Opn enc P tc 3 encC OkI) : Opn enc P t 4 encNm OkNm := by
 have h2 := opn_struct2 (enc := enc) (k0 := 1) (k1 := 3) ht hc (by rw [t0]; exact cs) (by rw [t1]; exact cc) o0 o1 (by rw [t0]; exact opn_str us) (by rw [t1]; exact oc)
 exact h2.map (fun z => ⟨z.1, z.2⟩) (fun _ => rfl) (fun _ => rfl) (fun R z h => ⟨h.2.1, h.2.2.1, by have h1 := h.1; simp only [maxLen] at h1; exact h1⟩)
end
end Go.Proofs.YtejpkjapmhpmpaaDoor.K

/- The types and functions of this translation, as the rules want them. No condition. -/
namespace Go.Proofs.YtejpkjapmhpmpaaDoor
open Go Go.Proofs.YtejpkjapmhpmpaaDoor.K

def tab : Tab := [
  (1, ⟨.fn, 1, 8, [.nilFunc]⟩),
  (2, ⟨.int .i64, 1, 8, [.int .i64 0]⟩),
  (3, ⟨.int .i64, 1, 8, [.int .i64 0]⟩),
  (4, ⟨.bool, 1, 1, [.bool false]⟩),
  (5, ⟨.int .u8, 1, 1, [.int .u8 0]⟩),
  (6, ⟨.int .u8, 1, 1, [.int .u8 0]⟩),
  (7, ⟨.strct [(0, 1), (1, 1), (2, 1), (3, 1)], 4, 24, [.int .i64 0, .int .i64 0, .bool false, .int .u8 0]⟩),
  (8, ⟨.strct [(0, 1), (1, 1), (2, 1), (3, 1)], 4, 24, [.int .i64 0, .int .i64 0, .bool false, .int .u8 0]⟩),
  (9, ⟨.str, 1, 16, [.string ⟨#[]⟩]⟩),
  (10, ⟨.str, 1, 16, [.string ⟨#[]⟩]⟩),
  (11, ⟨.str, 1, 16, [.string ⟨#[]⟩]⟩),
  (12, ⟨.int .u64, 1, 8, [.int .u64 0]⟩),
  (13, ⟨.strct [(0, 1), (1, 1)], 2, 24, [.string ⟨#[]⟩, .int .u64 0]⟩),
  (14, ⟨.strct [(0, 1), (1, 1)], 2, 24, [.string ⟨#[]⟩, .int .u64 0]⟩),
  (15, ⟨.ptr 140, 1, 8, [.pointer .none]⟩),
  (16, ⟨.ptr 143, 1, 8, [.pointer .none]⟩),
  (17, ⟨.ptr 150, 1, 8, [.pointer .none]⟩),
  (18, ⟨.strct [(0, 1)], 1, 8, [.pointer .none]⟩),
  (19, ⟨.strct [(0, 1)], 1, 8, [.pointer .none]⟩),
  (20, ⟨.iface, 1, 16, [.nilIface]⟩),
  (21, ⟨.int .i32, 1, 4, [.int .i32 0]⟩),
  (22, ⟨.slice 3, 1, 24, [.slice .none 0 0]⟩),
  (23, ⟨.fn, 1, 8, [.nilFunc]⟩),
  (24, ⟨.ptr 61, 1, 8, [.pointer .none]⟩),
  (25, ⟨.fn, 1, 8, [.nilFunc]⟩),
  (26, ⟨.int .i64, 1, 8, [.int .i64 0]⟩),
  (28, ⟨.fn, 1, 8, [.nilFunc]⟩),
  (29, ⟨.strct [(0, 1), (1, 1), (2, 1)], 3, 40, [.slice .none 0 0, .int .i64 0, .int .i64 0]⟩),
  (30, ⟨.strct [(0, 1), (1, 1), (2, 1)], 3, 40, [.slice .none 0 0, .int .i64 0, .int .i64 0]⟩),
  (31, ⟨.fn, 1, 8, [.nilFunc]⟩),
  (32, ⟨.slice 5, 1, 24, [.slice .none 0 0]⟩),
  (33, ⟨.fn, 1, 8, [.nilFunc]⟩),
  (34, ⟨.fn, 1, 8, [.nilFunc]⟩),
  (35, ⟨.slice 9, 1, 24, [.slice .none 0 0]⟩),
  (37, ⟨.fn, 1, 8, [.nilFunc]⟩),
  (38, ⟨.fn, 1, 8, [.nilFunc]⟩),
  (39, ⟨.fn, 1, 8, [.nilFunc]⟩),
  (40, ⟨.fn, 1, 8, [.nilFunc]⟩),
  (41, ⟨.slice 30, 1, 24, [.slice .none 0 0]⟩),
  (42, ⟨.fn, 1, 8, [.nilFunc]⟩),
  (43, ⟨.fn, 1, 8, [.nilFunc]⟩),
  (44, ⟨.fn, 1, 8, [.nilFunc]⟩),
  (45, ⟨.fn, 1, 8, [.nilFunc]⟩),
  (46, ⟨.slice 48, 1, 24, [.slice .none 0 0]⟩),
  (47, ⟨.strct [(0, 1), (1, 3)], 4, 56, [.string ⟨#[]⟩, .slice .none 0 0, .int .i64 0, .int .i64 0]⟩),
  (48, ⟨.strct [(0, 1), (1, 3)], 4, 56, [.string ⟨#[]⟩, .slice .none 0 0, .int .i64 0, .int .i64 0]⟩),
  (49, ⟨.fn, 1, 8, [.nilFunc]⟩),
  (50, ⟨.fn, 1, 8, [.nilFunc]⟩),
  (51, ⟨.slice 46, 1, 24, [.slice .none 0 0]⟩),
  (52, ⟨.fn, 1, 8, [.nilFunc]⟩),
  (54, ⟨.fn, 1, 8, [.nilFunc]⟩),
  (56, ⟨.fn, 1, 8, [.nilFunc]⟩),
  (57, ⟨.fn, 1, 8, [.nilFunc]⟩),
  (58, ⟨.fn, 1, 8, [.nilFunc]⟩),
  (59, ⟨.fn, 1, 8, [.nilFunc]⟩),
  (60, ⟨.strct [(0, 1), (1, 1)], 2, 32, [.slice .none 0 0, .int .i64 0]⟩),
  (61, ⟨.strct [(0, 1), (1, 1)], 2, 32, [.slice .none 0 0, .int .i64 0]⟩),
  (62, ⟨.fn, 1, 8, [.nilFunc]⟩),
  (63, ⟨.fn, 1, 8, [.nilFunc]⟩),
  (64, ⟨.fn, 1, 8, [.nilFunc]⟩),
  (65, ⟨.fn, 1, 8, [.nilFunc]⟩),
  (66, ⟨.strct [(0, 1), (1, 1)], 2, 16, [.int .i64 0, .int .i64 0]⟩),
  (67, ⟨.strct [(0, 1), (1, 1)], 2, 16, [.int .i64 0, .int .i64 0]⟩),
  (69, ⟨.ptr 72, 1, 8, [.pointer .none]⟩),
  (70, ⟨.fn, 1, 8, [.nilFunc]⟩),
  (71, ⟨.strct [(0, 1), (1, 1), (2, 1), (3, 1)], 4, 48, [.slice .none 0 0, .int .i64 0, .int .i64 0, .int .i64 0]⟩),
  (72, ⟨.strct [(0, 1), (1, 1), (2, 1), (3, 1)], 4, 48, [.slice .none 0 0, .int .i64 0, .int .i64 0, .int .i64 0]⟩),
  (73, ⟨.fn, 1, 8, [.nilFunc]⟩),
  (74, ⟨.fn, 1, 8, [.nilFunc]⟩),
  (76, ⟨.fn, 1, 8, [.nilFunc]⟩),
  (77, ⟨.fn, 1, 8, [.nilFunc]⟩),
  (79, ⟨.fn, 1, 8, [.nilFunc]⟩),
  (80, ⟨.fn, 1, 8, [.nilFunc]⟩),
  (81, ⟨.fn, 1, 8, [.nilFunc]⟩),
  (82, ⟨.fn, 1, 8, [.nilFunc]⟩),
  (83, ⟨.fn, 1, 8, [.nilFunc]⟩),
  (85, ⟨.fn, 1, 8, [.nilFunc]⟩),
  (86, ⟨.fn, 1, 8, [.nilFunc]⟩),
  (87, ⟨.fn, 1, 8, [.nilFunc]⟩),
  (88, ⟨.fn, 1, 8, [.nilFunc]⟩),
  (89, ⟨.iface, 1, 16, [.nilIface]⟩),
  (90, ⟨.iface, 1, 16, [.nilIface]⟩),
  (92, ⟨.fn, 1, 8, [.nilFunc]⟩),
  (93, ⟨.fn, 1, 8, [.nilFunc]⟩),
  (95, ⟨.fn, 1, 8, [.nilFunc]⟩),
  (96, ⟨.fn, 1, 8, [.nilFunc]⟩),
  (97, ⟨.fn, 1, 8, [.nilFunc]⟩),
  (98, ⟨.int .u64, 1, 8, [.int .u64 0]⟩),
  (99, ⟨.fn, 1, 8, [.nilFunc]⟩),
  (100, ⟨.int .u64, 1, 8, [.int .u64 0]⟩),
  (101, ⟨.int .i64, 1, 8, [.int .i64 0]⟩),
  (103, ⟨.fn, 1, 8, [.nilFunc]⟩),
  (104, ⟨.ptr 123, 1, 8, [.pointer .none]⟩),
  (105, ⟨.fn, 1, 8, [.nilFunc]⟩),
  (106, ⟨.fn, 1, 8, [.nilFunc]⟩),
  (107, ⟨.arr 24 5, 24, 24, [.int .u8 0, .int .u8 0, .int .u8 0, .int .u8 0, .int .u8 0, .int .u8 0, .int .u8 0, .int .u8 0, .int .u8 0, .int .u8 0, .int .u8 0, .int .u8 0, .int .u8 0, .int .u8 0, .int .u8 0, .int .u8 0, .int .u8 0, .int .u8 0, .int .u8 0, .int .u8 0, .int .u8 0, .int .u8 0, .int .u8 0, .int .u8 0]⟩),
  (108, ⟨.fn, 1, 8, [.nilFunc]⟩),
  (109, ⟨.fn, 1, 8, [.nilFunc]⟩),
  (111, ⟨.fn, 1, 8, [.nilFunc]⟩),
  (112, ⟨.int .u32, 1, 4, [.int .u32 0]⟩),
  (114, ⟨.fn, 1, 8, [.nilFunc]⟩),
  (116, ⟨.strct [(0, 1), (1, 1)], 2, 2, [.int .u8 0, .int .u8 0]⟩),
  (117, ⟨.strct [(0, 1), (1, 1)], 2, 2, [.int .u8 0, .int .u8 0]⟩),
  (118, ⟨.arr 16 117, 32, 32, [.int .u8 0, .int .u8 0, .int .u8 0, .int .u8 0, .int .u8 0, .int .u8 0, .int .u8 0, .int .u8 0, .int .u8 0, .int .u8 0, .int .u8 0, .int .u8 0, .int .u8 0, .int .u8 0, .int .u8 0, .int .u8 0, .int .u8 0, .int .u8 0, .int .u8 0, .int .u8 0, .int .u8 0, .int .u8 0, .int .u8 0, .int .u8 0, .int .u8 0, .int .u8 0, .int .u8 0, .int .u8 0, .int .u8 0, .int .u8 0, .int .u8 0, .int .u8 0]⟩),
  (120, ⟨.fn, 1, 8, [.nilFunc]⟩),
  (121, ⟨.fn, 1, 8, [.nilFunc]⟩),
  (122, ⟨.strct [(0, 1), (1, 1), (2, 1)], 3, 48, [.string ⟨#[]⟩, .string ⟨#[]⟩, .nilIface]⟩),
  (123, ⟨.strct [(0, 1), (1, 1), (2, 1)], 3, 48, [.string ⟨#[]⟩, .string ⟨#[]⟩, .nilIface]⟩),
  (124, ⟨.fn, 1, 8, [.nilFunc]⟩),
  (125, ⟨.fn, 1, 8, [.nilFunc]⟩),
  (126, ⟨.arr 20 98, 20, 160, [.int .u64 0, .int .u64 0, .int .u64 0, .int .u64 0, .int .u64 0, .int .u64 0, .int .u64 0, .int .u64 0, .int .u64 0, .int .u64 0, .int .u64 0, .int .u64 0, .int .u64 0, .int .u64 0, .int .u64 0, .int .u64 0, .int .u64 0, .int .u64 0, .int .u64 0, .int .u64 0]⟩),
  (128, ⟨.fn, 1, 8, [.nilFunc]⟩),
  (129, ⟨.fn, 1, 8, [.nilFunc]⟩),
  (130, ⟨.fn, 1, 8, [.nilFunc]⟩),
  (131, ⟨.ptr 5, 1, 8, [.pointer .none]⟩),
  (132, ⟨.ptr 134, 1, 8, [.pointer .none]⟩),
  (133, ⟨.strct [(0, 1)], 1, 16, [.string ⟨#[]⟩]⟩),
  (134, ⟨.strct [(0, 1)], 1, 16, [.string ⟨#[]⟩]⟩),
  (135, ⟨.fn, 1, 8, [.nilFunc]⟩),
  (136, ⟨.fn, 1, 8, [.nilFunc]⟩),
  (137, ⟨.arr 32 5, 32, 32, [.int .u8 0, .int .u8 0, .int .u8 0, .int .u8 0, .int .u8 0, .int .u8 0, .int .u8 0, .int .u8 0, .int .u8 0, .int .u8 0, .int .u8 0, .int .u8 0, .int .u8 0, .int .u8 0, .int .u8 0, .int .u8 0, .int .u8 0, .int .u8 0, .int .u8 0, .int .u8 0, .int .u8 0, .int .u8 0, .int .u8 0, .int .u8 0, .int .u8 0, .int .u8 0, .int .u8 0, .int .u8 0, .int .u8 0, .int .u8 0, .int .u8 0, .int .u8 0]⟩),
  (139, ⟨.strct [(0, 1), (1, 1), (2, 1), (3, 1)], 4, 40, [.pointer .none, .pointer .none, .pointer .none, .string ⟨#[]⟩]⟩),
  (140, ⟨.strct [(0, 1), (1, 1), (2, 1), (3, 1)], 4, 40, [.pointer .none, .pointer .none, .pointer .none, .string ⟨#[]⟩]⟩),
  (141, ⟨.arr 0 16, 0, 0, []⟩),
  (142, ⟨.strct [(0, 0)], 0, 0, []⟩),
  (143, ⟨.strct [(0, 0)], 0, 0, []⟩),
  (144, ⟨.int .u8, 1, 1, [.int .u8 0]⟩),
  (145, ⟨.int .u8, 1, 1, [.int .u8 0]⟩),
  (146, ⟨.fn, 1, 8, [.nilFunc]⟩),
  (147, ⟨.int .i32, 1, 4, [.int .i32 0]⟩),
  (148, ⟨.int .i32, 1, 4, [.int .i32 0]⟩),
  (149, ⟨.strct [(0, 1), (1, 1), (2, 1), (3, 1), (4, 1), (5, 1), (6, 1), (7, 1), (8, 1), (9, 1), (10, 1)], 11, 48, [.int .u64 0, .int .u64 0, .int .u32 0, .int .u8 0, .int .u8 0, .int .u8 0, .int .u8 0, .nilFunc, .pointer .none, .int .i32 0, .int .i32 0]⟩),
  (150, ⟨.strct [(0, 1), (1, 1), (2, 1), (3, 1), (4, 1), (5, 1), (6, 1), (7, 1), (8, 1), (9, 1), (10, 1)], 11, 48, [.int .u64 0, .int .u64 0, .int .u32 0, .int .u8 0, .int .u8 0, .int .u8 0, .int .u8 0, .nilFunc, .pointer .none, .int .i32 0, .int .i32 0]⟩)]
theorem tab_ok : TabOk Tryd.prog tab := by unfold TabOk; kernel_rfl
theorem mixed : Tryd.prog.follows .mixedOrders = true := by kernel_rfl
theorem en7 : Enters Tryd.prog 7 := Enters.of Tryd.func7 (by kernel_rfl) rfl
theorem en8 : Enters Tryd.prog 8 := Enters.of Tryd.func8 (by kernel_rfl) rfl
theorem en9 : Enters Tryd.prog 9 := Enters.of Tryd.func9 (by kernel_rfl) rfl
theorem en10 : Enters Tryd.prog 10 := Enters.of Tryd.func10 (by kernel_rfl) rfl
theorem en11 : Enters Tryd.prog 11 := Enters.of Tryd.func11 (by kernel_rfl) rfl
theorem en12 : Enters Tryd.prog 12 := Enters.of Tryd.func12 (by kernel_rfl) rfl
theorem en13 : Enters Tryd.prog 13 := Enters.of Tryd.func13 (by kernel_rfl) rfl
theorem en14 : Enters Tryd.prog 14 := Enters.of Tryd.func14 (by kernel_rfl) rfl
theorem en15 : Enters Tryd.prog 15 := Enters.of Tryd.func15 (by kernel_rfl) rfl
theorem en16 : Enters Tryd.prog 16 := Enters.of Tryd.func16 (by kernel_rfl) rfl
theorem en17 : Enters Tryd.prog 17 := Enters.of Tryd.func17 (by kernel_rfl) rfl
theorem en18 : Enters Tryd.prog 18 := Enters.of Tryd.func18 (by kernel_rfl) rfl
theorem en19 : Enters Tryd.prog 19 := Enters.of Tryd.func19 (by kernel_rfl) rfl
theorem en20 : Enters Tryd.prog 20 := Enters.of Tryd.func20 (by kernel_rfl) rfl
theorem en21 : Enters Tryd.prog 21 := Enters.of Tryd.func21 (by kernel_rfl) rfl
theorem en22 : Enters Tryd.prog 22 := Enters.of Tryd.func22 (by kernel_rfl) rfl
theorem en23 : Enters Tryd.prog 23 := Enters.of Tryd.func23 (by kernel_rfl) rfl
theorem en24 : Enters Tryd.prog 24 := Enters.of Tryd.func24 (by kernel_rfl) rfl
theorem en25 : Enters Tryd.prog 25 := Enters.of Tryd.func25 (by kernel_rfl) rfl
theorem en26 : Enters Tryd.prog 26 := Enters.of Tryd.func26 (by kernel_rfl) rfl
theorem en27 : Enters Tryd.prog 27 := Enters.of Tryd.func27 (by kernel_rfl) rfl
theorem en28 : Enters Tryd.prog 28 := Enters.of Tryd.func28 (by kernel_rfl) rfl
theorem en29 : Enters Tryd.prog 29 := Enters.of Tryd.func29 (by kernel_rfl) rfl
theorem en30 : Enters Tryd.prog 30 := Enters.of Tryd.func30 (by kernel_rfl) rfl
theorem en31 : Enters Tryd.prog 31 := Enters.of Tryd.func31 (by kernel_rfl) rfl
theorem en32 : Enters Tryd.prog 32 := Enters.of Tryd.func32 (by kernel_rfl) rfl
theorem en33 : Enters Tryd.prog 33 := Enters.of Tryd.func33 (by kernel_rfl) rfl
theorem en34 : Enters Tryd.prog 34 := Enters.of Tryd.func34 (by kernel_rfl) rfl
theorem en35 : Enters Tryd.prog 35 := Enters.of Tryd.func35 (by kernel_rfl) rfl
theorem en36 : Enters Tryd.prog 36 := Enters.of Tryd.func36 (by kernel_rfl) rfl
theorem en37 : Enters Tryd.prog 37 := Enters.of Tryd.func37 (by kernel_rfl) rfl
theorem en38 : Enters Tryd.prog 38 := Enters.of Tryd.func38 (by kernel_rfl) rfl
theorem en39 : Enters Tryd.prog 39 := Enters.of Tryd.func39 (by kernel_rfl) rfl
theorem en40 : Enters Tryd.prog 40 := Enters.of Tryd.func40 (by kernel_rfl) rfl
theorem en41 : Enters Tryd.prog 41 := Enters.of Tryd.func41 (by kernel_rfl) rfl
theorem en42 : Enters Tryd.prog 42 := Enters.of Tryd.func42 (by kernel_rfl) rfl
theorem en43 : Enters Tryd.prog 43 := Enters.of Tryd.func43 (by kernel_rfl) rfl
theorem en44 : Enters Tryd.prog 44 := Enters.of Tryd.func44 (by kernel_rfl) rfl
theorem en46 : Enters Tryd.prog 46 := Enters.of Tryd.func46 (by kernel_rfl) rfl
theorem en47 : Enters Tryd.prog 47 := Enters.of Tryd.func47 (by kernel_rfl) rfl
theorem en48 : Enters Tryd.prog 48 := Enters.of Tryd.func48 (by kernel_rfl) rfl
theorem en49 : Enters Tryd.prog 49 := Enters.of Tryd.func49 (by kernel_rfl) rfl
theorem en50 : Enters Tryd.prog 50 := Enters.of Tryd.func50 (by kernel_rfl) rfl
theorem en51 : Enters Tryd.prog 51 := Enters.of Tryd.func51 (by kernel_rfl) rfl
theorem en56 : Enters Tryd.prog 56 := Enters.of Tryd.func56 (by kernel_rfl) rfl
theorem en57 : Enters Tryd.prog 57 := Enters.of Tryd.func57 (by kernel_rfl) rfl
end Go.Proofs.YtejpkjapmhpmpaaDoor

/- Rules: calls that hand back one value and leave memory, under any guard, in regions that draw their order and write; what is not wanted. No condition. -/
namespace Go.Proofs.YtejpkjapmhpmpaaDoor.K
open Go Go.RowKit
section
variable {P : Program} {ops : List Oper} {o : Oper} {Q : Exit → Act → World → Prop} {ES : List Ent} {R0 : Ro} {w0 : World} {fuel : Nat} {listed : Array Bool} {n : Nat} {env : Env} {R : Ro} {E : List Ent} {pc q : Bool}
theorem WA.callV {v : Value} {d : Nat} {f : FuncId} {vs : List Value} (i : Nat) (hi : ops.toArray[i]? = some o) (hr : Region.ready .any ops.toArray listed = [i]) (hf : Enters P f) (hg : gpc ops env o = some pc) (hd : o.dst = some d) (hdn : d < n)
  (hc : CallOp env o.op q f vs) (hq : pc = true → q = true) (hv : pc = true → FnV P f vs R v) (hsub : ES.Sublist E) (hR : RLe R0 R)
  (h : WA P ops Q ES R0 w0 fuel (listed.setIfInBounds i true) n ((d, pc, v) :: env) R E) : WA P ops Q ES R0 w0 (fuel + 1) listed n env R E := by
 intro a w hk hm
 refine wpAnyH_all hr (by simp) fun j hj => ?_
 obtain rfl : j = i := by simpa using hj
 unfold wpOp
 rw [hi]
 have hput := hk.put hdn pc v
 have hw := hk.wanted hg
 cases pc with
 | true =>
  simp only [hw, if_true]
  left
  unfold Oper.wp
  rw [run_call hk hc (hq rfl) hf]
  refine (hv rfl w0 E w hm).mono ?_
  rintro e w' ⟨rfl, hm'⟩
  simp only [hd]
  exact ⟨hm'.sub hR hsub, h _ _ (by simpa using hput) hm'⟩
 | false =>
  simp only [hw, Bool.false_eq_true, if_false, hd]
  exact ⟨hm.sub hR hsub, h _ _ (by simpa using hput) hm⟩
theorem WS.callV {v : Value} {d : Nat} {f : FuncId} {vs : List Value} {i : Nat} (hi : ops.toArray[i]? = some o) (hf : Enters P f) (hg : gpc ops env o = some pc) (hd : o.dst = some d) (hdn : d < n)
  (hc : CallOp env o.op q f vs) (hq : pc = true → q = true) (hv : pc = true → FnV P f vs R v) (hsub : ES.Sublist E) (hR : RLe R0 R)
  (h : WA P ops Q ES R0 w0 fuel (listed.setIfInBounds i true) n ((d, pc, v) :: env) R E) : WS P ops Q ES R0 w0 fuel listed n env R E i := by
 intro a w hk hm
 unfold wpOp
 rw [hi]
 have hput := hk.put hdn pc v
 have hw := hk.wanted hg
 cases pc with
 | true =>
  simp only [hw, if_true]
  left
  unfold Oper.wp
  rw [run_call hk hc (hq rfl) hf]
  refine (hv rfl w0 E w hm).mono ?_
  rintro e w' ⟨rfl, hm'⟩
  simp only [hd]
  exact ⟨hm'.sub hR hsub, h _ _ (by simpa using hput) hm'⟩
 | false =>
  simp only [hw, Bool.false_eq_true, if_false, hd]
  exact ⟨hm.sub hR hsub, h _ _ (by simpa using hput) hm⟩
theorem Yl.off {v : Value} (h : pc = false) : Yl P n env w0 R E o pc v := fun _ _ _ _ hp => by rw [h] at hp; cases hp
end
end Go.Proofs.YtejpkjapmhpmpaaDoor.K

/- Rules: maps of a few keys (make, insert, look up), values in interfaces, calls of methods. No condition. -/
namespace Go.Proofs.YtejpkjapmhpmpaaDoor.K
open Go Go.RowKit
section
variable {P : Program} {T : Tab} {ops rest : List Oper} {Q : Exit → Act → World → Prop} {n : Nat} {env : Env} {w0 : World} {R : Ro} {E : List Ent} {o : Oper} {pc p q : Bool}
theorem under_map (hT : TabOk P T) {t k e : TypeId} {d : TD} (hd : T.at t = some d) (hk : d.k = .map k e) : P.underlying t = some (.map k e) := by
 have := hT.kind hd
 rw [hk] at this
 unfold kindOf at this
 split at this <;> simp_all
theorem under_int (hT : TabOk P T) {t : TypeId} {k : IntKind} {d : TD} (hd : T.at t = some d) (hk : d.k = .int k) : P.underlying t = some (.int k) := by
 have := hT.kind hd
 rw [hk] at this
 unfold kindOf at this
 split at this <;> simp_all
theorem Ef.insert {K : Value → Ro → List Ent → Prop} {t kt et : TypeId} {x y z : Operand} {b clock : Nat} {es : Array MapEntry} {kk : IntKind} {k : Int} {v : Value} {d d2 : TD} (hT : TabOk P T) (ho : o.op = .insert t x y z) (hd : T.at t = some d) (hkd : d.k = .map kt et) (hd2 : T.at kt = some d2) (hk2 : d2.k = .int kk)
  (hx : ev env x = some (true, .map (some b))) (hy : ev env y = some (true, .int kk k)) (hz : ev env z = some (true, v)) (hf : Instr.findNow (.int kk) (.int kk k) es.toList 0 = some none)
  (hK : K undef R (.obj b (.map (es.push { key := .int kk k, val := v, born := clock }) (clock + 1)) :: E)) : Ef P n env w0 R (.obj b (.map es clock) :: E) o K := by
 intro a w hk hm
 have hb := hm.getObj
 have hm1 := under_map hT hd hkd
 have hu2 := under_int hT hd2 hk2
 have hc : (Instr.checkKey false 10000 kt (.int kk k)).run P w = .ok () w := MapKept.run_checkKey (k := .int kk k) hu2 (by simp [MapKept.IsKey]) false 9999
 refine ⟨undef, w.putObj b (.map (es.push { key := .int kk k, val := v, born := clock }) (clock + 1)), R, _, .inr ⟨?_, rfl⟩, hm.putObj _, hK⟩
 unfold execOp
 simp [ho, hk.ev hx rfl, hk.ev hy rfl, hk.ev hz rfl, Instr.mapUpdate, run_underlying hm1, MapKept.run_getObj_map hb, hc, MapKept.run_findKey hu2 hf, MapKept.run_setObj_map _ hb, Result.andThen, World.putObj]
def foundV (z : Value) : Option (Nat × Value) → Value
  | some (_, u) => .tuple #[u, .bool true]
  | none => .tuple #[z, .bool false]
theorem Yl.toIface {t : TypeId} {fs : List (Nat × Nat)} {x : Operand} {v : Value} {d : TD} (hT : TabOk P T) (ho : o.op = .makeInterface t x) (hd : T.at t = some d) (hk : d.k = .strct fs) (hx : ev env x = some (p, v)) (hpq : pc = true → p = true) : Yl P n env w0 R E o pc (.iface t v) := by
 intro a w hk2 hm hpc
 obtain ⟨ff, hu, _⟩ := hT.strct hd hk
 unfold execOp
 simp [ho, hk2.ev hx (hpq hpc), Instr.makeInterface, run_underlying hu]
/-- the method of what stands in an interface -/
def Meth (P : Program) (t : TypeId) (rv : Value) (name : String) (f : FuncId) (us : List Value) : Prop :=
  ∀ w, (callMethod (.iface t rv) name us.toArray).run P w = .ok (.enter f (rv :: us).toArray) w
theorem WA.freezeBlk {ES : List Ent} {R0 : Ro} {fuel : Nat} {listed : Array Bool} {b : Nat} {cs : List Value} (i : Nat) (hE : E[i]? = some (.blk b cs)) (h : ∀ R', RLe R R' → R' b = some cs → WA P ops Q ES R0 w0 fuel listed n env R' (E.eraseIdx i)) : WA P ops Q ES R0 w0 fuel listed n env R E := by
 intro a w hk hm
 obtain ⟨R', hR, hb, hm'⟩ := hm.freezeBlk hE
 exact h R' hR hb a w hk hm'
/-- what a run hands back, read only: the ticks and the bytes -/
def RunV (out : List Int × List (List Int)) (E : List Ent) (T : Value → Value) (v : Value) (R' : Ro) (E' : List Ent) : Prop :=
  ∃ (da oa : Option Addr) (dc oc : Nat) (rows : List M.Sl), v = T (.agg #[.slice da out.1.length dc, .slice oa rows.length oc]) ∧ RS R' 1 encI da out.1 ∧ RS R' 1 M.encS oa rows ∧ (∀ r ∈ rows, RS R' 1 encI r.a r.xs) ∧ rows.map M.Sl.xs = out.2 ∧ (∀ r ∈ rows, r.xs.length ≤ r.cap) ∧ E.Sublist E'
end
end Go.Proofs.YtejpkjapmhpmpaaDoor.K

/- Rule: a pointer against nil. No condition. -/
namespace Go.Proofs.YtejpkjapmhpmpaaDoor.K
open Go Go.RowKit
section
variable {P : Program} {T : Tab} {n : Nat} {env : Env} {w0 : World} {R : Ro} {E : List Ent} {o : Oper} {pc p q r : Bool}
end
end Go.Proofs.YtejpkjapmhpmpaaDoor.K

/- Rules: an object whose type is known (a strings.Builder), pointers against nil and themselves, unsafe.Pointer there and back, append of a string, texts of bytes, shifts. No condition. -/
namespace Go.Proofs.YtejpkjapmhpmpaaDoor.K
open Go Go.RowKit

def encY (c : UInt8) : List Value := [.int .u8 c.toNat]
section
variable {P : Program} {T : Tab} {n : Nat} {env : Env} {w0 : World} {R : Ro} {E : List Ent} {o : Oper} {pc p q r : Bool}
theorem Rd.obj {b : Nat} {cs : Array Value} {t : TypeId} {fz : Nat × Nat} (i : Nat) (h : E[i]? = some (.obj b (.cells cs t fz))) : Rd R E ⟨b, 0, none⟩ cs.toList := by
 intro w0 w hm j v hv
 obtain ⟨_, hb⟩ := hm.own _ (mem_of_get h)
 rw [addr_add_mk]
 have : cs[j]? = some v := by simpa using hv
 simp [World.cell?, hb, this]
/-- append(b, s...) -/
theorem encY_flat : ∀ ys : List UInt8, (ys.map encY).flatten = ys.map fun c => Value.int .u8 c.toNat
 | [] => rfl
 | c :: ys => by simp [encY, encY_flat ys]
theorem Ef.appendStr {K : Value → Ro → List Ent → Prop} {t u e : TypeId} {x y : Operand} {m cap : Nat} {a : Option Addr} {xs l : List UInt8} {d d2 d3 : TD} (i : Nat) (hT : TabOk P T) (ho : o.op = .call { callee := .builtin .append, args := #[x, y], argTypes := #[t, u] }) (hd : T.at t = some d) (hk : d.k = .slice e) (hd2 : T.at e = some d2) (hs2 : d2.size = 1) (hb2 : d2.bytes = 1) (hz2 : (P.info? e).bind (·.zero) = some (.int .u8 0)) (hd3 : T.at u = some d3) (hk3 : d3.k = .str)
  (hx : ev env x = some (true, .slice a m cap)) (hm : m = xs.length) (hE : E[i]? = some (.sl e 1 a cap (xs.map encY))) (hy : ev env y = some (true, .string (str l))) (hbytes : xs.length + l.length ≤ 140737488355328)
  (hK : ∀ a' cap', K (.slice a' (xs ++ l).length cap') R (E.set i (.sl e 1 a' cap' ((xs ++ l).map encY)))) : Ef P n env w0 R E o K := by
 intro ac w hkn hmm
 have hsl := own_sl hmm (mem_of_get hE)
 obtain ⟨inf, z, hi, hz, hzc, hsz, hby⟩ := hT.info hd2
 have hz' : inf.zero = some (.int .u8 0) := by rw [hi] at hz2; exact hz2
 rw [hs2] at hsz
 rw [hb2] at hby
 have hsc : Lib.strCells (str l) = l.map fun c => Value.int .u8 c.toNat := by unfold Lib.strCells; rw [show (str l).data.toList = l by simp [str]]
 have hss := str_size l
 have hlen : (xs ++ l).length = xs.length + l.length := by simp
 have hml : (xs.map encY).length = xs.length := by simp
 have hrows : ∀ r ∈ (xs ++ l).map encY, r.length = 1 := fun r hr => by obtain ⟨c, _, rfl⟩ := List.mem_map.1 hr; rfl
 have hfl : ((xs ++ l).map encY).flatten = (xs.map fun c => Value.int .u8 c.toNat) ++ (l.map fun c => Value.int .u8 c.toNat) := by rw [encY_flat, List.map_append]
 have exec : ∀ v' w', (Builtin.append_ #[t, u] o.type #[.slice a m cap, .string (str l)]).run P w = .ok v' w' → (execOp ac.eval o).run P w = .ok (.value v') w' := fun v' w' hr => by
  unfold execOp
  simp only [ho, resolve, invoke, builtin, Sem.run_bind, Sem.run_pure, Result.andThen_ok, List.map_toArray, List.map_cons, List.map_nil, hkn.ev hx rfl, hkn.ev hy rfl, hr]
 have mkNew : ∀ nc, xs.length + l.length ≤ nc → nc ≤ maxLen → ∀ cur : Array Value, cur.toList = (xs.map fun c => Value.int .u8 c.toNat) ++ (l.map fun c => Value.int .u8 c.toNat) ++ (Builtin.zeroCells (Value.int .u8 0).cells (nc - (xs.length + l.length))).toList →
   Mem w0 (w.drew.alloc (.cells cur e)) R (E.set i (.sl e 1 (some ⟨w.heap.size, 0, none⟩) nc ((xs ++ l).map encY))) := fun nc hge hcm cur hcur => by
  have hz1 : (Value.int IntKind.u8 0).cells.size = 1 := rfl
  refine hmm.set (row := none) hE ⟨rfl, rfl, rfl, by simp, fun j hj _ => heap_alloc_old w.drew _ hj⟩ (fun _ h => by cases h) (ok_sl (g := w.heap.size) hrows (by decide) hmm.below.size (heap_alloc_new w.drew _) (by rw [List.length_map, hlen]; exact hge) hcm ?_ ?_) (fun b hb => by simp [Ent.block] at hb; right; omega)
  ·rw [← Array.length_toList, hcur]
   simp only [List.length_append, List.length_map, Array.length_toList, size_zeroCells, hz1]
   omega
  ·rw [hcur, hfl, List.length_map, hlen]
   exact List.take_left' (by simp)
 by_cases hl0 : l = []
 ·subst hl0
  refine ⟨_, w, R, _, .inl (exec (.slice a m cap) w ?_), ?_, by have := hK a cap; rw [List.append_nil] at this; rw [hm]; exact this⟩
  ·have hle : m ≤ cap := by
    obtain ⟨_, _, h2⟩ := hsl
    rw [hml] at h2
    rcases h2 with ⟨_, h3, _⟩ | ⟨g, cur, _, _, _, hn, _⟩
    ·have : xs = [] := by simpa using h3
     subst this; simp at hm; omega
    ·omega
   have hf := Lib.run_firstCells_string (P := P) w 1 (str [])
   have h0 : (str []).size = 0 := rfl
   have hd0 : (str []).data.toList = [] := rfl
   rw [h0] at hf
   cases a with
   | none => simp [Builtin.append_, run_underlying (hT.slice hd hk), run_underlying (hT.str hd3 hk3), sizeOf, typeInfo, hi, hsz, Builtin.lenOf, h0, hle, hf, Lib.strCells]
   | some ad => simp [Builtin.append_, run_underlying (hT.slice hd hk), run_underlying (hT.str hd3 hk3), sizeOf, typeInfo, hi, hsz, Builtin.lenOf, h0, hle, hf, Lib.strCells, hd0, storeCells]
  ·have e1 : E.set i (.sl e 1 a cap ((xs ++ []).map encY)) = E := by
    rw [List.append_nil]
    apply List.ext_getElem?
    intro j
    by_cases hj : i = j
    ·subst hj
     rw [hE, List.getElem?_set_self (List.getElem?_eq_some_iff.1 hE).1]
    ·rw [List.getElem?_set_ne hj]
   rw [List.append_nil] at e1
   rw [e1]; exact hmm
 ·have hlp : 0 < l.length := List.length_pos_iff.2 hl0
  obtain ⟨_, _, h2⟩ := hsl
  rw [hml] at h2
  rcases h2 with ⟨ha, h3, hc0⟩ | ⟨g, cur, ha, hbase, hh, hn, hc, hs, ht⟩
  ·have hx0 : xs = [] := by simpa using h3
   subst ha; subst hx0; subst hc0
   simp only [List.length_nil] at hm
   subst hm
   have hr := run_append_nil_string (P := P) w t u o.type e inf (.int .u8 0) (hT.slice hd hk) (hT.str hd3 hk3) hi hz' (str l) (by omega) (by omega) (by rw [hby, hss]; simp at hbytes; omega)
   have hcm := grownCap_le_maxLen w (str l).size 0 e (by rw [hss]; simp only [maxLen]; simp at hbytes; omega)
   have hge := grownCap_ge w (str l).size 0 e
   have hnew := mkNew (grownCap w (str l).size 0 e) (by simp; omega) hcm ((str l).data.map (fun b => Value.int .u8 b.toNat) ++ Builtin.zeroCells (Value.int .u8 0).cells (grownCap w (str l).size 0 e - (str l).size)) (by rw [hss]; simp [str])
   refine ⟨_, _, R, _, .inl (exec _ _ hr), hnew, ?_⟩
   rw [hss]
   exact hK _ _
  ·subst ha
   rw [hm] at exec
   by_cases hroom : xs.length + (str l).size ≤ cap
   ·have hr := Lib.run_append_room_string (P := P) w t u o.type e inf (hT.slice hd hk) (hT.str hd3 hk3) hi hsz g xs.length cap cur hh (str l) hroom (by omega)
    rw [hsc, hss] at hr
    refine ⟨_, _, R, _, .inl (exec _ _ hr), hmm.set hE (grownBy_setRow g _) (fun _ h => by simpa [Ent.block] using h) (ok_sl (g := g) (rows := (xs ++ l).map encY) (cap := cap) hrows (by decide) hbase (setRow_heap w g cur _ e _ hh) (by rw [List.length_map, hlen]; omega) hc ?_ ?_) (fun _ h => .inl h), ?_⟩
    ·simp only [List.size_toArray, List.length_append, List.length_take, List.length_drop, Array.length_toList, List.length_map]
     omega
    ·have ht' : cur.toList.take xs.length = xs.map fun c => Value.int .u8 c.toNat := by rw [← encY_flat, ← ht]; simp
     rw [hfl, List.length_map, hlen]
     simp only [Nat.mul_one]
     rw [ht']
     exact List.take_left' (by simp)
    ·have := hK (some ⟨g, 0, none⟩) cap
     rw [hlen] at this
     exact this
   ·have holds : ∀ j v, (xs.map fun c => Value.int .u8 c.toNat)[j]? = some v → w.cell? ((⟨g, 0, none⟩ : Addr).add j) = some v := fun j v hv => by
     rw [← encY_flat, ← ht, List.getElem?_take] at hv
     rw [addr_add_mk]
     split at hv
     ·simpa [World.cell?, hh] using hv
     ·cases hv
    have hr := Lib.run_append_grow_string (P := P) w t u o.type e inf (.int .u8 0) (hT.slice hd hk) (hT.str hd3 hk3) hi hz' ⟨g, 0, none⟩ xs.length cap (xs.map fun c => Value.int .u8 c.toNat) (by rw [hsz]; simp) holds (str l) (by omega) (by omega) (by rw [hby]; exact growslice_fits (by omega) (by omega))
    have hcm := grownCap_le_maxLen w (xs.length + (str l).size) cap e (by simp only [maxLen]; omega)
    have hge := grownCap_ge w (xs.length + (str l).size) cap e
    have hnew := mkNew (grownCap w (xs.length + (str l).size) cap e) (by omega) hcm ((xs.map fun c => Value.int .u8 c.toNat).toArray ++ (Lib.strCells (str l)).toArray ++ Builtin.zeroCells (Value.int .u8 0).cells (grownCap w (xs.length + (str l).size) cap e - (xs.length + (str l).size))) (by simp [hsc, hss])
    refine ⟨_, _, R, _, .inl (exec _ _ hr), hnew, ?_⟩
    have := hK (some ⟨w.heap.size, 0, none⟩) (grownCap w (xs.length + (str l).size) cap e)
    rw [hlen] at this
    rw [hss] at this ⊢
    exact this
end
end Go.Proofs.YtejpkjapmhpmpaaDoor.K

/- Digits, plain: what the reference reads. No condition. -/
namespace Go.Proofs.YtejpkjapmhpmpaaDoor.M
open Go Go.Proofs.YtejpkjapmhpmpaaDoor.K

theorem dig_slice {d : Nat} (h : d < 10) : (([48, 49, 50, 51, 52, 53, 54, 55, 56, 57] : List UInt8).take (d + 1)).drop d = [UInt8.ofNat (48 + d)] := by
 have key : ∀ x : Fin 10, (([48, 49, 50, 51, 52, 53, 54, 55, 56, 57] : List UInt8).take (x.val + 1)).drop x.val = [UInt8.ofNat (48 + x.val)] := by decide
 exact key ⟨d, h⟩
def digGo (n : Int) : List UInt8 → Int
  | [] => n
  | c :: r => if (c.toNat : Int) < 48 ∨ 57 < (c.toNat : Int) ∨ 1073741824 < n then 0 else digGo (10 * n + ((c.toNat : Int) - 48)) r
def digF (l : List UInt8) : Int := digGo 0 l
def noExit (n : Int) : List UInt8 → Prop
  | [] => True
  | c :: r => ¬ ((c.toNat : Int) < 48 ∨ 57 < (c.toNat : Int) ∨ 1073741824 < n) ∧ noExit (10 * n + ((c.toNat : Int) - 48)) r
def rnum (l : List UInt8) : Int := if 0 < l.length ∧ byteAt l 0 = 45 then -(digF (l.drop 1)) else digF l
def rparts (l : List UInt8) : List UInt8 × List UInt8 := if (cutS l).2.2 = true then ((cutS l).1, (cutS l).2.1) else (l, [49])
end Go.Proofs.YtejpkjapmhpmpaaDoor.M

/- Rules of shifts and texts of bytes. No condition. -/
namespace Go.Proofs.YtejpkjapmhpmpaaDoor.K
open Go Go.RowKit
section
variable {P : Program} {T : Tab} {n : Nat} {env : Env} {w0 : World} {R : Ro} {E : List Ent} {o : Oper} {pc p q r : Bool}
/-- string(b) of bytes of one's own -/
theorem Yl.bytesStr {src dst e : TypeId} {x : Operand} {m cap : Nat} {a : Option Addr} {l : List UInt8} {d d2 d3 : TD} (i : Nat) (hT : TabOk P T) (ho : o.op = .convert src dst x) (hd : T.at src = some d) (hk : d.k = .slice e) (hd2 : T.at e = some d2) (hk2 : d2.k = .int .u8) (hd3 : T.at dst = some d3) (hk3 : d3.k = .str)
  (hE : E[i]? = some (.sl e 1 a cap (l.map encY))) (hx : ev env x = some (p, .slice a m cap)) (hm : m = l.length) (hl : 0 < l.length) (hp : pc = true → p = true) : Yl P n env w0 R E o pc (.string (str l)) := by
 intro ac w hkn hmm hpc
 subst hm
 obtain ⟨_, _, h2⟩ := own_sl hmm (mem_of_get hE)
 rcases h2 with ⟨_, h3, _⟩ | ⟨g, cur, rfl, hbase, hh, hn, hc, hs, ht⟩
 ·have : l = [] := by simpa using h3
  subst this; simp at hl
 ·have hcells : ∀ (j : Nat) (b : UInt8), l[j]? = some b → w.cell? ((⟨g, 0, none⟩ : Addr).add j) = some (.int .u8 b.toNat) := fun j b hj => by
   have h4 : ((l.map encY).flatten)[j]? = some (.int .u8 b.toNat) := by rw [encY_flat, List.getElem?_map, hj]; rfl
   rw [← ht, List.getElem?_take] at h4
   rw [addr_add_mk]
   split at h4
   ·simpa [World.cell?, hh] using h4
   ·cases h4
  have e1 := run_convert_bytes_back w src dst e ⟨g, 0, none⟩ cap l (hT.slice hd hk) (hT.int hd2 hk2) (hT.str hd3 hk3) (fun j hj => hcells j _ (List.getElem?_eq_getElem hj))
  unfold execOp
  simp [ho, hkn.ev hx (hp hpc), e1, str]
end
def RBelow (w0 : World) (R : Ro) : Prop := ∀ b cs, R b = some cs → b < w0.heap.size
theorem FnV.ofOwn {P : Program} {f : FuncId} {args : List Value} {R : Ro} {v : Value} (h : ∀ w0, RBelow w0 R → Fn P f args w0 R [] (fun v' _ _ => v' = v)) : FnV P f args R v := by
 intro w0 E w hm
 have hm0 : Mem w w R [] := ⟨Below.refl _ w, hm.ro, fun e he => (by cases he), fun e he => (by cases he), List.Pairwise.nil⟩
 refine (h w (fun b cs hb => hm.ro_lt hb) w hm0).mono ?_
 rintro e w' ⟨v', R', E', rfl, _, hm', rfl⟩
 exact ⟨rfl, hm.belowAll hm'.below⟩
end Go.Proofs.YtejpkjapmhpmpaaDoor.K

/- Rules: remainders of numbers of any kind. No condition. -/
namespace Go.Proofs.YtejpkjapmhpmpaaDoor.K
open Go Go.RowKit
section
variable {P : Program} {T : Tab} {n : Nat} {env : Env} {w0 : World} {R : Ro} {E : List Ent} {o : Oper} {pc p q r : Bool}
end
end Go.Proofs.YtejpkjapmhpmpaaDoor.K

/- Rules: the bytes of a string as a slice of one's own (a place behind the last is marked), xor of bytes. No condition. -/
namespace Go.Proofs.YtejpkjapmhpmpaaDoor.K
open Go Go.RowKit
def byCells (l : List UInt8) (n : Nat) : Array Value := (l.map (fun c => Value.int .u8 c.toNat) ++ List.replicate n (Value.int .u8 0)).toArray
def byB (b : Nat) (e : TypeId) (l : List UInt8) (n : Nat) : Ent := .obj b (.cells (byCells l n) e (l.length + n, l.length + n + 1))
theorem byteAt_get {l : List UInt8} {i : Nat} (h : i < l.length) : byteAt l i = ((l[i]'h).toNat : Int) := by
 unfold byteAt
 rw [List.getD_eq_getElem?_getD, List.getElem?_eq_getElem h, Option.getD_some]
theorem byCells_get {l : List UInt8} {n i : Nat} (h : i < l.length) : (byCells l n)[i]? = some (.int .u8 (byteAt l i)) := by
 rw [byteAt_get h]
 unfold byCells
 rw [List.getElem?_toArray, List.getElem?_append_left (by simpa using h), List.getElem?_map, List.getElem?_eq_getElem h]
 rfl
theorem byCells_size (l : List UInt8) (n : Nat) : (byCells l n).size = l.length + n := by simp [byCells]
theorem byCells_set {l : List UInt8} {n i : Nat} (h : i < l.length) (c : UInt8) : (byCells l n).setIfInBounds i (.int .u8 c.toNat) = byCells (l.set i c) n := by
 unfold byCells
 rw [List.setIfInBounds_toArray, List.set_append_left _ _ (by simpa using h), List.map_set]
section
variable {P : Program} {T : Tab} {n : Nat} {env : Env} {w0 : World} {R : Ro} {E : List Ent} {o : Oper} {pc p q r : Bool}
theorem Rd.byB {b : Nat} {e : TypeId} {l : List UInt8} {m i : Nat} (k : Nat) (h : E[k]? = some (byB b e l m)) (hi : i < l.length) : Rd R E (eaddr (some ⟨b, 0, none⟩) 1 i) [.int .u8 (byteAt l i)] := by
 intro w0 w hm j v hv
 obtain ⟨_, hb⟩ := hm.own _ (mem_of_get h)
 have hj : j = 0 := by
  rcases j with _ | j
  ·rfl
  ·simp at hv
 subst hj
 simp only [List.getElem?_cons_zero, Option.some.injEq] at hv
 subst hv
 have e1 : (eaddr (some ⟨b, 0, none⟩) 1 i).add 0 = ⟨b, i, none⟩ := by
  unfold eaddr
  rw [Option.getD_some, addr_add_add, addr_add_mk]
  simp
 rw [e1]
 simp [World.cell?, hb, byCells_get hi]
theorem Ef.bytesOf {K : Value → Ro → List Ent → Prop} {src dst e : TypeId} {x : Operand} {l : List UInt8} {d d2 d3 : TD} (hT : TabOk P T) (ho : o.op = .convert src dst x) (hd : T.at src = some d) (hk : d.k = .str) (hd2 : T.at dst = some d2) (hk2 : d2.k = .slice e) (hd3 : T.at e = some d3) (hk3 : d3.k = .int .u8)
  (hx : ev env x = some (true, .string (str l))) (hK : ∀ b cap m, K (.slice (some ⟨b, 0, none⟩) l.length cap) R (byB b e l m :: E)) : Ef P n env w0 R E o K := by
 intro a w hk' hm
 have e1 := run_bytes_of_string (P := P) w src dst e (str l) (hT.str hd hk) (hT.slice hd2 hk2) (hT.int hd3 hk3)
 rw [str_size] at e1
 have e2 : bytesRow (str l) (grownCap w l.length 0 e) = byCells l (grownCap w l.length 0 e - l.length) := by
  unfold bytesRow byCells
  rw [str_size]
  apply Array.ext'
  simp [str]
 rw [e2, byCells_size] at e1
 refine ⟨_, w.drew.alloc (.cells (byCells l (grownCap w l.length 0 e - l.length)) e (l.length + (grownCap w l.length 0 e - l.length), l.length + (grownCap w l.length 0 e - l.length) + 1)), R, _, .inl ?_, hm.new (e' := byB w.heap.size e l (grownCap w l.length 0 e - l.length)) ⟨rfl, rfl, rfl, by simp, fun j hj _ => heap_alloc_old w.drew _ hj⟩ ⟨hm.below.size, World.alloc_heap_new w.drew _⟩ (fun b hb => by simp [byB, Ent.block] at hb; omega), hK _ (grownCap w l.length 0 e) _⟩
 unfold execOp
 simp [ho, hk'.ev hx rfl, e1]
theorem Ef.storeB {K : Value → Ro → List Ent → Prop} {t e : TypeId} {x y : Operand} {b i m : Nat} {l : List UInt8} {c : UInt8} {d : TD} (k : Nat) (hT : TabOk P T) (ho : o.op = .store t x y) (hd : T.at t = some d) (hs : d.size = 1)
  (hx : ev env x = some (true, .pointer (some (eaddr (some ⟨b, 0, none⟩) 1 i)))) (hy : ev env y = some (true, .int .u8 c.toNat)) (hE : E[k]? = some (byB b e l m)) (hi : i < l.length)
  (hK : K undef R (E.set k (byB b e (l.set i c) m))) : Ef P n env w0 R E o K := by
 intro a w hk hm
 obtain ⟨hbase, hb⟩ := hm.own _ (mem_of_get hE)
 have e1 : eaddr (some ⟨b, 0, none⟩) 1 i = ⟨b, i, none⟩ := by
  unfold eaddr
  rw [Option.getD_some, addr_add_mk]
  simp
 rw [e1] at hx
 have hc : w.cell? ⟨b, i, none⟩ = some (.int .u8 (byteAt l i)) := by simp [World.cell?, hb, byCells_get hi]
 have hf : w.frozen? ⟨b, i, none⟩ = false := by simp [World.frozen?, hb]; omega
 have hsz := run_sizeOf hT hd w
 rw [hs] at hsz
 have hst := run_storeCells_cells (P := P) b i [Value.int .u8 c.toNat] 0 w (fun j hj => by
  have : j = 0 := by simpa using hj
  subst this; simp [hc]) (fun j hj => by
  have : j = 0 := by simpa using hj
  subst this; simpa using hf) (fun v hv => by rw [List.mem_singleton.1 hv]; rfl)
 have hw : w.setCells b (i + 0) [Value.int .u8 c.toNat] = w.setCell ⟨b, i, none⟩ (.int .u8 c.toNat) := rfl
 rw [hw] at hst
 have hheap : (w.setCell ⟨b, i, none⟩ (.int .u8 c.toNat)).heap[b]? = some (.cells (byCells (l.set i c) m) e (l.length + m, l.length + m + 1)) := by
  show (w.heap.modify b _)[b]? = _
  rw [Array.getElem?_modify, if_pos rfl, hb]
  simp [byCells_set hi]
 have hg : w.grownBy (w.setCell ⟨b, i, none⟩ (.int .u8 c.toNat)) (some b) := ⟨rfl, rfl, rfl, by show w.heap.size ≤ (w.heap.modify b _).size; simp, fun j hj hne => by
  show (w.heap.modify b _)[j]? = _
  rw [Array.getElem?_modify]
  rw [if_neg (fun h => hne (by rw [h]))]⟩
 refine ⟨undef, w.setCell ⟨b, i, none⟩ (.int .u8 c.toNat), R, _, .inr ⟨?_, rfl⟩, hm.set (e' := byB b e (l.set i c) m) hE hg (fun _ h => h) ⟨hbase, by rw [hheap]; simp⟩ (fun _ h => .inl h), hK⟩
 unfold execOp
 have hv : (Value.int IntKind.u8 (c.toNat : Int)).cells.toList = [Value.int .u8 c.toNat] := rfl
 have hv2 : (Value.int IntKind.u8 (c.toNat : Int)).cells.size = 1 := rfl
 simp [ho, hk.ev hx rfl, hk.ev hy rfl, Instr.storeAt, Instr.sureAddr, storeVar, hsz, hv, hv2, hst]
theorem Yl.bytesB {src dst e : TypeId} {x : Operand} {m b cap u : Nat} {l : List UInt8} {d d2 d3 : TD} (i : Nat) (hT : TabOk P T) (ho : o.op = .convert src dst x) (hd : T.at src = some d) (hk : d.k = .slice e) (hd2 : T.at e = some d2) (hk2 : d2.k = .int .u8) (hd3 : T.at dst = some d3) (hk3 : d3.k = .str)
  (hE : E[i]? = some (byB b e l u)) (hx : ev env x = some (p, .slice (some ⟨b, 0, none⟩) m cap)) (hm : m = l.length) (hp : pc = true → p = true) : Yl P n env w0 R E o pc (.string (str l)) := by
 intro ac w hkn hmm hpc
 subst hm
 obtain ⟨_, hb⟩ := hmm.own _ (mem_of_get hE)
 have e1 := run_convert_bytes_back w src dst e ⟨b, 0, none⟩ cap l (hT.slice hd hk) (hT.int hd2 hk2) (hT.str hd3 hk3) (fun j hj => by
  rw [addr_add_mk]
  have := byCells_get (n := u) hj
  rw [byteAt_get hj] at this
  simp [World.cell?, hb, this])
 unfold execOp
 simp [ho, hkn.ev hx (hp hpc), e1, str]
end
end Go.Proofs.YtejpkjapmhpmpaaDoor.K

/- What a reference's line does where its choice looks at what is left of a tick, plain. No condition. -/
namespace Go.Proofs.YtejpkjapmhpmpaaDoor.M
open Go Go.Proofs.YtejpkjapmhpmpaaDoor.K

section
variable {τ : Type} (ps : List Pkt) (rc : Int → St → τ → Int × τ)
def rpickL (left : Int) (st : St) (g : τ) : Int × τ := if st.now = -1 then rc left st g else (st.now, g)
def rinnerL : Nat → Int → St → τ → St × τ
  | 0, _, st, g => (st, g)
  | k + 1, left, st, g =>
    if left ≤ 0 then (st, g) else
      let r := rpickL rc left st g
      let st1 := { st with now := r.1 }
      if r.1 = -1 then (st1, r.2) else rinnerL k (left - rsendN ps left st1) (rsend ps left st1) r.2
def rtickL (cap : Int) (st : St) (g : τ) : St × τ :=
  let x := rinnerL ps rc cap.toNat cap (rbegin st) g
  ({ x.1 with time := x.1.time + 1 }, x.2)
def rticksL (cap : Int) : Nat → St → τ → St × τ
  | 0, st, g => (st, g)
  | k + 1, st, g => rticksL cap k (rtickL ps rc cap st g).1 (rtickL ps rc cap st g).2
def rrunL (cap : Int) (classes ticks : Nat) (g : τ) : St := (rticksL ps rc cap ticks (rstart ps classes) g).1
end

section
variable {σ τ : Type} {ps : List Pkt} {ch : MS → σ → Int × Nat × σ} {good : MS → σ → Prop} {rel : Nat → Nat → Prop} {classes col : Nat} {s : RS σ} {st : St} {g : τ} {rc : Int → St → τ → Int × τ} {ρ : σ → τ → Prop}
/-- what a reference's choice must do beside that of the program -/
def AlikeL {σ τ : Type} (ps : List Pkt) (ch : MS → σ → Int × Nat × σ) (good : MS → σ → Prop) (rc : Int → St → τ → Int × τ) (ρ : σ → τ → Prop) : Prop :=
  ∀ (ms : MS) (sg : σ) (st : St) (g : τ), good ms sg → ms.begun.length = ps.length → ρ sg g → (st.time : Int) = ms.now → st.now = -1 → (∀ i, i < ps.length → M.waits ps st i = (decide ((nth ps i).time ≤ ms.now) && !nth ms.begun i)) →
    (rc ms.left st g).1 = (if (ch ms sg).1 < 0 then -1 else (ch ms sg).1) ∧ ρ (ch ms sg).2.2 (rc ms.left st g).2
end
section
variable {ps : List Pkt} {classes len : Nat} {B : Int} {st : St}
/-- a choice of what waits -/
def WaitingL {τ : Type} (ps : List Pkt) (rc : Int → St → τ → Int × τ) : Prop := ∀ l st g, (rc l st g).1 = -1 ∨ (0 ≤ (rc l st g).1 ∧ (rc l st g).1 < ps.length ∧ M.waits ps st (rc l st g).1.toNat = true)
end
end Go.Proofs.YtejpkjapmhpmpaaDoor.M

/- Priorities, plain: the choice of the program and of the reference. No condition. -/
namespace Go.Proofs.YtejpkjapmhpmpaaDoor.M
open Go Go.Proofs.YtejpkjapmhpmpaaDoor.K

/-- the first class from c on in which something waits -/
def prioFrom (nx : Int → Int) : Nat → Nat → Int
  | 0, _ => -1
  | k + 1, c => if 0 ≤ nx c then nx c else prioFrom nx k (c + 1)
def prioCh (ps : List Pkt) (n : Nat) (ms : MS) (_ : Unit) : Int × Nat × Unit := (prioFrom (nextW ps ms) n 0, skipTo ms.begun ms.before, ())
def prioRc (ps : List Pkt) (n : Nat) (_ : Int) (st : St) (_ : Unit) : Int × Unit := (prioFrom (firstW ps st) n 0, ())
section
variable {ps : List Pkt} {n : Nat}
/-- before which packet all have been begun, when so many classes have been looked at -/
def bfN (ms : MS) (c : Nat) : Nat := if c = 0 then ms.before else skipTo ms.begun ms.before
end
end Go.Proofs.YtejpkjapmhpmpaaDoor.M

/- Time slots, plain: the choice of the program and of the reference. No condition. -/
namespace Go.Proofs.YtejpkjapmhpmpaaDoor.M
open Go Go.Proofs.YtejpkjapmhpmpaaDoor.K

/-- how many ticks in a row from t on belong to a class; -1 if all do -/
def aheadN (tb : List Int) (cls : Int) (t : Nat) : Int := findFrom (fun n => decide (cls < 0) || nth tb ((t + n) % tb.length) != cls) tb.length 0
def afterN (tb : List Int) (t : Nat) : Nat := if findFrom (fun n => nth tb ((t + 1 + n) % tb.length) != nth tb (t % tb.length)) tb.length 0 = -1 then tb.length else (findFrom (fun n => nth tb ((t + 1 + n) % tb.length) != nth tb (t % tb.length)) tb.length 0).toNat
def roomN (cap : Int) (tb : List Int) (t : Nat) (left : Int) : Int := if afterN tb t = tb.length then 1073741824 else left + cap * (afterN tb t : Int)
def slotT (tb : List Int) (t : Nat) : Int := nth tb (t % tb.length)
def slotCh (ps : List Pkt) (cap : Int) (tb : List Int) (ms : MS) (_ : Unit) : Int × Nat × Unit :=
  if slotT tb ms.now.toNat < 0 then (-1, ms.before, ())
  else if nextW ps ms (slotT tb ms.now.toNat) < 0 then (-1, skipTo ms.begun ms.before, ())
  else if aheadN tb (slotT tb ms.now.toNat) ms.now.toNat ≠ -1 ∧ (nth ps (nextW ps ms (slotT tb ms.now.toNat)).toNat).size > ms.left + (aheadN tb (slotT tb ms.now.toNat) ms.now.toNat - 1) * cap then (-1, skipTo ms.begun ms.before, ())
  else (nextW ps ms (slotT tb ms.now.toNat), skipTo ms.begun ms.before, ())
def slotRc (ps : List Pkt) (cap : Int) (tb : List Int) (left : Int) (st : St) (_ : Unit) : Int × Unit :=
  if 0 ≤ slotT tb st.time ∧ 0 ≤ firstW ps st (slotT tb st.time) ∧ (nth ps (firstW ps st (slotT tb st.time)).toNat).size ≤ roomN cap tb st.time left then (firstW ps st (slotT tb st.time), ()) else (-1, ())
section
variable {ps : List Pkt} {cap : Int} {tb : List Int} {ms : MS} {st : St}
end
/-- tables that are right -/
def okT (classes : Int) (tb : List Int) : Bool := decide (1 ≤ tb.length) && decide (tb.length ≤ 40) && tb.all fun c => decide (-1 ≤ c) && decide (c < classes)
/-- the classes of a table -/
def classesT (tb : List Int) : Int := tb.foldl (fun m c => if m < c + 1 then c + 1 else m) 1
def srunE (cap ticks : Int) (tb : List Int) (ps : List Pkt) : Int := if okT 6 tb = true then lrunE cap (classesT tb) ticks ps else 2
end Go.Proofs.YtejpkjapmhpmpaaDoor.M

/- What a class is sent while it is backlogged, plain, whatever the choice: an invariant of the rounds is carried from tick to tick. No condition. -/
namespace Go.Proofs.YtejpkjapmhpmpaaDoor.M
open Go Go.Proofs.YtejpkjapmhpmpaaDoor.K

/-- the bytes of a class that have been begun -/
def begK (k : Int) : List Pkt → List Bool → Int
  | p :: ps, b :: bs => (if b = true ∧ p.flow = k then p.size else 0) + begK k ps bs
  | _, _ => 0
theorem begK_set (k : Int) : ∀ (ps : List Pkt) (bs : List Bool) (i : Nat), i < ps.length → i < bs.length → nth bs i = false → begK k ps (bs.set i true) = begK k ps bs + (if (nth ps i).flow = k then (nth ps i).size else 0)
 | [], _, i, h, _, _ => by simp at h
 | _ :: _, [], i, _, h, _ => by simp at h
 | p :: ps, b :: bs, 0, _, _, hb => by
  have : b = false := hb
  subst this
  simp only [List.set_cons_zero, begK, show nth (p :: ps) 0 = p from rfl]
  simp; omega
 | p :: ps, b :: bs, i + 1, h1, h2, hb => by
  have := begK_set k ps bs i (by simpa using h1) (by simpa using h2) hb
  simp only [List.set_cons_succ, begK, this]
  rw [show nth (p :: ps) (i + 1) = nth ps i from rfl]; omega
/-- a class of which less has been begun than has arrived waits -/
theorem begK_wait {k t : Int} (hk : 0 ≤ k) : ∀ (ps : List Pkt) (bs : List Bool), bs.length = ps.length → (∀ p ∈ ps, 0 ≤ p.size) → begK k ps bs < pbytes k (t + 1) ps → ∃ i, i < ps.length ∧ nth bs i = false ∧ (nth ps i).flow = k ∧ (nth ps i).time ≤ t
 | [], _, _, _, h => by simp [begK, pbytes] at h
 | _ :: _, [], hl, _, _ => by simp at hl
 | p :: ps, b :: bs, hl, hs, h => by
  have hp := hs p (by simp)
  by_cases h0 : b = false ∧ p.flow = k ∧ p.time ≤ t
  ·exact ⟨0, by simp, h0.1, h0.2.1, h0.2.2⟩
  ·have h1 : begK k ps bs < pbytes k (t + 1) ps := by
    simp only [begK, pbytes] at h
    by_cases hh : hit k (t + 1) p
    ·rw [if_pos hh] at h
     have hb : b = true ∧ p.flow = k := by
      unfold hit at hh
      have hf : p.flow = k := by omega
      refine ⟨?_, hf⟩
      cases b with
      | true => rfl
      | false => exact absurd ⟨rfl, hf, by omega⟩ h0
     rw [if_pos hb] at h
     omega
    ·rw [if_neg hh] at h
     split at h <;> omega
   obtain ⟨i, g1, g2, g3, g4⟩ := begK_wait hk ps bs (by simpa using hl) (fun q hq => hs q (by simp [hq])) h1
   exact ⟨i + 1, by simpa using g1, g2, g3, g4⟩

/-- the sums of a class: begun, less what is still to be sent of the open packet -/
def Cl {σ : Type} (ps : List Pkt) (k : Nat) (col : Nat) (s : RS σ) : Prop :=
  nth (nth s.sent k) col = begK k ps s.ms.begun - (if 0 ≤ s.cur ∧ (nth ps s.cur.toNat).flow = k then s.rest else 0)
/-- an invariant of the rounds: of the choice's state, the open packet and what is left of it, what the class and all others have been sent -/
structure Per {σ : Type} (ps : List Pkt) (ch : MS → σ → Int × Nat × σ) (good : MS → σ → Prop) (k : Nat) (J : σ → Int → Int → Int → Int → Prop) : Prop where
  pick : ∀ ms sg r own oth, good ms sg → ms.begun.length = ps.length → (∃ i, i < ps.length ∧ nth ms.begun i = false ∧ (nth ps i).flow = k ∧ (nth ps i).time ≤ ms.now) → J sg (-1) r own oth → 0 ≤ (ch ms sg).1 → J (ch ms sg).2.2 (ch ms sg).1 (nth ps (ch ms sg).1.toNat).size own oth
  send : ∀ (sg : σ) (cur rest own oth n : Int), 0 ≤ cur → cur < ps.length → 1 ≤ n → n ≤ rest → J sg cur rest own oth →
    J sg (if rest - n = 0 then -1 else cur) (rest - n) (own + (if (nth ps cur.toNat).flow = k then n else 0)) (oth + (if (nth ps cur.toNat).flow = k then 0 else n))
  none : ∀ sg c c' r r' own oth, c < 0 → c' < 0 → J sg c r own oth → J sg c' r' own oth
section
variable {σ : Type} {ps : List Pkt} {ch : MS → σ → Int × Nat × σ} {good : MS → σ → Prop} {rel : Nat → Nat → Prop} {classes col k : Nat} {s : RS σ} {J : σ → Int → Int → Int → Int → Prop}
theorem Cl.pickup (hg : Fair ps ch good rel) (hw : Wk ps classes good rel col s) (h : Cl ps k col s) : Cl ps k col (pickup ps ch s) := by
 unfold M.pickup
 by_cases hc : 0 ≤ s.cur
 ·rw [if_pos hc]; exact h
 ·rw [if_neg hc]
  unfold Cl at h
  rw [if_neg (by omega)] at h
  by_cases hr : (ch s.ms s.sg).1 < 0
  ·simp only [hr, if_true]
   unfold Cl
   dsimp only
   rw [if_neg (by omega)]; exact h
  ·simp only [hr, if_false]
   have hi := hg.idx _ _ hw.good hw.blen (by omega)
   obtain ⟨w1, w2⟩ := hg.waits _ _ hw.good hw.blen (by omega)
   have hb := hw.blen
   unfold Cl
   dsimp only
   rw [begK_set _ _ _ _ (by omega) (by omega) w1, h]
   by_cases hf : (nth ps (ch s.ms s.sg).1.toNat).flow = k
   ·rw [if_pos hf, if_pos ⟨by omega, hf⟩]; omega
   ·rw [if_neg hf, if_neg (fun h => hf h.2)]; omega
/-- what is sent of the class: n or nothing -/
theorem Cl.send (hfl : ∀ p ∈ ps, 0 ≤ p.flow ∧ p.flow < classes) (hk : k < classes) {t : Nat} (hw : Wk ps classes good rel (t + 1) s) (h : Cl ps k (t + 1) s) (hc : 0 ≤ s.cur) (hl : 0 < s.ms.left) :
  ∃ n, 1 ≤ n ∧ n ≤ s.rest ∧ (M.send ps t s).ms.left = s.ms.left - n ∧ (M.send ps t s).rest = s.rest - n ∧ (M.send ps t s).cur = (if s.rest - n = 0 then -1 else s.cur) ∧ (M.send ps t s).sg = s.sg ∧ (M.send ps t s).ms.begun = s.ms.begun ∧
   nth (nth (M.send ps t s).sent k) (t + 1) = nth (nth s.sent k) (t + 1) + (if (nth ps s.cur.toNat).flow = k then n else 0) ∧ Cl ps k (t + 1) (M.send ps t s) := by
 obtain ⟨c1, c2, c3⟩ := hw.cur hc
 have hfl' := hfl _ (nth_mem (show s.cur.toNat < ps.length by omega))
 have hlen := hw.slen
 refine ⟨if s.ms.left < s.rest then s.ms.left else s.rest, by split <;> omega, by split <;> omega, rfl, rfl, rfl, rfl, rfl, ?_⟩
 have hn : (if s.ms.left < s.rest then s.ms.left else s.rest) ≤ s.rest := by split <;> omega
 have hcol : nth (nth (M.send ps t s).sent k) (t + 1) = nth (nth s.sent k) (t + 1) + (if (nth ps s.cur.toNat).flow = k then (if s.ms.left < s.rest then s.ms.left else s.rest) else 0) := by
  unfold M.send
  dsimp only
  by_cases hf : (nth ps s.cur.toNat).flow = k
  ·have e : (nth ps s.cur.toNat).flow.toNat = k := by omega
   rw [if_pos hf, e, nth_set_self (by omega), nth_set_self]
   have := hw.rlen _ (nth_mem (xs := s.sent) (k := k) (by omega))
   omega
  ·rw [if_neg hf, nth_set_ne (by omega)]; omega
 refine ⟨hcol, ?_⟩
 unfold Cl at h ⊢
 rw [hcol, h]
 unfold M.send
 dsimp only
 generalize (if s.ms.left < s.rest then s.ms.left else s.rest) = n at hn ⊢
 by_cases hf : (nth ps s.cur.toNat).flow = k
 ·rw [if_pos ⟨hc, hf⟩, if_pos hf]
  by_cases hz : s.rest - n = 0
  ·simp only [hz, if_true]; rw [if_neg (by omega)]; omega
  ·simp only [hz, if_false]; rw [if_pos ⟨hc, hf⟩]; omega
 ·rw [if_neg (fun h => hf h.2), if_neg hf]
  by_cases hz : s.rest - n = 0
  ·simp only [hz, if_true]; rw [if_neg (by omega)]; omega
  ·simp only [hz, if_false]; rw [if_neg (fun h => hf h.2)]; omega
theorem Per.inner (hg : Fair ps ch good rel) (hb : Busy ps ch good) (hJ : Per ps ch good k J) (hs : ∀ p ∈ ps, 1 ≤ p.size) (hfl : ∀ p ∈ ps, 0 ≤ p.flow ∧ p.flow < classes) (hk : k < classes) {t : Nat} : ∀ (j : Nat) (s : RS σ) (own oth : Int), Wk ps classes good rel (t + 1) s → Cl ps k (t + 1) s → s.ms.now = t → 0 ≤ s.ms.left →
  (J s.sg s.cur s.rest own oth ∨ pbytes k ((t : Int) + 1) ps ≤ nth (nth s.sent k) (t + 1)) →
  Cl ps k (t + 1) (inner ps ch t j s) ∧ nth (nth s.sent k) (t + 1) ≤ nth (nth (inner ps ch t j s).sent k) (t + 1) ∧
   (nth (nth (inner ps ch t j s).sent k) (t + 1) < pbytes k ((t : Int) + 1) ps →
    J (inner ps ch t j s).sg (inner ps ch t j s).cur (inner ps ch t j s).rest (own + (nth (nth (inner ps ch t j s).sent k) (t + 1) - nth (nth s.sent k) (t + 1))) (oth + ((colSum (inner ps ch t j s).sent (t + 1) - colSum s.sent (t + 1)) - (nth (nth (inner ps ch t j s).sent k) (t + 1) - nth (nth s.sent k) (t + 1)))))
 | 0, s, own, oth, hw, hc, hn, hl, h => by
  simp only [M.inner]
  refine ⟨hc, Int.le_refl _, fun hlt => ?_⟩
  rcases h with h | h
  ·simpa using h
  ·omega
 | j + 1, s, own, oth, hw, hc, hn, hl, h => by
  simp only [M.inner]
  by_cases hl0 : s.ms.left ≤ 0
  ·rw [if_pos hl0]
   refine ⟨hc, Int.le_refl _, fun hlt => ?_⟩
   rcases h with h | h
   ·simpa using h
   ·omega
  ·rw [if_neg hl0]
   have hw1 := hw.pickup hg hs
   have hc1 := hc.pickup hg hw
   obtain ⟨e1, e2, e3, e4⟩ := pickup_same ps ch s
   -- the choice
   have hJ1 : nth (nth s.sent k) (t + 1) < pbytes k ((t : Int) + 1) ps → 0 ≤ (M.pickup ps ch s).cur ∧ J (M.pickup ps ch s).sg (M.pickup ps ch s).cur (M.pickup ps ch s).rest own oth := fun hlt => by
    have h := h.resolve_right (by omega)
    by_cases hcur : 0 ≤ s.cur
    ·unfold M.pickup; rw [if_pos hcur]; exact ⟨hcur, h⟩
    ·unfold Cl at hc
     rw [if_neg (fun x => hcur x.1)] at hc
     obtain ⟨i, g1, g2, g3, g4⟩ := begK_wait (k := (k : Int)) (t := (t : Int)) (by omega) ps s.ms.begun hw.blen (fun p hp => by have := hs p hp; omega) (by omega)
     have hr0 : 0 ≤ (ch s.ms s.sg).1 := by
      apply Classical.byContradiction
      intro hneg
      have := hb _ _ hw.good hw.blen (by omega) i g1 (by omega)
      rw [this] at g2; cases g2
     have hp := hJ.pick s.ms s.sg s.rest own oth hw.good hw.blen ⟨i, g1, g2, g3, by omega⟩ (hJ.none _ s.cur _ s.rest _ own oth (by omega) (by omega) h) hr0
     unfold M.pickup
     rw [if_neg hcur]
     dsimp only
     rw [if_neg (by omega)]
     exact ⟨hr0, hp⟩
   by_cases hcn : (M.pickup ps ch s).cur < 0
   ·rw [if_pos hcn]
    refine ⟨hc1, by rw [e3]; exact Int.le_refl _, fun hlt => ?_⟩
    rw [e3] at hlt
    have := (hJ1 hlt).1
    omega
   ·rw [if_neg hcn]
    obtain ⟨n, n1, n2, n3, n4, n5, n6, n7, n8, n9⟩ := Cl.send hfl hk hw1 hc1 (by omega) (by rw [e1]; omega)
    obtain ⟨g1, g2, g3, g4, g5, g6⟩ := hw1.send hfl hg.free (by rw [e2]; exact hn) (by omega) (by rw [e1]; omega)
    have hn0 : 0 ≤ (if (nth ps (M.pickup ps ch s).cur.toNat).flow = (k : Int) then n else 0) := by split <;> omega
    have hcc := hw1.cur (by omega)
    obtain ⟨r1, r2, r3⟩ := Per.inner hg hb hJ hs hfl hk j (M.send ps t (M.pickup ps ch s)) (own + (if (nth ps (M.pickup ps ch s).cur.toNat).flow = (k : Int) then n else 0)) (oth + (if (nth ps (M.pickup ps ch s).cur.toNat).flow = (k : Int) then 0 else n)) g1 n9 (by rw [g5, e2]; exact hn) g3 (by
     by_cases hlt : nth (nth s.sent k) (t + 1) < pbytes k ((t : Int) + 1) ps
     ·left
      have := hJ.send _ _ _ _ _ n (by omega) hcc.1 n1 n2 (hJ1 hlt).2
      rw [n4, n5, n6]; exact this
     ·right; rw [n8, e3]; omega)
    have hcs : colSum (M.send ps t (M.pickup ps ch s)).sent (t + 1) = colSum s.sent (t + 1) + n := by rw [g2, n3, e3]; omega
    refine ⟨r1, by rw [n8, e3] at r2; omega, fun hlt => ?_⟩
    have := r3 hlt
    rw [n8, hcs, e3] at this
    have ea : own + (if (nth ps (M.pickup ps ch s).cur.toNat).flow = (k : Int) then n else 0) + (nth (nth (M.inner ps ch t j (M.send ps t (M.pickup ps ch s))).sent k) (t + 1) - (nth (nth s.sent k) (t + 1) + (if (nth ps (M.pickup ps ch s).cur.toNat).flow = (k : Int) then n else 0))) = own + (nth (nth (M.inner ps ch t j (M.send ps t (M.pickup ps ch s))).sent k) (t + 1) - nth (nth s.sent k) (t + 1)) := by omega
    rw [ea] at this
    have eb : oth + (if (nth ps (M.pickup ps ch s).cur.toNat).flow = (k : Int) then 0 else n) + ((colSum (M.inner ps ch t j (M.send ps t (M.pickup ps ch s))).sent (t + 1) - (colSum s.sent (t + 1) + n)) - (nth (nth (M.inner ps ch t j (M.send ps t (M.pickup ps ch s))).sent k) (t + 1) - (nth (nth s.sent k) (t + 1) + (if (nth ps (M.pickup ps ch s).cur.toNat).flow = (k : Int) then n else 0)))) = oth + ((colSum (M.inner ps ch t j (M.send ps t (M.pickup ps ch s))).sent (t + 1) - colSum s.sent (t + 1)) - (nth (nth (M.inner ps ch t j (M.send ps t (M.pickup ps ch s))).sent k) (t + 1) - nth (nth s.sent k) (t + 1))) := by split <;> omega
    rw [eb] at this
    exact this
/-- the state at the beginning of a tick -/
def opened (cap : Int) (t : Nat) (s : RS σ) : RS σ := { s with ms := { s.ms with now := t, left := cap }, sent := s.sent.map fun l => l ++ [nth l t] }
theorem opened_row {t : Nat} {l : List Int} (h : l.length = t + 1) : nth (l ++ [nth l t]) (t + 1) = nth l t := by
 unfold nth List.getD
 rw [List.getElem?_append_right (by omega), h]; simp
theorem Wk.opened (hg : Fair ps ch good rel) {t : Nat} {cap : Int} (h : Wk ps classes good rel t s) (hnow : s.ms.now ≤ t) : Wk ps classes good rel (t + 1) (M.opened cap t s) ∧ colSum (M.opened cap t s).sent (t + 1) = colSum s.sent t := by
 have hcol : colSum (s.sent.map fun l => l ++ [nth l t]) (t + 1) = colSum s.sent t := colSum_map _ (fun l hl => opened_row (h.rlen l hl))
 refine ⟨⟨hg.free _ _ _ _ h.good, h.dlen, h.blen, by simp [M.opened, h.slen], fun l hl => ?_, h.cur, h.open_, fun i hi hb hne => ?_, fun i hi hb => ?_, h.ord, h.dord, by unfold M.opened; dsimp only; rw [hcol]; exact h.sum⟩, hcol⟩
 ·obtain ⟨l', h2, rfl⟩ := List.mem_map.1 hl
  simp [h.rlen l' h2]
 ·have := h.shut i hi hb hne
  unfold M.opened; dsimp only; omega
 ·have := h.time i hi hb
  unfold M.opened; dsimp only; omega
end
end Go.Proofs.YtejpkjapmhpmpaaDoor.M

/- Weighted round robin while a class is backlogged, plain: what the others take. No condition. -/
namespace Go.Proofs.YtejpkjapmhpmpaaDoor.M
open Go Go.Proofs.YtejpkjapmhpmpaaDoor.K

section
variable {w : List Int} {z : List Sz} {k : Nat}
/-- what the others may still take, from the beginning of class c on until class k -/
def restR (w : List Int) (z : List Sz) (k c : Nat) : Int := if c ≤ k then qSum k w z k - qSum k w z c else qSum k w z w.length - qSum k w z c + qSum k w z k
def mosts (w : List Int) (z : List Sz) (c : Nat) : Int := nth w c * (nth z c).most
theorem qSum_succ (i : Nat) : qSum k w z (i + 1) = qSum k w z i + (if i ≠ k then mosts w z i else 0) := by
 simp only [qSum, mosts]
 by_cases h : i = k
 ·rw [if_neg (by omega), if_neg (by omega)]
 ·rw [if_pos (by omega), if_pos h]
theorem restR_self : restR w z k k = 0 := by unfold restR; rw [if_pos (Nat.le_refl _)]; omega
theorem restR_next {c : Nat} (hc : c < w.length) (hk : k < w.length) (hne : c ≠ k) : restR w z k ((c + 1) % w.length) = restR w z k c - mosts w z c := by
 have hs := qSum_succ (w := w) (z := z) (k := k) c
 rw [if_pos hne] at hs
 by_cases hl : c + 1 < w.length
 ·rw [Nat.mod_eq_of_lt hl]
  unfold restR
  by_cases h : c ≤ k
  ·rw [if_pos h, if_pos (by omega), hs]; omega
  ·rw [if_neg h, if_neg (by omega), hs]; omega
 ·have e : c + 1 = w.length := by omega
  rw [e, Nat.mod_self]
  unfold restR
  rw [if_pos (Nat.zero_le _), if_neg (by omega), ← e, hs]
  have h0 : qSum k w z 0 = 0 := rfl
  omega
theorem restR_first (hk : k < w.length) : restR w z k ((k + 1) % w.length) = qSum k w z w.length := by
 have hs := qSum_succ (w := w) (z := z) (k := k) k
 rw [if_neg (by omega)] at hs
 by_cases hl : k + 1 < w.length
 ·rw [Nat.mod_eq_of_lt hl]
  unfold restR
  rw [if_neg (by omega), hs]; omega
 ·have e : k + 1 = w.length := by omega
  rw [e, Nat.mod_self]
  unfold restR
  rw [if_pos (Nat.zero_le _), ← e, hs]
  have h0 : qSum k w z 0 = 0 := rfl
  omega
/-- in class c, l packets of whose visit are to come and op bytes of the open one -/
def JR (w : List Int) (z : List Sz) (k c : Nat) (l op own oth : Int) : Prop :=
  c < w.length ∧ 0 ≤ l ∧
  if c = k then ∃ f : Nat, oth ≤ qSum k w z w.length * f ∧ nth w k * (nth z k).least * f ≤ own + op + l * (nth z k).least ∧ nth w k * (nth z k).least * ((f : Int) - 1) ≤ own
  else ∃ f : Nat, oth + op + l * (nth z c).most + (restR w z k c - mosts w z c) ≤ qSum k w z w.length * ((f : Int) + 1) ∧ nth w k * (nth z k).least * f ≤ own
theorem JR.next (hw : ∀ x ∈ w, 1 ≤ x) (hz : ∀ c, c < w.length → 0 ≤ (nth z c).least ∧ (nth z c).least ≤ (nth z c).most) (hk : k < w.length) (hn : 2 ≤ w.length) {c : Nat} {l own oth : Int} (h : JR w z k c l 0 own oth) (hl : c = k → l ≤ 0) :
  JR w z k ((c + 1) % w.length) (nth w ((c + 1) % w.length)) 0 own oth := by
 obtain ⟨h1, h2, h3⟩ := h
 have hlt : (c + 1) % w.length < w.length := Nat.mod_lt _ (by omega)
 have hwc := hw _ (nth_mem hlt)
 refine ⟨hlt, by omega, ?_⟩
 by_cases hck : c = k
 ·subst hck
  rw [if_pos rfl] at h3
  obtain ⟨f, f1, f2, f3⟩ := h3
  have hne : (c + 1) % w.length ≠ c := by
   by_cases hh : c + 1 < w.length
   ·rw [Nat.mod_eq_of_lt hh]; omega
   ·rw [show c + 1 = w.length by omega, Nat.mod_self]; omega
  rw [if_neg hne]
  refine ⟨f, ?_, ?_⟩
  ·rw [restR_first hk]
   show oth + 0 + mosts w z ((c + 1) % w.length) + (_ - mosts w z ((c + 1) % w.length)) ≤ _
   rw [Int.mul_add, Int.mul_one]; omega
  ·have : l = 0 := by have := hl rfl; omega
   rw [this] at f2
   simpa using f2
 ·rw [if_neg hck] at h3
  obtain ⟨f, f1, f2⟩ := h3
  have hr := restR_next (z := z) h1 hk hck
  have hl0 : 0 ≤ l * (nth z c).most := Int.mul_nonneg h2 (by have := hz c h1; omega)
  by_cases hnk : (c + 1) % w.length = k
  ·rw [if_pos hnk, hnk]
   rw [hnk, restR_self] at hr
   refine ⟨f + 1, ?_, ?_, ?_⟩
   ·have : ((f + 1 : Nat) : Int) = (f : Int) + 1 := by omega
    rw [this]; omega
   ·have : ((f + 1 : Nat) : Int) = (f : Int) + 1 := by omega
    rw [this, Int.mul_add, Int.mul_one]; omega
   ·have : ((f + 1 : Nat) : Int) - 1 = (f : Int) := by omega
    rw [this]; exact f2
  ·rw [if_neg hnk]
   refine ⟨f, ?_, f2⟩
   show oth + 0 + mosts w z ((c + 1) % w.length) + (_ - mosts w z ((c + 1) % w.length)) ≤ _
   omega
end
end Go.Proofs.YtejpkjapmhpmpaaDoor.M

/- Weighted round robin: the invariant of the rounds while a class is backlogged, plain. No condition. -/
namespace Go.Proofs.YtejpkjapmhpmpaaDoor.M
open Go Go.Proofs.YtejpkjapmhpmpaaDoor.K

/-- an invariant of every run: of the choice's state, the open packet and what is left of it -/
structure Vis {σ : Type} (ps : List Pkt) (ch : MS → σ → Int × Nat × σ) (good : MS → σ → Prop) (V : σ → Int → Int → Prop) : Prop where
  pick : ∀ ms sg r, good ms sg → ms.begun.length = ps.length → V sg (-1) r → 0 ≤ (ch ms sg).1 → V (ch ms sg).2.2 (ch ms sg).1 (nth ps (ch ms sg).1.toNat).size
  idle : ∀ ms sg r r', good ms sg → ms.begun.length = ps.length → V sg (-1) r → (ch ms sg).1 < 0 → V (ch ms sg).2.2 (ch ms sg).1 r'
  send : ∀ (sg : σ) (cur rest n : Int), 0 ≤ cur → cur < ps.length → 1 ≤ n → n ≤ rest → V sg cur rest → V sg (if rest - n = 0 then -1 else cur) (rest - n)
  none : ∀ sg c c' r r', c < 0 → c' < 0 → V sg c r → V sg c' r'
section
variable {σ : Type} {ps : List Pkt} {ch : MS → σ → Int × Nat × σ} {good : MS → σ → Prop} {rel : Nat → Nat → Prop} {classes k : Nat} {V : σ → Int → Int → Prop}
theorem Vis.inner (hg : Fair ps ch good rel) (hV : Vis ps ch good V) (hs : ∀ p ∈ ps, 1 ≤ p.size) (hfl : ∀ p ∈ ps, 0 ≤ p.flow ∧ p.flow < classes) {t : Nat} : ∀ (j : Nat) (s : RS σ), Wk ps classes good rel (t + 1) s → s.ms.now = t → 0 ≤ s.ms.left → V s.sg s.cur s.rest →
  V (inner ps ch t j s).sg (inner ps ch t j s).cur (inner ps ch t j s).rest
 | 0, s, hw, hn, hl, h => h
 | j + 1, s, hw, hn, hl, h => by
  simp only [M.inner]
  by_cases hl0 : s.ms.left ≤ 0
  ·rw [if_pos hl0]; exact h
  ·rw [if_neg hl0]
   have hw1 := hw.pickup hg hs
   obtain ⟨e1, e2, e3, e4⟩ := pickup_same ps ch s
   have h1 : V (M.pickup ps ch s).sg (M.pickup ps ch s).cur (M.pickup ps ch s).rest := by
    unfold M.pickup
    by_cases hcur : 0 ≤ s.cur
    ·rw [if_pos hcur]; exact h
    ·rw [if_neg hcur]
     have h0 := hV.none s.sg s.cur (-1) s.rest s.rest (by omega) (by omega) h
     by_cases hr : (ch s.ms s.sg).1 < 0
     ·simp only [hr, if_true]
      exact hV.idle _ _ _ _ hw.good hw.blen h0 hr
     ·simp only [hr, if_false]
      exact hV.pick _ _ _ hw.good hw.blen h0 (by omega)
   by_cases hcn : (M.pickup ps ch s).cur < 0
   ·rw [if_pos hcn]; exact h1
   ·rw [if_neg hcn]
    obtain ⟨c1, c2, c3⟩ := hw1.cur (by omega)
    obtain ⟨g1, g2, g3, g4, g5, g6⟩ := hw1.send hfl hg.free (by rw [e2]; exact hn) (by omega) (by rw [e1]; omega)
    refine Vis.inner hg hV hs hfl j _ g1 (by rw [g5, e2]; exact hn) g3 ?_
    have hle : (if (M.pickup ps ch s).ms.left < (M.pickup ps ch s).rest then (M.pickup ps ch s).ms.left else (M.pickup ps ch s).rest) ≤ (M.pickup ps ch s).rest := by split <;> omega
    have hge : 1 ≤ (if (M.pickup ps ch s).ms.left < (M.pickup ps ch s).rest then (M.pickup ps ch s).ms.left else (M.pickup ps ch s).rest) := by rw [e1]; split <;> omega
    exact hV.send _ _ _ _ (by omega) c1 hge hle h1
end
/-! ### round robin -/
def Jrob (ps : List Pkt) (w : List Int) (z : List Sz) (k : Nat) (sg : Nat × Int) (cur rest own oth : Int) : Prop := JR w z k sg.1 sg.2 (if 0 ≤ cur then rest else 0) own oth ∧ (0 ≤ cur → (nth ps cur.toNat).flow = sg.1)
/-- sizes of the packets of each class -/
def SzOf (ps : List Pkt) (z : List Sz) : Prop := ∀ i, i < ps.length → (nth z (nth ps i).flow.toNat).least ≤ (nth ps i).size ∧ (nth ps i).size ≤ (nth z (nth ps i).flow.toNat).most
section
variable {ps : List Pkt} {w : List Int} {z : List Sz} {k : Nat}
/-- where every run stands -/
def Vrob (ps : List Pkt) (w : List Int) (sg : Nat × Int) (cur rest : Int) : Prop := sg.1 < w.length ∧ 0 ≤ sg.2 ∧ sg.2 ≤ nth w sg.1 ∧ (0 ≤ cur → cur < ps.length ∧ (nth ps cur.toNat).flow = sg.1 ∧ sg.2 ≤ nth w sg.1 - 1 ∧ 0 ≤ rest ∧ rest ≤ (nth ps cur.toNat).size)
end
end Go.Proofs.YtejpkjapmhpmpaaDoor.M

/- Shares over one run: what the others are sent while a class is backlogged, plain. No condition. -/
namespace Go.Proofs.YtejpkjapmhpmpaaDoor.M
open Go Go.Proofs.YtejpkjapmhpmpaaDoor.K

section
variable {σ : Type} {ps : List Pkt} {ch : MS → σ → Int × Nat × σ} {good : MS → σ → Prop} {rel : Nat → Nat → Prop} {classes k : Nat}
end
end Go.Proofs.YtejpkjapmhpmpaaDoor.M

/- What a flow keeps: the least curve of a trace, plain. No condition. -/
namespace Go.Proofs.YtejpkjapmhpmpaaDoor.M
open Go Go.Proofs.YtejpkjapmhpmpaaDoor.K

theorem pbytes_congr {flow t t' : Int} : ∀ (ps : List Pkt), (∀ p ∈ ps, p.time < t ↔ p.time < t') → pbytes flow t ps = pbytes flow t' ps
 | [], _ => rfl
 | p :: ps, h => by
  have h1 := h p (by simp)
  have ih := pbytes_congr (flow := flow) ps (fun q hq => h q (by simp [hq]))
  simp only [pbytes]
  rw [ih]
  congr 1
  have e : hit flow t p ↔ hit flow t' p := by unfold hit; rw [h1]
  by_cases hh : hit flow t p
  ·rw [if_pos hh, if_pos (e.1 hh)]
  ·rw [if_neg hh, if_neg (fun h2 => hh (e.2 h2))]
def endN (ps : List Pkt) : Int := if ps.length = 0 then 0 else (nth ps (ps.length - 1)).time + 1
theorem nth_up {vs : List Int} {en : Nat} (hm : ∀ j, j < en → nth vs j ≤ nth vs (j + 1)) {a b : Nat} (hab : a ≤ b) (hb : b ≤ en) : nth vs a ≤ nth vs b := by
  induction b with
  | zero => obtain rfl : a = 0 := by omega
            exact Int.le_refl _
  | succ b ih =>
    by_cases e : a = b + 1
    · subst e; exact Int.le_refl _
    · have h1 := ih (by omega) (by omega)
      have h2 := hm b (by omega)
      omega
theorem keeps {ps : List Pkt} {flow : Int} (hsort : ps.Pairwise fun a b => a.time ≤ b.time) {en : Nat} (hen : ∀ p ∈ ps, 0 ≤ p.time ∧ p.time < en) {vs : List Int} (h0 : ∀ j, j ≤ en → 0 ≤ nth vs j) (hm : ∀ j, j < en → nth vs j ≤ nth vs (j + 1))
  (hP : ∀ i, i < ps.length → ∀ T t : Nat, (nth ps i).time = T → T ≤ t → t ≤ en → pbytes flow (t : Int) ps - pbytes flow (T : Int) ps ≤ nth vs (t - T)) {x t : Nat} (hxt : x ≤ t) : pbytes flow (t : Int) ps - pbytes flow (x : Int) ps ≤ nth vs (min (t - x) en) := by
 have hnn := h0 (min (t - x) en) (by omega)
 by_cases hex : ∃ i, i < ps.length ∧ (x : Int) ≤ (nth ps i).time ∧ (nth ps i).time < t
 ·obtain ⟨i0, i1, i2, i3⟩ := hex
  rcases findFrom_cases (fun i => decide ((x : Int) ≤ (nth ps i).time)) ps.length 0 with ⟨j, j1, j2, _, j4, j5⟩ | ⟨_, h2⟩
  ·have j4 := of_decide_eq_true j4
   have hji : j ≤ i0 := by
    apply Classical.byContradiction
    intro hn
    have := of_decide_eq_false (j5 i0 (Nat.zero_le _) (by omega))
    exact this i2
   have hle : ∀ i, j ≤ i → i < ps.length → (nth ps j).time ≤ (nth ps i).time := fun i h1 h2 => by
    by_cases e : j = i
    ·subst e; exact Int.le_refl _
    ·have := List.pairwise_iff_getElem.1 hsort j i (by omega) h2 (by omega)
     rwa [← nth_eq (show j < ps.length by omega), ← nth_eq h2] at this
   have hj := hen _ (nth_mem (xs := ps) (k := j) (by omega))
   obtain ⟨T, hT⟩ := Int.eq_ofNat_of_zero_le hj.1
   have hTi := hle i0 hji i1
   have e1 : pbytes flow (x : Int) ps = pbytes flow (T : Int) ps := by
    refine pbytes_congr ps (all_of_nth (fun i hi => ?_))
    constructor
    ·intro h; omega
    ·intro h
     apply Classical.byContradiction
     intro hn
     by_cases hij : i < j
     ·have := of_decide_eq_false (j5 i (Nat.zero_le _) hij)
      omega
     ·have := hle i (by omega) hi
      omega
   have e2 : pbytes flow (t : Int) ps = pbytes flow ((min t en : Nat) : Int) ps := by
    refine pbytes_congr ps (fun p hp => ?_)
    have := hen p hp
    omega
   have h3 := hP j (by omega) T (min t en) hT (by omega) (by omega)
   have h4 := nth_up hm (a := min t en - T) (b := min (t - x) en) (by omega) (by omega)
   omega
  ·exact absurd i2 (of_decide_eq_false (h2 i0 (Nat.zero_le _) (by omega)))
 ·have e : pbytes flow (t : Int) ps = pbytes flow (x : Int) ps := by
   refine pbytes_congr ps (all_of_nth (fun i hi => ?_))
   constructor
   ·intro h
    apply Classical.byContradiction
    intro hn
    exact hex ⟨i, hi, by omega, h⟩
   ·intro h; omega
  omega
end Go.Proofs.YtejpkjapmhpmpaaDoor.M

/- Any line that is never idle and keeps the order within a class: service and waits of a class, plain. No condition. -/
namespace Go.Proofs.YtejpkjapmhpmpaaDoor.M
open Go Go.Proofs.YtejpkjapmhpmpaaDoor.K

section
variable {σ : Type} {ps : List Pkt} {ch : MS → σ → Int × Nat × σ} {good : MS → σ → Prop} {rel : Nat → Nat → Prop} {classes col k : Nat} {s : RS σ}
end
end Go.Proofs.YtejpkjapmhpmpaaDoor.M
namespace Go.Proofs.YtejpkjapmhpmpaaDoor.M
open Go Go.Proofs.YtejpkjapmhpmpaaDoor.K
end Go.Proofs.YtejpkjapmhpmpaaDoor.M

/- Deficit round robin, plain: the choice, that it ends, and what every run keeps. No condition. -/
namespace Go.Proofs.YtejpkjapmhpmpaaDoor.M
open Go Go.Proofs.YtejpkjapmhpmpaaDoor.K

def grant (nx : Int → Int) (w : List Int) (c : Nat) (b : Bool) (d : List Int) : List Int := if 0 ≤ nx c ∧ b = false then d.set c (nth d c + nth w c) else d
def drop0 (nx : Int → Int) (c : Nat) (d : List Int) : List Int := if nx c < 0 then d.set c 0 else d
def defGo (nx sz : Int → Int) (w : List Int) : Nat → Nat → Bool → List Int → Int × (Nat × Bool × List Int)
  | 0, c, b, d => (-1, (c, b, d))
  | k + 1, c, b, d =>
    if 0 ≤ nx c ∧ sz (nx c) ≤ nth (grant nx w c b d) c then (nx c, (c, true, (grant nx w c b d).set c (nth (grant nx w c b d) c - sz (nx c))))
    else defGo nx sz w k ((c + 1) % w.length) false (drop0 nx c (grant nx w c b d))
def szOf (ps : List Pkt) (i : Int) : Int := (nth ps i.toNat).size
/-- so many steps are enough -/
def defF (n : Nat) : Nat := 1502 * n
def defCh (ps : List Pkt) (w : List Int) (ms : MS) (s : Nat × Bool × List Int) : Int × Nat × (Nat × Bool × List Int) :=
  if firstR ps ms < 0 then (-1, skipTo ms.begun ms.before, s)
  else ((defGo (nextW ps ms) (szOf ps) w (defF w.length) s.1 s.2.1 s.2.2).1, skipTo ms.begun ms.before, (defGo (nextW ps ms) (szOf ps) w (defF w.length) s.1 s.2.1 s.2.2).2)
def defRc (ps : List Pkt) (w : List Int) (st : St) (g : Nat × Bool × List Int) : Int × (Nat × Bool × List Int) :=
  if 0 ≤ firstW ps st (-1) then defGo (firstW ps st) (szOf ps) w (defF w.length) g.1 g.2.1 g.2.2 else (-1, g)
/-- the deficits' bounds -/
def DOk (n c : Nat) (b : Bool) (d : List Int) : Prop := c < n ∧ d.length = n ∧ ∀ i, i < n → 0 ≤ nth d i ∧ nth d i ≤ (if i = c ∧ b = true then 7499 else 1499)
def dist (n j c : Nat) : Nat := if c ≤ j then j - c else j + n - c
/-- how far a waiting class is -/
def far (n j c : Nat) (b : Bool) (d : List Int) : Nat := n * (1500 - nth d j).toNat + (if c = j ∧ b = true then n else dist n j c)
def DSoon (nx : Int → Int) (n k c : Nat) (b : Bool) (d : List Int) : Prop := ∃ j, j < n ∧ 0 ≤ nx (j : Int) ∧ far n j c b d < k
section
variable {nx sz : Int → Int} {w : List Int}
theorem grant_len (c : Nat) (b : Bool) (d : List Int) : (grant nx w c b d).length = d.length := by unfold grant; split <;> simp
theorem drop0_len (c : Nat) (d : List Int) : (drop0 nx c d).length = d.length := by unfold drop0; split <;> simp
theorem grant_ne {c i : Nat} {b : Bool} {d : List Int} (h : i ≠ c) : nth (grant nx w c b d) i = nth d i := by
 unfold grant; split
 ·rw [nth_set_ne (Ne.symm h)]
 ·rfl
theorem grant_self {c : Nat} {b : Bool} {d : List Int} (h : c < d.length) : nth (grant nx w c b d) c = (if 0 ≤ nx c ∧ b = false then nth d c + nth w c else nth d c) := by
 unfold grant; split
 ·rw [nth_set_self h]
 ·rfl
theorem drop0_ne {c i : Nat} {d : List Int} (h : i ≠ c) : nth (drop0 nx c d) i = nth d i := by
 unfold drop0; split
 ·rw [nth_set_ne (Ne.symm h)]
 ·rfl
theorem drop0_self {c : Nat} {d : List Int} (h : c < d.length) : nth (drop0 nx c d) c = (if nx c < 0 then 0 else nth d c) := by
 unfold drop0; split
 ·rw [nth_set_self h]
 ·rfl
theorem mod_succ {n c : Nat} (hc : c < n) : (c + 1) % n = if c + 1 < n then c + 1 else 0 := by
 split
 ·rename_i h; exact Nat.mod_eq_of_lt h
 ·rw [show c + 1 = n by omega, Nat.mod_self]
/-- what is granted stays within its bounds -/
theorem DOk.grant (hw : ∀ x ∈ w, 1 ≤ x ∧ x ≤ 6000) {c : Nat} {b : Bool} {d : List Int} (h : DOk w.length c b d) : ∀ i, i < w.length → 0 ≤ nth (grant nx w c b d) i ∧ nth (M.grant nx w c b d) i ≤ (if i = c then 7499 else 1499) := by
 obtain ⟨h1, h2, h3⟩ := h
 intro i hi
 have a := h3 i hi
 by_cases e : i = c
 ·subst e
  rw [grant_self (by omega), if_pos rfl]
  have := hw _ (nth_mem hi)
  split
  ·rename_i hh
   rw [if_neg (by rw [hh.2]; simp)] at a
   omega
  ·split at a <;> omega
 ·rw [grant_ne e, if_neg e]
  rw [if_neg (fun hh => e hh.1)] at a
  exact a
theorem DOk.next (hw : ∀ x ∈ w, 1 ≤ x ∧ x ≤ 6000) {c : Nat} (hsz : 0 ≤ nx c → sz (nx c) ≤ 1500) {b : Bool} {d : List Int} (h : DOk w.length c b d) (hno : ¬ (0 ≤ nx c ∧ sz (nx c) ≤ nth (M.grant nx w c b d) c)) :
  DOk w.length ((c + 1) % w.length) false (drop0 nx c (M.grant nx w c b d)) := by
 have hg := h.grant (nx := nx) hw
 obtain ⟨h1, h2, h3⟩ := h
 refine ⟨Nat.mod_lt _ (by omega), by rw [drop0_len, grant_len]; exact h2, fun i hi => ?_⟩
 rw [if_neg (by simp)]
 have a := hg i hi
 by_cases e : i = c
 ·subst e
  rw [drop0_self (by rw [grant_len]; omega)]
  split
  ·omega
  ·rename_i h0
   have : ¬ sz (nx i) ≤ nth (M.grant nx w i b d) i := fun hh => hno ⟨by omega, hh⟩
   have := hsz (by omega)
   omega
 ·rw [drop0_ne e]
  rw [if_neg e] at a; exact a
theorem DOk.pick (hw : ∀ x ∈ w, 1 ≤ x ∧ x ≤ 6000) {c : Nat} (hsz : 1 ≤ sz (nx c)) {b : Bool} {d : List Int} (h : DOk w.length c b d) (hy : sz (nx c) ≤ nth (M.grant nx w c b d) c) :
  DOk w.length c true ((M.grant nx w c b d).set c (nth (M.grant nx w c b d) c - sz (nx c))) := by
 have hg := h.grant (nx := nx) hw
 obtain ⟨h1, h2, h3⟩ := h
 refine ⟨h1, by rw [List.length_set, grant_len]; exact h2, fun i hi => ?_⟩
 have a := hg i hi
 by_cases e : i = c
 ·subst e
  rw [nth_set_self (by rw [grant_len]; omega), if_pos ⟨rfl, rfl⟩]
  rw [if_pos rfl] at a
  omega
 ·rw [nth_set_ne (Ne.symm e), if_neg (fun hh => e hh.1)]
  rw [if_neg e] at a; exact a
theorem DSoon.step (hw : ∀ x ∈ w, 1 ≤ x ∧ x ≤ 6000) {k c : Nat} (hsz : 0 ≤ nx c → sz (nx c) ≤ 1500) {b : Bool} {d : List Int} (hd : DOk w.length c b d) (h : DSoon nx w.length (k + 1) c b d) (hno : ¬ (0 ≤ nx c ∧ sz (nx c) ≤ nth (M.grant nx w c b d) c)) :
  DSoon nx w.length k ((c + 1) % w.length) false (drop0 nx c (M.grant nx w c b d)) := by
 obtain ⟨h1, h2, h3⟩ := hd
 obtain ⟨j, j1, j2, j3⟩ := h
 refine ⟨j, j1, j2, ?_⟩
 have hlen : c < (M.grant nx w c b d).length := by rw [grant_len]; omega
 unfold far at j3 ⊢
 rw [if_neg (by simp)]
 by_cases e : c = j
 ·subst e
  have hno : ¬ sz (nx c) ≤ nth (M.grant nx w c b d) c := fun hh => hno ⟨j2, hh⟩
  have := hsz j2
  have hdist : dist w.length c ((c + 1) % w.length) ≤ w.length - 1 := by
   rw [mod_succ h1]; unfold dist; split <;> split <;> omega
  rw [drop0_self hlen, if_neg (by omega)]
  rw [grant_self (by omega)] at hno ⊢
  cases b with
  | true =>
   rw [if_neg (by simp)] at hno ⊢
   rw [if_pos ⟨rfl, rfl⟩] at j3
   omega
  | false =>
   rw [if_pos ⟨j2, rfl⟩] at hno ⊢
   rw [if_neg (by simp)] at j3
   have hwj := hw _ (nth_mem h1)
   have hdj := h3 c h1
   obtain ⟨r, hr⟩ : ∃ r, (1500 - nth d c).toNat = r + 1 := ⟨(1500 - nth d c).toNat - 1, by omega⟩
   have hle : (1500 - (nth d c + nth w c)).toNat ≤ r := by omega
   have hm := Nat.mul_le_mul_left w.length hle
   rw [hr, Nat.mul_add, Nat.mul_one] at j3
   omega
 ·rw [if_neg (fun hh => e hh.1)] at j3
  rw [drop0_ne (Ne.symm e), grant_ne (Ne.symm e)]
  have hdist : dist w.length j ((c + 1) % w.length) + 1 ≤ dist w.length j c := by
   rw [mod_succ h1]; unfold dist; split <;> split <;> split <;> omega
  omega
end
def goodDf (ps : List Pkt) (n : Nat) (ms : MS) (s : Nat × Bool × List Int) : Prop := goodB ps ms ∧ DOk n s.1 s.2.1 s.2.2
section
variable {ps : List Pkt} {w : List Int} {ms : MS} {s : Nat × Bool × List Int}
def def0 (n : Nat) : Nat × Bool × List Int := (0, false, List.replicate n 0)
end
end Go.Proofs.YtejpkjapmhpmpaaDoor.M

/- The curve of deficit round robin, plain: it repeats itself from some tick on, so that the program's and the references' forms are one. No condition. -/
namespace Go.Proofs.YtejpkjapmhpmpaaDoor.M
open Go Go.Proofs.YtejpkjapmhpmpaaDoor.K

/-- the quanta of the other classes that have packets, and what they may have saved -/
def xSum (k : Int) (w : List Int) (z : List Sz) : Nat → Int
  | 0 => 0
  | n + 1 => xSum k w z n + (if (n : Int) ≠ k ∧ 1 ≤ (nth z n).most then nth w n else 0)
def zSum (k : Int) (z : List Sz) : Nat → Int
  | 0 => 0
  | n + 1 => zSum k z n + (if (n : Int) ≠ k ∧ 1 ≤ (nth z n).most then (nth z n).most - 1 else 0)
def defOthers (k : Int) (w : List Int) (z : List Sz) (own : Int) : Int :=
  if chkW 6000 1 k w z ≠ 0 ∨ (nth z k.toNat).most < 1 ∨ own < 0 ∨ MAXV < own then 0
  else ((own + (nth z k.toNat).most - 1) / nth w k.toNat + 1) * xSum k w z w.length + zSum k z w.length
def allD (s q l z y : Int) : Int := y + (s - q) * ((y + l - 1) / q + 1) + z
def defH (cap s q l z : Int) (t y : Nat) : Bool := decide (allD s q l z (y : Int) ≥ cap * t)
def defFn (cap s q l z : Int) (t : Nat) : Int := leastY (defH cap s q l z t) (cap * t).toNat
def startD (cap s q l z : Int) : Int := if 2 ≤ l then (allD s q l z (-1)).tdiv cap + 1 else if 1 ≤ z then (z - 1) / cap + 1 else 0
def fromD (cap s q l z : Int) : Int := ((s - q) * ((l - 1) / q + 1) + z) / cap + 1
def defC (cap k : Int) (w : List Int) (z : List Sz) : Cv × Int :=
  if chkW 6000 cap k w z ≠ 0 then (zcv, chkW 6000 cap k w z) else if (nth z k.toNat).most < 1 then (zcv, 5) else
    let q := nth w k.toNat
    let l := (nth z k.toNat).most
    let s := shortN (q + xSum k w z w.length).toNat cap.toNat
    let zz := zSum k z w.length
    if s = -1 then (zcv, 3) else
      let p := s.toNat / Nat.gcd s.toNat cap.toNat
      if 400 < fromD cap s q l zz then (zcv, 3)
      else madeR ⟨fvals (defFn cap s q l zz) ((fromD cap s q l zz).toNat + p), p, cap * p / s * q⟩
section
variable {cap s q l z : Int}
end
/-- all of it, for the walks -/
structure DefOk (cap k : Int) (w : List Int) (z : List Sz) (cn kn m s p mm : Nat) (q l x y : Int) : Prop where
  hs : shortN m cn = s
  s1 : q ≤ s ∧ s ≤ 120 * cn
  sx : q + x ≤ s
  hp : p = s / Nat.gcd s cn
  p1 : 1 ≤ p ∧ p ≤ 120
  hmm : (cn : Int) * p = mm * s
  mm1 : mm ≤ 4000
  hinc : (cn : Int) * p / s * q = mm * q
end Go.Proofs.YtejpkjapmhpmpaaDoor.M

/- Deficit round robin while a class is backlogged, plain: what the others take. No condition. -/
namespace Go.Proofs.YtejpkjapmhpmpaaDoor.M
open Go Go.Proofs.YtejpkjapmhpmpaaDoor.K

def sumF (f : Nat → Int) : Nat → Int
  | 0 => 0
  | n + 1 => sumF f n + f n
theorem sumF_congr {f g : Nat → Int} : ∀ {n : Nat}, (∀ i, i < n → f i = g i) → sumF f n = sumF g n
 | 0, _ => rfl
 | n + 1, h => by simp only [sumF]; rw [sumF_congr (fun i hi => h i (by omega)), h n (by omega)]
theorem sumF_le {f g : Nat → Int} : ∀ {n : Nat}, (∀ i, i < n → f i ≤ g i) → sumF f n ≤ sumF g n
 | 0, _ => Int.le_refl _
 | n + 1, h => by have a := sumF_le (fun i hi => h i (by omega) : ∀ i, i < n → f i ≤ g i); have b := h n (by omega); simp only [sumF]; omega
theorem sumF_change {f g : Nat → Int} {c : Nat} : ∀ {n : Nat}, c < n → (∀ i, i < n → i ≠ c → g i = f i) → sumF g n = sumF f n + (g c - f c)
 | 0, h, _ => by omega
 | n + 1, hc, h => by
  simp only [sumF]
  by_cases e : c = n
  ·subst e
   rw [sumF_congr (fun i hi => h i (by omega) (by omega) : ∀ i, i < c → g i = f i)]; omega
  ·rw [sumF_change (by omega) (fun i hi hne => h i (by omega) hne : ∀ i, i < n → i ≠ c → g i = f i), h n (by omega) (by omega)]; omega
theorem sumF_add {f g : Nat → Int} : ∀ {n : Nat}, sumF (fun i => f i + g i) n = sumF f n + sumF g n
 | 0 => rfl
 | n + 1 => by simp only [sumF]; rw [sumF_add]; omega
def xF (k : Nat) (w : List Int) (z : List Sz) (i : Nat) : Int := if i ≠ k ∧ 1 ≤ (nth z i).most then nth w i else 0
def zF (k : Nat) (z : List Sz) (i : Nat) : Int := if i ≠ k ∧ 1 ≤ (nth z i).most then (nth z i).most - 1 else 0
theorem xSum_eq {k : Nat} {w : List Int} {z : List Sz} : ∀ n : Nat, xSum k w z n = sumF (xF k w z) n
 | 0 => rfl
 | n + 1 => by
  simp only [xSum, sumF, xSum_eq n]
  congr 1
  unfold xF
  by_cases h : n ≠ k ∧ 1 ≤ (nth z n).most
  ·rw [if_pos h, if_pos ⟨by omega, h.2⟩]
  ·rw [if_neg h, if_neg (fun hh => h ⟨by omega, hh.2⟩)]
/-- the quantum of class i is still to be given before class k's next one -/
def pend (k c : Nat) (b : Bool) (i : Nat) : Bool := if c = k then b else (decide (i ≠ c) || !b) && (if c ≤ k then decide (c ≤ i ∧ i < k) else decide (c ≤ i ∨ i < k))
theorem pend_iff {k c i : Nat} {b : Bool} : pend k c b i = true ↔ (c = k ∧ b = true) ∨ (c ≠ k ∧ (i ≠ c ∨ b = false) ∧ ((c ≤ k ∧ c ≤ i ∧ i < k) ∨ (¬ c ≤ k ∧ (c ≤ i ∨ i < k)))) := by
 unfold pend
 by_cases h1 : c = k
 ·rw [if_pos h1]; simp [h1]
 ·rw [if_neg h1]
  by_cases h2 : c ≤ k
  ·rw [if_pos h2]; cases b <;> simp [h1, h2]
  ·rw [if_neg h2]; cases b <;> simp [h1, h2]
theorem pend_next {k c n i : Nat} (hc : c < n) (hk : k < n) (hn : 2 ≤ n) (hi : i < n) (hik : i ≠ k) : pend k ((c + 1) % n) false i = pend k c true i := by
 rw [mod_succ hc, Bool.eq_iff_iff, pend_iff, pend_iff]
 have e1 : (false = true) = False := by simp
 have e2 : (true = false) = False := by simp
 by_cases hl : c + 1 < n
 ·rw [if_pos hl, e1, e2]
  simp only [and_false, or_false, and_true, or_true, true_and, false_or]
  omega
 ·rw [if_neg hl, e1, e2]
  simp only [and_false, or_false, and_true, or_true, true_and, false_or]
  omega
theorem pend_self {k c : Nat} (h : c ≠ k) : pend k c true c = false := by unfold pend; rw [if_neg h]; simp
theorem pend_self' {k c : Nat} (h : c ≠ k) : pend k c false c = true := by unfold pend; rw [if_neg h]; split <;> simp <;> omega
theorem pend_other {k c i : Nat} {b : Bool} (h : c ≠ k) (hi : i ≠ c) : pend k c b i = pend k c true i := by unfold pend; rw [if_neg h, if_neg h]; simp [hi]
theorem pend_k {k i : Nat} {b : Bool} : pend k k b i = b := by unfold pend; rw [if_pos rfl]
/-- deficits saved, and quanta to come -/
def potF (w : List Int) (z : List Sz) (k c : Nat) (b : Bool) (d : List Int) (i : Nat) : Int := if i ≠ k ∧ 1 ≤ (nth z i).most then nth d i + (if pend k c b i = true then nth w i else 0) else 0
/-- the deficits: what is saved is less than a packet, but of the class that is visited -/
def DD (n : Nat) (z : List Sz) (c : Nat) (b : Bool) (d : List Int) : Prop := c < n ∧ d.length = n ∧ ∀ i, i < n → 0 ≤ nth d i ∧ (¬ (i = c ∧ b = true) → 1 ≤ (nth z i).most → nth d i ≤ (nth z i).most - 1)
def JD (w : List Int) (z : List Sz) (k c : Nat) (b : Bool) (d : List Int) (op own oth : Int) : Prop :=
  DD w.length z c b d ∧ ∃ v : Nat, oth + (if c = k then 0 else op) + sumF (potF w z k c b d) w.length ≤ ((v : Int) + 1) * xSum k w z w.length + zSum k z w.length ∧
    (v : Int) * nth w k ≤ own + (if c = k then op else 0) + nth d k ∧ (c = k → b = true → ((v : Int) - 1) * nth w k - ((nth z k).most - 1) ≤ own)
section
variable {nx sz : Int → Int} {w : List Int} {z : List Sz} {k : Nat}
theorem DD.grant (hw : ∀ x ∈ w, 1 ≤ x) {c : Nat} {b : Bool} {d : List Int} (h : DD w.length z c b d) (h0 : 0 ≤ nx c) : DD w.length z c true (M.grant nx w c b d) := by
 obtain ⟨h1, h2, h3⟩ := h
 refine ⟨h1, by rw [grant_len]; exact h2, fun i hi => ?_⟩
 have a := h3 i hi
 by_cases e : i = c
 ·subst e
  refine ⟨?_, fun hn => absurd ⟨rfl, rfl⟩ hn⟩
  rw [grant_self (by omega)]
  have := hw _ (nth_mem hi)
  split <;> omega
 ·rw [grant_ne e]
  exact ⟨a.1, fun _ hm => a.2 (fun hh => e hh.1) hm⟩
theorem DD.pick {c : Nat} {d : List Int} (h : DD w.length z c true d) {s : Int} (hs : s ≤ nth d c) : DD w.length z c true (d.set c (nth d c - s)) := by
 obtain ⟨h1, h2, h3⟩ := h
 refine ⟨h1, by rw [List.length_set]; exact h2, fun i hi => ?_⟩
 have a := h3 i hi
 by_cases e : i = c
 ·subst e
  rw [nth_set_self (by omega)]
  exact ⟨by omega, fun hn => absurd ⟨rfl, rfl⟩ hn⟩
 ·rw [nth_set_ne (Ne.symm e)]
  exact ⟨a.1, fun _ hm => a.2 (fun hh => e hh.1) hm⟩
theorem DD.next {c : Nat} {b : Bool} {d : List Int} (h : DD w.length z c b d) (hlt : 1 ≤ (nth z c).most → nth d c ≤ (nth z c).most - 1) : DD w.length z ((c + 1) % w.length) false d := by
 obtain ⟨h1, h2, h3⟩ := h
 refine ⟨Nat.mod_lt _ (by omega), h2, fun i hi => ?_⟩
 have a := h3 i hi
 refine ⟨a.1, fun _ hm => ?_⟩
 by_cases e : i = c
 ·subst e; exact hlt hm
 ·exact a.2 (fun hh => e hh.1) hm
theorem JD.grant (hw : ∀ x ∈ w, 1 ≤ x) (hk : k < w.length) (hL : 1 ≤ (nth z k).most) {c : Nat} {b : Bool} {d : List Int} {own oth : Int} (h : JD w z k c b d 0 own oth) (h0 : 0 ≤ nx c) : JD w z k c true (M.grant nx w c b d) 0 own oth := by
 obtain ⟨hd, v, a1, a2, a3⟩ := h
 refine ⟨hd.grant hw h0, ?_⟩
 have hcl : c < d.length := by rw [hd.2.1]; exact hd.1
 cases b with
 | true =>
  have e : M.grant nx w c true d = d := by unfold M.grant; rw [if_neg (by simp)]
  rw [e]; exact ⟨v, a1, a2, a3⟩
 | false =>
  have eg : nth (M.grant nx w c false d) c = nth d c + nth w c := by rw [grant_self hcl, if_pos ⟨h0, rfl⟩]
  by_cases hck : c = k
  ·subst hck
   rw [if_pos rfl] at a1 a2
   refine ⟨v + 1, ?_, ?_, fun _ _ => ?_⟩
   ·rw [if_pos rfl]
    have e : sumF (potF w z c c true (M.grant nx w c false d)) w.length = sumF (potF w z c c false d) w.length + xSum c w z w.length := by
     rw [xSum_eq, ← sumF_add]
     refine sumF_congr (fun i hi => ?_)
     unfold potF xF
     by_cases hh : i ≠ c ∧ 1 ≤ (nth z i).most
     ·rw [if_pos hh, if_pos hh, if_pos hh, grant_ne hh.1, pend_k, pend_k, if_pos rfl, if_neg (by simp)]; omega
     ·rw [if_neg hh, if_neg hh, if_neg hh]; omega
    rw [e]
    have e2 : (((v + 1 : Nat) : Int) + 1) * xSum c w z w.length = ((v : Int) + 1) * xSum c w z w.length + xSum c w z w.length := by rw [show (((v + 1 : Nat) : Int) + 1) = ((v : Int) + 1) + 1 by omega, Int.add_mul, Int.one_mul]
    rw [e2]; omega
   ·rw [if_pos rfl, eg]
    have e2 : (((v + 1 : Nat) : Int)) * nth w c = (v : Int) * nth w c + nth w c := by rw [show ((v + 1 : Nat) : Int) = (v : Int) + 1 by omega, Int.add_mul, Int.one_mul]
    rw [e2]; omega
   ·have hdk := (hd.2.2 c hk).2 (by simp) hL
    rw [show (((v + 1 : Nat) : Int) - 1) = (v : Int) by omega]
    omega
  ·rw [if_neg hck] at a1 a2
   refine ⟨v, ?_, ?_, fun h => absurd h hck⟩
   ·rw [if_neg hck]
    have e : sumF (potF w z k c true (M.grant nx w c false d)) w.length = sumF (potF w z k c false d) w.length := by
     refine sumF_congr (fun i hi => ?_)
     unfold potF
     by_cases hh : i ≠ k ∧ 1 ≤ (nth z i).most
     ·rw [if_pos hh, if_pos hh]
      by_cases e : i = c
      ·subst e
       rw [eg, pend_self hck, pend_self' hck, if_neg (by simp), if_pos rfl]; omega
      ·rw [grant_ne e, pend_other (b := false) hck e]
     ·rw [if_neg hh, if_neg hh]
    rw [e]; exact a1
   ·rw [if_neg hck, grant_ne (Ne.symm hck)]; exact a2
theorem JD.pick {c : Nat} {d : List Int} {own oth : Int} (h : JD w z k c true d 0 own oth) {s : Int} (hs : s ≤ nth d c) (hm : 1 ≤ (nth z c).most) : JD w z k c true (d.set c (nth d c - s)) s own oth := by
 obtain ⟨hd, v, a1, a2, a3⟩ := h
 have hcl : c < d.length := by rw [hd.2.1]; exact hd.1
 refine ⟨hd.pick hs, v, ?_, ?_, a3⟩
 ·by_cases hck : c = k
  ·subst hck
   rw [if_pos rfl] at a1 ⊢
   have e : sumF (potF w z c c true (d.set c (nth d c - s))) w.length = sumF (potF w z c c true d) w.length := by
    refine sumF_congr (fun i hi => ?_)
    unfold potF
    by_cases hh : i ≠ c ∧ 1 ≤ (nth z i).most
    ·rw [if_pos hh, if_pos hh, nth_set_ne (Ne.symm hh.1)]
    ·rw [if_neg hh, if_neg hh]
   rw [e]; exact a1
  ·rw [if_neg hck] at a1 ⊢
   have e : sumF (potF w z k c true (d.set c (nth d c - s))) w.length = sumF (potF w z k c true d) w.length + (potF w z k c true (d.set c (nth d c - s)) c - potF w z k c true d c) := by
    refine sumF_change hd.1 (fun i hi hne => ?_)
    unfold potF
    rw [nth_set_ne (Ne.symm hne)]
   have e2 : potF w z k c true (d.set c (nth d c - s)) c - potF w z k c true d c = - s := by
    unfold potF
    have hcm : c ≠ k ∧ 1 ≤ (nth z c).most := ⟨hck, hm⟩
    rw [if_pos hcm, if_pos hcm, nth_set_self hcl]; omega
   rw [e, e2]; omega
 ·by_cases hck : c = k
  ·subst hck
   rw [if_pos rfl] at a2 ⊢
   rw [nth_set_self hcl]; omega
  ·rw [if_neg hck] at a2 ⊢
   rw [nth_set_ne hck]; exact a2
theorem JD.next (hw : ∀ x ∈ w, 1 ≤ x) (hk : k < w.length) (hn : 2 ≤ w.length) {c : Nat} {d : List Int} {own oth : Int} (h : JD w z k c true d 0 own oth) (hlt : 1 ≤ (nth z c).most → nth d c ≤ (nth z c).most - 1) : JD w z k ((c + 1) % w.length) false d 0 own oth := by
 obtain ⟨hd, v, a1, a2, a3⟩ := h
 refine ⟨hd.next hlt, v, ?_, ?_, fun _ h => by cases h⟩
 ·have e : sumF (potF w z k ((c + 1) % w.length) false d) w.length = sumF (potF w z k c true d) w.length := by
   refine sumF_congr (fun i hi => ?_)
   unfold potF
   by_cases hh : i ≠ k ∧ 1 ≤ (nth z i).most
   ·rw [if_pos hh, if_pos hh, pend_next hd.1 hk hn hi hh.1]
   ·rw [if_neg hh, if_neg hh]
  rw [e]
  split <;> split at a1 <;> omega
 ·split <;> split at a2 <;> omega
/-- a class without a waiting packet loses its deficit -/
theorem JD.skip (hw : ∀ x ∈ w, 1 ≤ x) (hk : k < w.length) (hn : 2 ≤ w.length) {c : Nat} {b : Bool} {d : List Int} {own oth : Int} (h : JD w z k c b d 0 own oth) (hck : c ≠ k) : JD w z k ((c + 1) % w.length) false (d.set c 0) 0 own oth := by
 obtain ⟨hd, v, a1, a2, a3⟩ := h
 have hcl : c < d.length := by rw [hd.2.1]; exact hd.1
 have hd2 : DD w.length z c b (d.set c 0) := by
  refine ⟨hd.1, by rw [List.length_set]; exact hd.2.1, fun i hi => ?_⟩
  by_cases e : i = c
  ·subst e
   rw [nth_set_self hcl]
   exact ⟨Int.le_refl _, fun _ hm => by omega⟩
  ·rw [nth_set_ne (Ne.symm e)]; exact hd.2.2 i hi
 refine ⟨hd2.next (fun hm => by rw [nth_set_self hcl]; omega), v, ?_, ?_, fun _ h => by cases h⟩
 ·have e : sumF (potF w z k ((c + 1) % w.length) false (d.set c 0)) w.length ≤ sumF (potF w z k c b d) w.length := by
   refine sumF_le (fun i hi => ?_)
   unfold potF
   by_cases hh : i ≠ k ∧ 1 ≤ (nth z i).most
   ·rw [if_pos hh, if_pos hh, pend_next hd.1 hk hn hi hh.1]
    by_cases e : i = c
    ·subst e
     rw [nth_set_self hcl, pend_self hck, if_neg (by simp)]
     have := (hd.2.2 i hi).1
     have := hw _ (nth_mem hi)
     split <;> omega
    ·rw [nth_set_ne (Ne.symm e), pend_other (b := b) hck e]; exact Int.le_refl _
   ·rw [if_neg hh, if_neg hh]; exact Int.le_refl _
  rw [if_neg hck] at a1
  split <;> omega
 ·rw [nth_set_ne hck]
  rw [if_neg hck] at a2
  split <;> omega
end
def Jdef (ps : List Pkt) (w : List Int) (z : List Sz) (k : Nat) (sg : Nat × Bool × List Int) (cur rest own oth : Int) : Prop := JD w z k sg.1 sg.2.1 sg.2.2 (if 0 ≤ cur then rest else 0) own oth ∧ (0 ≤ cur → (nth ps cur.toNat).flow = sg.1 ∧ sg.2.1 = true)
section
variable {ps : List Pkt} {w : List Int} {z : List Sz} {k : Nat}
/-- where every run stands -/
def V0 (w : List Int) (z : List Sz) (c : Nat) (b : Bool) (d : List Int) (op : Int) : Prop := DD w.length z c b d ∧ (b = true → 1 ≤ (nth z c).most → nth d c + op ≤ (nth z c).most - 1 + nth w c)
def Vdef (ps : List Pkt) (w : List Int) (z : List Sz) (sg : Nat × Bool × List Int) (cur rest : Int) : Prop := V0 w z sg.1 sg.2.1 sg.2.2 (if 0 ≤ cur then rest else 0) ∧ (0 ≤ cur → cur < ps.length ∧ (nth ps cur.toNat).flow = sg.1 ∧ sg.2.1 = true ∧ 0 ≤ rest ∧ 1 ≤ (nth z sg.1).most)
theorem V0.grant (hw : ∀ x ∈ w, 1 ≤ x) {nx : Int → Int} {c : Nat} {b : Bool} {d : List Int} (h : V0 w z c b d 0) (h0 : 0 ≤ nx c) : V0 w z c true (M.grant nx w c b d) 0 := by
 obtain ⟨hd, h1⟩ := h
 have hcl : c < d.length := by rw [hd.2.1]; exact hd.1
 refine ⟨hd.grant hw h0, fun _ hm => ?_⟩
 rw [grant_self hcl]
 cases b with
 | true => rw [if_neg (by simp)]; exact h1 rfl hm
 | false =>
  rw [if_pos ⟨h0, rfl⟩]
  have := (hd.2.2 c hd.1).2 (by simp) hm
  omega
end
end Go.Proofs.YtejpkjapmhpmpaaDoor.M

/- Weighted and deficit round robin: the curve of a class is what it is served while it is backlogged, plain. No condition. -/
namespace Go.Proofs.YtejpkjapmhpmpaaDoor.M
open Go Go.Proofs.YtejpkjapmhpmpaaDoor.K

/-- what a law over a scheduler wants of a class's curve: its form, and that it is less than what is sent where the others take at most O -/
def CurveFor (x : Cv × Int) (cap : Int) (O : Int → Int) (G : Nat → Int) (s p : Nat) (q : Int) : Prop :=
  x = (⟨fvals G (s + p), p, q⟩, 0) ∧ FC G s p q ∧ G 0 = 0 ∧ ∀ (t : Nat) (own : Int), 0 ≤ own → cap * (t : Int) ≤ own + O own → G t ≤ own
section
variable {σ : Type} {ps : List Pkt} {ch : MS → σ → Int × Nat × σ} {good : MS → σ → Prop} {classes k : Nat}
end
end Go.Proofs.YtejpkjapmhpmpaaDoor.M

/- Time slots, plain: what every run of such a line keeps. No condition. -/
namespace Go.Proofs.YtejpkjapmhpmpaaDoor.M
open Go Go.Proofs.YtejpkjapmhpmpaaDoor.K

/-- the rest of a packet has room in the ticks in a row from t on -/
def Fits (tb : List Int) (cap : Int) (t : Nat) (left rest : Int) : Prop := (∀ i, slotT tb i = slotT tb t) ∨ ∃ n : Nat, (∀ j, j ≤ n → slotT tb (t + j) = slotT tb t) ∧ rest ≤ left + cap * n
theorem Fits.next {tb : List Int} {cap : Int} {t : Nat} {rest : Int} (h : Fits tb cap t 0 rest) (hr : 1 ≤ rest) : slotT tb (t + 1) = slotT tb t ∧ Fits tb cap (t + 1) cap rest := by
 rcases h with h | ⟨n, h1, h2⟩
 ·exact ⟨h _, .inl (fun i => by rw [h i, h (t + 1)])⟩
 ·cases n with
  | zero => simp at h2; omega
  | succ n =>
   have e := h1 1 (by omega)
   refine ⟨e, .inr ⟨n, fun j hj => ?_, ?_⟩⟩
   ·rw [show t + 1 + j = t + (j + 1) by omega, h1 (j + 1) (by omega), e]
   ·rw [Int.natCast_add, Int.mul_add] at h2
    simp at h2; omega
structure SlotPost (ps : List Pkt) (cap : Int) (tb : List Int) (classes t : Nat) (s s' : RS Unit) : Prop where
  open_ : 0 ≤ s'.cur → (nth ps s'.cur.toNat).flow = slotT tb t ∧ Fits tb cap t s'.ms.left s'.rest
  left0 : 0 ≤ s'.cur → s'.ms.left = 0
  other : ∀ c : Nat, (c : Int) ≠ slotT tb t → c < classes → nth (nth s'.sent c) (t + 1) = nth (nth s.sent c) (t + 1)
  mine : ∀ c : Nat, (c : Int) = slotT tb t → c < classes → nth (nth s'.sent c) (t + 1) + s'.ms.left = nth (nth s.sent c) (t + 1) + s.ms.left
  done : ∀ i, i < ps.length → nth s'.done i = nth s.done i ∨ (nth s'.done i = t ∧ (nth ps i).flow = slotT tb t)
  beg : ∀ i, (nth ps i).flow ≠ slotT tb t → nth s'.ms.begun i = nth s.ms.begun i
  lft : 0 ≤ s'.ms.left ∧ s'.ms.left ≤ s.ms.left
  idle : 0 < s'.ms.left → s'.cur < 0 ∧ (slotT tb t < 0 ∨ nextW ps s'.ms (slotT tb t) < 0 ∨ ∃ n : Nat, aheadN tb (slotT tb t) t = n + 1 ∧ (nth ps (nextW ps s'.ms (slotT tb t)).toNat).size > s'.ms.left + cap * n)
section
variable {ps : List Pkt} {cap : Int} {tb : List Int} {classes : Nat}
end
end Go.Proofs.YtejpkjapmhpmpaaDoor.M
