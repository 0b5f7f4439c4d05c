/- Rules and walks, joined from 34 texts: the first of them says: Curves, plain: normal forms of functions that repeat. No condition. -/
import Derived.Test.YtaoakchgjgmedaaGreatG1
import Derived.Deep.Strs
import Derived.Lib.SmallJoins
import Derived.Test.YtaoakchgjgmedaaGreatChecked
import Derived.WalkSpells
import Derived.Laws.StructEq
import Derived.Laws.Concat
import Derived.Laws.Bits64
import Derived.WideLaws
import Derived.ChangeKeysEq
namespace Go.Proofs.YtaoakchgjgmedaaGreat.M
open Go Go.Proofs.YtaoakchgjgmedaaGreat.K
def INF : Int := 4611686018427387904
def MAXV : Int := 1073741824
def fvals (F : Nat → Int) (n : Nat) : List Int := (List.range n).map F
theorem fvals_len (F : Nat → Int) (n : Nat) : (fvals F n).length = n := by simp [fvals]
theorem fvals_nth (F : Nat → Int) {n i : Nat} (h : i < n) : nth (fvals F n) i = F i := range_map_nth F h
theorem fvals_snoc (F : Nat → Int) (n : Nat) : fvals F (n + 1) = fvals F n ++ [F n] := range_map_snoc F n
theorem fvals_take (F : Nat → Int) {n k : Nat} (h : k ≤ n) : (fvals F n).take k = fvals F k := by
 refine nth_ext (by simp [fvals]; omega) (fun i hi => ?_)
 have hi' : i < k := by simp [fvals] at hi; omega
 rw [fvals_nth F hi']
 unfold nth List.getD
 rw [List.getElem?_take, if_pos hi']
 exact fvals_nth F (by omega)
theorem fvals_drop (F : Nat → Int) {n k : Nat} (h : k ≤ n) : (fvals F n).drop k = fvals (fun t => F (k + t)) (n - k) := by
 refine nth_ext (by simp [fvals]) (fun i hi => ?_)
 have hi' : i < n - k := by simp [fvals] at hi; omega
 rw [fvals_nth _ hi']
 unfold nth List.getD
 rw [List.getElem?_drop]
 exact fvals_nth F (by omega)
theorem fvals_eq {F : Nat → Int} {l : List Int} (h : ∀ i, i < l.length → nth l i = F i) : l = fvals F l.length :=
 nth_ext (by simp [fvals]) (fun i hi => by rw [fvals_nth F hi, h i hi])
def Grows (F : Nat → Int) (S P : Nat) (I : Int) : Prop := ∀ t, S ≤ t → F (t + P) = F t + I
theorem Grows.mono {F : Nat → Int} {S S' P : Nat} {I : Int} (h : Grows F S P I) (hs : S ≤ S') : Grows F S' P I := fun t ht => h t (by omega)
theorem Grows.mul {F : Nat → Int} {S P : Nat} {I : Int} (h : Grows F S P I) : ∀ (k t : Nat), S ≤ t → F (t + k * P) = F t + k * I
 | 0, t, _ => by simp
 | k + 1, t, ht => by
  rw [show t + (k + 1) * P = (t + k * P) + P by rw [Nat.add_mul]; omega, h _ (by omega), Grows.mul h k t ht, Int.natCast_add, Int.add_mul]
  simp; omega
def PerOk (F : Nat → Int) (S P : Nat) (I : Int) (p : Nat) : Prop := P % p = 0 ∧ (I * p) % P = 0 ∧ ∀ t, S ≤ t → t < S + P → F (t + p) = F t + I * p / P
theorem PerOk.all {F : Nat → Int} {S P : Nat} {I : Int} {p : Nat} (hP : 0 < P) (hg : Grows F S P I) (h : PerOk F S P I p) : Grows F S p (I * p / P) := by
 intro t
 induction t using Nat.strongRecOn with
 | _ t ih =>
  intro ht
  by_cases hw : t < S + P
  ·exact h.2.2 t ht hw
  ·have h1 := ih (t - P) (by omega) (by omega)
   have h2 := hg (t - P) (by omega)
   have h3 := hg (t - P + p) (by omega)
   rw [show t - P + P = t by omega] at h2
   rw [show t - P + p + P = t + p by omega] at h3
   omega
theorem PerOk.move {F : Nat → Int} {S S' P : Nat} {I : Int} {p : Nat} (hP : 0 < P) (hg : Grows F S P I) (hg' : Grows F S' P I) (h : PerOk F S P I p) : PerOk F S' P I p := by
 refine ⟨h.1, h.2.1, fun t ht _ => ?_⟩
 have ha := h.all hP hg (t + S * P) (by have := Nat.le_mul_of_pos_right S hP; omega)
 have h1 := hg'.mul S t ht
 have h2 := hg'.mul S (t + p) (by omega)
 rw [show t + S * P + p = t + p + S * P by omega] at ha
 omega
theorem PerOk.self {F : Nat → Int} {S P : Nat} {I : Int} (hP : 0 < P) (hg : Grows F S P I) : PerOk F S P I P := by
 refine ⟨Nat.mod_self P, Int.mul_emod_left I P, fun t ht _ => ?_⟩
 rw [Int.mul_ediv_cancel _ (by omega)]
 exact hg t ht
def LeastN (Q : Nat → Prop) (p : Nat) : Prop := 1 ≤ p ∧ Q p ∧ ∀ r, 1 ≤ r → r < p → ¬ Q r
theorem LeastN.unique {Q Q' : Nat → Prop} {p p' : Nat} (h : LeastN Q p) (h' : LeastN Q' p') (hq : ∀ r, Q r ↔ Q' r) : p = p' := by
 rcases Nat.lt_trichotomy p p' with h1 | h1 | h1
 ·exact absurd ((hq p).1 h.2.1) (h'.2.2 p h.1 h1)
 ·exact h1
 ·exact absurd ((hq p').2 h'.2.1) (h.2.2 p' h'.1 h1)
def Starts (F : Nat → Int) (p : Nat) (q : Int) (s : Nat) : Prop := Grows F s p q ∧ (s = 0 ∨ F (s - 1 + p) ≠ F (s - 1) + q)
theorem Starts.unique {F : Nat → Int} {p : Nat} {q : Int} {s s' : Nat} (h : Starts F p q s) (h' : Starts F p q s') : s = s' := by
 rcases Nat.lt_trichotomy s s' with h1 | h1 | h1
 ·rcases h'.2 with h2 | h2
  ·omega
  ·exact absurd (h.1 (s' - 1) (by omega)) h2
 ·exact h1
 ·rcases h.2 with h2 | h2
  ·omega
  ·exact absurd (h'.1 (s - 1) (by omega)) h2
def leastOk (v : List Int) (inc : Int) (p : Nat) : Bool :=
  v.length % p == 0 && (inc * p) % v.length == 0 && (List.range v.length).all fun i => (if i + p < v.length then nth v (i + p) else nth v (i + p - v.length) + inc) == nth v i + inc * p / v.length
def leastL (v : List Int) (inc : Int) : Nat :=
  if findFrom (leastOk v inc) (v.length - 1) 1 = -1 then v.length else (findFrom (leastOk v inc) (v.length - 1) 1).toNat
def downL (v : List Int) (p : Nat) (q : Int) : Nat → Nat
  | 0 => 0
  | s + 1 => if nth v s + q = nth v (s + p) then downL v p q s else s + 1
structure Cv where
  vals : List Int
  per : Int
  inc : Int
def zcv : Cv := ⟨[], 0, 0⟩
def checkedE (v : List Int) : Int := if 400 < v.length ∨ (v.any fun x => x != INF && decide (x > MAXV)) = true then 3 else 0
def checkedL (v : List Int) (p : Int) (q : Int) : Cv × Int := if checkedE v = 3 then (zcv, 3) else (⟨v, p, q⟩, 0)
def finL (v : List Int) (S P : Nat) (I : Int) : Cv × Int :=
  let p := leastL (v.drop S) I
  let q := I * p / P
  let s := downL v p q S
  if 120 < p ∨ MAXV < q then (zcv, 3) else checkedL (v.take (s + p)) p q
def infAt (F : Nat → Int) (n : Nat) : Int := findFrom (fun t => F t == INF) n 0
def mbuild (F : Nat → Int) (S P : Nat) (I : Int) : Cv × Int :=
  if infAt F (S + P) = -1 then finL (fvals F (S + P)) S P I else checkedL (fvals F ((infAt F (S + P)).toNat + 1)) 1 0
theorem leastOk_iff {F : Nat → Int} {S P : Nat} {I : Int} {p : Nat} (hg : Grows F S P I) (hp : p ≤ P) : leastOk (fvals (fun t => F (S + t)) P) I p = true ↔ PerOk F S P I p := by
 unfold leastOk PerOk
 simp only [fvals_len, Bool.and_eq_true, beq_iff_eq, List.all_eq_true, List.mem_range]
 have key : ∀ i, i < P → (if i + p < P then nth (fvals (fun t => F (S + t)) P) (i + p) else nth (fvals (fun t => F (S + t)) P) (i + p - P) + I) = F (S + i + p) := fun i hi => by
  split
  ·rename_i h; rw [fvals_nth _ h, Nat.add_assoc]
  ·rename_i h
   rw [fvals_nth _ (by omega), ← hg _ (by omega)]
   congr 1; omega
 constructor
 ·rintro ⟨⟨h1, h2⟩, h3⟩
  refine ⟨h1, h2, fun t ht htp => ?_⟩
  have := h3 (t - S) (by omega)
  rw [key _ (by omega), fvals_nth _ (by omega), show S + (t - S) = t by omega] at this
  exact this
 ·rintro ⟨h1, h2, h3⟩
  refine ⟨⟨h1, h2⟩, fun i hi => ?_⟩
  rw [key i hi, fvals_nth _ hi]
  exact h3 _ (by omega) (by omega)
theorem leastL_is {F : Nat → Int} {S P : Nat} {I : Int} (hP : 0 < P) (hg : Grows F S P I) : LeastN (PerOk F S P I) (leastL (fvals (fun t => F (S + t)) P) I) ∧ leastL (fvals (fun t => F (S + t)) P) I ≤ P := by
 unfold leastL
 rw [fvals_len]
 rcases findFrom_cases (leastOk (fvals (fun t => F (S + t)) P) I) (P - 1) 1 with ⟨i, h1, h2, h3, h4, h5⟩ | ⟨h1, h2⟩
 ·rw [h3, if_neg (by omega), Int.toNat_natCast]
  refine ⟨⟨h1, (leastOk_iff hg (by omega)).1 h4, fun r hr hri hq => ?_⟩, by omega⟩
  have := h5 r hr hri
  rw [(leastOk_iff hg (by omega)).2 hq] at this
  cases this
 ·rw [h1, if_pos rfl]
  refine ⟨⟨hP, PerOk.self hP hg, fun r hr hri hq => ?_⟩, Nat.le_refl _⟩
  have := h2 r hr (by omega)
  rw [(leastOk_iff hg (by omega)).2 hq] at this
  cases this
theorem downL_is {F : Nat → Int} {p n : Nat} {q : Int} : ∀ (s : Nat), s + p ≤ n → Grows F s p q → Starts F p q (downL (fvals F n) p q s) ∧ downL (fvals F n) p q s ≤ s
 | 0, _, h => ⟨⟨h, .inl rfl⟩, Nat.le_refl _⟩
 | s + 1, hn, h => by
  simp only [downL]
  rw [fvals_nth F (show s < n by omega)]
  by_cases hp : s + p < n
  ·rw [fvals_nth F hp]
   split
   ·rename_i he
    have := downL_is (F := F) (p := p) (n := n) (q := q) s (by omega) (fun t ht => by
     by_cases hts : t = s
     ·subst hts; exact he.symm
     ·exact h t (by omega))
    exact ⟨this.1, by omega⟩
   ·rename_i he
    exact ⟨⟨h, .inr (by simpa using fun h => he h.symm)⟩, Nat.le_refl _⟩
  ·omega
structure NF (F : Nat → Int) (S P : Nat) (I : Int) (p s : Nat) : Prop where
  least : LeastN (PerOk F S P I) p
  starts : Starts F p (I * p / P) s
theorem NF.unique {F : Nat → Int} {S S' P : Nat} {I : Int} {p p' s s' : Nat} (hP : 0 < P) (hg : Grows F S P I) (hg' : Grows F S' P I) (h : NF F S P I p s) (h' : NF F S' P I p' s') : p = p' ∧ s = s' := by
 have hp := h.least.unique h'.least (fun r => ⟨fun hr => hr.move hP hg hg', fun hr => hr.move hP hg' hg⟩)
 subst hp
 exact ⟨rfl, h.starts.unique h'.starts⟩
def nfE (F : Nat → Int) (p s : Nat) (q : Int) : Int := if 120 < p ∨ MAXV < q ∨ 400 < s + p ∨ ((List.range (s + p)).any fun i => decide (F i > MAXV)) = true then 3 else 0
def nfC (F : Nat → Int) (p s : Nat) (q : Int) : Cv × Int := if nfE F p s q = 3 then (zcv, 3) else (⟨fvals F (s + p), p, q⟩, 0)
theorem finL_nf {F : Nat → Int} {S P : Nat} {I : Int} (hP : 0 < P) (hg : Grows F S P I) (hf : ∀ t, t < S + P → F t ≠ INF) :
  ∃ p s, NF F S P I p s ∧ p ≤ P ∧ s ≤ S ∧ finL (fvals F (S + P)) S P I = nfC F p s (I * p / P) := by
 have hd : (fvals F (S + P)).drop S = fvals (fun t => F (S + t)) P := by rw [fvals_drop F (by omega)]; congr 1; omega
 obtain ⟨h1, h2⟩ := leastL_is hP hg
 have h3 := h1.2.1.all hP hg
 obtain ⟨h4, h5⟩ := downL_is (n := S + P) S (by omega) h3
 refine ⟨_, _, ⟨h1, h4⟩, h2, h5, ?_⟩
 unfold finL
 rw [hd]
 generalize leastL (fvals (fun t => F (S + t)) P) I = p at h1 h2 h3 h4 h5 ⊢
 generalize hs : downL (fvals F (S + P)) p (I * p / P) S = s at h4 h5 ⊢
 dsimp only
 rw [hs, fvals_take F (by omega)]
 unfold nfC nfE checkedL checkedE
 rw [fvals_len]
 have hany : (fvals F (s + p)).any (fun x => x != INF && decide (x > MAXV)) = (List.range (s + p)).any fun i => decide (F i > MAXV) := by
  unfold fvals
  rw [List.any_map, Bool.eq_iff_iff]
  simp only [List.any_eq_true, List.mem_range, Function.comp, Bool.and_eq_true, decide_eq_true_eq]
  constructor
  ·rintro ⟨i, h1, h2⟩; exact ⟨i, h1, h2.2⟩
  ·rintro ⟨i, h1, h2⟩; exact ⟨i, h1, by simpa using hf i (by omega), h2⟩
 rw [hany]
 by_cases a : 120 < p ∨ MAXV < I * p / P
 ·rw [if_pos a, if_pos (by rw [if_pos]; rcases a with a | a; exact .inl a; exact .inr (.inl a))]
 ·rw [if_neg a]
  by_cases b : 400 < s + p ∨ ((List.range (s + p)).any fun i => decide (F i > MAXV)) = true
  ·rw [if_pos (if_pos b), if_pos (if_pos (.inr (.inr b)))]
  ·rw [if_neg (show ¬ (if 400 < s + p ∨ ((List.range (s + p)).any fun i => decide (F i > MAXV)) = true then (3 : Int) else 0) = 3 by rw [if_neg b]; decide),
    if_neg (show ¬ (if 120 < p ∨ MAXV < I * p / P ∨ 400 < s + p ∨ ((List.range (s + p)).any fun i => decide (F i > MAXV)) = true then (3 : Int) else 0) = 3 by
     rw [if_neg (fun h => by rcases h with h | h | h; exact a (.inl h); exact a (.inr h); exact b h)]; decide)]
def perR (c : Cv) (start : Int) (p : Int) : Bool :=
  c.per.tmod p == 0 && (c.inc * p).tmod c.per == 0 && (List.range c.per.toNat).all fun i => atR c.vals c.per c.inc (start + i + p) == atR c.vals c.per c.inc (start + i) + c.inc * p / c.per
def leastR (c : Cv) : Nat := (findFrom (fun p => perR c (c.vals.length - c.per) p) (c.per.toNat) 1).toNat
def downR (c : Cv) (p : Int) (q : Int) : Nat → Nat
  | 0 => 0
  | s + 1 => if atR c.vals c.per c.inc ((s : Int) + p) = atR c.vals c.per c.inc s + q then downR c p q s else s + 1
def infL (l : List Int) : Int := findFrom (fun i => nth l i == INF) l.length 0
def normR (c : Cv) : Cv :=
  if infL c.vals = -1 then
    let p := leastR c
    let q := c.inc * p / c.per
    let s := downR c p q (c.vals.length - c.per).toNat
    ⟨(List.range (s + p)).map fun (t : Nat) => atR c.vals c.per c.inc (t : Int), p, q⟩
  else ⟨c.vals.take ((infL c.vals).toNat + 1), 1, 0⟩
def validB (c : Cv) : Bool :=
  decide (1 ≤ c.vals.length) && decide (c.vals.length ≤ 400) && decide (1 ≤ c.per) && decide (c.per ≤ 120) && decide (c.per ≤ c.vals.length) && decide (0 ≤ c.inc) && decide (c.inc ≤ MAXV) &&
  (List.range c.vals.length).all (fun i => (nth c.vals i == INF || (decide (0 ≤ nth c.vals i) && decide (nth c.vals i ≤ MAXV))) && (i == 0 || decide (nth c.vals (i - 1) ≤ nth c.vals i))) &&
  (if nth c.vals (c.vals.length - 1) = INF then c.per == 1 && c.inc == 0 else decide (nth c.vals (c.vals.length - 1) ≤ nth c.vals (c.vals.length - c.per.toNat) + c.inc))
def madeR (c : Cv) : Cv × Int := if validB (normR c) then (normR c, 0) else (zcv, 3)
section
variable {F : Nat → Int} {S P : Nat} {I : Int}
theorem atR_fvals (hP : 0 < P) (hg : Grows F S P I) (hf : ∀ t, t < S + P → F t ≠ INF) (t : Nat) : atR (fvals F (S + P)) P I (t : Int) = F t := by
 unfold atR
 rw [fvals_len, if_neg (by omega)]
 by_cases h : t < S + P
 ·rw [if_pos (by omega), Int.toNat_natCast, fvals_nth F h]
 ·rw [if_neg (by omega)]
  obtain ⟨d, rfl⟩ : ∃ d, t = S + P + d := ⟨t - (S + P), by omega⟩
  have e1 : (((S + P + d : Nat) : Int) - ((S + P : Nat) : Int)) / (P : Int) = ((d / P : Nat) : Int) := by
   rw [show ((S + P + d : Nat) : Int) - ((S + P : Nat) : Int) = (d : Int) by omega]; rfl
  rw [e1]
  have h1 : d / P * P ≤ d := Nat.div_mul_le_self d P
  have h2 : d < (d / P + 1) * P := Nat.lt_mul_of_div_lt (Nat.lt_succ_self _) hP
  have h3 : (d / P + 1) * P = d / P * P + P := by rw [Nat.add_mul]; omega
  have e2 : (((S + P + d : Nat) : Int) - (((d / P : Nat) : Int) + 1) * (P : Int)).toNat = S + d - d / P * P := by
   have : (((d / P : Nat) : Int) + 1) * (P : Int) = (((d / P + 1) * P : Nat) : Int) := by simp
   rw [this, h3]; omega
  rw [e2, fvals_nth F (show S + d - d / P * P < S + P by omega)]
  have hne : ¬ F (S + d - d / P * P) = 4611686018427387904 := hf _ (by omega)
  rw [if_neg hne]
  have := hg.mul (d / P + 1) (S + d - d / P * P) (by omega)
  rw [show S + d - d / P * P + (d / P + 1) * P = S + P + d by omega] at this
  rw [this]; simp
theorem tmod_zero {a : Int} {b : Nat} (ha : 0 ≤ a) : (a.tmod (b : Int) == 0) = decide (a % (b : Int) = 0) := by
 rw [Int.tmod_eq_emod_of_nonneg ha]
 rfl
theorem perR_iff (hP : 0 < P) (hI : 0 ≤ I) (hg : Grows F S P I) (hf : ∀ t, t < S + P → F t ≠ INF) (p : Nat) : perR ⟨fvals F (S + P), P, I⟩ ((((fvals F (S + P)).length : Nat) : Int) - (P : Int)) (p : Int) = true ↔ PerOk F S P I p := by
 unfold perR PerOk
 dsimp only
 rw [fvals_len, show ((S + P : Nat) : Int) - (P : Int) = (S : Int) by omega, tmod_zero (by omega), tmod_zero (Int.mul_nonneg hI (by omega)), Int.toNat_natCast]
 simp only [Bool.and_eq_true, decide_eq_true_eq, List.all_eq_true, List.mem_range, beq_iff_eq]
 have e : ∀ i : Nat, atR (fvals F (S + P)) P I ((S : Int) + i + p) = F (S + i + p) ∧ atR (fvals F (S + P)) P I ((S : Int) + i) = F (S + i) := fun i => by
  have h1 := atR_fvals hP hg hf (S + i + p)
  have h2 := atR_fvals hP hg hf (S + i)
  simp only [Int.natCast_add] at h1 h2
  exact ⟨h1, h2⟩
 have e3 : ((P : Int) % (p : Int) = 0) ↔ P % p = 0 := by omega
 rw [e3, and_assoc]
 constructor
 ·rintro ⟨h1, h2, h3⟩
  refine ⟨h1, h2, fun t ht htp => ?_⟩
  have := h3 (t - S) (by omega)
  rw [(e _).1, (e _).2, show S + (t - S) = t by omega] at this
  exact this
 ·rintro ⟨h1, h2, h3⟩
  refine ⟨h1, h2, fun i hi => ?_⟩
  rw [(e i).1, (e i).2]
  exact h3 _ (by omega) (by omega)
theorem leastR_is (hP : 0 < P) (hI : 0 ≤ I) (hg : Grows F S P I) (hf : ∀ t, t < S + P → F t ≠ INF) : LeastN (PerOk F S P I) (leastR ⟨fvals F (S + P), P, I⟩) ∧ leastR ⟨fvals F (S + P), P, I⟩ ≤ P := by
 unfold leastR
 dsimp only
 rw [Int.toNat_natCast]
 rcases findFrom_cases (fun p => perR ⟨fvals F (S + P), P, I⟩ ((((fvals F (S + P)).length : Nat) : Int) - (P : Int)) (p : Int)) P 1 with ⟨i, h1, h2, h3, h4, h5⟩ | ⟨h1, h2⟩
 ·rw [h3, Int.toNat_natCast]
  refine ⟨⟨h1, (perR_iff hP hI hg hf i).1 h4, fun r hr hri hq => ?_⟩, by omega⟩
  have := h5 r hr hri
  rw [(perR_iff hP hI hg hf r).2 hq] at this
  cases this
 ·have := h2 P (by omega) (by omega)
  rw [(perR_iff hP hI hg hf P).2 (PerOk.self hP hg)] at this
  cases this
theorem downR_is (hP : 0 < P) (hg : Grows F S P I) (hf : ∀ t, t < S + P → F t ≠ INF) {p : Nat} {q : Int} : ∀ (s : Nat), Grows F s p q → Starts F p q (downR ⟨fvals F (S + P), P, I⟩ (p : Int) q s) ∧ downR ⟨fvals F (S + P), P, I⟩ (p : Int) q s ≤ s
 | 0, h => ⟨⟨h, .inl rfl⟩, Nat.le_refl _⟩
 | s + 1, h => by
  simp only [downR]
  have h1 := atR_fvals hP hg hf (s + p)
  have h2 := atR_fvals hP hg hf s
  simp only [Int.natCast_add] at h1
  rw [h1, h2]
  split
  ·rename_i he
   have := downR_is hP hg hf (p := p) (q := q) s (fun t ht => by
    by_cases hts : t = s
    ·subst hts; exact he
    ·exact h t (by omega))
   exact ⟨this.1, by omega⟩
  ·rename_i he
   exact ⟨⟨h, .inr (by simpa using he)⟩, Nat.le_refl _⟩
theorem infL_fvals (n : Nat) (hf : ∀ t, t < n → F t ≠ INF) : infL (fvals F n) = -1 := by
 unfold infL
 rw [fvals_len]
 rcases findFrom_cases (fun i => nth (fvals F n) i == INF) n 0 with ⟨i, h1, h2, h3, h4, h5⟩ | ⟨h1, h2⟩
 ·rw [fvals_nth F (by omega)] at h4
  exact absurd (by simpa using h4) (hf i (by omega))
 ·exact h1
theorem normR_nf (hP : 0 < P) (hI : 0 ≤ I) (hg : Grows F S P I) (hf : ∀ t, t < S + P → F t ≠ INF) : ∃ p s, NF F S P I p s ∧ p ≤ P ∧ s ≤ S ∧ normR ⟨fvals F (S + P), P, I⟩ = ⟨fvals F (s + p), p, I * p / P⟩ := by
 obtain ⟨h1, h2⟩ := leastR_is hP hI hg hf
 have h3 := h1.2.1.all hP hg
 obtain ⟨h4, h5⟩ := downR_is hP hg hf S h3
 refine ⟨_, _, ⟨h1, h4⟩, h2, h5, ?_⟩
 unfold normR
 dsimp only
 rw [if_pos (infL_fvals _ hf), fvals_len, show (((S + P : Nat) : Int) - (P : Int)).toNat = S by omega]
 congr 1
 unfold fvals
 apply List.map_congr_left
 intro t _
 exact atR_fvals hP hg hf t
theorem mono_le (hm : ∀ t, F t ≤ F (t + 1)) {a b : Nat} (h : a ≤ b) : F a ≤ F b := by
 induction b with
 | zero =>
  obtain rfl : a = 0 := by omega
  exact Int.le_refl _
 | succ b ih =>
  by_cases e : a = b + 1
  ·subst e; omega
  ·have := ih (by omega); have := hm b; omega
theorem madeR_nf (hP : 0 < P) (hI : 0 ≤ I) (hg : Grows F S P I) (hm : ∀ t, F t ≤ F (t + 1)) (h0 : 0 ≤ F 0) (hf : ∀ t, t < S + P → F t < INF) : ∃ p s, NF F S P I p s ∧ p ≤ P ∧ s ≤ S ∧ madeR ⟨fvals F (S + P), P, I⟩ = nfC F p s (I * p / P) := by
 have hne : ∀ t, t < S + P → F t ≠ INF := fun t ht => by have := hf t ht; omega
 obtain ⟨p, s, hnf, h1, h2, h3⟩ := normR_nf hP hI hg hne
 refine ⟨p, s, hnf, h1, h2, ?_⟩
 unfold madeR
 rw [h3]
 have hp := hnf.least.1
 have hq : 0 ≤ I * (p : Int) / (P : Int) := Int.ediv_nonneg (Int.mul_nonneg hI (by omega)) (by omega)
 have hgr := hnf.starts.1 s (Nat.le_refl _)
 generalize I * (p : Int) / (P : Int) = q at hq hgr ⊢
 have hnn : ∀ t, 0 ≤ F t := fun t => by have := mono_le hm (Nat.zero_le t); omega
 have hval : validB ⟨fvals F (s + p), p, q⟩ = decide (¬ nfE F p s q = 3) := by
  unfold validB nfE
  dsimp only
  rw [fvals_len, fvals_nth F (show s + p - 1 < s + p by omega), if_neg (hne _ (by omega)), Int.toNat_natCast, show s + p - p = s by omega, fvals_nth F (show s < s + p by omega), ← hgr]
  have hlast : decide (F (s + p - 1) ≤ F (s + p)) = true := decide_eq_true (mono_le hm (by omega))
  rw [hlast]
  have hall : ((List.range (s + p)).all fun i => (nth (fvals F (s + p)) i == INF || (decide (0 ≤ nth (fvals F (s + p)) i) && decide (nth (fvals F (s + p)) i ≤ MAXV))) && (i == 0 || decide (nth (fvals F (s + p)) (i - 1) ≤ nth (fvals F (s + p)) i))) = !((List.range (s + p)).any fun i => decide (F i > MAXV)) := by
   rw [List.all_eq_not_any_not]
   congr 1
   rw [Bool.eq_iff_iff]
   simp only [List.any_eq_true, List.mem_range]
   constructor
   ·rintro ⟨i, hi, h⟩
    refine ⟨i, hi, ?_⟩
    rw [fvals_nth F hi] at h
    have e1 : (F i == INF) = false := by simpa using hne i (by omega)
    have e2 : decide (0 ≤ F i) = true := decide_eq_true (hnn i)
    have e3 : (i == 0 || decide (nth (fvals F (s + p)) (i - 1) ≤ F i)) = true := by
     by_cases hi0 : i = 0
     ·simp [hi0]
     ·rw [fvals_nth F (by omega)]; simp [mono_le hm (show i - 1 ≤ i by omega)]
    rw [e1, e2, e3] at h
    simp at h
    exact decide_eq_true (by omega)
   ·rintro ⟨i, hi, h⟩
    refine ⟨i, hi, ?_⟩
    rw [fvals_nth F hi]
    have e1 : (F i == INF) = false := by simpa using hne i (by omega)
    have h' := of_decide_eq_true h
    have e4 : decide (F i ≤ MAXV) = false := decide_eq_false (by omega)
    rw [e1, e4]; simp
  rw [hall]
  generalize ((List.range (s + p)).any fun i => decide (F i > MAXV)) = b
  rw [Bool.eq_iff_iff]
  simp only [Bool.and_eq_true, decide_eq_true_eq, Bool.not_eq_true', and_true]
  constructor
  ·rintro ⟨⟨⟨⟨⟨⟨⟨a1, a2⟩, a3⟩, a4⟩, a5⟩, a6⟩, a7⟩, a8⟩ h
   rw [if_neg] at h
   ·omega
   ·rintro (h | h | h | h)
    ·omega
    ·omega
    ·omega
    ·rw [a8] at h; cases h
  ·intro h
   have h' : ¬ (120 < p ∨ MAXV < q ∨ 400 < s + p ∨ b = true) := fun hh => h (if_pos hh)
   refine ⟨⟨⟨⟨⟨⟨⟨by omega, by omega⟩, by omega⟩, by omega⟩, by omega⟩, hq⟩, by omega⟩, ?_⟩
   cases b with
   | false => rfl
   | true => exact absurd (.inr (.inr (.inr rfl))) h'
 rw [hval]
 unfold nfC
 by_cases h : nfE F p s q = 3
 ·rw [if_pos h, if_neg (by simp [h])]
 ·rw [if_neg h, if_pos (by simp [h])]
theorem build_made {S' : Nat} (hP : 0 < P) (hI : 0 ≤ I) (hg : Grows F S P I) (hg' : Grows F S' P I) (hm : ∀ t, F t ≤ F (t + 1)) (h0 : 0 ≤ F 0) (hf : ∀ t, t < S + P → F t < INF) (hf' : ∀ t, t < S' + P → F t < INF) : finL (fvals F (S + P)) S P I = madeR ⟨fvals F (S' + P), P, I⟩ := by
 have hne : ∀ t, t < S + P → F t ≠ INF := fun t ht => by have := hf t ht; omega
 obtain ⟨p, s, h1, _, _, h2⟩ := finL_nf hP hg hne
 obtain ⟨p', s', h3, _, _, h4⟩ := madeR_nf hP hI hg' hm h0 hf'
 obtain ⟨rfl, rfl⟩ := h1.unique hP hg hg' h3
 rw [h2, h4]
theorem mbuild_fin (hf : ∀ t, t < S + P → F t ≠ INF) : mbuild F S P I = finL (fvals F (S + P)) S P I := by
 unfold mbuild
 rw [if_pos]
 unfold infAt
 rcases findFrom_cases (fun t => F t == INF) (S + P) 0 with ⟨i, h1, h2, h3, h4, h5⟩ | ⟨h1, h2⟩
 ·exact absurd (by simpa using h4) (hf i (by omega))
 ·exact h1
end
end Go.Proofs.YtaoakchgjgmedaaGreat.M
namespace Go.Proofs.YtaoakchgjgmedaaGreat.K
open Go Go.RowKit
theorem rs_nil {R : Ro} {α : Type} {_i : Inhabited α} {k : Nat} {enc : α → List Value} : RS (_i := _i) R k enc none [] := ⟨by simp, .inl rfl, by simp⟩
def zipE : List Nat → List Value → Env → Env
  | k :: ks, v :: vs, e => (k, true, v) :: zipE ks vs e
  | _, _, e => e
def setAll : List Ent → List (Nat × Ent) → List Ent
  | E, [] => E
  | E, (i, e) :: r => setAll (E.set i e) r
section
variable {P : Program} {T : Tab} {n : Nat} {env : Env} {w0 : World} {R : Ro} {E : List Ent} {Q : Exit → Act → World → Prop} {x y : Code}
theorem W.loopK {β : Type} (inv : β → Prop) (vars : β → Env) (ks : List Nat) (kv : List Value) (mk : Env) (kE : List Ent) (hk : E = kE) (es : β → List (Nat × Ent)) (μ : β → Nat) (x0 : β)
  (h0 : inv x0) (hs : Sub (vars x0 ++ zipE ks kv mk) env) (hE : (setAll kE (es x0)).Sublist E)
  (round : ∀ s, inv s → W P x (Exit.then (Again inv n (fun s => vars s ++ zipE ks kv mk) w0 (fun _ => R) (fun s => setAll kE (es s)) μ (μ s)) Q) n (vars s ++ zipE ks kv mk) w0 R (setAll kE (es s))) :
  W P (.loop x) Q n env w0 R E :=
 W.loop inv (fun s => vars s ++ zipE ks kv mk) (fun _ => R) (fun s => setAll kE (es s)) μ x0 h0 hs (RLe.refl R) hE round
theorem W.loopR {β : Type} (inv : β → Prop) (vars : β → Env) (ks : List Nat) (kv : List Value) (mk : Env) (kE : List Ent) (hk : E = kE) (es : β → List (Nat × Ent)) (RR : β → Ro) (μ : β → Nat) (x0 : β)
  (h0 : inv x0) (hs : Sub (vars x0 ++ zipE ks kv mk) env) (hR : RLe (RR x0) R) (hE : (setAll kE (es x0)).Sublist E)
  (round : ∀ s, inv s → W P x (Exit.then (Again inv n (fun s => vars s ++ zipE ks kv mk) w0 RR (fun s => setAll kE (es s)) μ (μ s)) Q) n (vars s ++ zipE ks kv mk) w0 (RR s) (setAll kE (es s))) :
  W P (.loop x) Q n env w0 R E :=
 W.loop inv (fun s => vars s ++ zipE ks kv mk) RR (fun s => setAll kE (es s)) μ x0 h0 hs hR hE round
theorem Mem.freezeBlk {w : World} {i b : Nat} {cs : List Value} (hm : Mem w0 w R E) (hE : E[i]? = some (.blk b cs)) : ∃ R', RLe R R' ∧ R' b = some cs ∧ Mem w0 w R' (E.eraseIdx i) := by
 have hp := hm.perm (perm_get hE)
 obtain ⟨hbase, T, hh⟩ := hm.own _ (mem_of_get hE)
 refine ⟨fun c => if c = b then some cs else R c, ?_, by simp, ?_⟩
 ·intro c cs' hc
  have := hm.disj _ (mem_of_get hE) b rfl
  by_cases hcb : c = b
  ·subst hcb; rw [this] at hc; cases hc
  ·simp [hcb, hc]
 ·have hsub := hm.sub (RLe.refl R) (List.eraseIdx_sublist E i)
  have hnd := List.pairwise_cons.1 hp.nodup
  refine ⟨hsub.below, fun c cs' hc => ?_, hsub.own, fun e' he' c hc => ?_, hsub.nodup⟩
  ·by_cases hcb : c = b
   ·subst hcb; simp at hc; subst hc; exact ⟨T, _, hh⟩
   ·simp [hcb] at hc; exact hm.ro c cs' hc
  ·have := hnd.1 e' he' b rfl
   by_cases hcb : c = b
   ·subst hcb; exact absurd hc this
   ·simp [hcb]; exact hsub.disj e' he' c hc
theorem W.freezeBlk {b : Nat} {cs : List Value} (i : Nat) (hE : E[i]? = some (.blk b cs)) (h : ∀ R', RLe R R' → R' b = some cs → W P x Q n env w0 R' (E.eraseIdx i)) : W P x Q n env w0 R E := by
 intro ac w hk hm
 obtain ⟨R', hR, hb, hm'⟩ := hm.freezeBlk hE
 exact h R' hR hb ac w hk hm'
theorem WL.freezeBlk {ops rest : List Oper} {b : Nat} {cs : List Value} (i : Nat) (hE : E[i]? = some (.blk b cs)) (h : ∀ R', RLe R R' → R' b = some cs → WG false P ops Q rest n env w0 R' (E.eraseIdx i)) : WG false P ops Q rest n env w0 R E := by
 intro ac w hk hm
 obtain ⟨R', hR, hb, hm'⟩ := hm.freezeBlk hE
 exact h R' hR hb ac w hk hm'
theorem Rd.ro {b : Nat} {cs : List Value} (h : R b = some cs) : Rd R E ⟨b, 0, none⟩ cs := by
 intro w0 w hm j v hv
 obtain ⟨T, fz, hb⟩ := hm.ro _ _ h
 rw [addr_add_mk]
 simp [World.cell?, hb, hv]
theorem Fn.toVS {f : FuncId} {args : List Value} {v : Value} (h : ∀ w0 E, Fn P f args w0 R E (fun v' _ E' => v' = v ∧ E.Sublist E')) : FnV P f args R v := by
 intro w0 E w hm
 refine (h w0 E w hm).mono ?_
 rintro e w' ⟨v', R', E', rfl, hR, hm', rfl, hs⟩
 exact ⟨rfl, hm'.sub hR hs⟩
theorem Ef.cloneL {α : Type} [_i : Inhabited α] {enc : α → List Value} {o : Oper} {K : Value → Ro → List Ent → Prop} {t e : TypeId} {x y : Operand} {k m c cap : Nat} {a b : Option Addr} {ys : List α} {d d2 : TD} (i : Nat) (hT : TabOk P T) (ho : o.op = .call { callee := .builtin .append, args := #[x, y], argTypes := #[t, t] }) (hd : T.at t = some d) (hk : d.k = .slice e) (hd2 : T.at e = some d2)
  (hx : ev env x = some (true, .slice a 0 cap)) (hE : E[i]? = some (.sl e k a cap [])) (hks : d2.size = k) (hzl : d2.zero.length = k)
  (hy : ev env y = some (true, .slice b m c)) (hm : m = ys.length) (hj : RS (_i := _i) R k enc b ys) (h1 : ∀ u ∈ ys, cells1 (enc u) = true)
  (hbytes : ys.length * d2.bytes ≤ 140737488355328) (hmax : ys.length ≤ 9223372036854775807)
  (hK : ∀ a' cap', (0 < ys.length → a'.isSome = true) → K (.slice a' m cap') R (E.set i (.sl e k a' cap' (ys.map enc)))) : Ef P n env w0 R E o K := by
 subst hm
 exact Ef.appendR (enc := enc) (xs := []) i hT ho hd hk hd2 hx rfl hE hks hzl hy hj h1 (by simpa using hbytes) (by simpa using hmax) hK
theorem Ef.cloneR {α : Type} [_i : Inhabited α] {enc : α → List Value} {o : Oper} {K : Value → Ro → List Ent → Prop} {t e : TypeId} {x y : Operand} {k m c : Nat} {b : Option Addr} {ys : List α} {d d2 : TD} (i : Nat) (hT : TabOk P T) (ho : o.op = .call { callee := .builtin .append, args := #[x, y], argTypes := #[t, t] }) (hd : T.at t = some d) (hk : d.k = .slice e) (hd2 : T.at e = some d2)
  (hx : ev env x = some (true, .slice none 0 0)) (hE : E[i]? = some (.sl e k none 0 [])) (hks : d2.size = k) (hzl : d2.zero.length = k)
  (hy : ev env y = some (true, .slice b m c)) (hm : m = ys.length) (hj : RS (_i := _i) R k enc b ys) (h1 : ∀ u ∈ ys, cells1 (enc u) = true)
  (hbytes : ys.length * d2.bytes ≤ 140737488355328) (hmax : ys.length ≤ 9223372036854775807)
  (hK : ∀ a' cap', (0 < ys.length → a'.isSome = true) → K (.slice a' m cap') R (E.set i (.sl e k a' cap' (ys.map enc)))) : Ef P n env w0 R E o K := by
 subst hm
 exact Ef.appendR (enc := enc) (xs := []) i hT ho hd hk hd2 hx rfl hE hks hzl hy hj h1 (by simpa using hbytes) (by simpa using hmax) hK
variable {ops : List Oper} {o : Oper} {ES : List Ent} {R0 : Ro} {fuel : Nat} {listed : Array Bool} {pc : Bool}
theorem WA.callG {d : Nat} {f : FuncId} {vs : List Value} {Post : Value → Ro → List Ent → Prop} (i : Nat) (hi : ops.toArray[i]? = some o) (hr : Region.ready .any ops.toArray listed = [i]) (hf : Enters P f) (hg : gpc ops env o = some pc) (hpc : pc = true) (hd : o.dst = some d) (hdn : d < n)
  (hc : CallOp env o.op true f vs) (hv : Fn P f vs w0 R E Post)
  (h : ∀ v R' E', RLe R R' → Post v R' E' → RLe R0 R' ∧ ES.Sublist E' ∧ WA P ops Q ES R0 w0 fuel (listed.setIfInBounds i true) n ((d, true, v) :: env) R' E') : WA P ops Q ES R0 w0 (fuel + 1) listed n env R E := by
 intro a w hk hm
 refine wpAnyH_all hr (by simp) fun j hj => ?_
 obtain rfl : j = i := by simpa using hj
 unfold wpOp
 rw [hi]
 have hw := hk.wanted hg
 rw [hpc] at hw
 simp only [hw, if_true]
 left
 unfold Oper.wp
 rw [run_call hk hc rfl hf]
 refine (hv w hm).mono ?_
 rintro e w' ⟨v, R', E', rfl, hR, hm', hp⟩
 obtain ⟨g1, g2, g3⟩ := h v R' E' hR hp
 simp only [hd]
 exact ⟨hm'.sub g1 g2, g3 _ _ (hk.putT hdn v) hm'⟩
theorem WS.callG {d : Nat} {f : FuncId} {vs : List Value} {Post : Value → Ro → List Ent → Prop} {i : Nat} (hi : ops.toArray[i]? = some o) (hf : Enters P f) (hg : gpc ops env o = some pc) (hpc : pc = true) (hd : o.dst = some d) (hdn : d < n)
  (hc : CallOp env o.op true f vs) (hv : Fn P f vs w0 R E Post)
  (h : ∀ v R' E', RLe R R' → Post v R' E' → RLe R0 R' ∧ ES.Sublist E' ∧ WA P ops Q ES R0 w0 fuel (listed.setIfInBounds i true) n ((d, true, v) :: env) R' E') : WS P ops Q ES R0 w0 fuel listed n env R E i := by
 intro a w hk hm
 unfold wpOp
 rw [hi]
 have hw := hk.wanted hg
 rw [hpc] at hw
 simp only [hw, if_true]
 left
 unfold Oper.wp
 rw [run_call hk hc rfl hf]
 refine (hv w hm).mono ?_
 rintro e w' ⟨v, R', E', rfl, hR, hm', hp⟩
 obtain ⟨g1, g2, g3⟩ := h v R' E' hR hp
 simp only [hd]
 exact ⟨hm'.sub g1 g2, g3 _ _ (hk.putT hdn v) hm'⟩
theorem WA.subE {E' : List Ent} (hE : E'.Sublist E) (h : WA P ops Q ES R0 w0 fuel listed n env R E') : WA P ops Q ES R0 w0 fuel listed n env R E := fun a w hk hm => h a w hk (hm.sub (RLe.refl R) hE)
theorem WA.freeze {α : Type} [_i : Inhabited α] {enc : α → List Value} {e : TypeId} {k : Nat} {a : Option Addr} {cap : Nat} {xs : List α} (i : Nat) (hE : E[i]? = some (.sl e k a cap (xs.map enc)))
  (h : ∀ R', RLe R R' → RS (_i := _i) R' k enc a xs → WA P ops Q ES R0 w0 fuel listed n env R' (E.eraseIdx i)) : WA P ops Q ES R0 w0 fuel listed n env R E := by
 intro ac w hk hm
 obtain ⟨R', hR, hrs, hm'⟩ := hm.freeze (_i := _i) hE
 exact h R' hR hrs ac w hk hm'
end
end Go.Proofs.YtaoakchgjgmedaaGreat.K
namespace Go.Proofs.YtaoakchgjgmedaaGreat.M
open Go Go.Proofs.YtaoakchgjgmedaaGreat.K
structure SlP where
  a : Option Addr
  cap : Nat
  xs : List Pkt
instance instSlP : Inhabited SlP := ⟨⟨none, 0, []⟩⟩
def lrunE (cap classes ticks : Int) (ps : List Pkt) : Int := if validate ps ≠ 0 then validate ps else checkE cap classes ticks ps
def lineOut (cap classes ticks : Int) (ps : List Pkt) : List Int × List (List Int) :=
  if lrunE cap classes ticks ps ≠ 0 then ([], []) else ((mrun ps (fifo ps) cap classes.toNat ticks.toNat ()).done, (mrun ps (fifo ps) cap classes.toNat ticks.toNat ()).sent)
theorem lrunE_ok {cap classes ticks : Int} {ps : List Pkt} (h : lrunE cap classes ticks ps = 0) : Ok ps ∧ validate ps = 0 ∧ checkE cap classes ticks ps = 0 ∧ 1 ≤ cap ∧ cap ≤ 4000 ∧ 1 ≤ classes ∧ classes ≤ 6 ∧ 0 ≤ ticks ∧ ticks ≤ 2000 ∧ (∀ p ∈ ps, 1 ≤ p.size ∧ p.size ≤ 1500) ∧ ∀ p ∈ ps, 0 ≤ p.flow ∧ p.flow < classes := by
 unfold lrunE at h
 split at h
 ·rename_i hv; exact absurd h hv
 ·rename_i hv
  have hv : validate ps = 0 := by omega
  have hok := (validate_ok ps).1 hv
  obtain ⟨h1, h2⟩ := checkE_ok h
  unfold BadC at h1
  refine ⟨hok, hv, h, by omega, by omega, by omega, by omega, by omega, by omega, fun p hp => by have := hok.at hp; omega, fun p hp => by have := hok.at hp; have := h2 p hp; omega⟩
def nextP (ps : List Pkt) (ms : MS) (cls : Int) (i : Nat) : Bool := decide ((nth ps i).time ≤ ms.now) && !nth ms.begun i && (nth ps i).flow == cls
def nextW (ps : List Pkt) (ms : MS) (cls : Int) : Int := findN (nextP ps ms cls) ps.length
def robinGo (nx : Int → Int) (w : List Int) : Nat → Nat → Int → Int × (Nat × Int)
  | 0, c, l => (-1, (c, l))
  | k + 1, c, l => if 0 ≤ nx c ∧ 0 < l then (nx c, (c, l - 1)) else robinGo nx w k ((c + 1) % w.length) (nth w ((c + 1) % w.length))
def robinCh (ps : List Pkt) (w : List Int) (ms : MS) (s : Nat × Int) : Int × Nat × (Nat × Int) :=
  if firstR ps ms < 0 then (-1, skipTo ms.begun ms.before, s)
  else ((robinGo (nextW ps ms) w (w.length + 1) s.1 s.2).1, skipTo ms.begun ms.before, (robinGo (nextW ps ms) w (w.length + 1) s.1 s.2).2)
def okW (hi : Int) (w : List Int) : Bool := w.all fun x => decide (1 ≤ x) && decide (x ≤ hi)
theorem okW_iff {hi : Int} {w : List Int} : okW hi w = true ↔ ∀ x ∈ w, 1 ≤ x ∧ x ≤ hi := by
 unfold okW
 simp only [List.all_eq_true, Bool.and_eq_true, decide_eq_true_eq]
def wrunE (hi cap ticks : Int) (w : List Int) (ps : List Pkt) : Int := if lrunE cap w.length ticks ps ≠ 0 then lrunE cap w.length ticks ps else if okW hi w = true then 0 else 2
structure Sz where
  least : Int
  most : Int
instance instSz : Inhabited Sz := ⟨⟨0, 0⟩⟩
def encZ (s : Sz) : List Value := [.int .i64 s.least, .int .i64 s.most]
def zOk (z : List Sz) : Bool := z.all fun s => decide (0 ≤ s.least) && decide (s.least ≤ s.most) && decide (s.most ≤ 1500)
theorem zOk_iff {z : List Sz} : zOk z = true ↔ ∀ s ∈ z, 0 ≤ s.least ∧ s.least ≤ s.most ∧ s.most ≤ 1500 := by
 unfold zOk
 simp only [List.all_eq_true, Bool.and_eq_true, decide_eq_true_eq, and_assoc]
def chk18 (cap cls : Int) (z : List Sz) : Int := if cap < 1 ∨ 4000 < cap ∨ (z.length : Int) < 1 ∨ (6 : Int) < z.length ∨ zOk z = false ∨ cls < 0 ∨ (z.length : Int) ≤ cls then 2 else 0
def chkW (hi cap cls : Int) (w : List Int) (z : List Sz) : Int := if chk18 cap cls z ≠ 0 then 2 else if w.length ≠ z.length ∨ okW hi w = false then 2 else 0
theorem chk18_vals (cap cls : Int) (z : List Sz) : chk18 cap cls z = 0 ∨ chk18 cap cls z = 2 := by unfold chk18; split <;> simp
theorem chkW_ok {hi cap cls : Int} {w : List Int} {z : List Sz} (h : chkW hi cap cls w z = 0) : 1 ≤ cap ∧ cap ≤ 4000 ∧ 0 ≤ cls ∧ cls < z.length ∧ z.length ≤ 6 ∧ w.length = z.length ∧ (∀ x ∈ w, 1 ≤ x ∧ x ≤ hi) ∧ ∀ s ∈ z, 0 ≤ s.least ∧ s.least ≤ s.most ∧ s.most ≤ 1500 := by
 unfold chkW at h
 split at h
 ·omega
 ·rename_i h1
  split at h
  ·omega
  ·rename_i h2
   unfold chk18 at h1
   split at h1
   ·omega
   ·rename_i h3
    have a1 : okW hi w = true := by
     cases hb : okW hi w with
     | true => rfl
     | false => exact absurd (.inr hb) h2
    have a2 : zOk z = true := by
     cases hb : zOk z with
     | true => rfl
     | false => exact absurd (.inr (.inr (.inr (.inr (.inl hb))))) h3
    refine ⟨by omega, by omega, by omega, by omega, by omega, ?_, okW_iff.1 a1, zOk_iff.1 a2⟩
    apply Classical.byContradiction
    intro hh; exact h2 (.inl hh)
def qSum (k : Int) (w : List Int) (z : List Sz) : Nat → Int
  | 0 => 0
  | n + 1 => qSum k w z n + (if (n : Int) ≠ k then nth w n * (nth z n).most else 0)
theorem qSum_bound {k : Int} {w : List Int} {z : List Sz} {hi : Int} (hw : ∀ x ∈ w, 1 ≤ x ∧ x ≤ hi) (hz : ∀ s ∈ z, 0 ≤ s.least ∧ s.least ≤ s.most ∧ s.most ≤ 1500) : ∀ n : Nat, n ≤ w.length → n ≤ z.length → 0 ≤ qSum k w z n ∧ qSum k w z n ≤ hi * 1500 * n
 | 0, _, _ => by simp [qSum]
 | n + 1, h1, h2 => by
  have ih := qSum_bound (k := k) hw hz n (by omega) (by omega)
  have a := hw _ (nth_mem (xs := w) (k := n) (by omega))
  have b := hz _ (nth_mem (xs := z) (k := n) (by omega))
  have c1 : 0 ≤ nth w n * (nth z n).most := Int.mul_nonneg (by omega) (by omega)
  have c2 : nth w n * (nth z n).most ≤ hi * 1500 := Int.mul_le_mul a.2 (by omega) (by omega) (by omega)
  have c3 : hi * 1500 * ((n + 1 : Nat) : Int) = hi * 1500 * (n : Int) + hi * 1500 := by rw [Int.natCast_add, Int.mul_add]; simp
  simp only [qSum]
  rw [c3]
  split <;> omega
def shortN (low cap : Nat) : Int := findFrom (fun s => decide (s / Nat.gcd s cap ≤ 120)) (120 * cap + 1 - low) low
def leastY (H : Nat → Bool) (bound : Nat) : Nat := (findFrom H (bound + 1) 0).toNat
theorem leastY_is {H : Nat → Bool} {b : Nat} (h : H b = true) : leastY H b ≤ b ∧ H (leastY H b) = true ∧ ∀ j, j < leastY H b → H j = false := by
 unfold leastY
 rcases findFrom_cases H (b + 1) 0 with ⟨i, h1, h2, h3, h4, h5⟩ | ⟨_, h2⟩
 ·rw [h3, Int.toNat_natCast]
  exact ⟨by omega, h4, fun j hj => h5 j (by omega) hj⟩
 ·rw [h2 b (by omega) (by omega)] at h; cases h
def robinH (cap s r : Int) (t y : Nat) : Bool := decide ((y : Int) + (s - r) * ((y : Int) / r + 1) ≥ cap * t)
def robinF (cap s r : Int) (t : Nat) : Int := leastY (robinH cap s r t) (cap * t).toNat
def robinC (cap k : Int) (w : List Int) (z : List Sz) : Cv × Int :=
  if chkW 20 cap k w z ≠ 0 then (zcv, chkW 20 cap k w z) else if (nth z k.toNat).least < 1 then (zcv, 5) else
    let r := nth w k.toNat * (nth z k.toNat).least
    let s := shortN (r + qSum k w z w.length).toNat cap.toNat
    if s = -1 then (zcv, 3) else
      let p := s.toNat / Nat.gcd s.toNat cap.toNat
      mbuild (robinF cap s r) 0 p (cap * p / s * r)
theorem robinH_bound {cap s r : Int} (hr : 0 < r) (hs : r ≤ s) (t : Nat) (hc : 0 ≤ cap) : robinH cap s r t (cap * t).toNat = true := by
 unfold robinH
 have h1 : 0 ≤ cap * (t : Int) := Int.mul_nonneg hc (by omega)
 have h2 : 0 ≤ (s - r) * ((((cap * t).toNat : Nat) : Int) / r + 1) := Int.mul_nonneg (by omega) (by have := Int.ediv_nonneg (a := (((cap * t).toNat : Nat) : Int)) (b := r) (by omega) (by omega); omega)
 exact decide_eq_true (by omega)
theorem robinH_mono {cap s r : Int} (hr : 0 < r) (hs : r ≤ s) {t y y' : Nat} (h : robinH cap s r t y = true) (hy : y ≤ y') : robinH cap s r t y' = true := by
 unfold robinH at h ⊢
 have h0 := of_decide_eq_true h
 have h1 : (y : Int) / r ≤ (y' : Int) / r := Int.ediv_le_ediv hr (by omega)
 have h2 : (s - r) * ((y : Int) / r + 1) ≤ (s - r) * ((y' : Int) / r + 1) := Int.mul_le_mul_of_nonneg_left (by omega) (by omega)
 exact decide_eq_true (by omega)
theorem validB_iff {c : Cv} : validB c = true ↔ (1 ≤ c.vals.length ∧ c.vals.length ≤ 400 ∧ 1 ≤ c.per ∧ c.per ≤ 120 ∧ c.per ≤ c.vals.length ∧ 0 ≤ c.inc ∧ c.inc ≤ MAXV) ∧
  (∀ i, i < c.vals.length → (nth c.vals i = INF ∨ (0 ≤ nth c.vals i ∧ nth c.vals i ≤ MAXV)) ∧ (i = 0 ∨ nth c.vals (i - 1) ≤ nth c.vals i)) ∧
  (if nth c.vals (c.vals.length - 1) = INF then c.per = 1 ∧ c.inc = 0 else nth c.vals (c.vals.length - 1) ≤ nth c.vals (c.vals.length - c.per.toNat) + c.inc) := by
 unfold validB
 by_cases h : nth c.vals (c.vals.length - 1) = INF
 ·rw [if_pos h, if_pos h]
  simp only [Bool.and_eq_true, decide_eq_true_eq, List.all_eq_true, List.mem_range, Bool.or_eq_true, beq_iff_eq, and_assoc]
 ·rw [if_neg h, if_neg h]
  simp only [Bool.and_eq_true, decide_eq_true_eq, List.all_eq_true, List.mem_range, Bool.or_eq_true, beq_iff_eq, and_assoc]
theorem validB_false {c : Cv} (h : ¬ ((1 ≤ c.vals.length ∧ c.vals.length ≤ 400 ∧ 1 ≤ c.per ∧ c.per ≤ 120 ∧ c.per ≤ c.vals.length ∧ 0 ≤ c.inc ∧ c.inc ≤ MAXV) ∧
  (∀ i, i < c.vals.length → (nth c.vals i = INF ∨ (0 ≤ nth c.vals i ∧ nth c.vals i ≤ MAXV)) ∧ (i = 0 ∨ nth c.vals (i - 1) ≤ nth c.vals i)) ∧
  (if nth c.vals (c.vals.length - 1) = INF then c.per = 1 ∧ c.inc = 0 else nth c.vals (c.vals.length - 1) ≤ nth c.vals (c.vals.length - c.per.toNat) + c.inc))) : validB c = false := by
 rw [← Bool.not_eq_true, validB_iff]; exact h
theorem findFrom_some {P : Nat → Bool} {k a i : Nat} (h1 : a ≤ i) (h2 : i < a + k) (hP : P i = true) (h : ∀ j, a ≤ j → j < i → P j = false) : findFrom P k a = i := by
 rcases findFrom_cases P k a with ⟨r, r1, r2, r3, r4, r5⟩ | ⟨_, r2⟩
 ·rcases Nat.lt_trichotomy i r with h5 | h5 | h5
  ·rw [r5 i h1 h5] at hP; cases hP
  ·subst h5; exact r3
  ·rw [h r r1 h5] at r4; cases r4
 ·rw [r2 i h1 h2] at hP; cases hP
theorem findFrom_none {P : Nat → Bool} {k a : Nat} (h : ∀ j, a ≤ j → j < a + k → P j = false) : findFrom P k a = -1 := by
 rcases findFrom_cases P k a with ⟨r, r1, r2, r3, r4, r5⟩ | ⟨r1, _⟩
 ·rw [h r r1 r2] at r4; cases r4
 ·exact r1
theorem gcd_step (x y : Nat) : Nat.gcd y (x % y) = Nat.gcd x y := by
 rw [Nat.gcd_comm y (x % y), ← Nat.gcd_rec, Nat.gcd_comm]
def shortP (cap : Nat) (s : Nat) : Bool := decide (s / Nat.gcd s cap ≤ 120)
theorem shortN_eq (low cap : Nat) : shortN low cap = findFrom (shortP cap) (120 * cap + 1 - low) low := rfl
theorem shortN_some {low cap s : Nat} (h1 : low ≤ s) (h2 : s ≤ 120 * cap) (h : s / Nat.gcd s cap ≤ 120) (hn : ∀ j, low ≤ j → j < s → ¬ j / Nat.gcd j cap ≤ 120) : shortN low cap = s := by
 rw [shortN_eq]; exact findFrom_some h1 (by omega) (decide_eq_true h) (fun j a b => decide_eq_false (hn j a b))
theorem shortN_none {low cap s : Nat} (h2 : 120 * cap < s) (hn : ∀ j, low ≤ j → j < s → ¬ j / Nat.gcd j cap ≤ 120) : shortN low cap = -1 := by
 rw [shortN_eq]; exact findFrom_none (fun j a b => decide_eq_false (hn j a (by omega)))
theorem shortN_cases (low cap : Nat) : shortN low cap = -1 ∨ ∃ s : Nat, shortN low cap = s ∧ low ≤ s ∧ s ≤ 120 * cap ∧ s / Nat.gcd s cap ≤ 120 := by
 rw [shortN_eq]
 rcases findFrom_cases (shortP cap) (120 * cap + 1 - low) low with ⟨r, r1, r2, r3, r4, r5⟩ | ⟨r1, _⟩
 ·exact .inr ⟨r, r3, r1, by omega, of_decide_eq_true r4⟩
 ·exact .inl r1
def rvR (s : Int) (cap : Nat) : Value := .tuple #[.int .i64 (if s = -1 then 0 else s), .int .i64 (if s = -1 then 0 else ((s.toNat / Nat.gcd s.toNat cap : Nat) : Int)), .bool (s != -1)]
def svR (s : Int) : Value := .tuple #[.int .i64 (if s = -1 then 0 else s), .bool (s != -1)]
theorem ne_m1 (s : Nat) : ((s : Int) != -1) = true := by rw [bne_iff_ne]; omega
theorem rvR_some (s cap : Nat) : rvR s cap = .tuple #[.int .i64 s, .int .i64 ((s / Nat.gcd s cap : Nat) : Int), .bool true] := by
 unfold rvR; rw [if_neg (by omega), if_neg (by omega), Int.toNat_natCast, ne_m1]
theorem svR_some (s : Nat) : svR s = .tuple #[.int .i64 s, .bool true] := by
 unfold svR; rw [if_neg (by omega), ne_m1]
theorem leastY_eq {H : Nat → Bool} {b lo : Nat} (hb : H b = true) (h1 : H lo = true) (h2 : ∀ j, j < lo → H j = false) : leastY H b = lo := by
 obtain ⟨a1, a2, a3⟩ := leastY_is hb
 rcases Nat.lt_trichotomy lo (leastY H b) with h | h | h
 ·rw [a3 _ h] at h1; cases h1
 ·exact h.symm
 ·rw [h2 _ h] at a2; cases a2
def partV (F : Nat → Int) (t n : Nat) : List Int := fvals F t ++ List.replicate (n - t) 0
theorem partV_zero (F : Nat → Int) (n : Nat) : partV F 0 n = List.replicate n 0 := by simp [partV, fvals]
theorem partV_all (F : Nat → Int) (n : Nat) : partV F n n = fvals F n := by simp [partV]
theorem partV_len (F : Nat → Int) {t n : Nat} (h : t ≤ n) : (partV F t n).length = n := by simp [partV, fvals_len]; omega
theorem partV_take (F : Nat → Int) (t n : Nat) : (partV F t n).take t = fvals F t := by
 unfold partV; rw [List.take_append_of_le_length (by rw [fvals_len]; exact Nat.le_refl _)]; exact List.take_of_length_le (by rw [fvals_len]; exact Nat.le_refl _)
theorem partV_set (F : Nat → Int) {t n : Nat} (h : t < n) : (partV F t n).set t (F t) = partV F (t + 1) n := by
 unfold partV
 rw [List.set_append_right _ _ (by rw [fvals_len]; exact Nat.le_refl _), fvals_len, Nat.sub_self, show n - t = (n - (t + 1)) + 1 by omega, List.replicate_succ, List.set_cons_zero, fvals_snoc, List.append_assoc]
 rfl
theorem partV_nth (F : Nat → Int) {t k n : Nat} (h : t < k) : nth (partV F k n) t = F t := by
 have e : (partV F k n)[t]? = some (F t) := by
  unfold partV
  rw [List.getElem?_append_left (by rw [fvals_len]; exact h)]
  have := nth_get (xs := fvals F k) (i := t) (by rw [fvals_len]; exact h)
  rw [fvals_nth F h] at this
  exact this
 unfold nth; rw [List.getD_eq_getElem?_getD, e]; rfl
def cvV (f : Option Addr) (fc : Nat) (x : Cv × Int) : Value := .tuple #[.agg #[.slice f x.1.vals.length fc, .int .i64 x.1.per, .int .i64 x.1.inc], .int .i64 x.2]
def cuV (f : Option Addr) (fc : Nat) (x : Cv) : Value := .agg #[.slice f x.vals.length fc, .int .i64 x.per, .int .i64 x.inc]
theorem checkedE_vals (v : List Int) : checkedE v = 3 ∨ checkedE v = 0 := by unfold checkedE; split <;> simp
theorem checkedL_bad {v : List Int} {p q : Int} (h : checkedE v = 3) : checkedL v p q = (zcv, 3) := if_pos h
theorem checkedL_good {v : List Int} {p q : Int} (h : checkedE v ≠ 3) : checkedL v p q = (⟨v, p, q⟩, 0) := if_neg h
theorem checkedE_big {v : List Int} (h : 400 < v.length) : checkedE v = 3 := if_pos (.inl h)
theorem checkedE_one {v : List Int} {i : Nat} (hi : i < v.length) (h1 : nth v i ≠ INF) (h2 : MAXV < nth v i) : checkedE v = 3 :=
 if_pos (.inr (List.any_eq_true.2 ⟨_, nth_mem hi, by simp [h1, h2]⟩))
theorem checkedE_fine {v : List Int} (h : v.length ≤ 400) (hn : ∀ j, j < v.length → nth v j = INF ∨ nth v j ≤ MAXV) : checkedE v ≠ 3 := by
 unfold checkedE
 rw [if_neg]
 ·decide
 ·rintro (h1 | h1)
  ·omega
  ·obtain ⟨x, hx, h2⟩ := List.any_eq_true.1 h1
   obtain ⟨i, hi, rfl⟩ := List.getElem_of_mem hx
   have h3 := hn i hi
   rw [nth_eq hi] at h3
   simp at h2
   rcases h3 with h3 | h3
   ·exact h2.1 h3
   ·have := h2.2; omega
theorem infAt_some {F : Nat → Int} {n t : Nat} (ht : t < n) (h : F t = INF) (hn : ∀ j, j < t → F j ≠ INF) : infAt F n = t :=
 findFrom_some (Nat.zero_le _) (by omega) (by simp [h]) (fun j _ h2 => by simp [hn j h2])
theorem infAt_none {F : Nat → Int} {n : Nat} (hn : ∀ j, j < n → F j ≠ INF) : infAt F n = -1 :=
 findFrom_none (fun j _ h2 => by simp [hn j (by omega)])
theorem leastL_some {v : List Int} {inc : Int} {p : Nat} (h0 : 1 ≤ p) (h1 : p < v.length) (hp : leastOk v inc p = true) (hn : ∀ j, 1 ≤ j → j < p → leastOk v inc j = false) : leastL v inc = p := by
 unfold leastL
 rw [findFrom_some h0 (by omega) hp hn, if_neg (by omega), Int.toNat_natCast]
theorem leastL_none {v : List Int} {inc : Int} (h : ∀ j, 1 ≤ j → j < v.length → leastOk v inc j = false) : leastL v inc = v.length := by
 unfold leastL
 rw [if_pos (findFrom_none (fun j a b => h j a (by omega)))]
theorem leastL_pos {v : List Int} {inc : Int} (h : 0 < v.length) : 1 ≤ leastL v inc ∧ leastL v inc ≤ v.length := by
 unfold leastL
 rcases findFrom_cases (leastOk v inc) (v.length - 1) 1 with ⟨r, r1, r2, r3, r4, r5⟩ | ⟨r1, _⟩
 ·rw [r3, if_neg (by omega), Int.toNat_natCast]; omega
 ·rw [r1, if_pos rfl]; omega
def leastC (v : List Int) (inc : Int) (p i : Nat) : Bool := (if i + p < v.length then nth v (i + p) else nth v (i + p - v.length) + inc) == nth v i + inc * p / v.length
theorem leastOk_eq (v : List Int) (inc : Int) (p : Nat) : leastOk v inc p = (v.length % p == 0 && (inc * p) % v.length == 0 && (List.range v.length).all (leastC v inc p)) := rfl
theorem leastOk_no1 {v : List Int} {inc : Int} {p : Nat} (h : v.length % p ≠ 0 ∨ (inc * p) % v.length ≠ 0) : leastOk v inc p = false := by
 rw [leastOk_eq, ← Bool.not_eq_true]
 intro hh
 simp only [Bool.and_eq_true, beq_iff_eq] at hh
 rcases h with h | h
 ·exact h hh.1.1
 ·exact h hh.1.2
theorem leastOk_no2 {v : List Int} {inc : Int} {p i : Nat} (hi : i < v.length) (h : leastC v inc p i = false) : leastOk v inc p = false := by
 rw [leastOk_eq, ← Bool.not_eq_true]
 intro hh
 simp only [Bool.and_eq_true, List.all_eq_true, List.mem_range] at hh
 rw [hh.2 i hi] at h; cases h
theorem leastOk_yes {v : List Int} {inc : Int} {p : Nat} (h1 : v.length % p = 0) (h2 : (inc * p) % v.length = 0) (h3 : ∀ i, i < v.length → leastC v inc p i = true) : leastOk v inc p = true := by
 rw [leastOk_eq]
 simp only [Bool.and_eq_true, beq_iff_eq, List.all_eq_true, List.mem_range]
 exact ⟨⟨h1, h2⟩, h3⟩
theorem made_pre {F : Nat → Int} {S P : Nat} {I : Int} (hP : 0 < P ∧ P ≤ 10000) (hS : S ≤ 10000) (hI : 0 ≤ I ∧ I ≤ 549755813888) (hg : Grows F S P I) (hb : ∀ t, t ≤ S + P + P → 0 ≤ F t ∧ F t ≤ 10000000000000) :
  (∀ x ∈ fvals F (S + P), -2305843009213693952 ≤ x ∧ x ≤ 4611686018427387904) ∧
  perR ⟨fvals F (S + P), P, I⟩ (((fvals F (S + P)).length : Int) - P) P = true ∧
  (∀ t : Int, 0 ≤ t → t ≤ ((fvals F (S + P)).length : Int) + P → 0 ≤ atR (fvals F (S + P)) P I t ∧ atR (fvals F (S + P)) P I t ≤ 1000000000000000) ∧
  infL (fvals F (S + P)) = -1 ∧
  ((∀ x ∈ (normR ⟨fvals F (S + P), P, I⟩).vals, -2305843009213693952 ≤ x ∧ x ≤ 4611686018427387904) ∧ InR (normR ⟨fvals F (S + P), P, I⟩).per ∧ InR (normR ⟨fvals F (S + P), P, I⟩).inc) := by
 have hf : ∀ t, t < S + P → F t ≠ INF := fun t ht => by have := hb t (by omega); unfold INF; omega
 have hv : ∀ n, n ≤ S + P → ∀ x ∈ fvals F n, -2305843009213693952 ≤ x ∧ x ≤ 4611686018427387904 := fun n hn => all_of_nth (fun j hj => by
  rw [fvals_len] at hj
  rw [fvals_nth F hj]
  have := hb j (by omega)
  omega)
 refine ⟨hv _ (Nat.le_refl _), (perR_iff hP.1 hI.1 hg hf P).2 (PerOk.self hP.1 hg), fun t h0 h1 => ?_, infL_fvals _ hf, ?_⟩
 ·obtain ⟨n, rfl⟩ := Int.eq_ofNat_of_zero_le h0
  rw [fvals_len] at h1
  rw [atR_fvals hP.1 hg hf n]
  have := hb n (by omega)
  omega
 ·obtain ⟨p, s, h1, h2, h3, h4⟩ := normR_nf hP.1 hI.1 hg hf
  rw [h4]
  have hp := h1.least.1
  have a1 : 0 ≤ I * (p : Int) := Int.mul_nonneg hI.1 (by omega)
  have a2 : I * (p : Int) ≤ 549755813888 * 10000 := Int.mul_le_mul hI.2 (by omega) (by omega) (by omega)
  have a3 : 0 ≤ I * (p : Int) / (P : Int) := Int.ediv_nonneg a1 (by omega)
  have a4 : I * (p : Int) / (P : Int) ≤ 549755813888 * 10000 := Int.le_trans (Int.ediv_le_self _ a1) a2
  exact ⟨hv _ (by omega), by constructor <;> dsimp only <;> omega, by constructor <;> dsimp only <;> omega⟩
theorem robinH_shift {cap s : Int} {r p m : Nat} (hr : 0 < r) (hm : cap * (p : Int) = (m : Int) * s) (t y : Nat) : robinH cap s r (t + p) (y + m * r) = robinH cap s r t y := by
 unfold robinH
 have e1 : (((y + m * r : Nat) : Int)) / (r : Int) = (y : Int) / (r : Int) + m := by
  rw [Int.natCast_add, Int.natCast_mul]
  exact Int.add_mul_ediv_right _ _ (by omega)
 rw [e1]
 have e2 : (s - (r : Int)) * ((y : Int) / (r : Int) + (m : Int) + 1) = (s - (r : Int)) * ((y : Int) / (r : Int) + 1) + ((m : Int) * s - (m : Int) * (r : Int)) := by
  rw [show (y : Int) / (r : Int) + (m : Int) + 1 = ((y : Int) / (r : Int) + 1) + (m : Int) by omega, Int.mul_add, Int.sub_mul s (r : Int) (m : Int), Int.mul_comm s, Int.mul_comm (r : Int) (m : Int)]
 have e3 : cap * ((t + p : Nat) : Int) = cap * (t : Int) + (m : Int) * s := by rw [Int.natCast_add, Int.mul_add, hm]
 rw [e2, e3, Int.natCast_add, Int.natCast_mul]
 apply decide_eq_decide.2
 generalize (m : Int) * s = a
 generalize (m : Int) * (r : Int) = b
 generalize (s - (r : Int)) * ((y : Int) / (r : Int) + 1) = c
 omega
theorem robinH_low {cap s : Int} {r p m : Nat} (hr : 0 < r) (hs : (r : Int) ≤ s) (hc : 0 ≤ cap) (hm : cap * (p : Int) = (m : Int) * s) {t y : Nat} (hy : y < m * r) : robinH cap s r (t + p) y = false := by
 unfold robinH
 apply decide_eq_false
 have h1 : (y : Int) / (r : Int) + 1 ≤ m := by
  have : y / r < m := Nat.div_lt_of_lt_mul (by rw [Nat.mul_comm]; exact hy)
  have e : (y : Int) / (r : Int) = ((y / r : Nat) : Int) := rfl
  omega
 have h2 : (s - (r : Int)) * ((y : Int) / (r : Int) + 1) ≤ (s - (r : Int)) * (m : Int) := Int.mul_le_mul_of_nonneg_left h1 (by omega)
 have e2 : (s - (r : Int)) * (m : Int) = (m : Int) * s - ((m * r : Nat) : Int) := by rw [Int.sub_mul, Int.mul_comm s, Int.mul_comm (r : Int), Int.natCast_mul]
 have e3 : cap * ((t + p : Nat) : Int) = cap * (t : Int) + (m : Int) * s := by rw [Int.natCast_add, Int.mul_add, hm]
 have h3 : 0 ≤ cap * (t : Int) := Int.mul_nonneg hc (by omega)
 rw [e3]
 rw [e2] at h2
 generalize (m : Int) * s = a at *
 generalize (s - (r : Int)) * ((y : Int) / (r : Int) + 1) = c at *
 omega
theorem robinF_grows {cap s r : Int} {p m : Nat} (hc : 0 ≤ cap) (hr : 0 < r) (hs : r ≤ s) (hm : cap * (p : Int) = (m : Int) * s) : Grows (robinF cap s r) 0 p ((m : Int) * r) := by
 intro t _
 obtain ⟨rn, rfl⟩ := Int.eq_ofNat_of_zero_le (show 0 ≤ r by omega)
 have hrn : 0 < rn := by omega
 obtain ⟨a1, a2, a3⟩ := leastY_is (robinH_bound hr hs t hc)
 unfold robinF
 rw [leastY_eq (robinH_bound hr hs (t + p) hc) (lo := leastY (robinH cap s rn t) (cap * t).toNat + m * rn) (by rw [robinH_shift hrn hm]; exact a2) (fun j hj => ?_)]
 ·rw [Int.natCast_add, Int.natCast_mul]
 ·by_cases h : j < m * rn
  ·exact robinH_low hrn hs hc hm h
  ·obtain ⟨y, rfl⟩ : ∃ y, j = y + m * rn := ⟨j - m * rn, by omega⟩
   rw [robinH_shift hrn hm]
   exact a3 y (by omega)
theorem robinH_less {cap s r : Int} (hc : 0 ≤ cap) {t y : Nat} (h : robinH cap s r (t + 1) y = true) : robinH cap s r t y = true := by
 unfold robinH at h ⊢
 have h0 := of_decide_eq_true h
 have h1 : cap * ((t + 1 : Nat) : Int) = cap * (t : Int) + cap := by rw [Int.natCast_add, Int.mul_add]; simp
 rw [h1] at h0
 exact decide_eq_true (by omega)
theorem robinF_mono {cap s r : Int} (hc : 0 ≤ cap) (hr : 0 < r) (hs : r ≤ s) (t : Nat) : robinF cap s r t ≤ robinF cap s r (t + 1) := by
 obtain ⟨a1, a2, a3⟩ := leastY_is (robinH_bound hr hs t hc)
 obtain ⟨b1, b2, b3⟩ := leastY_is (robinH_bound hr hs (t + 1) hc)
 unfold robinF
 apply Int.ofNat_le.2
 apply Classical.byContradiction
 intro h
 have := a3 _ (Nat.lt_of_not_le h)
 rw [robinH_less hc b2] at this
 cases this
theorem robinF_bound {cap s r : Int} (hc : 0 ≤ cap) (hr : 0 < r) (hs : r ≤ s) (t : Nat) : 0 ≤ robinF cap s r t ∧ robinF cap s r t ≤ cap * t := by
 obtain ⟨a1, a2, a3⟩ := leastY_is (robinH_bound hr hs t hc)
 unfold robinF
 have : 0 ≤ cap * (t : Int) := Int.mul_nonneg hc (by omega)
 omega
structure RobOk (cap k : Int) (w : List Int) (z : List Sz) (cn kn m s p mm : Nat) (r : Int) : Prop where
  hcap : cap = cn
  hk : k = kn
  c1 : 1 ≤ cn ∧ cn ≤ 4000
  k1 : kn < z.length
  zl : z.length ≤ 6
  wl : w.length = z.length
  hw : ∀ x ∈ w, 1 ≤ x ∧ x ≤ 20
  hz : ∀ s ∈ z, 0 ≤ s.least ∧ s.least ≤ s.most ∧ s.most ≤ 1500
  hr : r = nth w kn * (nth z kn).least
  r1 : 1 ≤ r ∧ r ≤ 30000
  hm : (m : Int) = r + qSum k w z w.length
  m1 : m ≤ 210000
  hs : shortN m cn = s
  s1 : r ≤ s ∧ s ≤ 120 * cn
  hp : p = s / Nat.gcd s cn
  p1 : 1 ≤ p ∧ p ≤ 120
  hmm : (cn : Int) * p = mm * s
  mm1 : mm ≤ 4000
  hinc : (cn : Int) * p / s * r = mm * r
theorem mulB {a b A B : Int} (h1 : 0 ≤ a ∧ a ≤ A) (h2 : 0 ≤ b ∧ b ≤ B) : 0 ≤ a * b ∧ a * b ≤ A * B :=
 ⟨Int.mul_nonneg h1.1 h2.1, Int.mul_le_mul h1.2 h2.2 h2.1 (by omega)⟩
theorem rob_cases {cap k : Int} {w : List Int} {z : List Sz} (h0 : chkW 20 cap k w z = 0) (h1 : ¬ (nth z k.toNat).least < 1) :
    ∃ (cn kn m : Nat) (r : Int), cap = cn ∧ k = kn ∧ (1 ≤ cn ∧ cn ≤ 4000) ∧ kn < z.length ∧ z.length ≤ 6 ∧ w.length = z.length ∧ (∀ x ∈ w, 1 ≤ x ∧ x ≤ 20) ∧ (∀ s ∈ z, 0 ≤ s.least ∧ s.least ≤ s.most ∧ s.most ≤ 1500) ∧
      r = nth w kn * (nth z kn).least ∧ (1 ≤ r ∧ r ≤ 30000) ∧ (m : Int) = r + qSum k w z w.length ∧ m ≤ 210000 ∧
      ((shortN m cn = -1 ∧ robinC cap k w z = (zcv, 3)) ∨ ∃ s p mm, RobOk cap k w z cn kn m s p mm r ∧ robinC cap k w z = mbuild (robinF cap s r) 0 p (cap * p / s * r)) := by
  obtain ⟨c1, c2, k0, k1, zl, wl, hw, hz⟩ := chkW_ok h0
  obtain ⟨cn, rfl⟩ := Int.eq_ofNat_of_zero_le (show 0 ≤ cap by omega)
  obtain ⟨kn, rfl⟩ := Int.eq_ofNat_of_zero_le k0
  have hkn : kn < z.length := by omega
  rw [Int.toNat_natCast] at h1
  have hwk := hw _ (nth_mem (xs := w) (k := kn) (by omega))
  have hzk := hz _ (nth_mem hkn)
  have hr := mulB (a := nth w kn) (b := (nth z kn).least) (A := 20) (B := 1500) (by omega) (by omega)
  have hr1 : 1 ≤ nth w kn * (nth z kn).least := by
    have := Int.mul_le_mul (a := 1) (b := 1) (c := nth w kn) (d := (nth z kn).least) (by omega) (by omega) (by omega) (by omega)
    omega
  have hq := qSum_bound (k := (kn : Int)) hw hz w.length (Nat.le_refl _) (by omega)
  obtain ⟨m, hm⟩ := Int.eq_ofNat_of_zero_le (show 0 ≤ nth w kn * (nth z kn).least + qSum kn w z w.length by omega)
  have hm1 : m ≤ 210000 := by omega
  have hrob : robinC cn kn w z = if shortN m cn = -1 then (zcv, 3) else mbuild (robinF cn (shortN m cn) (nth w kn * (nth z kn).least)) 0 ((shortN m cn).toNat / Nat.gcd (shortN m cn).toNat cn) ((cn : Int) * (((shortN m cn).toNat / Nat.gcd (shortN m cn).toNat cn : Nat) : Int) / shortN m cn * (nth w kn * (nth z kn).least)) := by
    unfold robinC
    rw [if_neg (fun h => h h0), Int.toNat_natCast, if_neg h1]
    dsimp only
    rw [hm, Int.toNat_natCast, Int.toNat_natCast]
  refine ⟨cn, kn, m, nth w kn * (nth z kn).least, rfl, rfl, by omega, hkn, by omega, wl, hw, hz, rfl, ⟨hr1, by omega⟩, hm.symm, hm1, ?_⟩
  rcases shortN_cases m cn with h | ⟨s, e, s1, s2, s3⟩
  · exact .inl ⟨h, by rw [hrob, if_pos h]⟩
  · right
    have hg : 0 < Nat.gcd s cn := Nat.gcd_pos_of_pos_right _ (by omega)
    have hd1 : Nat.gcd s cn ∣ s := Nat.gcd_dvd_left _ _
    have hd2 : Nat.gcd s cn ∣ cn := Nat.gcd_dvd_right _ _
    have hs0 : 0 < s := by omega
    have e1 : cn * (s / Nat.gcd s cn) = cn / Nat.gcd s cn * s := by
      rw [← Nat.mul_div_assoc _ hd1, Nat.div_mul_right_comm hd2]
    have e2 : (cn : Int) * ((s / Nat.gcd s cn : Nat) : Int) = ((cn / Nat.gcd s cn : Nat) : Int) * (s : Int) := by
      rw [← Int.natCast_mul, e1, Int.natCast_mul]
    have e3 : (cn : Int) * ((s / Nat.gcd s cn : Nat) : Int) / (s : Int) = ((cn / Nat.gcd s cn : Nat) : Int) := by
      rw [e2]; exact Int.mul_ediv_cancel _ (by omega)
    refine ⟨s, s / Nat.gcd s cn, cn / Nat.gcd s cn, ?_, ?_⟩
    · exact { hcap := rfl, hk := rfl, c1 := by omega, k1 := hkn, zl := by omega, wl := wl, hw := hw, hz := hz, hr := rfl, r1 := ⟨hr1, by omega⟩, hm := hm.symm, m1 := hm1, hs := e, s1 := ⟨by omega, s2⟩, hp := rfl,
              p1 := ⟨Nat.div_pos (Nat.le_of_dvd hs0 hd1) hg, s3⟩, hmm := e2, mm1 := Nat.le_trans (Nat.div_le_self _ _) (by omega), hinc := by rw [e3] }
    · rw [hrob, e, if_neg (by omega), Int.toNat_natCast]
theorem RobOk.facts {cap k : Int} {w : List Int} {z : List Sz} {cn kn m s p mm : Nat} {r : Int} (h : RobOk cap k w z cn kn m s p mm r) :
  Grows (robinF cap s r) 0 p (cap * p / s * r) ∧ (0 ≤ cap * p / s * r ∧ cap * p / s * r ≤ 120000000) ∧ (∀ t, t ≤ 240 → 0 ≤ robinF cap s r t ∧ robinF cap s r t ≤ 960000) ∧
  mbuild (robinF cap s r) 0 p (cap * p / s * r) = madeR ⟨fvals (robinF cap s r) p, p, cap * p / s * r⟩ := by
 obtain ⟨rfl, rfl, c1, k1, zl, wl, hw, hz, hr, r1, hm, m1, hs, s1, hp, p1, hmm, mm1, hinc⟩ := h
 have hg : Grows (robinF cn s r) 0 p ((cn : Int) * p / s * r) := by rw [hinc]; exact robinF_grows (by omega) (by omega) s1.1 hmm
 have hi : 0 ≤ (cn : Int) * p / s * r ∧ (cn : Int) * p / s * r ≤ 120000000 := by
  rw [hinc]
  have := mulB (a := (mm : Int)) (b := r) (A := 4000) (B := 30000) (by omega) (by omega)
  omega
 have hb : ∀ t : Nat, t ≤ 240 → 0 ≤ robinF cn s r t ∧ robinF cn s r t ≤ 960000 := fun t ht => by
  have h1 := robinF_bound (cap := (cn : Int)) (s := (s : Int)) (r := r) (by omega) (by omega) s1.1 t
  have h2 := mulB (a := (cn : Int)) (b := (t : Int)) (A := 4000) (B := 240) (by omega) (by omega)
  omega
 refine ⟨hg, hi, hb, ?_⟩
 have hf : ∀ t, t < 0 + p → robinF cn s r t < INF := fun t ht => by have := hb t (by omega); unfold INF; omega
 rw [mbuild_fin (fun t ht => by have := hf t ht; omega), build_made (S' := 0) (by omega) hi.1 hg hg (fun t => robinF_mono (by omega) (by omega) s1.1 t) (hb 0 (by omega)).1 hf hf]
 simp only [Nat.zero_add]
def lcmN (a b : Nat) : Nat := a / Nat.gcd a b * b
theorem lcmN_facts {a b : Nat} (ha : 0 < a) (hb : 0 < b) : lcmN a b = b / Nat.gcd a b * a ∧ lcmN a b = a / Nat.gcd a b * b ∧ lcmN a b ≤ a * b ∧ 0 < lcmN a b := by
 have hg : 0 < Nat.gcd a b := Nat.gcd_pos_of_pos_right _ hb
 have h1 : Nat.gcd a b ∣ a := Nat.gcd_dvd_left _ _
 have h2 : Nat.gcd a b ∣ b := Nat.gcd_dvd_right _ _
 refine ⟨?_, rfl, Nat.mul_le_mul_right _ (Nat.div_le_self _ _), Nat.mul_pos (Nat.div_pos (Nat.le_of_dvd ha h1) hg) hb⟩
 unfold lcmN
 rw [Nat.div_mul_right_comm h1, Nat.div_mul_right_comm h2, Nat.mul_comm]
structure FC (F : Nat → Int) (S P : Nat) (I : Int) : Prop where
  hP : 1 ≤ P ∧ P ≤ 120
  hn : S + P ≤ 400
  hI : 0 ≤ I ∧ I ≤ 1073741824
  hg : Grows F S P I
  hm : ∀ t, F t ≤ F (t + 1)
  h0 : 0 ≤ F 0
  hb : ∀ t, t < S + P → F t ≤ 1073741824
section
variable {F G : Nat → Int} {S P S1 P1 S2 P2 : Nat} {I I1 I2 : Int}
theorem FC.nonneg (h : FC F S P I) (t : Nat) : 0 ≤ F t := by have := mono_le h.hm (Nat.zero_le t); have := h.h0; omega
theorem FC.mono (h : FC F S P I) {a b : Nat} (hab : a ≤ b) : F a ≤ F b := mono_le h.hm hab
theorem FC.bound (h : FC F S P I) (t : Nat) : F t ≤ 1073741824 * ((t : Int) + 2) := by
 have hP := h.hP
 have hI := h.hI
 induction t using Nat.strongRecOn with
 | _ t ih =>
  by_cases ht : t < S + P
  ·have := h.hb t ht; omega
  ·have h1 := ih (t - P) (by omega)
   have h2 := h.hg (t - P) (by omega)
   rw [show t - P + P = t by omega] at h2
   omega
theorem FC.fin (h : FC F S P I) {t : Nat} (ht : t < S + P) : F t ≠ INF := by have := h.hb t ht; unfold INF; omega
theorem FC.atR (h : FC F S P I) (t : Nat) : M.atR (fvals F (S + P)) P I (t : Int) = F t := atR_fvals (by have := h.hP; omega) h.hg (fun t ht => h.fin ht) t
theorem fc_line {c : Int} (h : 0 ≤ c ∧ c ≤ 1073741824) : FC (fun t => c * t) 0 1 c where
  hP := by omega
  hn := by omega
  hI := h
  hg := fun t _ => by dsimp only; rw [Int.natCast_add, Int.mul_add]; simp
  hm := fun t => by show c * (t : Int) ≤ c * ((t + 1 : Nat) : Int); rw [Int.natCast_add, Int.mul_add]; simp; omega
  h0 := by simp
  hb := fun t ht => by obtain rfl : t = 0 := by omega
                       simp
theorem build_fc (hP : 0 < P) (hI : 0 ≤ I) (hg : Grows F S P I) (hm : ∀ t, F t ≤ F (t + 1)) (h0 : 0 ≤ F 0) (hf : ∀ t, t < S + P → F t < INF) :
  (mbuild F S P I = (zcv, 3) ∨ ∃ (s p : Nat) (q : Int), mbuild F S P I = (⟨fvals F (s + p), p, q⟩, 0) ∧ FC F s p q) := by
 have hne : ∀ t, t < S + P → F t ≠ INF := fun t ht => by have := hf t ht; omega
 rw [mbuild_fin hne]
 obtain ⟨p, s, hnf, h1, h2, e⟩ := finL_nf hP hg hne
 rw [e]
 unfold nfC
 by_cases h3 : nfE F p s (I * p / P) = 3
 ·rw [if_pos h3]; exact .inl rfl
 ·rw [if_neg h3]
  right
  refine ⟨s, p, I * p / P, rfl, ?_⟩
  unfold nfE at h3
  have h4 : ¬ (120 < p ∨ MAXV < I * p / P ∨ 400 < s + p ∨ ((List.range (s + p)).any fun i => decide (F i > MAXV)) = true) := fun hh => h3 (if_pos hh)
  have hp := hnf.least.1
  refine ⟨by omega, by omega, ⟨Int.ediv_nonneg (Int.mul_nonneg hI (by omega)) (by omega), ?_⟩, hnf.starts.1, hm, h0, fun t ht => ?_⟩
  ·have : ¬ MAXV < I * p / P := fun hh => h4 (.inr (.inl hh))
   unfold MAXV at this; omega
  ·apply Classical.byContradiction
   intro hh
   refine h4 (.inr (.inr (.inr ?_)))
   rw [List.any_eq_true]
   exact ⟨t, List.mem_range.2 ht, decide_eq_true (by unfold MAXV; omega)⟩
theorem build_ok (hP : 0 < P ∧ P ≤ 120) (hI : 0 ≤ I ∧ I ≤ 1073741824) (hn : S + P ≤ 400) (hg : Grows F S P I) (hm : ∀ t, F t ≤ F (t + 1)) (h0 : 0 ≤ F 0) (hb : ∀ t, t < S + P → F t ≤ 1073741824) :
  ∃ (s p : Nat) (q : Int), mbuild F S P I = (⟨fvals F (s + p), p, q⟩, 0) ∧ FC F s p q ∧ s ≤ S ∧ p ≤ P := by
 have hf : ∀ t, t < S + P → F t < INF := fun t ht => by have := hb t ht; unfold INF; omega
 have hne : ∀ t, t < S + P → F t ≠ INF := fun t ht => by have := hf t ht; omega
 rw [mbuild_fin hne]
 obtain ⟨p, s, hnf, h1, h2, e⟩ := finL_nf hP.1 hg hne
 have hp := hnf.least.1
 have hq0 : 0 ≤ I * (p : Int) / P := Int.ediv_nonneg (Int.mul_nonneg hI.1 (by omega)) (by omega)
 have hq : I * (p : Int) / P ≤ I := by
  have h3 : I * (p : Int) ≤ I * (P : Int) := Int.mul_le_mul_of_nonneg_left (by omega) hI.1
  have h4 : I * (p : Int) / P ≤ I * (P : Int) / P := Int.ediv_le_ediv (by omega) h3
  rw [Int.mul_ediv_cancel _ (by omega)] at h4
  exact h4
 refine ⟨s, p, I * p / P, ?_, ⟨by omega, by omega, ⟨hq0, by omega⟩, hnf.starts.1, hm, h0, fun t ht => hb t (by omega)⟩, h2, h1⟩
 rw [e]
 unfold nfC
 rw [if_neg]
 unfold nfE
 rw [if_neg]
 ·decide
 ·rintro (h | h | h | h)
  ·omega
  ·unfold MAXV at h; omega
  ·omega
  ·rw [List.any_eq_true] at h
   obtain ⟨i, hi, h5⟩ := h
   have := hb i (by have := List.mem_range.1 hi; omega)
   have := of_decide_eq_true h5
   unfold MAXV at this; omega
def reachF (G : Nat → Int) (S P : Nat) (I v : Int) : Int × Bool :=
  if findFrom (fun t => decide (G t ≥ v)) (S + P) 0 ≠ -1 then (findFrom (fun t => decide (G t ≥ v)) (S + P) 0, true)
  else if I = 0 then (0, false)
  else (findFrom (fun t => decide (G t ≥ v)) (P + 1) (S + P + (((v - G (S + P - 1) + I - 1) / I).toNat - 1) * P), true)
theorem reach_facts (h : FC G S P I) {v : Int} (hI : I ≠ 0) (hv : G (S + P - 1) < v) : 1 ≤ (v - G (S + P - 1) + I - 1) / I ∧ ((v - G (S + P - 1) + I - 1) / I) * I ≤ v - G (S + P - 1) + I - 1 ∧
  G (S + P + (((v - G (S + P - 1) + I - 1) / I).toNat - 1) * P + (P - 1)) = G (S + P - 1) + ((v - G (S + P - 1) + I - 1) / I) * I ∧ v ≤ G (S + P - 1) + ((v - G (S + P - 1) + I - 1) / I) * I := by
 have hI0 := h.hI
 have hP := h.hP
 have hk : 1 ≤ (v - G (S + P - 1) + I - 1) / I := Int.le_ediv_of_mul_le (by omega) (by omega)
 have hk2 : ((v - G (S + P - 1) + I - 1) / I) * I ≤ v - G (S + P - 1) + I - 1 := Int.ediv_mul_le _ (by omega)
 have hk3 := Int.lt_mul_ediv_self_add (x := v - G (S + P - 1) + I - 1) (k := I) (by omega)
 rw [Int.mul_comm] at hk3
 refine ⟨hk, hk2, ?_, by omega⟩
 obtain ⟨k, e⟩ := Int.eq_ofNat_of_zero_le (show 0 ≤ (v - G (S + P - 1) + I - 1) / I by omega)
 rw [e, Int.toNat_natCast]
 obtain ⟨k', rfl⟩ : ∃ m, k = m + 1 := ⟨k - 1, by omega⟩
 have hg := h.hg.mul (k' + 1) (S + P - 1) (by omega)
 rw [show S + P + (k' + 1 - 1) * P + (P - 1) = S + P - 1 + (k' + 1) * P by rw [Nat.add_sub_cancel, Nat.add_mul k' 1 P]; omega]
 exact hg
def greatW (f : Nat → Int × Bool) : Nat → Nat → Int → Int → Bool × Int × Int
  | 0, _, v, a => (false, v, a)
  | n + 1, t, v, a => if (f t).2 = false then (true, 0, 0) else if (f t).1 > v then greatW f n (t + 1) (f t).1 t else greatW f n (t + 1) v a
theorem greatW_sound {f : Nat → Int × Bool} : ∀ (n t : Nat) (v a : Int), (greatW f n t v a).1 = false → v ≤ (greatW f n t v a).2.1 ∧ ∀ u, t ≤ u → u < t + n → (f u).2 = true ∧ (f u).1 ≤ (greatW f n t v a).2.1
 | 0, t, v, a, _ => ⟨Int.le_refl _, fun u h1 h2 => by omega⟩
 | n + 1, t, v, a, h => by
  simp only [greatW] at h ⊢
  by_cases h1 : (f t).2 = false
  ·rw [if_pos h1] at h; cases h
  ·rw [if_neg h1] at h ⊢
   have h1' : (f t).2 = true := by simpa using h1
   by_cases h2 : (f t).1 > v
   ·rw [if_pos h2] at h ⊢
    obtain ⟨k1, k2⟩ := greatW_sound n (t + 1) _ _ h
    refine ⟨by omega, fun u hu1 hu2 => ?_⟩
    by_cases e : u = t
    ·subst e; exact ⟨h1', k1⟩
    ·exact k2 u (by omega) (by omega)
   ·rw [if_neg h2] at h ⊢
    obtain ⟨k1, k2⟩ := greatW_sound n (t + 1) _ _ h
    refine ⟨k1, fun u hu1 hu2 => ?_⟩
    by_cases e : u = t
    ·subst e; exact ⟨h1', by omega⟩
    ·exact k2 u (by omega) (by omega)
end
theorem reach_bound {G : Nat → Int} {S P : Nat} {I v : Int} (h : FC G S P I) (hv : 0 ≤ v ∧ v ≤ 1000000000000000) : -1 ≤ (reachF G S P I v).1 ∧ (reachF G S P I v).1 ≤ 200000000000000000 := by
 unfold reachF
 have hP := h.hP
 have hn := h.hn
 have hI0 := h.hI
 rcases findFrom_cases (fun t => decide (G t ≥ v)) (S + P) 0 with ⟨i, h1, h2, h3, h4, h5⟩ | ⟨h1, h2⟩
 ·rw [h3, if_pos (by omega)]; dsimp only; omega
 ·rw [h1, if_neg (fun hh => hh rfl)]
  by_cases hI : I = 0
  ·rw [if_pos hI]; dsimp only; omega
  ·rw [if_neg hI]
   have hlast := of_decide_eq_false (h2 (S + P - 1) (by omega) (by omega))
   obtain ⟨g1, g2, g3, g4⟩ := reach_facts h hI (show G (S + P - 1) < v by omega)
   have hl0 := h.nonneg (S + P - 1)
   have hk : (v - G (S + P - 1) + I - 1) / I ≤ v + I := by
    have : ((v - G (S + P - 1) + I - 1) / I) * 1 ≤ ((v - G (S + P - 1) + I - 1) / I) * I := Int.mul_le_mul_of_nonneg_left (by omega) (by omega)
    omega
   generalize (v - G (S + P - 1) + I - 1) / I = k at *
   have hkP : (k.toNat - 1) * P ≤ 1100000000000000 * 120 := Nat.mul_le_mul (by omega) (by omega)
   dsimp only
   rcases findFrom_cases (fun t => decide (G t ≥ v)) (P + 1) (S + P + (k.toNat - 1) * P) with ⟨i, k1, k2, k3, _, _⟩ | ⟨k1, _⟩
   ·rw [k3]; omega
   ·rw [k1]; omega
theorem grows_mod {F : Nat → Int} {S m n : Nat} {J I : Int} (hm : Grows F S m J) (hn : Grows F S n I) : Grows F S (n % m) (I - ((n / m : Nat) : Int) * J) := fun t ht => by
 have h1 := hm.mul (n / m) (t + n % m) (by omega)
 have h2 := hn t ht
 have e : t + n % m + n / m * m = t + n := by
  have := Nat.mod_add_div n m
  rw [Nat.mul_comm] at this
  omega
 rw [e, h2] at h1
 omega
theorem grows_gcd {F : Nat → Int} {S : Nat} (m n : Nat) : ∀ (J I : Int), Grows F S m J → Grows F S n I → ∃ K : Int, Grows F S (Nat.gcd m n) K := by
 refine Nat.gcd.induction (P := fun m n => ∀ (J I : Int), Grows F S m J → Grows F S n I → ∃ K : Int, Grows F S (Nat.gcd m n) K) m n ?_ ?_
 ·intro n J I _ h
  exact ⟨I, by rw [Nat.gcd_zero_left]; exact h⟩
 ·intro m n _ ih J I hm hn
  obtain ⟨K, h⟩ := ih _ _ (grows_mod hm hn) hm
  exact ⟨K, by rw [Nat.gcd_rec]; exact h⟩
theorem grows_fac {F : Nat → Int} {S p : Nat} {J I : Int} {k : Nat} (h1 : Grows F S p J) (h2 : Grows F S (k * p) I) : I = k * J := by
 have a := h1.mul k S (Nat.le_refl _)
 have b := h2 S (Nat.le_refl _)
 omega
theorem PerOk.of_late {F : Nat → Int} {S S' P p : Nat} {I J : Int} (hP : 0 < P) (hp : P % p = 0) (hg : Grows F S P I) (h : Grows F S' p J) : PerOk F S P I p := by
 have hl : Grows F (S' + S) P I := hg.mono (by omega)
 have hj : Grows F (S' + S) p J := h.mono (by omega)
 obtain ⟨k, hk⟩ : ∃ k, P = k * p := ⟨P / p, by
  have := Nat.mod_add_div P p
  rw [Nat.mul_comm (P / p) p]
  omega⟩
 have hI : I = k * J := grows_fac hj (by rw [← hk]; exact hl)
 have e : I * (p : Int) = J * (P : Int) := by
  rw [hI, hk]
  rw [Int.natCast_mul, Int.mul_comm (k : Int) J, Int.mul_assoc]
 refine ⟨hp, by rw [e]; exact Int.mul_emod_left J P, fun t ht _ => ?_⟩
 rw [e, Int.mul_ediv_cancel _ (by omega)]
 have a1 := hg.mul S' t ht
 have a2 := hg.mul S' (t + p) (by omega)
 have h1 : S' ≤ S' * P := Nat.le_mul_of_pos_right S' hP
 have a3 := h (t + S' * P) (by omega)
 rw [show t + S' * P + p = t + p + S' * P by omega] at a3
 omega
theorem nf_same {F : Nat → Int} {S S' P P' : Nat} {I I' : Int} {p p' s s' : Nat} (hP : 0 < P) (hP' : 0 < P') (hg : Grows F S P I) (hg' : Grows F S' P' I') (h : NF F S P I p s) (h' : NF F S' P' I' p' s') : p = p' ∧ s = s' ∧ I * p / P = I' * p' / P' := by
 have g1 := h.least.2.1.all hP hg
 have g2 := h'.least.2.1.all hP' hg'
 have p1 := h.least.1
 have p2 := h'.least.1
 obtain ⟨K, hK⟩ := grows_gcd p p' _ _ (g1.mono (show S ≤ S + S' by omega)) (g2.mono (show S' ≤ S + S' by omega))
 have hg0 : 0 < Nat.gcd p p' := Nat.gcd_pos_of_pos_left _ (by omega)
 have d1 : P % Nat.gcd p p' = 0 := Nat.mod_eq_zero_of_dvd (Nat.dvd_trans (Nat.gcd_dvd_left p p') (Nat.dvd_of_mod_eq_zero h.least.2.1.1))
 have d2 : P' % Nat.gcd p p' = 0 := Nat.mod_eq_zero_of_dvd (Nat.dvd_trans (Nat.gcd_dvd_right p p') (Nat.dvd_of_mod_eq_zero h'.least.2.1.1))
 have e1 : p = Nat.gcd p p' := by
  have hle := Nat.gcd_le_left p' (show 0 < p by omega)
  rcases Nat.lt_or_eq_of_le hle with hlt | he
  ·exact absurd (PerOk.of_late hP d1 hg hK) (h.least.2.2 _ hg0 hlt)
  ·exact he.symm
 have e2 : p' = Nat.gcd p p' := by
  have hle := Nat.gcd_le_right p (show 0 < p' by omega)
  rcases Nat.lt_or_eq_of_le hle with hlt | he
  ·exact absurd (PerOk.of_late hP' d2 hg' hK) (h'.least.2.2 _ hg0 hlt)
  ·exact he.symm
 have e3 : p = p' := by omega
 subst e3
 have e4 : I * p / P = I' * p / P' := by
  have a := g1 (S + S') (by omega)
  have b := g2 (S + S') (by omega)
  omega
 refine ⟨rfl, ?_, e4⟩
 have hs := h'.starts
 rw [← e4] at hs
 exact h.starts.unique hs
section
variable {F : Nat → Int} {S P S' P' : Nat} {I I' : Int}
theorem build_made_fin (hP : 0 < P) (hI : 0 ≤ I) (hg : Grows F S P I) (hP' : 0 < P') (hI' : 0 ≤ I') (hg' : Grows F S' P' I') (hm : ∀ t, F t ≤ F (t + 1)) (h0 : 0 ≤ F 0) (hf : ∀ t, t < S + P → F t < INF) (hf' : ∀ t, t < S' + P' → F t < INF) : mbuild F S P I = madeR ⟨fvals F (S' + P'), P', I'⟩ := by
 have hne : ∀ t, t < S + P → F t ≠ INF := fun t ht => by have := hf t ht; omega
 rw [mbuild_fin hne]
 obtain ⟨p, s, h1, _, _, h2⟩ := finL_nf hP hg hne
 obtain ⟨p', s', h3, _, _, h4⟩ := madeR_nf hP' hI' hg' hm h0 hf'
 obtain ⟨e1, e2, e3⟩ := nf_same hP hP' hg hg' h1 h3
 subst e1; subst e2
 rw [h2, h4, e3]
theorem mbuild_inf {n : Nat} (hn : n < S + P) (hi : F n = INF) (hf : ∀ t, t < n → F t ≠ INF) : mbuild F S P I = checkedL (fvals F (n + 1)) 1 0 := by
 unfold mbuild
 rw [infAt_some hn hi hf, if_neg (by omega), Int.toNat_natCast]
theorem infL_some {n m : Nat} (hn : n < m) (hi : F n = INF) (hf : ∀ t, t < n → F t ≠ INF) : infL (fvals F m) = n := by
 unfold infL
 rw [fvals_len]
 exact findFrom_some (Nat.zero_le _) (by omega) (by rw [fvals_nth F hn, hi]; simp) (fun j _ hj => by rw [fvals_nth F (by omega)]; simp [hf j hj])
theorem normR_inf {n m : Nat} {per inc : Int} (hn : n < m) (hi : F n = INF) (hf : ∀ t, t < n → F t ≠ INF) : normR ⟨fvals F m, per, inc⟩ = ⟨fvals F (n + 1), 1, 0⟩ := by
 unfold normR
 dsimp only
 rw [infL_some hn hi hf, if_neg (by omega), Int.toNat_natCast, fvals_take F (by omega)]
theorem valid_inf {n : Nat} (hi : F n = INF) (hf : ∀ t, t < n → 0 ≤ F t ∧ F t < INF) (hm : ∀ t, t < n → F t ≤ F (t + 1)) : validB ⟨fvals F (n + 1), 1, 0⟩ = true ↔ n + 1 ≤ 400 ∧ ∀ t, t < n → F t ≤ MAXV := by
 rw [validB_iff]
 dsimp only
 rw [fvals_len, fvals_nth F (show n + 1 - 1 < n + 1 by omega), show n + 1 - 1 = n by omega, if_pos hi]
 constructor
 ·rintro ⟨⟨_, h2, _⟩, h3, _⟩
  refine ⟨h2, fun t ht => ?_⟩
  have := (h3 t (by omega)).1
  rw [fvals_nth F (by omega)] at this
  have h5 := hf t ht
  rcases this with h | h <;> omega
 ·rintro ⟨h1, h2⟩
  refine ⟨⟨by omega, h1, by decide, by decide, by omega, by decide, by unfold MAXV; omega⟩, fun i hi' => ?_, rfl, rfl⟩
  rw [fvals_nth F hi']
  refine ⟨?_, ?_⟩
  ·by_cases e : i = n
   ·subst e; exact .inl hi
   ·exact .inr ⟨(hf i (by omega)).1, h2 i (by omega)⟩
  ·by_cases e : i = 0
   ·exact .inl e
   ·right
    rw [fvals_nth F (by omega)]
    have := hm (i - 1) (by omega)
    rwa [show i - 1 + 1 = i by omega] at this
theorem checked_inf {n : Nat} (hi : F n = INF) (hf : ∀ t, t < n → 0 ≤ F t ∧ F t < INF) : checkedE (fvals F (n + 1)) ≠ 3 ↔ n + 1 ≤ 400 ∧ ∀ t, t < n → F t ≤ MAXV := by
 constructor
 ·intro h
  refine ⟨?_, fun t ht => ?_⟩
  ·apply Classical.byContradiction
   intro hn
   exact h (checkedE_big (by rw [fvals_len]; omega))
  ·apply Classical.byContradiction
   intro hn
   have := hf t ht
   exact h (checkedE_one (i := t) (by rw [fvals_len]; omega) (by rw [fvals_nth F (by omega)]; omega) (by rw [fvals_nth F (by omega)]; omega))
 ·rintro ⟨h1, h2⟩
  refine checkedE_fine (by rw [fvals_len]; exact h1) (fun j hj => ?_)
  rw [fvals_len] at hj
  rw [fvals_nth F hj]
  by_cases e : j = n
  ·subst e; exact .inl hi
  ·exact .inr (h2 j (by omega))
theorem build_made_inf {n m : Nat} {per inc : Int} (hn : n < S + P) (hn' : n < m) (hi : F n = INF) (hf : ∀ t, t < n → 0 ≤ F t ∧ F t < INF) (hm : ∀ t, t < n → F t ≤ F (t + 1)) : mbuild F S P I = madeR ⟨fvals F m, per, inc⟩ := by
 have hne : ∀ t, t < n → F t ≠ INF := fun t ht => by have := hf t ht; omega
 rw [mbuild_inf hn hi hne]
 unfold madeR
 rw [normR_inf hn' hi hne]
 by_cases hv : validB ⟨fvals F (n + 1), 1, 0⟩ = true
 ·rw [if_pos hv, checkedL_good ((checked_inf hi hf).2 ((valid_inf hi hf hm).1 hv))]
 ·rw [if_neg hv, checkedL_bad]
  rcases checkedE_vals (fvals F (n + 1)) with h | h
  ·exact h
  ·exact absurd ((valid_inf hi hf hm).2 ((checked_inf hi hf).1 (by omega))) hv
end
structure IC (F : Nat → Int) (n : Nat) : Prop where
  hn : n < 400
  hi : ∀ t, n ≤ t → F t = INF
  hb : ∀ t, t < n → 0 ≤ F t ∧ F t ≤ 1073741824
  hm : ∀ t, F t ≤ F (t + 1)
def cvF (c : Cv) (t : Nat) : Int := atR c.vals c.per c.inc (t : Int)
theorem cvF_low {c : Cv} {t : Nat} (ht : t < c.vals.length) : cvF c t = nth c.vals t := by
 unfold cvF atR
 rw [if_neg (by omega), if_pos (by omega), Int.toNat_natCast]
theorem cvF_vals (c : Cv) : c.vals = fvals (cvF c) c.vals.length := fvals_eq (fun i hi => (cvF_low hi).symm)
def cvJ (n P t : Nat) : Nat := t - ((t - n) / P + 1) * P
theorem cvJ_at {n P t : Nat} (hP : 1 ≤ P ∧ P ≤ n) (ht : n ≤ t) : n - P ≤ cvJ n P t ∧ cvJ n P t < n ∧ cvJ n P t + ((t - n) / P + 1) * P = t := by
 have hd := Nat.mod_add_div (t - n) P
 have hm := Nat.mod_lt (t - n) (show 0 < P by omega)
 have hmul : ((t - n) / P + 1) * P = P * ((t - n) / P) + P := by rw [Nat.add_mul, Nat.mul_comm]; simp
 unfold cvJ
 omega
theorem cvF_high {c : Cv} {P : Nat} (hc : c.per = P) (hP : 1 ≤ P ∧ P ≤ c.vals.length) {t : Nat} (ht : c.vals.length ≤ t) :
  cvF c t = if nth c.vals (cvJ c.vals.length P t) = INF then INF else nth c.vals (cvJ c.vals.length P t) + (((t - c.vals.length) / P + 1 : Nat) : Int) * c.inc := by
 obtain ⟨j1, j2, j3⟩ := cvJ_at hP ht
 unfold cvF atR
 have e1 : ((t : Int) - (c.vals.length : Int)) / c.per + 1 = (((t - c.vals.length) / P + 1 : Nat) : Int) := by
  rw [hc, show (t : Int) - (c.vals.length : Int) = ((t - c.vals.length : Nat) : Int) by omega]
  rfl
 rw [if_neg (by omega), if_neg (by omega), e1, hc]
 have e2 : ((t : Int) - (((t - c.vals.length) / P + 1 : Nat) : Int) * (P : Int)).toNat = cvJ c.vals.length P t := by
  rw [← Int.natCast_mul]
  omega
 rw [e2]
 rfl
section
variable {c : Cv}
theorem valid_each (h : validB c = true) : ∀ i, i < c.vals.length → (nth c.vals i = INF ∨ (0 ≤ nth c.vals i ∧ nth c.vals i ≤ MAXV)) := fun i hi => ((validB_iff.1 h).2.1 i hi).1
theorem valid_mono (h : validB c = true) {i : Nat} : ∀ {j : Nat}, i ≤ j → j < c.vals.length → nth c.vals i ≤ nth c.vals j
  | 0, hij, _ => by obtain rfl : i = 0 := by omega
                    exact Int.le_refl _
  | j + 1, hij, hj => by
    by_cases e : i = j + 1
    · subst e; exact Int.le_refl _
    · have a := valid_mono h (i := i) (j := j) (by omega) (by omega)
      have b := (((validB_iff.1 h).2.1 (j + 1) hj).2).resolve_left (by omega)
      rw [show j + 1 - 1 = j by omega] at b
      omega
theorem valid_fin (h : validB c = true) (hf : nth c.vals (c.vals.length - 1) ≠ INF) : ∃ S P : Nat, c.per = P ∧ c.vals.length = S + P ∧ FC (cvF c) S P c.inc := by
 obtain ⟨⟨h1, h2, h3, h4, h5, h6, h7⟩, _, h8⟩ := validB_iff.1 h
 rw [if_neg hf] at h8
 obtain ⟨P, hP⟩ := Int.eq_ofNat_of_zero_le (show 0 ≤ c.per by omega)
 have hPn : 1 ≤ P ∧ P ≤ c.vals.length := by omega
 have hlow : ∀ t, t < c.vals.length → 0 ≤ cvF c t ∧ cvF c t ≤ 1073741824 := fun t ht => by
  rw [cvF_low ht]
  have a := valid_mono h (i := t) (j := c.vals.length - 1) (by omega) (by omega)
  have b := valid_each h (c.vals.length - 1) (by omega)
  have d := valid_each h t ht
  unfold INF MAXV at b d
  unfold INF at hf
  omega
 have hfin : ∀ j, j < c.vals.length → nth c.vals j ≠ INF := fun j hj => by
  have := hlow j hj
  rw [cvF_low hj] at this
  unfold INF; omega
 have hg : Grows (cvF c) (c.vals.length - P) P c.inc := fun t ht => by
  obtain ⟨j1, j2, j3⟩ := cvJ_at hPn (show c.vals.length ≤ t + P by omega)
  rw [cvF_high hP hPn (show c.vals.length ≤ t + P by omega), if_neg (hfin _ j2)]
  by_cases hn : t < c.vals.length
  ·have e : (t + P - c.vals.length) / P = 0 := Nat.div_eq_of_lt (by omega)
   rw [e] at j3 ⊢
   have ej : cvJ c.vals.length P (t + P) = t := by omega
   rw [ej, cvF_low hn]; simp
  ·obtain ⟨i1, i2, i3⟩ := cvJ_at hPn (show c.vals.length ≤ t by omega)
   rw [cvF_high hP hPn (show c.vals.length ≤ t by omega), if_neg (hfin _ i2)]
   have e : (t + P - c.vals.length) / P = (t - c.vals.length) / P + 1 := by
    rw [show t + P - c.vals.length = t - c.vals.length + P by omega, Nat.add_div_right _ (by omega)]
   rw [e] at j3 ⊢
   have ej : cvJ c.vals.length P (t + P) = cvJ c.vals.length P t := by
    have : ((t - c.vals.length) / P + 1 + 1) * P = ((t - c.vals.length) / P + 1) * P + P := by rw [Nat.add_mul _ 1 P]; simp
    omega
   rw [ej]
   have e3 : (((t - c.vals.length) / P + 1 + 1 : Nat) : Int) * c.inc = (((t - c.vals.length) / P + 1 : Nat) : Int) * c.inc + c.inc := by
    rw [Int.natCast_add _ 1, Int.add_mul]; simp
   rw [e3]; omega
 have hstep : ∀ t, t + 1 ≤ c.vals.length → cvF c t ≤ cvF c (t + 1) := fun t ht => by
  by_cases e : t + 1 < c.vals.length
  ·rw [cvF_low e, cvF_low (show t < c.vals.length by omega)]
   exact valid_mono h (by omega) e
  ·have g := hg (c.vals.length - P) (Nat.le_refl _)
   rw [show c.vals.length - P + P = t + 1 by omega, cvF_low (show c.vals.length - P < c.vals.length by omega)] at g
   rw [g, cvF_low (show t < c.vals.length by omega)]
   rw [hP, Int.toNat_natCast, show c.vals.length - 1 = t by omega] at h8
   exact h8
 refine ⟨c.vals.length - P, P, hP, by omega, by omega, by omega, by unfold MAXV at h7; omega, hg, ?_, (hlow 0 (by omega)).1, fun t ht => (hlow t (by omega)).2⟩
 intro t
 induction t using Nat.strongRecOn with
 | _ t ih =>
  by_cases ht : t + 1 ≤ c.vals.length
  ·exact hstep t ht
  ·have a := ih (t - P) (by omega)
   have g1 := hg (t - P) (by omega)
   have g2 := hg (t - P + 1) (by omega)
   rw [show t - P + P = t by omega] at g1
   rw [show t - P + 1 + P = t + 1 by omega] at g2
   omega
theorem valid_ic (h : validB c = true) (hf : nth c.vals (c.vals.length - 1) = INF) : c.per = 1 ∧ c.inc = 0 ∧ ∃ n : Nat, n < c.vals.length ∧ infL c.vals = n ∧ IC (cvF c) n := by
 obtain ⟨⟨h1, h2, h3, h4, h5, h6, h7⟩, _, h8⟩ := validB_iff.1 h
 rw [if_pos hf] at h8
 refine ⟨h8.1, h8.2, ?_⟩
 unfold infL
 rcases findFrom_cases (fun i => nth c.vals i == INF) c.vals.length 0 with ⟨n, n1, n2, n3, n4, n5⟩ | ⟨_, n2⟩
 ·rw [n3]
  have hnI : nth c.vals n = INF := by simpa using n4
  have hlow : ∀ t, t < n → 0 ≤ nth c.vals t ∧ nth c.vals t ≤ 1073741824 := fun t ht => by
   have a := valid_each h t (by omega)
   have b := n5 t (by omega) ht
   unfold MAXV at a
   rcases a with a | a
   ·rw [a] at b; simp at b
   ·exact a
  have hhi : ∀ t, n ≤ t → cvF c t = INF := fun t ht => by
   by_cases e : t < c.vals.length
   ·rw [cvF_low e]
    have a := valid_mono h ht e
    have b := valid_each h t e
    rw [hnI] at a
    unfold MAXV INF at b
    unfold INF at a ⊢
    omega
   ·obtain ⟨j1, j2, j3⟩ := cvJ_at (n := c.vals.length) (P := 1) (t := t) (by omega) (by omega)
    have ej : cvJ c.vals.length 1 t = c.vals.length - 1 := by omega
    rw [cvF_high (P := 1) (by rw [h8.1]; rfl) (by omega) (by omega), ej, if_pos hf]
  refine ⟨n, by omega, rfl, by omega, hhi, fun t ht => by rw [cvF_low (by omega)]; exact hlow t ht, fun t => ?_⟩
  by_cases ht : t + 1 < n
  ·rw [cvF_low (show t + 1 < c.vals.length by omega), cvF_low (show t < c.vals.length by omega)]
   exact valid_mono h (by omega) (by omega)
  ·rw [hhi (t + 1) (by omega)]
   by_cases e : t < n
   ·rw [cvF_low (by omega)]
    have := hlow t e
    unfold INF; omega
   ·rw [hhi t (by omega)]; exact Int.le_refl _
 ·have := n2 (c.vals.length - 1) (by omega) (by omega)
  rw [hf] at this; simp at this
def finB (c : Cv) : Bool := nth c.vals (c.vals.length - 1) != INF
theorem cv_eq {S P : Nat} (hP : c.per = P) (hn : c.vals.length = S + P) : c = ⟨fvals (cvF c) (S + P), P, c.inc⟩ := by
 have := cvF_vals c
 rw [hn] at this
 cases c
 simp only at *
 subst hP
 rw [← this]
theorem cv_eqI {n : Nat} (hP : c.per = 1) (hI : c.inc = 0) (hn : n < c.vals.length) : c = ⟨fvals (cvF c) c.vals.length, 1, 0⟩ := by
 have := cvF_vals c
 cases c
 simp only at *
 subst hP; subst hI
 rw [← this]
end
theorem cvF_fc {F : Nat → Int} {S P : Nat} {I : Int} (h : FC F S P I) : cvF ⟨fvals F (S + P), P, I⟩ = F := funext fun t => h.atR t
theorem cvF_ic {F : Nat → Int} {n m : Nat} (h : IC F n) (hm : n < m) : cvF ⟨fvals F m, 1, 0⟩ = F := funext fun t => by
 by_cases ht : t < m
 ·rw [cvF_low (by rw [fvals_len]; exact ht)]
  exact fvals_nth F ht
 ·have hl : (fvals F m).length = m := fvals_len F m
  rw [cvF_high (c := ⟨fvals F m, 1, 0⟩) (P := 1) rfl (by rw [hl]; omega) (by rw [hl]; omega)]
  obtain ⟨j1, j2, j3⟩ := cvJ_at (n := m) (P := 1) (t := t) (by omega) (by omega)
  rw [hl]
  dsimp only
  rw [show cvJ m 1 t = m - 1 by omega, fvals_nth F (by omega), h.hi _ (by omega), if_pos rfl, h.hi t (by omega)]
theorem IC.fin {F : Nat → Int} {n t : Nat} (h : IC F n) (ht : t < n) : F t ≠ INF := by have := h.hb t ht; unfold INF; omega
theorem IC.valid {F : Nat → Int} {n m : Nat} (h : IC F n) (hm : n < m) (hm' : m ≤ 400) : validB ⟨fvals F m, 1, 0⟩ = true := by
 rw [validB_iff]
 dsimp only
 rw [fvals_len, fvals_nth F (show m - 1 < m by omega), if_pos (h.hi _ (by omega))]
 refine ⟨⟨by omega, hm', by decide, by decide, by omega, by decide, by unfold MAXV; omega⟩, fun i hi => ?_, rfl, rfl⟩
 rw [fvals_nth F hi]
 refine ⟨?_, ?_⟩
 ·by_cases e : i < n
  ·have := h.hb i e
   right; unfold MAXV; exact this
  ·exact .inl (h.hi i (by omega))
 ·by_cases e : i = 0
  ·exact .inl e
  ·right
   rw [fvals_nth F (by omega)]
   have := h.hm (i - 1)
   rwa [show i - 1 + 1 = i by omega] at this
theorem FC.valid' {F : Nat → Int} {S P : Nat} {I : Int} (h : FC F S P I) : validB ⟨fvals F (S + P), P, I⟩ = true := by
 have hP := h.hP
 have hn := h.hn
 have hI := h.hI
 rw [validB_iff]
 dsimp only
 rw [fvals_len]
 refine ⟨⟨by omega, by omega, by omega, by omega, by omega, by omega, by unfold MAXV; omega⟩, fun i hi => ?_, ?_⟩
 ·rw [fvals_nth F hi]
  have a := h.nonneg i
  have b := h.hb i hi
  refine ⟨.inr ⟨a, by unfold MAXV; omega⟩, ?_⟩
  by_cases h0 : i = 0
  ·exact .inl h0
  ·right
   rw [fvals_nth F (by omega)]
   exact h.mono (show i - 1 ≤ i by omega)
 ·rw [fvals_nth F (by omega), if_neg (h.fin (by omega)), Int.toNat_natCast, fvals_nth F (by omega)]
  have h1 := h.hg (S + P - P) (by omega)
  have h2 := h.mono (show S + P - 1 ≤ S + P - P + P by omega)
  omega
theorem FC.norm {F : Nat → Int} {S P : Nat} {I : Int} (h : FC F S P I) : ∃ (s p : Nat) (q : Int), normR ⟨fvals F (S + P), P, I⟩ = ⟨fvals F (s + p), p, q⟩ ∧ FC F s p q ∧ s ≤ S ∧ p ≤ P ∧ NF F S P I p s ∧ q = I * p / P := by
 have hP := h.hP
 have hI := h.hI
 obtain ⟨p, s, h1, h2, h3, h4⟩ := normR_nf (by omega) hI.1 h.hg (fun t ht => h.fin ht)
 have hp := h1.least.1
 have hq0 : 0 ≤ I * (p : Int) / P := Int.ediv_nonneg (Int.mul_nonneg hI.1 (by omega)) (by omega)
 have hq : I * (p : Int) / P ≤ I := by
  have h3 : I * (p : Int) ≤ I * (P : Int) := Int.mul_le_mul_of_nonneg_left (by omega) hI.1
  have h4 : I * (p : Int) / P ≤ I * (P : Int) / P := Int.ediv_le_ediv (by omega) h3
  rw [Int.mul_ediv_cancel _ (by omega)] at h4
  exact h4
 have hn := h.hn
 exact ⟨s, p, I * p / P, h4, ⟨by omega, by omega, ⟨hq0, by omega⟩, h1.starts.1, h.hm, h.h0, fun t ht => h.hb t (by omega)⟩, h3, h2, h1, rfl⟩
theorem IC.norm {F : Nat → Int} {n m : Nat} (h : IC F n) (hm : n < m) : normR ⟨fvals F m, 1, 0⟩ = ⟨fvals F (n + 1), 1, 0⟩ :=
 normR_inf hm (h.hi n (Nat.le_refl _)) (fun t ht => h.fin ht)
theorem valid_cases {c : Cv} (h : validB c = true) : (∃ S P : Nat, c = ⟨fvals (cvF c) (S + P), P, c.inc⟩ ∧ c.vals.length = S + P ∧ c.per = P ∧ FC (cvF c) S P c.inc ∧ finB c = true) ∨ (∃ n : Nat, c = ⟨fvals (cvF c) c.vals.length, 1, 0⟩ ∧ n < c.vals.length ∧ c.per = 1 ∧ c.inc = 0 ∧ infL c.vals = n ∧ IC (cvF c) n ∧ finB c = false) := by
 by_cases hf : nth c.vals (c.vals.length - 1) = INF
 ·obtain ⟨h1, h2, n, h3, h4, h5⟩ := valid_ic h hf
  exact .inr ⟨n, cv_eqI h1 h2 h3, h3, h1, h2, h4, h5, by unfold finB; rw [hf]; simp⟩
 ·obtain ⟨S, P, h1, h2, h3⟩ := valid_fin h hf
  exact .inl ⟨S, P, cv_eq h1 h2, h2, h1, h3, by unfold finB; simp [hf]⟩
theorem norm_valid {c : Cv} (h : validB c = true) : validB (normR c) = true ∧ cvF (normR c) = cvF c ∧ (normR c).vals.length ≤ c.vals.length ∧ finB (normR c) = finB c ∧ (∀ S P : Nat, c.vals.length = S + P → c.per = P → ∃ s p : Nat, (normR c).vals.length = s + p ∧ (normR c).per = p ∧ s ≤ S ∧ p ≤ P) := by
 have hfb : ∀ {a b : Cv}, validB a = true → validB b = true → cvF a = cvF b → finB a = finB b := fun {a b} ha hb e => by
  rcases valid_cases ha with ⟨S, P, _, _, _, hfc, f1⟩ | ⟨n, _, _, _, _, _, hic, f1⟩
  ·rcases valid_cases hb with ⟨_, _, _, _, _, _, f2⟩ | ⟨n, _, _, _, _, _, hic, f2⟩
   ·rw [f1, f2]
   ·rw [e] at hfc
    have a1 := hic.hi (n + S + P) (by omega)
    have a2 := hfc.bound n
    have a3 := hic.hi n (Nat.le_refl _)
    have := hic.hn
    unfold INF at a3; omega
  ·rcases valid_cases hb with ⟨S, P, _, _, _, hfc, f2⟩ | ⟨_, _, _, _, _, _, _, f2⟩
   ·rw [← e] at hfc
    have a2 := hfc.bound n
    have a3 := hic.hi n (Nat.le_refl _)
    have := hic.hn
    unfold INF at a3; omega
   ·rw [f1, f2]
 rcases valid_cases h with ⟨S, P, e, hl, hp, hfc, _⟩ | ⟨n, e, hl, hp, hI, _, hic, _⟩
 ·obtain ⟨s, p, q, h1, h2, h3, h4, _⟩ := hfc.norm
  have e2 : normR c = ⟨fvals (cvF c) (s + p), p, q⟩ := by rw [← h1, ← e]
  have e3 : cvF (normR c) = cvF c := by rw [e2]; exact cvF_fc h2
  have hv : validB (normR c) = true := by rw [e2]; exact h2.valid'
  have hp1 := h2.hP
  refine ⟨hv, e3, by rw [e2, hl, fvals_len]; omega, hfb hv h e3, fun S' P' hl' hp' => ⟨s, p, by rw [e2]; exact fvals_len _ _, by rw [e2], by omega, by omega⟩⟩
 ·have h1 := hic.norm hl
  have e2 : normR c = ⟨fvals (cvF c) (n + 1), 1, 0⟩ := by rw [← h1, ← e]
  have e3 : cvF (normR c) = cvF c := by rw [e2]; exact cvF_ic hic (by omega)
  have hn := hic.hn
  have hv : validB (normR c) = true := by rw [e2]; exact hic.valid (by omega) (by omega)
  refine ⟨hv, e3, by rw [e2, fvals_len]; omega, hfb hv h e3, fun S' P' hl' hp' => ⟨n, 1, by rw [e2]; exact fvals_len _ _, by rw [e2]; rfl, by omega, by omega⟩⟩
structure MadeOk (v : List Int) (per inc : Int) : Prop where
  vals : ∀ x ∈ v, -2305843009213693952 ≤ x ∧ x ≤ 4611686018427387904
  hper : 1 ≤ per ∧ per ≤ 10000 ∧ per ≤ v.length
  hinc : 0 ≤ inc ∧ inc ≤ 549755813888
  self : infL v = -1 → perR ⟨v, per, inc⟩ ((v.length : Int) - per) per = true
  at_ : ∀ t : Int, 0 ≤ t → t ≤ (v.length : Int) + per → infL v = -1 → 0 ≤ atR v per inc t ∧ atR v per inc t ≤ 1000000000000000
  nb : (∀ x ∈ (normR ⟨v, per, inc⟩).vals, -2305843009213693952 ≤ x ∧ x ≤ 4611686018427387904) ∧ InR (normR ⟨v, per, inc⟩).per ∧ InR (normR ⟨v, per, inc⟩).inc
theorem madeOk_fin {F : Nat → Int} {S P : Nat} {I : Int} (hP : 0 < P ∧ P ≤ 10000) (hS : S ≤ 10000) (hI : 0 ≤ I ∧ I ≤ 549755813888) (hg : Grows F S P I) (hb : ∀ t, t ≤ S + P + P → 0 ≤ F t ∧ F t ≤ 10000000000000) : MadeOk (fvals F (S + P)) P I := by
 obtain ⟨h1, h2, h3, h4, h5⟩ := made_pre hP hS hI hg hb
 exact ⟨h1, by rw [fvals_len]; omega, hI, fun _ => h2, fun t a b _ => h3 t a b, h5⟩
theorem madeOk_inf {F : Nat → Int} {n m : Nat} {per inc : Int} (hn : n < m) (hm : m ≤ 100000) (hper : 1 ≤ per ∧ per ≤ 10000 ∧ per ≤ m) (hinc : 0 ≤ inc ∧ inc ≤ 549755813888) (hi : F n = INF) (hb : ∀ t, t < n → 0 ≤ F t ∧ F t < INF) (hb' : ∀ t, t < m → 0 ≤ F t ∧ F t ≤ INF) : MadeOk (fvals F m) per inc := by
 have hne : ∀ t, t < n → F t ≠ INF := fun t ht => by have := hb t ht; omega
 have hl := infL_some hn hi hne
 have hv : ∀ k, k ≤ m → ∀ x ∈ fvals F k, -2305843009213693952 ≤ x ∧ x ≤ 4611686018427387904 := fun k hk => all_of_nth (fun j hj => by
  rw [fvals_len] at hj
  rw [fvals_nth F hj]
  have := hb' j (by omega)
  unfold INF at this
  omega)
 refine ⟨hv m (Nat.le_refl _), by rw [fvals_len]; exact hper, hinc, fun h => by rw [hl] at h; omega, fun t _ _ h => by rw [hl] at h; omega, ?_⟩
 rw [normR_inf hn hi hne]
 exact ⟨hv _ (by omega), by constructor <;> dsimp only <;> decide, by constructor <;> dsimp only <;> decide⟩
theorem cvF_bound {c : Cv} (h : validB c = true) (t : Nat) : 0 ≤ cvF c t ∧ (cvF c t = INF ∨ cvF c t ≤ 1073741824 * ((t : Int) + 2)) := by
 rcases valid_cases h with ⟨S, P, _, _, _, hfc, _⟩ | ⟨n, _, _, _, _, _, hic, _⟩
 ·exact ⟨hfc.nonneg t, .inr (hfc.bound t)⟩
 ·by_cases ht : t < n
  ·have := hic.hb t ht
   exact ⟨this.1, .inr (by omega)⟩
  ·have := hic.hi t (by omega)
   exact ⟨by rw [this]; unfold INF; omega, .inl this⟩
theorem cvF_mono {c : Cv} (h : validB c = true) (t : Nat) : cvF c t ≤ cvF c (t + 1) := by
 rcases valid_cases h with ⟨S, P, _, _, _, hfc, _⟩ | ⟨n, _, _, _, _, _, hic, _⟩
 ·exact hfc.hm t
 ·exact hic.hm t
theorem valid_range {c : Cv} (h : validB c = true) : (∀ x ∈ c.vals, -2305843009213693952 ≤ x ∧ x ≤ 4611686018427387904) ∧ 1 ≤ c.vals.length ∧ c.vals.length ≤ 400 ∧ 1 ≤ c.per ∧ c.per ≤ 120 ∧ c.per ≤ c.vals.length ∧ 0 ≤ c.inc ∧ c.inc ≤ 1073741824 := by
 obtain ⟨⟨h1, h2, h3, h4, h5, h6, h7⟩, _, _⟩ := validB_iff.1 h
 refine ⟨all_of_nth (fun j hj => ?_), h1, h2, h3, h4, h5, h6, by unfold MAXV at h7; omega⟩
 have := valid_each h j hj
 unfold INF MAXV at this
 omega
theorem valid_madeOk {c : Cv} (h : validB c = true) : MadeOk c.vals c.per c.inc := by
 rcases valid_cases h with ⟨S, P, e, hl, hp, hfc, _⟩ | ⟨n, e, hl, hp, hI, _, hic, _⟩
 ·have hP := hfc.hP
  have hn := hfc.hn
  have hI := hfc.hI
  have := madeOk_fin (F := cvF c) (S := S) (P := P) (I := c.inc) (by omega) (by omega) (by omega) hfc.hg (fun t ht => by have := hfc.bound t; have := hfc.nonneg t; omega)
  rw [cvF_vals c, hl, hp]; exact this
 ·have hr := valid_range h
  have := madeOk_inf (F := cvF c) (per := 1) (inc := 0) hl (by omega) ⟨by decide, by decide, by omega⟩ (by decide) (hic.hi n (Nat.le_refl _)) (fun t ht => by have := hic.hb t ht; unfold INF; omega) (fun t ht => by
   have := cvF_bound h t
   unfold INF at this ⊢
   omega)
  rw [cvF_vals c, hp, hI]; exact this
def isInf (c : Cv) (t : Nat) : Prop := finB c = false ∧ cvF c t = INF
instance (c : Cv) (t : Nat) : Decidable (isInf c t) := by unfold isInf; infer_instance
theorem isInf_iff {c : Cv} (h : validB c = true) {t : Nat} (ht : t ≤ 1000000000) : isInf c t ↔ cvF c t = INF := by
 refine ⟨fun h => h.2, fun h0 => ⟨?_, h0⟩⟩
 rcases valid_cases h with ⟨S, P, _, _, _, hfc, _⟩ | ⟨n, _, _, _, _, _, hic, hf⟩
 ·have := hfc.bound t
  unfold INF at h0; omega
 ·exact hf
def lowF (c : Cv) (k : Int) (t : Nat) : Int := if isInf c t then INF else max 0 (cvF c t - k)
def lowerR (c : Cv) (k : Int) : Cv × Int :=
  if finB (normR c) = true ∧ 0 < (normR c).inc ∧ cvF (normR c) 400 < k then (zcv, 3)
  else madeR ⟨fvals (lowF (normR c) k) (400 + (normR c).per.toNat), (normR c).per, (normR c).inc⟩
theorem lowF_ok {c : Cv} (h : validB c = true) {k : Int} (hk : 0 ≤ k) (hb : ¬ (finB c = true ∧ 0 < c.inc ∧ cvF c 400 < k)) : MadeOk (fvals (lowF c k) (400 + c.per.toNat)) c.per c.inc := by
 rcases valid_cases h with ⟨S, P, e, hl, hp, hfc, hfb⟩ | ⟨n, e, hl, hp, hI, _, hic, hfb⟩
 ·have hP := hfc.hP
  have hn := hfc.hn
  have hI := hfc.hI
  have hlo : ∀ t, lowF c k t = max 0 (cvF c t - k) := fun t => if_neg (fun hh => by have h1 := hh.1; rw [hfb] at h1; cases h1)
  rw [hp, Int.toNat_natCast]
  refine madeOk_fin (by omega) (by omega) (by omega) (fun t ht => ?_) (fun t ht => ?_)
  ·rw [hlo, hlo, hfc.hg t (by omega)]
   by_cases h0 : c.inc = 0
   ·rw [h0, Int.add_zero, Int.add_zero]
   ·have h1 : k ≤ cvF c 400 := by
     apply Classical.byContradiction
     intro hh
     exact hb ⟨hfb, by omega, by omega⟩
    have h2 := hfc.mono ht
    omega
  ·rw [hlo]
   have := hfc.bound t
   have := hfc.nonneg t
   omega
 ·have hr := valid_range h
  have hin : ∀ t, cvF c t = INF → isInf c t := fun t ht => ⟨hfb, ht⟩
  rw [hp]
  refine madeOk_inf (n := n) (by have := hic.hn; omega) (by decide) ⟨by decide, by decide, by decide⟩ (by omega) (by unfold lowF; rw [if_pos (hin _ (hic.hi n (Nat.le_refl _)))]) (fun t ht => ?_) (fun t ht => ?_)
  ·unfold lowF
   rw [if_neg (fun hh => hic.fin ht hh.2)]
   have := hic.hb t ht
   unfold INF; omega
  ·unfold lowF
   have := cvF_bound h t
   unfold INF at this ⊢
   split <;> omega
structure RepF (F : Nat → Int) (S P : Nat) (I : Int) : Prop where
  hP : 0 < P
  hI : 0 ≤ I
  hg : Grows F S P I
  hm : ∀ t, F t ≤ F (t + 1)
  h0 : 0 ≤ F 0
  hf : ∀ t, t < S + P → F t < INF
structure RepI (F : Nat → Int) (n m : Nat) : Prop where
  hn : n < m
  hi : ∀ t, n ≤ t → F t = INF
  hf : ∀ t, t < n → 0 ≤ F t ∧ F t < INF
  hm : ∀ t, F t ≤ F (t + 1)
structure Nrm (c : Cv) : Prop where
  valid : validB c = true
  norm : normR c = c
theorem RepF.ne {F : Nat → Int} {S P : Nat} {I : Int} (h : RepF F S P I) {t : Nat} (ht : t < S + P) : F t ≠ INF := by have := h.hf t ht; omega
theorem RepF.res {F : Nat → Int} {S P : Nat} {I : Int} (h : RepF F S P I) : mbuild F S P I = (zcv, 3) ∨ ∃ c, mbuild F S P I = (c, 0) ∧ Nrm c ∧ cvF c = F ∧ finB c = true := by
 rw [mbuild_fin (fun t ht => h.ne ht)]
 obtain ⟨p, s, hnf, h1, h2, e⟩ := finL_nf h.hP h.hg (fun t ht => h.ne ht)
 rw [e]
 unfold nfC
 by_cases h3 : nfE F p s (I * p / P) = 3
 ·rw [if_pos h3]; exact .inl rfl
 ·rw [if_neg h3]
  right
  have h4 : ¬ (120 < p ∨ MAXV < I * p / P ∨ 400 < s + p ∨ ((List.range (s + p)).any fun i => decide (F i > MAXV)) = true) := fun hh => h3 (if_pos hh)
  have hp := hnf.least.1
  have hP := h.hP
  have hI := h.hI
  have hfc : FC F s p (I * p / P) := by
   refine ⟨by omega, by omega, ⟨Int.ediv_nonneg (Int.mul_nonneg hI (by omega)) (by omega), ?_⟩, hnf.starts.1, h.hm, h.h0, fun t ht => ?_⟩
   ·have : ¬ MAXV < I * p / P := fun hh => h4 (.inr (.inl hh))
    unfold MAXV at this; omega
   ·apply Classical.byContradiction
    intro hh
    refine h4 (.inr (.inr (.inr ?_)))
    rw [List.any_eq_true]
    exact ⟨t, List.mem_range.2 ht, decide_eq_true (by unfold MAXV; omega)⟩
  have hv := hfc.valid'
  refine ⟨_, rfl, ⟨hv, ?_⟩, cvF_fc hfc, ?_⟩
  ·obtain ⟨s', p', q', e', _, _, _, hnf', hq'⟩ := hfc.norm
   obtain ⟨e1, e2, e3⟩ := nf_same h.hP (by omega) h.hg hfc.hg hnf hnf'
   rw [e', hq', ← e3, ← e1, ← e2]
  ·rcases valid_cases hv with ⟨_, _, _, _, _, _, f1⟩ | ⟨n, _, _, _, _, _, hic, _⟩
   ·exact f1
   ·have := hic.hi (n + s + p) (by omega)
    rw [cvF_fc hfc] at this
    have h5 := hic.hi n (Nat.le_refl _)
    rw [cvF_fc hfc] at h5
    have h6 := hfc.bound n
    have := hic.hn
    unfold INF at h5; omega
theorem RepI.ne {F : Nat → Int} {n m : Nat} (h : RepI F n m) {t : Nat} (ht : t < n) : F t ≠ INF := by have := h.hf t ht; omega
theorem RepI.res {F : Nat → Int} {n S P : Nat} {I : Int} (h : RepI F n (S + P)) : mbuild F S P I = (zcv, 3) ∨ ∃ c, mbuild F S P I = (c, 0) ∧ Nrm c ∧ cvF c = F ∧ finB c = false := by
 rw [mbuild_inf h.hn (h.hi n (Nat.le_refl _)) (fun t ht => h.ne ht)]
 rcases checkedE_vals (fvals F (n + 1)) with hc | hc
 ·rw [checkedL_bad hc]; exact .inl rfl
 ·rw [checkedL_good (by omega)]
  right
  obtain ⟨h1, h2⟩ := (checked_inf (h.hi n (Nat.le_refl _)) h.hf).1 (by omega)
  have hic : IC F n := ⟨by omega, h.hi, fun t ht => by have := h.hf t ht; have := h2 t ht; unfold MAXV at this; omega, h.hm⟩
  have hv := hic.valid (show n < n + 1 by omega) h1
  refine ⟨_, rfl, ⟨hv, hic.norm (by omega)⟩, cvF_ic hic (by omega), ?_⟩
  unfold finB
  dsimp only
  rw [fvals_len, show n + 1 - 1 = n by omega, fvals_nth F (by omega), h.hi n (Nat.le_refl _)]
  simp
theorem norm_nrm {c : Cv} (h : validB c = true) : Nrm (normR c) := by
 refine ⟨(norm_valid h).1, ?_⟩
 rcases valid_cases h with ⟨S, P, e, hl, hp, hfc, _⟩ | ⟨n, e, hl, hp, hI, _, hic, _⟩
 ·obtain ⟨s, p, q, h1, h2, h3, h4, h5, h6⟩ := hfc.norm
  have e2 : normR c = ⟨fvals (cvF c) (s + p), p, q⟩ := by rw [← h1, ← e]
  obtain ⟨s', p', q', g1, g2, g3, g4, g5, g6⟩ := h2.norm
  have hP := hfc.hP
  have hp2 := h2.hP
  obtain ⟨e3, e4, e5⟩ := nf_same (by omega) (by omega) hfc.hg h2.hg h5 g5
  rw [e2, g1, g6, ← e5, ← e3, ← e4, ← h6]
 ·have h1 := hic.norm hl
  have e2 : normR c = ⟨fvals (cvF c) (n + 1), 1, 0⟩ := by rw [← h1, ← e]
  rw [e2]; exact hic.norm (by omega)
def stN (c : Cv) : Nat := c.vals.length - c.per.toNat
theorem norm_build {c : Cv} (h : validB c = true) : mbuild (cvF c) (stN c) c.per.toNat c.inc = (normR c, 0) := by
 have hn := (norm_nrm h).valid
 have hm : madeR c = (normR c, 0) := by unfold madeR; rw [if_pos hn]
 rcases valid_cases h with ⟨S, P, e, hl, hp, hfc, _⟩ | ⟨n, e, hl, hp, hI, _, hic, _⟩
 ·have hP := hfc.hP
  have hs : stN c = S := by unfold stN; rw [hl, hp, Int.toNat_natCast]; omega
  have hf : ∀ t, t < S + P → cvF c t < INF := fun t ht => by have := hfc.hb t ht; unfold INF; omega
  rw [hs, hp, Int.toNat_natCast, build_made_fin (by omega) hfc.hI.1 hfc.hg (by omega) hfc.hI.1 hfc.hg hfc.hm hfc.h0 hf hf, ← e, hm]
 ·have hr := valid_range h
  have hs : stN c + c.per.toNat = c.vals.length := by unfold stN; omega
  rw [build_made_inf (n := n) (m := c.vals.length) (per := 1) (inc := 0) (by rw [hs]; exact hl) hl (hic.hi n (Nat.le_refl _)) (fun t ht => by have := hic.hb t ht; unfold INF; omega) (fun t _ => hic.hm t), ← e, hm]
def normC (c : Cv) : Cv × Int := if validB c = true then (normR c, 0) else (zcv, 1)
def lcmC (a b : Cv) : Nat := lcmN a.per.toNat b.per.toNat
def gainC (c : Cv) (L : Nat) : Int := (L : Int) / c.per * c.inc
def plusF (a b : Cv) (t : Nat) : Int := if isInf a t ∨ isInf b t then INF else cvF a t + cvF b t
theorem grows_gain {F : Nat → Int} {S P L : Nat} {I : Int} (hP : 1 ≤ P) (hg : Grows F S P I) (hL : L % P = 0) : Grows F S L ((L : Int) / (P : Int) * I) := fun t ht => by
 have h1 := hg.mul (L / P) t ht
 have h2 : L / P * P = L := Nat.div_mul_cancel (Nat.dvd_of_mod_eq_zero hL)
 rw [h2] at h1
 rw [h1]; rfl
theorem lcm_mod {a b : Nat} (ha : 0 < a) (hb : 0 < b) : lcmN a b % a = 0 ∧ lcmN a b % b = 0 ∧ 0 < lcmN a b := by
 obtain ⟨h1, h2, _, h4⟩ := lcmN_facts ha hb
 refine ⟨?_, ?_, h4⟩
 ·rw [h1]; exact Nat.mul_mod_left _ _
 ·rw [h2]; exact Nat.mul_mod_left _ _
theorem isInf_ic {c : Cv} {n : Nat} (hic : IC (cvF c) n) (hf : finB c = false) (t : Nat) : isInf c t ↔ n ≤ t := by
 constructor
 ·intro h
  apply Classical.byContradiction
  intro hh
  exact hic.fin (show t < n by omega) h.2
 ·intro h
  exact ⟨hf, hic.hi t h⟩
theorem isInf_fin {c : Cv} (hf : finB c = true) (t : Nat) : ¬ isInf c t := fun h => by have := h.1; rw [hf] at this; cases this
section
variable {a b : Cv}
theorem plus_fin (ha : validB a = true) (hb : validB b = true) (fa : finB a = true) (fb : finB b = true) (hl : lcmC a b ≤ 10000) {S : Nat} (hS : stN a ≤ S ∧ stN b ≤ S) (hS2 : S ≤ 10000) : RepF (plusF a b) S (lcmC a b) (gainC a (lcmC a b) + gainC b (lcmC a b)) := by
 rcases valid_cases ha with ⟨S1, P1, _, l1, p1, fc1, _⟩ | ⟨_, _, _, _, _, _, _, f⟩
 ·rcases valid_cases hb with ⟨S2, P2, _, l2, p2, fc2, _⟩ | ⟨_, _, _, _, _, _, _, f⟩
  ·have hP1 := fc1.hP
   have hP2 := fc2.hP
   have hI1 := fc1.hI
   have hI2 := fc2.hI
   unfold stN at hS
   unfold lcmC gainC at *
   rw [l1, p1, Int.toNat_natCast, l2, p2, Int.toNat_natCast] at hS
   rw [p1, p2, Int.toNat_natCast, Int.toNat_natCast] at hl ⊢
   obtain ⟨m1, m2, m3⟩ := lcm_mod (a := P1) (b := P2) (by omega) (by omega)
   have g1 := grows_gain (L := lcmN P1 P2) (by omega) (fc1.hg.mono (show S1 ≤ S by omega)) m1
   have g2 := grows_gain (L := lcmN P1 P2) (by omega) (fc2.hg.mono (show S2 ≤ S by omega)) m2
   have hpl : ∀ t, plusF a b t = cvF a t + cvF b t := fun t => if_neg (fun h => h.elim (isInf_fin fa t) (isInf_fin fb t))
   refine ⟨m3, ?_, fun t ht => by rw [hpl, hpl, g1 t ht, g2 t ht]; omega, fun t => by rw [hpl, hpl]; have := fc1.hm t; have := fc2.hm t; omega, by rw [hpl]; have := fc1.h0; have := fc2.h0; omega, fun t ht => ?_⟩
   ·have a1 : 0 ≤ (lcmN P1 P2 : Int) / (P1 : Int) * a.inc := Int.mul_nonneg (Int.ediv_nonneg (by omega) (by omega)) hI1.1
    have a2 : 0 ≤ (lcmN P1 P2 : Int) / (P2 : Int) * b.inc := Int.mul_nonneg (Int.ediv_nonneg (by omega) (by omega)) hI2.1
    omega
   ·rw [hpl]
    have := fc1.bound t
    have := fc2.bound t
    unfold INF; omega
  ·rw [fb] at f; cases f
 ·rw [fa] at f; cases f
theorem inf_at (ha : validB a = true) (fa : finB a = false) : ∃ n, n ≤ stN a ∧ (∀ t, isInf a t ↔ n ≤ t) ∧ IC (cvF a) n := by
 rcases valid_cases ha with ⟨_, _, _, _, _, _, f⟩ | ⟨n, _, h1, h2, _, _, hic, f⟩
 ·rw [fa] at f; cases f
 ·refine ⟨n, ?_, isInf_ic hic f, hic⟩
  unfold stN
  rw [h2]
  have : (1 : Int).toNat = 1 := rfl
  omega
theorem fin_part (ha : validB a = true) {t : Nat} (h : ¬ isInf a t) (ht : t ≤ 1000000000) : 0 ≤ cvF a t ∧ cvF a t ≤ 1073741824 * ((t : Int) + 2) := by
 have h1 := cvF_bound ha t
 refine ⟨h1.1, h1.2.resolve_left (fun e => h ((isInf_iff ha ht).2 e))⟩
theorem isInf_mono (ha : validB a = true) {s t : Nat} (hst : s ≤ t) (h : isInf a s) : isInf a t := by
 obtain ⟨n, _, h1, _⟩ := inf_at ha h.1
 have := (h1 s).1 h
 exact (h1 t).2 (by omega)
theorem plus_inf (ha : validB a = true) (hb : validB b = true) (hab : ¬ (finB a = true ∧ finB b = true)) {m : Nat} (hm : stN a < m ∧ stN b < m) : ∃ n, RepI (plusF a b) n m := by
 have key : ∀ n : Nat, n < m → n ≤ 400 → (∀ t, (isInf a t ∨ isInf b t) ↔ n ≤ t) → RepI (plusF a b) n m := fun n hn hn4 h => by
  refine ⟨hn, fun t ht => if_pos ((h t).2 ht), fun t ht => ?_, fun t => ?_⟩
  ·have hno : ¬ (isInf a t ∨ isInf b t) := fun hh => by have := (h t).1 hh; omega
   have e : plusF a b t = cvF a t + cvF b t := if_neg hno
   have h1 := fin_part ha (fun x => hno (.inl x)) (show t ≤ 1000000000 by omega)
   have h2 := fin_part hb (fun x => hno (.inr x)) (show t ≤ 1000000000 by omega)
   rw [e]
   unfold INF; omega
  ·by_cases h1 : isInf a (t + 1) ∨ isInf b (t + 1)
   ·rw [show plusF a b (t + 1) = INF from if_pos h1]
    by_cases h2 : isInf a t ∨ isInf b t
    ·rw [show plusF a b t = INF from if_pos h2]; exact Int.le_refl _
    ·have e : plusF a b t = cvF a t + cvF b t := if_neg h2
     have ht : t < n := by
      apply Classical.byContradiction
      intro hh; exact h2 ((h t).2 (by omega))
     have a1 := fin_part ha (fun x => h2 (.inl x)) (show t ≤ 1000000000 by omega)
     have a2 := fin_part hb (fun x => h2 (.inr x)) (show t ≤ 1000000000 by omega)
     rw [e]; unfold INF; omega
   ·have h2 : ¬ (isInf a t ∨ isInf b t) := fun hh => h1 (hh.imp (isInf_mono ha (by omega)) (isInf_mono hb (by omega)))
    rw [show plusF a b (t + 1) = _ from if_neg h1, show plusF a b t = _ from if_neg h2]
    have := cvF_mono ha t
    have := cvF_mono hb t
    omega
 by_cases fa : finB a = true
 ·have fb : finB b = false := by simpa using fun h => hab ⟨fa, h⟩
  obtain ⟨n, h1, h2, h3⟩ := inf_at hb fb
  have := h3.hn
  exact ⟨n, key n (by omega) (by omega) (fun t => by
   rw [h2 t]
   exact ⟨fun h => h.elim (fun x => absurd x (isInf_fin fa t)) id, .inr⟩)⟩
 ·have fa : finB a = false := by simpa using fa
  obtain ⟨n, h1, h2, h3⟩ := inf_at ha fa
  have hn := h3.hn
  by_cases fb : finB b = true
  ·exact ⟨n, key n (by omega) (by omega) (fun t => by
    rw [h2 t]
    exact ⟨fun h => h.elim id (fun x => absurd x (isInf_fin fb t)), .inl⟩)⟩
  ·have fb : finB b = false := by simpa using fb
   obtain ⟨n', h1', h2', h3'⟩ := inf_at hb fb
   exact ⟨min n n', key _ (by omega) (by omega) (fun t => by rw [h2 t, h2' t]; omega)⟩
end
def sumC (f g : Cv) : Cv × Int :=
  if validB f = false ∨ validB g = false then (zcv, 1)
  else if 120 < lcmC (normR f) (normR g) then (zcv, 3)
  else mbuild (plusF (normR f) (normR g)) (max (stN (normR f)) (stN (normR g))) (lcmC (normR f) (normR g)) (gainC (normR f) (lcmC (normR f) (normR g)) + gainC (normR g) (lcmC (normR f) (normR g)))
theorem stN_lt {c : Cv} (h : validB c = true) : stN c < c.vals.length ∧ stN c + c.per.toNat = c.vals.length ∧ c.vals.length ≤ 400 := by
 obtain ⟨_, h1, h2, h3, h4, h5, _⟩ := valid_range h
 unfold stN; omega
theorem sum_res {f g : Cv} (hf : validB f = true) (hg : validB g = true) : sumC f g = (zcv, 3) ∨ ∃ c, sumC f g = (c, 0) ∧ Nrm c ∧ cvF c = plusF (normR f) (normR g) ∧ (finB f = true → finB g = true → finB c = true) := by
 have hnf := norm_nrm hf
 have hng := norm_nrm hg
 unfold sumC
 rw [if_neg (by rw [hf, hg]; simp)]
 by_cases hl : 120 < lcmC (normR f) (normR g)
 ·rw [if_pos hl]; exact .inl rfl
 ·rw [if_neg hl]
  have s1 := stN_lt hnf.valid
  have s2 := stN_lt hng.valid
  by_cases hfin : finB (normR f) = true ∧ finB (normR g) = true
  ·rcases (plus_fin hnf.valid hng.valid hfin.1 hfin.2 (by omega) ⟨Nat.le_max_left _ _, Nat.le_max_right _ _⟩ (by omega)).res with h | ⟨c, h1, h2, h3, h4⟩
   ·exact .inl h
   ·exact .inr ⟨c, h1, h2, h3, fun _ _ => h4⟩
  ·have hl0 : 0 < lcmC (normR f) (normR g) := by
    obtain ⟨_, _, _, q1, _⟩ := valid_range hnf.valid
    obtain ⟨_, _, _, q2, _⟩ := valid_range hng.valid
    exact (lcm_mod (by omega) (by omega)).2.2
   obtain ⟨n, hn⟩ := plus_inf hnf.valid hng.valid hfin (m := max (stN (normR f)) (stN (normR g)) + lcmC (normR f) (normR g)) (by omega)
   rcases hn.res (I := gainC (normR f) (lcmC (normR f) (normR g)) + gainC (normR g) (lcmC (normR f) (normR g))) with h | ⟨c, h1, h2, h3, h4⟩
   ·exact .inl h
   ·refine .inr ⟨c, h1, h2, h3, fun q1 q2 => ?_⟩
    exact absurd ⟨by rw [(norm_valid hf).2.2.2.1]; exact q1, by rw [(norm_valid hg).2.2.2.1]; exact q2⟩ hfin
def raiseF (a : Cv) (k : Int) (t : Nat) : Int := if t = 0 then 0 else if isInf a t then INF else cvF a t + k
def raiseC (f : Cv) (k : Int) : Cv × Int :=
  if validB f = false then (zcv, 1) else if k < 0 ∨ MAXV < k then (zcv, 2)
  else mbuild (raiseF (normR f) k) (max 1 (stN (normR f))) (normR f).per.toNat (normR f).inc
theorem raise_fin {a : Cv} (ha : validB a = true) (fa : finB a = true) {k : Int} (hk : 0 ≤ k ∧ k ≤ MAXV) {S : Nat} (hS : stN a ≤ S ∧ 1 ≤ S) (hS2 : S ≤ 10000) : RepF (raiseF a k) S a.per.toNat a.inc := by
 unfold MAXV at hk
 rcases valid_cases ha with ⟨S1, P1, _, l1, p1, fc1, _⟩ | ⟨_, _, _, _, _, _, _, f⟩
 ·have hP1 := fc1.hP
  have hI1 := fc1.hI
  unfold stN at hS
  rw [l1, p1, Int.toNat_natCast] at hS
  rw [p1, Int.toNat_natCast]
  have hpl : ∀ t, 1 ≤ t → raiseF a k t = cvF a t + k := fun t ht => by
   unfold raiseF
   rw [if_neg (by omega), if_neg (isInf_fin fa t)]
  have h0 : raiseF a k 0 = 0 := if_pos rfl
  refine ⟨by omega, hI1.1, fun t ht => by rw [hpl _ (by omega), hpl _ (by omega), fc1.hg t (by omega)]; omega, fun t => ?_, by rw [h0]; omega, fun t ht => ?_⟩
  ·by_cases h : t = 0
   ·subst h
    rw [h0, hpl _ (by omega)]
    have := fc1.nonneg (0 + 1)
    omega
   ·rw [hpl _ (by omega), hpl _ (by omega)]
    have := fc1.hm t
    omega
  ·by_cases h : t = 0
   ·subst h; rw [h0]; unfold INF; omega
   ·rw [hpl _ (by omega)]
    have := fc1.bound t
    unfold INF; omega
 ·rw [fa] at f; cases f
theorem raise_inf {a : Cv} (ha : validB a = true) (fa : finB a = false) {k : Int} (hk : 0 ≤ k ∧ k ≤ MAXV) {m : Nat} (hm : stN a < m ∧ 1 < m) : ∃ n, RepI (raiseF a k) n m := by
 unfold MAXV at hk
 obtain ⟨n, h1, h2, h3⟩ := inf_at ha fa
 have hn := h3.hn
 have h0 : raiseF a k 0 = 0 := if_pos rfl
 refine ⟨max 1 n, by omega, fun t ht => ?_, fun t ht => ?_, fun t => ?_⟩
 ·unfold raiseF
  rw [if_neg (by omega), if_pos ((h2 t).2 (by omega))]
 ·by_cases h : t = 0
  ·subst h; rw [h0]; unfold INF; omega
  ·have hb := h3.hb t (by omega)
   unfold raiseF
   rw [if_neg h, if_neg (fun hh => by have := (h2 t).1 hh; omega)]
   unfold INF; omega
 ·have hr : ∀ t, t ≠ 0 → raiseF a k t = if isInf a t then INF else cvF a t + k := fun t h => if_neg h
  by_cases h : t = 0
  ·subst h
   rw [h0, hr (0 + 1) (by omega)]
   have hb := cvF_bound ha (0 + 1)
   split
   ·unfold INF; omega
   ·omega
  ·rw [hr t h, hr (t + 1) (by omega)]
   by_cases e : isInf a t
   ·rw [if_pos e, if_pos (isInf_mono ha (by omega) e)]; exact Int.le_refl _
   ·have hlt : t < n := by
     apply Classical.byContradiction
     intro hh; exact e ((h2 t).2 (by omega))
    have hb := h3.hb t hlt
    rw [if_neg e]
    split
    ·unfold INF; omega
    ·have := cvF_mono ha t
     omega
theorem raise_res {f : Cv} (hf : validB f = true) {k : Int} (hk : 0 ≤ k ∧ k ≤ MAXV) : raiseC f k = (zcv, 3) ∨ ∃ c, raiseC f k = (c, 0) ∧ Nrm c ∧ cvF c = raiseF (normR f) k ∧ (finB f = true → finB c = true) := by
 have hnf := norm_nrm hf
 unfold raiseC
 rw [if_neg (by rw [hf]; simp), if_neg (by omega)]
 have s1 := stN_lt hnf.valid
 obtain ⟨_, _, _, q1, _⟩ := valid_range hnf.valid
 by_cases hfin : finB (normR f) = true
 ·rcases (raise_fin hnf.valid hfin hk (S := max 1 (stN (normR f))) (by omega) (by omega)).res with h | ⟨c, h1, h2, h3, h4⟩
  ·exact .inl h
  ·exact .inr ⟨c, h1, h2, h3, fun _ => h4⟩
 ·have hfin' : finB (normR f) = false := by simpa using hfin
  obtain ⟨n, hn⟩ := raise_inf hnf.valid hfin' hk (m := max 1 (stN (normR f)) + (normR f).per.toNat) (by omega)
  rcases hn.res (I := (normR f).inc) with h | ⟨c, h1, h2, h3, h4⟩
  ·exact .inl h
  ·refine .inr ⟨c, h1, h2, h3, fun q1 => ?_⟩
   exact absurd (by rw [(norm_valid hf).2.2.2.1]; exact q1) hfin
def zeroC : Cv := ⟨[0], 1, 0⟩
def totalGo (s : Cv) : List Cv → Cv × Int
  | [] => (s, 0)
  | f :: l => if (sumC s f).2 ≠ 0 then (zcv, (sumC s f).2) else totalGo (sumC s f).1 l
def totalC (l : List Cv) : Cv × Int := totalGo zeroC l
theorem zero_nrm : Nrm zeroC := ⟨by kernel_rfl, by kernel_rfl⟩
theorem total_res : ∀ (l : List Cv) (s : Cv), validB s = true → Nrm s → (∀ f ∈ l, validB f = true) → totalGo s l = (zcv, 3) ∨ ∃ c, totalGo s l = (c, 0) ∧ Nrm c ∧ (finB s = true → (∀ f ∈ l, finB f = true) → finB c = true)
 | [], s, hv, hn, _ => .inr ⟨s, rfl, hn, fun h _ => h⟩
 | f :: l, s, hv, hn, hl => by
  simp only [totalGo]
  rcases sum_res hv (hl f (by simp)) with h | ⟨c, h1, h2, h3, h4⟩
  ·rw [h, if_pos (by decide)]; exact .inl rfl
  ·rw [h1, if_neg (by simp)]
   rcases total_res l c h2.valid h2 (fun f hf => hl f (by simp [hf])) with h | ⟨c', e1, e2, e3⟩
   ·exact .inl h
   ·exact .inr ⟨c', e1, e2, fun q1 q2 => e3 (h4 q1 (q2 f (by simp))) (fun f hf => q2 f (by simp [hf]))⟩
def flatF (k : Int) (t : Nat) : Int := if t = 0 then 0 else k
theorem flatF_bound {k : Int} (hk : 0 ≤ k ∧ k ≤ 1073741824) (t : Nat) : 0 ≤ flatF k t ∧ flatF k t ≤ 1000000000000000 := by unfold flatF; split <;> omega
def flatC (k : Int) : Cv × Int := mbuild (flatF k) 1 1 0
theorem flat_zero : flatC 0 = (zeroC, 0) := by kernel_rfl
structure CvS where
  a : Option Addr
  cap : Nat
  cv : Cv
instance instCvS : Inhabited CvS := ⟨⟨none, 0, zcv⟩⟩
def encC (s : CvS) : List Value := [.slice s.a s.cv.vals.length s.cap, .int .i64 s.cv.per, .int .i64 s.cv.inc]
theorem drop_map_cons {ls : List CvS} {i : Nat} (h : i < ls.length) : (ls.map CvS.cv).drop i = (nth ls i).cv :: (ls.map CvS.cv).drop (i + 1) := by
 rw [List.drop_eq_getElem_cons (by simpa using h), List.getElem_map, ← nth_eq h]
def lastV (v : List Int) (t : Nat) : Int := if t = 0 then 0 else nth v (t - 1)
theorem lastV_succ (v : List Int) (t : Nat) : lastV v (t + 1) = nth v t := by unfold lastV; rw [if_neg (by omega)]; rfl
end Go.Proofs.YtaoakchgjgmedaaGreat.M
namespace Go.Proofs.YtaoakchgjgmedaaGreat.K
open Go Go.RowKit Go.Proofs.YtaoakchgjgmedaaGreat.M
def OkC (R : Ro) (s : CvS) : Prop := RS R 1 encI s.a s.cv.vals ∧ s.cv.vals.length ≤ 1000 ∧ s.cv.vals.length ≤ s.cap
theorem OkC.mono {R R' : Ro} {s : CvS} (h : OkC R s) (hR : RLe R R') : OkC R' s := ⟨h.1.mono hR, h.2⟩
structure SlA (α : Type) where
  a : Option Addr
  cap : Nat
  xs : List α
instance instSlA {α : Type} : Inhabited (SlA α) := ⟨⟨none, 0, []⟩⟩
def encSl {α : Type} (s : SlA α) : List Value := [.slice s.a s.xs.length s.cap]
def OkL (R : Ro) (s : SlA CvS) : Prop := RS R 3 encC s.a s.xs ∧ s.xs.length ≤ s.cap ∧ ∀ x ∈ s.xs, OkC R x
theorem OkL.mono {R R' : Ro} {s : SlA CvS} (h : OkL R s) (hR : RLe R R') : OkL R' s := ⟨h.1.mono hR, h.2.1, fun x hx => (h.2.2 x hx).mono hR⟩
end Go.Proofs.YtaoakchgjgmedaaGreat.K
namespace Go.Proofs.YtaoakchgjgmedaaGreat.K
open Go Go.RowKit Go.ChangeShapes Go.WideShapes Go.ChangeAt Go.WideElems Go.Maps Go.Proofs.YtaoakchgjgmedaaGreat.M
theorem rsl_ofG {W : World} {k : Nat} {a : Addr} {rows : List (List Value)} (hk : 0 < k) (hlen : ∀ r ∈ rows, r.length = k) (hm : rows.length ≤ 9223372036854775807)
  (hc : ∀ i r, rows[i]? = some r → ∀ j v, r[j]? = some v → W.cell? (a.add (i * k + j)) = some v) : RSl (roOf W) k (some a) rows := by
 by_cases h0 : rows = []
 ·subst h0
  exact ⟨by simp, .inl rfl, by simp⟩
 ·have hpos : 0 < rows.length := List.length_pos_iff.2 h0
  have hz0 : (rows[0]).length = k := hlen _ (List.getElem_mem hpos)
  have h1 := hc 0 rows[0] (List.getElem?_eq_getElem hpos) 0 ((rows[0])[0]'(by omega)) (List.getElem?_eq_getElem (by omega))
  rw [Nat.zero_mul, Nat.zero_add] at h1
  unfold World.cell? at h1
  cases hh : W.heap[(a.add 0).block]? with
  | none => simp [hh] at h1
  | some o =>
   cases o with
   | cells arr T fz =>
    have hs : a.spot = none := by
     simp only [hh] at h1
     cases hsp : a.spot with
     | none => rfl
     | some x => simp [Addr.add, hsp] at h1
    have hb : (a.add 0).block = a.block := rfl
    rw [hb] at hh
    refine ⟨hlen, .inr ⟨a.block, a.off, arr.toList, ?_, ?_, fun m v hv => ?_⟩, hm⟩
    ·cases a; simp only at hs; subst hs; rfl
    ·unfold roOf; rw [hh]
    ·have hmlt : m < rows.flatten.length := (List.getElem?_eq_some_iff.1 hv).1
     rw [flatten_len hlen] at hmlt
     have hi : m / k < rows.length := Nat.div_lt_of_lt_mul (by rw [Nat.mul_comm]; exact hmlt)
     have hj : m % k < k := Nat.mod_lt _ hk
     have hzi := hlen _ (List.getElem_mem hi)
     have hg := flatten_get hlen (i := m / k) (j := m % k) (row := rows[m / k]) (v := (rows[m / k])[m % k]'(by omega)) (List.getElem?_eq_getElem hi) (List.getElem?_eq_getElem _)
     have hme : m / k * k + m % k = m := by rw [Nat.mul_comm]; exact Nat.div_add_mod m k
     rw [hme, hv] at hg
     have hv' : v = (rows[m / k])[m % k]'(by omega) := by simpa using hg
     have h2 := hc (m / k) _ (List.getElem?_eq_getElem hi) (m % k) v (by rw [hv']; exact List.getElem?_eq_getElem _)
     rw [hme] at h2
     unfold World.cell? at h2
     have hbj : (a.add m).block = a.block := by unfold Addr.add; split <;> rfl
     have hsj : (a.add m).spot = a.spot := by unfold Addr.add; split <;> simp [hs]
     have hoj : (a.add m).off = a.off + m := by unfold Addr.add; split <;> simp [*]
     rw [hbj, hh] at h2
     simp only [hsj, hs, hoj] at h2
     simpa using h2
   | _ => simp [hh] at h1
section
variable {H : Type} {enc : TypeId × Value → H} {P : Program}
def Opn {α : Type} (enc : TypeId × Value → H) (P : Program) (t k : Nat) (en : α → List Value) (ok : Ro → α → Prop) : Prop :=
  (∀ z, (en z).length = k) ∧ ∀ (W : World) (spare : Nat → Bool) (fuel : Nat) (cs : List Value) (x : DataW H × List MemPlace), DataW.trod enc P W 0 spare true fuel t cs = some x → ∃ z, cs = en z ∧ ok (roOf W) z
theorem opn_int {t : Nat} (ht : P.underlying t = some (.int .i64)) : Opn enc P t 1 encI (fun _ z => InR z) :=
 ⟨fun _ => rfl, fun W spare fuel cs x h => by
  obtain ⟨n, rfl, _, hw⟩ := DataW.trod_int ht h
  exact ⟨n, rfl, bounds_i64 hw⟩⟩
theorem Opn.map {α β : Type} {t k : Nat} {en : α → List Value} {ok : Ro → α → Prop} {en' : β → List Value} {ok' : Ro → β → Prop} (h : Opn enc P t k en ok) (f : α → β) (hl : ∀ z, (en' z).length = k) (he : ∀ z, en z = en' (f z)) (ho : ∀ R z, ok R z → ok' R (f z)) : Opn enc P t k en' ok' :=
 ⟨hl, fun W spare fuel cs x hx => by
  obtain ⟨z, rfl, hz⟩ := h.2 W spare fuel cs x hx
  exact ⟨f z, he z, ho _ _ hz⟩⟩
theorem opn_slice {α : Type} [Inhabited α] {t e k : Nat} {en : α → List Value} {ok : Ro → α → Prop} (ht : P.underlying t = some (.slice e)) (hk : 0 < k) (hce : P.cellsOf e = k) (he : Opn enc P e k en ok) :
  Opn enc P t 1 (encSl (α := α)) (fun R s => RS R k en s.a s.xs ∧ s.xs.length ≤ s.cap ∧ ∀ x ∈ s.xs, ok R x) := by
 refine ⟨fun _ => rfl, fun W spare fuel cs x h => ?_⟩
 rcases Go.Deep.open_slice ht h with ⟨hcs, _⟩ | ⟨a, len, cap, m, n, D, Pl, hcs, _, hl, hm, hmm, _, hx⟩
 ·exact ⟨⟨none, 0, []⟩, hcs, ⟨by simp, .inl rfl, by simp⟩, Nat.le_refl _, by simp⟩
 ·have hlm : len ≤ m := by rw [hmm]; split <;> omega
  have each : ∀ i, i < len → ∃ z : α, (∀ j v, (en z)[j]? = some v → W.cell? (a.add (i * k + j)) = some v) ∧ ok (roOf W) z := by
   intro i hi
   obtain ⟨cs', h1, h2⟩ := hx i (by omega)
   rw [hce] at h1
   obtain ⟨_, hlen, hcell⟩ := World.cells?_some h1
   obtain ⟨z, rfl, hr⟩ := he.2 W spare n cs' _ h2
   refine ⟨z, fun j v hj => ?_, hr⟩
   have hjk : j < k := by have := (List.getElem?_eq_some_iff.1 hj).1; rw [he.1] at this; exact this
   have := hcell j hjk
   rw [addr_add_add] at this
   rw [this, hj]
  have hch : ∃ f : Nat → α, ∀ i, i < len → (∀ j v, (en (f i))[j]? = some v → W.cell? (a.add (i * k + j)) = some v) ∧ ok (roOf W) (f i) :=
   ⟨fun i => if h : i < len then (each i h).choose else default, fun i hi => by simp only [hi, dif_pos]; exact (each i hi).choose_spec⟩
  obtain ⟨f, hf⟩ := hch
  have hlen : ((List.range len).map f).length = len := by simp
  refine ⟨⟨some a, cap, (List.range len).map f⟩, by rw [hcs]; unfold encSl; rw [hlen], ?_, by (try dsimp only); rw [hlen]; exact hl, fun z hz => ?_⟩
  ·refine rsl_ofG hk (fun r hr => ?_) (by rw [List.length_map]; (try dsimp only); rw [hlen]; simp only [maxLen] at hm; omega) (fun i r hi j v hv => ?_)
   ·obtain ⟨z, _, rfl⟩ := List.mem_map.1 hr
    exact he.1 z
   ·have hil : i < len := by have := (List.getElem?_eq_some_iff.1 hi).1; simpa using this
    have : r = en (f i) := by simp [List.getElem?_map, hil] at hi; exact hi.symm
    subst this
    exact (hf i hil).1 j v hv
  ·obtain ⟨i, hi, rfl⟩ := List.mem_map.1 hz
   exact (hf i (by simpa using hi)).2
theorem cut3 {cs : List Value} {a b c : Nat} (h : cs.length = a + b + c) : cs = (cs.drop 0).take a ++ (cs.drop a).take b ++ (cs.drop (a + b)).take c := by
 rw [List.drop_zero, List.take_of_length_le (l := cs.drop (a + b)) (by rw [List.length_drop]; omega), ← List.drop_drop, List.append_assoc, List.take_append_drop, List.take_append_drop]
theorem opn_struct3 {α β γ : Type} {t k0 k1 k2 : Nat} {f0 f1 f2 : Field} {e0 : α → List Value} {e1 : β → List Value} {e2 : γ → List Value} {p0 : Ro → α → Prop} {p1 : Ro → β → Prop} {p2 : Ro → γ → Prop} (ht : P.underlying t = some (.struct #[f0, f1, f2])) (hc : P.cellsOf t = k0 + k1 + k2)
  (c0 : P.cellsOf f0.type = k0) (c1 : P.cellsOf f1.type = k1) (c2 : P.cellsOf f2.type = k2) (o0 : f0.offset = 0) (o1 : f1.offset = k0) (o2 : f2.offset = k0 + k1) (h0 : Opn enc P f0.type k0 e0 p0) (h1 : Opn enc P f1.type k1 e1 p1) (h2 : Opn enc P f2.type k2 e2 p2) :
  Opn enc P t (k0 + k1 + k2) (fun z : α × β × γ => e0 z.1 ++ e1 z.2.1 ++ e2 z.2.2) (fun R z => p0 R z.1 ∧ p1 R z.2.1 ∧ p2 R z.2.2) := by
 refine ⟨fun z => by rw [List.length_append, List.length_append, h0.1, h1.1, h2.1], fun W spare fuel cs x h => ?_⟩
 obtain ⟨y0, y1, y2, n, _, hl, g0, g1, g2⟩ := Go.Deep.trod_struct3 ht h
 rw [c0, o0] at g0
 rw [c1, o1] at g1
 rw [c2, o2] at g2
 obtain ⟨z0, q0, r0⟩ := h0.2 _ _ _ _ _ g0
 obtain ⟨z1, q1, r1⟩ := h1.2 _ _ _ _ _ g1
 obtain ⟨z2, q2, r2⟩ := h2.2 _ _ _ _ _ g2
 refine ⟨(z0, z1, z2), ?_, r0, r1, r2⟩
 rw [cut3 (hl.trans hc), q0, q1, q2]
theorem Opn.top {α : Type} {W : World} {spare : Nat → Bool} {t k : Nat} {en : α → List Value} {ok : Ro → α → Prop} {v : Value} {d : DataW H} {ps : List MemPlace} {fs : Array Field} (he : Opn enc P t k en ok) (ht : P.underlying t = some (.struct fs)) (hval : Value.okWide P W .any 0 t v) (h : DataW.Trod enc P W 0 spare true t v d ps) :
  ∃ z : α, v = .agg (en z).toArray ∧ ok (roOf W) z := by
 obtain ⟨cs, rfl, _⟩ := WideShapes.okWide_struct ht hval
 obtain ⟨fuel, hf⟩ := h
 obtain ⟨z, hz, hr⟩ := he.2 W spare fuel _ _ hf
 refine ⟨z, ?_, hr⟩
 obtain ⟨l⟩ := cs
 have : l = en z := hz
 rw [this]
theorem Opn.topS {α : Type} {W : World} {spare : Nat → Bool} {t e : Nat} {ok : Ro → SlA α → Prop} {v : Value} {d : DataW H} {ps : List MemPlace} (he : Opn enc P t 1 (encSl (α := α)) ok) (ht : P.underlying t = some (.slice e)) (hval : Value.okWide P W .any 0 t v) (h : DataW.Trod enc P W 0 spare true t v d ps) :
  ∃ z : SlA α, v = .slice z.a z.xs.length z.cap ∧ ok (roOf W) z := by
 obtain ⟨a0, len, cap, rfl⟩ := okWide_slice ht hval
 obtain ⟨fuel, hf⟩ := h
 obtain ⟨z, hz, hr⟩ := he.2 W spare fuel _ _ hf
 refine ⟨z, ?_, hr⟩
 simp [Value.cells, encSl] at hz
 obtain ⟨rfl, rfl, rfl⟩ := hz
 rfl
def OkI (R : Ro) (s : CvS) : Prop := RS R 1 encI s.a s.cv.vals ∧ s.cv.vals.length ≤ s.cap ∧ InR s.cv.per ∧ InR s.cv.inc
theorem opn_curve {t ts ti : Nat} {f0 f1 f2 : Field} (ht : P.underlying t = some (.struct #[f0, f1, f2])) (hc : P.cellsOf t = 3) (t0 : f0.type = ts) (t1 : f1.type = ti) (t2 : f2.type = ti) (cs : P.cellsOf ts = 1) (ci : P.cellsOf ti = 1) (o0 : f0.offset = 0) (o1 : f1.offset = 1) (o2 : f2.offset = 2)
  (us : P.underlying ts = some (.slice ti)) (ui : P.underlying ti = some (.int .i64)) : Opn enc P t 3 encC OkI := by
 have hs := opn_slice (α := Int) (enc := enc) us (by decide) ci (opn_int ui)
 have h3 := opn_struct3 (enc := enc) (k0 := 1) (k1 := 1) (k2 := 1) ht hc (by rw [t0]; exact cs) (by rw [t1]; exact ci) (by rw [t2]; exact ci) o0 o1 o2 (by rw [t0]; exact hs) (by rw [t1]; exact opn_int ui) (by rw [t2]; exact opn_int ui)
 exact h3.map (fun z => ⟨z.1.a, z.1.cap, ⟨z.1.xs, z.2.1, z.2.2⟩⟩) (fun _ => rfl) (fun _ => rfl) (fun R z h => ⟨h.1.1, h.1.2.1, h.2.1, h.2.2⟩)
end
end Go.Proofs.YtaoakchgjgmedaaGreat.K
namespace Go.Proofs.YtaoakchgjgmedaaGreat.M
open Go Go.Proofs.YtaoakchgjgmedaaGreat.K
section
variable {τ : Type} (ps : List Pkt) (rc : Int → St → τ → Int × τ)
end
section
variable {σ τ : Type} {ps : List Pkt} {ch : MS → σ → Int × Nat × σ} {good : MS → σ → Prop} {rel : Nat → Nat → Prop} {classes col : Nat} {s : RS σ} {st : St} {g : τ} {rc : Int → St → τ → Int × τ} {ρ : σ → τ → Prop}
end
section
variable {ps : List Pkt} {classes len : Nat} {B : Int} {st : St}
end
def prioFrom (nx : Int → Int) : Nat → Nat → Int
  | 0, _ => -1
  | k + 1, c => if 0 ≤ nx c then nx c else prioFrom nx k (c + 1)
def prioCh (ps : List Pkt) (n : Nat) (ms : MS) (_ : Unit) : Int × Nat × Unit := (prioFrom (nextW ps ms) n 0, skipTo ms.begun ms.before, ())
section
variable {ps : List Pkt} {n : Nat}
end
def grant (nx : Int → Int) (w : List Int) (c : Nat) (b : Bool) (d : List Int) : List Int := if 0 ≤ nx c ∧ b = false then d.set c (nth d c + nth w c) else d
def drop0 (nx : Int → Int) (c : Nat) (d : List Int) : List Int := if nx c < 0 then d.set c 0 else d
def defGo (nx sz : Int → Int) (w : List Int) : Nat → Nat → Bool → List Int → Int × (Nat × Bool × List Int)
  | 0, c, b, d => (-1, (c, b, d))
  | k + 1, c, b, d =>
    if 0 ≤ nx c ∧ sz (nx c) ≤ nth (grant nx w c b d) c then (nx c, (c, true, (grant nx w c b d).set c (nth (grant nx w c b d) c - sz (nx c))))
    else defGo nx sz w k ((c + 1) % w.length) false (drop0 nx c (grant nx w c b d))
def szOf (ps : List Pkt) (i : Int) : Int := (nth ps i.toNat).size
def defF (n : Nat) : Nat := 1502 * n
def defCh (ps : List Pkt) (w : List Int) (ms : MS) (s : Nat × Bool × List Int) : Int × Nat × (Nat × Bool × List Int) :=
  if firstR ps ms < 0 then (-1, skipTo ms.begun ms.before, s)
  else ((defGo (nextW ps ms) (szOf ps) w (defF w.length) s.1 s.2.1 s.2.2).1, skipTo ms.begun ms.before, (defGo (nextW ps ms) (szOf ps) w (defF w.length) s.1 s.2.1 s.2.2).2)
def DOk (n c : Nat) (b : Bool) (d : List Int) : Prop := c < n ∧ d.length = n ∧ ∀ i, i < n → 0 ≤ nth d i ∧ nth d i ≤ (if i = c ∧ b = true then 7499 else 1499)
section
variable {nx sz : Int → Int} {w : List Int}
theorem grant_len (c : Nat) (b : Bool) (d : List Int) : (grant nx w c b d).length = d.length := by unfold grant; split <;> simp
theorem drop0_len (c : Nat) (d : List Int) : (drop0 nx c d).length = d.length := by unfold drop0; split <;> simp
theorem grant_ne {c i : Nat} {b : Bool} {d : List Int} (h : i ≠ c) : nth (grant nx w c b d) i = nth d i := by
 unfold grant; split
 ·rw [nth_set_ne (Ne.symm h)]
 ·rfl
theorem grant_self {c : Nat} {b : Bool} {d : List Int} (h : c < d.length) : nth (grant nx w c b d) c = (if 0 ≤ nx c ∧ b = false then nth d c + nth w c else nth d c) := by
 unfold grant; split
 ·rw [nth_set_self h]
 ·rfl
theorem drop0_ne {c i : Nat} {d : List Int} (h : i ≠ c) : nth (drop0 nx c d) i = nth d i := by
 unfold drop0; split
 ·rw [nth_set_ne (Ne.symm h)]
 ·rfl
theorem drop0_self {c : Nat} {d : List Int} (h : c < d.length) : nth (drop0 nx c d) c = (if nx c < 0 then 0 else nth d c) := by
 unfold drop0; split
 ·rw [nth_set_self h]
 ·rfl
theorem mod_succ {n c : Nat} (hc : c < n) : (c + 1) % n = if c + 1 < n then c + 1 else 0 := by
 split
 ·rename_i h; exact Nat.mod_eq_of_lt h
 ·rw [show c + 1 = n by omega, Nat.mod_self]
theorem DOk.grant (hw : ∀ x ∈ w, 1 ≤ x ∧ x ≤ 6000) {c : Nat} {b : Bool} {d : List Int} (h : DOk w.length c b d) : ∀ i, i < w.length → 0 ≤ nth (grant nx w c b d) i ∧ nth (M.grant nx w c b d) i ≤ (if i = c then 7499 else 1499) := by
 obtain ⟨h1, h2, h3⟩ := h
 intro i hi
 have a := h3 i hi
 by_cases e : i = c
 ·subst e
  rw [grant_self (by omega), if_pos rfl]
  have := hw _ (nth_mem hi)
  split
  ·rename_i hh
   rw [if_neg (by rw [hh.2]; simp)] at a
   omega
  ·split at a <;> omega
 ·rw [grant_ne e, if_neg e]
  rw [if_neg (fun hh => e hh.1)] at a
  exact a
theorem DOk.next (hw : ∀ x ∈ w, 1 ≤ x ∧ x ≤ 6000) {c : Nat} (hsz : 0 ≤ nx c → sz (nx c) ≤ 1500) {b : Bool} {d : List Int} (h : DOk w.length c b d) (hno : ¬ (0 ≤ nx c ∧ sz (nx c) ≤ nth (M.grant nx w c b d) c)) :
  DOk w.length ((c + 1) % w.length) false (drop0 nx c (M.grant nx w c b d)) := by
 have hg := h.grant (nx := nx) hw
 obtain ⟨h1, h2, h3⟩ := h
 refine ⟨Nat.mod_lt _ (by omega), by rw [drop0_len, grant_len]; exact h2, fun i hi => ?_⟩
 rw [if_neg (by simp)]
 have a := hg i hi
 by_cases e : i = c
 ·subst e
  rw [drop0_self (by rw [grant_len]; omega)]
  split
  ·omega
  ·rename_i h0
   have : ¬ sz (nx i) ≤ nth (M.grant nx w i b d) i := fun hh => hno ⟨by omega, hh⟩
   have := hsz (by omega)
   omega
 ·rw [drop0_ne e]
  rw [if_neg e] at a; exact a
theorem DOk.pick (hw : ∀ x ∈ w, 1 ≤ x ∧ x ≤ 6000) {c : Nat} (hsz : 1 ≤ sz (nx c)) {b : Bool} {d : List Int} (h : DOk w.length c b d) (hy : sz (nx c) ≤ nth (M.grant nx w c b d) c) :
  DOk w.length c true ((M.grant nx w c b d).set c (nth (M.grant nx w c b d) c - sz (nx c))) := by
 have hg := h.grant (nx := nx) hw
 obtain ⟨h1, h2, h3⟩ := h
 refine ⟨h1, by rw [List.length_set, grant_len]; exact h2, fun i hi => ?_⟩
 have a := hg i hi
 by_cases e : i = c
 ·subst e
  rw [nth_set_self (by rw [grant_len]; omega), if_pos ⟨rfl, rfl⟩]
  rw [if_pos rfl] at a
  omega
 ·rw [nth_set_ne (Ne.symm e), if_neg (fun hh => e hh.1)]
  rw [if_neg e] at a; exact a
end
section
variable {ps : List Pkt} {w : List Int} {ms : MS} {s : Nat × Bool × List Int}
def def0 (n : Nat) : Nat × Bool × List Int := (0, false, List.replicate n 0)
end
def aheadN (tb : List Int) (cls : Int) (t : Nat) : Int := findFrom (fun n => decide (cls < 0) || nth tb ((t + n) % tb.length) != cls) tb.length 0
def slotT (tb : List Int) (t : Nat) : Int := nth tb (t % tb.length)
def slotCh (ps : List Pkt) (cap : Int) (tb : List Int) (ms : MS) (_ : Unit) : Int × Nat × Unit :=
  if slotT tb ms.now.toNat < 0 then (-1, ms.before, ())
  else if nextW ps ms (slotT tb ms.now.toNat) < 0 then (-1, skipTo ms.begun ms.before, ())
  else if aheadN tb (slotT tb ms.now.toNat) ms.now.toNat ≠ -1 ∧ (nth ps (nextW ps ms (slotT tb ms.now.toNat)).toNat).size > ms.left + (aheadN tb (slotT tb ms.now.toNat) ms.now.toNat - 1) * cap then (-1, skipTo ms.begun ms.before, ())
  else (nextW ps ms (slotT tb ms.now.toNat), skipTo ms.begun ms.before, ())
theorem mod_off {n t i : Nat} (hn : 0 < n) : ∃ j, j < n ∧ (t + j) % n = i % n := by
 refine ⟨(i % n + n - t % n) % n, Nat.mod_lt _ hn, ?_⟩
 have h1 := Nat.mod_lt t hn
 have h2 := Nat.mod_lt i hn
 have h3 := Nat.div_add_mod t n
 rw [Nat.add_mod_mod, show t + (i % n + n - t % n) = i % n + n + n * (t / n) by omega, Nat.add_mul_mod_self_left, Nat.add_mod_right, Nat.mod_mod]
section
variable {ps : List Pkt} {cap : Int} {tb : List Int} {ms : MS} {st : St}
end
def okT (classes : Int) (tb : List Int) : Bool := decide (1 ≤ tb.length) && decide (tb.length ≤ 40) && tb.all fun c => decide (-1 ≤ c) && decide (c < classes)
theorem okT_iff {n : Int} {tb : List Int} : okT n tb = true ↔ 1 ≤ tb.length ∧ tb.length ≤ 40 ∧ ∀ c ∈ tb, -1 ≤ c ∧ c < n := by
 unfold okT
 simp only [Bool.and_eq_true, decide_eq_true_eq, List.all_eq_true, and_assoc]
structure Ln where
  kind : Int
  cap : Int
  n : Int
  w : List Int
  tb : List Int
def withinB (l : List Int) (lo hi : Int) : Bool := l.all fun x => decide (lo ≤ x) && decide (x ≤ hi)
def outB (lo hi x : Int) : Bool := decide (x < lo) || decide (hi < x)
def listsE (b : Bool) (rows : List (List Int)) : Int := if b = false then 2 else if rows.any (fun r => decide (0 < r.length)) = true then 6 else 0
theorem within_find {l : List Int} {lo hi : Int} : (!decide (0 ≤ findN (fun i => outB lo hi (nth l i)) l.length)) = withinB l lo hi := by
 rcases findN_cases (fun i => outB lo hi (nth l i)) l.length with ⟨i, h1, h2, h3, h4⟩ | ⟨h1, h2⟩
 ·rw [h2]
  have : withinB l lo hi = false := by
   apply Bool.eq_false_iff.2
   intro hh
   unfold withinB at hh
   rw [List.all_eq_true] at hh
   have := hh _ (nth_mem h1)
   simp only [outB, Bool.or_eq_true, decide_eq_true_eq, Bool.and_eq_true] at h3 this
   omega
  rw [this]; simp
 ·rw [h1]
  have : withinB l lo hi = true := by
   unfold withinB
   rw [List.all_eq_true]
   intro x hx
   obtain ⟨i, hi, rfl⟩ := List.getElem_of_mem hx
   have := h2 i hi
   rw [show nth l i = l[i] by unfold nth List.getD; rw [List.getElem?_eq_getElem hi]; rfl] at this
   simp only [outB, Bool.or_eq_false_iff, decide_eq_false_iff_not] at this
   simp only [Bool.and_eq_true, decide_eq_true_eq]; omega
  rw [this]; rfl
def lchkL (L : Ln) : Int :=
  if L.kind = 3 then listsE (decide ((L.w.length : Int) = L.n) && withinB L.w 1 20) [L.tb]
  else if L.kind = 4 then listsE (decide ((L.w.length : Int) = L.n) && withinB L.w 1 6000) [L.tb]
  else if L.kind = 5 then listsE (decide (1 ≤ (L.tb.length : Int)) && decide ((L.tb.length : Int) ≤ 40) && withinB L.tb (-1) (L.n - 1)) [L.w]
  else listsE true [L.w, L.tb]
def chkL (L : Ln) : Int := if L.kind < 1 ∨ 5 < L.kind then 9 else if L.cap < 1 ∨ 4000 < L.cap ∨ L.n < 1 ∨ 6 < L.n then 2 else lchkL L
def runE (L : Ln) (ticks : Int) (ps : List Pkt) : Int := if L.kind = 3 then wrunE 20 L.cap ticks L.w ps else if L.kind = 4 then wrunE 6000 L.cap ticks L.w ps else lrunE L.cap L.n ticks ps
def sendL (L : Ln) (ticks : Nat) (ps : List Pkt) : List Int × List (List Int) :=
  if L.kind = 1 then ((mrun ps (fifo ps) L.cap L.n.toNat ticks ()).done, (mrun ps (fifo ps) L.cap L.n.toNat ticks ()).sent)
  else if L.kind = 2 then ((mrun ps (prioCh ps L.n.toNat) L.cap L.n.toNat ticks ()).done, (mrun ps (prioCh ps L.n.toNat) L.cap L.n.toNat ticks ()).sent)
  else if L.kind = 3 then ((mrun ps (robinCh ps L.w) L.cap L.w.length ticks (0, nth L.w 0)).done, (mrun ps (robinCh ps L.w) L.cap L.w.length ticks (0, nth L.w 0)).sent)
  else if L.kind = 4 then ((mrun ps (defCh ps L.w) L.cap L.w.length ticks (def0 L.w.length)).done, (mrun ps (defCh ps L.w) L.cap L.w.length ticks (def0 L.w.length)).sent)
  else ((mrun ps (slotCh ps L.cap L.tb) L.cap L.n.toNat ticks ()).done, (mrun ps (slotCh ps L.cap L.tb) L.cap L.n.toNat ticks ()).sent)
def runL (L : Ln) (ticks : Int) (ps : List Pkt) : List Int × List (List Int) := if runE L ticks ps ≠ 0 then ([], []) else sendL L ticks.toNat ps
def srvE (L : Ln) (ticks : Int) (ps : List Pkt) : Int := if chkL L ≠ 0 then chkL L else runE L ticks ps
def srvL (L : Ln) (ticks : Int) (ps : List Pkt) : List Int × List (List Int) := if chkL L ≠ 0 then ([], []) else runL L ticks ps
theorem chk_facts {L : Ln} (h : chkL L = 0) : (1 ≤ L.kind ∧ L.kind ≤ 5) ∧ 1 ≤ L.cap ∧ L.cap ≤ 4000 ∧ 1 ≤ L.n ∧ L.n ≤ 6 ∧ lchkL L = 0 := by
 unfold chkL at h
 split at h
 ·omega
 ·split at h
  ·omega
  ·exact ⟨by omega, by omega, by omega, by omega, by omega, h⟩
structure DrawOk (L : Ln) : Prop where
  cap : 3 ≤ L.cap ∧ L.cap ≤ 42
  n : L.n = 3
  kind : 1 ≤ L.kind ∧ L.kind ≤ 5
  plain : L.kind = 1 ∨ L.kind = 2 → L.w = [] ∧ L.tb = []
  rob : L.kind = 3 → L.w.length = 3 ∧ (∀ x ∈ L.w, 1 ≤ x ∧ x ≤ 3) ∧ L.tb = []
  defi : L.kind = 4 → L.w.length = 3 ∧ (∀ x ∈ L.w, 1 ≤ x ∧ x ≤ 50) ∧ L.tb = []
  slots : L.kind = 5 → L.w = [] ∧ 3 ≤ L.tb.length ∧ L.tb.length ≤ 6 ∧ ∀ x ∈ L.tb, -1 ≤ x ∧ x ≤ 2
theorem within_no {l : List Int} {lo hi : Int} {k : Nat} (hk : k < l.length) (h : nth l k < lo ∨ hi < nth l k) : withinB l lo hi = false := by
 apply Bool.eq_false_iff.2
 intro hh
 unfold withinB at hh
 rw [List.all_eq_true] at hh
 have := hh _ (nth_mem hk)
 simp only [decide_eq_true_eq, Bool.and_eq_true] at this
 omega
theorem within_yes {l : List Int} {lo hi : Int} (h : ∀ i, i < l.length → lo ≤ nth l i ∧ nth l i ≤ hi) : withinB l lo hi = true := by
 unfold withinB
 rw [List.all_eq_true]
 intro x hx
 obtain ⟨i, hi', rfl⟩ := List.getElem_of_mem hx
 have := h i hi'
 rw [show nth l i = l[i] by unfold nth List.getD; rw [List.getElem?_eq_getElem hi']; rfl] at this
 simp only [Bool.and_eq_true, decide_eq_true_eq]; omega
theorem lists_one {b : Bool} {r : List Int} : listsE b [r] = if b = false then 2 else if 0 < (r.length : Int) then 6 else 0 := by
 unfold listsE
 by_cases hb : b = false
 ·rw [if_pos hb, if_pos hb]
 ·rw [if_neg hb, if_neg hb]
  by_cases hr : 0 < r.length
  ·rw [if_pos (by simp [hr]), if_pos (by omega)]
  ·rw [if_neg (by simp [hr]), if_neg (by omega)]
theorem lists_two {b : Bool} {r s : List Int} : listsE b [r, s] = if b = false then 2 else if 0 < (r.length : Int) ∨ 0 < (s.length : Int) then 6 else 0 := by
 unfold listsE
 by_cases hb : b = false
 ·rw [if_pos hb, if_pos hb]
 ·rw [if_neg hb, if_neg hb]
  by_cases hr : 0 < r.length
  ·rw [if_pos (by simp [hr]), if_pos (.inl (by omega))]
  ·by_cases hs : 0 < s.length
   ·rw [if_pos (by simp [hs]), if_pos (.inr (by omega))]
   ·rw [if_neg (by simp [hr, hs]), if_neg (by omega)]
theorem chk_spec {L : Ln} {m : Int} (hm : (L.kind = 4 ∧ m = 6000) ∨ (L.kind ≠ 4 ∧ m = 20)) (h0 : 1 ≤ L.kind ∧ L.kind ≤ 5) (h1 : ((1 ≤ L.cap ∧ L.cap ≤ 4000) ∧ 1 ≤ L.n) ∧ L.n ≤ 6) :
  chkL L = if (L.kind = 3 ∨ L.kind = 4) ∧ (¬ (L.w.length : Int) = L.n ∨ withinB L.w 1 m = false) then 2 else if L.kind = 5 ∧ (((L.tb.length : Int) < 1 ∨ 40 < (L.tb.length : Int)) ∨ withinB L.tb (-1) (L.n - 1) = false) then 2 else if ((¬ L.kind = 3 ∧ ¬ L.kind = 4) ∧ 0 < (L.w.length : Int)) ∨ (¬ L.kind = 5 ∧ 0 < (L.tb.length : Int)) then 6 else 0 := by
 unfold chkL
 rw [if_neg (by omega), if_neg (by omega)]
 unfold lchkL
 by_cases k3 : L.kind = 3
 ·obtain rfl : m = 20 := by omega
  rw [if_pos k3, lists_one, k3]
  by_cases hl : (L.w.length : Int) = L.n <;> by_cases hw : withinB L.w 1 20 = false <;> simp [hl, hw]
 ·by_cases k4 : L.kind = 4
  ·obtain rfl : m = 6000 := by omega
   rw [if_neg k3, if_pos k4, lists_one, k4]
   by_cases hl : (L.w.length : Int) = L.n <;> by_cases hw : withinB L.w 1 6000 = false <;> simp [hl, hw]
  ·by_cases k5 : L.kind = 5
   ·rw [if_neg k3, if_neg k4, if_pos k5, lists_one, k5]
    by_cases hl : (L.tb.length : Int) < 1 <;> by_cases hl2 : 40 < (L.tb.length : Int) <;> by_cases hw : withinB L.tb (-1) (L.n - 1) = false <;> simp [hl, hl2, hw]
   ·rw [if_neg k3, if_neg k4, if_neg k5, lists_two]
    simp [k3, k4, k5]
theorem no_a {A B : Prop} {b : Bool} (h : A → B ∧ b = true) : ¬ (A ∧ (¬ B ∨ b = false)) := by
 rintro ⟨h1, h2 | h2⟩
 ·exact h2 (h h1).1
 ·rw [(h h1).2] at h2; cases h2
theorem no_b {A : Prop} {x : Int} {b : Bool} (h : A → (1 ≤ x ∧ x ≤ 40) ∧ b = true) : ¬ (A ∧ ((x < 1 ∨ 40 < x) ∨ b = false)) := by
 rintro ⟨h1, h2 | h2⟩
 ·have := (h h1).1; omega
 ·rw [(h h1).2] at h2; cases h2
theorem no_c {A B C : Prop} {x y : Int} (h : (¬ A ∧ ¬ B → x ≤ 0) ∧ (¬ C → y ≤ 0)) : ¬ (((¬ A ∧ ¬ B) ∧ 0 < x) ∨ (¬ C ∧ 0 < y)) := by
 rintro (⟨h1, h2⟩ | ⟨h1, h2⟩)
 ·have := h.1 h1; omega
 ·have := h.2 h1; omega
theorem DrawOk.lens {L : Ln} (h : DrawOk L) : L.w.length ≤ 42 ∧ L.tb.length ≤ 42 := by
 have h3 := h.kind
 by_cases k1 : L.kind = 1 ∨ L.kind = 2
 ·have := h.plain k1; rw [this.1, this.2]; exact ⟨by decide, by decide⟩
 ·by_cases k3 : L.kind = 3
  ·have := h.rob k3; rw [this.2.2, this.1]; exact ⟨by decide, by decide⟩
  ·by_cases k4 : L.kind = 4
   ·have := h.defi k4; rw [this.2.2, this.1]; exact ⟨by decide, by decide⟩
   ·have := h.slots (by omega); rw [this.1]; exact ⟨by decide, by omega⟩
structure LnM where
  a1 : Option Addr
  c1 : Nat
  a2 : Option Addr
  c2 : Nat
  L : Ln
instance instLnM : Inhabited LnM := ⟨⟨none, 0, none, 0, ⟨0, 0, 0, [], []⟩⟩⟩
def encLn (m : LnM) : List Value := [.int .i64 m.L.kind, .int .i64 m.L.cap, .int .i64 m.L.n, .slice m.a1 m.L.w.length m.c1, .slice m.a2 m.L.tb.length m.c2]
def OkLn (R : Ro) (m : LnM) : Prop := K.RS R 1 encI m.a1 m.L.w ∧ K.RS R 1 encI m.a2 m.L.tb
theorem OkLn.mono {R R' : Ro} {m : LnM} (h : OkLn R m) (hR : RLe R R') : OkLn R' m := ⟨h.1.mono hR, h.2.mono hR⟩
end Go.Proofs.YtaoakchgjgmedaaGreat.M
namespace Go.Proofs.YtaoakchgjgmedaaGreat.K
open Go Go.RowKit Go.ChangeShapes Go.WideShapes Go.ChangeAt Go.WideElems Go.Maps Go.Proofs.YtaoakchgjgmedaaGreat.M
section
variable {H : Type} {enc : TypeId × Value → H} {P : Program}
end
end Go.Proofs.YtaoakchgjgmedaaGreat.K
namespace Go.Proofs.YtaoakchgjgmedaaGreat.M
open Go Go.Proofs.YtaoakchgjgmedaaGreat.K
def OkLc (R : Ro) (m : LnM) : Prop := OkLn R m ∧ m.L.tb.length ≤ m.c2
theorem OkLc.mono {R R' : Ro} {m : LnM} (h : OkLc R m) (hR : RLe R R') : OkLc R' m := ⟨h.1.mono hR, h.2⟩
end Go.Proofs.YtaoakchgjgmedaaGreat.M
namespace Go.Proofs.YtaoakchgjgmedaaGreat.K
open Go Go.RowKit Go.ChangeShapes Go.WideShapes Go.ChangeAt Go.WideElems Go.Maps Go.Proofs.YtaoakchgjgmedaaGreat.M
section
variable {H : Type} {enc : TypeId × Value → H} {P : Program}
theorem opn_lineC {t ts ti : Nat} {f0 f1 f2 f3 f4 : Field} (ht : P.underlying t = some (.struct #[f0, f1, f2, f3, f4])) (hc : P.cellsOf t = 5) (t0 : f0.type = ti) (t1 : f1.type = ti) (t2 : f2.type = ti) (t3 : f3.type = ts) (t4 : f4.type = ts) (cs : P.cellsOf ts = 1) (ci : P.cellsOf ti = 1)
  (o0 : f0.offset = 0) (o1 : f1.offset = 1) (o2 : f2.offset = 2) (o3 : f3.offset = 3) (o4 : f4.offset = 4) (us : P.underlying ts = some (.slice ti)) (ui : P.underlying ti = some (.int .i64)) : Opn enc P t 5 encLn OkLc := by
 have hs := opn_slice (α := Int) (enc := enc) us (by decide) ci (opn_int ui)
 refine ⟨fun z => rfl, fun W spare fuel cells x h => ?_⟩
 obtain ⟨xs, n, _, rfl, hl, hlen, hf⟩ := DataW.trod_struct ht h
 rw [hc] at hl
 match cells, hl with
 | [c0, c1, c2, c3, c4], _ =>
  match xs, hlen with
  | [y0, y1, y2, y3, y4], _ =>
   have g0 := hf 0 f0 rfl
   have g1 := hf 1 f1 rfl
   have g2 := hf 2 f2 rfl
   have g3 := hf 3 f3 rfl
   have g4 := hf 4 f4 rfl
   rw [t0, ci, o0] at g0
   rw [t1, ci, o1] at g1
   rw [t2, ci, o2] at g2
   rw [t3, cs, o3] at g3
   rw [t4, cs, o4] at g4
   obtain ⟨z0, q0, _⟩ := (opn_int ui).2 _ _ _ _ _ g0
   obtain ⟨z1, q1, _⟩ := (opn_int ui).2 _ _ _ _ _ g1
   obtain ⟨z2, q2, _⟩ := (opn_int ui).2 _ _ _ _ _ g2
   obtain ⟨s3, q3, r3⟩ := hs.2 _ _ _ _ _ g3
   obtain ⟨s4, q4, r4⟩ := hs.2 _ _ _ _ _ g4
   refine ⟨⟨s3.a, s3.cap, s4.a, s4.cap, ⟨z0, z1, z2, s3.xs, s4.xs⟩⟩, ?_, ⟨r3.1, r4.1⟩, r4.2.1⟩
   unfold encLn
   simp only [encI, encSl, List.drop, List.take, List.cons.injEq, and_true] at q0 q1 q2 q3 q4
   rw [q0, q1, q2, q3, q4]
end
end Go.Proofs.YtaoakchgjgmedaaGreat.K
namespace Go.Proofs.YtaoakchgjgmedaaGreat.K
open Go Go.RowKit
def decZ : List Int → M.Sz
  | [a, b] => ⟨a, b⟩
  | _ => ⟨0, 0⟩
theorem decZ_enc : ∀ z : List Int, z.length = 2 → M.encZ (decZ z) = ints z
 | [a, b], _ => rfl
 | [], h => by simp at h
 | [_], h => by simp at h
 | _ :: _ :: _ :: _, h => by simp at h
end Go.Proofs.YtaoakchgjgmedaaGreat.K
namespace Go.Proofs.YtaoakchgjgmedaaGreat
open Go Go.Proofs.YtaoakchgjgmedaaGreat.K
def tab : Tab := [
  (1, ⟨.fn, 1, 8, [.nilFunc]⟩),
  (2, ⟨.int .i64, 1, 8, [.int .i64 0]⟩),
  (3, ⟨.int .i64, 1, 8, [.int .i64 0]⟩),
  (4, ⟨.bool, 1, 1, [.bool false]⟩),
  (5, ⟨.int .u8, 1, 1, [.int .u8 0]⟩),
  (6, ⟨.int .u8, 1, 1, [.int .u8 0]⟩),
  (7, ⟨.strct [(0, 1), (1, 1), (2, 1), (3, 1)], 4, 24, [.int .i64 0, .int .i64 0, .bool false, .int .u8 0]⟩),
  (8, ⟨.strct [(0, 1), (1, 1), (2, 1), (3, 1)], 4, 24, [.int .i64 0, .int .i64 0, .bool false, .int .u8 0]⟩),
  (9, ⟨.str, 1, 16, [.string ⟨#[]⟩]⟩),
  (10, ⟨.str, 1, 16, [.string ⟨#[]⟩]⟩),
  (11, ⟨.str, 1, 16, [.string ⟨#[]⟩]⟩),
  (12, ⟨.int .u64, 1, 8, [.int .u64 0]⟩),
  (13, ⟨.strct [(0, 1), (1, 1)], 2, 24, [.string ⟨#[]⟩, .int .u64 0]⟩),
  (14, ⟨.strct [(0, 1), (1, 1)], 2, 24, [.string ⟨#[]⟩, .int .u64 0]⟩),
  (15, ⟨.ptr 130, 1, 8, [.pointer .none]⟩),
  (16, ⟨.ptr 133, 1, 8, [.pointer .none]⟩),
  (17, ⟨.ptr 142, 1, 8, [.pointer .none]⟩),
  (18, ⟨.strct [(0, 1)], 1, 8, [.pointer .none]⟩),
  (19, ⟨.strct [(0, 1)], 1, 8, [.pointer .none]⟩),
  (20, ⟨.iface, 1, 16, [.nilIface]⟩),
  (21, ⟨.int .i32, 1, 4, [.int .i32 0]⟩),
  (22, ⟨.slice 3, 1, 24, [.slice .none 0 0]⟩),
  (23, ⟨.strct [(0, 1), (1, 1), (2, 1), (3, 1), (4, 1)], 5, 72, [.int .i64 0, .int .i64 0, .int .i64 0, .slice .none 0 0, .slice .none 0 0]⟩),
  (24, ⟨.strct [(0, 1), (1, 1), (2, 1), (3, 1), (4, 1)], 5, 72, [.int .i64 0, .int .i64 0, .int .i64 0, .slice .none 0 0, .slice .none 0 0]⟩),
  (25, ⟨.slice 29, 1, 24, [.slice .none 0 0]⟩),
  (26, ⟨.slice 56, 1, 24, [.slice .none 0 0]⟩),
  (27, ⟨.fn, 1, 8, [.nilFunc]⟩),
  (28, ⟨.strct [(0, 1), (1, 1), (2, 1)], 3, 40, [.slice .none 0 0, .int .i64 0, .int .i64 0]⟩),
  (29, ⟨.strct [(0, 1), (1, 1), (2, 1)], 3, 40, [.slice .none 0 0, .int .i64 0, .int .i64 0]⟩),
  (30, ⟨.fn, 1, 8, [.nilFunc]⟩),
  (31, ⟨.ptr 67, 1, 8, [.pointer .none]⟩),
  (32, ⟨.fn, 1, 8, [.nilFunc]⟩),
  (33, ⟨.fn, 1, 8, [.nilFunc]⟩),
  (34, ⟨.fn, 1, 8, [.nilFunc]⟩),
  (35, ⟨.fn, 1, 8, [.nilFunc]⟩),
  (36, ⟨.slice 63, 1, 24, [.slice .none 0 0]⟩),
  (37, ⟨.fn, 1, 8, [.nilFunc]⟩),
  (38, ⟨.fn, 1, 8, [.nilFunc]⟩),
  (39, ⟨.slice 24, 1, 24, [.slice .none 0 0]⟩),
  (40, ⟨.fn, 1, 8, [.nilFunc]⟩),
  (41, ⟨.fn, 1, 8, [.nilFunc]⟩),
  (42, ⟨.slice 25, 1, 24, [.slice .none 0 0]⟩),
  (43, ⟨.fn, 1, 8, [.nilFunc]⟩),
  (44, ⟨.slice 26, 1, 24, [.slice .none 0 0]⟩),
  (45, ⟨.fn, 1, 8, [.nilFunc]⟩),
  (46, ⟨.int .i64, 1, 8, [.int .i64 0]⟩),
  (48, ⟨.fn, 1, 8, [.nilFunc]⟩),
  (49, ⟨.fn, 1, 8, [.nilFunc]⟩),
  (50, ⟨.strct [(0, 1), (1, 1), (2, 1)], 3, 24, [.bool false, .int .i64 0, .int .i64 0]⟩),
  (51, ⟨.strct [(0, 1), (1, 1), (2, 1)], 3, 24, [.bool false, .int .i64 0, .int .i64 0]⟩),
  (53, ⟨.fn, 1, 8, [.nilFunc]⟩),
  (54, ⟨.fn, 1, 8, [.nilFunc]⟩),
  (55, ⟨.strct [(0, 1), (1, 1)], 2, 16, [.int .i64 0, .int .i64 0]⟩),
  (56, ⟨.strct [(0, 1), (1, 1)], 2, 16, [.int .i64 0, .int .i64 0]⟩),
  (57, ⟨.slice 22, 1, 24, [.slice .none 0 0]⟩),
  (58, ⟨.strct [(0, 1), (1, 1)], 2, 48, [.slice .none 0 0, .slice .none 0 0]⟩),
  (59, ⟨.strct [(0, 1), (1, 1)], 2, 48, [.slice .none 0 0, .slice .none 0 0]⟩),
  (61, ⟨.fn, 1, 8, [.nilFunc]⟩),
  (62, ⟨.strct [(0, 1), (1, 1), (2, 1)], 3, 24, [.int .i64 0, .int .i64 0, .int .i64 0]⟩),
  (63, ⟨.strct [(0, 1), (1, 1), (2, 1)], 3, 24, [.int .i64 0, .int .i64 0, .int .i64 0]⟩),
  (64, ⟨.fn, 1, 8, [.nilFunc]⟩),
  (65, ⟨.fn, 1, 8, [.nilFunc]⟩),
  (66, ⟨.strct [(0, 1), (1, 1)], 2, 32, [.slice .none 0 0, .int .i64 0]⟩),
  (67, ⟨.strct [(0, 1), (1, 1)], 2, 32, [.slice .none 0 0, .int .i64 0]⟩),
  (68, ⟨.ptr 56, 1, 8, [.pointer .none]⟩),
  (69, ⟨.fn, 1, 8, [.nilFunc]⟩),
  (70, ⟨.fn, 1, 8, [.nilFunc]⟩),
  (71, ⟨.fn, 1, 8, [.nilFunc]⟩),
  (72, ⟨.iface, 1, 16, [.nilIface]⟩),
  (73, ⟨.iface, 1, 16, [.nilIface]⟩),
  (75, ⟨.fn, 1, 8, [.nilFunc]⟩),
  (76, ⟨.fn, 1, 8, [.nilFunc]⟩),
  (77, ⟨.fn, 1, 8, [.nilFunc]⟩),
  (78, ⟨.fn, 1, 8, [.nilFunc]⟩),
  (79, ⟨.fn, 1, 8, [.nilFunc]⟩),
  (80, ⟨.fn, 1, 8, [.nilFunc]⟩),
  (81, ⟨.fn, 1, 8, [.nilFunc]⟩),
  (82, ⟨.fn, 1, 8, [.nilFunc]⟩),
  (83, ⟨.fn, 1, 8, [.nilFunc]⟩),
  (84, ⟨.strct [], 0, 0, []⟩),
  (85, ⟨.strct [], 0, 0, []⟩),
  (86, ⟨.strct [], 0, 0, []⟩),
  (87, ⟨.strct [], 0, 0, []⟩),
  (88, ⟨.strct [], 0, 0, []⟩),
  (89, ⟨.strct [], 0, 0, []⟩),
  (90, ⟨.map 3 73, 1, 8, [.map .none]⟩),
  (91, ⟨.fn, 1, 8, [.nilFunc]⟩),
  (92, ⟨.fn, 1, 8, [.nilFunc]⟩),
  (93, ⟨.fn, 1, 8, [.nilFunc]⟩),
  (94, ⟨.fn, 1, 8, [.nilFunc]⟩),
  (95, ⟨.fn, 1, 8, [.nilFunc]⟩),
  (96, ⟨.fn, 1, 8, [.nilFunc]⟩),
  (97, ⟨.fn, 1, 8, [.nilFunc]⟩),
  (99, ⟨.fn, 1, 8, [.nilFunc]⟩),
  (100, ⟨.fn, 1, 8, [.nilFunc]⟩),
  (101, ⟨.fn, 1, 8, [.nilFunc]⟩),
  (103, ⟨.fn, 1, 8, [.nilFunc]⟩),
  (104, ⟨.fn, 1, 8, [.nilFunc]⟩),
  (105, ⟨.strct [(0, 3), (3, 3), (6, 1), (7, 1)], 8, 96, [.slice .none 0 0, .int .i64 0, .int .i64 0, .slice .none 0 0, .int .i64 0, .int .i64 0, .int .i64 0, .bool false]⟩),
  (106, ⟨.strct [(0, 3), (3, 3), (6, 1), (7, 1)], 8, 96, [.slice .none 0 0, .int .i64 0, .int .i64 0, .slice .none 0 0, .int .i64 0, .int .i64 0, .int .i64 0, .bool false]⟩),
  (108, ⟨.fn, 1, 8, [.nilFunc]⟩),
  (109, ⟨.fn, 1, 8, [.nilFunc]⟩),
  (110, ⟨.fn, 1, 8, [.nilFunc]⟩),
  (111, ⟨.fn, 1, 8, [.nilFunc]⟩),
  (112, ⟨.fn, 1, 8, [.nilFunc]⟩),
  (114, ⟨.fn, 1, 8, [.nilFunc]⟩),
  (115, ⟨.fn, 1, 8, [.nilFunc]⟩),
  (116, ⟨.fn, 1, 8, [.nilFunc]⟩),
  (117, ⟨.fn, 1, 8, [.nilFunc]⟩),
  (118, ⟨.fn, 1, 8, [.nilFunc]⟩),
  (119, ⟨.fn, 1, 8, [.nilFunc]⟩),
  (120, ⟨.fn, 1, 8, [.nilFunc]⟩),
  (121, ⟨.fn, 1, 8, [.nilFunc]⟩),
  (122, ⟨.fn, 1, 8, [.nilFunc]⟩),
  (123, ⟨.fn, 1, 8, [.nilFunc]⟩),
  (124, ⟨.fn, 1, 8, [.nilFunc]⟩),
  (125, ⟨.fn, 1, 8, [.nilFunc]⟩),
  (126, ⟨.fn, 1, 8, [.nilFunc]⟩),
  (127, ⟨.fn, 1, 8, [.nilFunc]⟩),
  (128, ⟨.fn, 1, 8, [.nilFunc]⟩),
  (129, ⟨.strct [(0, 1), (1, 1), (2, 1), (3, 1)], 4, 40, [.pointer .none, .pointer .none, .pointer .none, .string ⟨#[]⟩]⟩),
  (130, ⟨.strct [(0, 1), (1, 1), (2, 1), (3, 1)], 4, 40, [.pointer .none, .pointer .none, .pointer .none, .string ⟨#[]⟩]⟩),
  (131, ⟨.arr 0 16, 0, 0, []⟩),
  (132, ⟨.strct [(0, 0)], 0, 0, []⟩),
  (133, ⟨.strct [(0, 0)], 0, 0, []⟩),
  (134, ⟨.int .u32, 1, 4, [.int .u32 0]⟩),
  (135, ⟨.int .u8, 1, 1, [.int .u8 0]⟩),
  (136, ⟨.int .u8, 1, 1, [.int .u8 0]⟩),
  (137, ⟨.fn, 1, 8, [.nilFunc]⟩),
  (138, ⟨.ptr 5, 1, 8, [.pointer .none]⟩),
  (139, ⟨.int .i32, 1, 4, [.int .i32 0]⟩),
  (140, ⟨.int .i32, 1, 4, [.int .i32 0]⟩),
  (141, ⟨.strct [(0, 1), (1, 1), (2, 1), (3, 1), (4, 1), (5, 1), (6, 1), (7, 1), (8, 1), (9, 1), (10, 1)], 11, 48, [.int .u64 0, .int .u64 0, .int .u32 0, .int .u8 0, .int .u8 0, .int .u8 0, .int .u8 0, .nilFunc, .pointer .none, .int .i32 0, .int .i32 0]⟩),
  (142, ⟨.strct [(0, 1), (1, 1), (2, 1), (3, 1), (4, 1), (5, 1), (6, 1), (7, 1), (8, 1), (9, 1), (10, 1)], 11, 48, [.int .u64 0, .int .u64 0, .int .u32 0, .int .u8 0, .int .u8 0, .int .u8 0, .int .u8 0, .nilFunc, .pointer .none, .int .i32 0, .int .i32 0]⟩),
  (143, ⟨.fn, 1, 8, [.nilFunc]⟩),
  (144, ⟨.fn, 1, 8, [.nilFunc]⟩),
  (145, ⟨.fn, 1, 8, [.nilFunc]⟩),
  (146, ⟨.fn, 1, 8, [.nilFunc]⟩),
  (147, ⟨.fn, 1, 8, [.nilFunc]⟩),
  (148, ⟨.fn, 1, 8, [.nilFunc]⟩),
  (149, ⟨.ptr 152, 1, 8, [.pointer .none]⟩),
  (150, ⟨.slice 4, 1, 24, [.slice .none 0 0]⟩),
  (151, ⟨.strct [(0, 1), (1, 1), (2, 1), (3, 1), (4, 1)], 5, 72, [.int .i64 0, .int .i64 0, .slice .none 0 0, .slice .none 0 0, .int .i64 0]⟩),
  (152, ⟨.strct [(0, 1), (1, 1), (2, 1), (3, 1), (4, 1)], 5, 72, [.int .i64 0, .int .i64 0, .slice .none 0 0, .slice .none 0 0, .int .i64 0]⟩),
  (153, ⟨.fn, 1, 8, [.nilFunc]⟩),
  (154, ⟨.strct [(0, 3), (3, 3), (6, 1), (7, 1), (8, 1)], 9, 104, [.slice .none 0 0, .int .i64 0, .int .i64 0, .slice .none 0 0, .int .i64 0, .int .i64 0, .int .i64 0, .int .i64 0, .int .i64 0]⟩),
  (155, ⟨.strct [(0, 3), (3, 3), (6, 1), (7, 1), (8, 1)], 9, 104, [.slice .none 0 0, .int .i64 0, .int .i64 0, .slice .none 0 0, .int .i64 0, .int .i64 0, .int .i64 0, .int .i64 0, .int .i64 0]⟩),
  (157, ⟨.fn, 1, 8, [.nilFunc]⟩),
  (158, ⟨.fn, 1, 8, [.nilFunc]⟩),
  (159, ⟨.fn, 1, 8, [.nilFunc]⟩),
  (160, ⟨.fn, 1, 8, [.nilFunc]⟩),
  (162, ⟨.fn, 1, 8, [.nilFunc]⟩),
  (163, ⟨.fn, 1, 8, [.nilFunc]⟩),
  (164, ⟨.fn, 1, 8, [.nilFunc]⟩),
  (165, ⟨.ptr 167, 1, 8, [.pointer .none]⟩),
  (166, ⟨.strct [(0, 1), (1, 1), (2, 1), (3, 1)], 4, 64, [.slice .none 0 0, .slice .none 0 0, .int .i64 0, .bool false]⟩),
  (167, ⟨.strct [(0, 1), (1, 1), (2, 1), (3, 1)], 4, 64, [.slice .none 0 0, .slice .none 0 0, .int .i64 0, .bool false]⟩),
  (168, ⟨.fn, 1, 8, [.nilFunc]⟩),
  (169, ⟨.slice 3, 1, 24, [.slice .none 0 0]⟩),
  (170, ⟨.fn, 1, 8, [.nilFunc]⟩),
  (171, ⟨.fn, 1, 8, [.nilFunc]⟩)]
theorem tab_ok : TabOk Tryz.prog tab := by unfold TabOk; kernel_rfl
theorem mixed : Tryz.prog.follows .mixedOrders = true := by kernel_rfl
theorem en4 : Enters Tryz.prog 4 := Enters.of Tryz.func4 (by kernel_rfl) rfl
theorem en5 : Enters Tryz.prog 5 := Enters.of Tryz.func5 (by kernel_rfl) rfl
theorem en6 : Enters Tryz.prog 6 := Enters.of Tryz.func6 (by kernel_rfl) rfl
theorem en7 : Enters Tryz.prog 7 := Enters.of Tryz.func7 (by kernel_rfl) rfl
theorem en8 : Enters Tryz.prog 8 := Enters.of Tryz.func8 (by kernel_rfl) rfl
theorem en9 : Enters Tryz.prog 9 := Enters.of Tryz.func9 (by kernel_rfl) rfl
theorem en10 : Enters Tryz.prog 10 := Enters.of Tryz.func10 (by kernel_rfl) rfl
theorem en11 : Enters Tryz.prog 11 := Enters.of Tryz.func11 (by kernel_rfl) rfl
theorem en12 : Enters Tryz.prog 12 := Enters.of Tryz.func12 (by kernel_rfl) rfl
theorem en13 : Enters Tryz.prog 13 := Enters.of Tryz.func13 (by kernel_rfl) rfl
theorem en14 : Enters Tryz.prog 14 := Enters.of Tryz.func14 (by kernel_rfl) rfl
theorem en15 : Enters Tryz.prog 15 := Enters.of Tryz.func15 (by kernel_rfl) rfl
theorem en16 : Enters Tryz.prog 16 := Enters.of Tryz.func16 (by kernel_rfl) rfl
theorem en17 : Enters Tryz.prog 17 := Enters.of Tryz.func17 (by kernel_rfl) rfl
theorem en18 : Enters Tryz.prog 18 := Enters.of Tryz.func18 (by kernel_rfl) rfl
theorem en19 : Enters Tryz.prog 19 := Enters.of Tryz.func19 (by kernel_rfl) rfl
theorem en20 : Enters Tryz.prog 20 := Enters.of Tryz.func20 (by kernel_rfl) rfl
theorem en21 : Enters Tryz.prog 21 := Enters.of Tryz.func21 (by kernel_rfl) rfl
theorem en22 : Enters Tryz.prog 22 := Enters.of Tryz.func22 (by kernel_rfl) rfl
theorem en23 : Enters Tryz.prog 23 := Enters.of Tryz.func23 (by kernel_rfl) rfl
theorem en24 : Enters Tryz.prog 24 := Enters.of Tryz.func24 (by kernel_rfl) rfl
theorem en25 : Enters Tryz.prog 25 := Enters.of Tryz.func25 (by kernel_rfl) rfl
theorem en26 : Enters Tryz.prog 26 := Enters.of Tryz.func26 (by kernel_rfl) rfl
theorem en27 : Enters Tryz.prog 27 := Enters.of Tryz.func27 (by kernel_rfl) rfl
theorem en28 : Enters Tryz.prog 28 := Enters.of Tryz.func28 (by kernel_rfl) rfl
theorem en29 : Enters Tryz.prog 29 := Enters.of Tryz.func29 (by kernel_rfl) rfl
theorem en30 : Enters Tryz.prog 30 := Enters.of Tryz.func30 (by kernel_rfl) rfl
theorem en31 : Enters Tryz.prog 31 := Enters.of Tryz.func31 (by kernel_rfl) rfl
theorem en32 : Enters Tryz.prog 32 := Enters.of Tryz.func32 (by kernel_rfl) rfl
theorem en33 : Enters Tryz.prog 33 := Enters.of Tryz.func33 (by kernel_rfl) rfl
theorem en34 : Enters Tryz.prog 34 := Enters.of Tryz.func34 (by kernel_rfl) rfl
theorem en35 : Enters Tryz.prog 35 := Enters.of Tryz.func35 (by kernel_rfl) rfl
theorem en36 : Enters Tryz.prog 36 := Enters.of Tryz.func36 (by kernel_rfl) rfl
theorem en37 : Enters Tryz.prog 37 := Enters.of Tryz.func37 (by kernel_rfl) rfl
theorem en38 : Enters Tryz.prog 38 := Enters.of Tryz.func38 (by kernel_rfl) rfl
theorem en39 : Enters Tryz.prog 39 := Enters.of Tryz.func39 (by kernel_rfl) rfl
theorem en40 : Enters Tryz.prog 40 := Enters.of Tryz.func40 (by kernel_rfl) rfl
theorem en41 : Enters Tryz.prog 41 := Enters.of Tryz.func41 (by kernel_rfl) rfl
theorem en42 : Enters Tryz.prog 42 := Enters.of Tryz.func42 (by kernel_rfl) rfl
theorem en43 : Enters Tryz.prog 43 := Enters.of Tryz.func43 (by kernel_rfl) rfl
theorem en44 : Enters Tryz.prog 44 := Enters.of Tryz.func44 (by kernel_rfl) rfl
theorem en45 : Enters Tryz.prog 45 := Enters.of Tryz.func45 (by kernel_rfl) rfl
theorem en46 : Enters Tryz.prog 46 := Enters.of Tryz.func46 (by kernel_rfl) rfl
theorem en47 : Enters Tryz.prog 47 := Enters.of Tryz.func47 (by kernel_rfl) rfl
theorem en48 : Enters Tryz.prog 48 := Enters.of Tryz.func48 (by kernel_rfl) rfl
theorem en49 : Enters Tryz.prog 49 := Enters.of Tryz.func49 (by kernel_rfl) rfl
theorem en50 : Enters Tryz.prog 50 := Enters.of Tryz.func50 (by kernel_rfl) rfl
theorem en51 : Enters Tryz.prog 51 := Enters.of Tryz.func51 (by kernel_rfl) rfl
theorem en52 : Enters Tryz.prog 52 := Enters.of Tryz.func52 (by kernel_rfl) rfl
theorem en53 : Enters Tryz.prog 53 := Enters.of Tryz.func53 (by kernel_rfl) rfl
theorem en54 : Enters Tryz.prog 54 := Enters.of Tryz.func54 (by kernel_rfl) rfl
theorem en55 : Enters Tryz.prog 55 := Enters.of Tryz.func55 (by kernel_rfl) rfl
theorem en56 : Enters Tryz.prog 56 := Enters.of Tryz.func56 (by kernel_rfl) rfl
theorem en57 : Enters Tryz.prog 57 := Enters.of Tryz.func57 (by kernel_rfl) rfl
theorem en58 : Enters Tryz.prog 58 := Enters.of Tryz.func58 (by kernel_rfl) rfl
theorem en59 : Enters Tryz.prog 59 := Enters.of Tryz.func59 (by kernel_rfl) rfl
theorem en60 : Enters Tryz.prog 60 := Enters.of Tryz.func60 (by kernel_rfl) rfl
theorem en61 : Enters Tryz.prog 61 := Enters.of Tryz.func61 (by kernel_rfl) rfl
theorem en62 : Enters Tryz.prog 62 := Enters.of Tryz.func62 (by kernel_rfl) rfl
theorem en63 : Enters Tryz.prog 63 := Enters.of Tryz.func63 (by kernel_rfl) rfl
theorem en64 : Enters Tryz.prog 64 := Enters.of Tryz.func64 (by kernel_rfl) rfl
theorem en65 : Enters Tryz.prog 65 := Enters.of Tryz.func65 (by kernel_rfl) rfl
theorem en66 : Enters Tryz.prog 66 := Enters.of Tryz.func66 (by kernel_rfl) rfl
theorem en67 : Enters Tryz.prog 67 := Enters.of Tryz.func67 (by kernel_rfl) rfl
theorem en68 : Enters Tryz.prog 68 := Enters.of Tryz.func68 (by kernel_rfl) rfl
theorem en69 : Enters Tryz.prog 69 := Enters.of Tryz.func69 (by kernel_rfl) rfl
theorem en70 : Enters Tryz.prog 70 := Enters.of Tryz.func70 (by kernel_rfl) rfl
theorem en71 : Enters Tryz.prog 71 := Enters.of Tryz.func71 (by kernel_rfl) rfl
theorem en72 : Enters Tryz.prog 72 := Enters.of Tryz.func72 (by kernel_rfl) rfl
theorem en73 : Enters Tryz.prog 73 := Enters.of Tryz.func73 (by kernel_rfl) rfl
theorem en74 : Enters Tryz.prog 74 := Enters.of Tryz.func74 (by kernel_rfl) rfl
theorem en75 : Enters Tryz.prog 75 := Enters.of Tryz.func75 (by kernel_rfl) rfl
theorem en76 : Enters Tryz.prog 76 := Enters.of Tryz.func76 (by kernel_rfl) rfl
theorem en77 : Enters Tryz.prog 77 := Enters.of Tryz.func77 (by kernel_rfl) rfl
theorem en78 : Enters Tryz.prog 78 := Enters.of Tryz.func78 (by kernel_rfl) rfl
theorem en79 : Enters Tryz.prog 79 := Enters.of Tryz.func79 (by kernel_rfl) rfl
theorem en80 : Enters Tryz.prog 80 := Enters.of Tryz.func80 (by kernel_rfl) rfl
theorem en81 : Enters Tryz.prog 81 := Enters.of Tryz.func81 (by kernel_rfl) rfl
theorem en82 : Enters Tryz.prog 82 := Enters.of Tryz.func82 (by kernel_rfl) rfl
theorem en83 : Enters Tryz.prog 83 := Enters.of Tryz.func83 (by kernel_rfl) rfl
theorem en84 : Enters Tryz.prog 84 := Enters.of Tryz.func84 (by kernel_rfl) rfl
theorem en85 : Enters Tryz.prog 85 := Enters.of Tryz.func85 (by kernel_rfl) rfl
theorem en86 : Enters Tryz.prog 86 := Enters.of Tryz.func86 (by kernel_rfl) rfl
theorem en87 : Enters Tryz.prog 87 := Enters.of Tryz.func87 (by kernel_rfl) rfl
theorem en88 : Enters Tryz.prog 88 := Enters.of Tryz.func88 (by kernel_rfl) rfl
theorem en89 : Enters Tryz.prog 89 := Enters.of Tryz.func89 (by kernel_rfl) rfl
theorem en90 : Enters Tryz.prog 90 := Enters.of Tryz.func90 (by kernel_rfl) rfl
theorem en91 : Enters Tryz.prog 91 := Enters.of Tryz.func91 (by kernel_rfl) rfl
theorem en92 : Enters Tryz.prog 92 := Enters.of Tryz.func92 (by kernel_rfl) rfl
theorem en93 : Enters Tryz.prog 93 := Enters.of Tryz.func93 (by kernel_rfl) rfl
theorem en94 : Enters Tryz.prog 94 := Enters.of Tryz.func94 (by kernel_rfl) rfl
theorem en95 : Enters Tryz.prog 95 := Enters.of Tryz.func95 (by kernel_rfl) rfl
theorem en96 : Enters Tryz.prog 96 := Enters.of Tryz.func96 (by kernel_rfl) rfl
theorem en97 : Enters Tryz.prog 97 := Enters.of Tryz.func97 (by kernel_rfl) rfl
theorem en98 : Enters Tryz.prog 98 := Enters.of Tryz.func98 (by kernel_rfl) rfl
theorem en99 : Enters Tryz.prog 99 := Enters.of Tryz.func99 (by kernel_rfl) rfl
theorem en100 : Enters Tryz.prog 100 := Enters.of Tryz.func100 (by kernel_rfl) rfl
theorem en101 : Enters Tryz.prog 101 := Enters.of Tryz.func101 (by kernel_rfl) rfl
theorem en102 : Enters Tryz.prog 102 := Enters.of Tryz.func102 (by kernel_rfl) rfl
theorem en103 : Enters Tryz.prog 103 := Enters.of Tryz.func103 (by kernel_rfl) rfl
theorem en104 : Enters Tryz.prog 104 := Enters.of Tryz.func104 (by kernel_rfl) rfl
theorem en105 : Enters Tryz.prog 105 := Enters.of Tryz.func105 (by kernel_rfl) rfl
theorem en106 : Enters Tryz.prog 106 := Enters.of Tryz.func106 (by kernel_rfl) rfl
theorem en107 : Enters Tryz.prog 107 := Enters.of Tryz.func107 (by kernel_rfl) rfl
theorem en108 : Enters Tryz.prog 108 := Enters.of Tryz.func108 (by kernel_rfl) rfl
theorem en109 : Enters Tryz.prog 109 := Enters.of Tryz.func109 (by kernel_rfl) rfl
theorem en110 : Enters Tryz.prog 110 := Enters.of Tryz.func110 (by kernel_rfl) rfl
theorem en111 : Enters Tryz.prog 111 := Enters.of Tryz.func111 (by kernel_rfl) rfl
theorem en112 : Enters Tryz.prog 112 := Enters.of Tryz.func112 (by kernel_rfl) rfl
theorem en113 : Enters Tryz.prog 113 := Enters.of Tryz.func113 (by kernel_rfl) rfl
theorem en114 : Enters Tryz.prog 114 := Enters.of Tryz.func114 (by kernel_rfl) rfl
theorem en115 : Enters Tryz.prog 115 := Enters.of Tryz.func115 (by kernel_rfl) rfl
theorem en116 : Enters Tryz.prog 116 := Enters.of Tryz.func116 (by kernel_rfl) rfl
theorem en117 : Enters Tryz.prog 117 := Enters.of Tryz.func117 (by kernel_rfl) rfl
theorem en118 : Enters Tryz.prog 118 := Enters.of Tryz.func118 (by kernel_rfl) rfl
theorem en119 : Enters Tryz.prog 119 := Enters.of Tryz.func119 (by kernel_rfl) rfl
theorem en120 : Enters Tryz.prog 120 := Enters.of Tryz.func120 (by kernel_rfl) rfl
theorem en140 : Enters Tryz.prog 140 := Enters.of Tryz.func140 (by kernel_rfl) rfl
theorem en141 : Enters Tryz.prog 141 := Enters.of Tryz.func141 (by kernel_rfl) rfl
theorem en142 : Enters Tryz.prog 142 := Enters.of Tryz.func142 (by kernel_rfl) rfl
theorem en143 : Enters Tryz.prog 143 := Enters.of Tryz.func143 (by kernel_rfl) rfl
theorem en144 : Enters Tryz.prog 144 := Enters.of Tryz.func144 (by kernel_rfl) rfl
theorem en145 : Enters Tryz.prog 145 := Enters.of Tryz.func145 (by kernel_rfl) rfl
theorem en146 : Enters Tryz.prog 146 := Enters.of Tryz.func146 (by kernel_rfl) rfl
theorem en150 : Enters Tryz.prog 150 := Enters.of Tryz.func150 (by kernel_rfl) rfl
theorem en152 : Enters Tryz.prog 152 := Enters.of Tryz.func152 (by kernel_rfl) rfl
theorem en153 : Enters Tryz.prog 153 := Enters.of Tryz.func153 (by kernel_rfl) rfl
theorem en156 : Enters Tryz.prog 156 := Enters.of Tryz.func156 (by kernel_rfl) rfl
theorem en157 : Enters Tryz.prog 157 := Enters.of Tryz.func157 (by kernel_rfl) rfl
theorem en158 : Enters Tryz.prog 158 := Enters.of Tryz.func158 (by kernel_rfl) rfl
theorem en159 : Enters Tryz.prog 159 := Enters.of Tryz.func159 (by kernel_rfl) rfl
theorem en160 : Enters Tryz.prog 160 := Enters.of Tryz.func160 (by kernel_rfl) rfl
theorem en164 : Enters Tryz.prog 164 := Enters.of Tryz.func164 (by kernel_rfl) rfl
theorem en165 : Enters Tryz.prog 165 := Enters.of Tryz.func165 (by kernel_rfl) rfl
theorem en167 : Enters Tryz.prog 167 := Enters.of Tryz.func167 (by kernel_rfl) rfl
theorem en168 : Enters Tryz.prog 168 := Enters.of Tryz.func168 (by kernel_rfl) rfl
theorem en169 : Enters Tryz.prog 169 := Enters.of Tryz.func169 (by kernel_rfl) rfl
theorem en170 : Enters Tryz.prog 170 := Enters.of Tryz.func170 (by kernel_rfl) rfl
theorem en171 : Enters Tryz.prog 171 := Enters.of Tryz.func171 (by kernel_rfl) rfl
theorem en172 : Enters Tryz.prog 172 := Enters.of Tryz.func172 (by kernel_rfl) rfl
theorem en173 : Enters Tryz.prog 173 := Enters.of Tryz.func173 (by kernel_rfl) rfl
theorem en174 : Enters Tryz.prog 174 := Enters.of Tryz.func174 (by kernel_rfl) rfl
theorem en175 : Enters Tryz.prog 175 := Enters.of Tryz.func175 (by kernel_rfl) rfl
theorem en177 : Enters Tryz.prog 177 := Enters.of Tryz.func177 (by kernel_rfl) rfl
theorem en181 : Enters Tryz.prog 181 := Enters.of Tryz.func181 (by kernel_rfl) rfl
theorem en183 : Enters Tryz.prog 183 := Enters.of Tryz.func183 (by kernel_rfl) rfl
theorem en184 : Enters Tryz.prog 184 := Enters.of Tryz.func184 (by kernel_rfl) rfl
theorem en185 : Enters Tryz.prog 185 := Enters.of Tryz.func185 (by kernel_rfl) rfl
theorem en186 : Enters Tryz.prog 186 := Enters.of Tryz.func186 (by kernel_rfl) rfl
theorem en187 : Enters Tryz.prog 187 := Enters.of Tryz.func187 (by kernel_rfl) rfl
theorem en188 : Enters Tryz.prog 188 := Enters.of Tryz.func188 (by kernel_rfl) rfl
theorem en194 : Enters Tryz.prog 194 := Enters.of Tryz.func194 (by kernel_rfl) rfl
theorem en196 : Enters Tryz.prog 196 := Enters.of Tryz.func196 (by kernel_rfl) rfl
theorem en197 : Enters Tryz.prog 197 := Enters.of Tryz.func197 (by kernel_rfl) rfl
theorem en198 : Enters Tryz.prog 198 := Enters.of Tryz.func198 (by kernel_rfl) rfl
theorem en199 : Enters Tryz.prog 199 := Enters.of Tryz.func199 (by kernel_rfl) rfl
theorem en200 : Enters Tryz.prog 200 := Enters.of Tryz.func200 (by kernel_rfl) rfl
theorem en202 : Enters Tryz.prog 202 := Enters.of Tryz.func202 (by kernel_rfl) rfl
theorem en203 : Enters Tryz.prog 203 := Enters.of Tryz.func203 (by kernel_rfl) rfl
end Go.Proofs.YtaoakchgjgmedaaGreat
namespace Go.Proofs.YtaoakchgjgmedaaGreat.K
open Go Go.RowKit
variable {P : Program} {T : Tab} {n : Nat} {env : Env} {w0 : World} {R : Ro} {E : List Ent} {o : Oper} {pc p q : Bool}
theorem Yl.makeFunc {fn : Go.Fn} {fi ca : List Operand} {us vs : List Value} (ho : o.op = .makeFunc fn fi.toArray ca.toArray) (hf : evs env fi = some (p, us)) (hc : evs env ca = some (q, vs)) (hpq : pc = true → (p && q) = true) : Yl P n env w0 R E o pc (.func fn us.toArray vs.toArray) := by
 intro a w hk hm hpc
 obtain ⟨h1, h2⟩ := and_both (hpq hpc)
 have e1 := evs_ok hk hf h1
 have e2 := evs_ok hk hc h2
 have e3 : fi.toArray.map a.eval = us.toArray := by rw [← e1]; simp
 have e4 : ca.toArray.map a.eval = vs.toArray := by rw [← e2]; simp
 unfold execOp
 rw [ho]
 simp only [Instr.makeFunc]
 rw [e3, e4]
 rfl
theorem WL.cap {ops rest : List Oper} {Q : Exit → Act → World → Prop} {e : TypeId} {k : Nat} {a : Option Addr} {cap : Nat} {rows : List (List Value)} (i : Nat) (hE : E[i]? = some (.sl e k a cap rows)) (h : rows.length ≤ cap → WG false P ops Q rest n env w0 R E) : WG false P ops Q rest n env w0 R E := by
 intro ac w hk hm
 refine h ?_ ac w hk hm
 obtain ⟨g1, g2, h⟩ := own_sl hm (List.mem_of_getElem? hE)
 rcases h with ⟨_, h2, _⟩ | ⟨g, cur, _, _, _, hn, _⟩
 ·subst h2; exact Nat.zero_le _
 ·simpa using hn
theorem W.cap {c : Code} {Q : Exit → Act → World → Prop} {e : TypeId} {k : Nat} {a : Option Addr} {cap : Nat} {rows : List (List Value)} (i : Nat) (hE : E[i]? = some (.sl e k a cap rows)) (h : rows.length ≤ cap → W P c Q n env w0 R E) : W P c Q n env w0 R E := by
 intro ac w hk hm
 refine h ?_ ac w hk hm
 obtain ⟨g1, g2, h⟩ := own_sl hm (List.mem_of_getElem? hE)
 rcases h with ⟨_, h2, _⟩ | ⟨g, cur, _, _, _, hn, _⟩
 ·subst h2; exact Nat.zero_le _
 ·simpa using hn
theorem WS.callAt {ops : List Oper} {Q : Exit → Act → World → Prop} {ES : List Ent} {R0 : Ro} {fuel : Nat} {listed : Array Bool} {d : Nat} {f : FuncId} {vs : List Value} {e : Ent} {Post : Value → Ro → Ent → List Ent → Prop} (k : Nat) {i : Nat} (hi : ops.toArray[i]? = some o) (hf : Enters P f) (hg : o.guard = none) (hd : o.dst = some d) (hdn : d < n)
  (hc : CallOp env o.op true f vs) (hE : E[k]? = some e) (hv : Fn P f vs w0 R (e :: E.eraseIdx k) (fun v R' E' => ∃ e' N, E' = N ++ e' :: E.eraseIdx k ∧ Post v R' e' N))
  (h : ∀ v R' e' N, RLe R R' → Post v R' e' N → RLe R0 R' ∧ ES.Sublist (N ++ E.set k e') ∧ WA P ops Q ES R0 w0 fuel (listed.setIfInBounds i true) n ((d, true, v) :: env) R' (N ++ E.set k e')) : WS P ops Q ES R0 w0 fuel listed n env R E i := by
 intro a w hk hm
 unfold wpOp
 rw [hi]
 simp only [Region.wanted, hg, if_true]
 left
 unfold Oper.wp
 rw [run_call hk hc rfl hf]
 refine (hv w (hm.perm (perm_get hE))).mono ?_
 rintro e0 w' ⟨v, R', E', rfl, hR, hm', e', N, rfl, hp⟩
 obtain ⟨g1, g2, g3⟩ := h v R' e' N hR hp
 have hm2 := hm'.perm ((perm_set e' hE).append_left N)
 simp only [hd]
 exact ⟨hm2.sub g1 g2, g3 _ _ (hk.putT hdn v) hm2⟩
end Go.Proofs.YtaoakchgjgmedaaGreat.K
namespace Go.Proofs.YtaoakchgjgmedaaGreat.K
open Go Go.RowKit
section
variable {P : Program} {ops : List Oper} {o : Oper} {Q : Exit → Act → World → Prop} {ES : List Ent} {R0 : Ro} {w0 : World} {fuel : Nat} {listed : Array Bool} {n : Nat} {env : Env} {R : Ro} {E : List Ent} {pc q : Bool}
theorem WA.callV {v : Value} {d : Nat} {f : FuncId} {vs : List Value} (i : Nat) (hi : ops.toArray[i]? = some o) (hr : Region.ready .any ops.toArray listed = [i]) (hf : Enters P f) (hg : gpc ops env o = some pc) (hd : o.dst = some d) (hdn : d < n)
  (hc : CallOp env o.op q f vs) (hq : pc = true → q = true) (hv : pc = true → FnV P f vs R v) (hsub : ES.Sublist E) (hR : RLe R0 R)
  (h : WA P ops Q ES R0 w0 fuel (listed.setIfInBounds i true) n ((d, pc, v) :: env) R E) : WA P ops Q ES R0 w0 (fuel + 1) listed n env R E := by
 intro a w hk hm
 refine wpAnyH_all hr (by simp) fun j hj => ?_
 obtain rfl : j = i := by simpa using hj
 unfold wpOp
 rw [hi]
 have hput := hk.put hdn pc v
 have hw := hk.wanted hg
 cases pc with
 | true =>
  simp only [hw, if_true]
  left
  unfold Oper.wp
  rw [run_call hk hc (hq rfl) hf]
  refine (hv rfl w0 E w hm).mono ?_
  rintro e w' ⟨rfl, hm'⟩
  simp only [hd]
  exact ⟨hm'.sub hR hsub, h _ _ (by simpa using hput) hm'⟩
 | false =>
  simp only [hw, Bool.false_eq_true, if_false, hd]
  exact ⟨hm.sub hR hsub, h _ _ (by simpa using hput) hm⟩
theorem WS.callV {v : Value} {d : Nat} {f : FuncId} {vs : List Value} {i : Nat} (hi : ops.toArray[i]? = some o) (hf : Enters P f) (hg : gpc ops env o = some pc) (hd : o.dst = some d) (hdn : d < n)
  (hc : CallOp env o.op q f vs) (hq : pc = true → q = true) (hv : pc = true → FnV P f vs R v) (hsub : ES.Sublist E) (hR : RLe R0 R)
  (h : WA P ops Q ES R0 w0 fuel (listed.setIfInBounds i true) n ((d, pc, v) :: env) R E) : WS P ops Q ES R0 w0 fuel listed n env R E i := by
 intro a w hk hm
 unfold wpOp
 rw [hi]
 have hput := hk.put hdn pc v
 have hw := hk.wanted hg
 cases pc with
 | true =>
  simp only [hw, if_true]
  left
  unfold Oper.wp
  rw [run_call hk hc (hq rfl) hf]
  refine (hv rfl w0 E w hm).mono ?_
  rintro e w' ⟨rfl, hm'⟩
  simp only [hd]
  exact ⟨hm'.sub hR hsub, h _ _ (by simpa using hput) hm'⟩
 | false =>
  simp only [hw, Bool.false_eq_true, if_false, hd]
  exact ⟨hm.sub hR hsub, h _ _ (by simpa using hput) hm⟩
theorem Yl.off {v : Value} (h : pc = false) : Yl P n env w0 R E o pc v := fun _ _ _ _ hp => by rw [h] at hp; cases hp
end
theorem noD {b : Bool} {p : Prop} (h : b = false) : b = true → p := fun h2 => by rw [h] at h2; cases h2
def noneD (D : List Nat) (listed : Array Bool) : Bool := (List.range listed.size).all fun d => !(D.contains d) || !(listed.getD d true)
theorem noneD_set {D : List Nat} {listed : Array Bool} {i : Nat} (h : D.contains i = false) : noneD D (listed.setIfInBounds i true) = noneD D listed := by
 unfold noneD
 rw [Array.size_setIfInBounds]
 apply Bool.eq_iff_iff.2
 simp only [List.all_eq_true]
 have e : ∀ d, (!(D.contains d) || !((listed.setIfInBounds i true).getD d true)) = (!(D.contains d) || !(listed.getD d true)) := fun d => by
  by_cases hd : i = d
  ·subst hd; rw [h]; rfl
  ·rw [getD_set_ne true hd]
 exact ⟨fun hh d hm => (e d) ▸ hh d hm, fun hh d hm => (e d).symm ▸ hh d hm⟩
section
variable {P : Program} {ops : Array Oper} {Q : Exit → Act → World → Prop} {md : Region.Mode} {S S2 : World → Prop} {D : List Nat}
def wpAnyD (P : Program) (md : Region.Mode) (ops : Array Oper) (Q : Exit → Act → World → Prop) (S S2 : World → Prop) (D : List Nat) : Nat → Array Bool → Act → World → Prop
  | 0, listed, a, w => Region.ready md ops listed = [] ∧ Q .normal a w
  | fuel + 1, listed, a, w =>
    (Region.ready md ops listed = [] → Q .normal a w) ∧
    ∀ i ∈ Region.ready md ops listed, wpOp P ops Q i (fun a' w' => (S w' ∧ (noneD D (listed.setIfInBounds i true) = true → S2 w')) ∧ wpAnyD P md ops Q S S2 D fuel (listed.setIfInBounds i true) a' w') a w
theorem wpAny_of_D : ∀ (fuel : Nat) (listed : Array Bool) (a : Act) (w : World), wpAnyD P md ops Q S S2 D fuel listed a w → wpAny P md ops Q fuel listed a w
 | 0, _, _, _, h => h
 | fuel + 1, _, _, _, h => ⟨h.1, fun i hi => wpOp_mono (fun a' w' h' => wpAny_of_D fuel _ a' w' h'.2) (h.2 i hi)⟩
def waitsD (md : Region.Mode) (ops : Array Oper) (D : List Nat) (i : Nat) : Bool := D.all fun d => match ops[d]? with | some od => od.after.toList.any fun e => Region.binds md e && Nat.beq e.on i | none => true
theorem waitsD_spec {i d : Nat} {od : Oper} (h : waitsD md ops D i = true) (hd : D.contains d = true) (ho : ops[d]? = some od) : ∃ e ∈ od.after, Region.binds md e = true ∧ e.on = i := by
 unfold waitsD at h
 have h1 := List.all_eq_true.1 h d (by simpa using hd)
 rw [ho] at h1
 simp only [List.any_eq_true, Bool.and_eq_true] at h1
 obtain ⟨e, he, h2, h3⟩ := h1
 exact ⟨e, Array.mem_toList_iff.1 he, h2, Nat.eq_of_beq_eq_true h3⟩
theorem wpAnyD_first {SX : World → Prop} {i : Nat} {oi : Oper} {v : Value} (hi : ops[i]? = some oi) (hsel : ∀ (j : Nat) (o : Oper) cs b, ops[j]? = some o → o.op ≠ .select cs b)
  (hQ : ∀ c a w, Q (.panic c) (a.put oi.dst v) w → Q (.panic c) a w) (hDi : D.contains i = false) :
  ∀ (fuel : Nat) (listed : Array Bool) (a : Act) (w : World),
   (∀ j oj, ops[j]? = some oj → j ≠ i → listed.getD j true = false → (∀ e ∈ oj.after, Region.binds md e = true → e.on ≠ i) → oi.apart ops oj = true) →
   i ∈ Region.ready md ops listed → YieldsIf P ops SX oi v a → S w → (noneD D listed = true → S2 w) →
   ((∀ w, S w → SX w) ∨ ((∀ w, S2 w → SX w) ∧ waitsD md ops D i = true ∧ noneD D listed = true)) →
   wpAnyD P md ops Q S S2 D fuel (listed.setIfInBounds i true) (a.put oi.dst v) w → wpAnyD P md ops Q S S2 D (fuel + 1) listed a w := by
 intro fuel
 induction fuel with
 | zero =>
  intro listed a w _ hr hy hS hS2 hm H
  have hSX : SX w := by
   rcases hm with hm | ⟨hm, _, hn⟩
   ·exact hm w hS
   ·exact hm w (hS2 hn)
  refine ⟨fun h => (by rw [h] at hr; cases hr), fun j hj => ?_⟩
  by_cases hji : j = i
  ·subst hji; exact hy.wpOp hi hSX ⟨⟨hS, fun hn => hS2 (by rw [noneD_set hDi] at hn; exact hn)⟩, H⟩
  ·have := ready_mono hj hji
   rw [H.1] at this
   cases this
 | succ fuel ih =>
  intro listed a w hfree hr hy hS hS2 hm H
  have hSX : SX w := by
   rcases hm with hm | ⟨hm, _, hn⟩
   ·exact hm w hS
   ·exact hm w (hS2 hn)
  refine ⟨fun h => (by rw [h] at hr; cases hr), fun j hj => ?_⟩
  by_cases hji : j = i
  ·subst hji; exact hy.wpOp hi hSX ⟨⟨hS, fun hn => hS2 (by rw [noneD_set hDi] at hn; exact hn)⟩, H⟩
  ·have h1 := H.2 j (ready_mono hj hji)
   obtain ⟨hjun, oj, hoj, hall⟩ := mem_ready.1 hj
   have hnot : ∀ e ∈ oj.after, Region.binds md e = true → e.on ≠ i := fun e he hb heq => by
    have h1 := hall e he hb
    have h0 := (mem_ready.1 hr).1
    rw [heq] at h1
    rcases Nat.lt_or_ge i listed.size with h' | h'
    ·simp [h'] at h0 h1; rw [h0] at h1; cases h1
    ·simp [Array.getElem?_eq_none h'] at h1
   have hm' : (∀ w, S w → SX w) ∨ ((∀ w, S2 w → SX w) ∧ waitsD md ops D i = true ∧ noneD D (listed.setIfInBounds j true) = true) := by
    rcases hm with hm | ⟨g1, g2, g3⟩
    ·exact .inl hm
    ·refine .inr ⟨g1, g2, ?_⟩
     have hdj : D.contains j = false := by
      cases hdj : D.contains j with
      | false => rfl
      | true =>
       obtain ⟨e, he, hb, heq⟩ := waitsD_spec g2 hdj hoj
       exact absurd heq (hnot e he hb)
     rw [noneD_set hdj]; exact g3
   have h2 := wpOp_putIf hoj (hfree j oj hoj hji hjun hnot) (fun cs b => hsel i oi cs b hi) (fun cs b => hsel j oj cs b hoj) hQ hy h1
   have hfree' : ∀ k ok, ops[k]? = some ok → k ≠ i → (listed.setIfInBounds j true).getD k true = false →
     (∀ e ∈ ok.after, Region.binds md e = true → e.on ≠ i) → oi.apart ops ok = true := fun k ok hk hki hun hno => by
    refine hfree k ok hk hki ?_ hno
    by_cases hjk : j = k
    ·subst hjk; exact hjun
    ·rw [getD_set_ne true hjk] at hun; exact hun
   have hco := Array.setIfInBounds_comm (xs := listed) true true (show j ≠ i from hji)
   refine wpOp_mono (fun a' w' h3 => ?_) h2
   have hn' : noneD D (listed.setIfInBounds j true) = true → S2 w' := fun hn => h3.2.1.2 (by rw [← hco, noneD_set hDi]; exact hn)
   refine ⟨⟨h3.2.1.1, hn'⟩, ih (listed.setIfInBounds j true) a' w' hfree' (ready_mono hr (Ne.symm hji)) h3.1 h3.2.1.1 hn' hm' ?_⟩
   rw [hco]
   exact h3.2.2
theorem wpAnyD_all {rs : List Nat} {fuel : Nat} {listed : Array Bool} {a : Act} {w : World} (hr : Region.ready md ops listed = rs) (hne : rs ≠ [])
  (h : ∀ i ∈ rs, wpOp P ops Q i (fun a' w' => (S w' ∧ (noneD D (listed.setIfInBounds i true) = true → S2 w')) ∧ wpAnyD P md ops Q S S2 D fuel (listed.setIfInBounds i true) a' w') a w) : wpAnyD P md ops Q S S2 D (fuel + 1) listed a w :=
 ⟨fun h0 => absurd (hr ▸ h0) hne, hr ▸ h⟩
theorem wpAnyD_done {listed : Array Bool} {a : Act} {w : World} (hr : Region.ready md ops listed = []) (h : Q .normal a w) :
  ∀ fuel, wpAnyD P md ops Q S S2 D fuel listed a w
 | 0 => ⟨hr, h⟩
 | _ + 1 => ⟨fun _ => h, by rw [hr]; simp⟩
end
section
variable {P : Program} {T : Tab} {ops : List Oper} {Q : Exit → Act → World → Prop} {n : Nat} {env : Env} {w0 : World} {R R0 : Ro} {E ES ES2 : List Ent} {D : List Nat} {o : Oper} {pc q : Bool} {fuel : Nat} {listed : Array Bool}
def VA (P : Program) (ops : List Oper) (Q : Exit → Act → World → Prop) (ES ES2 : List Ent) (D : List Nat) (R0 : Ro) (w0 : World) (fuel : Nat) (listed : Array Bool) (n : Nat) (env : Env) (R : Ro) (E : List Ent) : Prop :=
  ∀ a w, Kn n env a → Mem w0 w R E → wpAnyD P .any ops.toArray (NoPanic Q) (fun w => Mem w0 w R0 ES) (fun w => Mem w0 w R0 ES2) D fuel listed a w
def VS (P : Program) (ops : List Oper) (Q : Exit → Act → World → Prop) (ES ES2 : List Ent) (D : List Nat) (R0 : Ro) (w0 : World) (fuel : Nat) (listed : Array Bool) (n : Nat) (env : Env) (R : Ro) (E : List Ent) (i : Nat) : Prop :=
  ∀ a w, Kn n env a → Mem w0 w R E → wpOp P ops.toArray (NoPanic Q) i (fun a' w' => (Mem w0 w' R0 ES ∧ (noneD D (listed.setIfInBounds i true) = true → Mem w0 w' R0 ES2)) ∧ wpAnyD P .any ops.toArray (NoPanic Q) (fun w => Mem w0 w R0 ES) (fun w => Mem w0 w R0 ES2) D fuel (listed.setIfInBounds i true) a' w') a w
theorem W.regionD (id : Nat) {l : List Oper} (ES ES2 : List Ent) (D : List Nat) (hm : P.follows .mixedOrders = true)
  (h : VA P l Q ES ES2 D R w0 l.toArray.size (Array.replicate l.toArray.size false) n env R E) : W P (.region id l.toArray true) Q n env w0 R E := by
 intro a w hk hw
 refine wp_region_noPanic (wp_region_any hm (wpAny_of_D (S := fun w => Mem w0 w R ES) (S2 := fun w => Mem w0 w R ES2) (D := D) _ _ _ _ ?_))
 exact h a _ hk hw.drew
theorem VA.take {v : Value} {d : Nat} {pc : Bool} (i : Nat) (hi : ops.toArray[i]? = some o) (hs : Region.noSelect ops.toArray = true) (hf : Region.free .any ops.toArray listed i = true) (hr : (Region.ready .any ops.toArray listed).contains i = true) (hDi : D.contains i = false)
  (hg : gpc ops env o = some pc) (hd : o.dst = some d) (hdn : d < n) (hy : Yl P n env w0 R0 ES o pc v) (hsub : ES.Sublist E) (hR : RLe R0 R) (hs2 : noneD D listed = true → ES2.Sublist E)
  (h : VA P ops Q ES ES2 D R0 w0 fuel (listed.setIfInBounds i true) n ((d, pc, v) :: env) R E) : VA P ops Q ES ES2 D R0 w0 (fuel + 1) listed n env R E := by
 intro a w hk hm
 have hput := hk.put hdn pc v
 refine wpAnyD_first (SX := fun w => Mem w0 w R0 ES) (v := if pc then v else undef) hi (Region.noSelect_spec hs) (fun _ _ _ h => h) hDi fuel listed a w (Region.free_spec hi hf) (by simpa using hr) ?_ (hm.sub hR hsub) (fun hn => hm.sub hR (hs2 hn)) (.inl fun _ h => h) ?_
 ·cases pc with
  | true => exact .inl ⟨hk.wanted hg, fun w hm => by simpa using hy a w hk hm rfl⟩
  | false => exact .inr ⟨hk.wanted hg, rfl⟩
 ·rw [hd]
  exact h _ _ hput hm
theorem VA.take2 {v : Value} {d : Nat} {pc : Bool} (i : Nat) (hi : ops.toArray[i]? = some o) (hs : Region.noSelect ops.toArray = true) (hf : Region.free .any ops.toArray listed i = true) (hr : (Region.ready .any ops.toArray listed).contains i = true) (hDi : D.contains i = false) (hw : waitsD .any ops.toArray D i = true) (hn : noneD D listed = true)
  (hg : gpc ops env o = some pc) (hd : o.dst = some d) (hdn : d < n) (hy : Yl P n env w0 R0 ES2 o pc v) (hsub : ES.Sublist E) (hR : RLe R0 R) (hs2 : ES2.Sublist E)
  (h : VA P ops Q ES ES2 D R0 w0 fuel (listed.setIfInBounds i true) n ((d, pc, v) :: env) R E) : VA P ops Q ES ES2 D R0 w0 (fuel + 1) listed n env R E := by
 intro a w hk hm
 have hput := hk.put hdn pc v
 refine wpAnyD_first (SX := fun w => Mem w0 w R0 ES2) (v := if pc then v else undef) hi (Region.noSelect_spec hs) (fun _ _ _ h => h) hDi fuel listed a w (Region.free_spec hi hf) (by simpa using hr) ?_ (hm.sub hR hsub) (fun _ => hm.sub hR hs2) (.inr ⟨fun _ h => h, hw, hn⟩) ?_
 ·cases pc with
  | true => exact .inl ⟨hk.wanted hg, fun w hm => by simpa using hy a w hk hm rfl⟩
  | false => exact .inr ⟨hk.wanted hg, rfl⟩
 ·rw [hd]
  exact h _ _ hput hm
theorem VA.one {i : Nat} (hr : Region.ready .any ops.toArray listed = [i]) (h : VS P ops Q ES ES2 D R0 w0 fuel listed n env R E i) : VA P ops Q ES ES2 D R0 w0 (fuel + 1) listed n env R E := by
 intro a w hk hm
 refine wpAnyD_all hr (by simp) fun j hj => ?_
 obtain rfl : j = i := by simpa using hj
 exact h a w hk hm
theorem VA.br2 {i j : Nat} (hr : Region.ready .any ops.toArray listed = [i, j]) (h1 : VS P ops Q ES ES2 D R0 w0 fuel listed n env R E i) (h2 : VS P ops Q ES ES2 D R0 w0 fuel listed n env R E j) : VA P ops Q ES ES2 D R0 w0 (fuel + 1) listed n env R E := by
 intro a w hk hm
 refine wpAnyD_all hr (by simp) fun m hm' => ?_
 rcases List.mem_cons.1 hm' with rfl | hm'
 ·exact h1 a w hk hm
 ·obtain rfl : m = j := by simpa using hm'
  exact h2 a w hk hm
theorem VS.eff {d : Nat} {i : Nat} (hi : ops.toArray[i]? = some o) (hg : o.guard = none) (hd : o.dst = some d) (hdn : d < n)
  (h : Ef P n env w0 R E o fun v R' E' => RLe R0 R' ∧ ES.Sublist E' ∧ (noneD D (listed.setIfInBounds i true) = true → ES2.Sublist E') ∧ VA P ops Q ES ES2 D R0 w0 fuel (listed.setIfInBounds i true) n ((d, true, v) :: env) R' E') : VS P ops Q ES ES2 D R0 w0 fuel listed n env R E i := by
 intro a w hk hm
 unfold wpOp
 rw [hi]
 simp only [Region.wanted, hg, if_true]
 left
 obtain ⟨v, w', R', E', hrun, hm', hR', hsub', hs2, hn⟩ := h a w hk hm
 unfold Oper.wp
 rcases hrun with hrun | ⟨hrun, rfl⟩
 ·rw [hrun]; simp only [Oper.upon, hd]; exact ⟨⟨hm'.sub hR' hsub', fun h => hm'.sub hR' (hs2 h)⟩, hn _ _ (hk.putT hdn v) hm'⟩
 ·rw [hrun]; simp only [Oper.upon, hd]; exact ⟨⟨hm'.sub hR' hsub', fun h => hm'.sub hR' (hs2 h)⟩, hn _ _ (hk.putT hdn _) hm'⟩
theorem VS.effN {i : Nat} (hi : ops.toArray[i]? = some o) (hg : o.guard = none) (hd : o.dst = none)
  (h : Ef P n env w0 R E o fun _ R' E' => RLe R0 R' ∧ ES.Sublist E' ∧ (noneD D (listed.setIfInBounds i true) = true → ES2.Sublist E') ∧ VA P ops Q ES ES2 D R0 w0 fuel (listed.setIfInBounds i true) n env R' E') : VS P ops Q ES ES2 D R0 w0 fuel listed n env R E i := by
 intro a w hk hm
 unfold wpOp
 rw [hi]
 simp only [Region.wanted, hg, if_true]
 left
 obtain ⟨v, w', R', E', hrun, hm', hR', hsub', hs2, hn⟩ := h a w hk hm
 unfold Oper.wp
 rcases hrun with hrun | ⟨hrun, rfl⟩
 ·rw [hrun]; simp only [Oper.upon, hd]; exact ⟨⟨hm'.sub hR' hsub', fun h => hm'.sub hR' (hs2 h)⟩, hn _ _ hk hm'⟩
 ·rw [hrun]; simp only [Oper.upon, hd]; exact ⟨⟨hm'.sub hR' hsub', fun h => hm'.sub hR' (hs2 h)⟩, hn _ _ hk hm'⟩
theorem VS.yl {v : Value} {d : Nat} {i : Nat} (hi : ops.toArray[i]? = some o) (hg : o.guard = none) (hd : o.dst = some d) (hdn : d < n) (hy : Yl P n env w0 R E o true v) (hsub : ES.Sublist E) (hR : RLe R0 R) (hs2 : noneD D (listed.setIfInBounds i true) = true → ES2.Sublist E)
  (h : VA P ops Q ES ES2 D R0 w0 fuel (listed.setIfInBounds i true) n ((d, true, v) :: env) R E) : VS P ops Q ES ES2 D R0 w0 fuel listed n env R E i :=
 VS.eff hi hg hd hdn (fun a w hk hm => ⟨v, w, R, E, .inl (hy a w hk hm rfl), hm, hR, hsub, hs2, h⟩)
theorem VS.callAt {d : Nat} {f : FuncId} {vs : List Value} {e : Ent} {Post : Value → Ro → Ent → List Ent → Prop} (k : Nat) {i : Nat} (hi : ops.toArray[i]? = some o) (hf : Enters P f) (hg : o.guard = none) (hd : o.dst = some d) (hdn : d < n)
  (hc : CallOp env o.op true f vs) (hE : E[k]? = some e) (hv : Fn P f vs w0 R (e :: E.eraseIdx k) (fun v R' E' => ∃ e' N, E' = N ++ e' :: E.eraseIdx k ∧ Post v R' e' N))
  (h : ∀ v R' e' N, RLe R R' → Post v R' e' N → RLe R0 R' ∧ ES.Sublist (N ++ E.set k e') ∧ (noneD D (listed.setIfInBounds i true) = true → ES2.Sublist (N ++ E.set k e')) ∧ VA P ops Q ES ES2 D R0 w0 fuel (listed.setIfInBounds i true) n ((d, true, v) :: env) R' (N ++ E.set k e')) : VS P ops Q ES ES2 D R0 w0 fuel listed n env R E i := by
 intro a w hk hm
 unfold wpOp
 rw [hi]
 simp only [Region.wanted, hg, if_true]
 left
 unfold Oper.wp
 rw [run_call hk hc rfl hf]
 refine (hv w (hm.perm (perm_get hE))).mono ?_
 rintro e0 w' ⟨v, R', E', rfl, hR, hm', e', N, rfl, hp⟩
 obtain ⟨g1, g2, g3, g4⟩ := h v R' e' N hR hp
 have hm2 := hm'.perm ((perm_set e' hE).append_left N)
 simp only [hd]
 exact ⟨⟨hm2.sub g1 g2, fun h => hm2.sub g1 (g3 h)⟩, g4 _ _ (hk.putT hdn v) hm2⟩
theorem VA.done (hr : Region.ready .any ops.toArray listed = []) (h : WE Q .normal n env w0 R E) : VA P ops Q ES ES2 D R0 w0 fuel listed n env R E :=
 fun a w hk hm => wpAnyD_done hr (NoPanic.normal (h a w hk hm)) fuel
end
section
variable {P : Program} {ops : List Oper} {Q : Exit → Act → World → Prop} {rest : List Oper} {n : Nat} {env : Env} {w0 : World} {R : Ro} {E : List Ent} {o : Oper} {pc q draw : Bool}
end
section
variable {P : Program} {n : Nat} {env : Env} {w0 : World} {R : Ro} {E : List Ent} {o : Oper} {pc p q : Bool}
theorem Yl.tquo {t t' x y} {a b : Int} (ho : o.op = .binOp .quo t x y t') (hx : ev env x = some (p, .int .i64 a)) (hy : ev env y = some (q, .int .i64 b))
  (hpq : pc = true → (p && q) = true) (h0 : pc = true → -4611686018427387904 ≤ a ∧ a ≤ 4611686018427387904) (hb : pc = true → 0 < b) : Yl P n env w0 R E o pc (.int .i64 (a.tdiv b)) := by
 intro ac w hk hm hp
 obtain ⟨h1, h2⟩ := and_both (hpq hp)
 have hb := hb hp
 have h0 := h0 hp
 have e2 : (a.tdiv b).natAbs ≤ a.natAbs := by rw [Int.natAbs_tdiv]; exact Nat.div_le_self _ _
 have e4 := i64_wrap (x := a.tdiv b) ⟨by omega, by omega⟩
 have hb0 : b ≠ 0 := by omega
 unfold execOp
 simp [ho, hk.ev hx h1, hk.ev hy h2, eqGuard, binOp, Op.intDiv, hb0, e4]
end
section
variable {P : Program} {n : Nat} {env : Env} {w0 : World} {R : Ro} {E : List Ent} {o : Oper} {pc p q : Bool}
theorem Yl.eqNilS {t t' e : TypeId} {x y : Operand} {a : Option Addr} {m c m' c' : Nat} (hu : P.underlying t = some (.slice e)) (ho : o.op = .binOp .eql t x y t') (hx : ev env x = some (p, .slice a m c)) (hy : ev env y = some (q, .slice none m' c'))
  (hpq : pc = true → (p && q) = true) : Yl P n env w0 R E o pc (.bool a.isNone) := by
 intro ac w hk hm hp
 obtain ⟨h1, h2⟩ := and_both (hpq hp)
 have e1 : (binOp .eql t (.slice a m c) (.slice none m' c')).run P w = .ok (.bool a.isNone) w := by
  simp only [binOp]
  simp [Op.equal, Op.maxDepth, Lib.run_equalIn_slice_nil w 9999 t e a m c m' c' hu]
 unfold execOp
 simp [ho, hk.ev hx h1, hk.ev hy h2, eqGuard, e1]
end
theorem RS.some {α : Type} {_i : Inhabited α} {R : Ro} {k : Nat} {enc : α → List Value} {a : Option Addr} {xs : List α} (h : RS (_i := _i) R k enc a xs) (hx : 0 < xs.length) : a.isNone = false := by
 rcases h.2.1 with h1 | ⟨b, off, cs, h1, _⟩
 ·rw [List.map_eq_nil_iff] at h1; rw [h1] at hx; simp at hx
 ·rw [h1]; rfl
section
variable {P : Program} {T : Tab} {n : Nat} {env : Env} {w0 : World} {R : Ro} {E : List Ent} {o : Oper} {pc p q : Bool}
theorem Yl.tdiv {t t' x y} {a b : Int} (ho : o.op = .binOp .quo t x y t') (hx : ev env x = some (p, .int .i64 a)) (hy : ev env y = some (q, .int .i64 b))
  (hpq : pc = true → (p && q) = true) (hb : pc = true → b ≠ 0) (hr : pc = true → InR (a.tdiv b)) : Yl P n env w0 R E o pc (.int .i64 (a.tdiv b)) := by
 intro ac w hk hm hp
 obtain ⟨h1, h2⟩ := and_both (hpq hp)
 have hb := hb hp
 have e4 := i64_wrap (hr hp)
 unfold execOp
 simp [ho, hk.ev hx h1, hk.ev hy h2, eqGuard, binOp, Op.intDiv, hb, e4]
end
section
variable {P : Program} {T : Tab} {n : Nat} {env : Env} {w0 : World} {R : Ro} {E : List Ent} {o : Oper} {pc p q : Bool}
def Trio (P : Program) (t : TypeId) : Prop := ∃ e f g : Field, P.underlying t = some (.struct #[e, f, g]) ∧ P.stoodInHeld t = false ∧ P.eqGuardType P.depth t = false ∧ (e.name ≠ "_" ∧ f.name ≠ "_" ∧ g.name ≠ "_") ∧ (e.offset = 0 ∧ f.offset = 1 ∧ g.offset = 2) ∧ P.underlying e.type = some .bool ∧ (∃ k, P.underlying f.type = some (.int k)) ∧ (∃ k, P.underlying g.type = some (.int k)) ∧ (∀ (xs : Array Value) (w : World) (v : Value), xs[0]? = some v → (part e.type xs 0).run P w = .ok v w) ∧ (∀ (xs : Array Value) (w : World) (v : Value), xs[1]? = some v → (part f.type xs 1).run P w = .ok v w) ∧ (∀ (xs : Array Value) (w : World) (v : Value), xs[2]? = some v → (part g.type xs 2).run P w = .ok v w)
theorem trio_eql {t : TypeId} (h : Trio P t) (w : World) (i : Bool) (a b : Int) : (Op.equalIn 10000 t (.agg #[.bool i, .int .i64 a, .int .i64 b]) (.agg #[.bool i, .int .i64 a, .int .i64 b])).run P w = .ok true w := by
 obtain ⟨e, f, g, hu, hs, _, ⟨he, hf, hg⟩, ⟨oe, of, og⟩, ue, ⟨k1, uf⟩, ⟨k2, ug⟩, pe, pf, pg⟩ := h
 have hfo : P.fieldsOf t = #[e, f, g] := by unfold Program.fieldsOf; rw [hu]
 have hb : (Op.equalIn 9999 e.type (.bool i) (.bool i)).run P w = .ok true w := by
  rw [run_equalIn_bool w 9998 e.type i i ue]
  simp
 rw [run_equalIn_struct w 9999 t _ _ (by rw [hfo]; exact hu) hs, hfo]
 simp only [Op.eqFields, if_pos he, if_pos hf, if_pos hg, oe, of, og, Sem.run_bind, pe _ _ _ (show (#[Value.bool i, .int .i64 a, .int .i64 b])[0]? = some (.bool i) from rfl), pf _ _ _ (show (#[Value.bool i, .int .i64 a, .int .i64 b])[1]? = some (.int .i64 a) from rfl),
  pg _ _ _ (show (#[Value.bool i, .int .i64 a, .int .i64 b])[2]? = some (.int .i64 b) from rfl), Result.andThen_ok, hb, run_equalIn_int w 9998 f.type .i64 k1 a a uf, run_equalIn_int w 9998 g.type .i64 k2 b b ug, Sem.run_ite, Sem.run_pure]
 simp
theorem Yl.neTrio {t t' x y} {i : Bool} {a b : Int} (h : Trio P t) (ho : o.op = .binOp .neq t x y t') (hx : ev env x = some (p, .agg #[.bool i, .int .i64 a, .int .i64 b])) (hy : ev env y = some (q, .agg #[.bool i, .int .i64 a, .int .i64 b]))
  (hpq : pc = true → (p && q) = true) : Yl P n env w0 R E o pc (.bool false) := by
 intro ac w hkn hm hp
 obtain ⟨h1, h2⟩ := and_both (hpq hp)
 have hg : P.eqGuardType P.depth t = false := by obtain ⟨_, _, _, _, _, h, _⟩ := h; exact h
 unfold execOp
 have e2 := trio_eql h w i a b
 have e3 := run_eqGuard_agg w .neq t x y #[.bool i, .int .i64 a, .int .i64 b] #[.bool i, .int .i64 a, .int .i64 b] hg
 have e4 := run_neq_struct (P := P) w t #[.bool i, .int .i64 a, .int .i64 b] #[.bool i, .int .i64 a, .int .i64 b]
 rw [e2] at e4
 rw [ho]
 simp only [hkn.ev hx h1, hkn.ev hy h2, Sem.run_bind, e3, e4, Result.andThen_ok]
 rfl
end
variable {P : Program} {T : Tab} {n : Nat} {env : Env} {w0 : World} {R : Ro} {E : List Ent} {Q : Exit → Act → World → Prop}
variable {ops : List Oper} {o : Oper} {ES : List Ent} {R0 : Ro} {fuel : Nat} {listed : Array Bool}
theorem WS.effN {i : Nat} (hi : ops.toArray[i]? = some o) (hg : o.guard = none) (hd : o.dst = none)
  (h : Ef P n env w0 R E o fun _ R' E' => RLe R0 R' ∧ ES.Sublist E' ∧ WA P ops Q ES R0 w0 fuel (listed.setIfInBounds i true) n env R' E') : WS P ops Q ES R0 w0 fuel listed n env R E i := by
 intro a w hk hm
 unfold wpOp
 rw [hi]
 simp only [Region.wanted, hg, if_true]
 left
 obtain ⟨v, w', R', E', hrun, hm', hR', hsub', hn⟩ := h a w hk hm
 unfold Oper.wp
 rcases hrun with hrun | ⟨hrun, rfl⟩
 ·rw [hrun]; simp only [Oper.upon, hd]; exact ⟨hm'.sub hR' hsub', hn _ _ hk hm'⟩
 ·rw [hrun]; simp only [Oper.upon, hd]; exact ⟨hm'.sub hR' hsub', hn _ _ hk hm'⟩
end Go.Proofs.YtaoakchgjgmedaaGreat.K
namespace Go.Proofs.YtaoakchgjgmedaaGreat.K
open Go Go.RowKit
variable {P : Program} {T : Tab} {n : Nat} {env : Env} {w0 : World} {R : Ro} {E : List Ent} {Q : Exit → Act → World → Prop}
variable {ops : List Oper} {ES : List Ent} {R0 : Ro} {fuel : Nat} {listed : Array Bool}
theorem WE.retFS {E' : List Ent} (hE : E'.Sublist E) (hT : TabOk P T) {fn : Func} {Post : Value → Ro → List Ent → Prop} {R0 : Ro} {rs : List ResultVar} (vs : List Value) (hr : fn.results = rs.toArray) (h : ResAll T env R E rs vs) (hR : RLe R0 R) (hp : Post (resVal vs) R E') (hds : markOf env = none := by rfl) :
  WE (bodyPost P fn (FnR w0 R0 Post)) .ret n env w0 R E := fun _ _ hk hm => ⟨by rw [hk.defers]; unfold dsOf; rw [hds], resVal vs, results_ok hT hr hk hm h, resVal vs, R, E', rfl, hR, hm.sub (RLe.refl R) hE, hp⟩
end Go.Proofs.YtaoakchgjgmedaaGreat.K
namespace Go.Proofs.YtaoakchgjgmedaaGreat.M
open Go Go.Proofs.YtaoakchgjgmedaaGreat.K
def mostF (f : Nat → Int) : Nat → Int
  | 0 => 0
  | n + 1 => max (mostF f n) (f n)
def tailF (f : Nat → Int) (s : Nat) : Nat → Int
  | 0 => f s
  | d + 1 => max (tailF f s d) (f (s + (d + 1)))
section
variable {f : Nat → Int} {s P : Nat} {D : Int}
theorem mostF_nonneg : ∀ n : Nat, 0 ≤ mostF f n
 | 0 => Int.le_refl _
 | n + 1 => by have := mostF_nonneg n; simp only [mostF]; omega
theorem mostF_step (n : Nat) : mostF f n ≤ mostF f (n + 1) := by simp only [mostF]; omega
theorem mostF_ge {u : Nat} : ∀ {n : Nat}, u < n → f u ≤ mostF f n
 | 0, h => by omega
 | n + 1, h => by
  simp only [mostF]
  by_cases e : u = n
  ·subst e; omega
  ·have : f u ≤ mostF f n := mostF_ge (by omega)
   omega
theorem mostF_le {B : Int} (h0 : 0 ≤ B) : ∀ {n : Nat}, (∀ u, u < n → f u ≤ B) → mostF f n ≤ B
 | 0, _ => h0
 | n + 1, h => by
  have a := mostF_le h0 (n := n) (fun u hu => h u (by omega))
  have b := h n (by omega)
  simp only [mostF]; omega
theorem tailF_ge {u : Nat} : ∀ {d : Nat}, s ≤ u → u ≤ s + d → f u ≤ tailF f s d
 | 0, h1, h2 => by
  obtain rfl : u = s := by omega
  exact Int.le_refl _
 | d + 1, h1, h2 => by
  simp only [tailF]
  by_cases e : u = s + (d + 1)
  ·subst e; omega
  ·have : f u ≤ tailF f s d := tailF_ge h1 (by omega)
   omega
theorem tailF_le {B : Int} : ∀ {d : Nat}, (∀ u, s ≤ u → u ≤ s + d → f u ≤ B) → tailF f s d ≤ B
 | 0, h => h s (Nat.le_refl _) (by omega)
 | d + 1, h => by
  have a := tailF_le (d := d) (fun u h1 h2 => h u h1 (by omega))
  have b := h (s + (d + 1)) (by omega) (Nat.le_refl _)
  simp only [tailF]; omega
theorem most_tail : ∀ d : Nat, mostF f (s + d + 1) = max (mostF f s) (tailF f s d)
 | 0 => rfl
 | d + 1 => by
  have ih := most_tail d
  have e : mostF f (s + (d + 1) + 1) = max (mostF f (s + d + 1)) (f (s + (d + 1))) := rfl
  rw [e, ih]
  simp only [tailF]; omega
theorem tail_shift (hP : 0 < P) (hD : 0 ≤ D) (h : ∀ t, s ≤ t → f (t + P) = f t + D) {d : Nat} (hd : P ≤ d + 1) : tailF f s (d + P) = tailF f s d + D := by
 refine Int.le_antisymm (tailF_le (fun u h1 h2 => ?_)) ?_
 ·by_cases hu : s + P ≤ u
  ·have a := h (u - P) (by omega)
   rw [show u - P + P = u by omega] at a
   have b := tailF_ge (f := f) (s := s) (u := u - P) (d := d) (by omega) (by omega)
   omega
  ·have b := tailF_ge (f := f) (s := s) (u := u) (d := d) h1 (by omega)
   omega
 ·have key : ∀ d : Nat, tailF f s d + D ≤ tailF f s (d + P) := fun d => by
   have : tailF f s d ≤ tailF f s (d + P) - D := tailF_le (fun u h1 h2 => by
    have a := h u h1
    have b := tailF_ge (f := f) (s := s) (u := u + P) (d := d + P) (by omega) (by omega)
    omega)
   omega
  exact key d
theorem most_flat (hP : 0 < P) (hD : D ≤ 0) (h : ∀ t, s ≤ t → f (t + P) = f t + D) {t : Nat} (ht : s + P ≤ t + 1) : mostF f (t + 1 + 1) = mostF f (t + 1) := by
 have a := h (t + 1 - P) (by omega)
 rw [show t + 1 - P + P = t + 1 by omega] at a
 have b := mostF_ge (f := f) (u := t + 1 - P) (n := t + 1) (by omega)
 show max (mostF f (t + 1)) (f (t + 1)) = _
 omega
end
def rawL (cap : Int) (b : Cv) (t : Nat) : Int := if isInf b t then 0 else cap * (t : Int) - cvF b t
def restF (cap : Int) (b : Cv) (t : Nat) : Int := mostF (rawL cap b) (t + 1)
def driftL (cap : Int) (b : Cv) : Int := b.per * cap - b.inc
def restC (cap : Int) (g : Cv) : Cv × Int :=
  if validB g = false then (zcv, 1)
  else if finB (normR g) = true ∧ 0 < driftL cap (normR g) then
    (if tailF (rawL cap (normR g)) (stN (normR g)) (400 - stN (normR g)) < mostF (rawL cap (normR g)) (stN (normR g)) then (zcv, 3) else mbuild (restF cap (normR g)) 400 (normR g).per.toNat (driftL cap (normR g)))
  else mbuild (restF cap (normR g)) (stN (normR g) + (normR g).per.toNat) 1 0
def gainL (cap : Int) (b : Cv) : Int := if finB b = true then max 0 (driftL cap b) else 0
def restQ (cap : Int) (g : Cv) : Cv × Int :=
  if restF cap (normR g) (400 + (normR g).per.toNat) ≠ restF cap (normR g) 400 + gainL cap (normR g) then (zcv, 3)
  else madeR ⟨fvals (restF cap (normR g)) (400 + (normR g).per.toNat), (normR g).per, gainL cap (normR g)⟩
section
variable {cap : Int} {b : Cv}
theorem rawL_le (hc : 0 ≤ cap) (hb : validB b = true) (t : Nat) : rawL cap b t ≤ cap * (t : Int) := by
 have h1 := Int.mul_nonneg hc (show (0 : Int) ≤ (t : Int) by omega)
 have h2 := (cvF_bound hb t).1
 unfold rawL
 split <;> omega
theorem restF_bound (hc : 0 ≤ cap) (hb : validB b = true) (t : Nat) : 0 ≤ restF cap b t ∧ restF cap b t ≤ cap * (t : Int) := by
 refine ⟨mostF_nonneg _, mostF_le (Int.mul_nonneg hc (by omega)) (fun u hu => ?_)⟩
 have h1 := rawL_le hc hb u
 have h2 := Int.mul_le_mul_of_nonneg_left (show (u : Int) ≤ (t : Int) by omega) hc
 omega
theorem raw_shift (hb : validB b = true) (hf : finB b = true) : ∀ t, stN b ≤ t → rawL cap b (t + b.per.toNat) = rawL cap b t + driftL cap b := fun t ht => by
 rcases valid_cases hb with ⟨S1, P1, _, l1, p1, fc1, _⟩ | ⟨_, _, _, _, _, _, _, f⟩
 ·unfold stN at ht
  rw [l1, p1, Int.toNat_natCast] at ht
  unfold rawL driftL
  rw [if_neg (isInf_fin hf _), if_neg (isInf_fin hf _), p1, Int.toNat_natCast, fc1.hg t (by omega)]
  have : cap * ((t + P1 : Nat) : Int) = cap * (t : Int) + (P1 : Int) * cap := by rw [Int.natCast_add, Int.mul_add, Int.mul_comm cap (P1 : Int)]
  omega
 ·rw [hf] at f; cases f
theorem restF_lt (hc : 0 ≤ cap ∧ cap ≤ 4000) (hb : validB b = true) {t : Nat} (ht : t ≤ 10000) : restF cap b t < INF := by
 have h1 := (restF_bound hc.1 hb t).2
 have h2 := mulB (a := cap) (b := (t : Int)) (A := 4000) (B := 10000) (by omega) (by omega)
 unfold INF; omega
theorem rest_flat (hb : validB b = true) (h : ¬ (finB b = true ∧ 0 < driftL cap b)) {t : Nat} (ht : stN b + b.per.toNat ≤ t + 1) : restF cap b (t + 1) = restF cap b t := by
 unfold restF
 obtain ⟨_, _, _, q1, _⟩ := valid_range hb
 by_cases hf : finB b = true
 ·exact most_flat (P := b.per.toNat) (by omega) (show driftL cap b ≤ 0 by
   apply Classical.byContradiction
   intro hh; exact h ⟨hf, by omega⟩) (raw_shift hb hf) ht
 ·have hf' : finB b = false := by simpa using hf
  obtain ⟨n, h1, h2, h3⟩ := inf_at hb hf'
  have e : rawL cap b (t + 1) = 0 := by
   unfold rawL; rw [if_pos ((h2 _).2 (by omega))]
  show max (mostF (rawL cap b) (t + 1)) (rawL cap b (t + 1)) = _
  have := mostF_nonneg (f := rawL cap b) (t + 1)
  omega
theorem rest_rep2 (hc : 0 ≤ cap ∧ cap ≤ 4000) (hb : validB b = true) (h : ¬ (finB b = true ∧ 0 < driftL cap b)) {S : Nat} (hS : stN b + b.per.toNat ≤ S + 1) (hS2 : S ≤ 5000) {P : Nat} (hP : 0 < P ∧ P ≤ 1000) : RepF (restF cap b) S P 0 := by
 refine ⟨hP.1, Int.le_refl _, fun t ht => ?_, fun t => mostF_step _, (restF_bound hc.1 hb 0).1, fun t ht => restF_lt hc hb (by omega)⟩
 have key : ∀ k : Nat, restF cap b (t + k) = restF cap b t := by
  intro k
  induction k with
  | zero => rfl
  | succ k ih =>
   rw [← ih, show t + (k + 1) = t + k + 1 by omega]
   exact rest_flat hb h (by omega)
 rw [key]; omega
theorem rest_rep1 (hc : 0 ≤ cap ∧ cap ≤ 4000) (hb : validB b = true) (hf : finB b = true) (hd : 0 < driftL cap b) (h : ¬ tailF (rawL cap b) (stN b) (400 - stN b) < mostF (rawL cap b) (stN b)) : RepF (restF cap b) 400 b.per.toNat (driftL cap b) := by
 obtain ⟨_, _, q0, q1, q2, _⟩ := valid_range hb
 have hst := stN_lt hb
 refine ⟨by omega, by omega, fun t ht => ?_, fun t => mostF_step _, (restF_bound hc.1 hb 0).1, fun t ht => restF_lt hc hb (by omega)⟩
 unfold restF
 have e1 := most_tail (f := rawL cap b) (s := stN b) (t - stN b)
 have e2 := most_tail (f := rawL cap b) (s := stN b) (t - stN b + b.per.toNat)
 rw [show stN b + (t - stN b) + 1 = t + 1 by omega] at e1
 rw [show stN b + (t - stN b + b.per.toNat) + 1 = t + b.per.toNat + 1 by omega] at e2
 have e3 := tail_shift (s := stN b) (P := b.per.toNat) (by omega) (by omega) (raw_shift (cap := cap) hb hf) (d := t - stN b) (by omega)
 have e4 : tailF (rawL cap b) (stN b) (400 - stN b) ≤ tailF (rawL cap b) (stN b) (t - stN b) := tailF_le (fun u h1 h2 => tailF_ge h1 (by omega))
 omega
end
theorem rest_res {cap : Int} {g : Cv} (hc : 0 ≤ cap ∧ cap ≤ 4000) (hg : validB g = true) : restC cap g = (zcv, 3) ∨ ∃ c, restC cap g = (c, 0) ∧ Nrm c ∧ cvF c = restF cap (normR g) ∧ finB c = true := by
 have hn := (norm_nrm hg).valid
 have hst := stN_lt hn
 unfold restC
 rw [if_neg (by rw [hg]; simp)]
 by_cases h : finB (normR g) = true ∧ 0 < driftL cap (normR g)
 ·rw [if_pos h]
  by_cases h2 : tailF (rawL cap (normR g)) (stN (normR g)) (400 - stN (normR g)) < mostF (rawL cap (normR g)) (stN (normR g))
  ·rw [if_pos h2]; exact .inl rfl
  ·rw [if_neg h2]; exact (rest_rep1 hc hn h.1 h.2 h2).res
 ·rw [if_neg h]
  exact (rest_rep2 hc hn h (by omega) (by omega) ⟨by decide, by decide⟩).res
theorem rest_ref {cap : Int} {g : Cv} (hc : 0 ≤ cap ∧ cap ≤ 4000) (hg : validB g = true) : restC cap g = restQ cap g := by
 have hn := (norm_nrm hg).valid
 have hst := stN_lt hn
 obtain ⟨_, _, q0, q1, q2, _⟩ := valid_range hn
 have hper : (((normR g).per.toNat : Nat) : Int) = (normR g).per := by omega
 unfold restC restQ
 rw [if_neg (by rw [hg]; simp)]
 by_cases h : finB (normR g) = true ∧ 0 < driftL cap (normR g)
 ·have hgn : gainL cap (normR g) = driftL cap (normR g) := by unfold gainL; rw [if_pos h.1]; have := h.2; omega
  rw [if_pos h, hgn]
  have e1 := most_tail (f := rawL cap (normR g)) (s := stN (normR g)) (400 - stN (normR g))
  have e2 := most_tail (f := rawL cap (normR g)) (s := stN (normR g)) (400 - stN (normR g) + (normR g).per.toNat)
  rw [show stN (normR g) + (400 - stN (normR g)) + 1 = 400 + 1 by omega] at e1
  rw [show stN (normR g) + (400 - stN (normR g) + (normR g).per.toNat) + 1 = 400 + (normR g).per.toNat + 1 by omega] at e2
  have e3 := tail_shift (s := stN (normR g)) (P := (normR g).per.toNat) (by omega) (by omega) (raw_shift (cap := cap) hn h.1) (d := 400 - stN (normR g)) (by omega)
  have hd := h.2
  by_cases h2 : tailF (rawL cap (normR g)) (stN (normR g)) (400 - stN (normR g)) < mostF (rawL cap (normR g)) (stN (normR g))
  ·rw [if_pos h2, if_pos]
   unfold restF
   omega
  ·rw [if_neg h2, if_neg (by unfold restF; omega)]
   have hr := rest_rep1 hc hn h.1 h.2 h2
   have := build_made_fin hr.hP hr.hI hr.hg hr.hP hr.hI hr.hg hr.hm hr.h0 hr.hf hr.hf
   rw [hper] at this
   exact this
 ·have hgn : gainL cap (normR g) = 0 := by
   unfold gainL
   split
   ·rename_i hf
    have : ¬ 0 < driftL cap (normR g) := fun hh => h ⟨hf, hh⟩
    omega
   ·rfl
  rw [if_neg h, hgn]
  have hr := rest_rep2 (cap := cap) hc hn h (S := stN (normR g) + (normR g).per.toNat) (by omega) (by omega) (P := 1) ⟨by decide, by decide⟩
  have hr2 := rest_rep2 (cap := cap) hc hn h (S := 400) (by omega) (by omega) (P := (normR g).per.toNat) (by omega)
  rw [if_neg (by have := hr2.hg 400 (Nat.le_refl _); omega)]
  have := build_made_fin hr.hP hr.hI hr.hg hr2.hP hr2.hI hr2.hg hr.hm hr.h0 hr.hf hr2.hf
  rw [hper] at this
  exact this
def lineC (cap : Int) : Cv := ⟨[0], 1, cap⟩
theorem line_facts {cap : Int} (hc : 0 ≤ cap ∧ cap ≤ 1073741824) : Nrm (lineC cap) ∧ cvF (lineC cap) = (fun t : Nat => cap * (t : Int)) ∧ finB (lineC cap) = true ∧ stN (lineC cap) = 0 := by
 have hfc := fc_line (c := cap) hc
 have e0 : fvals (fun t : Nat => cap * (t : Int)) (0 + 1) = [0] := by simp [fvals]
 have hv := hfc.valid'
 rw [e0] at hv
 have hn : normR ⟨[0], 1, cap⟩ = ⟨[0], 1, cap⟩ := by
  obtain ⟨s, p, q, h1, h2, h3, h4, _, h6⟩ := hfc.norm
  have hp := h2.hP
  obtain rfl : s = 0 := by omega
  obtain rfl : p = 1 := by omega
  rw [e0] at h1
  have hq : q = cap := by rw [h6]; simp
  rw [hq] at h1
  exact h1
 have hcv : cvF ⟨[0], 1, cap⟩ = fun t : Nat => cap * (t : Int) := by
  have := cvF_fc hfc
  rw [e0] at this; exact this
 exact ⟨⟨hv, hn⟩, hcv, rfl, rfl⟩
def tailV (f : Nat → Int) (s t : Nat) : Int := if t ≤ s then -INF else tailF f s (t - 1 - s)
def mostV (f : Nat → Int) (s t : Nat) : Int := mostF f (min t s)
theorem tailV_succ {f : Nat → Int} {s t : Nat} (h : s ≤ t) (hb : -INF ≤ f t) : tailV f s (t + 1) = max (tailV f s t) (f t) := by
 unfold tailV
 rw [if_neg (by omega)]
 by_cases e : t = s
 ·subst e
  rw [if_pos (Nat.le_refl _), show t + 1 - 1 - t = 0 by omega]
  show f t = _
  omega
 ·rw [if_neg (by omega)]
  obtain ⟨d, rfl⟩ : ∃ d, t = s + (d + 1) := ⟨t - s - 1, by omega⟩
  rw [show s + (d + 1) + 1 - 1 - s = d + 1 by omega, show s + (d + 1) - 1 - s = d by omega]
  rfl
theorem tailV_low {f : Nat → Int} {s t : Nat} (h : t < s) : tailV f s (t + 1) = tailV f s t := by
 unfold tailV
 rw [if_pos (by omega), if_pos (by omega)]
theorem mostV_succ {f : Nat → Int} {s t : Nat} (h : t < s) : mostV f s (t + 1) = max (mostV f s t) (f t) := by
 unfold mostV
 rw [show min (t + 1) s = t + 1 by omega, show min t s = t by omega]
 rfl
theorem mostV_high {f : Nat → Int} {s t : Nat} (h : s ≤ t) : mostV f s (t + 1) = mostV f s t := by
 unfold mostV
 rw [show min (t + 1) s = s by omega, show min t s = s by omega]
theorem rest_vals {cap : Int} {b : Cv} {s t : Nat} : max (mostV (rawL cap b) s (t + 1)) (tailV (rawL cap b) s (t + 1)) = restF cap b t := by
 unfold restF
 by_cases h : t < s
 ·unfold mostV tailV
  rw [show min (t + 1) s = t + 1 by omega, if_pos (by omega)]
  have := mostF_nonneg (f := rawL cap b) (t + 1)
  unfold INF; omega
 ·have := most_tail (f := rawL cap b) (s := s) (t - s)
  rw [show s + (t - s) + 1 = t + 1 by omega] at this
  unfold mostV tailV
  rw [show min (t + 1) s = s by omega, if_neg (by omega), show t + 1 - 1 - s = t - s by omega]
  exact this.symm
theorem rawL_range {cap : Int} {b : Cv} (hc : 0 ≤ cap ∧ cap ≤ 4000) (hb : validB b = true) {t : Nat} (ht : t ≤ 10000) : -100000000000000 ≤ rawL cap b t ∧ rawL cap b t ≤ 100000000 := by
 have h1 := rawL_le hc.1 hb t
 have h2 := mulB (a := cap) (b := (t : Int)) (A := 4000) (B := 10000) (by omega) (by omega)
 refine ⟨?_, by omega⟩
 unfold rawL
 split
 ·omega
 ·rename_i h
  have := fin_part hb h (show t ≤ 1000000000 by omega)
  omega
theorem mostV_range {cap : Int} {b : Cv} (hc : 0 ≤ cap ∧ cap ≤ 4000) (hb : validB b = true) {s t : Nat} (ht : t ≤ 10000) : 0 ≤ mostV (rawL cap b) s t ∧ mostV (rawL cap b) s t ≤ 100000000 :=
 ⟨mostF_nonneg _, mostF_le (by decide) (fun u hu => (rawL_range hc hb (by omega)).2)⟩
theorem tailV_range {cap : Int} {b : Cv} (hc : 0 ≤ cap ∧ cap ≤ 4000) (hb : validB b = true) {s t : Nat} (ht : t ≤ 10000) : -INF ≤ tailV (rawL cap b) s t ∧ tailV (rawL cap b) s t ≤ 100000000 := by
 unfold tailV
 split
 ·unfold INF; omega
 ·rename_i h
  refine ⟨?_, tailF_le (fun u h1 h2 => (rawL_range hc hb (by omega)).2)⟩
  have h1 := tailF_ge (f := rawL cap b) (s := s) (u := s) (d := t - 1 - s) (Nat.le_refl _) (by omega)
  have h2 := (rawL_range (cap := cap) hc hb (show s ≤ 10000 by omega)).1
  unfold INF; omega
end Go.Proofs.YtaoakchgjgmedaaGreat.M