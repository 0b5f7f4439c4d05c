/- Rules and walks, joined from 31 texts: the first of them says: Valid curves, finite or not, plain: what they say, their normal forms, and that two ways to make a curve give the same. No condition. -/
import Derived.Test.YthpblaoehlgpfaaGreatG2
/- Valid curves, finite or not, plain: what they say, their normal forms, and that two ways to make a curve give the same. No condition. -/
namespace Go.Proofs.YthpblaoehlgpfaaGreat.M
open Go Go.Proofs.YthpblaoehlgpfaaGreat.K

/-! ### normal forms do not depend on the period that one began with -/
theorem grows_mod {F : Nat → Int} {S m n : Nat} {J I : Int} (hm : Grows F S m J) (hn : Grows F S n I) : Grows F S (n % m) (I - ((n / m : Nat) : Int) * J) := fun t ht => by
 have h1 := hm.mul (n / m) (t + n % m) (by omega)
 have h2 := hn t ht
 have e : t + n % m + n / m * m = t + n := by
  have := Nat.mod_add_div n m
  rw [Nat.mul_comm] at this
  omega
 rw [e, h2] at h1
 omega
theorem grows_gcd {F : Nat → Int} {S : Nat} (m n : Nat) : ∀ (J I : Int), Grows F S m J → Grows F S n I → ∃ K : Int, Grows F S (Nat.gcd m n) K := by
 refine Nat.gcd.induction (P := fun m n => ∀ (J I : Int), Grows F S m J → Grows F S n I → ∃ K : Int, Grows F S (Nat.gcd m n) K) m n ?_ ?_
 ·intro n J I _ h
  exact ⟨I, by rw [Nat.gcd_zero_left]; exact h⟩
 ·intro m n _ ih J I hm hn
  obtain ⟨K, h⟩ := ih _ _ (grows_mod hm hn) hm
  exact ⟨K, by rw [Nat.gcd_rec]; exact h⟩
theorem grows_fac {F : Nat → Int} {S p : Nat} {J I : Int} {k : Nat} (h1 : Grows F S p J) (h2 : Grows F S (k * p) I) : I = k * J := by
 have a := h1.mul k S (Nat.le_refl _)
 have b := h2 S (Nat.le_refl _)
 omega
theorem PerOk.of_late {F : Nat → Int} {S S' P p : Nat} {I J : Int} (hP : 0 < P) (hp : P % p = 0) (hg : Grows F S P I) (h : Grows F S' p J) : PerOk F S P I p := by
 have hl : Grows F (S' + S) P I := hg.mono (by omega)
 have hj : Grows F (S' + S) p J := h.mono (by omega)
 obtain ⟨k, hk⟩ : ∃ k, P = k * p := ⟨P / p, by
  have := Nat.mod_add_div P p
  rw [Nat.mul_comm (P / p) p]
  omega⟩
 have hI : I = k * J := grows_fac hj (by rw [← hk]; exact hl)
 have e : I * (p : Int) = J * (P : Int) := by
  rw [hI, hk]
  rw [Int.natCast_mul, Int.mul_comm (k : Int) J, Int.mul_assoc]
 refine ⟨hp, by rw [e]; exact Int.mul_emod_left J P, fun t ht _ => ?_⟩
 rw [e, Int.mul_ediv_cancel _ (by omega)]
 have a1 := hg.mul S' t ht
 have a2 := hg.mul S' (t + p) (by omega)
 have h1 : S' ≤ S' * P := Nat.le_mul_of_pos_right S' hP
 have a3 := h (t + S' * P) (by omega)
 rw [show t + S' * P + p = t + p + S' * P by omega] at a3
 omega
theorem nf_same {F : Nat → Int} {S S' P P' : Nat} {I I' : Int} {p p' s s' : Nat} (hP : 0 < P) (hP' : 0 < P') (hg : Grows F S P I) (hg' : Grows F S' P' I') (h : NF F S P I p s) (h' : NF F S' P' I' p' s') : p = p' ∧ s = s' ∧ I * p / P = I' * p' / P' := by
 have g1 := h.least.2.1.all hP hg
 have g2 := h'.least.2.1.all hP' hg'
 have p1 := h.least.1
 have p2 := h'.least.1
 obtain ⟨K, hK⟩ := grows_gcd p p' _ _ (g1.mono (show S ≤ S + S' by omega)) (g2.mono (show S' ≤ S + S' by omega))
 have hg0 : 0 < Nat.gcd p p' := Nat.gcd_pos_of_pos_left _ (by omega)
 have d1 : P % Nat.gcd p p' = 0 := Nat.mod_eq_zero_of_dvd (Nat.dvd_trans (Nat.gcd_dvd_left p p') (Nat.dvd_of_mod_eq_zero h.least.2.1.1))
 have d2 : P' % Nat.gcd p p' = 0 := Nat.mod_eq_zero_of_dvd (Nat.dvd_trans (Nat.gcd_dvd_right p p') (Nat.dvd_of_mod_eq_zero h'.least.2.1.1))
 have e1 : p = Nat.gcd p p' := by
  have hle := Nat.gcd_le_left p' (show 0 < p by omega)
  rcases Nat.lt_or_eq_of_le hle with hlt | he
  ·exact absurd (PerOk.of_late hP d1 hg hK) (h.least.2.2 _ hg0 hlt)
  ·exact he.symm
 have e2 : p' = Nat.gcd p p' := by
  have hle := Nat.gcd_le_right p (show 0 < p' by omega)
  rcases Nat.lt_or_eq_of_le hle with hlt | he
  ·exact absurd (PerOk.of_late hP' d2 hg' hK) (h'.least.2.2 _ hg0 hlt)
  ·exact he.symm
 have e3 : p = p' := by omega
 subst e3
 have e4 : I * p / P = I' * p / P' := by
  have a := g1 (S + S') (by omega)
  have b := g2 (S + S') (by omega)
  omega
 refine ⟨rfl, ?_, e4⟩
 have hs := h'.starts
 rw [← e4] at hs
 exact h.starts.unique hs
section
variable {F : Nat → Int} {S P S' P' : Nat} {I I' : Int}
/-- what a reference makes of a finite function is what the program makes of it -/
theorem build_made_fin (hP : 0 < P) (hI : 0 ≤ I) (hg : Grows F S P I) (hP' : 0 < P') (hI' : 0 ≤ I') (hg' : Grows F S' P' I') (hm : ∀ t, F t ≤ F (t + 1)) (h0 : 0 ≤ F 0) (hf : ∀ t, t < S + P → F t < INF) (hf' : ∀ t, t < S' + P' → F t < INF) : mbuild F S P I = madeR ⟨fvals F (S' + P'), P', I'⟩ := by
 have hne : ∀ t, t < S + P → F t ≠ INF := fun t ht => by have := hf t ht; omega
 rw [mbuild_fin hne]
 obtain ⟨p, s, h1, _, _, h2⟩ := finL_nf hP hg hne
 obtain ⟨p', s', h3, _, _, h4⟩ := madeR_nf hP' hI' hg' hm h0 hf'
 obtain ⟨e1, e2, e3⟩ := nf_same hP hP' hg hg' h1 h3
 subst e1; subst e2
 rw [h2, h4, e3]
/-- and of one that is infinite from some tick on -/
theorem mbuild_inf {n : Nat} (hn : n < S + P) (hi : F n = INF) (hf : ∀ t, t < n → F t ≠ INF) : mbuild F S P I = checkedL (fvals F (n + 1)) 1 0 := by
 unfold mbuild
 rw [infAt_some hn hi hf, if_neg (by omega), Int.toNat_natCast]
theorem infL_some {n m : Nat} (hn : n < m) (hi : F n = INF) (hf : ∀ t, t < n → F t ≠ INF) : infL (fvals F m) = n := by
 unfold infL
 rw [fvals_len]
 exact findFrom_some (Nat.zero_le _) (by omega) (by rw [fvals_nth F hn, hi]; simp) (fun j _ hj => by rw [fvals_nth F (by omega)]; simp [hf j hj])
theorem normR_inf {n m : Nat} {per inc : Int} (hn : n < m) (hi : F n = INF) (hf : ∀ t, t < n → F t ≠ INF) : normR ⟨fvals F m, per, inc⟩ = ⟨fvals F (n + 1), 1, 0⟩ := by
 unfold normR
 dsimp only
 rw [infL_some hn hi hf, if_neg (by omega), Int.toNat_natCast, fvals_take F (by omega)]
theorem valid_inf {n : Nat} (hi : F n = INF) (hf : ∀ t, t < n → 0 ≤ F t ∧ F t < INF) (hm : ∀ t, t < n → F t ≤ F (t + 1)) : validB ⟨fvals F (n + 1), 1, 0⟩ = true ↔ n + 1 ≤ 400 ∧ ∀ t, t < n → F t ≤ MAXV := by
 rw [validB_iff]
 dsimp only
 rw [fvals_len, fvals_nth F (show n + 1 - 1 < n + 1 by omega), show n + 1 - 1 = n by omega, if_pos hi]
 constructor
 ·rintro ⟨⟨_, h2, _⟩, h3, _⟩
  refine ⟨h2, fun t ht => ?_⟩
  have := (h3 t (by omega)).1
  rw [fvals_nth F (by omega)] at this
  have h5 := hf t ht
  rcases this with h | h <;> omega
 ·rintro ⟨h1, h2⟩
  refine ⟨⟨by omega, h1, by decide, by decide, by omega, by decide, by unfold MAXV; omega⟩, fun i hi' => ?_, rfl, rfl⟩
  rw [fvals_nth F hi']
  refine ⟨?_, ?_⟩
  ·by_cases e : i = n
   ·subst e; exact .inl hi
   ·exact .inr ⟨(hf i (by omega)).1, h2 i (by omega)⟩
  ·by_cases e : i = 0
   ·exact .inl e
   ·right
    rw [fvals_nth F (by omega)]
    have := hm (i - 1) (by omega)
    rwa [show i - 1 + 1 = i by omega] at this
theorem checked_inf {n : Nat} (hi : F n = INF) (hf : ∀ t, t < n → 0 ≤ F t ∧ F t < INF) : checkedE (fvals F (n + 1)) ≠ 3 ↔ n + 1 ≤ 400 ∧ ∀ t, t < n → F t ≤ MAXV := by
 constructor
 ·intro h
  refine ⟨?_, fun t ht => ?_⟩
  ·apply Classical.byContradiction
   intro hn
   exact h (checkedE_big (by rw [fvals_len]; omega))
  ·apply Classical.byContradiction
   intro hn
   have := hf t ht
   exact h (checkedE_one (i := t) (by rw [fvals_len]; omega) (by rw [fvals_nth F (by omega)]; omega) (by rw [fvals_nth F (by omega)]; omega))
 ·rintro ⟨h1, h2⟩
  refine checkedE_fine (by rw [fvals_len]; exact h1) (fun j hj => ?_)
  rw [fvals_len] at hj
  rw [fvals_nth F hj]
  by_cases e : j = n
  ·subst e; exact .inl hi
  ·exact .inr (h2 j (by omega))
theorem build_made_inf {n m : Nat} {per inc : Int} (hn : n < S + P) (hn' : n < m) (hi : F n = INF) (hf : ∀ t, t < n → 0 ≤ F t ∧ F t < INF) (hm : ∀ t, t < n → F t ≤ F (t + 1)) : mbuild F S P I = madeR ⟨fvals F m, per, inc⟩ := by
 have hne : ∀ t, t < n → F t ≠ INF := fun t ht => by have := hf t ht; omega
 rw [mbuild_inf hn hi hne]
 unfold madeR
 rw [normR_inf hn' hi hne]
 by_cases hv : validB ⟨fvals F (n + 1), 1, 0⟩ = true
 ·rw [if_pos hv, checkedL_good ((checked_inf hi hf).2 ((valid_inf hi hf hm).1 hv))]
 ·rw [if_neg hv, checkedL_bad]
  rcases checkedE_vals (fvals F (n + 1)) with h | h
  ·exact h
  ·exact absurd ((valid_inf hi hf hm).2 ((checked_inf hi hf).1 (by omega))) hv
end
/-! ### what valid curves say -/
/-- infinite from n on -/
structure IC (F : Nat → Int) (n : Nat) : Prop where
  hn : n < 400
  hi : ∀ t, n ≤ t → F t = INF
  hb : ∀ t, t < n → 0 ≤ F t ∧ F t ≤ 1073741824
  hm : ∀ t, F t ≤ F (t + 1)
def cvF (c : Cv) (t : Nat) : Int := atR c.vals c.per c.inc (t : Int)
theorem cvF_low {c : Cv} {t : Nat} (ht : t < c.vals.length) : cvF c t = nth c.vals t := by
 unfold cvF atR
 rw [if_neg (by omega), if_pos (by omega), Int.toNat_natCast]
theorem cvF_vals (c : Cv) : c.vals = fvals (cvF c) c.vals.length := fvals_eq (fun i hi => (cvF_low hi).symm)
/-- where the value of a late tick stands -/
def cvJ (n P t : Nat) : Nat := t - ((t - n) / P + 1) * P
theorem cvJ_at {n P t : Nat} (hP : 1 ≤ P ∧ P ≤ n) (ht : n ≤ t) : n - P ≤ cvJ n P t ∧ cvJ n P t < n ∧ cvJ n P t + ((t - n) / P + 1) * P = t := by
 have hd := Nat.mod_add_div (t - n) P
 have hm := Nat.mod_lt (t - n) (show 0 < P by omega)
 have hmul : ((t - n) / P + 1) * P = P * ((t - n) / P) + P := by rw [Nat.add_mul, Nat.mul_comm]; simp
 unfold cvJ
 omega
theorem cvF_high {c : Cv} {P : Nat} (hc : c.per = P) (hP : 1 ≤ P ∧ P ≤ c.vals.length) {t : Nat} (ht : c.vals.length ≤ t) :
  cvF c t = if nth c.vals (cvJ c.vals.length P t) = INF then INF else nth c.vals (cvJ c.vals.length P t) + (((t - c.vals.length) / P + 1 : Nat) : Int) * c.inc := by
 obtain ⟨j1, j2, j3⟩ := cvJ_at hP ht
 unfold cvF atR
 have e1 : ((t : Int) - (c.vals.length : Int)) / c.per + 1 = (((t - c.vals.length) / P + 1 : Nat) : Int) := by
  rw [hc, show (t : Int) - (c.vals.length : Int) = ((t - c.vals.length : Nat) : Int) by omega]
  rfl
 rw [if_neg (by omega), if_neg (by omega), e1, hc]
 have e2 : ((t : Int) - (((t - c.vals.length) / P + 1 : Nat) : Int) * (P : Int)).toNat = cvJ c.vals.length P t := by
  rw [← Int.natCast_mul]
  omega
 rw [e2]
 rfl
section
variable {c : Cv}
theorem valid_each (h : validB c = true) : ∀ i, i < c.vals.length → (nth c.vals i = INF ∨ (0 ≤ nth c.vals i ∧ nth c.vals i ≤ MAXV)) := fun i hi => ((validB_iff.1 h).2.1 i hi).1
theorem valid_mono (h : validB c = true) {i : Nat} : ∀ {j : Nat}, i ≤ j → j < c.vals.length → nth c.vals i ≤ nth c.vals j
  | 0, hij, _ => by obtain rfl : i = 0 := by omega
                    exact Int.le_refl _
  | j + 1, hij, hj => by
    by_cases e : i = j + 1
    · subst e; exact Int.le_refl _
    · have a := valid_mono h (i := i) (j := j) (by omega) (by omega)
      have b := (((validB_iff.1 h).2.1 (j + 1) hj).2).resolve_left (by omega)
      rw [show j + 1 - 1 = j by omega] at b
      omega
/-- a finite valid curve -/
theorem valid_fin (h : validB c = true) (hf : nth c.vals (c.vals.length - 1) ≠ INF) : ∃ S P : Nat, c.per = P ∧ c.vals.length = S + P ∧ FC (cvF c) S P c.inc := by
 obtain ⟨⟨h1, h2, h3, h4, h5, h6, h7⟩, _, h8⟩ := validB_iff.1 h
 rw [if_neg hf] at h8
 obtain ⟨P, hP⟩ := Int.eq_ofNat_of_zero_le (show 0 ≤ c.per by omega)
 have hPn : 1 ≤ P ∧ P ≤ c.vals.length := by omega
 have hlow : ∀ t, t < c.vals.length → 0 ≤ cvF c t ∧ cvF c t ≤ 1073741824 := fun t ht => by
  rw [cvF_low ht]
  have a := valid_mono h (i := t) (j := c.vals.length - 1) (by omega) (by omega)
  have b := valid_each h (c.vals.length - 1) (by omega)
  have d := valid_each h t ht
  unfold INF MAXV at b d
  unfold INF at hf
  omega
 have hfin : ∀ j, j < c.vals.length → nth c.vals j ≠ INF := fun j hj => by
  have := hlow j hj
  rw [cvF_low hj] at this
  unfold INF; omega
 have hg : Grows (cvF c) (c.vals.length - P) P c.inc := fun t ht => by
  obtain ⟨j1, j2, j3⟩ := cvJ_at hPn (show c.vals.length ≤ t + P by omega)
  rw [cvF_high hP hPn (show c.vals.length ≤ t + P by omega), if_neg (hfin _ j2)]
  by_cases hn : t < c.vals.length
  ·have e : (t + P - c.vals.length) / P = 0 := Nat.div_eq_of_lt (by omega)
   rw [e] at j3 ⊢
   have ej : cvJ c.vals.length P (t + P) = t := by omega
   rw [ej, cvF_low hn]; simp
  ·obtain ⟨i1, i2, i3⟩ := cvJ_at hPn (show c.vals.length ≤ t by omega)
   rw [cvF_high hP hPn (show c.vals.length ≤ t by omega), if_neg (hfin _ i2)]
   have e : (t + P - c.vals.length) / P = (t - c.vals.length) / P + 1 := by
    rw [show t + P - c.vals.length = t - c.vals.length + P by omega, Nat.add_div_right _ (by omega)]
   rw [e] at j3 ⊢
   have ej : cvJ c.vals.length P (t + P) = cvJ c.vals.length P t := by
    have : ((t - c.vals.length) / P + 1 + 1) * P = ((t - c.vals.length) / P + 1) * P + P := by rw [Nat.add_mul _ 1 P]; simp
    omega
   rw [ej]
   have e3 : (((t - c.vals.length) / P + 1 + 1 : Nat) : Int) * c.inc = (((t - c.vals.length) / P + 1 : Nat) : Int) * c.inc + c.inc := by
    rw [Int.natCast_add _ 1, Int.add_mul]; simp
   rw [e3]; omega
 have hstep : ∀ t, t + 1 ≤ c.vals.length → cvF c t ≤ cvF c (t + 1) := fun t ht => by
  by_cases e : t + 1 < c.vals.length
  ·rw [cvF_low e, cvF_low (show t < c.vals.length by omega)]
   exact valid_mono h (by omega) e
  ·have g := hg (c.vals.length - P) (Nat.le_refl _)
   rw [show c.vals.length - P + P = t + 1 by omega, cvF_low (show c.vals.length - P < c.vals.length by omega)] at g
   rw [g, cvF_low (show t < c.vals.length by omega)]
   rw [hP, Int.toNat_natCast, show c.vals.length - 1 = t by omega] at h8
   exact h8
 refine ⟨c.vals.length - P, P, hP, by omega, by omega, by omega, by unfold MAXV at h7; omega, hg, ?_, (hlow 0 (by omega)).1, fun t ht => (hlow t (by omega)).2⟩
 intro t
 induction t using Nat.strongRecOn with
 | _ t ih =>
  by_cases ht : t + 1 ≤ c.vals.length
  ·exact hstep t ht
  ·have a := ih (t - P) (by omega)
   have g1 := hg (t - P) (by omega)
   have g2 := hg (t - P + 1) (by omega)
   rw [show t - P + P = t by omega] at g1
   rw [show t - P + 1 + P = t + 1 by omega] at g2
   omega
theorem valid_ic (h : validB c = true) (hf : nth c.vals (c.vals.length - 1) = INF) : c.per = 1 ∧ c.inc = 0 ∧ ∃ n : Nat, n < c.vals.length ∧ infL c.vals = n ∧ IC (cvF c) n := by
 obtain ⟨⟨h1, h2, h3, h4, h5, h6, h7⟩, _, h8⟩ := validB_iff.1 h
 rw [if_pos hf] at h8
 refine ⟨h8.1, h8.2, ?_⟩
 unfold infL
 rcases findFrom_cases (fun i => nth c.vals i == INF) c.vals.length 0 with ⟨n, n1, n2, n3, n4, n5⟩ | ⟨_, n2⟩
 ·rw [n3]
  have hnI : nth c.vals n = INF := by simpa using n4
  have hlow : ∀ t, t < n → 0 ≤ nth c.vals t ∧ nth c.vals t ≤ 1073741824 := fun t ht => by
   have a := valid_each h t (by omega)
   have b := n5 t (by omega) ht
   unfold MAXV at a
   rcases a with a | a
   ·rw [a] at b; simp at b
   ·exact a
  have hhi : ∀ t, n ≤ t → cvF c t = INF := fun t ht => by
   by_cases e : t < c.vals.length
   ·rw [cvF_low e]
    have a := valid_mono h ht e
    have b := valid_each h t e
    rw [hnI] at a
    unfold MAXV INF at b
    unfold INF at a ⊢
    omega
   ·obtain ⟨j1, j2, j3⟩ := cvJ_at (n := c.vals.length) (P := 1) (t := t) (by omega) (by omega)
    have ej : cvJ c.vals.length 1 t = c.vals.length - 1 := by omega
    rw [cvF_high (P := 1) (by rw [h8.1]; rfl) (by omega) (by omega), ej, if_pos hf]
  refine ⟨n, by omega, rfl, by omega, hhi, fun t ht => by rw [cvF_low (by omega)]; exact hlow t ht, fun t => ?_⟩
  by_cases ht : t + 1 < n
  ·rw [cvF_low (show t + 1 < c.vals.length by omega), cvF_low (show t < c.vals.length by omega)]
   exact valid_mono h (by omega) (by omega)
  ·rw [hhi (t + 1) (by omega)]
   by_cases e : t < n
   ·rw [cvF_low (by omega)]
    have := hlow t e
    unfold INF; omega
   ·rw [hhi t (by omega)]; exact Int.le_refl _
 ·have := n2 (c.vals.length - 1) (by omega) (by omega)
  rw [hf] at this; simp at this
/-- of a finite curve, of any valid one -/
def finB (c : Cv) : Bool := nth c.vals (c.vals.length - 1) != INF
theorem cv_eq {S P : Nat} (hP : c.per = P) (hn : c.vals.length = S + P) : c = ⟨fvals (cvF c) (S + P), P, c.inc⟩ := by
 have := cvF_vals c
 rw [hn] at this
 cases c
 simp only at *
 subst hP
 rw [← this]
theorem cv_eqI {n : Nat} (hP : c.per = 1) (hI : c.inc = 0) (hn : n < c.vals.length) : c = ⟨fvals (cvF c) c.vals.length, 1, 0⟩ := by
 have := cvF_vals c
 cases c
 simp only at *
 subst hP; subst hI
 rw [← this]
end
theorem cvF_fc {F : Nat → Int} {S P : Nat} {I : Int} (h : FC F S P I) : cvF ⟨fvals F (S + P), P, I⟩ = F := funext fun t => h.atR t
theorem cvF_ic {F : Nat → Int} {n m : Nat} (h : IC F n) (hm : n < m) : cvF ⟨fvals F m, 1, 0⟩ = F := funext fun t => by
 by_cases ht : t < m
 ·rw [cvF_low (by rw [fvals_len]; exact ht)]
  exact fvals_nth F ht
 ·have hl : (fvals F m).length = m := fvals_len F m
  rw [cvF_high (c := ⟨fvals F m, 1, 0⟩) (P := 1) rfl (by rw [hl]; omega) (by rw [hl]; omega)]
  obtain ⟨j1, j2, j3⟩ := cvJ_at (n := m) (P := 1) (t := t) (by omega) (by omega)
  rw [hl]
  dsimp only
  rw [show cvJ m 1 t = m - 1 by omega, fvals_nth F (by omega), h.hi _ (by omega), if_pos rfl, h.hi t (by omega)]
theorem IC.fin {F : Nat → Int} {n t : Nat} (h : IC F n) (ht : t < n) : F t ≠ INF := by have := h.hb t ht; unfold INF; omega
theorem IC.valid {F : Nat → Int} {n m : Nat} (h : IC F n) (hm : n < m) (hm' : m ≤ 400) : validB ⟨fvals F m, 1, 0⟩ = true := by
 rw [validB_iff]
 dsimp only
 rw [fvals_len, fvals_nth F (show m - 1 < m by omega), if_pos (h.hi _ (by omega))]
 refine ⟨⟨by omega, hm', by decide, by decide, by omega, by decide, by unfold MAXV; omega⟩, fun i hi => ?_, rfl, rfl⟩
 rw [fvals_nth F hi]
 refine ⟨?_, ?_⟩
 ·by_cases e : i < n
  ·have := h.hb i e
   right; unfold MAXV; exact this
  ·exact .inl (h.hi i (by omega))
 ·by_cases e : i = 0
  ·exact .inl e
  ·right
   rw [fvals_nth F (by omega)]
   have := h.hm (i - 1)
   rwa [show i - 1 + 1 = i by omega] at this
theorem FC.valid' {F : Nat → Int} {S P : Nat} {I : Int} (h : FC F S P I) : validB ⟨fvals F (S + P), P, I⟩ = true := by
 have hP := h.hP
 have hn := h.hn
 have hI := h.hI
 rw [validB_iff]
 dsimp only
 rw [fvals_len]
 refine ⟨⟨by omega, by omega, by omega, by omega, by omega, by omega, by unfold MAXV; omega⟩, fun i hi => ?_, ?_⟩
 ·rw [fvals_nth F hi]
  have a := h.nonneg i
  have b := h.hb i hi
  refine ⟨.inr ⟨a, by unfold MAXV; omega⟩, ?_⟩
  by_cases h0 : i = 0
  ·exact .inl h0
  ·right
   rw [fvals_nth F (by omega)]
   exact h.mono (show i - 1 ≤ i by omega)
 ·rw [fvals_nth F (by omega), if_neg (h.fin (by omega)), Int.toNat_natCast, fvals_nth F (by omega)]
  have h1 := h.hg (S + P - P) (by omega)
  have h2 := h.mono (show S + P - 1 ≤ S + P - P + P by omega)
  omega
/-- the normal form of a finite curve -/
theorem FC.norm {F : Nat → Int} {S P : Nat} {I : Int} (h : FC F S P I) : ∃ (s p : Nat) (q : Int), normR ⟨fvals F (S + P), P, I⟩ = ⟨fvals F (s + p), p, q⟩ ∧ FC F s p q ∧ s ≤ S ∧ p ≤ P ∧ NF F S P I p s ∧ q = I * p / P := by
 have hP := h.hP
 have hI := h.hI
 obtain ⟨p, s, h1, h2, h3, h4⟩ := normR_nf (by omega) hI.1 h.hg (fun t ht => h.fin ht)
 have hp := h1.least.1
 have hq0 : 0 ≤ I * (p : Int) / P := Int.ediv_nonneg (Int.mul_nonneg hI.1 (by omega)) (by omega)
 have hq : I * (p : Int) / P ≤ I := by
  have h3 : I * (p : Int) ≤ I * (P : Int) := Int.mul_le_mul_of_nonneg_left (by omega) hI.1
  have h4 : I * (p : Int) / P ≤ I * (P : Int) / P := Int.ediv_le_ediv (by omega) h3
  rw [Int.mul_ediv_cancel _ (by omega)] at h4
  exact h4
 have hn := h.hn
 exact ⟨s, p, I * p / P, h4, ⟨by omega, by omega, ⟨hq0, by omega⟩, h1.starts.1, h.hm, h.h0, fun t ht => h.hb t (by omega)⟩, h3, h2, h1, rfl⟩
theorem IC.norm {F : Nat → Int} {n m : Nat} (h : IC F n) (hm : n < m) : normR ⟨fvals F m, 1, 0⟩ = ⟨fvals F (n + 1), 1, 0⟩ :=
 normR_inf hm (h.hi n (Nat.le_refl _)) (fun t ht => h.fin ht)
/-- what is known of a valid curve: finite or not -/
theorem valid_cases {c : Cv} (h : validB c = true) : (∃ S P : Nat, c = ⟨fvals (cvF c) (S + P), P, c.inc⟩ ∧ c.vals.length = S + P ∧ c.per = P ∧ FC (cvF c) S P c.inc ∧ finB c = true) ∨ (∃ n : Nat, c = ⟨fvals (cvF c) c.vals.length, 1, 0⟩ ∧ n < c.vals.length ∧ c.per = 1 ∧ c.inc = 0 ∧ infL c.vals = n ∧ IC (cvF c) n ∧ finB c = false) := by
 by_cases hf : nth c.vals (c.vals.length - 1) = INF
 ·obtain ⟨h1, h2, n, h3, h4, h5⟩ := valid_ic h hf
  exact .inr ⟨n, cv_eqI h1 h2 h3, h3, h1, h2, h4, h5, by unfold finB; rw [hf]; simp⟩
 ·obtain ⟨S, P, h1, h2, h3⟩ := valid_fin h hf
  exact .inl ⟨S, P, cv_eq h1 h2, h2, h1, h3, by unfold finB; simp [hf]⟩
theorem norm_valid {c : Cv} (h : validB c = true) : validB (normR c) = true ∧ cvF (normR c) = cvF c ∧ (normR c).vals.length ≤ c.vals.length ∧ finB (normR c) = finB c ∧ (∀ S P : Nat, c.vals.length = S + P → c.per = P → ∃ s p : Nat, (normR c).vals.length = s + p ∧ (normR c).per = p ∧ s ≤ S ∧ p ≤ P) := by
 have hfb : ∀ {a b : Cv}, validB a = true → validB b = true → cvF a = cvF b → finB a = finB b := fun {a b} ha hb e => by
  rcases valid_cases ha with ⟨S, P, _, _, _, hfc, f1⟩ | ⟨n, _, _, _, _, _, hic, f1⟩
  ·rcases valid_cases hb with ⟨_, _, _, _, _, _, f2⟩ | ⟨n, _, _, _, _, _, hic, f2⟩
   ·rw [f1, f2]
   ·rw [e] at hfc
    have a1 := hic.hi (n + S + P) (by omega)
    have a2 := hfc.bound n
    have a3 := hic.hi n (Nat.le_refl _)
    have := hic.hn
    unfold INF at a3; omega
  ·rcases valid_cases hb with ⟨S, P, _, _, _, hfc, f2⟩ | ⟨_, _, _, _, _, _, _, f2⟩
   ·rw [← e] at hfc
    have a2 := hfc.bound n
    have a3 := hic.hi n (Nat.le_refl _)
    have := hic.hn
    unfold INF at a3; omega
   ·rw [f1, f2]
 rcases valid_cases h with ⟨S, P, e, hl, hp, hfc, _⟩ | ⟨n, e, hl, hp, hI, _, hic, _⟩
 ·obtain ⟨s, p, q, h1, h2, h3, h4, _⟩ := hfc.norm
  have e2 : normR c = ⟨fvals (cvF c) (s + p), p, q⟩ := by rw [← h1, ← e]
  have e3 : cvF (normR c) = cvF c := by rw [e2]; exact cvF_fc h2
  have hv : validB (normR c) = true := by rw [e2]; exact h2.valid'
  have hp1 := h2.hP
  refine ⟨hv, e3, by rw [e2, hl, fvals_len]; omega, hfb hv h e3, fun S' P' hl' hp' => ⟨s, p, by rw [e2]; exact fvals_len _ _, by rw [e2], by omega, by omega⟩⟩
 ·have h1 := hic.norm hl
  have e2 : normR c = ⟨fvals (cvF c) (n + 1), 1, 0⟩ := by rw [← h1, ← e]
  have e3 : cvF (normR c) = cvF c := by rw [e2]; exact cvF_ic hic (by omega)
  have hn := hic.hn
  have hv : validB (normR c) = true := by rw [e2]; exact hic.valid (by omega) (by omega)
  refine ⟨hv, e3, by rw [e2, fvals_len]; omega, hfb hv h e3, fun S' P' hl' hp' => ⟨n, 1, by rw [e2]; exact fvals_len _ _, by rw [e2]; rfl, by omega, by omega⟩⟩
end Go.Proofs.YthpblaoehlgpfaaGreat.M

/- What the references' normal form wants of long lists, plain; curves less a number. No condition. -/
namespace Go.Proofs.YthpblaoehlgpfaaGreat.M
open Go Go.Proofs.YthpblaoehlgpfaaGreat.K

/-- what Made wants -/
structure MadeOk (v : List Int) (per inc : Int) : Prop where
  vals : ∀ x ∈ v, -2305843009213693952 ≤ x ∧ x ≤ 4611686018427387904
  hper : 1 ≤ per ∧ per ≤ 10000 ∧ per ≤ v.length
  hinc : 0 ≤ inc ∧ inc ≤ 549755813888
  self : infL v = -1 → perR ⟨v, per, inc⟩ ((v.length : Int) - per) per = true
  at_ : ∀ t : Int, 0 ≤ t → t ≤ (v.length : Int) + per → infL v = -1 → 0 ≤ atR v per inc t ∧ atR v per inc t ≤ 1000000000000000
  nb : (∀ x ∈ (normR ⟨v, per, inc⟩).vals, -2305843009213693952 ≤ x ∧ x ≤ 4611686018427387904) ∧ InR (normR ⟨v, per, inc⟩).per ∧ InR (normR ⟨v, per, inc⟩).inc
theorem madeOk_fin {F : Nat → Int} {S P : Nat} {I : Int} (hP : 0 < P ∧ P ≤ 10000) (hS : S ≤ 10000) (hI : 0 ≤ I ∧ I ≤ 549755813888) (hg : Grows F S P I) (hb : ∀ t, t ≤ S + P + P → 0 ≤ F t ∧ F t ≤ 10000000000000) : MadeOk (fvals F (S + P)) P I := by
 obtain ⟨h1, h2, h3, h4, h5⟩ := made_pre hP hS hI hg hb
 exact ⟨h1, by rw [fvals_len]; omega, hI, fun _ => h2, fun t a b _ => h3 t a b, h5⟩
theorem madeOk_inf {F : Nat → Int} {n m : Nat} {per inc : Int} (hn : n < m) (hm : m ≤ 100000) (hper : 1 ≤ per ∧ per ≤ 10000 ∧ per ≤ m) (hinc : 0 ≤ inc ∧ inc ≤ 549755813888) (hi : F n = INF) (hb : ∀ t, t < n → 0 ≤ F t ∧ F t < INF) (hb' : ∀ t, t < m → 0 ≤ F t ∧ F t ≤ INF) : MadeOk (fvals F m) per inc := by
 have hne : ∀ t, t < n → F t ≠ INF := fun t ht => by have := hb t ht; omega
 have hl := infL_some hn hi hne
 have hv : ∀ k, k ≤ m → ∀ x ∈ fvals F k, -2305843009213693952 ≤ x ∧ x ≤ 4611686018427387904 := fun k hk => all_of_nth (fun j hj => by
  rw [fvals_len] at hj
  rw [fvals_nth F hj]
  have := hb' j (by omega)
  unfold INF at this
  omega)
 refine ⟨hv m (Nat.le_refl _), by rw [fvals_len]; exact hper, hinc, fun h => by rw [hl] at h; omega, fun t _ _ h => by rw [hl] at h; omega, ?_⟩
 rw [normR_inf hn hi hne]
 exact ⟨hv _ (by omega), by constructor <;> dsimp only <;> decide, by constructor <;> dsimp only <;> decide⟩
theorem cvF_bound {c : Cv} (h : validB c = true) (t : Nat) : 0 ≤ cvF c t ∧ (cvF c t = INF ∨ cvF c t ≤ 1073741824 * ((t : Int) + 2)) := by
 rcases valid_cases h with ⟨S, P, _, _, _, hfc, _⟩ | ⟨n, _, _, _, _, _, hic, _⟩
 ·exact ⟨hfc.nonneg t, .inr (hfc.bound t)⟩
 ·by_cases ht : t < n
  ·have := hic.hb t ht
   exact ⟨this.1, .inr (by omega)⟩
  ·have := hic.hi t (by omega)
   exact ⟨by rw [this]; unfold INF; omega, .inl this⟩
theorem cvF_mono {c : Cv} (h : validB c = true) (t : Nat) : cvF c t ≤ cvF c (t + 1) := by
 rcases valid_cases h with ⟨S, P, _, _, _, hfc, _⟩ | ⟨n, _, _, _, _, _, hic, _⟩
 ·exact hfc.hm t
 ·exact hic.hm t
theorem valid_range {c : Cv} (h : validB c = true) : (∀ x ∈ c.vals, -2305843009213693952 ≤ x ∧ x ≤ 4611686018427387904) ∧ 1 ≤ c.vals.length ∧ c.vals.length ≤ 400 ∧ 1 ≤ c.per ∧ c.per ≤ 120 ∧ c.per ≤ c.vals.length ∧ 0 ≤ c.inc ∧ c.inc ≤ 1073741824 := by
 obtain ⟨⟨h1, h2, h3, h4, h5, h6, h7⟩, _, _⟩ := validB_iff.1 h
 refine ⟨all_of_nth (fun j hj => ?_), h1, h2, h3, h4, h5, h6, by unfold MAXV at h7; omega⟩
 have := valid_each h j hj
 unfold INF MAXV at this
 omega
/-- a valid curve may be made normal -/
theorem valid_madeOk {c : Cv} (h : validB c = true) : MadeOk c.vals c.per c.inc := by
 rcases valid_cases h with ⟨S, P, e, hl, hp, hfc, _⟩ | ⟨n, e, hl, hp, hI, _, hic, _⟩
 ·have hP := hfc.hP
  have hn := hfc.hn
  have hI := hfc.hI
  have := madeOk_fin (F := cvF c) (S := S) (P := P) (I := c.inc) (by omega) (by omega) (by omega) hfc.hg (fun t ht => by have := hfc.bound t; have := hfc.nonneg t; omega)
  rw [cvF_vals c, hl, hp]; exact this
 ·have hr := valid_range h
  have := madeOk_inf (F := cvF c) (per := 1) (inc := 0) hl (by omega) ⟨by decide, by decide, by omega⟩ (by decide) (hic.hi n (Nat.le_refl _)) (fun t ht => by have := hic.hb t ht; unfold INF; omega) (fun t ht => by
   have := cvF_bound h t
   unfold INF at this ⊢
   omega)
  rw [cvF_vals c, hp, hI]; exact this
/-! ### a curve less a number -/
/-- infinite there -/
def isInf (c : Cv) (t : Nat) : Prop := finB c = false ∧ cvF c t = INF
instance (c : Cv) (t : Nat) : Decidable (isInf c t) := by unfold isInf; infer_instance
theorem isInf_iff {c : Cv} (h : validB c = true) {t : Nat} (ht : t ≤ 1000000000) : isInf c t ↔ cvF c t = INF := by
 refine ⟨fun h => h.2, fun h0 => ⟨?_, h0⟩⟩
 rcases valid_cases h with ⟨S, P, _, _, _, hfc, _⟩ | ⟨n, _, _, _, _, _, hic, hf⟩
 ·have := hfc.bound t
  unfold INF at h0; omega
 ·exact hf
def lowF (c : Cv) (k : Int) (t : Nat) : Int := if isInf c t then INF else max 0 (cvF c t - k)
def lowerR (c : Cv) (k : Int) : Cv × Int :=
  if finB (normR c) = true ∧ 0 < (normR c).inc ∧ cvF (normR c) 400 < k then (zcv, 3)
  else madeR ⟨fvals (lowF (normR c) k) (400 + (normR c).per.toNat), (normR c).per, (normR c).inc⟩
end Go.Proofs.YthpblaoehlgpfaaGreat.M

/- Sums of curves, curves raised, what is left of a line, plain: the program and the reference make the same. No condition. -/
namespace Go.Proofs.YthpblaoehlgpfaaGreat.M
open Go Go.Proofs.YthpblaoehlgpfaaGreat.K

/-! ### functions that repeat, or are infinite from some tick on -/
structure RepF (F : Nat → Int) (S P : Nat) (I : Int) : Prop where
  hP : 0 < P
  hI : 0 ≤ I
  hg : Grows F S P I
  hm : ∀ t, F t ≤ F (t + 1)
  h0 : 0 ≤ F 0
  hf : ∀ t, t < S + P → F t < INF
structure RepI (F : Nat → Int) (n m : Nat) : Prop where
  hn : n < m
  hi : ∀ t, n ≤ t → F t = INF
  hf : ∀ t, t < n → 0 ≤ F t ∧ F t < INF
  hm : ∀ t, F t ≤ F (t + 1)
/-- a curve in normal form -/
structure Nrm (c : Cv) : Prop where
  valid : validB c = true
  norm : normR c = c
theorem RepF.ne {F : Nat → Int} {S P : Nat} {I : Int} (h : RepF F S P I) {t : Nat} (ht : t < S + P) : F t ≠ INF := by have := h.hf t ht; omega
/-- what Build makes of it -/
theorem RepF.res {F : Nat → Int} {S P : Nat} {I : Int} (h : RepF F S P I) : mbuild F S P I = (zcv, 3) ∨ ∃ c, mbuild F S P I = (c, 0) ∧ Nrm c ∧ cvF c = F ∧ finB c = true := by
 rw [mbuild_fin (fun t ht => h.ne ht)]
 obtain ⟨p, s, hnf, h1, h2, e⟩ := finL_nf h.hP h.hg (fun t ht => h.ne ht)
 rw [e]
 unfold nfC
 by_cases h3 : nfE F p s (I * p / P) = 3
 ·rw [if_pos h3]; exact .inl rfl
 ·rw [if_neg h3]
  right
  have h4 : ¬ (120 < p ∨ MAXV < I * p / P ∨ 400 < s + p ∨ ((List.range (s + p)).any fun i => decide (F i > MAXV)) = true) := fun hh => h3 (if_pos hh)
  have hp := hnf.least.1
  have hP := h.hP
  have hI := h.hI
  have hfc : FC F s p (I * p / P) := by
   refine ⟨by omega, by omega, ⟨Int.ediv_nonneg (Int.mul_nonneg hI (by omega)) (by omega), ?_⟩, hnf.starts.1, h.hm, h.h0, fun t ht => ?_⟩
   ·have : ¬ MAXV < I * p / P := fun hh => h4 (.inr (.inl hh))
    unfold MAXV at this; omega
   ·apply Classical.byContradiction
    intro hh
    refine h4 (.inr (.inr (.inr ?_)))
    rw [List.any_eq_true]
    exact ⟨t, List.mem_range.2 ht, decide_eq_true (by unfold MAXV; omega)⟩
  have hv := hfc.valid'
  refine ⟨_, rfl, ⟨hv, ?_⟩, cvF_fc hfc, ?_⟩
  ·obtain ⟨s', p', q', e', _, _, _, hnf', hq'⟩ := hfc.norm
   obtain ⟨e1, e2, e3⟩ := nf_same h.hP (by omega) h.hg hfc.hg hnf hnf'
   rw [e', hq', ← e3, ← e1, ← e2]
  ·rcases valid_cases hv with ⟨_, _, _, _, _, _, f1⟩ | ⟨n, _, _, _, _, _, hic, _⟩
   ·exact f1
   ·have := hic.hi (n + s + p) (by omega)
    rw [cvF_fc hfc] at this
    have h5 := hic.hi n (Nat.le_refl _)
    rw [cvF_fc hfc] at h5
    have h6 := hfc.bound n
    have := hic.hn
    unfold INF at h5; omega
theorem RepI.ne {F : Nat → Int} {n m : Nat} (h : RepI F n m) {t : Nat} (ht : t < n) : F t ≠ INF := by have := h.hf t ht; omega
theorem RepI.res {F : Nat → Int} {n S P : Nat} {I : Int} (h : RepI F n (S + P)) : mbuild F S P I = (zcv, 3) ∨ ∃ c, mbuild F S P I = (c, 0) ∧ Nrm c ∧ cvF c = F ∧ finB c = false := by
 rw [mbuild_inf h.hn (h.hi n (Nat.le_refl _)) (fun t ht => h.ne ht)]
 rcases checkedE_vals (fvals F (n + 1)) with hc | hc
 ·rw [checkedL_bad hc]; exact .inl rfl
 ·rw [checkedL_good (by omega)]
  right
  obtain ⟨h1, h2⟩ := (checked_inf (h.hi n (Nat.le_refl _)) h.hf).1 (by omega)
  have hic : IC F n := ⟨by omega, h.hi, fun t ht => by have := h.hf t ht; have := h2 t ht; unfold MAXV at this; omega, h.hm⟩
  have hv := hic.valid (show n < n + 1 by omega) h1
  refine ⟨_, rfl, ⟨hv, hic.norm (by omega)⟩, cvF_ic hic (by omega), ?_⟩
  unfold finB
  dsimp only
  rw [fvals_len, show n + 1 - 1 = n by omega, fvals_nth F (by omega), h.hi n (Nat.le_refl _)]
  simp
theorem norm_nrm {c : Cv} (h : validB c = true) : Nrm (normR c) := by
 refine ⟨(norm_valid h).1, ?_⟩
 rcases valid_cases h with ⟨S, P, e, hl, hp, hfc, _⟩ | ⟨n, e, hl, hp, hI, _, hic, _⟩
 ·obtain ⟨s, p, q, h1, h2, h3, h4, h5, h6⟩ := hfc.norm
  have e2 : normR c = ⟨fvals (cvF c) (s + p), p, q⟩ := by rw [← h1, ← e]
  obtain ⟨s', p', q', g1, g2, g3, g4, g5, g6⟩ := h2.norm
  have hP := hfc.hP
  have hp2 := h2.hP
  obtain ⟨e3, e4, e5⟩ := nf_same (by omega) (by omega) hfc.hg h2.hg h5 g5
  rw [e2, g1, g6, ← e5, ← e3, ← e4, ← h6]
 ·have h1 := hic.norm hl
  have e2 : normR c = ⟨fvals (cvF c) (n + 1), 1, 0⟩ := by rw [← h1, ← e]
  rw [e2]; exact hic.norm (by omega)
def stN (c : Cv) : Nat := c.vals.length - c.per.toNat
theorem norm_build {c : Cv} (h : validB c = true) : mbuild (cvF c) (stN c) c.per.toNat c.inc = (normR c, 0) := by
 have hn := (norm_nrm h).valid
 have hm : madeR c = (normR c, 0) := by unfold madeR; rw [if_pos hn]
 rcases valid_cases h with ⟨S, P, e, hl, hp, hfc, _⟩ | ⟨n, e, hl, hp, hI, _, hic, _⟩
 ·have hP := hfc.hP
  have hs : stN c = S := by unfold stN; rw [hl, hp, Int.toNat_natCast]; omega
  have hf : ∀ t, t < S + P → cvF c t < INF := fun t ht => by have := hfc.hb t ht; unfold INF; omega
  rw [hs, hp, Int.toNat_natCast, build_made_fin (by omega) hfc.hI.1 hfc.hg (by omega) hfc.hI.1 hfc.hg hfc.hm hfc.h0 hf hf, ← e, hm]
 ·have hr := valid_range h
  have hs : stN c + c.per.toNat = c.vals.length := by unfold stN; omega
  rw [build_made_inf (n := n) (m := c.vals.length) (per := 1) (inc := 0) (by rw [hs]; exact hl) hl (hic.hi n (Nat.le_refl _)) (fun t ht => by have := hic.hb t ht; unfold INF; omega) (fun t _ => hic.hm t), ← e, hm]
/-- a curve, if it is one, in normal form -/
def normC (c : Cv) : Cv × Int := if validB c = true then (normR c, 0) else (zcv, 1)
/-! ### sums -/
def lcmC (a b : Cv) : Nat := lcmN a.per.toNat b.per.toNat
def gainC (c : Cv) (L : Nat) : Int := (L : Int) / c.per * c.inc
def plusF (a b : Cv) (t : Nat) : Int := if isInf a t ∨ isInf b t then INF else cvF a t + cvF b t
theorem grows_gain {F : Nat → Int} {S P L : Nat} {I : Int} (hP : 1 ≤ P) (hg : Grows F S P I) (hL : L % P = 0) : Grows F S L ((L : Int) / (P : Int) * I) := fun t ht => by
 have h1 := hg.mul (L / P) t ht
 have h2 : L / P * P = L := Nat.div_mul_cancel (Nat.dvd_of_mod_eq_zero hL)
 rw [h2] at h1
 rw [h1]; rfl
theorem lcm_mod {a b : Nat} (ha : 0 < a) (hb : 0 < b) : lcmN a b % a = 0 ∧ lcmN a b % b = 0 ∧ 0 < lcmN a b := by
 obtain ⟨h1, h2, _, h4⟩ := lcmN_facts ha hb
 refine ⟨?_, ?_, h4⟩
 ·rw [h1]; exact Nat.mul_mod_left _ _
 ·rw [h2]; exact Nat.mul_mod_left _ _
theorem isInf_ic {c : Cv} {n : Nat} (hic : IC (cvF c) n) (hf : finB c = false) (t : Nat) : isInf c t ↔ n ≤ t := by
 constructor
 ·intro h
  apply Classical.byContradiction
  intro hh
  exact hic.fin (show t < n by omega) h.2
 ·intro h
  exact ⟨hf, hic.hi t h⟩
theorem isInf_fin {c : Cv} (hf : finB c = true) (t : Nat) : ¬ isInf c t := fun h => by have := h.1; rw [hf] at this; cases this
section
variable {a b : Cv}
theorem plus_fin (ha : validB a = true) (hb : validB b = true) (fa : finB a = true) (fb : finB b = true) (hl : lcmC a b ≤ 10000) {S : Nat} (hS : stN a ≤ S ∧ stN b ≤ S) (hS2 : S ≤ 10000) : RepF (plusF a b) S (lcmC a b) (gainC a (lcmC a b) + gainC b (lcmC a b)) := by
 rcases valid_cases ha with ⟨S1, P1, _, l1, p1, fc1, _⟩ | ⟨_, _, _, _, _, _, _, f⟩
 ·rcases valid_cases hb with ⟨S2, P2, _, l2, p2, fc2, _⟩ | ⟨_, _, _, _, _, _, _, f⟩
  ·have hP1 := fc1.hP
   have hP2 := fc2.hP
   have hI1 := fc1.hI
   have hI2 := fc2.hI
   unfold stN at hS
   unfold lcmC gainC at *
   rw [l1, p1, Int.toNat_natCast, l2, p2, Int.toNat_natCast] at hS
   rw [p1, p2, Int.toNat_natCast, Int.toNat_natCast] at hl ⊢
   obtain ⟨m1, m2, m3⟩ := lcm_mod (a := P1) (b := P2) (by omega) (by omega)
   have g1 := grows_gain (L := lcmN P1 P2) (by omega) (fc1.hg.mono (show S1 ≤ S by omega)) m1
   have g2 := grows_gain (L := lcmN P1 P2) (by omega) (fc2.hg.mono (show S2 ≤ S by omega)) m2
   have hpl : ∀ t, plusF a b t = cvF a t + cvF b t := fun t => if_neg (fun h => h.elim (isInf_fin fa t) (isInf_fin fb t))
   refine ⟨m3, ?_, fun t ht => by rw [hpl, hpl, g1 t ht, g2 t ht]; omega, fun t => by rw [hpl, hpl]; have := fc1.hm t; have := fc2.hm t; omega, by rw [hpl]; have := fc1.h0; have := fc2.h0; omega, fun t ht => ?_⟩
   ·have a1 : 0 ≤ (lcmN P1 P2 : Int) / (P1 : Int) * a.inc := Int.mul_nonneg (Int.ediv_nonneg (by omega) (by omega)) hI1.1
    have a2 : 0 ≤ (lcmN P1 P2 : Int) / (P2 : Int) * b.inc := Int.mul_nonneg (Int.ediv_nonneg (by omega) (by omega)) hI2.1
    omega
   ·rw [hpl]
    have := fc1.bound t
    have := fc2.bound t
    unfold INF; omega
  ·rw [fb] at f; cases f
 ·rw [fa] at f; cases f
/-- an infinite valid curve and any valid one -/
theorem inf_at (ha : validB a = true) (fa : finB a = false) : ∃ n, n ≤ stN a ∧ (∀ t, isInf a t ↔ n ≤ t) ∧ IC (cvF a) n := by
 rcases valid_cases ha with ⟨_, _, _, _, _, _, f⟩ | ⟨n, _, h1, h2, _, _, hic, f⟩
 ·rw [fa] at f; cases f
 ·refine ⟨n, ?_, isInf_ic hic f, hic⟩
  unfold stN
  rw [h2]
  have : (1 : Int).toNat = 1 := rfl
  omega
theorem fin_part (ha : validB a = true) {t : Nat} (h : ¬ isInf a t) (ht : t ≤ 1000000000) : 0 ≤ cvF a t ∧ cvF a t ≤ 1073741824 * ((t : Int) + 2) := by
 have h1 := cvF_bound ha t
 refine ⟨h1.1, h1.2.resolve_left (fun e => h ((isInf_iff ha ht).2 e))⟩
theorem isInf_mono (ha : validB a = true) {s t : Nat} (hst : s ≤ t) (h : isInf a s) : isInf a t := by
 obtain ⟨n, _, h1, _⟩ := inf_at ha h.1
 have := (h1 s).1 h
 exact (h1 t).2 (by omega)
theorem plus_inf (ha : validB a = true) (hb : validB b = true) (hab : ¬ (finB a = true ∧ finB b = true)) {m : Nat} (hm : stN a < m ∧ stN b < m) : ∃ n, RepI (plusF a b) n m := by
 have key : ∀ n : Nat, n < m → n ≤ 400 → (∀ t, (isInf a t ∨ isInf b t) ↔ n ≤ t) → RepI (plusF a b) n m := fun n hn hn4 h => by
  refine ⟨hn, fun t ht => if_pos ((h t).2 ht), fun t ht => ?_, fun t => ?_⟩
  ·have hno : ¬ (isInf a t ∨ isInf b t) := fun hh => by have := (h t).1 hh; omega
   have e : plusF a b t = cvF a t + cvF b t := if_neg hno
   have h1 := fin_part ha (fun x => hno (.inl x)) (show t ≤ 1000000000 by omega)
   have h2 := fin_part hb (fun x => hno (.inr x)) (show t ≤ 1000000000 by omega)
   rw [e]
   unfold INF; omega
  ·by_cases h1 : isInf a (t + 1) ∨ isInf b (t + 1)
   ·rw [show plusF a b (t + 1) = INF from if_pos h1]
    by_cases h2 : isInf a t ∨ isInf b t
    ·rw [show plusF a b t = INF from if_pos h2]; exact Int.le_refl _
    ·have e : plusF a b t = cvF a t + cvF b t := if_neg h2
     have ht : t < n := by
      apply Classical.byContradiction
      intro hh; exact h2 ((h t).2 (by omega))
     have a1 := fin_part ha (fun x => h2 (.inl x)) (show t ≤ 1000000000 by omega)
     have a2 := fin_part hb (fun x => h2 (.inr x)) (show t ≤ 1000000000 by omega)
     rw [e]; unfold INF; omega
   ·have h2 : ¬ (isInf a t ∨ isInf b t) := fun hh => h1 (hh.imp (isInf_mono ha (by omega)) (isInf_mono hb (by omega)))
    rw [show plusF a b (t + 1) = _ from if_neg h1, show plusF a b t = _ from if_neg h2]
    have := cvF_mono ha t
    have := cvF_mono hb t
    omega
 by_cases fa : finB a = true
 ·have fb : finB b = false := by simpa using fun h => hab ⟨fa, h⟩
  obtain ⟨n, h1, h2, h3⟩ := inf_at hb fb
  have := h3.hn
  exact ⟨n, key n (by omega) (by omega) (fun t => by
   rw [h2 t]
   exact ⟨fun h => h.elim (fun x => absurd x (isInf_fin fa t)) id, .inr⟩)⟩
 ·have fa : finB a = false := by simpa using fa
  obtain ⟨n, h1, h2, h3⟩ := inf_at ha fa
  have hn := h3.hn
  by_cases fb : finB b = true
  ·exact ⟨n, key n (by omega) (by omega) (fun t => by
    rw [h2 t]
    exact ⟨fun h => h.elim id (fun x => absurd x (isInf_fin fb t)), .inl⟩)⟩
  ·have fb : finB b = false := by simpa using fb
   obtain ⟨n', h1', h2', h3'⟩ := inf_at hb fb
   exact ⟨min n n', key _ (by omega) (by omega) (fun t => by rw [h2 t, h2' t]; omega)⟩
end
def sumC (f g : Cv) : Cv × Int :=
  if validB f = false ∨ validB g = false then (zcv, 1)
  else if 120 < lcmC (normR f) (normR g) then (zcv, 3)
  else mbuild (plusF (normR f) (normR g)) (max (stN (normR f)) (stN (normR g))) (lcmC (normR f) (normR g)) (gainC (normR f) (lcmC (normR f) (normR g)) + gainC (normR g) (lcmC (normR f) (normR g)))
theorem stN_lt {c : Cv} (h : validB c = true) : stN c < c.vals.length ∧ stN c + c.per.toNat = c.vals.length ∧ c.vals.length ≤ 400 := by
 obtain ⟨_, h1, h2, h3, h4, h5, _⟩ := valid_range h
 unfold stN; omega
theorem sum_res {f g : Cv} (hf : validB f = true) (hg : validB g = true) : sumC f g = (zcv, 3) ∨ ∃ c, sumC f g = (c, 0) ∧ Nrm c ∧ cvF c = plusF (normR f) (normR g) ∧ (finB f = true → finB g = true → finB c = true) := by
 have hnf := norm_nrm hf
 have hng := norm_nrm hg
 unfold sumC
 rw [if_neg (by rw [hf, hg]; simp)]
 by_cases hl : 120 < lcmC (normR f) (normR g)
 ·rw [if_pos hl]; exact .inl rfl
 ·rw [if_neg hl]
  have s1 := stN_lt hnf.valid
  have s2 := stN_lt hng.valid
  by_cases hfin : finB (normR f) = true ∧ finB (normR g) = true
  ·rcases (plus_fin hnf.valid hng.valid hfin.1 hfin.2 (by omega) ⟨Nat.le_max_left _ _, Nat.le_max_right _ _⟩ (by omega)).res with h | ⟨c, h1, h2, h3, h4⟩
   ·exact .inl h
   ·exact .inr ⟨c, h1, h2, h3, fun _ _ => h4⟩
  ·have hl0 : 0 < lcmC (normR f) (normR g) := by
    obtain ⟨_, _, _, q1, _⟩ := valid_range hnf.valid
    obtain ⟨_, _, _, q2, _⟩ := valid_range hng.valid
    exact (lcm_mod (by omega) (by omega)).2.2
   obtain ⟨n, hn⟩ := plus_inf hnf.valid hng.valid hfin (m := max (stN (normR f)) (stN (normR g)) + lcmC (normR f) (normR g)) (by omega)
   rcases hn.res (I := gainC (normR f) (lcmC (normR f) (normR g)) + gainC (normR g) (lcmC (normR f) (normR g))) with h | ⟨c, h1, h2, h3, h4⟩
   ·exact .inl h
   ·refine .inr ⟨c, h1, h2, h3, fun q1 q2 => ?_⟩
    exact absurd ⟨by rw [(norm_valid hf).2.2.2.1]; exact q1, by rw [(norm_valid hg).2.2.2.1]; exact q2⟩ hfin
/-! ### raised -/
def raiseF (a : Cv) (k : Int) (t : Nat) : Int := if t = 0 then 0 else if isInf a t then INF else cvF a t + k
def raiseC (f : Cv) (k : Int) : Cv × Int :=
  if validB f = false then (zcv, 1) else if k < 0 ∨ MAXV < k then (zcv, 2)
  else mbuild (raiseF (normR f) k) (max 1 (stN (normR f))) (normR f).per.toNat (normR f).inc
theorem raise_fin {a : Cv} (ha : validB a = true) (fa : finB a = true) {k : Int} (hk : 0 ≤ k ∧ k ≤ MAXV) {S : Nat} (hS : stN a ≤ S ∧ 1 ≤ S) (hS2 : S ≤ 10000) : RepF (raiseF a k) S a.per.toNat a.inc := by
 unfold MAXV at hk
 rcases valid_cases ha with ⟨S1, P1, _, l1, p1, fc1, _⟩ | ⟨_, _, _, _, _, _, _, f⟩
 ·have hP1 := fc1.hP
  have hI1 := fc1.hI
  unfold stN at hS
  rw [l1, p1, Int.toNat_natCast] at hS
  rw [p1, Int.toNat_natCast]
  have hpl : ∀ t, 1 ≤ t → raiseF a k t = cvF a t + k := fun t ht => by
   unfold raiseF
   rw [if_neg (by omega), if_neg (isInf_fin fa t)]
  have h0 : raiseF a k 0 = 0 := if_pos rfl
  refine ⟨by omega, hI1.1, fun t ht => by rw [hpl _ (by omega), hpl _ (by omega), fc1.hg t (by omega)]; omega, fun t => ?_, by rw [h0]; omega, fun t ht => ?_⟩
  ·by_cases h : t = 0
   ·subst h
    rw [h0, hpl _ (by omega)]
    have := fc1.nonneg (0 + 1)
    omega
   ·rw [hpl _ (by omega), hpl _ (by omega)]
    have := fc1.hm t
    omega
  ·by_cases h : t = 0
   ·subst h; rw [h0]; unfold INF; omega
   ·rw [hpl _ (by omega)]
    have := fc1.bound t
    unfold INF; omega
 ·rw [fa] at f; cases f
theorem raise_inf {a : Cv} (ha : validB a = true) (fa : finB a = false) {k : Int} (hk : 0 ≤ k ∧ k ≤ MAXV) {m : Nat} (hm : stN a < m ∧ 1 < m) : ∃ n, RepI (raiseF a k) n m := by
 unfold MAXV at hk
 obtain ⟨n, h1, h2, h3⟩ := inf_at ha fa
 have hn := h3.hn
 have h0 : raiseF a k 0 = 0 := if_pos rfl
 refine ⟨max 1 n, by omega, fun t ht => ?_, fun t ht => ?_, fun t => ?_⟩
 ·unfold raiseF
  rw [if_neg (by omega), if_pos ((h2 t).2 (by omega))]
 ·by_cases h : t = 0
  ·subst h; rw [h0]; unfold INF; omega
  ·have hb := h3.hb t (by omega)
   unfold raiseF
   rw [if_neg h, if_neg (fun hh => by have := (h2 t).1 hh; omega)]
   unfold INF; omega
 ·have hr : ∀ t, t ≠ 0 → raiseF a k t = if isInf a t then INF else cvF a t + k := fun t h => if_neg h
  by_cases h : t = 0
  ·subst h
   rw [h0, hr (0 + 1) (by omega)]
   have hb := cvF_bound ha (0 + 1)
   split
   ·unfold INF; omega
   ·omega
  ·rw [hr t h, hr (t + 1) (by omega)]
   by_cases e : isInf a t
   ·rw [if_pos e, if_pos (isInf_mono ha (by omega) e)]; exact Int.le_refl _
   ·have hlt : t < n := by
     apply Classical.byContradiction
     intro hh; exact e ((h2 t).2 (by omega))
    have hb := h3.hb t hlt
    rw [if_neg e]
    split
    ·unfold INF; omega
    ·have := cvF_mono ha t
     omega
theorem raise_res {f : Cv} (hf : validB f = true) {k : Int} (hk : 0 ≤ k ∧ k ≤ MAXV) : raiseC f k = (zcv, 3) ∨ ∃ c, raiseC f k = (c, 0) ∧ Nrm c ∧ cvF c = raiseF (normR f) k ∧ (finB f = true → finB c = true) := by
 have hnf := norm_nrm hf
 unfold raiseC
 rw [if_neg (by rw [hf]; simp), if_neg (by omega)]
 have s1 := stN_lt hnf.valid
 obtain ⟨_, _, _, q1, _⟩ := valid_range hnf.valid
 by_cases hfin : finB (normR f) = true
 ·rcases (raise_fin hnf.valid hfin hk (S := max 1 (stN (normR f))) (by omega) (by omega)).res with h | ⟨c, h1, h2, h3, h4⟩
  ·exact .inl h
  ·exact .inr ⟨c, h1, h2, h3, fun _ => h4⟩
 ·have hfin' : finB (normR f) = false := by simpa using hfin
  obtain ⟨n, hn⟩ := raise_inf hnf.valid hfin' hk (m := max 1 (stN (normR f)) + (normR f).per.toNat) (by omega)
  rcases hn.res (I := (normR f).inc) with h | ⟨c, h1, h2, h3, h4⟩
  ·exact .inl h
  ·refine .inr ⟨c, h1, h2, h3, fun q1 => ?_⟩
   exact absurd (by rw [(norm_valid hf).2.2.2.1]; exact q1) hfin
/-! ### totals -/
def zeroC : Cv := ⟨[0], 1, 0⟩
def totalGo (s : Cv) : List Cv → Cv × Int
  | [] => (s, 0)
  | f :: l => if (sumC s f).2 ≠ 0 then (zcv, (sumC s f).2) else totalGo (sumC s f).1 l
def totalC (l : List Cv) : Cv × Int := totalGo zeroC l
theorem zero_nrm : Nrm zeroC := ⟨by kernel_rfl, by kernel_rfl⟩
theorem total_res : ∀ (l : List Cv) (s : Cv), validB s = true → Nrm s → (∀ f ∈ l, validB f = true) → totalGo s l = (zcv, 3) ∨ ∃ c, totalGo s l = (c, 0) ∧ Nrm c ∧ (finB s = true → (∀ f ∈ l, finB f = true) → finB c = true)
 | [], s, hv, hn, _ => .inr ⟨s, rfl, hn, fun h _ => h⟩
 | f :: l, s, hv, hn, hl => by
  simp only [totalGo]
  rcases sum_res hv (hl f (by simp)) with h | ⟨c, h1, h2, h3, h4⟩
  ·rw [h, if_pos (by decide)]; exact .inl rfl
  ·rw [h1, if_neg (by simp)]
   rcases total_res l c h2.valid h2 (fun f hf => hl f (by simp [hf])) with h | ⟨c', e1, e2, e3⟩
   ·exact .inl h
   ·exact .inr ⟨c', e1, e2, fun q1 q2 => e3 (h4 q1 (q2 f (by simp))) (fun f hf => q2 f (by simp [hf]))⟩
/-- a flat one -/
def flatF (k : Int) (t : Nat) : Int := if t = 0 then 0 else k
theorem flatF_bound {k : Int} (hk : 0 ≤ k ∧ k ≤ 1073741824) (t : Nat) : 0 ≤ flatF k t ∧ flatF k t ≤ 1000000000000000 := by unfold flatF; split <;> omega
def flatC (k : Int) : Cv × Int := mbuild (flatF k) 1 1 0
theorem flat_zero : flatC 0 = (zeroC, 0) := by kernel_rfl
/-- curves in memory -/
structure CvS where
  a : Option Addr
  cap : Nat
  cv : Cv
instance instCvS : Inhabited CvS := ⟨⟨none, 0, zcv⟩⟩
def encC (s : CvS) : List Value := [.slice s.a s.cv.vals.length s.cap, .int .i64 s.cv.per, .int .i64 s.cv.inc]
theorem drop_map_cons {ls : List CvS} {i : Nat} (h : i < ls.length) : (ls.map CvS.cv).drop i = (nth ls i).cv :: (ls.map CvS.cv).drop (i + 1) := by
 rw [List.drop_eq_getElem_cons (by simpa using h), List.getElem_map, ← nth_eq h]
/-- the last value that was looked at -/
def lastV (v : List Int) (t : Nat) : Int := if t = 0 then 0 else nth v (t - 1)
theorem lastV_succ (v : List Int) (t : Nat) : lastV v (t + 1) = nth v t := by unfold lastV; rw [if_neg (by omega)]; rfl
end Go.Proofs.YthpblaoehlgpfaaGreat.M

/- What a curve leaves of a line, plain: the program and the reference make the same. No condition. -/
namespace Go.Proofs.YthpblaoehlgpfaaGreat.M
open Go Go.Proofs.YthpblaoehlgpfaaGreat.K

/-- the greatest of the first so many, and 0 -/
def mostF (f : Nat → Int) : Nat → Int
  | 0 => 0
  | n + 1 => max (mostF f n) (f n)
/-- the greatest from s on -/
def tailF (f : Nat → Int) (s : Nat) : Nat → Int
  | 0 => f s
  | d + 1 => max (tailF f s d) (f (s + (d + 1)))
section
variable {f : Nat → Int} {s P : Nat} {D : Int}
theorem mostF_nonneg : ∀ n : Nat, 0 ≤ mostF f n
 | 0 => Int.le_refl _
 | n + 1 => by have := mostF_nonneg n; simp only [mostF]; omega
theorem mostF_step (n : Nat) : mostF f n ≤ mostF f (n + 1) := by simp only [mostF]; omega
theorem mostF_ge {u : Nat} : ∀ {n : Nat}, u < n → f u ≤ mostF f n
 | 0, h => by omega
 | n + 1, h => by
  simp only [mostF]
  by_cases e : u = n
  ·subst e; omega
  ·have : f u ≤ mostF f n := mostF_ge (by omega)
   omega
theorem mostF_le {B : Int} (h0 : 0 ≤ B) : ∀ {n : Nat}, (∀ u, u < n → f u ≤ B) → mostF f n ≤ B
 | 0, _ => h0
 | n + 1, h => by
  have a := mostF_le h0 (n := n) (fun u hu => h u (by omega))
  have b := h n (by omega)
  simp only [mostF]; omega
theorem tailF_ge {u : Nat} : ∀ {d : Nat}, s ≤ u → u ≤ s + d → f u ≤ tailF f s d
 | 0, h1, h2 => by
  obtain rfl : u = s := by omega
  exact Int.le_refl _
 | d + 1, h1, h2 => by
  simp only [tailF]
  by_cases e : u = s + (d + 1)
  ·subst e; omega
  ·have : f u ≤ tailF f s d := tailF_ge h1 (by omega)
   omega
theorem tailF_le {B : Int} : ∀ {d : Nat}, (∀ u, s ≤ u → u ≤ s + d → f u ≤ B) → tailF f s d ≤ B
 | 0, h => h s (Nat.le_refl _) (by omega)
 | d + 1, h => by
  have a := tailF_le (d := d) (fun u h1 h2 => h u h1 (by omega))
  have b := h (s + (d + 1)) (by omega) (Nat.le_refl _)
  simp only [tailF]; omega
theorem most_tail : ∀ d : Nat, mostF f (s + d + 1) = max (mostF f s) (tailF f s d)
 | 0 => rfl
 | d + 1 => by
  have ih := most_tail d
  have e : mostF f (s + (d + 1) + 1) = max (mostF f (s + d + 1)) (f (s + (d + 1))) := rfl
  rw [e, ih]
  simp only [tailF]; omega
theorem tail_shift (hP : 0 < P) (hD : 0 ≤ D) (h : ∀ t, s ≤ t → f (t + P) = f t + D) {d : Nat} (hd : P ≤ d + 1) : tailF f s (d + P) = tailF f s d + D := by
 refine Int.le_antisymm (tailF_le (fun u h1 h2 => ?_)) ?_
 ·by_cases hu : s + P ≤ u
  ·have a := h (u - P) (by omega)
   rw [show u - P + P = u by omega] at a
   have b := tailF_ge (f := f) (s := s) (u := u - P) (d := d) (by omega) (by omega)
   omega
  ·have b := tailF_ge (f := f) (s := s) (u := u) (d := d) h1 (by omega)
   omega
 ·have key : ∀ d : Nat, tailF f s d + D ≤ tailF f s (d + P) := fun d => by
   have : tailF f s d ≤ tailF f s (d + P) - D := tailF_le (fun u h1 h2 => by
    have a := h u h1
    have b := tailF_ge (f := f) (s := s) (u := u + P) (d := d + P) (by omega) (by omega)
    omega)
   omega
  exact key d
theorem most_flat (hP : 0 < P) (hD : D ≤ 0) (h : ∀ t, s ≤ t → f (t + P) = f t + D) {t : Nat} (ht : s + P ≤ t + 1) : mostF f (t + 1 + 1) = mostF f (t + 1) := by
 have a := h (t + 1 - P) (by omega)
 rw [show t + 1 - P + P = t + 1 by omega] at a
 have b := mostF_ge (f := f) (u := t + 1 - P) (n := t + 1) (by omega)
 show max (mostF f (t + 1)) (f (t + 1)) = _
 omega
end
/-- the difference -/
def rawL (cap : Int) (b : Cv) (t : Nat) : Int := if isInf b t then 0 else cap * (t : Int) - cvF b t
def restF (cap : Int) (b : Cv) (t : Nat) : Int := mostF (rawL cap b) (t + 1)
def driftL (cap : Int) (b : Cv) : Int := b.per * cap - b.inc
def restC (cap : Int) (g : Cv) : Cv × Int :=
  if validB g = false then (zcv, 1)
  else if finB (normR g) = true ∧ 0 < driftL cap (normR g) then
    (if tailF (rawL cap (normR g)) (stN (normR g)) (400 - stN (normR g)) < mostF (rawL cap (normR g)) (stN (normR g)) then (zcv, 3) else mbuild (restF cap (normR g)) 400 (normR g).per.toNat (driftL cap (normR g)))
  else mbuild (restF cap (normR g)) (stN (normR g) + (normR g).per.toNat) 1 0
/-- what the reference adds in a period -/
def gainL (cap : Int) (b : Cv) : Int := if finB b = true then max 0 (driftL cap b) else 0
def restQ (cap : Int) (g : Cv) : Cv × Int :=
  if restF cap (normR g) (400 + (normR g).per.toNat) ≠ restF cap (normR g) 400 + gainL cap (normR g) then (zcv, 3)
  else madeR ⟨fvals (restF cap (normR g)) (400 + (normR g).per.toNat), (normR g).per, gainL cap (normR g)⟩
section
variable {cap : Int} {b : Cv}
theorem rawL_le (hc : 0 ≤ cap) (hb : validB b = true) (t : Nat) : rawL cap b t ≤ cap * (t : Int) := by
 have h1 := Int.mul_nonneg hc (show (0 : Int) ≤ (t : Int) by omega)
 have h2 := (cvF_bound hb t).1
 unfold rawL
 split <;> omega
theorem restF_bound (hc : 0 ≤ cap) (hb : validB b = true) (t : Nat) : 0 ≤ restF cap b t ∧ restF cap b t ≤ cap * (t : Int) := by
 refine ⟨mostF_nonneg _, mostF_le (Int.mul_nonneg hc (by omega)) (fun u hu => ?_)⟩
 have h1 := rawL_le hc hb u
 have h2 := Int.mul_le_mul_of_nonneg_left (show (u : Int) ≤ (t : Int) by omega) hc
 omega
theorem raw_shift (hb : validB b = true) (hf : finB b = true) : ∀ t, stN b ≤ t → rawL cap b (t + b.per.toNat) = rawL cap b t + driftL cap b := fun t ht => by
 rcases valid_cases hb with ⟨S1, P1, _, l1, p1, fc1, _⟩ | ⟨_, _, _, _, _, _, _, f⟩
 ·unfold stN at ht
  rw [l1, p1, Int.toNat_natCast] at ht
  unfold rawL driftL
  rw [if_neg (isInf_fin hf _), if_neg (isInf_fin hf _), p1, Int.toNat_natCast, fc1.hg t (by omega)]
  have : cap * ((t + P1 : Nat) : Int) = cap * (t : Int) + (P1 : Int) * cap := by rw [Int.natCast_add, Int.mul_add, Int.mul_comm cap (P1 : Int)]
  omega
 ·rw [hf] at f; cases f
theorem restF_lt (hc : 0 ≤ cap ∧ cap ≤ 4000) (hb : validB b = true) {t : Nat} (ht : t ≤ 10000) : restF cap b t < INF := by
 have h1 := (restF_bound hc.1 hb t).2
 have h2 := mulB (a := cap) (b := (t : Int)) (A := 4000) (B := 10000) (by omega) (by omega)
 unfold INF; omega
theorem rest_flat (hb : validB b = true) (h : ¬ (finB b = true ∧ 0 < driftL cap b)) {t : Nat} (ht : stN b + b.per.toNat ≤ t + 1) : restF cap b (t + 1) = restF cap b t := by
 unfold restF
 obtain ⟨_, _, _, q1, _⟩ := valid_range hb
 by_cases hf : finB b = true
 ·exact most_flat (P := b.per.toNat) (by omega) (show driftL cap b ≤ 0 by
   apply Classical.byContradiction
   intro hh; exact h ⟨hf, by omega⟩) (raw_shift hb hf) ht
 ·have hf' : finB b = false := by simpa using hf
  obtain ⟨n, h1, h2, h3⟩ := inf_at hb hf'
  have e : rawL cap b (t + 1) = 0 := by
   unfold rawL; rw [if_pos ((h2 _).2 (by omega))]
  show max (mostF (rawL cap b) (t + 1)) (rawL cap b (t + 1)) = _
  have := mostF_nonneg (f := rawL cap b) (t + 1)
  omega
theorem rest_rep2 (hc : 0 ≤ cap ∧ cap ≤ 4000) (hb : validB b = true) (h : ¬ (finB b = true ∧ 0 < driftL cap b)) {S : Nat} (hS : stN b + b.per.toNat ≤ S + 1) (hS2 : S ≤ 5000) {P : Nat} (hP : 0 < P ∧ P ≤ 1000) : RepF (restF cap b) S P 0 := by
 refine ⟨hP.1, Int.le_refl _, fun t ht => ?_, fun t => mostF_step _, (restF_bound hc.1 hb 0).1, fun t ht => restF_lt hc hb (by omega)⟩
 have key : ∀ k : Nat, restF cap b (t + k) = restF cap b t := by
  intro k
  induction k with
  | zero => rfl
  | succ k ih =>
   rw [← ih, show t + (k + 1) = t + k + 1 by omega]
   exact rest_flat hb h (by omega)
 rw [key]; omega
theorem rest_rep1 (hc : 0 ≤ cap ∧ cap ≤ 4000) (hb : validB b = true) (hf : finB b = true) (hd : 0 < driftL cap b) (h : ¬ tailF (rawL cap b) (stN b) (400 - stN b) < mostF (rawL cap b) (stN b)) : RepF (restF cap b) 400 b.per.toNat (driftL cap b) := by
 obtain ⟨_, _, q0, q1, q2, _⟩ := valid_range hb
 have hst := stN_lt hb
 refine ⟨by omega, by omega, fun t ht => ?_, fun t => mostF_step _, (restF_bound hc.1 hb 0).1, fun t ht => restF_lt hc hb (by omega)⟩
 unfold restF
 have e1 := most_tail (f := rawL cap b) (s := stN b) (t - stN b)
 have e2 := most_tail (f := rawL cap b) (s := stN b) (t - stN b + b.per.toNat)
 rw [show stN b + (t - stN b) + 1 = t + 1 by omega] at e1
 rw [show stN b + (t - stN b + b.per.toNat) + 1 = t + b.per.toNat + 1 by omega] at e2
 have e3 := tail_shift (s := stN b) (P := b.per.toNat) (by omega) (by omega) (raw_shift (cap := cap) hb hf) (d := t - stN b) (by omega)
 have e4 : tailF (rawL cap b) (stN b) (400 - stN b) ≤ tailF (rawL cap b) (stN b) (t - stN b) := tailF_le (fun u h1 h2 => tailF_ge h1 (by omega))
 omega
end
theorem rest_res {cap : Int} {g : Cv} (hc : 0 ≤ cap ∧ cap ≤ 4000) (hg : validB g = true) : restC cap g = (zcv, 3) ∨ ∃ c, restC cap g = (c, 0) ∧ Nrm c ∧ cvF c = restF cap (normR g) ∧ finB c = true := by
 have hn := (norm_nrm hg).valid
 have hst := stN_lt hn
 unfold restC
 rw [if_neg (by rw [hg]; simp)]
 by_cases h : finB (normR g) = true ∧ 0 < driftL cap (normR g)
 ·rw [if_pos h]
  by_cases h2 : tailF (rawL cap (normR g)) (stN (normR g)) (400 - stN (normR g)) < mostF (rawL cap (normR g)) (stN (normR g))
  ·rw [if_pos h2]; exact .inl rfl
  ·rw [if_neg h2]; exact (rest_rep1 hc hn h.1 h.2 h2).res
 ·rw [if_neg h]
  exact (rest_rep2 hc hn h (by omega) (by omega) ⟨by decide, by decide⟩).res
/-! ### the line itself; what the walk of Rest keeps -/
def lineC (cap : Int) : Cv := ⟨[0], 1, cap⟩
theorem line_facts {cap : Int} (hc : 0 ≤ cap ∧ cap ≤ 1073741824) : Nrm (lineC cap) ∧ cvF (lineC cap) = (fun t : Nat => cap * (t : Int)) ∧ finB (lineC cap) = true ∧ stN (lineC cap) = 0 := by
 have hfc := fc_line (c := cap) hc
 have e0 : fvals (fun t : Nat => cap * (t : Int)) (0 + 1) = [0] := by simp [fvals]
 have hv := hfc.valid'
 rw [e0] at hv
 have hn : normR ⟨[0], 1, cap⟩ = ⟨[0], 1, cap⟩ := by
  obtain ⟨s, p, q, h1, h2, h3, h4, _, h6⟩ := hfc.norm
  have hp := h2.hP
  obtain rfl : s = 0 := by omega
  obtain rfl : p = 1 := by omega
  rw [e0] at h1
  have hq : q = cap := by rw [h6]; simp
  rw [hq] at h1
  exact h1
 have hcv : cvF ⟨[0], 1, cap⟩ = fun t : Nat => cap * (t : Int) := by
  have := cvF_fc hfc
  rw [e0] at this; exact this
 exact ⟨⟨hv, hn⟩, hcv, rfl, rfl⟩
def tailV (f : Nat → Int) (s t : Nat) : Int := if t ≤ s then -INF else tailF f s (t - 1 - s)
def mostV (f : Nat → Int) (s t : Nat) : Int := mostF f (min t s)
theorem tailV_succ {f : Nat → Int} {s t : Nat} (h : s ≤ t) (hb : -INF ≤ f t) : tailV f s (t + 1) = max (tailV f s t) (f t) := by
 unfold tailV
 rw [if_neg (by omega)]
 by_cases e : t = s
 ·subst e
  rw [if_pos (Nat.le_refl _), show t + 1 - 1 - t = 0 by omega]
  show f t = _
  omega
 ·rw [if_neg (by omega)]
  obtain ⟨d, rfl⟩ : ∃ d, t = s + (d + 1) := ⟨t - s - 1, by omega⟩
  rw [show s + (d + 1) + 1 - 1 - s = d + 1 by omega, show s + (d + 1) - 1 - s = d by omega]
  rfl
theorem tailV_low {f : Nat → Int} {s t : Nat} (h : t < s) : tailV f s (t + 1) = tailV f s t := by
 unfold tailV
 rw [if_pos (by omega), if_pos (by omega)]
theorem mostV_succ {f : Nat → Int} {s t : Nat} (h : t < s) : mostV f s (t + 1) = max (mostV f s t) (f t) := by
 unfold mostV
 rw [show min (t + 1) s = t + 1 by omega, show min t s = t by omega]
 rfl
theorem mostV_high {f : Nat → Int} {s t : Nat} (h : s ≤ t) : mostV f s (t + 1) = mostV f s t := by
 unfold mostV
 rw [show min (t + 1) s = s by omega, show min t s = s by omega]
theorem rest_vals {cap : Int} {b : Cv} {s t : Nat} : max (mostV (rawL cap b) s (t + 1)) (tailV (rawL cap b) s (t + 1)) = restF cap b t := by
 unfold restF
 by_cases h : t < s
 ·unfold mostV tailV
  rw [show min (t + 1) s = t + 1 by omega, if_pos (by omega)]
  have := mostF_nonneg (f := rawL cap b) (t + 1)
  unfold INF; omega
 ·have := most_tail (f := rawL cap b) (s := s) (t - s)
  rw [show s + (t - s) + 1 = t + 1 by omega] at this
  unfold mostV tailV
  rw [show min (t + 1) s = s by omega, if_neg (by omega), show t + 1 - 1 - s = t - s by omega]
  exact this.symm
theorem rawL_range {cap : Int} {b : Cv} (hc : 0 ≤ cap ∧ cap ≤ 4000) (hb : validB b = true) {t : Nat} (ht : t ≤ 10000) : -100000000000000 ≤ rawL cap b t ∧ rawL cap b t ≤ 100000000 := by
 have h1 := rawL_le hc.1 hb t
 have h2 := mulB (a := cap) (b := (t : Int)) (A := 4000) (B := 10000) (by omega) (by omega)
 refine ⟨?_, by omega⟩
 unfold rawL
 split
 ·omega
 ·rename_i h
  have := fin_part hb h (show t ≤ 1000000000 by omega)
  omega
theorem mostV_range {cap : Int} {b : Cv} (hc : 0 ≤ cap ∧ cap ≤ 4000) (hb : validB b = true) {s t : Nat} (ht : t ≤ 10000) : 0 ≤ mostV (rawL cap b) s t ∧ mostV (rawL cap b) s t ≤ 100000000 :=
 ⟨mostF_nonneg _, mostF_le (by decide) (fun u hu => (rawL_range hc hb (by omega)).2)⟩
theorem tailV_range {cap : Int} {b : Cv} (hc : 0 ≤ cap ∧ cap ≤ 4000) (hb : validB b = true) {s t : Nat} (ht : t ≤ 10000) : -INF ≤ tailV (rawL cap b) s t ∧ tailV (rawL cap b) s t ≤ 100000000 := by
 unfold tailV
 split
 ·unfold INF; omega
 ·rename_i h
  refine ⟨?_, tailF_le (fun u h1 h2 => (rawL_range hc hb (by omega)).2)⟩
  have h1 := tailF_ge (f := rawL cap b) (s := s) (u := s) (d := t - 1 - s) (Nat.le_refl _) (by omega)
  have h2 := (rawL_range (cap := cap) hc hb (show s ≤ 10000 by omega)).1
  unfold INF; omega
end Go.Proofs.YthpblaoehlgpfaaGreat.M

/- Deficit round robin, plain: greater quanta and packets of others leave less. No condition. -/
namespace Go.Proofs.YthpblaoehlgpfaaGreat.M
open Go Go.Proofs.YthpblaoehlgpfaaGreat.K

end Go.Proofs.YthpblaoehlgpfaaGreat.M

/- Priorities, plain: the curve of a class. No condition. -/
namespace Go.Proofs.YthpblaoehlgpfaaGreat.M
open Go Go.Proofs.YthpblaoehlgpfaaGreat.K

/-- what may block a class -/
def blkF (cls : Int) (z : List Sz) (i : Nat) : Int := (nth (z.drop (cls + 1).toNat) i).most - 1
def blkN (cls : Int) (z : List Sz) : Int := mostF (blkF cls z) (z.length - (cls + 1).toNat)
def allV (ls : List Cv) : Bool := ls.all fun c => validB c
theorem allV_iff {ls : List Cv} : allV ls = true ↔ ∀ c ∈ ls, validB c = true := by unfold allV; rw [List.all_eq_true]
def midC (tot : Cv × Int) (k : Int) : Cv × Int := if tot.2 = 0 then raiseC tot.1 k else tot
def prioC (cap cls : Int) (ls : List Cv) (z : List Sz) : Cv × Int :=
  if chk18 cap cls z ≠ 0 then (zcv, chk18 cap cls z)
  else if ls.length ≠ z.length then (zcv, 2)
  else if allV ls = false then (zcv, 1)
  else if (midC (totalC (ls.take cls.toNat)) (blkN cls z)).2 ≠ 0 then (zcv, (midC (totalC (ls.take cls.toNat)) (blkN cls z)).2)
  else restC cap (midC (totalC (ls.take cls.toNat)) (blkN cls z)).1
theorem chk18_ok {cap cls : Int} {z : List Sz} (h : chk18 cap cls z = 0) : 1 ≤ cap ∧ cap ≤ 4000 ∧ 0 ≤ cls ∧ cls < z.length ∧ z.length ≤ 6 ∧ ∀ s ∈ z, 0 ≤ s.least ∧ s.least ≤ s.most ∧ s.most ≤ 1500 := by
 unfold chk18 at h
 split at h
 ·omega
 ·rename_i h3
  have a2 : zOk z = true := by
   cases hb : zOk z with
   | true => rfl
   | false => exact absurd (.inr (.inr (.inr (.inr (.inl hb))))) h3
  exact ⟨by omega, by omega, by omega, by omega, by omega, zOk_iff.1 a2⟩
theorem blk_range {cls : Int} {z : List Sz} (hz : ∀ s ∈ z, 0 ≤ s.least ∧ s.least ≤ s.most ∧ s.most ≤ 1500) {n : Nat} (hn : n ≤ z.length - (cls + 1).toNat) : 0 ≤ mostF (blkF cls z) n ∧ mostF (blkF cls z) n ≤ 1499 := by
 refine ⟨mostF_nonneg _, mostF_le (by decide) (fun u hu => ?_)⟩
 have hl : u < (z.drop (cls + 1).toNat).length := by rw [List.length_drop]; omega
 have := hz _ (List.mem_of_mem_drop (nth_mem hl))
 unfold blkF; omega
theorem mid_res {l : List Cv} (hl : ∀ c ∈ l, validB c = true) {k : Int} (hk : 0 ≤ k ∧ k ≤ MAXV) : midC (totalC l) k = (zcv, 3) ∨ ∃ c, midC (totalC l) k = (c, 0) ∧ Nrm c := by
 unfold midC
 rcases total_res l zeroC zero_nrm.valid zero_nrm hl with h | ⟨c, h1, h2, _⟩
 ·rw [show totalC l = (zcv, 3) from h, if_neg (by decide)]; exact .inl rfl
 ·rw [show totalC l = (c, 0) from h1, if_pos rfl]
  rcases raise_res h2.valid hk with h | ⟨c', h3, h4, _⟩
  ·exact .inl h
  ·exact .inr ⟨c', h3, h4⟩
end Go.Proofs.YthpblaoehlgpfaaGreat.M

/- Priorities, plain: the curve of a class is what it is served. No condition. -/
namespace Go.Proofs.YthpblaoehlgpfaaGreat.M
open Go Go.Proofs.YthpblaoehlgpfaaGreat.K

instance instCv : Inhabited Cv := ⟨zcv⟩
theorem total_cv : ∀ (l : List Cv) (s c : Cv), validB s = true → finB s = true → (∀ f ∈ l, validB f = true ∧ finB f = true) → totalGo s l = (c, 0) → finB c = true ∧ ∀ t, cvF c t = cvF s t + sumUp (fun i => cvF (nth l i) t) l.length
 | [], s, c, hv, hf, _, h => by
  simp only [totalGo, Prod.mk.injEq, and_true] at h
  subst h
  exact ⟨hf, fun t => by simp [sumUp]⟩
 | f :: l, s, c, hv, hf, hl, h => by
  have hff := hl f (by simp)
  simp only [totalGo] at h
  rcases sum_res hv hff.1 with e | ⟨c1, e1, e2, e3, e4⟩
  ·rw [e, if_pos (by decide)] at h
   have := congrArg Prod.snd h
   simp at this
  ·rw [e1, if_neg (by simp)] at h
   obtain ⟨i1, i2⟩ := total_cv l c1 c e2.valid (e4 hf hff.2) (fun f hf => hl f (by simp [hf])) h
   refine ⟨i1, fun t => ?_⟩
   rw [i2 t, e3, List.length_cons, sumUp_front]
   obtain ⟨_, n1, _, n2, _⟩ := norm_valid hv
   obtain ⟨_, n3, _, n4, _⟩ := norm_valid hff.1
   have e5 : plusF (normR s) (normR f) t = cvF s t + cvF f t := by
    unfold plusF
    rw [if_neg (fun h => h.elim (isInf_fin (by rw [n2]; exact hf) t) (isInf_fin (by rw [n4]; exact hff.2) t)), n1, n3]
   rw [e5]
   show _ = cvF s t + (cvF f t + sumUp (fun i => cvF (nth l i) t) l.length)
   omega
theorem zero_cv (t : Nat) : cvF zeroC t = 0 := by
 have := (line_facts (cap := 0) (by decide)).2.1
 have e : cvF zeroC = fun t : Nat => (0 : Int) * (t : Int) := this
 rw [e]; simp
/-- what is known of a class's curve, if all contracts are finite -/
theorem prio_case {cap cls : Int} {ls : List Cv} {z : List Sz} (h0 : chk18 cap cls z = 0) (hlen : ls.length = z.length) (hl : ∀ f ∈ ls, validB f = true ∧ finB f = true) :
  prioC cap cls ls z = (zcv, 3) ∨ ∃ (G : Nat → Int) (s p : Nat) (q : Int), prioC cap cls ls z = (⟨fvals G (s + p), p, q⟩, 0) ∧ FC G s p q ∧ ∀ u, G u = mostF (fun t : Nat => if t = 0 then 0 else cap * (t : Int) - (sumUp (fun i => cvF (nth ls i) t) cls.toNat + blkN cls z)) (u + 1) := by
 obtain ⟨p1, p2, p3, p4, p5, hz⟩ := chk18_ok h0
 have hav : allV ls = true := allV_iff.2 (fun c hc => (hl c hc).1)
 have hbk := blk_range (cls := cls) hz (Nat.le_refl _)
 have hp : prioC cap cls ls z = if (midC (totalC (ls.take cls.toNat)) (blkN cls z)).2 ≠ 0 then (zcv, (midC (totalC (ls.take cls.toNat)) (blkN cls z)).2) else restC cap (midC (totalC (ls.take cls.toNat)) (blkN cls z)).1 := by
  unfold prioC
  rw [if_neg (fun h => h h0), if_neg (by omega), if_neg (by rw [hav]; decide)]
 have hlt : ∀ f ∈ ls.take cls.toNat, validB f = true ∧ finB f = true := fun f hf => hl f (List.mem_of_mem_take hf)
 have htl : (ls.take cls.toNat).length = cls.toNat := by rw [List.length_take]; omega
 have hnt : ∀ i, i < cls.toNat → nth (ls.take cls.toNat) i = nth ls i := fun i hi => by
  unfold nth List.getD
  rw [List.getElem?_take, if_pos hi]
 rw [hp]
 rcases total_res (ls.take cls.toNat) zeroC zero_nrm.valid zero_nrm (fun f hf => (hlt f hf).1) with e | ⟨c, e, hn, hfc⟩
 ·have e' : midC (totalC (ls.take cls.toNat)) (blkN cls z) = (zcv, 3) := by unfold midC; rw [show totalC (ls.take cls.toNat) = (zcv, 3) from e, if_neg (by decide)]
  rw [e', if_pos (by decide)]; exact .inl rfl
 ·obtain ⟨hcf, hcv⟩ := total_cv (ls.take cls.toNat) zeroC c zero_nrm.valid rfl hlt e
  have e' : midC (totalC (ls.take cls.toNat)) (blkN cls z) = raiseC c (blkN cls z) := by unfold midC; rw [show totalC (ls.take cls.toNat) = (c, 0) from e, if_pos rfl]
  rw [e']
  rcases raise_res hn.valid (k := blkN cls z) (by unfold MAXV blkN; omega) with e2 | ⟨r, e2, hr, hrc, hrf⟩
  ·rw [e2, if_pos (by decide)]; exact .inl rfl
  ·rw [e2, if_neg (by simp)]
   have hrf := hrf hcf
   rcases rest_res (cap := cap) ⟨by omega, p2⟩ hr.valid with e3 | ⟨d, e3, hd, hdc, hdf⟩
   ·exact .inl e3
   ·right
    rcases valid_cases hd.valid with ⟨S, P, f1, f2, f3, f4, _⟩ | ⟨_, _, _, _, _, _, _, f5⟩
    ·refine ⟨cvF d, S, P, d.inc, by rw [e3]; exact congrArg (fun x => (x, (0 : Int))) f1, f4, fun u => ?_⟩
     rw [hdc, hr.norm]
     unfold restF
     have : rawL cap r = fun t : Nat => if t = 0 then 0 else cap * (t : Int) - (sumUp (fun i => cvF (nth ls i) t) cls.toNat + blkN cls z) := funext fun t => by
      unfold rawL
      rw [if_neg (isInf_fin hrf t), hrc, hn.norm]
      by_cases h : t = 0
      ·subst h
       rw [if_pos rfl, show raiseF c (blkN cls z) 0 = 0 from if_pos rfl]; simp
      ·rw [if_neg h]
       have : raiseF c (blkN cls z) t = cvF c t + blkN cls z := by
        unfold raiseF
        rw [if_neg h, if_neg (isInf_fin hcf t)]
       rw [this, hcv t, zero_cv, htl, sumUp_congr (fun i hi => by rw [hnt i hi])]
       omega
     rw [this]
    ·rw [hdf] at f5; cases f5
end Go.Proofs.YthpblaoehlgpfaaGreat.M

/- Small curves that the statements make, plain. No condition. -/
namespace Go.Proofs.YthpblaoehlgpfaaGreat.M
open Go Go.Proofs.YthpblaoehlgpfaaGreat.K

/-- small -/
structure SmallC (c : Cv) : Prop where
  valid : validB c = true
  len : c.vals.length ≤ 40
  per : c.per ≤ 8
  inc : c.inc ≤ 1000
  vals : ∀ x ∈ c.vals, x = INF ∨ x ≤ 1000
/-- longer, with a period so often -/
theorem longer_grows {F : Nat → Int} {S P : Nat} {I : Int} (h : Grows F S P I) (more times : Nat) : Grows F (S + more) (P * times) (I * (times : Int)) := fun t ht => by
 have := h.mul times t (by omega)
 rw [Nat.mul_comm P times, Int.mul_comm I]
 exact this
/-- values that are made one by one -/
def upV (xs : List Int) (c : Nat) (v : Int) : Nat → Int
  | 0 => v
  | i + 1 => upV xs c v i + nth ([0, 0, 1, 2, 5, 9] : List Int) (mod (nth xs (c + i)) ((6 : Nat) : Int)).toNat
theorem nth_in {l : List Int} {k : Nat} {lo hi : Int} (h : ∀ x ∈ l, lo ≤ x ∧ x ≤ hi) (hk : k < l.length) : lo ≤ nth l k ∧ nth l k ≤ hi := h _ (nth_mem hk)
theorem upV_step (xs : List Int) (c : Nat) (v : Int) (i : Nat) : upV xs c v i ≤ upV xs c v (i + 1) ∧ upV xs c v (i + 1) ≤ upV xs c v i + 9 := by
 have hm := mod_range (nth xs (c + i)) (show (1 : Int) ≤ ((6 : Nat) : Int) by decide)
 have := nth_in (l := [0, 0, 1, 2, 5, 9]) (k := (mod (nth xs (c + i)) ((6 : Nat) : Int)).toNat) (lo := 0) (hi := 9) (by decide) (by simp only [List.length_cons, List.length_nil]; omega)
 simp only [upV]
 omega
theorem upV_mono (xs : List Int) (c : Nat) (v : Int) {i j : Nat} (h : i ≤ j) : upV xs c v i ≤ upV xs c v j := mono_le (fun t => (upV_step xs c v t).1) h
theorem upV_bound (xs : List Int) (c : Nat) (v : Int) : ∀ i, v ≤ upV xs c v i ∧ upV xs c v i ≤ v + 9 * (i : Int)
 | 0 => ⟨Int.le_refl _, by simp [upV]⟩
 | i + 1 => by
  have h1 := upV_bound xs c v i
  have h2 := upV_step xs c v i
  omega
theorem upV_gap (xs : List Int) (c : Nat) (v : Int) (i : Nat) : ∀ d, upV xs c v (i + d) ≤ upV xs c v i + 9 * (d : Int)
 | 0 => by simp
 | d + 1 => by
  have h1 := upV_gap xs c v i d
  have h2 := upV_step xs c v (i + d)
  rw [← Nat.add_assoc]
  omega
/-- a list that goes up, with a period and what it gains -/
theorem small_fin {F : Nat → Int} {n : Nat} {P I : Int} (hn : 1 ≤ n ∧ n ≤ 20) (hP : 1 ≤ P ∧ P ≤ 4 ∧ P ≤ n) (hI : I ≤ 400) (h0 : 0 ≤ F 0) (hm : ∀ t, F t ≤ F (t + 1)) (hb : ∀ t, t < n → F t ≤ 200) (hg : F (n - 1) - F (n - P.toNat) ≤ I) : SmallC ⟨fvals F n, P, I⟩ := by
 have hmn : ∀ {i j : Nat}, i ≤ j → F i ≤ F j := fun h => mono_le hm h
 have h2 := hmn (show n - P.toNat ≤ n - 1 by omega)
 have hne : F (n - 1) ≠ INF := by have := hb (n - 1) (by omega); unfold INF; omega
 refine ⟨validB_iff.2 ?_, by dsimp only; rw [fvals_len]; omega, by dsimp only; omega, by dsimp only; omega, all_of_nth (fun j hj => ?_)⟩
 ·dsimp only
  rw [fvals_len]
  refine ⟨⟨by omega, by omega, by omega, by omega, by omega, by omega, by unfold MAXV; omega⟩, fun i hi => ?_, ?_⟩
  ·rw [fvals_nth F hi]
   have a := hb i hi
   have b := hmn (Nat.zero_le i)
   refine ⟨.inr ⟨by omega, by unfold MAXV; omega⟩, ?_⟩
   by_cases hi0 : i = 0
   ·exact .inl hi0
   ·rw [fvals_nth F (by omega)]; exact .inr (hmn (by omega))
  ·rw [fvals_nth F (by omega), if_neg hne, fvals_nth F (by omega)]; omega
 ·rw [fvals_len] at hj
  rw [fvals_nth F hj]
  have := hb j hj
  exact .inr (by omega)
theorem small_inf {F : Nat → Int} {n : Nat} (hn : n ≤ 20) (h0 : 0 ≤ F 0) (hm : ∀ t, F t ≤ F (t + 1)) (hb : ∀ t, t < n → F t ≤ 200) : SmallC ⟨fvals F n ++ [INF], 1, 0⟩ := by
 have hmn : ∀ {i j : Nat}, i ≤ j → F i ≤ F j := fun h => mono_le hm h
 have hl : (fvals F n ++ [INF]).length = n + 1 := by simp [fvals_len]
 have e1 : ∀ i, i < n → nth (fvals F n ++ [INF]) i = F i := fun i hi => by
  unfold nth List.getD
  rw [List.getElem?_append_left (by rw [fvals_len]; exact hi)]
  exact fvals_nth F hi
 have e2 : nth (fvals F n ++ [INF]) n = INF := by
  unfold nth List.getD
  rw [List.getElem?_append_right (by rw [fvals_len]; omega), fvals_len]; simp
 refine ⟨validB_iff.2 ?_, by dsimp only; rw [hl]; omega, by dsimp only; omega, by dsimp only; omega, all_of_nth (fun j hj => ?_)⟩
 ·dsimp only
  rw [hl]
  refine ⟨⟨by omega, by omega, by omega, by omega, by omega, by omega, by unfold MAXV; omega⟩, fun i hi => ?_, ?_⟩
  ·by_cases hi2 : i < n
   ·rw [e1 i hi2]
    have a := hb i hi2
    have b := hmn (Nat.zero_le i)
    refine ⟨.inr ⟨by omega, by unfold MAXV; omega⟩, ?_⟩
    by_cases hi0 : i = 0
    ·exact .inl hi0
    ·rw [e1 (i - 1) (by omega)]; exact .inr (hmn (by omega))
   ·obtain rfl : i = n := by omega
    rw [e2]
    refine ⟨.inl rfl, ?_⟩
    by_cases hi0 : i = 0
    ·exact .inl hi0
    ·rw [e1 (i - 1) (by omega)]
     have := hb (i - 1) (by omega)
     exact .inr (by unfold INF; omega)
  ·rw [show n + 1 - 1 = n by omega, e2, if_pos rfl]; exact ⟨rfl, rfl⟩
 ·rw [hl] at hj
  by_cases hj2 : j < n
  ·rw [e1 j hj2]; have := hb j hj2; exact .inr (by omega)
  ·obtain rfl : j = n := by omega
   exact .inl e2
/-- a curve longer than a small one -/
theorem small_longer {F : Nat → Int} {S P more times : Nat} {I : Int} (h : FC F S P I) (hn : S + P ≤ 20) (hP : P ≤ 4) (hI : I ≤ 50) (hb : ∀ t, t < S + P → F t ≤ 200) (hm : more ≤ 3) (ht : 1 ≤ times ∧ times ≤ 2) : SmallC ⟨fvals F (S + more + P * times), ((P * times : Nat) : Int), I * (times : Int)⟩ := by
 have hP0 := h.hP
 have hI0 := h.hI
 have e1 : P * times ≤ 2 * P := by have := Nat.mul_le_mul_left P ht.2; omega
 have e0 : P ≤ P * times := by have := Nat.mul_le_mul_left P ht.1; omega
 have e2 : I * (times : Int) ≤ 800 ∧ 0 ≤ I * (times : Int) := by
  rcases (show times = 1 ∨ times = 2 by omega) with rfl | rfl <;> omega
 have hb2 : ∀ t, t < S + more + P * times → F t ≤ 1000 := fun t ht2 => by
  by_cases h1 : t < S + P
  ·have := hb t h1; omega
  ·have h3 := h.hg.mul 4 (S + P - 1) (by omega)
   have h5 := hb (S + P - 1) (by omega)
   have h6 : t ≤ S + P - 1 + 4 * P := by omega
   have h7 := h.mono h6
   omega
 have hfc : FC F (S + more) (P * times) (I * (times : Int)) := ⟨by omega, by omega, by omega, longer_grows h.hg more times, h.hm, h.h0, fun t ht => by have := hb2 t ht; omega⟩
 refine ⟨hfc.valid', by dsimp only; rw [fvals_len]; omega, by dsimp only; omega, by dsimp only; omega, all_of_nth (fun j hj => ?_)⟩
 rw [fvals_len] at hj
 rw [fvals_nth F hj]
 exact .inr (hb2 j hj)
/-- the curve that stands for one that is not finite -/
theorem small_lit {m k : Int} (hm : 0 ≤ m ∧ m < 5) (hk : 0 ≤ k ∧ k < 2) : SmallC ⟨[0, 4, 4 + m], 1 + k, 8⟩ ∧ finB ⟨[0, 4, 4 + m], 1 + k, 8⟩ = true := by
 have h1 : m = 0 ∨ m = 1 ∨ m = 2 ∨ m = 3 ∨ m = 4 := by omega
 have h2 : k = 0 ∨ k = 1 := by omega
 rcases h1 with rfl | rfl | rfl | rfl | rfl <;> rcases h2 with rfl | rfl <;> exact ⟨⟨by decide, by decide, by decide, by decide, by decide⟩, by decide⟩
/-- a finite curve less its first value -/
theorem small_sub {c : Cv} (h : SmallC c) (hf : finB c = true) {zs : List Int} (hl : zs.length = c.vals.length) (hz : ∀ j, j < c.vals.length → nth zs j = nth c.vals j - nth c.vals 0) : SmallC ⟨zs, c.per, c.inc⟩ ∧ finB ⟨zs, c.per, c.inc⟩ = true ∧ nth zs 0 = 0 := by
 have hv := h.valid
 have hr := valid_range hv
 obtain ⟨⟨q1, q2, q3, q4, q5, q6, q7⟩, q8, q9⟩ := validB_iff.1 hv
 have hlast : nth c.vals (c.vals.length - 1) ≠ INF := by unfold finB at hf; rwa [bne_iff_ne] at hf
 have hle : ∀ j, j < c.vals.length → nth c.vals j ≠ INF := fun j hj => by
  have h1 := valid_mono hv (show j ≤ c.vals.length - 1 by omega) (by omega)
  have h2 := (q8 (c.vals.length - 1) (by omega)).1
  unfold INF MAXV at *
  omega
 have h0 := (q8 0 (by omega)).1.resolve_left (hle 0 (by omega))
 rw [if_neg hlast] at q9
 have hbd : ∀ j, j < c.vals.length → nth c.vals 0 ≤ nth c.vals j ∧ nth c.vals j ≤ 1000 := fun j hj => ⟨valid_mono hv (Nat.zero_le _) hj, (h.vals _ (nth_mem hj)).resolve_left (hle j hj)⟩
 have hfin : finB ⟨zs, c.per, c.inc⟩ = true := by
  unfold finB
  dsimp only
  rw [hl, hz _ (by omega), bne_iff_ne]
  have := hbd (c.vals.length - 1) (by omega)
  unfold INF; omega
 refine ⟨⟨validB_iff.2 ⟨by dsimp only; rw [hl]; exact ⟨q1, q2, q3, q4, q5, q6, q7⟩, fun i hi => ?_, ?_⟩, by dsimp only; rw [hl]; exact h.len, h.per, h.inc, all_of_nth (fun j hj => ?_)⟩, hfin, by rw [hz 0 (by omega)]; omega⟩
 ·dsimp only at hi ⊢
  rw [hl] at hi
  rw [hz i hi]
  have := hbd i hi
  refine ⟨.inr ⟨by omega, by unfold MAXV; omega⟩, ?_⟩
  by_cases hi0 : i = 0
  ·exact .inl hi0
  ·rw [hz (i - 1) (by omega)]
   have := valid_mono hv (show i - 1 ≤ i by omega) hi
   exact .inr (by omega)
 ·dsimp only
  rw [hl, hz _ (by omega), if_neg (by have := hbd (c.vals.length - 1) (by omega); unfold INF; omega), hz _ (by omega)]
  omega
 ·rw [hl] at hj
  rw [hz j hj]
  have := hbd j hj
  exact .inr (by omega)
end Go.Proofs.YthpblaoehlgpfaaGreat.M

/- Sums of small curves, plain. No condition. -/
namespace Go.Proofs.YthpblaoehlgpfaaGreat.M
open Go Go.Proofs.YthpblaoehlgpfaaGreat.K

/-- the normal form of a small finite curve -/
theorem small_norm {c : Cv} (h : SmallC c) (hf : finB c = true) : validB (normR c) = true ∧ finB (normR c) = true ∧ cvF (normR c) = cvF c ∧ (normR c).vals.length ≤ 40 ∧ 1 ≤ (normR c).per ∧ (normR c).per ≤ 8 ∧ 0 ≤ (normR c).inc ∧ (normR c).inc ≤ 2000 ∧ ∀ t, t < 110 → cvF c t ≤ 1000000 := by
 obtain ⟨n1, n2, n3, n4, n5⟩ := norm_valid h.valid
 obtain ⟨_, r1, r2, r3, r4, r5, r6, r7⟩ := valid_range n1
 rcases valid_cases h.valid with ⟨S, P, e, hl, hp, hfc, _⟩ | ⟨_, _, _, _, _, _, _, hff⟩
 ·have hP := hfc.hP
  have hlen := h.len
  have hper := h.per
  have hinc := h.inc
  obtain ⟨s, p, e1, e2, hs, hp2⟩ := n5 S P hl hp
  have hv : ∀ t, t < S + P → cvF c t ≤ 1000 := fun t ht => by
   have h1 := h.vals (nth c.vals t) (nth_mem (by omega))
   rw [e, fvals_nth _ ht] at h1
   have h2 := hfc.hb t ht
   unfold INF at h1; omega
  have hv2 : ∀ k : Nat, cvF c (S + P - 1 + k * P) ≤ 1000 + (k : Int) * 1000 := fun k => by
   have h1 := hfc.hg.mul k (S + P - 1) (by omega)
   rw [h1]
   have h2 := hv (S + P - 1) (by omega)
   have h3 : (k : Int) * c.inc ≤ (k : Int) * 1000 := Int.mul_le_mul_of_nonneg_left hinc (by omega)
   omega
  rcases valid_cases n1 with ⟨S', P', e', hl', hp', hfc', _⟩ | ⟨_, _, _, _, _, _, _, hff⟩
  ·rw [n2] at hfc'
   have hg := hfc'.hg S' (Nat.le_refl _)
   have h0 := hfc.nonneg S'
   have h1 := hfc.mono (show S' + P' ≤ S + P - 1 + 1 * P by omega)
   have h2 := hv2 1
   refine ⟨n1, n4 ▸ hf, n2, by omega, r3, by omega, r6, by omega, fun t ht => ?_⟩
   have h3 := hfc.mono (show t ≤ S + P - 1 + 110 * P by omega)
   have h4 := hv2 110
   omega
  ·rw [n4, hf] at hff; cases hff
 ·rw [hf] at hff; cases hff
theorem fin_bound {c : Cv} (h : validB c = true) (hf : finB c = true) (t : Nat) : cvF c t ≤ 1073741824 * ((t : Int) + 2) := by
 rcases valid_cases h with ⟨_, _, _, _, _, hfc, _⟩ | ⟨_, _, _, _, _, _, _, hff⟩
 ·exact hfc.bound t
 ·rw [hf] at hff; cases hff
/-- the sum of two of them -/
theorem small_sum {c d : Cv} (hc : SmallC c) (fc : finB c = true) (hd : SmallC d) (fd : finB d = true) :
  lcmC (normR c) (normR d) ≤ 64 ∧ 1 ≤ lcmC (normR c) (normR d) ∧
  (∀ t, plusF (normR c) (normR d) t = cvF c t + cvF d t) ∧
  RepF (plusF (normR c) (normR d)) (max (normR c).vals.length (normR d).vals.length) (lcmC (normR c) (normR d)) (gainC (normR c) (lcmC (normR c) (normR d)) + gainC (normR d) (lcmC (normR c) (normR d))) ∧
  gainC (normR c) (lcmC (normR c) (normR d)) + gainC (normR d) (lcmC (normR c) (normR d)) ≤ 1000000 ∧
  ∀ t, cvF c t + cvF d t ≤ 1073741824 * ((t : Int) + 2) * 2 := by
 obtain ⟨a1, a2, a3, a4, a5, a6, a7, a8, a9⟩ := small_norm hc fc
 obtain ⟨b1, b2, b3, b4, b5, b6, b7, b8, b9⟩ := small_norm hd fd
 have s1 := stN_lt a1
 have s2 := stN_lt b1
 obtain ⟨l1, l2, l3, l4⟩ := lcmN_facts (a := (normR c).per.toNat) (b := (normR d).per.toNat) (by omega) (by omega)
 have hL : lcmC (normR c) (normR d) ≤ 64 := by
  have : (normR c).per.toNat * (normR d).per.toNat ≤ 8 * 8 := Nat.mul_le_mul (by omega) (by omega)
  unfold lcmC; omega
 have hg : ∀ {x : Cv}, 1 ≤ x.per → 0 ≤ x.inc → x.inc ≤ 2000 → ∀ L : Nat, L ≤ 64 → gainC x L ≤ 64 * 2000 := fun {x} h1 h2 h3 L h4 => by
  unfold gainC
  have h5 : (L : Int) / x.per ≤ L := Int.ediv_le_self _ (by omega)
  have h6 : 0 ≤ (L : Int) / x.per := Int.ediv_nonneg (by omega) (by omega)
  exact Int.mul_le_mul (by omega) h3 h2 (by omega)
 have g1 := hg a5 a7 a8 _ hL
 have g2 := hg b5 b7 b8 _ hL
 refine ⟨hL, l4, fun t => ?_, plus_fin a1 b1 a2 b2 (by omega) (S := max (normR c).vals.length (normR d).vals.length) ⟨by omega, by omega⟩ (by omega), by omega, fun t => ?_⟩
 ·unfold plusF
  rw [if_neg (fun h => h.elim (isInf_fin a2 t) (isInf_fin b2 t)), a3, b3]
 ·have h1 := fin_bound hc.valid fc t
  have h2 := fin_bound hd.valid fd t
  omega
theorem small_made {c d : Cv} (hc : SmallC c) (fc : finB c = true) (hd : SmallC d) (fd : finB d = true) :
  MadeOk (fvals (plusF (normR c) (normR d)) (max (normR c).vals.length (normR d).vals.length + lcmC (normR c) (normR d))) (lcmC (normR c) (normR d)) (gainC (normR c) (lcmC (normR c) (normR d)) + gainC (normR d) (lcmC (normR c) (normR d))) ∧
  (∃ (s p : Nat) (q : Int), madeR ⟨fvals (plusF (normR c) (normR d)) (max (normR c).vals.length (normR d).vals.length + lcmC (normR c) (normR d)), (lcmC (normR c) (normR d) : Int), gainC (normR c) (lcmC (normR c) (normR d)) + gainC (normR d) (lcmC (normR c) (normR d))⟩ = (⟨fvals (plusF (normR c) (normR d)) (s + p), p, q⟩, 0) ∧ FC (plusF (normR c) (normR d)) s p q) ∧
  ∀ t : Nat, t < 1000 → plusF (normR c) (normR d) t = (if cvF (normR c) t = INF ∨ cvF (normR d) t = INF then INF else cvF (normR c) t + cvF (normR d) t) ∧ (0 ≤ cvF (normR c) t ∧ cvF (normR c) t ≤ 2000000000000000000) ∧ (0 ≤ cvF (normR d) t ∧ cvF (normR d) t ≤ 2000000000000000000) := by
 obtain ⟨hL64, hL1, hpl, hrep, hgb, hbd⟩ := small_sum hc fc hd fd
 obtain ⟨a1, a2, a3, a4, a5, a6, a7, a8, a9⟩ := small_norm hc fc
 obtain ⟨b1, b2, b3, b4, b5, b6, b7, b8, b9⟩ := small_norm hd fd
 have hpt : ∀ t : Nat, t < 1000 → plusF (normR c) (normR d) t = (if cvF (normR c) t = INF ∨ cvF (normR d) t = INF then INF else cvF (normR c) t + cvF (normR d) t) ∧ (0 ≤ cvF (normR c) t ∧ cvF (normR c) t ≤ 2000000000000000000) ∧ (0 ≤ cvF (normR d) t ∧ cvF (normR d) t ≤ 2000000000000000000) := fun t ht => by
  have h1 := fin_bound hc.valid fc t
  have h2 := fin_bound hd.valid fd t
  have h3 := (cvF_bound hc.valid t).1
  have h4 := (cvF_bound hd.valid t).1
  have h5 := hpl t
  rw [a3, b3, if_neg (by unfold INF; omega)]
  exact ⟨h5, ⟨h3, by omega⟩, h4, by omega⟩
 generalize plusF (normR c) (normR d) = PF at *
 generalize gainC (normR c) (lcmC (normR c) (normR d)) + gainC (normR d) (lcmC (normR c) (normR d)) = G at *
 generalize lcmC (normR c) (normR d) = L at *
 generalize hMe : max (normR c).vals.length (normR d).vals.length = M at *
 have hM : M ≤ 40 := by omega
 have hnn : ∀ t, 0 ≤ PF t := fun t => by have := mono_le hrep.hm (Nat.zero_le t); have := hrep.h0; omega
 refine ⟨madeOk_fin (by omega) (by omega) ⟨hrep.hI, by omega⟩ hrep.hg (fun t ht => ⟨hnn t, by have := hbd t; have := hpl t; omega⟩), ?_, hpt⟩
 obtain ⟨s, p, q, e, hfc, _, _⟩ := build_ok (F := PF) (S := M) (P := L) (I := G) (by omega) ⟨hrep.hI, by omega⟩ (by omega) hrep.hg hrep.hm hrep.h0 (fun t ht => by have := hpl t; have := a9 t (by omega); have := b9 t (by omega); omega)
 refine ⟨s, p, q, ?_, hfc⟩
 rw [← e]
 exact (build_made_fin hrep.hP hrep.hI hrep.hg hrep.hP hrep.hI hrep.hg hrep.hm hrep.h0 hrep.hf hrep.hf).symm
end Go.Proofs.YthpblaoehlgpfaaGreat.M

/- What one valid curve leaves of another one behind a theta, plain: the program and the reference make the same. No condition. -/
namespace Go.Proofs.YthpblaoehlgpfaaGreat.M
open Go Go.Proofs.YthpblaoehlgpfaaGreat.K

/-- the least of n values from a place on, as the program looks for it -/
def leastG (f : Nat → Int) (a : Nat) : Nat → Int
  | 0 => 4611686018427387904
  | n + 1 => min (leastG f a n) (f (a + n))
/-- the least from s to s + d -/
def minF (f : Nat → Int) (s : Nat) : Nat → Int
  | 0 => f s
  | d + 1 => min (minF f s d) (f (s + (d + 1)))
section
variable {f : Nat → Int} {s a : Nat} {D : Int}
end
/-! ### the differences -/
def rawG (b o : Cv) (th u : Nat) : Int := if isInf o (u - th) then 0 else if isInf b u then INF else cvF b u - cvF o (u - th)
def driftG (b o : Cv) : Int := gainC b (lcmC b o) - gainC o (lcmC b o)
def frG (b o : Cv) (th : Nat) : Nat := max (max (stN b) (stN o + th)) (th + 1)
def hG (b o : Cv) (th u : Nat) : Int := if u ≤ th then 0 else max 0 (minF (rawG b o th) u (max (frG b o th) u - u + (lcmC b o - 1)))
section
variable {b o : Cv} {th : Nat}
theorem lcm_pos (hb : validB b = true) (ho : validB o = true) : 0 < lcmC b o := by
 obtain ⟨_, _, _, q1, _⟩ := valid_range hb
 obtain ⟨_, _, _, q2, _⟩ := valid_range ho
 exact (lcm_mod (by omega) (by omega)).2.2
theorem gain_grows (hb : validB b = true) (fb : finB b = true) {L : Nat} (hL : L % b.per.toNat = 0) : Grows (cvF b) (stN b) L (gainC b L) := by
 rcases valid_cases hb with ⟨S1, P1, _, l1, p1, fc1, _⟩ | ⟨_, _, _, _, _, _, _, f⟩
 ·have hP1 := fc1.hP
  have hs : stN b = S1 := by unfold stN; rw [l1, p1, Int.toNat_natCast]; omega
  rw [p1, Int.toNat_natCast] at hL
  unfold gainC
  rw [hs, p1]
  exact grows_gain (by omega) fc1.hg hL
 ·rw [fb] at f; cases f
/-- the differences do not fall over a common period -/
def UpG (b o : Cv) : Prop := finB o = true ∧ (finB b = true → 0 ≤ driftG b o)
/-! ### what Rest makes -/
def flatB (b o : Cv) (th : Nat) : Prop := finB o = false ∨ (finB b = true ∧ (driftG b o < 0 ∨ (driftG b o = 0 ∧ minF (rawG b o th) (frG b o th) (lcmC b o - 1) ≤ 0)))
instance (b o : Cv) (th : Nat) : Decidable (flatB b o th) := by unfold flatB; infer_instance
def shareN (b o : Cv) (th : Nat) : Cv × Int :=
  if 120 < lcmC b o then (zcv, 3)
  else if flatB b o th then (zeroC, 0)
  else if 400 ≤ th then (zcv, 3)
  else if finB b = true ∧ 0 < driftG b o then
    (if minF (rawG b o th) (max (frG b o th) 400) (lcmC b o - 1) < 0 then (zcv, 3) else mbuild (hG b o th) (max (frG b o th) 400) (lcmC b o) (driftG b o))
  else mbuild (hG b o th) (frG b o th) 1 0
/-! ### what the reference makes -/
def leftG (b o : Cv) (th u : Nat) : Int := if u ≤ th then 0 else max 0 (rawG b o th u)
def bothB (b o : Cv) : Prop := finB b = true ∧ finB o = true
instance (b o : Cv) : Decidable (bothB b o) := by unfold bothB; infer_instance
def flatQ (b o : Cv) (th : Nat) : Prop := (bothB b o ∧ driftG b o < 0) ∨ finB o = false ∨ (bothB b o ∧ driftG b o = 0 ∧ minF (leftG b o th) (th + 400) (lcmC b o - 1) = 0)
instance (b o : Cv) (th : Nat) : Decidable (flatQ b o th) := by unfold flatQ; infer_instance
def incQ (b o : Cv) : Int := if bothB b o then driftG b o else 0
def shareQ (b o : Cv) (th : Nat) : Cv × Int :=
  if 120 < lcmC b o then (zcv, 3)
  else if flatQ b o th then (zeroC, 0)
  else if 400 ≤ th then (zcv, 3)
  else if bothB b o ∧ 0 < driftG b o ∧ minF (rawG b o th) (th + 400) (lcmC b o - 1) < 0 then (zcv, 3)
  else madeR ⟨fvals (hG b o th) (th + 400 + lcmC b o), lcmC b o, incQ b o⟩
end
end Go.Proofs.YthpblaoehlgpfaaGreat.M

/- Delays and backlogs of any two valid curves, plain: the program and the reference find the same. No condition. -/
namespace Go.Proofs.YthpblaoehlgpfaaGreat.M
open Go Go.Proofs.YthpblaoehlgpfaaGreat.K

/-- the least tick with so much, as the program looks for it -/
def reachG (c : Cv) (v : Int) : Int × Bool :=
  if findFrom (fun t => decide (cvF c t ≥ v)) c.vals.length 0 ≠ -1 then (findFrom (fun t => decide (cvF c t ≥ v)) c.vals.length 0, true)
  else if v = INF ∨ c.inc = 0 then (0, false)
  else (findFrom (fun t => decide (cvF c t ≥ v)) (c.per.toNat + 1) (c.vals.length + (((v - cvF c (c.vals.length - 1) + c.inc - 1) / c.inc).toNat - 1) * c.per.toNat), true)
structure IsFirst (F : Nat → Int) (v : Int) (r : Int × Bool) : Prop where
  yes : r.2 = true → ∃ t : Nat, r.1 = t ∧ v ≤ F t ∧ ∀ j, j < t → F j < v
  no : r.2 = false → r.1 = 0 ∧ ∀ t, F t < v
theorem reachG_F {c : Cv} {S P : Nat} (hl : c.vals.length = S + P) (hp : c.per = P) {v : Int} (hv : v ≠ INF) : reachG c v = reachF (cvF c) S P c.inc v := by
 have e : (v = INF ∨ c.inc = 0) ↔ c.inc = 0 := ⟨fun h => h.resolve_left hv, .inr⟩
 unfold reachG reachF
 rw [hl, hp, Int.toNat_natCast]
 simp only [e]
theorem reachG_fin {c : Cv} (hv : validB c = true) (hf : finB c = true) {v : Int} (h : v ≠ INF) : IsFirst (cvF c) v (reachG c v) := by
 rcases valid_cases hv with ⟨S, P, _, hl, hp, hfc, _⟩ | ⟨_, _, _, _, _, _, _, f⟩
 ·rw [reachG_F hl hp h]
  have hP := hfc.hP
  unfold reachF
  rcases findFrom_cases (fun t => decide (cvF c t ≥ v)) (S + P) 0 with ⟨i, h1, h2, h3, h4, h5⟩ | ⟨h1, h2⟩
  ·rw [h3, if_pos (by omega)]
   exact ⟨fun _ => ⟨i, rfl, of_decide_eq_true h4, fun j hj => by have := of_decide_eq_false (h5 j (Nat.zero_le _) hj); omega⟩, fun hh => by cases hh⟩
  ·have hlow : ∀ j, j < S + P → cvF c j < v := fun j hj => by have := of_decide_eq_false (h2 j (Nat.zero_le _) (by omega)); omega
   rw [h1, if_neg (fun hh => hh rfl)]
   by_cases hI : c.inc = 0
   ·rw [if_pos hI]
    refine ⟨fun hh => (by cases hh), fun _ => ⟨rfl, fun t => ?_⟩⟩
    induction t using Nat.strongRecOn with
    | _ t ih =>
     by_cases ht : t < S + P
     ·exact hlow t ht
     ·have a := ih (t - P) (by omega)
      have b := hfc.hg (t - P) (by omega)
      rw [show t - P + P = t by omega, hI] at b
      omega
   ·rw [if_neg hI]
    obtain ⟨g1, g2, g3, g4⟩ := reach_facts hfc hI (hlow (S + P - 1) (by omega))
    rcases findFrom_cases (fun t => decide (cvF c t ≥ v)) (P + 1) (S + P + (((v - cvF c (S + P - 1) + c.inc - 1) / c.inc).toNat - 1) * P) with ⟨i, k1, k2, k3, k4, k5⟩ | ⟨k1, k2⟩
    ·rw [k3]
     refine ⟨fun _ => ⟨i, rfl, of_decide_eq_true k4, fun j hj => ?_⟩, fun hh => by cases hh⟩
     obtain ⟨k, hk⟩ := Int.eq_ofNat_of_zero_le (show 0 ≤ (v - cvF c (S + P - 1) + c.inc - 1) / c.inc by omega)
     rw [hk] at g1 g2
     rw [hk, Int.toNat_natCast] at k5
     by_cases hj2 : j < S + P + (k - 1) * P
     ·have a := hfc.mono (show j ≤ S + P - 1 + (k - 1) * P by omega)
      have b := hfc.hg.mul (k - 1) (S + P - 1) (by omega)
      have e : ((k - 1 : Nat) : Int) * c.inc = (k : Int) * c.inc - c.inc := by
       rw [show ((k - 1 : Nat) : Int) = (k : Int) - 1 by omega, Int.sub_mul]; simp
      rw [e] at b
      omega
     ·have := of_decide_eq_false (k5 j (by omega) hj); omega
    ·have := of_decide_eq_false (k2 (S + P + (((v - cvF c (S + P - 1) + c.inc - 1) / c.inc).toNat - 1) * P + (P - 1)) (by omega) (by omega))
     omega
 ·rw [hf] at f; cases f
theorem reachG_inf {c : Cv} (hv : validB c = true) (hf : finB c = false) {v : Int} (h : v ≤ INF) : IsFirst (cvF c) v (reachG c v) ∧ (reachG c v).2 = true ∧ (reachG c v).1 ≤ stN c := by
 obtain ⟨n, h1, h2, h3⟩ := inf_at hv hf
 have hs := stN_lt hv
 unfold reachG
 rcases findFrom_cases (fun t => decide (cvF c t ≥ v)) c.vals.length 0 with ⟨i, k1, k2, k3, k4, k5⟩ | ⟨k1, k2⟩
 ·have hin : i ≤ n := by
   apply Classical.byContradiction
   intro hh
   have := of_decide_eq_false (k5 n (Nat.zero_le _) (by omega))
   rw [h3.hi n (Nat.le_refl _)] at this
   omega
  rw [k3, if_pos (by omega)]
  exact ⟨⟨fun _ => ⟨i, rfl, of_decide_eq_true k4, fun j hj => by have := of_decide_eq_false (k5 j (Nat.zero_le _) hj); omega⟩, fun hh => by cases hh⟩, rfl, by dsimp only; omega⟩
 ·have := of_decide_eq_false (k2 n (Nat.zero_le _) (by omega))
  rw [h3.hi n (Nat.le_refl _)] at this
  omega
theorem reachG_none {c : Cv} (hv : validB c = true) (hf : finB c = true) : reachG c INF = (0, false) := by
 rcases valid_cases hv with ⟨S, P, _, hl, hp, hfc, _⟩ | ⟨_, _, _, _, _, _, _, f⟩
 ·unfold reachG
  rw [show findFrom (fun t => decide (cvF c t ≥ INF)) c.vals.length 0 = -1 from findFrom_none (fun j _ hj => decide_eq_false (by have := hfc.hb j (by omega); unfold INF; omega)), if_neg (fun hh => hh rfl), if_pos (.inl rfl)]
 ·rw [hf] at f; cases f
theorem reachG_bound {c : Cv} (hv : validB c = true) {v : Int} (h : v = INF ∨ (0 ≤ v ∧ v ≤ 1000000000000000)) : -1 ≤ (reachG c v).1 ∧ (reachG c v).1 ≤ 200000000000000000 := by
 cases hf : finB c with
 | false =>
  obtain ⟨h1, h2, h3⟩ := reachG_inf hv hf (v := v) (by unfold INF at *; omega)
  obtain ⟨t, e, _⟩ := h1.yes h2
  have := stN_lt hv
  omega
 | true =>
  rcases h with rfl | h
  ·rw [reachG_none hv hf]; decide
  ·rcases valid_cases hv with ⟨S, P, _, hl, hp, hfc, _⟩ | ⟨_, _, _, _, _, _, _, f⟩
   ·rw [reachG_F hl hp (by unfold INF; omega)]
    exact reach_bound hfc h
   ·rw [hf] at f; cases f
/-! ### the greatest distance -/
/-! ### delays, backlogs -/
def loose (a b : Cv) : Prop := finB b = true ∧ (finB a = false ∨ gainC b (lcmC a b) < gainC a (lcmC a b))
instance (a b : Cv) : Decidable (loose a b) := by unfold loose; infer_instance
def fastQ (a b : Cv) : Prop := finB a = true ∧ finB b = true ∧ 0 < gainC a (lcmC a b) - gainC b (lcmC a b)
instance (a b : Cv) : Decidable (fastQ a b) := by unfold fastQ; infer_instance
def gapD (a b : Cv) (t : Nat) : Int × Bool := ((reachG b (cvF a t)).1 - t, (reachG b (cvF a t)).2)
def gapA (a b : Cv) (d t : Nat) : Int × Bool := if isInf b t then (0, true) else (cvF a (t + d) - cvF b t, !decide (isInf a (t + d)))
def devN (a b : Cv) (f : Nat → Int × Bool) : (Bool × Int × Int) × Int :=
  if 120 < lcmC a b then ((false, 0, 0), 3) else if loose a b then ((true, 0, 0), 0) else (greatW f (max (stN a) (stN b) + lcmC a b) 0 0 0, 0)
def devQ (a b : Cv) (f : Nat → Int × Bool) : (Bool × Int × Int) × Int :=
  if 120 < lcmC a b then ((false, 0, 0), 3) else if fastQ a b then ((true, 0, 0), 0) else (greatW f (max a.vals.length b.vals.length + lcmC a b) 0 0 0, 0)
section
variable {a b : Cv}
theorem cvF_le (hv : validB a = true) {s t : Nat} (h : s ≤ t) : cvF a s ≤ cvF a t := mono_le (cvF_mono hv) h
theorem gains (ha : validB a = true) (hb : validB b = true) (fa : finB a = true) (fb : finB b = true) : Grows (cvF a) (stN a) (lcmC a b) (gainC a (lcmC a b)) ∧ Grows (cvF b) (stN b) (lcmC a b) (gainC b (lcmC a b)) := by
 obtain ⟨_, _, _, q1, _⟩ := valid_range ha
 obtain ⟨_, _, _, q2, _⟩ := valid_range hb
 obtain ⟨m1, m2, _⟩ := lcm_mod (a := a.per.toNat) (b := b.per.toNat) (by omega) (by omega)
 exact ⟨gain_grows ha fa m1, gain_grows hb fb m2⟩
theorem cvF_low15 (ha : validB a = true) {u : Nat} (hu : u ≤ 100000) : cvF a u = INF ∨ (0 ≤ cvF a u ∧ cvF a u ≤ 1000000000000000) := by
 have := cvF_bound ha u
 rcases this.2 with h | h
 ·exact .inl h
 ·right; omega
theorem fin_ne (ha : validB a = true) (fa : finB a = true) {u : Nat} (hu : u ≤ 100000) : cvF a u ≠ INF := fun h => isInf_fin fa u ((isInf_iff ha (by omega)).2 h)
/-- a delay that is found is one -/
theorem delay_snd (ha : validB a = true) (hb : validB b = true) (fa : finB a = true) (fb : finB b = true) {v p : Int} (h : devN a b (gapD a b) = ((false, v, p), 0)) : 0 ≤ v ∧ v ≤ 1000000000000000000 ∧ ∀ u, cvF a u ≤ cvF b (u + v.toNat) := by
 have s1 := stN_lt ha
 have s2 := stN_lt hb
 unfold devN at h
 by_cases hl : 120 < lcmC a b
 ·rw [if_pos hl] at h; exact absurd (show (3 : Int) = 0 from congrArg Prod.snd h) (by decide)
 rw [if_neg hl] at h
 by_cases hlo : loose a b
 ·rw [if_pos hlo] at h; exact absurd (show true = false from congrArg (fun x => x.1.1) h) (by decide)
 rw [if_neg hlo] at h
 have hg : gainC a (lcmC a b) ≤ gainC b (lcmC a b) := by
  apply Classical.byContradiction
  intro h; exact hlo ⟨fb, .inr (by omega)⟩
 have hw : greatW (gapD a b) (max (stN a) (stN b) + lcmC a b) 0 0 0 = (false, v, p) := congrArg Prod.fst h
 have hsd := greatW_sound (f := gapD a b) (max (stN a) (stN b) + lcmC a b) 0 0 0 (by rw [hw])
 have hbd := greatW_bound (f := gapD a b) (B := 1000000000000000000) (max (stN a) (stN b) + lcmC a b) 0 0 0 (fun u u1 u2 => by
  have := (reachG_bound hb (cvF_low15 ha (show u ≤ 100000 by omega))).2
  unfold gapD; dsimp only; omega) (by decide) (by decide) (by decide) (by decide)
 rw [hw] at hsd hbd
 dsimp only at hsd hbd
 obtain ⟨g1, g2⟩ := gains ha hb fa fb
 have hl0 := lcm_pos ha hb
 refine ⟨hbd.1, hbd.2.1, fun u => ?_⟩
 induction u using Nat.strongRecOn with
 | _ u ih =>
  by_cases h1 : u < max (stN a) (stN b) + lcmC a b
  ·obtain ⟨i1, i2⟩ := hsd.2 u (Nat.zero_le _) (by omega)
   unfold gapD at i1 i2
   dsimp only at i1 i2
   obtain ⟨r, e, r1, _⟩ := (reachG_fin hb fb (fin_ne ha fa (show u ≤ 100000 by omega))).yes i1
   exact Int.le_trans r1 (cvF_le hb (by omega))
  ·have i := ih (u - lcmC a b) (by omega)
   have a1 := g1 (u - lcmC a b) (by omega)
   have a2 := g2 (u - lcmC a b + v.toNat) (by omega)
   rw [show u - lcmC a b + lcmC a b = u by omega] at a1
   rw [show u - lcmC a b + v.toNat + lcmC a b = u + v.toNat by omega] at a2
   omega
end
end Go.Proofs.YthpblaoehlgpfaaGreat.M

/- Whether a curve is never above another, as the reference finds it, for any two valid curves; plain. No condition. -/
namespace Go.Proofs.YthpblaoehlgpfaaGreat.M
open Go Go.Proofs.YthpblaoehlgpfaaGreat.K
def abvI (a b : Cv) (t : Nat) : Int := if cvF a t = INF ∨ cvF b t = INF then (if cvF b t = INF then 0 else 1) else cvF a t - cvF b t
def grI (a b : Cv) : Int := a.inc * ((lcmC a b : Int) / a.per) - b.inc * ((lcmC a b : Int) / b.per)
def winN (a b : Cv) : Nat := if a.vals.length < b.vals.length then b.vals.length else a.vals.length
def noneAbv (a b : Cv) : Prop := ∀ t, t < winN a b + lcmC a b → abvI a b t ≤ 0
instance (a b : Cv) : Decidable (noneAbv a b) := by unfold noneAbv; infer_instance
def leB (a b : Cv) : Bool := decide (noneAbv a b) && !(finB a && finB b && decide (0 < grI a b))
section
variable {a b : Cv}
theorem abv_iff (ha : validB a = true) (hb : validB b = true) {t : Nat} (ht : t ≤ 20000) : abvI a b t ≤ 0 ↔ cvF a t ≤ cvF b t := by
 unfold abvI
 rcases cvF_low15 ha (show t ≤ 100000 by omega) with h1 | h1 <;> rcases cvF_low15 hb (show t ≤ 100000 by omega) with h2 | h2
 ·rw [if_pos (.inl h1), if_pos h2, h1, h2]; simp
 ·rw [if_pos (.inl h1), if_neg (by unfold INF; omega), h1]; unfold INF; omega
 ·rw [if_pos (.inr h2), if_pos h2, h2]; unfold INF; omega
 ·rw [if_neg (by unfold INF; omega)]; omega
theorem win_le (ha : validB a = true) (hb : validB b = true) : winN a b ≤ 400 ∧ lcmC a b ≤ 14400 ∧ 0 < lcmC a b := by
 obtain ⟨_, a1, a2, a3, a4, _⟩ := valid_range ha
 obtain ⟨_, b1, b2, b3, b4, _⟩ := valid_range hb
 refine ⟨by unfold winN; split <;> omega, Nat.le_trans (lcmN_facts (by omega) (by omega)).2.2.1 (Nat.mul_le_mul (show a.per.toNat ≤ 120 by omega) (show b.per.toNat ≤ 120 by omega)), lcm_pos ha hb⟩
theorem gr_gain : grI a b = gainC a (lcmC a b) - gainC b (lcmC a b) := by
 unfold grI gainC
 rw [Int.mul_comm a.inc, Int.mul_comm b.inc]
theorem gains_le (ha : validB a = true) (hb : validB b = true) (fa : finB a = true) (fb : finB b = true) {d : Nat} (h : ∀ t, cvF a t ≤ cvF b (t + d)) : gainC a (lcmC a b) ≤ gainC b (lcmC a b) := by
 obtain ⟨g1, g2⟩ := gains ha hb fa fb
 have := grows_le (F := cvF a) (G := fun t => cvF b (t + d)) g1 (S2 := stN b) (P2 := lcmC a b) (I2 := gainC b (lcmC a b)) (fun t ht => by
  have := g2 (t + d) (by omega)
  dsimp only
  rw [show t + lcmC a b + d = t + d + lcmC a b by omega]; exact this) h (l := lcmC a b) (a1 := 1) (a2 := 1) (by omega) (by omega)
 omega
theorem leB_of (ha : validB a = true) (hb : validB b = true) (h : ∀ t, cvF a t ≤ cvF b t) : leB a b = true := by
 obtain ⟨w1, w2, w3⟩ := win_le ha hb
 unfold leB
 rw [decide_eq_true (show noneAbv a b from fun t ht => (abv_iff ha hb (by omega)).2 (h t)), Bool.true_and]
 cases fa : finB a <;> cases fb : finB b <;> (try rfl)
 have := gains_le ha hb fa fb (d := 0) h
 rw [gr_gain, decide_eq_false (by omega)]; rfl
theorem le_of_leB (ha : validB a = true) (hb : validB b = true) (fa : finB a = true) (fb : finB b = true) (h : leB a b = true) (u : Nat) : cvF a u ≤ cvF b u := by
 obtain ⟨w1, w2, w3⟩ := win_le ha hb
 unfold leB at h
 rw [fa, fb, gr_gain] at h
 simp only [Bool.and_eq_true, decide_eq_true_eq, Bool.true_and, Bool.not_eq_true', decide_eq_false_iff_not] at h
 obtain ⟨h1, h2⟩ := h
 obtain ⟨g1, g2⟩ := gains ha hb fa fb
 have s1 : stN a ≤ winN a b := by unfold stN winN; split <;> omega
 have s2 : stN b ≤ winN a b := by unfold stN winN; split <;> omega
 induction u using Nat.strongRecOn with
 | _ u ih =>
  by_cases hu : u < winN a b + lcmC a b
  ·exact (abv_iff ha hb (by omega)).1 (h1 u hu)
  ·have i := ih (u - lcmC a b) (by omega)
   have a1 := g1 (u - lcmC a b) (by omega)
   have a2 := g2 (u - lcmC a b) (by omega)
   rw [show u - lcmC a b + lcmC a b = u by omega] at a1 a2
   omega
/-- a greater curve over a lesser one has no lesser delay -/
theorem delay_mono (ha : validB a = true) (hb : validB b = true) (fa : finB a = true) (fb : finB b = true) {d : Nat} (h : ∀ u, cvF a u ≤ cvF b (u + d)) (h0 : (devN a b (gapD a b)).2 = 0) : ∃ v p, devN a b (gapD a b) = ((false, v, p), 0) ∧ v ≤ d := by
 have s1 := stN_lt ha
 have s2 := stN_lt hb
 have hgl := gains_le ha hb fa fb h
 unfold devN at h0 ⊢
 by_cases hl : 120 < lcmC a b
 ·rw [if_pos hl] at h0; exact absurd h0 (show ¬ (3 : Int) = 0 by decide)
 rw [if_neg hl]
 have hlo : ¬ loose a b := by
  rintro ⟨_, h1 | h1⟩
  ·rw [fa] at h1; cases h1
  ·omega
 rw [if_neg hlo]
 have hgap : ∀ u, u ≤ 100000 → (gapD a b u).2 = true ∧ (gapD a b u).1 ≤ d := fun u hu => by
  have hf := reachG_fin hb fb (fin_ne ha fa hu)
  unfold gapD
  dsimp only
  cases h1 : (reachG b (cvF a u)).2 with
  | false => have := (hf.no h1).2 (u + d); have := h u; omega
  | true =>
   refine ⟨rfl, ?_⟩
   obtain ⟨r, e, r1, r2⟩ := hf.yes h1
   rw [e]
   apply Classical.byContradiction
   intro hn
   have := r2 (u + d) (by omega)
   have := h u
   omega
 have hnt : (greatW (gapD a b) (max (stN a) (stN b) + lcmC a b) 0 0 0).1 = false := by
  have : ∀ (n t : Nat) (v q : Int), t + n ≤ 100000 → (greatW (gapD a b) n t v q).1 = false := by
   intro n
   induction n with
   | zero => intro t v q _; rfl
   | succ n ih =>
    intro t v q ht
    unfold greatW
    rw [if_neg (by rw [(hgap t (by omega)).1]; decide)]
    split
    ·exact ih _ _ _ (by omega)
    ·exact ih _ _ _ (by omega)
  exact this _ _ _ _ (by omega)
 have hbd := greatW_bound (f := gapD a b) (B := (d : Int)) (max (stN a) (stN b) + lcmC a b) 0 0 0 (fun u u1 u2 => (hgap u (by omega)).2) (by decide) (by omega) (by decide) (by decide)
 exact ⟨_, _, by rw [← hnt], hbd.2.1⟩
end
end Go.Proofs.YthpblaoehlgpfaaGreat.M

/- Lines with any of the schedulers, plain: what is right, what a run sends. No condition. -/
namespace Go.Proofs.YthpblaoehlgpfaaGreat.M
open Go Go.Proofs.YthpblaoehlgpfaaGreat.K
/-- a line -/
structure Ln where
  kind : Int
  cap : Int
  n : Int
  w : List Int
  tb : List Int
def withinB (l : List Int) (lo hi : Int) : Bool := l.all fun x => decide (lo ≤ x) && decide (x ≤ hi)
def outB (lo hi x : Int) : Bool := decide (x < lo) || decide (hi < x)
def listsE (b : Bool) (rows : List (List Int)) : Int := if b = false then 2 else if rows.any (fun r => decide (0 < r.length)) = true then 6 else 0
theorem within_find {l : List Int} {lo hi : Int} : (!decide (0 ≤ findN (fun i => outB lo hi (nth l i)) l.length)) = withinB l lo hi := by
 rcases findN_cases (fun i => outB lo hi (nth l i)) l.length with ⟨i, h1, h2, h3, h4⟩ | ⟨h1, h2⟩
 ·rw [h2]
  have : withinB l lo hi = false := by
   apply Bool.eq_false_iff.2
   intro hh
   unfold withinB at hh
   rw [List.all_eq_true] at hh
   have := hh _ (nth_mem h1)
   simp only [outB, Bool.or_eq_true, decide_eq_true_eq, Bool.and_eq_true] at h3 this
   omega
  rw [this]; simp
 ·rw [h1]
  have : withinB l lo hi = true := by
   unfold withinB
   rw [List.all_eq_true]
   intro x hx
   obtain ⟨i, hi, rfl⟩ := List.getElem_of_mem hx
   have := h2 i hi
   rw [show nth l i = l[i] by unfold nth List.getD; rw [List.getElem?_eq_getElem hi]; rfl] at this
   simp only [outB, Bool.or_eq_false_iff, decide_eq_false_iff_not] at this
   simp only [Bool.and_eq_true, decide_eq_true_eq]; omega
  rw [this]; rfl
/-- the first error of the lists -/
def lchkL (L : Ln) : Int :=
  if L.kind = 3 then listsE (decide ((L.w.length : Int) = L.n) && withinB L.w 1 20) [L.tb]
  else if L.kind = 4 then listsE (decide ((L.w.length : Int) = L.n) && withinB L.w 1 6000) [L.tb]
  else if L.kind = 5 then listsE (decide (1 ≤ (L.tb.length : Int)) && decide ((L.tb.length : Int) ≤ 40) && withinB L.tb (-1) (L.n - 1)) [L.w]
  else listsE true [L.w, L.tb]
def chkL (L : Ln) : Int := if L.kind < 1 ∨ 5 < L.kind then 9 else if L.cap < 1 ∨ 4000 < L.cap ∨ L.n < 1 ∨ 6 < L.n then 2 else lchkL L
/-- what a run of a line that is right hands back -/
def runE (L : Ln) (ticks : Int) (ps : List Pkt) : Int := if L.kind = 3 then wrunE 20 L.cap ticks L.w ps else if L.kind = 4 then wrunE 6000 L.cap ticks L.w ps else lrunE L.cap L.n ticks ps
def sendL (L : Ln) (ticks : Nat) (ps : List Pkt) : List Int × List (List Int) :=
  if L.kind = 1 then ((mrun ps (fifo ps) L.cap L.n.toNat ticks ()).done, (mrun ps (fifo ps) L.cap L.n.toNat ticks ()).sent)
  else if L.kind = 2 then ((mrun ps (prioCh ps L.n.toNat) L.cap L.n.toNat ticks ()).done, (mrun ps (prioCh ps L.n.toNat) L.cap L.n.toNat ticks ()).sent)
  else if L.kind = 3 then ((mrun ps (robinCh ps L.w) L.cap L.w.length ticks (0, nth L.w 0)).done, (mrun ps (robinCh ps L.w) L.cap L.w.length ticks (0, nth L.w 0)).sent)
  else if L.kind = 4 then ((mrun ps (defCh ps L.w) L.cap L.w.length ticks (def0 L.w.length)).done, (mrun ps (defCh ps L.w) L.cap L.w.length ticks (def0 L.w.length)).sent)
  else ((mrun ps (slotCh ps L.cap L.tb) L.cap L.n.toNat ticks ()).done, (mrun ps (slotCh ps L.cap L.tb) L.cap L.n.toNat ticks ()).sent)
def runL (L : Ln) (ticks : Int) (ps : List Pkt) : List Int × List (List Int) := if runE L ticks ps ≠ 0 then ([], []) else sendL L ticks.toNat ps
def srvE (L : Ln) (ticks : Int) (ps : List Pkt) : Int := if chkL L ≠ 0 then chkL L else runE L ticks ps
def srvL (L : Ln) (ticks : Int) (ps : List Pkt) : List Int × List (List Int) := if chkL L ≠ 0 then ([], []) else runL L ticks ps
theorem chk_facts {L : Ln} (h : chkL L = 0) : (1 ≤ L.kind ∧ L.kind ≤ 5) ∧ 1 ≤ L.cap ∧ L.cap ≤ 4000 ∧ 1 ≤ L.n ∧ L.n ≤ 6 ∧ lchkL L = 0 := by
 unfold chkL at h
 split at h
 ·omega
 ·split at h
  ·omega
  ·exact ⟨by omega, by omega, by omega, by omega, by omega, h⟩
theorem lists_zero {b : Bool} {rows : List (List Int)} (h : listsE b rows = 0) : b = true ∧ ∀ r ∈ rows, r = [] := by
 unfold listsE at h
 split at h
 ·omega
 ·rename_i hb
  split at h
  ·omega
  ·rename_i hr
   refine ⟨by simpa using hb, fun r hr2 => ?_⟩
   have := mt List.any_eq_true.2 hr
   cases r with
   | nil => rfl
   | cons x xs => exact absurd ⟨_, hr2, by simp⟩ this
theorem chk_rob {L : Ln} (h : chkL L = 0) (hk : L.kind = 3) : (L.w.length : Int) = L.n ∧ withinB L.w 1 20 = true ∧ L.tb = [] := by
 have := (chk_facts h).2.2.2.2.2
 unfold lchkL at this
 rw [if_pos hk] at this
 obtain ⟨h1, h2⟩ := lists_zero this
 simp only [Bool.and_eq_true, decide_eq_true_eq] at h1
 exact ⟨h1.1, h1.2, h2 _ (by simp)⟩
theorem chk_def {L : Ln} (h : chkL L = 0) (hk : L.kind = 4) : (L.w.length : Int) = L.n ∧ withinB L.w 1 6000 = true ∧ L.tb = [] := by
 have := (chk_facts h).2.2.2.2.2
 unfold lchkL at this
 rw [if_neg (by omega), if_pos hk] at this
 obtain ⟨h1, h2⟩ := lists_zero this
 simp only [Bool.and_eq_true, decide_eq_true_eq] at h1
 exact ⟨h1.1, h1.2, h2 _ (by simp)⟩
theorem chk_times {L : Ln} (h : chkL L = 0) (hk : L.kind = 5) : (1 ≤ L.tb.length ∧ L.tb.length ≤ 40) ∧ withinB L.tb (-1) (L.n - 1) = true ∧ L.w = [] := by
 have := (chk_facts h).2.2.2.2.2
 unfold lchkL at this
 rw [if_neg (by omega), if_neg (by omega), if_pos hk] at this
 obtain ⟨h1, h2⟩ := lists_zero this
 simp only [Bool.and_eq_true, decide_eq_true_eq] at h1
 exact ⟨by omega, h1.2, h2 _ (by simp)⟩
/-- the lines that the laws draw -/
structure DrawOk (L : Ln) : Prop where
  cap : 3 ≤ L.cap ∧ L.cap ≤ 42
  n : L.n = 3
  kind : 1 ≤ L.kind ∧ L.kind ≤ 5
  plain : L.kind = 1 ∨ L.kind = 2 → L.w = [] ∧ L.tb = []
  rob : L.kind = 3 → L.w.length = 3 ∧ (∀ x ∈ L.w, 1 ≤ x ∧ x ≤ 3) ∧ L.tb = []
  defi : L.kind = 4 → L.w.length = 3 ∧ (∀ x ∈ L.w, 1 ≤ x ∧ x ≤ 50) ∧ L.tb = []
  slots : L.kind = 5 → L.w = [] ∧ 3 ≤ L.tb.length ∧ L.tb.length ≤ 6 ∧ ∀ x ∈ L.tb, -1 ≤ x ∧ x ≤ 2
end Go.Proofs.YthpblaoehlgpfaaGreat.M

/- Time slots, plain: the curves of the program and of the reference are the same. No condition. -/
namespace Go.Proofs.YthpblaoehlgpfaaGreat.M
open Go Go.Proofs.YthpblaoehlgpfaaGreat.K

def chkT (cap cls : Int) (tb : List Int) (z : List Sz) : Int := if chk18 cap cls z ≠ 0 then 2 else if okT z.length tb = false then 2 else 0
def someT (cls : Int) (tb : List Int) : Bool := tb.any fun c => c == cls
def allT (cls : Int) (tb : List Int) : Bool := tb.all fun c => c == cls
def lineF (cap lost : Int) (t : Nat) : Int := max 0 (cap * t - lost)
def slotC (cap cls : Int) (tb : List Int) (z : List Sz) : Cv × Int :=
  if chkT cap cls tb z ≠ 0 then (zcv, chkT cap cls tb z)
  else if someT cls tb = false ∨ (nth z cls.toNat).most < 1 then (zcv, 5)
  else if allT cls tb = true then (if 400 * cap < (nth z cls.toNat).most - 1 then (zcv, 3) else madeR ⟨fvals (lineF cap ((nth z cls.toNat).most - 1)) 401, 1, cap⟩)
  else madeR ⟨fvals (slotF cap ((nth z cls.toNat).most - 1) (mineT tb cls) tb.length) (3 * tb.length + tb.length), tb.length,
    slotF cap ((nth z cls.toNat).most - 1) (mineT tb cls) tb.length (4 * tb.length - 1) - slotF cap ((nth z cls.toNat).most - 1) (mineT tb cls) tb.length (3 * tb.length - 1)⟩
theorem chkT_ok {cap cls : Int} {tb : List Int} {z : List Sz} (h : chkT cap cls tb z = 0) : 1 ≤ cap ∧ cap ≤ 4000 ∧ 0 ≤ cls ∧ cls < z.length ∧ z.length ≤ 6 ∧ (1 ≤ tb.length ∧ tb.length ≤ 40 ∧ ∀ c ∈ tb, -1 ≤ c ∧ c < z.length) ∧ ∀ s ∈ z, 0 ≤ s.least ∧ s.least ≤ s.most ∧ s.most ≤ 1500 := by
 unfold chkT at h
 by_cases h1 : chk18 cap cls z ≠ 0
 ·rw [if_pos h1] at h; omega
 ·rw [if_neg h1] at h
  by_cases h2 : okT z.length tb = false
  ·rw [if_pos h2] at h; omega
  ·have hw : chkW 20 cap cls (List.replicate z.length 1) z = 0 := by
    unfold chkW
    rw [if_neg h1, if_neg]
    intro h
    rcases h with h | h
    ·simp at h
    ·have : okW 20 (List.replicate z.length 1) = true := okW_iff.2 (fun x hx => by rw [List.eq_of_mem_replicate hx]; omega)
     rw [this] at h; cases h
   obtain ⟨a1, a2, a3, a4, a5, _, _, a8⟩ := chkW_ok hw
   exact ⟨a1, a2, a3, a4, a5, okT_iff.1 (by simpa using h2), a8⟩
section
variable {cap lost : Int}
theorem lineF_bound (hc : 0 ≤ cap) (hl : 0 ≤ lost) (t : Nat) : 0 ≤ lineF cap lost t ∧ lineF cap lost t ≤ cap * t := by
 have := Int.mul_nonneg hc (show (0 : Int) ≤ (t : Int) by omega)
 unfold lineF; omega
theorem lineF_mono (hc : 0 ≤ cap) (t : Nat) : lineF cap lost t ≤ lineF cap lost (t + 1) := by
 have : cap * ((t + 1 : Nat) : Int) = cap * (t : Int) + cap := by rw [Int.natCast_add, Int.mul_add]; simp
 unfold lineF; omega
theorem lineF_grows (hc : 0 ≤ cap) {S : Nat} (hS : lost ≤ cap * S) : Grows (lineF cap lost) S 1 cap := by
 intro t ht
 have h1 := Int.mul_le_mul_of_nonneg_left (show (S : Int) ≤ (t : Int) by omega) hc
 have : cap * ((t + 1 : Nat) : Int) = cap * (t : Int) + cap := by rw [Int.natCast_add, Int.mul_add]; simp
 unfold lineF; omega
theorem lost_quo (hc : 0 < cap) (hl : 0 ≤ lost) : lost ≤ cap * ((lost / cap + 1).toNat : Int) ∧ 0 ≤ lost / cap ∧ lost / cap ≤ lost := by
 have h0 : 0 ≤ lost / cap := Int.ediv_nonneg hl (by omega)
 have h1 := Int.mul_ediv_add_emod lost cap
 have h2 := Int.emod_lt_of_pos lost hc
 rw [Int.toNat_of_nonneg (by omega), Int.mul_add]
 exact ⟨by omega, h0, Int.ediv_le_self _ hl⟩
theorem line_build (hc : 0 < cap ∧ cap ≤ 4000) (hl : 0 ≤ lost ∧ lost ≤ 1500) :
  mbuild (lineF cap lost) (lost / cap + 1).toNat 1 cap = if 400 * cap < lost then (zcv, 3) else madeR ⟨fvals (lineF cap lost) 401, 1, cap⟩ := by
 obtain ⟨q1, q2, q3⟩ := lost_quo hc.1 hl.1
 have hb : ∀ t : Nat, t ≤ 2000 → lineF cap lost t < INF := fun t ht => by
  have h1 := (lineF_bound (cap := cap) (by omega) hl.1 t).2
  have h2 := (mulB (a := cap) (b := (t : Int)) (A := 4000) (B := 2000) (by omega) (by omega)).2
  unfold INF; omega
 have hg := lineF_grows (cap := cap) (by omega) q1
 have hf : ∀ t, t < (lost / cap + 1).toNat + 1 → lineF cap lost t < INF := fun t ht => hb t (by omega)
 have hne : ∀ t, t < (lost / cap + 1).toNat + 1 → lineF cap lost t ≠ INF := fun t ht => by have := hf t ht; omega
 rw [mbuild_fin hne]
 by_cases hfr : 400 * cap < lost
 ·rw [if_pos hfr]
  obtain ⟨p', s', hnf, _, _, e⟩ := finL_nf (by omega) hg hne
  rw [e]
  have hp1 := hnf.least.1
  obtain rfl : p' = 1 := by omega
  have hgr := hnf.starts.1 s' (Nat.le_refl _)
  have hnn := (lineF_bound (cap := cap) (by omega) hl.1 s').1
  have hlen : 400 < s' + 1 := by
   apply Classical.byContradiction
   intro hn
   have h1 := Int.mul_le_mul_of_nonneg_left (show ((s' + 1 : Nat) : Int) ≤ 400 by omega) (show 0 ≤ cap by omega)
   have : lineF cap lost (s' + 1) = 0 := by unfold lineF; omega
   simp at hgr
   omega
  unfold nfC nfE
  rw [if_pos (if_pos (.inr (.inr (.inl hlen))))]
 ·rw [if_neg hfr]
  have hg' : Grows (lineF cap lost) 400 1 cap := lineF_grows (by omega) (by show lost ≤ cap * 400; omega)
  exact build_made (by omega) (by omega) hg hg' (fun t => lineF_mono (by omega) t) (lineF_bound (by omega) hl.1 0).1 hf (fun t ht => hb t (by omega))
variable {mine : Nat → Bool} {n : Nat}
theorem slotF_bound (hc : 0 ≤ cap) (hl : 0 ≤ lost) (hn : 0 < n) (t : Nat) : 0 ≤ slotF cap lost mine n t ∧ slotF cap lost mine n t ≤ cap * t := by
 have h1 := minN_le (f := fun a => cntS cap lost mine a t) hn
 have h2 := (cntS_bound (mine := mine) (a := 0) hc hl t).2
 refine ⟨minN_ge (cntS_bound hc hl t).1 (fun i _ => (cntS_bound hc hl t).1), ?_⟩
 unfold slotF
 omega
theorem slotF_mono (hc : 0 ≤ cap) (hn : 0 < n) (t : Nat) : slotF cap lost mine n t ≤ slotF cap lost mine n (t + 1) :=
 minN_ge (Int.le_trans (minN_le (f := fun a => cntS cap lost mine a t) hn) (cntS_mono hc t)) (fun i hi => Int.le_trans (minN_le (f := fun a => cntS cap lost mine a t) hi) (cntS_mono hc t))
/-- all of a table seen, it grows by as much in each cycle -/
theorem slotF_grows (hper : ∀ i, mine (i + n) = mine i) (hn : 0 < n) {b : Nat} (hb : mine b = false) : Grows (slotF cap lost mine n) n n (slotS cap lost mine (b + 1) n).1 :=
 fun k hk => minN_add hn (fun i hi => cntS_cycle hper hn hb hk)
theorem slot_build (hc : 0 < cap ∧ cap ≤ 4000) (hl : 0 ≤ lost ∧ lost ≤ 1500) (hper : ∀ i, mine (i + n) = mine i) (hn : 0 < n ∧ n ≤ 40) {b : Nat} (hb : mine b = false) :
  slotF cap lost mine n (2 * n) - slotF cap lost mine n n = slotF cap lost mine n (4 * n - 1) - slotF cap lost mine n (3 * n - 1) ∧ Grows (slotF cap lost mine n) n n (slotF cap lost mine n (2 * n) - slotF cap lost mine n n) ∧
  0 ≤ slotF cap lost mine n (2 * n) - slotF cap lost mine n n ∧
  mbuild (slotF cap lost mine n) n n (slotF cap lost mine n (2 * n) - slotF cap lost mine n n) = madeR ⟨fvals (slotF cap lost mine n) (3 * n + n), n, slotF cap lost mine n (4 * n - 1) - slotF cap lost mine n (3 * n - 1)⟩ := by
 have hg := slotF_grows (cap := cap) (lost := lost) hper hn.1 hb
 have e1 := hg n (Nat.le_refl _)
 have e2 := hg (3 * n - 1) (by omega)
 rw [show n + n = 2 * n by omega] at e1
 rw [show 3 * n - 1 + n = 4 * n - 1 by omega] at e2
 have e3 : slotF cap lost mine n (2 * n) - slotF cap lost mine n n = (slotS cap lost mine (b + 1) n).1 := by omega
 have e4 : slotF cap lost mine n (4 * n - 1) - slotF cap lost mine n (3 * n - 1) = (slotS cap lost mine (b + 1) n).1 := by omega
 have h0 := (slotS_nonneg (cap := cap) (lost := lost) (mine := mine) (a := b + 1) (by omega) n).1
 have hbd : ∀ t : Nat, t ≤ 2000 → slotF cap lost mine n t < INF := fun t ht => by
  have h1 := (slotF_bound (cap := cap) (lost := lost) (mine := mine) (by omega) hl.1 hn.1 t).2
  have h2 := (mulB (a := cap) (b := (t : Int)) (A := 4000) (B := 2000) (by omega) (by omega)).2
  unfold INF; omega
 rw [e3, e4]
 refine ⟨rfl, hg, h0, ?_⟩
 rw [mbuild_fin (fun t ht => by have := hbd t (by omega); omega)]
 exact build_made hn.1 h0 hg (hg.mono (by omega)) (fun t => slotF_mono (by omega) hn.1 t) (slotF_bound (by omega) hl.1 hn.1 0).1 (fun t ht => hbd t (by omega)) (fun t ht => hbd t (by omega))
theorem someT_iff {cls : Int} {tb : List Int} : someT cls tb = true ↔ ∃ i, i < tb.length ∧ nth tb i = cls := by
 unfold someT
 rw [List.any_eq_true]
 constructor
 ·rintro ⟨c, h1, h2⟩
  obtain ⟨i, hi, e⟩ := List.getElem_of_mem h1
  exact ⟨i, hi, by rw [nth_eq hi, e]; simpa using h2⟩
 ·rintro ⟨i, hi, e⟩
  exact ⟨_, nth_mem hi, by simpa using e⟩
theorem allT_iff {cls : Int} {tb : List Int} : allT cls tb = true ↔ ∀ i, i < tb.length → nth tb i = cls := by
 unfold allT
 rw [List.all_eq_true]
 constructor
 ·intro h i hi
  simpa using h _ (nth_mem hi)
 ·intro h c hc
  obtain ⟨i, hi, e⟩ := List.getElem_of_mem hc
  have := h i hi
  rw [nth_eq hi, e] at this
  simpa using this
theorem allT_not {cls : Int} {tb : List Int} (h : ¬ allT cls tb = true) : ∃ b, b < tb.length ∧ mineT tb cls b = false := by
 apply Classical.byContradiction
 intro hn
 refine h (allT_iff.2 (fun i hi => ?_))
 apply Classical.byContradiction
 intro h2
 refine hn ⟨i, hi, ?_⟩
 unfold mineT slotT
 rw [Nat.mod_eq_of_lt hi]
 simpa using h2
end
end Go.Proofs.YthpblaoehlgpfaaGreat.M

/- Lines with any of the schedulers, plain: their curves and delays. No condition. -/
namespace Go.Proofs.YthpblaoehlgpfaaGreat.M
open Go Go.Proofs.YthpblaoehlgpfaaGreat.K
def delayC (a b : Cv) : (Bool × Int × Int) × Int := devN (normR a) (normR b) (gapD (normR a) (normR b))
def waitL (v : Int) : List Int := (List.replicate (v + 2).toNat 0).set (v + 1).toNat INF
def waitC (v : Int) : Cv × Int := if v < 0 then (zcv, 2) else if 398 < v then (zcv, 3) else (⟨waitL v, 1, 0⟩, 0)
def allC (cap : Int) (ls : List Cv) : (Bool × Int × Int) × Int := if (totalC ls).2 ≠ 0 then ((false, 0, 0), (totalC ls).2) else delayC (totalC ls).1 (lineC cap)
def fifoC (cap : Int) (ls : List Cv) : Cv × Int := if (allC cap ls).2 ≠ 0 then (zcv, (allC cap ls).2) else if (allC cap ls).1.1 = true then (zcv, 5) else waitC (allC cap ls).1.2.1
def argE (L : Ln) (cls : Int) (ls : List Cv) (z : List Sz) : Int :=
  if chkL L ≠ 0 then chkL L else if cls < 0 ∨ L.n ≤ cls ∨ (ls.length : Int) ≠ L.n ∨ (z.length : Int) ≠ L.n then 2 else if chk18 L.cap cls z ≠ 0 then chk18 L.cap cls z else if ls.all validB = true then 0 else 1
def schedC (L : Ln) (cls : Int) (ls : List Cv) (z : List Sz) : Cv × Int :=
  if L.kind = 1 then fifoC L.cap ls else if L.kind = 2 then prioC L.cap cls ls z else if L.kind = 3 then robinC L.cap cls L.w z else if L.kind = 4 then defC L.cap cls L.w z else slotC L.cap cls L.tb z
def curveL (L : Ln) (cls : Int) (ls : List Cv) (z : List Sz) : Cv × Int := if argE L cls ls z ≠ 0 then (zcv, argE L cls ls z) else schedC L cls ls z
def devV (x : (Bool × Int × Int) × Int) : Value := .tuple #[.agg #[.bool x.1.1, .int .i64 x.1.2.1, .int .i64 x.1.2.2], .int .i64 x.2]
theorem total_valid {ls : List Cv} (h : ∀ c ∈ ls, validB c = true) (h0 : (totalC ls).2 = 0) : validB (totalC ls).1 = true := by
 rcases total_res ls zeroC zero_nrm.valid zero_nrm h with e | ⟨c, e, h2, _⟩
 ·rw [show totalC ls = (zcv, 3) from e] at h0; cases h0
 ·rw [show totalC ls = (c, 0) from e]; exact h2.valid
end Go.Proofs.YthpblaoehlgpfaaGreat.M

/- Time slots, plain: a class's curve is what it is served, and greater packets have a lesser one. No condition. -/
namespace Go.Proofs.YthpblaoehlgpfaaGreat.M
open Go Go.Proofs.YthpblaoehlgpfaaGreat.K

theorem FC.valid {F : Nat → Int} {S P : Nat} {I : Int} (h : FC F S P I) : validB ⟨fvals F (S + P), P, I⟩ = true := by
 have hP := h.hP
 have hn := h.hn
 have hI := h.hI
 rw [validB_iff]
 dsimp only
 rw [fvals_len]
 refine ⟨⟨by omega, by omega, by omega, by omega, by omega, by omega, by unfold MAXV; omega⟩, fun i hi => ?_, ?_⟩
 ·rw [fvals_nth F hi]
  have a := h.nonneg i
  have b := h.hb i hi
  refine ⟨.inr ⟨a, by unfold MAXV; omega⟩, ?_⟩
  by_cases h0 : i = 0
  ·exact .inl h0
  ·right
   rw [fvals_nth F (by omega)]
   exact h.mono (show i - 1 ≤ i by omega)
 ·rw [fvals_nth F (by omega), if_neg (h.fin (by omega)), Int.toNat_natCast, fvals_nth F (by omega)]
  have h1 := h.hg (S + P - P) (by omega)
  have h2 := h.mono (show S + P - 1 ≤ S + P - P + P by omega)
  omega
theorem slotS_all {cap lost : Int} {mine : Nat → Bool} (h : ∀ i, mine i = true) (a : Nat) : ∀ d : Nat, slotS cap lost mine a d = (0, cap * d)
 | 0 => by simp [slotS]
 | d + 1 => by
  have : cap * ((d + 1 : Nat) : Int) = cap * (d : Int) + cap := by rw [Int.natCast_add, Int.mul_add]; simp
  rw [slotS, slotS_all h a d, if_pos (h _), this]
theorem mineT_all {cls : Int} {tb : List Int} (hn : 0 < tb.length) (h : allT cls tb = true) (i : Nat) : mineT tb cls i = true := by
 unfold mineT slotT
 rw [allT_iff.1 h _ (Nat.mod_lt _ hn)]
 simp
theorem slot_for {cap cls : Int} {tb : List Int} {z : List Sz} (h : (slotC cap cls tb z).2 = 0) : chkT cap cls tb z = 0 ∧ 1 ≤ (nth z cls.toNat).most ∧
  ∃ (G : Nat → Int) (s p : Nat) (q : Int), slotC cap cls tb z = (⟨fvals G (s + p), p, q⟩, 0) ∧ FC G s p q ∧ G 0 = 0 ∧ (∀ a d : Nat, G d ≤ cntS cap ((nth z cls.toNat).most - 1) (mineT tb cls) a d) ∧
   (allT cls tb = true → G = lineF cap ((nth z cls.toNat).most - 1)) ∧ (¬ allT cls tb = true → G = slotF cap ((nth z cls.toNat).most - 1) (mineT tb cls) tb.length) := by
 by_cases h0 : chkT cap cls tb z = 0
 ·by_cases h1 : someT cls tb = false ∨ (nth z cls.toNat).most < 1
  ·have : slotC cap cls tb z = (zcv, 5) := by unfold slotC; rw [if_neg (fun h => h h0), if_pos h1]
   rw [this] at h; cases h
  ·have hm1 : 1 ≤ (nth z cls.toNat).most := by
    apply Classical.byContradiction
    intro hn; exact h1 (.inr (by omega))
   refine ⟨h0, hm1, ?_⟩
   obtain ⟨c1, c2, k1, k2, zl, ⟨t1, t2, _⟩, hz⟩ := chkT_ok h0
   have hzk := hz _ (nth_mem (xs := z) (k := cls.toNat) (by omega))
   by_cases ha : allT cls tb = true
   ·by_cases hf : 400 * cap < (nth z cls.toNat).most - 1
    ·have : slotC cap cls tb z = (zcv, 3) := by unfold slotC; rw [if_neg (fun h => h h0), if_neg h1, if_pos ha, if_pos hf]
     rw [this] at h; cases h
    ·have e0 : slotC cap cls tb z = madeR ⟨fvals (lineF cap ((nth z cls.toNat).most - 1)) 401, 1, cap⟩ := by unfold slotC; rw [if_neg (fun h => h h0), if_neg h1, if_pos ha, if_neg hf]
     have e1 := line_build (cap := cap) (lost := (nth z cls.toNat).most - 1) (by omega) (by omega)
     rw [if_neg hf] at e1
     obtain ⟨q1, q2, q3⟩ := lost_quo (cap := cap) (lost := (nth z cls.toNat).most - 1) (by omega) (by omega)
     have hb : ∀ t : Nat, t ≤ 2000 → lineF cap ((nth z cls.toNat).most - 1) t < INF := fun t ht => by
      have h1 := (lineF_bound (cap := cap) (lost := (nth z cls.toNat).most - 1) (by omega) (by omega) t).2
      have h2 := (mulB (a := cap) (b := (t : Int)) (A := 4000) (B := 2000) (by omega) (by omega)).2
      unfold INF; omega
     rcases build_fc (P := 1) (by omega) (by omega) (lineF_grows (cap := cap) (by omega) q1) (fun t => lineF_mono (by omega) t) (lineF_bound (by omega) (by omega) 0).1 (fun t ht => hb t (by omega)) with e | ⟨s, p, q, e, hfc⟩
     ·rw [e0, ← e1, e] at h; cases h
     ·refine ⟨_, s, p, q, by rw [e0, ← e1, e], hfc, ?_, fun a d => ?_, fun _ => rfl, fun hna => absurd ha hna⟩
      ·unfold lineF; simp; omega
      ·unfold cntS
       rw [slotS_all (mineT_all (by omega) ha)]
       unfold lineF
       dsimp only; omega
   ·obtain ⟨b, _, hb⟩ := allT_not ha
    have e0 : slotC cap cls tb z = madeR ⟨fvals (slotF cap ((nth z cls.toNat).most - 1) (mineT tb cls) tb.length) (3 * tb.length + tb.length), tb.length,
  slotF cap ((nth z cls.toNat).most - 1) (mineT tb cls) tb.length (4 * tb.length - 1) - slotF cap ((nth z cls.toNat).most - 1) (mineT tb cls) tb.length (3 * tb.length - 1)⟩ := by unfold slotC; rw [if_neg (fun h => h h0), if_neg h1, if_neg ha]
    obtain ⟨i1, hg, i2, e1⟩ := slot_build (cap := cap) (lost := (nth z cls.toNat).most - 1) (mine := mineT tb cls) (n := tb.length) (by omega) (by omega) (fun i => mineT_per i) (by omega) hb
    rw [← e1] at e0
    have hbd : ∀ t : Nat, t ≤ 2000 → slotF cap ((nth z cls.toNat).most - 1) (mineT tb cls) tb.length t ≤ 8000000 := fun t ht => by
     have h1 := (slotF_bound (cap := cap) (lost := (nth z cls.toNat).most - 1) (mine := mineT tb cls) (n := tb.length) (by omega) (by omega) (by omega) t).2
     have h2 := (mulB (a := cap) (b := (t : Int)) (A := 4000) (B := 2000) (by omega) (by omega)).2
     omega
    obtain ⟨s, p, q, e, hfc, _, _⟩ := build_ok (by omega) ⟨i2, by have := hbd (2 * tb.length) (by omega); have := (slotF_bound (cap := cap) (lost := (nth z cls.toNat).most - 1) (mine := mineT tb cls) (n := tb.length) (by omega) (by omega) (by omega) tb.length).1; omega⟩ (by omega) hg (fun t => slotF_mono (by omega) (by omega) t) (slotF_bound (by omega) (by omega) (by omega) 0).1 (fun t ht => by have := hbd t (by omega); omega)
    refine ⟨_, s, p, q, by rw [e0, e], hfc, ?_, fun a d => slotF_le (by omega) a d, fun h => absurd h ha, fun _ => rfl⟩
    have := slotF_bound (cap := cap) (lost := (nth z cls.toNat).most - 1) (mine := mineT tb cls) (n := tb.length) (by omega) (by omega) (by omega) 0
    simp at this; omega
 ·have : slotC cap cls tb z = (zcv, chkT cap cls tb z) := if_pos h0
  rw [this] at h
  exact absurd h h0
end Go.Proofs.YthpblaoehlgpfaaGreat.M

/- Lines with any of the schedulers, plain: delays, backlogs, peaks; their curves are valid. No condition. -/
namespace Go.Proofs.YthpblaoehlgpfaaGreat.M
open Go Go.Proofs.YthpblaoehlgpfaaGreat.K
def backC (a b : Cv) : (Bool × Int × Int) × Int := devN (normR a) (normR b) (gapA (normR a) (normR b) 0)
def peakC (a b : Cv) : (Bool × Int × Int) × Int := devN (normR a) (normR b) (gapA (normR a) (normR b) 1)
def measL (D : Cv → Cv → (Bool × Int × Int) × Int) (L : Ln) (cls : Int) (ls : List Cv) (z : List Sz) : (Bool × Int × Int) × Int :=
  if (curveL L cls ls z).2 ≠ 0 then ((false, 0, 0), (curveL L cls ls z).2) else D (nth ls cls.toNat) (curveL L cls ls z).1
def delayL (L : Ln) (cls : Int) (ls : List Cv) (z : List Sz) : (Bool × Int × Int) × Int :=
  if L.kind ≠ 1 then measL delayC L cls ls z else if argE L cls ls z ≠ 0 then ((false, 0, 0), argE L cls ls z) else allC L.cap ls
theorem waitL_len {v : Int} (h : 0 ≤ v) : (waitL v).length = (v + 2).toNat := by simp [waitL]
theorem waitL_nth {v : Int} (h : 0 ≤ v) {i : Nat} (hi : i < (v + 2).toNat) : nth (waitL v) i = if i = (v + 1).toNat then INF else 0 := by
 unfold waitL
 by_cases e : i = (v + 1).toNat
 ·rw [if_pos e, e, nth_set_self (by rw [List.length_replicate]; omega)]
 ·rw [if_neg e, nth_set_ne (fun h => e h.symm), nth_replicate hi]
theorem wait_valid {v : Int} (h : 0 ≤ v ∧ v ≤ 398) : validB ⟨waitL v, 1, 0⟩ = true := by
 unfold validB
 have hl := waitL_len h.1
 dsimp only
 rw [hl]
 have hlast : nth (waitL v) ((v + 2).toNat - 1) = INF := by rw [waitL_nth h.1 (by omega), if_pos (by omega)]
 rw [hlast, if_pos rfl]
 simp only [Bool.and_eq_true, decide_eq_true_eq, List.all_eq_true, List.mem_range, Bool.or_eq_true, beq_iff_eq]
 refine ⟨⟨⟨⟨⟨⟨⟨⟨by omega, by omega⟩, by omega⟩, by omega⟩, by omega⟩, by omega⟩, by decide⟩, fun i hi => ⟨?_, ?_⟩⟩, trivial, trivial⟩
 ·rw [waitL_nth h.1 hi]
  split
  ·exact .inl rfl
  ·exact .inr ⟨by decide, by decide⟩
 ·by_cases h0 : i = 0
  ·exact .inl h0
  ·right
   rw [waitL_nth h.1 hi, waitL_nth h.1 (show i - 1 < _ by omega), if_neg (show ¬ i - 1 = (v + 1).toNat by omega)]
   split <;> decide
theorem waitC_valid {v : Int} (h : (waitC v).2 = 0) : validB (waitC v).1 = true := by
 unfold waitC at h ⊢
 by_cases h1 : v < 0
 ·rw [if_pos h1] at h; cases h
 ·rw [if_neg h1] at h ⊢
  by_cases h2 : 398 < v
  ·rw [if_pos h2] at h; cases h
  ·rw [if_neg h2]; exact wait_valid ⟨by omega, by omega⟩
theorem fifoC_valid {cap : Int} {ls : List Cv} (h : (fifoC cap ls).2 = 0) : validB (fifoC cap ls).1 = true := by
 unfold fifoC at h ⊢
 by_cases h1 : (allC cap ls).2 ≠ 0
 ·rw [if_pos h1] at h; exact absurd h h1
 ·rw [if_neg h1] at h ⊢
  by_cases h2 : (allC cap ls).1.1 = true
  ·rw [if_pos h2] at h; cases h
  ·rw [if_neg h2] at h ⊢; exact waitC_valid h
theorem prioC_valid {cap cls : Int} {ls : List Cv} {z : List Sz} (hl : ∀ c ∈ ls, validB c = true) (h : (prioC cap cls ls z).2 = 0) : validB (prioC cap cls ls z).1 = true := by
 unfold prioC at h ⊢
 by_cases h1 : chk18 cap cls z ≠ 0
 ·rw [if_pos h1] at h; exact absurd h h1
 ·rw [if_neg h1] at h ⊢
  obtain ⟨p1, p2, p3, p4, p5, hz⟩ := chk18_ok (show chk18 cap cls z = 0 by omega)
  by_cases h2 : ls.length ≠ z.length
  ·rw [if_pos h2] at h; cases h
  ·rw [if_neg h2] at h ⊢
   by_cases h3 : allV ls = false
   ·rw [if_pos h3] at h; cases h
   ·rw [if_neg h3] at h ⊢
    have hb : 0 ≤ blkN cls z ∧ blkN cls z ≤ 1499 := blk_range hz (Nat.le_refl _)
    rcases mid_res (l := ls.take cls.toNat) (fun c hc => hl c (List.mem_of_mem_take hc)) (k := blkN cls z) ⟨hb.1, by have : MAXV = 1073741824 := rfl; omega⟩ with e | ⟨c, e, hn⟩
    ·rw [e, if_pos (by decide)] at h; cases h
    ·rw [e, if_neg (fun hh => hh rfl)] at h ⊢
     rcases rest_res (cap := cap) (g := c) ⟨by omega, by omega⟩ hn.valid with e2 | ⟨c2, e2, hn2, _⟩
     ·dsimp only at h; rw [e2] at h; cases h
     ·dsimp only; rw [e2]; exact hn2.valid
theorem sched_valid {L : Ln} {cls : Int} {ls : List Cv} {z : List Sz} (hl : ∀ c ∈ ls, validB c = true) (h : (schedC L cls ls z).2 = 0) : validB (schedC L cls ls z).1 = true := by
 unfold schedC at h ⊢
 by_cases k1 : L.kind = 1
 ·rw [if_pos k1] at h ⊢; exact fifoC_valid h
 ·rw [if_neg k1] at h ⊢
  by_cases k2 : L.kind = 2
  ·rw [if_pos k2] at h ⊢; exact prioC_valid hl h
  ·rw [if_neg k2] at h ⊢
   by_cases k3 : L.kind = 3
   ·rw [if_pos k3] at h ⊢
    obtain ⟨_, _, G, s, p, q, hc⟩ := rob_for h
    rw [hc.1]; exact hc.2.1.valid
   ·rw [if_neg k3] at h ⊢
    by_cases k4 : L.kind = 4
    ·rw [if_pos k4] at h ⊢
     obtain ⟨_, _, G, s, p, q, hc⟩ := def_for h
     rw [hc.1]; exact hc.2.1.valid
    ·rw [if_neg k4] at h ⊢
     obtain ⟨_, _, G, s, p, q, hc, hf, _⟩ := slot_for h
     rw [hc]; exact hf.valid
end Go.Proofs.YthpblaoehlgpfaaGreat.M

/- What comes later changes nothing: the law of a run, plain. No condition. -/
namespace Go.Proofs.YthpblaoehlgpfaaGreat.M
open Go Go.Proofs.YthpblaoehlgpfaaGreat.K

/-- the run of all packets beside that of the first m -/
structure Fo (len m : Nat) (s s' : RS Unit) : Prop where
  cur : s.cur = s'.cur
  rest : s.rest = s'.rest
  done : s.done = s'.done ++ List.replicate (len - m) (-1)
  dlen : s'.done.length = m
  sent : s.sent = s'.sent
  begun : s.ms.begun = s'.ms.begun ++ List.replicate (len - m) false
  blen : s'.ms.begun.length = m
  before : s.ms.before = s'.ms.before
  bm : s'.ms.before ≤ m
  now : s.ms.now = s'.ms.now
  left : s.ms.left = s'.ms.left
  lt : 0 ≤ s'.cur → s'.cur.toNat < m
theorem skipTo_append {l : List Bool} {k b : Nat} (h : b ≤ l.length) : skipTo (l ++ List.replicate k false) b = skipTo l b := by
 unfold skipTo
 rw [List.drop_append_of_le_length h]
 congr 1
 generalize l.drop b = r
 induction r with
 | nil => cases k <;> simp [List.replicate_succ]
 | cons x r ih =>
  cases x with
  | true => simp [ih]
  | false => simp
theorem nth_append_l {α : Type} [Inhabited α] {l r : List α} {i : Nat} (h : i < l.length) : nth (l ++ r) i = nth l i := by
 unfold nth List.getD; rw [List.getElem?_append_left h]
theorem nth_take {α : Type} [Inhabited α] {l : List α} {i m : Nat} (h : i < m) : nth (l.take m) i = nth l i := by
 unfold nth List.getD; rw [List.getElem?_take, if_pos h]
section
variable {ps : List Pkt} {m : Nat} {s s' : RS Unit}
theorem firstR_forget (hm : m ≤ ps.length) (h : Fo ps.length m s s') (ht : ∀ i, m ≤ i → i < ps.length → s.ms.now < (nth ps i).time) : firstR ps s.ms = firstR (ps.take m) s'.ms ∧ skipTo s.ms.begun s.ms.before = skipTo s'.ms.begun s'.ms.before := by
 have hs : skipTo s.ms.begun s.ms.before = skipTo s'.ms.begun s'.ms.before := by
  rw [h.begun, h.before, skipTo_append (by rw [h.blen]; exact h.bm)]
 have hle : skipTo s'.ms.begun s'.ms.before ≤ m := by
  have := skipTo_le (l := s'.ms.begun) (b := s'.ms.before) (by rw [h.blen]; exact h.bm)
  rw [h.blen] at this; exact this
 refine ⟨?_, hs⟩
 unfold firstR
 rw [hs, h.now]
 have hl : (ps.take m).length = m := by simp; omega
 rw [hl]
 generalize skipTo s'.ms.begun s'.ms.before = b at hle
 dsimp only
 by_cases hb : b < m
 ·rw [nth_take hb]
  have e : (b < ps.length ∧ (nth ps b).time ≤ s'.ms.now) ↔ (b < m ∧ (nth ps b).time ≤ s'.ms.now) := by constructor <;> (rintro ⟨h1, h2⟩; exact ⟨by omega, h2⟩)
  simp only [e]
 ·rw [if_neg (show ¬ (b < m ∧ _) from fun h => hb h.1), if_neg]
  rintro ⟨h1, h2⟩
  have := ht b (by omega) h1
  rw [h.now] at this; omega
theorem set_append_l {α : Type} {l r : List α} {i : Nat} {x : α} (h : i < l.length) : (l ++ r).set i x = l.set i x ++ r := List.set_append_left _ _ h
theorem Fo.pickup (hm : m ≤ ps.length) (h : Fo ps.length m s s') (ht : ∀ i, m ≤ i → i < ps.length → s.ms.now < (nth ps i).time) : Fo ps.length m (pickup ps (fifo ps) s) (pickup (ps.take m) (fifo (ps.take m)) s') := by
 obtain ⟨h1, h2⟩ := firstR_forget hm h ht
 unfold M.pickup
 rw [h.cur]
 by_cases hc : 0 ≤ s'.cur
 ·rw [if_pos hc, if_pos hc]; exact h
 ·rw [if_neg hc, if_neg hc]
  have hf : fifo ps s.ms s.sg = (firstR (ps.take m) s'.ms, skipTo s'.ms.begun s'.ms.before, ()) := by unfold fifo; rw [h1, h2]
  have hf2 : fifo (ps.take m) s'.ms s'.sg = (firstR (ps.take m) s'.ms, skipTo s'.ms.begun s'.ms.before, ()) := rfl
  rw [hf, hf2]
  dsimp only
  have hlt := firstR_lt (ps.take m) s'.ms
  have hl : (ps.take m).length = m := by simp; omega
  rw [hl] at hlt
  have hle : skipTo s'.ms.begun s'.ms.before ≤ m := by
   have := skipTo_le (l := s'.ms.begun) (b := s'.ms.before) (by rw [h.blen]; exact h.bm)
   rw [h.blen] at this; exact this
  by_cases hr : firstR (ps.take m) s'.ms < 0
  ·rw [if_pos hr, if_pos hr]
   exact ⟨rfl, h.rest, h.done, h.dlen, h.sent, h.begun, h.blen, rfl, hle, h.now, h.left, fun h0 => by dsimp only at h0; omega⟩
  ·rw [if_neg hr, if_neg hr]
   have hi : (firstR (ps.take m) s'.ms).toNat < m := by omega
   exact ⟨rfl, by dsimp only; rw [nth_take hi], h.done, h.dlen, h.sent, by dsimp only; rw [h.begun, set_append_l (by rw [h.blen]; exact hi)], by simp [h.blen], rfl, hle, h.now, h.left, fun _ => hi⟩
theorem Fo.send {t : Nat} (h : Fo ps.length m s s') (hc : 0 ≤ s'.cur) : Fo ps.length m (send ps t s) (send (ps.take m) t s') := by
 have hi := h.lt hc
 unfold M.send
 rw [h.left, h.rest, h.cur, nth_take hi, h.sent, h.done]
 generalize (if s'.ms.left < s'.rest then s'.ms.left else s'.rest) = k
 refine ⟨rfl, rfl, ?_, ?_, rfl, h.begun, h.blen, h.before, h.bm, h.now, rfl, ?_⟩
 ·dsimp only
  split
  ·rw [set_append_l (by rw [h.dlen]; exact hi)]
  ·rfl
 ·dsimp only
  split
  ·simp [h.dlen]
  ·exact h.dlen
 ·dsimp only
  split
  ·intro h0; omega
  ·exact h.lt
theorem Fo.inner (hm : m ≤ ps.length) {t : Nat} (ht : ∀ i, m ≤ i → i < ps.length → (t : Int) < (nth ps i).time) : ∀ (j : Nat) (s s' : RS Unit), Fo ps.length m s s' → s.ms.now = t →
  Fo ps.length m (inner ps (fifo ps) t j s) (inner (ps.take m) (fifo (ps.take m)) t j s')
 | 0, s, s', h, hn => h
 | j + 1, s, s', h, hn => by
  simp only [M.inner]
  rw [h.left]
  by_cases h0 : s'.ms.left ≤ 0
  ·rw [if_pos h0, if_pos h0]; exact h
  ·rw [if_neg h0, if_neg h0]
   have hp := h.pickup hm (by rw [hn]; exact ht)
   rw [hp.cur]
   by_cases hc : (M.pickup (ps.take m) (fifo (ps.take m)) s').cur < 0
   ·rw [if_pos hc, if_pos hc]; exact hp
   ·rw [if_neg hc, if_neg hc]
    exact Fo.inner hm ht j _ _ (hp.send (by omega)) (by unfold M.send; dsimp only; rw [(pickup_same ps (fifo ps) s).2.1]; exact hn)
theorem Fo.ticks (hm : m ≤ ps.length) {c : Int} {n : Nat} (ht : ∀ i, m ≤ i → i < ps.length → (n : Int) ≤ (nth ps i).time) : ∀ (k t : Nat) (s s' : RS Unit), t + k ≤ n → Fo ps.length m s s' →
  Fo ps.length m (ticksFrom ps (fifo ps) c t k s) (ticksFrom (ps.take m) (fifo (ps.take m)) c t k s')
 | 0, t, s, s', _, h => h
 | k + 1, t, s, s', hk, h => by
  have h1 : Fo ps.length m { s with ms := { s.ms with now := t, left := c }, sent := s.sent.map fun l => l ++ [nth l t] } { s' with ms := { s'.ms with now := t, left := c }, sent := s'.sent.map fun l => l ++ [nth l t] } :=
   ⟨h.cur, h.rest, h.done, h.dlen, by dsimp only; rw [h.sent], h.begun, h.blen, h.before, h.bm, rfl, rfl, h.lt⟩
  have h2 := Fo.inner hm (t := t) (fun i h3 h4 => by have := ht i h3 h4; omega) c.toNat _ _ h1 rfl
  exact Fo.ticks hm ht k (t + 1) _ _ (by omega) h2
end
theorem takeWhile_stop : ∀ (l : List Bool), (l.takeWhile id).length < l.length → nth l (l.takeWhile id).length = false
 | [], h => by simp at h
 | false :: l, h => by simp [nth]
 | true :: l, h => by
  simp only [List.takeWhile_cons, id, if_true, List.length_cons] at h ⊢
  have := takeWhile_stop l (by omega)
  simpa [nth, List.getD] using this
theorem skipTo_stop {l : List Bool} {b : Nat} (h : skipTo l b < l.length) : nth l (skipTo l b) = false := by
 unfold skipTo at h ⊢
 have := takeWhile_stop (l.drop b) (by rw [List.length_drop]; omega)
 unfold nth List.getD at this ⊢
 rw [List.getElem?_drop] at this
 exact this
/-- what has not been finished -/
def Fin (len : Nat) (s : RS Unit) : Prop := s.ms.begun.length = len ∧ s.done.length = len ∧ (∀ i, i < len → (s.cur = i ∨ nth s.ms.begun i = false) → nth s.done i = -1) ∧ (0 ≤ s.cur → s.cur.toNat < len ∧ nth s.ms.begun s.cur.toNat = true)
section
variable {ps : List Pkt} {s s0 : RS Unit}
theorem Fin.pickup (h : Fin ps.length s) : Fin ps.length (pickup ps (fifo ps) s) := by
 obtain ⟨h1, h2, h3, h4⟩ := h
 unfold M.pickup
 split
 ·exact ⟨h1, h2, h3, h4⟩
 ·rename_i hc
  have hf : fifo ps s.ms s.sg = (firstR ps s.ms, skipTo s.ms.begun s.ms.before, ()) := rfl
  rw [hf]
  dsimp only
  split
  ·refine ⟨h1, h2, fun i hi ho => h3 i hi ?_, fun h0 => by dsimp only at h0; omega⟩
   rcases ho with ho | ho
   ·dsimp only at ho; omega
   ·exact .inr ho
  ·rename_i hr
   have hlt := (firstR_lt ps s.ms).1
   have hb : nth s.ms.begun (firstR ps s.ms).toNat = false := by
    unfold firstR at hr hlt ⊢
    dsimp only at hr hlt ⊢
    split at hr
    ·rename_i hh
     rw [if_pos hh]
     simp only [Int.toNat_natCast]
     exact skipTo_stop (by rw [h1]; exact hh.1)
    ·omega
   refine ⟨by simp [h1], h2, fun i hi ho => ?_, fun _ => ⟨by dsimp only; omega, by dsimp only; rw [nth_set_self (by omega)]⟩⟩
   dsimp only at ho ⊢
   by_cases e : i = (firstR ps s.ms).toNat
   ·subst e; exact h3 _ hi (.inr hb)
   ·rcases ho with ho | ho
    ·omega
    ·rw [nth_set_ne (fun h => e h.symm)] at ho
     exact h3 i hi (.inr ho)
theorem Fin.send {t : Nat} (h : Fin ps.length s) (hc : 0 ≤ s.cur) : Fin ps.length (send ps t s) := by
 obtain ⟨h1, h2, h3, h4⟩ := h
 unfold M.send
 generalize (if s.ms.left < s.rest then s.ms.left else s.rest) = k
 dsimp only
 split
 ·refine ⟨h1, by simp [h2], fun i hi ho => ?_, fun h0 => by dsimp only at h0; omega⟩
  dsimp only at ho ⊢
  rcases ho with ho | ho
  ·omega
  ·by_cases e : s.cur.toNat = i
   ·have := (h4 hc).2; rw [e] at this; rw [this] at ho; cases ho
   ·rw [nth_set_ne e]; exact h3 i hi (.inr ho)
 ·exact ⟨h1, h2, h3, h4⟩
/-- what lies behind the tick n changes nothing of what was -/
structure Past (n : Nat) (s0 s : RS Unit) : Prop where
  slen : s.sent.length = s0.sent.length
  sent : ∀ k, k < s.sent.length → (nth s.sent k).take (n + 1) = (nth s0.sent k).take (n + 1)
  rlen : ∀ k, k < s.sent.length → n + 1 ≤ (nth s.sent k).length
  dlen : s.done.length = s0.done.length
  kept : ∀ i, 0 ≤ nth s0.done i → nth s.done i = nth s0.done i
  new : ∀ i, nth s0.done i < 0 → nth s.done i < 0 ∨ (n : Int) ≤ nth s.done i
theorem Past.send {n t : Nat} (hn : n ≤ t) (h : Past n s0 s) (hf : Fin ps.length s) (hc : 0 ≤ s.cur) : Past n s0 (send ps t s) := by
 obtain ⟨h1, h2, h3, h4⟩ := hf
 unfold M.send
 generalize (if s.ms.left < s.rest then s.ms.left else s.rest) = k
 generalize (nth ps s.cur.toNat).flow.toNat = f
 refine ⟨by simp [h.slen], fun j hj => ?_, fun j hj => ?_, ?_, ?_, ?_⟩
 ·dsimp only at hj ⊢
  rw [List.length_set] at hj
  by_cases e : f = j
  ·subst e
   rw [nth_set_self hj, List.take_set_of_le (by omega)]
   exact h.sent _ hj
  ·rw [nth_set_ne e]; exact h.sent _ hj
 ·dsimp only at hj ⊢
  rw [List.length_set] at hj
  by_cases e : f = j
  ·subst e
   rw [nth_set_self hj, List.length_set]
   exact h.rlen _ hj
  ·rw [nth_set_ne e]; exact h.rlen _ hj
 ·dsimp only; split <;> simp [h.dlen]
 ·intro i hi
  dsimp only
  split
  ·by_cases e : s.cur.toNat = i
   ·have h5 := h.kept i hi
    have h6 := h3 i (by rw [← e]; exact (h4 hc).1) (.inl (by omega))
    omega
   ·rw [nth_set_ne e]; exact h.kept i hi
  ·exact h.kept i hi
 ·intro i hi
  dsimp only
  split
  ·by_cases e : s.cur.toNat = i
   ·subst e
    rw [nth_set_self (by rw [h2]; exact (h4 hc).1)]
    right; omega
   ·rw [nth_set_ne e]; exact h.new i hi
  ·exact h.new i hi
theorem Past.pickup {n : Nat} (h : Past n s0 s) : Past n s0 (pickup ps (fifo ps) s) := by
 obtain ⟨e1, e2, e3, e4⟩ := pickup_same ps (fifo ps) s
 exact ⟨by rw [e3]; exact h.slen, by rw [e3]; exact h.sent, by rw [e3]; exact h.rlen, by rw [e4]; exact h.dlen, by rw [e4]; exact h.kept, by rw [e4]; exact h.new⟩
theorem Past.inner {n t : Nat} (hn : n ≤ t) : ∀ (j : Nat) (s : RS Unit), Past n s0 s → Fin ps.length s → Past n s0 (inner ps (fifo ps) t j s) ∧ Fin ps.length (inner ps (fifo ps) t j s)
 | 0, s, h, hf => ⟨h, hf⟩
 | j + 1, s, h, hf => by
  simp only [M.inner]
  split
  ·exact ⟨h, hf⟩
  ·split
   ·exact ⟨h.pickup, hf.pickup⟩
   ·rename_i hc
    exact Past.inner hn j _ (h.pickup.send hn hf.pickup (by omega)) (hf.pickup.send (by omega))
theorem Past.ticks {n : Nat} {c : Int} : ∀ (k t : Nat) (s : RS Unit), n ≤ t → Past n s0 s → Fin ps.length s → Past n s0 (ticksFrom ps (fifo ps) c t k s)
 | 0, t, s, hn, h, hf => h
 | k + 1, t, s, hn, h, hf => by
  have h1 : Past n s0 { s with ms := { s.ms with now := t, left := c }, sent := s.sent.map fun l => l ++ [nth l t] } := by
   refine ⟨by simp [h.slen], fun j hj => ?_, fun j hj => ?_, h.dlen, h.kept, h.new⟩
   ·dsimp only at hj ⊢
    rw [List.length_map] at hj
    rw [nth_map_lt _ hj, List.take_append_of_le_length (h.rlen j hj)]
    exact h.sent j hj
   ·dsimp only at hj ⊢
    rw [List.length_map] at hj
    rw [nth_map_lt _ hj, List.length_append]
    have := h.rlen j hj; omega
  obtain ⟨h2, h3⟩ := Past.inner (ps := ps) hn c.toNat _ h1 ⟨hf.1, hf.2.1, hf.2.2.1, hf.2.2.2⟩
  exact Past.ticks k (t + 1) _ (by omega) h2 h3
end
end Go.Proofs.YthpblaoehlgpfaaGreat.M

/- Two machines beside each other: what comes later, what is later, what is scaled, other states; plain. No condition. -/
namespace Go.Proofs.YthpblaoehlgpfaaGreat.M
open Go Go.Proofs.YthpblaoehlgpfaaGreat.K

def mapS (n : Nat) (k : Int) (l : List Int) : List Int := List.replicate n 0 ++ l.map (fun x => x * k)
theorem nth_mulS {l : List Int} {k : Int} {j : Nat} : nth (l.map fun x => x * k) j = nth l j * k := by
 by_cases h : j < l.length
 ·rw [nth_map_lt _ h]
 ·unfold nth List.getD
  rw [List.getElem?_eq_none (by simpa using h), List.getElem?_eq_none (by omega)]
  simp
theorem nth_mapS {n : Nat} {k : Int} {l : List Int} {j : Nat} : nth (mapS n k l) (j + n) = nth l j * k := by
 unfold mapS; rw [nth_rep, nth_mulS]
theorem set_mapS {n : Nat} {k : Int} {l : List Int} {j : Nat} {x : Int} : (mapS n k l).set (j + n) (x * k) = mapS n k (l.set j x) := by
 unfold mapS; rw [set_rep, List.map_set]
/-- the packets of the second machine: the first m, later, scaled -/
structure Pk (n : Nat) (k : Int) (m : Nat) (N : Int) (ps ps' : List Pkt) : Prop where
  hm : m ≤ ps.length
  len : ps'.length = m
  flow : ∀ i, i < m → (nth ps' i).flow = (nth ps i).flow
  size : ∀ i, i < m → (nth ps' i).size = (nth ps i).size * k
  time : ∀ i, i < m → (nth ps' i).time = (nth ps i).time + n
  late : ∀ i, m ≤ i → i < ps.length → N ≤ (nth ps i).time
  pos : ∀ i, i < m → 1 ≤ (nth ps i).size
  hk : 1 ≤ k
/-- what the two schedulers see -/
structure Tv (n : Nat) (k : Int) (m len : Nat) (ms ms' : MS) : Prop where
  begun : ms.begun = ms'.begun ++ List.replicate (len - m) false
  blen : ms'.begun.length = m
  before : ms'.before = ms.before
  bm : ms.before ≤ m
  now : ms'.now = ms.now + n
  left : ms'.left = ms.left * k
/-- the choices are the same -/
def Twin {σ σ' : Type} (n : Nat) (k : Int) (m len : Nat) (N : Int) (Sg : σ → σ' → Prop) (good : MS → σ → Prop) (ch : MS → σ → Int × Nat × σ) (ch' : MS → σ' → Int × Nat × σ') : Prop :=
  ∀ ms ms' sg sg', Tv n k m len ms ms' → 0 ≤ ms.now → ms.now < N → good ms sg → Sg sg sg' →
    (ch' ms' sg').1 = (ch ms sg).1 ∧ -1 ≤ (ch ms sg).1 ∧ (ch ms sg).1 < m ∧ (ch' ms' sg').2.1 = (ch ms sg).2.1 ∧ (ch ms sg).2.1 ≤ m ∧ Sg (ch ms sg).2.2 (ch' ms' sg').2.2
structure Tw {σ σ' : Type} (n : Nat) (k : Int) (m len : Nat) (Sg : σ → σ' → Prop) (good : MS → σ → Prop) (s : RS σ) (s' : RS σ') : Prop where
  cur : s'.cur = s.cur
  rest : s'.rest = s.rest * k
  done : s'.done = (s.done.take m).map (shD n)
  dlen : s.done.length = len
  sent : s'.sent = s.sent.map (mapS n k)
  begun : s.ms.begun = s'.ms.begun ++ List.replicate (len - m) false
  blen : s'.ms.begun.length = m
  before : s'.ms.before = s.ms.before
  bm : s.ms.before ≤ m
  sg : Sg s.sg s'.sg
  good : good s.ms s.sg
  neg : s.cur < 0 → s.cur = -1
  pos : 0 ≤ s.cur → 1 ≤ s.rest ∧ s.cur.toNat < m
structure TwT {σ σ' : Type} (n : Nat) (k : Int) (m len : Nat) (Sg : σ → σ' → Prop) (good : MS → σ → Prop) (s : RS σ) (s' : RS σ') : Prop extends Tw n k m len Sg good s s' where
  now : s'.ms.now = s.ms.now + n
  left : s'.ms.left = s.ms.left * k
section
variable {σ σ' : Type} {n : Nat} {k N : Int} {m : Nat} {ps ps' : List Pkt} {Sg : σ → σ' → Prop} {good : MS → σ → Prop} {ch : MS → σ → Int × Nat × σ} {ch' : MS → σ' → Int × Nat × σ'} {s : RS σ} {s' : RS σ'}
theorem TwT.tv (h : TwT n k m ps.length Sg good s s') : Tv n k m ps.length s.ms s'.ms := ⟨h.begun, h.blen, h.before, h.bm, h.now, h.left⟩
theorem TwT.pickup (hP : Pk n k m N ps ps') (hT : Twin n k m ps.length N Sg good ch ch') (hg : Good ps ch good) (h : TwT n k m ps.length Sg good s s') (h0 : 0 ≤ s.ms.now) (hN : s.ms.now < N) : TwT n k m ps.length Sg good (pickup ps ch s) (pickup ps' ch' s') := by
 have hm := hP.hm
 have hbl : s.ms.begun.length = ps.length := by rw [h.begun, List.length_append, h.blen, List.length_replicate]; omega
 unfold M.pickup
 rw [h.cur]
 by_cases hc : 0 ≤ s.cur
 ·rw [if_pos hc, if_pos hc]; exact h
 ·rw [if_neg hc, if_neg hc]
  obtain ⟨t1, t2, t3, t4, t5, t6⟩ := hT s.ms s'.ms s.sg s'.sg h.tv h0 hN h.good h.sg
  have g1 := hg.some s.ms s.sg h.good hbl
  have g2 := hg.none s.ms s.sg h.good hbl
  dsimp only
  rw [t1, t4]
  by_cases hr : (ch s.ms s.sg).1 < 0
  ·rw [if_pos hr, if_pos hr]
   exact ⟨⟨rfl, h.rest, h.done, h.dlen, h.sent, h.begun, h.blen, rfl, t5, t6, g2 hr, fun _ => by dsimp only; omega, fun h9 => by dsimp only at h9; omega⟩, h.now, h.left⟩
  ·rw [if_neg hr, if_neg hr]
   have hi : (ch s.ms s.sg).1.toNat < m := by omega
   refine ⟨⟨rfl, hP.size _ hi, h.done, h.dlen, h.sent, ?_, ?_, rfl, t5, t6, g1 (by omega), fun h9 => by dsimp only at h9; omega, fun _ => ⟨hP.pos _ hi, hi⟩⟩, h.now, h.left⟩
   ·dsimp only
    rw [h.begun, set_append_l (by rw [h.blen]; exact hi)]
   ·dsimp only
    rw [List.length_set]; exact h.blen
theorem TwT.send (hP : Pk n k m N ps ps') (hg : Good ps ch good) {t : Nat} (h : TwT n k m ps.length Sg good s s') (hc : 0 ≤ s.cur) (hl : 0 < s.ms.left) : TwT n k m ps.length Sg good (send ps t s) (send ps' (t + n) s') ∧ (send ps t s).ms.left < s.ms.left ∧ (send ps t s).ms.now = s.ms.now := by
 have hk := hP.hk
 obtain ⟨h1, h2⟩ := h.pos hc
 have hn : (if s'.ms.left < s'.rest then s'.ms.left else s'.rest) = (if s.ms.left < s.rest then s.ms.left else s.rest) * k := by
  rw [h.left, h.rest]
  by_cases hlt : s.ms.left < s.rest
  ·rw [if_pos hlt, if_pos (Int.mul_lt_mul_of_pos_right hlt (by omega))]
  ·rw [if_neg hlt, if_neg (by have := Int.mul_le_mul_of_nonneg_right (show s.rest ≤ s.ms.left by omega) (show 0 ≤ k by omega); omega)]
 have hn1 : 1 ≤ (if s.ms.left < s.rest then s.ms.left else s.rest) ∧ (if s.ms.left < s.rest then s.ms.left else s.rest) ≤ s.rest := by split <;> omega
 unfold M.send
 rw [hn, h.cur, hP.flow _ h2]
 generalize (if s.ms.left < s.rest then s.ms.left else s.rest) = x at hn1 ⊢
 generalize (nth ps s.cur.toNat).flow.toNat = f
 have hz : s'.rest - x * k = (s.rest - x) * k := by rw [h.rest, Int.sub_mul]
 have hz2 : (s.rest - x) * k = 0 ↔ s.rest - x = 0 := by
  rw [Int.mul_eq_zero]; omega
 have hz3 : s'.ms.left - x * k = (s.ms.left - x) * k := by rw [h.left, Int.sub_mul]
 dsimp only
 rw [hz, hz3]
 simp only [hz2]
 refine ⟨⟨⟨rfl, rfl, ?_, ?_, ?_, h.begun, h.blen, h.before, h.bm, h.sg, hg.free _ _ _ (s.ms.left - x) h.good, ?_, ?_⟩, h.now, rfl⟩, by omega, by trivial⟩
 ·dsimp only
  split
  ·have e : shD n (t : Int) = ((t + n : Nat) : Int) := by unfold shD; rw [if_neg (by omega)]; omega
   rw [h.done, List.take_set, List.map_set, e]
  ·exact h.done
 ·dsimp only
  split
  ·rw [List.length_set]; exact h.dlen
  ·exact h.dlen
 ·dsimp only
  rw [h.sent]
  by_cases hf : f < s.sent.length
  ·rw [nth_map_lt _ hf, List.map_set, show t + n + 1 = (t + 1) + n by omega, nth_mapS, ← Int.add_mul, set_mapS]
  ·rw [List.set_eq_of_length_le (by simpa using hf), List.set_eq_of_length_le (by omega)]
 ·dsimp only
  split
  ·intro _; rfl
  ·exact h.neg
 ·dsimp only
  split
  ·intro h9; omega
  ·intro _; exact ⟨by omega, h2⟩
theorem TwT.inner (hP : Pk n k m N ps ps') (hT : Twin n k m ps.length N Sg good ch ch') (hg : Good ps ch good) {t : Nat} : ∀ (j j' : Nat) (s : RS σ) (s' : RS σ'), TwT n k m ps.length Sg good s s' → 0 ≤ s.ms.now → s.ms.now < N → s.ms.left ≤ j → s'.ms.left ≤ j' →
  TwT n k m ps.length Sg good (inner ps ch t j s) (inner ps' ch' (t + n) j' s')
 | 0, j', s, s', h, h0, hN, hj, hj' => by
  have hk := hP.hk
  have : s'.ms.left ≤ 0 := by rw [h.left]; exact Int.mul_nonpos_of_nonpos_of_nonneg (by omega) (by omega)
  rw [inner_stop (by omega), inner_stop this]
  exact h
 | j + 1, j', s, s', h, h0, hN, hj, hj' => by
  have hk := hP.hk
  by_cases hz : s.ms.left ≤ 0
  ·have : s'.ms.left ≤ 0 := by rw [h.left]; exact Int.mul_nonpos_of_nonpos_of_nonneg (by omega) (by omega)
   rw [inner_stop hz, inner_stop this]
   exact h
  ·have hz' : 0 < s'.ms.left := by rw [h.left]; exact Int.mul_pos (by omega) (by omega)
   have hp := h.pickup hP hT hg h0 hN
   have hps := pickup_same ps ch s
   have hps' := pickup_same ps' ch' s'
   by_cases hc : (M.pickup ps ch s).cur < 0
   ·rw [inner_none hj (by omega) hc, inner_none hj' hz' (by rw [hp.cur]; exact hc)]
    exact hp
   ·rw [inner_some hj (by omega) (by omega), inner_some hj' hz' (by rw [hp.cur]; omega)]
    have hnow : (M.pickup ps ch s).ms.now = s.ms.now := by
     unfold M.pickup
     split
     ·rfl
     ·dsimp only
      split <;> rfl
    obtain ⟨g1, g2, g3⟩ := hp.send hP hg (t := t) (by omega) (by rw [hps.1]; omega)
    have e1 := g1.left
    have e2 : (M.send ps t (M.pickup ps ch s)).ms.left * k ≤ s.ms.left * k - k := by
     have : (M.send ps t (M.pickup ps ch s)).ms.left ≤ s.ms.left - 1 := by rw [hps.1] at g2; omega
     have := Int.mul_le_mul_of_nonneg_right this (show 0 ≤ k by omega)
     rw [Int.sub_mul] at this; omega
    have e3 := h.left
    refine TwT.inner hP hT hg j (j' - 1) _ _ g1 (by rw [g3, hnow]; exact h0) (by rw [g3, hnow]; exact hN) (by rw [hps.1] at g2; omega) (by rw [e1]; omega)
theorem Tw.ticks (hP : Pk n k m N ps ps') (hT : Twin n k m ps.length N Sg good ch ch') (hg : Good ps ch good) {c : Int} (hc : 0 ≤ c) : ∀ (j t : Nat) (s : RS σ) (s' : RS σ'), (t : Int) + j ≤ N → Tw n k m ps.length Sg good s s' →
  Tw n k m ps.length Sg good (ticksFrom ps ch c t j s) (ticksFrom ps' ch' (c * k) (t + n) j s')
 | 0, t, s, s', _, h => h
 | j + 1, t, s, s', hN, h => by
  have hk := hP.hk
  have hck : 0 ≤ c * k := Int.mul_nonneg hc (by omega)
  have h1 : TwT n k m ps.length Sg good { s with ms := { s.ms with now := t, left := c }, sent := s.sent.map fun l => l ++ [nth l t] } { s' with ms := { s'.ms with now := ((t + n : Nat) : Int), left := c * k }, sent := s'.sent.map fun l => l ++ [nth l (t + n)] } := by
   refine ⟨⟨h.cur, h.rest, h.done, h.dlen, ?_, h.begun, h.blen, h.before, h.bm, h.sg, hg.free _ _ _ _ h.good, h.neg, h.pos⟩, by dsimp only; omega, rfl⟩
   dsimp only
   rw [h.sent, List.map_map, List.map_map]
   apply List.map_congr_left
   intro l _
   simp only [Function.comp_apply, nth_mapS]
   unfold mapS
   simp only [List.map_append, List.append_assoc, List.map_cons, List.map_nil]
  have h2 := TwT.inner hP hT hg (t := t) c.toNat (c * k).toNat _ _ h1 (by dsimp only; omega) (by dsimp only; omega) (by dsimp only; omega) (by dsimp only; omega)
  have := Tw.ticks hP hT hg hc j (t + 1) _ _ (by omega) h2.toTw
  rw [show t + 1 + n = t + n + 1 by omega] at this
  exact this
end
end Go.Proofs.YthpblaoehlgpfaaGreat.M

/- The choices of all schedulers beside each other, plain. No condition. -/
namespace Go.Proofs.YthpblaoehlgpfaaGreat.M
open Go Go.Proofs.YthpblaoehlgpfaaGreat.K
section
variable {n : Nat} {k N : Int} {m : Nat} {ps ps' : List Pkt} {ms ms' : MS}
theorem Tv.skip (hP : Pk n k m N ps ps') (h : Tv n k m ps.length ms ms') : skipTo ms'.begun ms'.before = skipTo ms.begun ms.before ∧ skipTo ms.begun ms.before ≤ m := by
 have e : skipTo ms.begun ms.before = skipTo ms'.begun ms'.before := by
  rw [h.begun, h.before, skipTo_append (by rw [h.blen]; exact h.bm)]
 refine ⟨e.symm, ?_⟩
 rw [e]
 have := skipTo_le (l := ms'.begun) (b := ms'.before) (by rw [h.blen, h.before]; exact h.bm)
 rw [h.blen] at this; exact this
theorem Tv.first (hP : Pk n k m N ps ps') (h : Tv n k m ps.length ms ms') (hN : ms.now < N) : firstR ps' ms' = firstR ps ms ∧ -1 ≤ firstR ps ms ∧ firstR ps ms < m := by
 obtain ⟨h1, h2⟩ := h.skip hP
 have hm := hP.hm
 unfold firstR
 dsimp only
 rw [h1, hP.len, h.now]
 generalize skipTo ms.begun ms.before = b at h2
 by_cases hb : b < m
 ·have ht := hP.time b hb
  rw [ht]
  have e : (b < ps.length ∧ (nth ps b).time ≤ ms.now) ↔ (b < m ∧ (nth ps b).time + n ≤ ms.now + n) := by constructor <;> (rintro ⟨a1, a2⟩; exact ⟨by omega, by omega⟩)
  by_cases hA : b < m ∧ (nth ps b).time + n ≤ ms.now + n
  ·rw [if_pos hA, if_pos (e.2 hA)]
   exact ⟨rfl, by omega, by omega⟩
  ·rw [if_neg hA, if_neg (fun hh => hA (e.1 hh))]
   exact ⟨rfl, by omega, by omega⟩
 ·have e1 : ¬ (b < m ∧ (nth ps' b).time ≤ ms.now + n) := fun hh => hb hh.1
  have e2 : ¬ (b < ps.length ∧ (nth ps b).time ≤ ms.now) := fun ⟨a1, a2⟩ => by
   have := hP.late b (by omega) a1
   omega
  rw [if_neg e1, if_neg e2]
  omega
theorem findN_ext {P P' : Nat → Bool} {m len : Nat} (hm : m ≤ len) (h : ∀ i, i < m → P i = P' i) (hl : ∀ i, m ≤ i → i < len → P i = false) : findN P' m = findN P len ∧ -1 ≤ findN P len ∧ (findN P len < m) := by
 unfold findN
 rcases findFrom_cases P len 0 with ⟨i, a1, a2, a3, a4, a5⟩ | ⟨a1, a2⟩
 ·have him : i < m := by
   apply Classical.byContradiction
   intro hh
   rw [hl i (by omega) (by omega)] at a4; cases a4
  rcases findFrom_cases P' m 0 with ⟨j, b1, b2, b3, b4, b5⟩ | ⟨b1, b2⟩
  ·have e : j = i := by
    apply Classical.byContradiction
    intro hne
    rcases Nat.lt_or_gt_of_ne hne with hl | hl
    ·have := a5 j (Nat.zero_le _) hl
     rw [h j (by omega), b4] at this; cases this
    ·have := b5 i (Nat.zero_le _) hl
     rw [← h i him, a4] at this; cases this
   rw [a3, b3, e]; omega
  ·have := b2 i (Nat.zero_le _) (by omega)
   rw [← h i him, a4] at this; cases this
 ·rw [a1]
  rcases findFrom_cases P' m 0 with ⟨i, b1, b2, b3, b4, b5⟩ | ⟨b1, b2⟩
  ·have := a2 i (Nat.zero_le _) (by omega)
   rw [h i (by omega), b4] at this; cases this
  ·rw [b1]; omega
theorem Tv.next (hP : Pk n k m N ps ps') (h : Tv n k m ps.length ms ms') (hN : ms.now < N) (c : Int) : nextW ps' ms' c = nextW ps ms c ∧ -1 ≤ nextW ps ms c ∧ nextW ps ms c < m := by
 unfold nextW
 rw [hP.len]
 refine findN_ext hP.hm (fun i hi => ?_) (fun i h1 h2 => ?_)
 ·unfold nextP
  rw [hP.time i hi, hP.flow i hi, h.now, h.begun, nth_append_l (by rw [h.blen]; exact hi)]
  congr 2
  rw [decide_eq_decide]; omega
 ·unfold nextP
  have := hP.late i h1 h2
  rw [show decide ((nth ps i).time ≤ ms.now) = false from decide_eq_false (by omega)]
  rfl
def scD (k : Int) (s s' : Nat × Bool × List Int) : Prop := s'.1 = s.1 ∧ s'.2.1 = s.2.1 ∧ s'.2.2 = s.2.2.map fun x => x * k
end
end Go.Proofs.YthpblaoehlgpfaaGreat.M

/- Lines with any of the schedulers, plain: never more than a line in order of arrival; two lines beside each other. No condition. -/
namespace Go.Proofs.YthpblaoehlgpfaaGreat.M
open Go Go.Proofs.YthpblaoehlgpfaaGreat.K
/-- packets of three classes -/
structure P3 (ps : List Pkt) : Prop where
  size : ∀ p ∈ ps, 1 ≤ p.size ∧ p.size ≤ 1500
  flow : ∀ p ∈ ps, 0 ≤ p.flow ∧ p.flow < ((3 : Nat) : Int)
  sort : ps.Pairwise fun a b => a.time ≤ b.time
  time : ∀ p ∈ ps, 0 ≤ p.time
section
variable {L : Ln} {ps : List Pkt} {t : Nat}
/-- what schedules -/
def Runs (L : Ln) (ps : List Pkt) : Prop := ∃ (σ : Type) (ch : MS → σ → Int × Nat × σ) (sg : σ) (good : MS → σ → Prop), Fair ps ch good (sameFlow ps) ∧ good (start ps 3 sg).ms sg ∧ (L.kind ≠ 5 → Busy ps ch good) ∧ ∀ t, sendL L t ps = ((mrun ps ch L.cap 3 t sg).done, (mrun ps ch L.cap 3 t sg).sent)
end
/-- nothing has come -/
structure IdleS {σ : Type} (len classes j : Nat) (sg : σ) (s : RS σ) : Prop where
  cur : s.cur = -1
  rest : s.rest = 0
  done : s.done = List.replicate len (-1)
  sent : s.sent = List.replicate classes (List.replicate (j + 1) 0)
  begun : s.ms.begun = List.replicate len false
  before : s.ms.before = 0
  sg : s.sg = sg
def Still {σ : Type} (qs : List Pkt) (ch : MS → σ → Int × Nat × σ) (sg : σ) : Prop := ∀ ms, ms.begun = List.replicate qs.length false → ms.before = 0 → (∀ q ∈ qs, ms.now < q.time) → ch ms sg = (-1, 0, sg)
/-- two lines -/
structure LnT (k : Int) (L L' : Ln) : Prop where
  kind : L'.kind = L.kind
  cap : L'.cap = L.cap * k
  n : L'.n = 3
  w : L.kind ≠ 4 → L'.w = L.w
  w4 : L.kind = 4 → L'.w = L.w.map fun x => x * k
  tb : L'.tb = L.tb
def Twins (n : Nat) (k N : Int) (m : Nat) (L L' : Ln) (ps ps' : List Pkt) : Prop :=
  ∃ (σ σ' : Type) (ch : MS → σ → Int × Nat × σ) (ch' : MS → σ' → Int × Nat × σ') (sg : σ) (sg' : σ') (Sg : σ → σ' → Prop) (good : MS → σ → Prop),
    Twin n k m ps.length N Sg good ch ch' ∧ Good ps ch good ∧ good (start ps 3 sg).ms sg ∧ Sg sg sg' ∧ Still ps' ch' sg' ∧
    (∀ t, sendL L t ps = ((mrun ps ch L.cap 3 t sg).done, (mrun ps ch L.cap 3 t sg).sent)) ∧ ∀ t, sendL L' t ps' = ((mrun ps' ch' (L.cap * k) 3 t sg').done, (mrun ps' ch' (L.cap * k) 3 t sg').sent)
theorem P3.later {n : Nat} {ps : List Pkt} (h : P3 ps) : P3 (ps.map (shP n)) := by
 refine ⟨fun p hp => ?_, fun p hp => ?_, ?_, fun p hp => ?_⟩
 ·obtain ⟨q, hq, rfl⟩ := List.mem_map.1 hp; exact h.size q hq
 ·obtain ⟨q, hq, rfl⟩ := List.mem_map.1 hp; exact h.flow q hq
 ·rw [List.pairwise_map]
  exact h.sort.imp (fun {a b} hab => by unfold shP; dsimp only; omega)
 ·obtain ⟨q, hq, rfl⟩ := List.mem_map.1 hp
  have := h.time q hq
  unfold shP; dsimp only; omega
theorem LnT.self {L : Ln} (hL : DrawOk L) : LnT 1 L L := ⟨rfl, by omega, hL.n, fun _ => rfl, fun _ => by simp, rfl⟩
/-- only the first packets -/
theorem P3.take {m : Nat} {ps : List Pkt} (h : P3 ps) : P3 (ps.take m) :=
 ⟨fun p hp => h.size p (List.mem_of_mem_take hp), fun p hp => h.flow p (List.mem_of_mem_take hp), h.sort.sublist (List.take_sublist _ _), fun p hp => h.time p (List.mem_of_mem_take hp)⟩
end Go.Proofs.YthpblaoehlgpfaaGreat.M

/- The line in order of arrival, plain: how long packets wait and how much waits, when all packets together keep a curve. No condition. -/
namespace Go.Proofs.YthpblaoehlgpfaaGreat.M
open Go Go.Proofs.YthpblaoehlgpfaaGreat.K
section
variable {σ : Type} {ps : List Pkt} {ch : MS → σ → Int × Nat × σ} {good : MS → σ → Prop} {classes : Nat}
end
end Go.Proofs.YthpblaoehlgpfaaGreat.M

/- The order of arrival, plain: what a class is sent, and the theorem of the share. No condition. -/
namespace Go.Proofs.YthpblaoehlgpfaaGreat.M
open Go Go.Proofs.YthpblaoehlgpfaaGreat.K
section
variable {σ : Type} {ps : List Pkt} {ch : MS → σ → Int × Nat × σ} {good : MS → σ → Prop} {classes k : Nat}
end
end Go.Proofs.YthpblaoehlgpfaaGreat.M

/- Lines with any of the schedulers, plain: what a class is served, and how long it waits. No condition. -/
namespace Go.Proofs.YthpblaoehlgpfaaGreat.M
open Go Go.Proofs.YthpblaoehlgpfaaGreat.K
def Served (ps : List Pkt) (k m : Nat) (G : Nat → Int) (sent : List (List Int)) : Prop := ∀ t : Nat, t ≤ m → ∃ a : Nat, a ≤ t ∧ pbytes k (a : Int) ps + G (t - a) ≤ nth (nth sent k) t
def Waits (ps : List Pkt) (k m : Nat) (d : Nat) (done : List Int) : Prop := ∀ i T : Nat, i < ps.length → (nth ps i).flow = k → (nth ps i).time = T → T + d < m → 0 ≤ nth done i ∧ nth done i ≤ (T : Int) + d
def KeepsF (ps : List Pkt) (k : Nat) (F : Nat → Int) : Prop := ∀ x t : Nat, x ≤ t → pbytes k (t : Int) ps - pbytes k (x : Int) ps ≤ F (t - x)
end Go.Proofs.YthpblaoehlgpfaaGreat.M

/- Priorities: greater contracts and greater packets leave less; class 0 alone has the line, plain. No condition. -/
namespace Go.Proofs.YthpblaoehlgpfaaGreat.M
open Go Go.Proofs.YthpblaoehlgpfaaGreat.K

theorem mostF_mono {f g : Nat → Int} {n : Nat} (h : ∀ u, u < n → f u ≤ g u) : mostF f n ≤ mostF g n := mostF_le (mostF_nonneg n) (fun u hu => Int.le_trans (h u hu) (mostF_ge hu))
/-- two curves of a class: more is taken by the others -/
theorem prio_less {cap cls : Int} {ls ls2 : List Cv} {z z2 : List Sz} {c1 c2 : Cv} (h0 : chk18 cap cls z = 0) (h02 : chk18 cap cls z2 = 0) (hlen : ls.length = z.length) (hlen2 : ls2.length = z2.length) (hl : ∀ f ∈ ls, validB f = true ∧ finB f = true) (hl2 : ∀ f ∈ ls2, validB f = true ∧ finB f = true)
  (hs : ∀ t, sumUp (fun i => cvF (nth ls i) t) cls.toNat ≤ sumUp (fun i => cvF (nth ls2 i) t) cls.toNat) (hb : blkN cls z ≤ blkN cls z2) (e1 : prioC cap cls ls z = (c1, 0)) (e2 : prioC cap cls ls2 z2 = (c2, 0)) :
  ∃ (F G : Nat → Int) (S1 P1 S2 P2 : Nat) (I1 I2 : Int), c2 = ⟨fvals F (S1 + P1), P1, I1⟩ ∧ c1 = ⟨fvals G (S2 + P2), P2, I2⟩ ∧ FC F S1 P1 I1 ∧ FC G S2 P2 I2 ∧ ∀ t, F t ≤ G t := by
 rcases prio_case h0 hlen hl with h | ⟨G, s, p, q, h, hfc, hG⟩
 ·rw [h] at e1; have := congrArg Prod.snd e1; simp at this
 ·rcases prio_case h02 hlen2 hl2 with h2 | ⟨F, s2, p2, q2, h2, hfc2, hF⟩
  ·rw [h2] at e2; have := congrArg Prod.snd e2; simp at this
  ·rw [h] at e1; rw [h2] at e2
   refine ⟨F, G, s2, p2, s, p, q2, q, (congrArg Prod.fst e2).symm, (congrArg Prod.fst e1).symm, hfc2, hfc, fun t => ?_⟩
   rw [hF, hG]
   refine mostF_mono (fun u _ => ?_)
   by_cases hu : u = 0
   ·rw [if_pos hu, if_pos hu]; exact Int.le_refl _
   ·rw [if_neg hu, if_neg hu]
    have := hs u
    omega
end Go.Proofs.YthpblaoehlgpfaaGreat.M

/- Greater contracts never give a greater curve or a lesser delay, for a line with any of the schedulers, plain. No condition. -/
namespace Go.Proofs.YthpblaoehlgpfaaGreat.M
open Go Go.Proofs.YthpblaoehlgpfaaGreat.K
theorem fin_fc {F : Nat → Int} {s p : Nat} {q : Int} (h : FC F s p q) : finB ⟨fvals F (s + p), p, q⟩ = true := by
 have hP := h.hP
 unfold finB
 dsimp only
 rw [fvals_len, fvals_nth F (by omega), bne_iff_ne]
 exact h.fin (by omega)
/-- three contracts, and three greater ones -/
structure More (ls ls' : List Cv) : Prop where
  len : ls.length = 3
  len' : ls'.length = 3
  ok : ∀ f ∈ ls, validB f = true ∧ finB f = true
  ok' : ∀ f ∈ ls', validB f = true ∧ finB f = true
  le : ∀ j t, j < 3 → cvF (nth ls j) t ≤ cvF (nth ls' j) t
theorem more_self {ls : List Cv} (hl : ls.length = 3) (ok : ∀ f ∈ ls, validB f = true ∧ finB f = true) : More ls ls := ⟨hl, hl, ok, ok, fun _ _ _ => Int.le_refl _⟩
theorem more_set {ls : List Cv} (hl : ls.length = 3) (ok : ∀ f ∈ ls, validB f = true ∧ finB f = true) {m : Nat} (hm : m < 3) {mo : Cv} (hv : validB mo = true ∧ finB mo = true) (h : leB (nth ls m) mo = true) : More ls (ls.set m mo) := by
 have e : ∀ j, j < 3 → nth (ls.set m mo) j = if m = j then mo else nth ls j := fun j hj => by
  unfold nth List.getD
  rw [List.getElem?_set]
  by_cases q : m = j
  ·rw [if_pos q, if_pos (by omega), if_pos q]; rfl
  ·rw [if_neg q, if_neg q]
 refine ⟨hl, by rw [List.length_set]; exact hl, ok, fun f hf => ?_, fun j t hj => ?_⟩
 ·rcases List.mem_or_eq_of_mem_set hf with h1 | rfl
  ·exact ok f h1
  ·exact hv
 ·rw [e j hj]
  by_cases q : m = j
  ·subst q
   rw [if_pos rfl]
   have h1 := ok _ (nth_mem (xs := ls) (k := m) (by omega))
   exact le_of_leB h1.1 hv.1 h1.2 hv.2 h t
  ·rw [if_neg q]; exact Int.le_refl _
theorem delayC_mono {a b a' b' : Cv} (ha : validB a = true) (hb : validB b = true) (fa : finB a = true) (fb : finB b = true) (ha' : validB a' = true) (hb' : validB b' = true) (fa' : finB a' = true) (fb' : finB b' = true) (hA : ∀ t, cvF a t ≤ cvF a' t) (hB : ∀ t, cvF b' t ≤ cvF b t)
  (h0 : (delayC a b).2 = 0) (h0' : (delayC a' b').2 = 0) : (delayC a' b').1.1 = true ∨ ((delayC a b).1.1 = false ∧ (delayC a b).1.2.1 ≤ (delayC a' b').1.2.1 ∧ 0 ≤ (delayC a b).1.2.1) := by
 cases hi : (delayC a' b').1.1 with
 | true => exact .inl rfl
 | false =>
  right
  obtain ⟨a1, a2, _, a4, _⟩ := norm_valid ha
  obtain ⟨b1, b2, _, b4, _⟩ := norm_valid hb
  obtain ⟨c1, c2, _, c4, _⟩ := norm_valid ha'
  obtain ⟨d1, d2, _, d4, _⟩ := norm_valid hb'
  have e : devN (normR a') (normR b') (gapD (normR a') (normR b')) = ((false, (delayC a' b').1.2.1, (delayC a' b').1.2.2), 0) := Prod.ext (Prod.ext hi rfl) h0'
  obtain ⟨v1, v2, v3⟩ := delay_snd c1 d1 (by rw [c4]; exact fa') (by rw [d4]; exact fb') e
  have hu : ∀ u, cvF (normR a) u ≤ cvF (normR b) (u + (delayC a' b').1.2.1.toNat) := fun u => by
   have := v3 u
   rw [c2, d2] at this
   rw [a2, b2]
   have := hA u
   have := hB (u + (delayC a' b').1.2.1.toNat)
   omega
  have h0n : (devN (normR a) (normR b) (gapD (normR a) (normR b))).2 = 0 := h0
  obtain ⟨v, p, e2, hv⟩ := delay_mono a1 b1 (by rw [a4]; exact fa) (by rw [b4]; exact fb) hu h0n
  obtain ⟨w1, _, _⟩ := delay_snd a1 b1 (by rw [a4]; exact fa) (by rw [b4]; exact fb) e2
  have e3 : delayC a b = ((false, v, p), 0) := e2
  rw [e3]
  exact ⟨rfl, by dsimp only; omega, w1⟩
theorem wait_cv {v : Int} (h : 0 ≤ v ∧ v ≤ 398) (t : Nat) : cvF ⟨waitL v, 1, 0⟩ t = if (t : Int) ≤ v then 0 else INF := by
 have hl := waitL_len h.1
 by_cases ht : t < (v + 2).toNat
 ·rw [cvF_low (by show _ < (waitL v).length; omega)]
  show nth (waitL v) t = _
  rw [waitL_nth h.1 ht]
  by_cases e : t = (v + 1).toNat
  ·rw [if_pos e, if_neg (by omega)]
  ·rw [if_neg e, if_pos (by omega)]
 ·rw [if_neg (by omega)]
  have hv := wait_valid h
  rcases valid_cases hv with ⟨_, _, _, _, _, _, f⟩ | ⟨n, _, h1, _, _, _, hic, _⟩
  ·exfalso
   unfold finB at f
   dsimp only at f
   rw [bne_iff_ne, hl, waitL_nth h.1 (by omega), if_pos (by omega)] at f
   exact f rfl
  ·exact hic.hi t (by have : n < (waitL v).length := h1; omega)
section
variable {L : Ln} {k : Nat} {ls ls' : List Cv} {z : List Sz}
theorem total_mono (hM : More ls ls') (h : (totalC ls).2 = 0) (h' : (totalC ls').2 = 0) : ∀ t, cvF (totalC ls).1 t ≤ cvF (totalC ls').1 t := fun t => by
 obtain ⟨_, f2⟩ := total_cv ls zeroC (totalC ls).1 zero_nrm.valid (by kernel_rfl) hM.ok (Prod.ext rfl h)
 obtain ⟨_, g2⟩ := total_cv ls' zeroC (totalC ls').1 zero_nrm.valid (by kernel_rfl) hM.ok' (Prod.ext rfl h')
 rw [f2, g2, hM.len, hM.len']
 have := sumUp_le (f := fun i => cvF (nth ls i) t) (g := fun i => cvF (nth ls' i) t) (n := 3) (fun i hi => hM.le i t hi)
 omega
theorem total_fin (ho : ∀ f ∈ ls, validB f = true ∧ finB f = true) (h : (totalC ls).2 = 0) : validB (totalC ls).1 = true ∧ finB (totalC ls).1 = true :=
 ⟨total_valid (fun c hc => (ho c hc).1) h, (total_cv ls zeroC (totalC ls).1 zero_nrm.valid (by kernel_rfl) ho (Prod.ext rfl h)).1⟩
theorem all_mono {cap : Int} (hc : 0 ≤ cap ∧ cap ≤ 4000) (hM : More ls ls') (h : (allC cap ls).2 = 0) (h' : (allC cap ls').2 = 0) : (allC cap ls').1.1 = true ∨ ((allC cap ls).1.1 = false ∧ (allC cap ls).1.2.1 ≤ (allC cap ls').1.2.1 ∧ 0 ≤ (allC cap ls).1.2.1) := by
 have split : ∀ {l : List Cv}, (allC cap l).2 = 0 → (totalC l).2 = 0 ∧ allC cap l = delayC (totalC l).1 (lineC cap) := fun {l} hl => by
  unfold allC at hl ⊢
  by_cases q : (totalC l).2 ≠ 0
  ·rw [if_pos q] at hl; exact absurd hl q
  ·rw [if_neg q]; exact ⟨by omega, rfl⟩
 obtain ⟨t1, e1⟩ := split h
 obtain ⟨t2, e2⟩ := split h'
 rw [e1] at h
 rw [e2] at h'
 rw [e1, e2]
 obtain ⟨l1, _, l3, _⟩ := line_facts (cap := cap) ⟨by omega, by omega⟩
 obtain ⟨v1, f1⟩ := total_fin hM.ok t1
 obtain ⟨v2, f2⟩ := total_fin hM.ok' t2
 exact delayC_mono v1 l1.valid f1 l3 v2 l1.valid f2 l3 (total_mono hM t1 t2) (fun _ => Int.le_refl _) h h'
theorem curve_arg (h : (curveL L k ls z).2 = 0) : argE L k ls z = 0 ∧ curveL L k ls z = schedC L k ls z := by
 have ha : argE L k ls z = 0 := by
  apply Classical.byContradiction
  intro hn
  unfold curveL at h
  rw [if_pos hn] at h
  exact hn h
 exact ⟨ha, if_neg (fun hn => hn ha)⟩
theorem arg_chk (h : argE L k ls z = 0) : chk18 L.cap k z = 0 ∧ ls.length = z.length := by
 unfold argE at h
 split at h
 ·omega
 ·split at h
  ·omega
  ·split at h
   ·omega
   ·exact ⟨by omega, by omega⟩
/-- the curve of a class of a line that is not in the order of arrival is finite -/
theorem sched_fin (h1 : L.kind ≠ 1) (ho : ∀ f ∈ ls, validB f = true ∧ finB f = true) (hl : ls.length = z.length) (h0 : chk18 L.cap k z = 0) (h : (schedC L k ls z).2 = 0) : ∃ (G : Nat → Int) (s p : Nat) (q : Int), schedC L k ls z = (⟨fvals G (s + p), p, q⟩, 0) ∧ FC G s p q := by
 by_cases k2 : L.kind = 2
 ·have e : schedC L k ls z = prioC L.cap k ls z := by unfold schedC; rw [if_neg h1, if_pos k2]
  rw [e] at h ⊢
  rcases prio_case h0 hl ho with e2 | ⟨G, s, p, q, e2, hfc, _⟩
  ·rw [e2] at h; cases h
  ·exact ⟨G, s, p, q, e2, hfc⟩
 ·by_cases k3 : L.kind = 3
  ·have e : schedC L k ls z = robinC L.cap k L.w z := by unfold schedC; rw [if_neg h1, if_neg k2, if_pos k3]
   rw [e] at h ⊢
   obtain ⟨_, _, G, s, p, q, hcf⟩ := rob_for h
   exact ⟨G, s, p, q, hcf.1, hcf.2.1⟩
  ·by_cases k4 : L.kind = 4
   ·have e : schedC L k ls z = defC L.cap k L.w z := by unfold schedC; rw [if_neg h1, if_neg k2, if_neg k3, if_pos k4]
    rw [e] at h ⊢
    obtain ⟨_, _, G, s, p, q, hcf⟩ := def_for h
    exact ⟨G, s, p, q, hcf.1, hcf.2.1⟩
   ·have e : schedC L k ls z = slotC L.cap k L.tb z := by unfold schedC; rw [if_neg h1, if_neg k2, if_neg k3, if_neg k4]
    rw [e] at h ⊢
    obtain ⟨_, _, G, s, p, q, hrc, hfc, _⟩ := slot_for h
    exact ⟨G, s, p, q, hrc, hfc⟩
theorem sched_le (h1 : L.kind ≠ 1) (hk : k < 3) (hM : More ls ls') (hl : z.length = 3) (h0 : chk18 L.cap k z = 0) (h : (schedC L k ls z).2 = 0) (h' : (schedC L k ls' z).2 = 0) : ∀ t, cvF (schedC L k ls' z).1 t ≤ cvF (schedC L k ls z).1 t := by
 by_cases k2 : L.kind = 2
 ·have e : ∀ l, schedC L k l z = prioC L.cap k l z := fun l => by unfold schedC; rw [if_neg h1, if_pos k2]
  rw [e] at h h' ⊢
  rw [e]
  obtain ⟨F, G, S1, P1, S2, P2, I1, I2, y1, y2, y3, y4, y5⟩ := prio_less h0 h0 (by rw [hM.len, hl]) (by rw [hM.len', hl]) hM.ok hM.ok' (fun t => by
   rw [Int.toNat_natCast]
   exact sumUp_le (fun i hi => hM.le i t (by omega))) (Int.le_refl _) (Prod.ext rfl h : prioC L.cap k ls z = ((prioC L.cap k ls z).1, 0)) (Prod.ext rfl h' : prioC L.cap k ls' z = ((prioC L.cap k ls' z).1, 0))
  intro t
  rw [y1, y2, cvF_fc y3, cvF_fc y4]
  exact y5 t
 ·have e : schedC L k ls' z = schedC L k ls z := by unfold schedC; rw [if_neg h1, if_neg h1, if_neg k2, if_neg k2]
  rw [e]
  exact fun t => Int.le_refl _
theorem fifo_le {cap : Int} (hc : 0 ≤ cap ∧ cap ≤ 4000) (hM : More ls ls') (h : (fifoC cap ls).2 = 0) (h' : (fifoC cap ls').2 = 0) : ∀ t, cvF (fifoC cap ls').1 t ≤ cvF (fifoC cap ls).1 t := by
 have cases1 : ∀ {l : List Cv}, (fifoC cap l).2 = 0 → (allC cap l).2 = 0 ∧ (allC cap l).1.1 = false ∧ (0 ≤ (allC cap l).1.2.1 ∧ (allC cap l).1.2.1 ≤ 398) ∧ (fifoC cap l).1 = ⟨waitL (allC cap l).1.2.1, 1, 0⟩ := fun {l} hl => by
  unfold fifoC at hl ⊢
  by_cases q1 : (allC cap l).2 ≠ 0
  ·rw [if_pos q1] at hl; exact absurd hl q1
  ·rw [if_neg q1] at hl ⊢
   by_cases q2 : (allC cap l).1.1 = true
   ·rw [if_pos q2] at hl; cases hl
   ·rw [if_neg q2] at hl ⊢
    unfold waitC at hl ⊢
    split at hl
    ·cases hl
    ·split at hl
     ·cases hl
     ·rw [if_neg (by assumption), if_neg (by assumption)]
      exact ⟨by omega, by simpa using q2, by omega, rfl⟩
 obtain ⟨a1, a2, a3, a4⟩ := cases1 h
 obtain ⟨b1, b2, b3, b4⟩ := cases1 h'
 rcases all_mono hc hM a1 b1 with hi | ⟨_, hv, _⟩
 ·rw [hi] at b2; cases b2
 ·intro t
  rw [a4, b4, wait_cv a3, wait_cv b3]
  by_cases ht : (t : Int) ≤ (allC cap ls').1.2.1
  ·rw [if_pos ht]
   split
   ·exact Int.le_refl _
   ·unfold INF; decide
  ·rw [if_neg ht, if_neg (by omega)]; exact Int.le_refl _
theorem curve_mono (hL : DrawOk L) (hk : k < 3) (hM : More ls ls') (hl : z.length = 3) (h : (curveL L k ls z).2 = 0) (h' : (curveL L k ls' z).2 = 0) :
  validB (curveL L k ls z).1 = true ∧ validB (curveL L k ls' z).1 = true ∧ leB (curveL L k ls' z).1 (curveL L k ls z).1 = true := by
 have hcap := hL.cap
 obtain ⟨a1, a2⟩ := curve_arg h
 obtain ⟨b1, b2⟩ := curve_arg h'
 rw [a2] at h
 rw [b2] at h'
 rw [a2, b2]
 have v1 := sched_valid (fun c hc => (hM.ok c hc).1) h
 have v2 := sched_valid (fun c hc => (hM.ok' c hc).1) h'
 refine ⟨v1, v2, leB_of v2 v1 ?_⟩
 by_cases k1 : L.kind = 1
 ·have e : ∀ l, schedC L k l z = fifoC L.cap l := fun l => if_pos k1
  rw [e] at h h' ⊢
  rw [e]
  exact fifo_le ⟨by omega, by omega⟩ hM h h'
 ·exact sched_le k1 hk hM hl (arg_chk a1).1 h h'
theorem wait_mono (hL : DrawOk L) (hk : k < 3) (hM : More ls ls') (hl : z.length = 3) (h : (delayL L k ls z).2 = 0) (h' : (delayL L k ls' z).2 = 0) :
  (delayL L k ls' z).1.1 = true ∨ ((delayL L k ls z).1.1 = false ∧ (delayL L k ls z).1.2.1 ≤ (delayL L k ls' z).1.2.1) := by
 have hcap := hL.cap
 by_cases k1 : L.kind = 1
 ·have e : ∀ {l : List Cv}, (delayL L k l z).2 = 0 → delayL L k l z = allC L.cap l := fun {l} hd => by
   unfold delayL at hd ⊢
   rw [if_neg (fun hh => hh k1)] at hd ⊢
   by_cases q : argE L k l z ≠ 0
   ·rw [if_pos q] at hd; exact absurd hd q
   ·rw [if_neg q]
  have e1 := e h
  have e2 := e h'
  rw [e1] at h
  rw [e2] at h'
  rw [e1, e2]
  rcases all_mono ⟨by omega, by omega⟩ hM h h' with q | ⟨q1, q2, _⟩
  ·exact .inl q
  ·exact .inr ⟨q1, q2⟩
 ·have e : ∀ {l : List Cv}, (delayL L k l z).2 = 0 → (curveL L k l z).2 = 0 ∧ delayL L k l z = delayC (nth l k) (curveL L k l z).1 := fun {l} hd => by
   unfold delayL measL at hd ⊢
   rw [if_pos k1] at hd ⊢
   by_cases q : (curveL L k l z).2 ≠ 0
   ·rw [if_pos q] at hd; exact absurd hd q
   ·rw [if_neg q, Int.toNat_natCast]; exact ⟨by omega, rfl⟩
  obtain ⟨c1, e1⟩ := e h
  obtain ⟨c2, e2⟩ := e h'
  rw [e1] at h
  rw [e2] at h'
  rw [e1, e2]
  obtain ⟨a1, a2⟩ := curve_arg c1
  obtain ⟨b1, b2⟩ := curve_arg c2
  rw [a2] at c1 h ⊢
  rw [b2] at c2 h' ⊢
  obtain ⟨G, s, p, q, f1, f2⟩ := sched_fin k1 hM.ok (by rw [hM.len, hl]) (arg_chk a1).1 c1
  obtain ⟨G', s', p', q', g1, g2⟩ := sched_fin k1 hM.ok' (by rw [hM.len', hl]) (arg_chk b1).1 c2
  have hle := sched_le k1 hk hM hl (arg_chk a1).1 c1 c2
  rw [f1, g1] at hle
  rw [f1] at h ⊢
  rw [g1] at h' ⊢
  dsimp only at hle h h' ⊢
  have m1 := hM.ok _ (nth_mem (xs := ls) (k := k) (by have := hM.len; omega))
  have m2 := hM.ok' _ (nth_mem (xs := ls') (k := k) (by have := hM.len'; omega))
  rcases delayC_mono m1.1 f2.valid' m1.2 (fin_fc f2) m2.1 g2.valid' m2.2 (fin_fc g2) (fun t => hM.le k t hk) hle h h' with q | ⟨q1, q2, _⟩
  ·exact .inl q
  ·exact .inr ⟨q1, q2⟩
end
end Go.Proofs.YthpblaoehlgpfaaGreat.M

/- An operation without a value, one of several that may come up. No condition. -/
namespace Go.Proofs.YthpblaoehlgpfaaGreat.K
open Go Go.RowKit
variable {P : Program} {T : Tab} {n : Nat} {env : Env} {w0 : World} {R : Ro} {E : List Ent} {Q : Exit → Act → World → Prop}
variable {ops : List Oper} {o : Oper} {ES : List Ent} {R0 : Ro} {fuel : Nat} {listed : Array Bool}
theorem WS.effN {i : Nat} (hi : ops.toArray[i]? = some o) (hg : o.guard = none) (hd : o.dst = none)
  (h : Ef P n env w0 R E o fun _ R' E' => RLe R0 R' ∧ ES.Sublist E' ∧ WA P ops Q ES R0 w0 fuel (listed.setIfInBounds i true) n env R' E') : WS P ops Q ES R0 w0 fuel listed n env R E i := by
 intro a w hk hm
 unfold wpOp
 rw [hi]
 simp only [Region.wanted, hg, if_true]
 left
 obtain ⟨v, w', R', E', hrun, hm', hR', hsub', hn⟩ := h a w hk hm
 unfold Oper.wp
 rcases hrun with hrun | ⟨hrun, rfl⟩
 ·rw [hrun]; simp only [Oper.upon, hd]; exact ⟨hm'.sub hR' hsub', hn _ _ hk hm'⟩
 ·rw [hrun]; simp only [Oper.upon, hd]; exact ⟨hm'.sub hR' hsub', hn _ _ hk hm'⟩
end Go.Proofs.YthpblaoehlgpfaaGreat.K

/- Four operations of which any may come first. No condition. -/
namespace Go.Proofs.YthpblaoehlgpfaaGreat.K
open Go Go.RowKit
variable {P : Program} {T : Tab} {n : Nat} {env : Env} {w0 : World} {R : Ro} {E : List Ent} {Q : Exit → Act → World → Prop}
variable {ops : List Oper} {ES : List Ent} {R0 : Ro} {fuel : Nat} {listed : Array Bool}
theorem WA.br4 {i j k l : Nat} (hr : Region.ready .any ops.toArray listed = [i, j, k, l]) (h1 : WS P ops Q ES R0 w0 fuel listed n env R E i) (h2 : WS P ops Q ES R0 w0 fuel listed n env R E j) (h3 : WS P ops Q ES R0 w0 fuel listed n env R E k) (h4 : WS P ops Q ES R0 w0 fuel listed n env R E l) : WA P ops Q ES R0 w0 (fuel + 1) listed n env R E := by
 intro a w hk hm
 refine wpAnyH_all hr (by simp) fun m hm' => ?_
 simp only [List.mem_cons, List.not_mem_nil, or_false] at hm'
 rcases hm' with rfl | rfl | rfl | rfl
 ·exact h1 a w hk hm
 ·exact h2 a w hk hm
 ·exact h3 a w hk hm
 ·exact h4 a w hk hm
theorem WE.retFS {E' : List Ent} (hE : E'.Sublist E) (hT : TabOk P T) {fn : Func} {Post : Value → Ro → List Ent → Prop} {R0 : Ro} {rs : List ResultVar} (vs : List Value) (hr : fn.results = rs.toArray) (h : ResAll T env R E rs vs) (hR : RLe R0 R) (hp : Post (resVal vs) R E') (hds : markOf env = none := by rfl) :
  WE (bodyPost P fn (FnR w0 R0 Post)) .ret n env w0 R E := fun _ _ hk hm => ⟨by rw [hk.defers]; unfold dsOf; rw [hds], resVal vs, results_ok hT hr hk hm h, resVal vs, R, E', rfl, hR, hm.sub (RLe.refl R) hE, hp⟩
end Go.Proofs.YthpblaoehlgpfaaGreat.K

/- A trial. No condition. -/
namespace Go.Proofs.YthpblaoehlgpfaaGreat
open Go Go.RowKit Go.Proofs.YthpblaoehlgpfaaGreat.K
theorem qR {P : Prop} (h : P := by first | exact RLe.refl _ | assumption) : P := h
theorem qK {P : Prop} (h : P := by kernel_rfl) : P := h
theorem qD {P : Prop} (h : P := by decide) : P := h
theorem qA {P : Prop} (h : P := by intro _; constructor <;> (try dsimp only) <;> omega) : P := h
theorem qN {P : Prop} (h : P := by intro _; (try dsimp only) <;> omega) : P := h
theorem qP {P : Prop} (h : P := by intro h1 h2; simp_all <;> omega) : P := h
theorem qX {P : Prop} (h : P := by (try dsimp only) <;> omega) : P := h
theorem qU {P : Prop} (h : P := by assumption) : P := h
theorem qO {P : Prop} (h : P := by omega) : P := h
theorem qH {P : Prop} (h : P := by intro _; first | exact fun _ _ _ _ => rfl | exact RS.has (by assumption) | exact fun _ _ _ _ => (by assumption) | exact HasMem.ownD 0 rfl | exact HasMem.ownD 1 rfl | exact HasMem.ownD 2 rfl | exact HasMem.ownD 3 rfl | exact HasMem.ownD 4 rfl | exact HasMem.ownD 5 rfl | exact HasMem.ownD 6 rfl | exact HasMem.ownD 7 rfl | exact HasMem.ownD 8 rfl | exact HasMem.ownD 9 rfl | exact HasMem.ownD 10 rfl | exact HasMem.ownD 11 rfl) : P := h
theorem qI {P : Prop} (h : P := by first | exact fun _ _ _ _ => rfl | exact RS.has (by assumption) | exact fun _ _ _ _ => (by assumption) | exact HasMem.ownD 0 rfl | exact HasMem.ownD 1 rfl | exact HasMem.ownD 2 rfl | exact HasMem.ownD 3 rfl | exact HasMem.ownD 4 rfl | exact HasMem.ownD 5 rfl | exact HasMem.ownD 6 rfl | exact HasMem.ownD 7 rfl | exact HasMem.ownD 8 rfl | exact HasMem.ownD 9 rfl | exact HasMem.ownD 10 rfl | exact HasMem.ownD 11 rfl) : P := h
theorem zk : (∀ (p : Prop) [Decidable p], (decide p = true) = p) ∧ (∀ (p : Prop) [Decidable p], (decide p = false) ↔ ¬ p) ∧ (∀ (α : Type) [BEq α] [LawfulBEq α] (a b : α), (a == b) = true ↔ a = b) ∧ (∀ (α : Type) [BEq α] [LawfulBEq α] (a b : α), (a != b) = true ↔ a ≠ b) ∧ (∀ (α : Type) [BEq α] [LawfulBEq α] (a b : α), (a == b) = false ↔ a ≠ b) ∧ (∀ (α : Type) [BEq α] [LawfulBEq α] (a b : α), (a != b) = false ↔ a = b) ∧ (∀ (α : Type) (a b : α), (a ≠ b) = ¬ (a = b)) ∧ (∀ (a b : Bool), ((a || b) = true) = (a = true ∨ b = true)) ∧ (∀ (a b : Bool), (a || b) = false ↔ a = false ∧ b = false) ∧ (∀ (a b : Bool), ((a && b) = true) = (a = true ∧ b = true)) ∧ (∀ (a b : Bool), (a && b) = false ↔ (a = true → b = false)) ∧ (∀ (b : Bool), (¬ (b = true)) = (b = false)) ∧ (∀ (b : Bool), ((!b) = true) = (b = false)) ∧ (∀ (b : Bool), ((!b) = false) = (b = true)) ∧ (∀ (a : Prop), ¬ ¬ a ↔ a) ∧ (∀ (a b : Int), ¬ (a < b) ↔ b ≤ a) ∧ (∀ (a b : Int), ¬ (a ≤ b) ↔ b < a) ∧ (∀ (α : Type) [LT α] (x y : α), x > y ↔ y < x) ∧ (∀ (α : Type) [LE α] (x y : α), x ≥ y ↔ y ≤ x) := by
 refine ⟨by intros; first | exact decide_eq_true_eq | exact decide_eq_true_eq .. | simp, by intros; first | exact decide_eq_false_iff_not | exact decide_eq_false_iff_not .. | simp, by intros; first | exact beq_iff_eq | exact beq_iff_eq .. | simp, by intros; first | exact bne_iff_ne | exact bne_iff_ne .. | simp, by intros; first | exact beq_eq_false_iff_ne | exact beq_eq_false_iff_ne .. | simp, by intros; first | exact bne_eq_false_iff_eq | exact bne_eq_false_iff_eq .. | simp, by intros; first | exact ne_eq | exact ne_eq .. | simp, by intros; first | exact Bool.or_eq_true | exact Bool.or_eq_true .. | simp, by intros; first | exact Bool.or_eq_false_iff | exact Bool.or_eq_false_iff .. | simp, by intros; first | exact Bool.and_eq_true | exact Bool.and_eq_true .. | simp, by intros; first | exact Bool.and_eq_false_imp | exact Bool.and_eq_false_imp .. | simp, by intros; first | exact Bool.not_eq_true | exact Bool.not_eq_true .. | simp, by intros; first | exact Bool.not_eq_true' | exact Bool.not_eq_true' .. | simp, by intros; first | exact Bool.not_eq_false' | exact Bool.not_eq_false' .. | simp, by intros; first | exact Classical.not_not | exact Classical.not_not .. | simp, by intros; first | exact Int.not_lt | exact Int.not_lt .. | simp, by intros; first | exact Int.not_le | exact Int.not_le .. | simp, by intros; first | exact gt_iff_lt | exact gt_iff_lt .. | simp, by intros; first | exact ge_iff_le | exact ge_iff_le .. | simp⟩
end Go.Proofs.YthpblaoehlgpfaaGreat
namespace Go.Proofs.YthpblaoehlgpfaaGreat
open Go Go.RowKit Go.Proofs.YthpblaoehlgpfaaGreat.K
theorem tP {P : Program} {T : Tab} {n : Nat} {env : Env} {w0 : World} {R : Ro} {R0 : Ro} {E : List Ent} {ES : List Ent} {o : Oper} {pc : Bool} {q : Bool} {ops : List Oper} {Q : Exit → Act → World → Prop} {fuel : Nat} {listed : Array Bool} {v : Value} {d : Nat} (i : Nat) (h : WA P ops Q ES R0 w0 fuel (listed.setIfInBounds i true) n ((d, pc, v) :: env) R E) (hT : TabOk P T := by exact tab_ok) (hi : ops.toArray[i]? = some o := by exact rfl) (hs : Region.noSelect ops.toArray = true := by kernel_rfl) (hf : Region.free .any ops.toArray listed i = true := by kernel_rfl) (hr : (Region.ready .any ops.toArray listed).contains i = true := by kernel_rfl) (hg : gpc ops env o = some pc := by exact rfl) (hd : o.dst = some d := by exact rfl) (hdn : d < n := by decide) (hv : pureV T env o.op = some (q, v) := by exact rfl) (hq : pc = true → q = true := by exact fun _ => rfl) (hsub : ES.Sublist E := by (repeat (first | exact List.Sublist.refl _ | exact List.nil_sublist _ | apply List.Sublist.cons_cons | apply List.Sublist.cons)); done) (hR : RLe R0 R := by first | exact RLe.refl _ | assumption) : WA P ops Q ES R0 w0 (fuel + 1) listed n env R E := WA.take i hi hs hf hr hg hd hdn (pureV_ok hT hv hq) hsub hR h
theorem tL {P : Program} {T : Tab} {n : Nat} {env : Env} {w0 : World} {R : Ro} {R0 : Ro} {E : List Ent} {ES : List Ent} {o : Oper} {pc : Bool} {p : Bool} {ops : List Oper} {Q : Exit → Act → World → Prop} {fuel : Nat} {listed : Array Bool} {t : TypeId} {x : Operand} {ad : Addr} {cs : List Value} {dd : TD} {v : Value} {d : Nat} (i : Nat) (hrd : Rd R0 ES ad cs) (h : WA P ops Q ES R0 w0 fuel (listed.setIfInBounds i true) n ((d, pc, v) :: env) R E) (hT : TabOk P T := by exact tab_ok) (hi : ops.toArray[i]? = some o := by exact rfl) (hs : Region.noSelect ops.toArray = true := by kernel_rfl) (hf : Region.free .any ops.toArray listed i = true := by kernel_rfl) (hr : (Region.ready .any ops.toArray listed).contains i = true := by kernel_rfl) (hg : gpc ops env o = some pc := by exact rfl) (hd : o.dst = some d := by exact rfl) (hdn : d < n := by decide) (ho : o.op = .load t x := by exact rfl) (hdt : T.at t = some dd := by exact rfl) (hx : ev env x = some (p, .pointer (some ad)) := by exact rfl) (hp : pc = true → p = true := by exact fun _ => rfl) (hk : dd.k.known = true := by exact rfl) (hv : loadV dd cs = some v := by exact rfl) (hsub : ES.Sublist E := by (repeat (first | exact List.Sublist.refl _ | exact List.nil_sublist _ | apply List.Sublist.cons_cons | apply List.Sublist.cons)); done) (hR : RLe R0 R := by first | exact RLe.refl _ | assumption) : WA P ops Q ES R0 w0 (fuel + 1) listed n env R E := WA.take i hi hs hf hr hg hd hdn (Yl.load1 hT ho hdt hx hp hrd hk hv) hsub hR h
theorem tA {P : Program} {n : Nat} {env : Env} {w0 : World} {R : Ro} {R0 : Ro} {E : List Ent} {ES : List Ent} {o : Oper} {pc : Bool} {p : Bool} {q : Bool} {ops : List Oper} {Q : Exit → Act → World → Prop} {fuel : Nat} {listed : Array Bool} {t t2 : TypeId} {x y : Operand} {a b : Int} {d : Nat} (i : Nat) (h : WA P ops Q ES R0 w0 fuel (listed.setIfInBounds i true) n ((d, pc, .int .i64 (a + b)) :: env) R E) (hi : ops.toArray[i]? = some o := by exact rfl) (hs : Region.noSelect ops.toArray = true := by kernel_rfl) (hf : Region.free .any ops.toArray listed i = true := by kernel_rfl) (hr : (Region.ready .any ops.toArray listed).contains i = true := by kernel_rfl) (hg : gpc ops env o = some pc := by exact rfl) (hd : o.dst = some d := by exact rfl) (hdn : d < n := by decide) (ho : o.op = .binOp .add t x y t2 := by exact rfl) (hx : ev env x = some (p, .int .i64 a) := by exact rfl) (hy : ev env y = some (q, .int .i64 b) := by exact rfl) (hpq : pc = true → (p && q) = true := by exact fun _ => rfl) (hr2 : pc = true → InR (a + b) := by intro _; constructor <;> (try dsimp only) <;> omega) (hsub : ES.Sublist E := by (repeat (first | exact List.Sublist.refl _ | exact List.nil_sublist _ | apply List.Sublist.cons_cons | apply List.Sublist.cons)); done) (hR : RLe R0 R := by first | exact RLe.refl _ | assumption) : WA P ops Q ES R0 w0 (fuel + 1) listed n env R E := WA.take i hi hs hf hr hg hd hdn (Yl.add ho hx hy hpq hr2) hsub hR h
theorem tS {P : Program} {n : Nat} {env : Env} {w0 : World} {R : Ro} {R0 : Ro} {E : List Ent} {ES : List Ent} {o : Oper} {pc : Bool} {p : Bool} {q : Bool} {ops : List Oper} {Q : Exit → Act → World → Prop} {fuel : Nat} {listed : Array Bool} {t t2 : TypeId} {x y : Operand} {a b : Int} {d : Nat} (i : Nat) (h : WA P ops Q ES R0 w0 fuel (listed.setIfInBounds i true) n ((d, pc, .int .i64 (a - b)) :: env) R E) (hi : ops.toArray[i]? = some o := by exact rfl) (hs : Region.noSelect ops.toArray = true := by kernel_rfl) (hf : Region.free .any ops.toArray listed i = true := by kernel_rfl) (hr : (Region.ready .any ops.toArray listed).contains i = true := by kernel_rfl) (hg : gpc ops env o = some pc := by exact rfl) (hd : o.dst = some d := by exact rfl) (hdn : d < n := by decide) (ho : o.op = .binOp .sub t x y t2 := by exact rfl) (hx : ev env x = some (p, .int .i64 a) := by exact rfl) (hy : ev env y = some (q, .int .i64 b) := by exact rfl) (hpq : pc = true → (p && q) = true := by exact fun _ => rfl) (hr2 : pc = true → InR (a - b) := by intro _; constructor <;> (try dsimp only) <;> omega) (hsub : ES.Sublist E := by (repeat (first | exact List.Sublist.refl _ | exact List.nil_sublist _ | apply List.Sublist.cons_cons | apply List.Sublist.cons)); done) (hR : RLe R0 R := by first | exact RLe.refl _ | assumption) : WA P ops Q ES R0 w0 (fuel + 1) listed n env R E := WA.take i hi hs hf hr hg hd hdn (Yl.sub ho hx hy hpq hr2) hsub hR h
theorem yP {P : Program} {T : Tab} {n : Nat} {env : Env} {w0 : World} {R : Ro} {E : List Ent} {o : Oper} {pc : Bool} {q : Bool} {draw : Bool} {ops : List Oper} {rest : List Oper} {Q : Exit → Act → World → Prop} {v : Value} {d : Nat} (h : WG draw P ops Q rest n ((d, pc, v) :: env) w0 R E) (hT : TabOk P T := by exact tab_ok) (hg : gpc ops env o = some pc := by exact rfl) (hd : o.dst = some d := by exact rfl) (hdn : d < n := by decide) (hv : pureV T env o.op = some (q, v) := by exact rfl) (hq : pc = true → q = true := by first | exact fun _ => rfl | exact fun h => h | (intro h; simp_all)) : WG draw P ops Q (o :: rest) n env w0 R E := WG.y hg hd hdn (pureV_ok hT hv hq) h
theorem yL {P : Program} {T : Tab} {n : Nat} {env : Env} {w0 : World} {R : Ro} {E : List Ent} {o : Oper} {pc : Bool} {p : Bool} {draw : Bool} {ops : List Oper} {rest : List Oper} {Q : Exit → Act → World → Prop} {t : TypeId} {x : Operand} {ad : Addr} {cs : List Value} {dd : TD} {v : Value} {d : Nat} (hrd : Rd R E ad cs) (h : WG draw P ops Q rest n ((d, pc, v) :: env) w0 R E) (hT : TabOk P T := by exact tab_ok) (hg : gpc ops env o = some pc := by exact rfl) (hd : o.dst = some d := by exact rfl) (hdn : d < n := by decide) (ho : o.op = .load t x := by exact rfl) (hdt : T.at t = some dd := by exact rfl) (hx : ev env x = some (p, .pointer (some ad)) := by exact rfl) (hp : pc = true → p = true := by exact fun _ => rfl) (hk : dd.k.known = true := by exact rfl) (hv : loadV dd cs = some v := by exact rfl) : WG draw P ops Q (o :: rest) n env w0 R E := WG.y hg hd hdn (Yl.load1 hT ho hdt hx hp hrd hk hv) h
theorem yA {P : Program} {n : Nat} {env : Env} {w0 : World} {R : Ro} {E : List Ent} {o : Oper} {pc : Bool} {p : Bool} {q : Bool} {draw : Bool} {ops : List Oper} {rest : List Oper} {Q : Exit → Act → World → Prop} {t t2 : TypeId} {x y : Operand} {a b : Int} {d : Nat} (h : WG draw P ops Q rest n ((d, pc, .int .i64 (a + b)) :: env) w0 R E) (hg : gpc ops env o = some pc := by exact rfl) (hd : o.dst = some d := by exact rfl) (hdn : d < n := by decide) (ho : o.op = .binOp .add t x y t2 := by exact rfl) (hx : ev env x = some (p, .int .i64 a) := by exact rfl) (hy : ev env y = some (q, .int .i64 b) := by exact rfl) (hpq : pc = true → (p && q) = true := by exact fun _ => rfl) (hr2 : pc = true → InR (a + b) := by intro _; constructor <;> (try dsimp only) <;> omega) : WG draw P ops Q (o :: rest) n env w0 R E := WG.y hg hd hdn (Yl.add ho hx hy hpq hr2) h
theorem yS {P : Program} {n : Nat} {env : Env} {w0 : World} {R : Ro} {E : List Ent} {o : Oper} {pc : Bool} {p : Bool} {q : Bool} {draw : Bool} {ops : List Oper} {rest : List Oper} {Q : Exit → Act → World → Prop} {t t2 : TypeId} {x y : Operand} {a b : Int} {d : Nat} (h : WG draw P ops Q rest n ((d, pc, .int .i64 (a - b)) :: env) w0 R E) (hg : gpc ops env o = some pc := by exact rfl) (hd : o.dst = some d := by exact rfl) (hdn : d < n := by decide) (ho : o.op = .binOp .sub t x y t2 := by exact rfl) (hx : ev env x = some (p, .int .i64 a) := by exact rfl) (hy : ev env y = some (q, .int .i64 b) := by exact rfl) (hpq : pc = true → (p && q) = true := by exact fun _ => rfl) (hr2 : pc = true → InR (a - b) := by intro _; constructor <;> (try dsimp only) <;> omega) : WG draw P ops Q (o :: rest) n env w0 R E := WG.y hg hd hdn (Yl.sub ho hx hy hpq hr2) h
theorem zR {n : Nat} {env : Env} {w0 : World} {R : Ro} {E : List Ent} {draw : Bool} {ops : List Oper} {Q : Exit → Act → World → Prop} {l l' : List Oper} {env' : Env} (m : Nat) (h : runPure tab n m l env = (l', env')) (k : WG draw Tryz.prog ops Q l' n env' w0 R E) : WG draw Tryz.prog ops Q l n env w0 R E := WG.run tab_ok m h k
theorem zE {P : Program} {T : Tab} {n : Nat} {env : Env} {w0 : World} {R : Ro} {E : List Ent} {o : Oper} {ops : List Oper} {rest : List Oper} {Q : Exit → Act → World → Prop} {t : TypeId} {x y : Operand} {b : Nat} {cs : List Value} {v : Value} {dd : TD} (k : Nat) (h : WG false P ops Q rest n env w0 R (E.set k (.blk b (setSeg cs 0 (vcells v))))) (hT : TabOk P T := by exact tab_ok) (hg : o.guard = none := by exact rfl) (hd : o.dst = none := by exact rfl) (ho : o.op = .store t x y := by exact rfl) (hdt : T.at t = some dd := by exact rfl) (hx : ev env x = some (true, .pointer (some ⟨b, 0, none⟩)) := by exact rfl) (hy : ev env y = some (true, v) := by exact rfl) (hE : E[k]? = some (.blk b cs) := by exact rfl) (hl : Nat.beq (vcells v).length dd.size = true := by exact rfl) (hfit : Nat.ble dd.size cs.length = true := by exact rfl) (h1 : cells1 (vcells v) = true := by exact rfl) : WG false P ops Q (o :: rest) n env w0 R E := WL.efN hg hd (Ef.store0 k hT ho hdt hx hy hE hl hfit h1 h)
theorem zCE {P : Program} {T : Tab} {n : Nat} {env : Env} {w0 : World} {R : Ro} {R0 : Ro} {E : List Ent} {ES : List Ent} {o : Oper} {ops : List Oper} {Q : Exit → Act → World → Prop} {fuel : Nat} {listed : Array Bool} {t : TypeId} {x y : Operand} {b : Nat} {cs : List Value} {v : Value} {dd : TD} (i k : Nat) (h : WA P ops Q ES R0 w0 fuel (listed.setIfInBounds i true) n env R (E.set k (.blk b (setSeg cs 0 (vcells v))))) (hT : TabOk P T := by exact tab_ok) (hi : ops.toArray[i]? = some o := by exact rfl) (hr : Region.ready .any ops.toArray listed = [i] := by kernel_rfl) (hg : o.guard = none := by exact rfl) (hd : o.dst = none := by exact rfl) (ho : o.op = .store t x y := by exact rfl) (hdt : T.at t = some dd := by exact rfl) (hx : ev env x = some (true, .pointer (some ⟨b, 0, none⟩)) := by exact rfl) (hy : ev env y = some (true, v) := by exact rfl) (hE : E[k]? = some (.blk b cs) := by exact rfl) (hl : Nat.beq (vcells v).length dd.size = true := by exact rfl) (hfit : Nat.ble dd.size cs.length = true := by exact rfl) (h1 : cells1 (vcells v) = true := by exact rfl) (hR : RLe R0 R := by first | exact RLe.refl _ | assumption) (hsub : ES.Sublist (E.set k (.blk b (setSeg cs 0 (vcells v)))) := by (repeat (first | exact List.Sublist.refl _ | exact List.nil_sublist _ | apply List.Sublist.cons_cons | apply List.Sublist.cons)); done) : WA P ops Q ES R0 w0 (fuel + 1) listed n env R E := WA.effN i hi hr hg hd (Ef.store0 k hT ho hdt hx hy hE hl hfit h1 ⟨hR, hsub, h⟩)
theorem zF {P : Program} {T : Tab} {n : Nat} {env : Env} {w0 : World} {R : Ro} {E : List Ent} {o : Oper} {ops : List Oper} {rest : List Oper} {Q : Exit → Act → World → Prop} {t : TypeId} {x y : Operand} {b off : Nat} {cs : List Value} {v : Value} {dd : TD} (k : Nat) (h : WG false P ops Q rest n env w0 R (E.set k (.blk b (setSeg cs off (vcells v))))) (hT : TabOk P T := by exact tab_ok) (hg : o.guard = none := by exact rfl) (hd : o.dst = none := by exact rfl) (ho : o.op = .store t x y := by exact rfl) (hdt : T.at t = some dd := by exact rfl) (hx : ev env x = some (true, .pointer (some ((⟨b, 0, none⟩ : Addr).add off))) := by exact rfl) (hy : ev env y = some (true, v) := by exact rfl) (hE : E[k]? = some (.blk b cs) := by exact rfl) (hl : Nat.beq (vcells v).length dd.size = true := by exact rfl) (hfit : Nat.ble (off + dd.size) cs.length = true := by exact rfl) (h1 : cells1 (vcells v) = true := by exact rfl) : WG false P ops Q (o :: rest) n env w0 R E := WL.efN hg hd (Ef.store k hT ho hdt hx hy hE hl hfit h1 h)
theorem zCF {P : Program} {T : Tab} {n : Nat} {env : Env} {w0 : World} {R : Ro} {R0 : Ro} {E : List Ent} {ES : List Ent} {o : Oper} {ops : List Oper} {Q : Exit → Act → World → Prop} {fuel : Nat} {listed : Array Bool} {t : TypeId} {x y : Operand} {b off : Nat} {cs : List Value} {v : Value} {dd : TD} (i k : Nat) (h : WA P ops Q ES R0 w0 fuel (listed.setIfInBounds i true) n env R (E.set k (.blk b (setSeg cs off (vcells v))))) (hT : TabOk P T := by exact tab_ok) (hi : ops.toArray[i]? = some o := by exact rfl) (hr : Region.ready .any ops.toArray listed = [i] := by kernel_rfl) (hg : o.guard = none := by exact rfl) (hd : o.dst = none := by exact rfl) (ho : o.op = .store t x y := by exact rfl) (hdt : T.at t = some dd := by exact rfl) (hx : ev env x = some (true, .pointer (some ((⟨b, 0, none⟩ : Addr).add off))) := by exact rfl) (hy : ev env y = some (true, v) := by exact rfl) (hE : E[k]? = some (.blk b cs) := by exact rfl) (hl : Nat.beq (vcells v).length dd.size = true := by exact rfl) (hfit : Nat.ble (off + dd.size) cs.length = true := by exact rfl) (h1 : cells1 (vcells v) = true := by exact rfl) (hR : RLe R0 R := by first | exact RLe.refl _ | assumption) (hsub : ES.Sublist (E.set k (.blk b (setSeg cs off (vcells v)))) := by (repeat (first | exact List.Sublist.refl _ | exact List.nil_sublist _ | apply List.Sublist.cons_cons | apply List.Sublist.cons)); done) : WA P ops Q ES R0 w0 (fuel + 1) listed n env R E := WA.effN i hi hr hg hd (Ef.store k hT ho hdt hx hy hE hl hfit h1 ⟨hR, hsub, h⟩)
theorem lL {P : Program} {T : Tab} {n : Nat} {env : Env} {w0 : World} {R : Ro} {R0 : Ro} {E : List Ent} {ES : List Ent} {o : Oper} {p : Bool} {ops : List Oper} {Q : Exit → Act → World → Prop} {fuel : Nat} {listed : Array Bool} {t : TypeId} {x : Operand} {ad : Addr} {cs : List Value} {dd : TD} {v : Value} {d : Nat} (i : Nat) (hrd : Rd R E ad cs) (h : WA P ops Q ES R0 w0 fuel (listed.setIfInBounds i true) n ((d, true, v) :: env) R E) (hT : TabOk P T := by exact tab_ok) (hi : ops.toArray[i]? = some o := by exact rfl) (hr : Region.ready .any ops.toArray listed = [i] := by kernel_rfl) (hg : o.guard = none := by exact rfl) (hd : o.dst = some d := by exact rfl) (hdn : d < n := by decide) (ho : o.op = .load t x := by exact rfl) (hdt : T.at t = some dd := by exact rfl) (hx : ev env x = some (p, .pointer (some ad)) := by exact rfl) (hp : true = true → p = true := by exact fun _ => rfl) (hk : dd.k.known = true := by exact rfl) (hv : loadV dd cs = some v := by exact rfl) (hsub : ES.Sublist E := by (repeat (first | exact List.Sublist.refl _ | exact List.nil_sublist _ | apply List.Sublist.cons_cons | apply List.Sublist.cons)); done) (hR : RLe R0 R := by first | exact RLe.refl _ | assumption) : WA P ops Q ES R0 w0 (fuel + 1) listed n env R E := WA.yl i hi hr hg hd hdn (Yl.load1 (pc := true) hT ho hdt hx hp hrd hk hv) hsub hR h
theorem sL {P : Program} {T : Tab} {n : Nat} {env : Env} {w0 : World} {R : Ro} {R0 : Ro} {E : List Ent} {ES : List Ent} {o : Oper} {p : Bool} {ops : List Oper} {Q : Exit → Act → World → Prop} {fuel : Nat} {listed : Array Bool} {t : TypeId} {x : Operand} {ad : Addr} {cs : List Value} {dd : TD} {v : Value} {d i : Nat} (hrd : Rd R E ad cs) (h : WA P ops Q ES R0 w0 fuel (listed.setIfInBounds i true) n ((d, true, v) :: env) R E) (hT : TabOk P T := by exact tab_ok) (hi : ops.toArray[i]? = some o := by exact rfl) (hg : o.guard = none := by exact rfl) (hd : o.dst = some d := by exact rfl) (hdn : d < n := by decide) (ho : o.op = .load t x := by exact rfl) (hdt : T.at t = some dd := by exact rfl) (hx : ev env x = some (p, .pointer (some ad)) := by exact rfl) (hp : true = true → p = true := by exact fun _ => rfl) (hk : dd.k.known = true := by exact rfl) (hv : loadV dd cs = some v := by exact rfl) (hsub : ES.Sublist E := by (repeat (first | exact List.Sublist.refl _ | exact List.nil_sublist _ | apply List.Sublist.cons_cons | apply List.Sublist.cons)); done) (hR : RLe R0 R := by first | exact RLe.refl _ | assumption) : WS P ops Q ES R0 w0 fuel listed n env R E i := WS.yl hi hg hd hdn (Yl.load1 (pc := true) hT ho hdt hx hp hrd hk hv) hsub hR h
theorem zQ {P : Program} {n : Nat} {env : Env} {w0 : World} {R : Ro} {E : List Ent} {Q : Exit → Act → World → Prop} {x : Code} {y : Code} (h : W P x (Exit.then (y.wp P Q) Q) n env w0 R E) : W P (.seq x y) Q n env w0 R E := W.seq h
theorem zG {P : Program} {n : Nat} {env : Env} {w0 : World} {R : Ro} {E : List Ent} {Q : Exit → Act → World → Prop}  {id : Nat} {l : List Oper} (h : WG false P l Q l n env w0 R E) : W P (.region id l.toArray false) Q n env w0 R E := W.region id h
theorem zN {P : Program} {n : Nat} {env : Env} {w0 : World} {R : Ro} {E : List Ent} {draw : Bool} {ops : List Oper} {Q : Exit → Act → World → Prop}  (h : WE Q .normal n env w0 R E) : WG draw P ops Q [] n env w0 R E := WG.nil h
theorem zU {P : Program} {n : Nat} {env : Env} {w0 : World} {R : Ro} {E : List Ent} {Q : Exit → Act → World → Prop} {y : Code} (h : W P y Q n env w0 R E) : WE (Exit.then (y.wp P Q) Q) .normal n env w0 R E := WE.nxt h
theorem zB {P : Program} {n : Nat} {env : Env} {w0 : World} {R : Ro} {E : List Ent} {Q : Exit → Act → World → Prop} {x : Code} {id : Nat} (h : W P x (Exit.inBlock id Q) n env w0 R E) : W P (.block id x) Q n env w0 R E := W.block h
theorem zK {P : Program} {n : Nat} {env : Env} {w0 : World} {R : Ro} {E : List Ent} {Q : Exit → Act → World → Prop}  (h : WE Q .normal n env w0 R E) : W P .skip Q n env w0 R E := W.skip h
theorem zT {P : Program} {n : Nat} {env : Env} {w0 : World} {R : Ro} {E : List Ent} {Q : Exit → Act → World → Prop}  (h : WE Q .ret n env w0 R E) : W P .ret Q n env w0 R E := W.ret h
theorem wt {n : Nat} {env : Env} {w0 : World} {R : Ro} {E : List Ent} {Q : Exit → Act → World → Prop} {K : Act → World → Prop} (h : WE Q .ret n env w0 R E) : WE (Exit.then K Q) .ret n env w0 R E := WE.then_ret h
theorem wb {n : Nat} {env : Env} {w0 : World} {R : Ro} {E : List Ent} {Q : Exit → Act → World → Prop}  {id : Nat} (h : WE Q .ret n env w0 R E) : WE (Exit.inBlock id Q) .ret n env w0 R E := WE.blk_ret h
theorem wx {n : Nat} {env : Env} {w0 : World} {R : Ro} {E : List Ent} {Q : Exit → Act → World → Prop} {K : Act → World → Prop} {id : Nat} (h : WE Q (.exit id) n env w0 R E) : WE (Exit.then K Q) (.exit id) n env w0 R E := WE.then_exit h
theorem zY {n : Nat} {env : Env} {w0 : World} {R : Ro} {E : List Ent} {Q : Exit → Act → World → Prop}  {id : Nat} (h : WE Q .normal n env w0 R E) : WE (Exit.inBlock id Q) (.exit id) n env w0 R E := WE.blk_exit h
theorem zX {P : Program} {n : Nat} {env : Env} {w0 : World} {R : Ro} {E : List Ent} {Q : Exit → Act → World → Prop}  {id : Nat} (h : WE Q (.exit id) n env w0 R E) : W P (.exit id) Q n env w0 R E := W.exit h
theorem zL {n : Nat} {env : Env} {w0 : World} {R : Ro} {E : List Ent} {Q : Exit → Act → World → Prop}  {id : Nat} (h : WE Q .normal n env w0 R E) : WE (Exit.inBlock id Q) .normal n env w0 R E := WE.blk id h
theorem fE {P : Program} {f : FuncId} {fn : Func} {c : Code} {args : List Value} {Post : Value → Ro → List Ent → Prop} {w0 : World} {R : Ro} {E : List Ent} (n : Nat) (hf : P.funcs[f]? = some fn) (h : W P c (bodyPost P fn (FnR w0 R Post)) n (argEnv 0 args) w0 R E) (hb : fn.body = some c := by exact rfl) (hn : fn.ntmps = n := by exact rfl) (ha : args.length ≤ n := by exact Nat.le_of_ble_eq_true rfl) (hs : Nat.ble n 99999 = true := by exact rfl) : K.Fn P f args w0 R E Post := Fn.enter hf hb hn ha hs h
theorem zA {P : Program} {T : Tab} {n : Nat} {env : Env} {w0 : World} {R : Ro} {E : List Ent} {o : Oper} {ops : List Oper} {rest : List Oper} {Q : Exit → Act → World → Prop} {d : Nat} {t : TypeId} {dd : TD} (h : ∀ b, WG false P ops Q rest n ((d, true, (.pointer (some ⟨b, 0, none⟩))) :: env) w0 R (.blk b dd.zero :: E)) (hT : TabOk P T := by exact tab_ok) (hg : o.guard = none := by exact rfl) (hd : o.dst = some d := by exact rfl) (hdn : d < n := by decide) (ho : o.op = .alloc t := by exact rfl) (hdt : T.at t = some dd := by exact rfl) : WG false P ops Q (o :: rest) n env w0 R E := WL.ef hg hd hdn (Ef.alloc hT ho hdt h)
theorem zO {P : Program} {n : Nat} {env : Env} {w0 : World} {R : Ro} {E : List Ent} {o : Oper} {ops : List Oper} {rest : List Oper} {Q : Exit → Act → World → Prop} {d : Nat} {t : TypeId} {x : Operand} {v : Value} (h : ∀ b, WG false P ops Q rest n ((d, true, (.pointer (some ⟨b, 0, none⟩))) :: env) w0 R (.blk b (vcells v) :: E)) (hg : o.guard = none := by exact rfl) (hd : o.dst = some d := by exact rfl) (hdn : d < n := by decide) (ho : o.op = .box t x := by exact rfl) (hx : ev env x = some (true, v) := by exact rfl) : WG false P ops Q (o :: rest) n env w0 R E := WL.ef hg hd hdn (Ef.box ho hx h)
theorem yO {P : Program} {n : Nat} {env : Env} {w0 : World} {R : Ro} {E : List Ent} {o : Oper} {pc : Bool} {p : Bool} {q : Bool} {draw : Bool} {ops : List Oper} {rest : List Oper} {Q : Exit → Act → World → Prop} {x y : Operand} {b c : Bool} {d : Nat} (h : WG draw P ops Q rest n ((d, pc, .bool (b || c)) :: env) w0 R E) (hg : gpc ops env o = some pc := by exact rfl) (hd : o.dst = some d := by exact rfl) (hdn : d < n := by decide) (ho : o.op = .pick x (.const (.bool true)) y := by exact rfl) (hx : ev env x = some (p, .bool b) := by exact rfl) (hy : ev env y = some (q, .bool c) := by exact rfl) (hp : pc = true → p = true := by first | exact fun _ => rfl | exact fun h => h | (intro h; simp_all)) (hq : pc = true → b = false → q = true := by intro h1 h2; simp_all <;> omega) : WG draw P ops Q (o :: rest) n env w0 R E := WG.y hg hd hdn (Yl.por ho hx hy hp hq) h
theorem yN {P : Program} {n : Nat} {env : Env} {w0 : World} {R : Ro} {E : List Ent} {o : Oper} {pc : Bool} {p : Bool} {q : Bool} {draw : Bool} {ops : List Oper} {rest : List Oper} {Q : Exit → Act → World → Prop} {x y : Operand} {b c : Bool} {d : Nat} (h : WG draw P ops Q rest n ((d, pc, .bool (b && c)) :: env) w0 R E) (hg : gpc ops env o = some pc := by exact rfl) (hd : o.dst = some d := by exact rfl) (hdn : d < n := by decide) (ho : o.op = .pick x y (.const (.bool false)) := by exact rfl) (hx : ev env x = some (p, .bool b) := by exact rfl) (hy : ev env y = some (q, .bool c) := by exact rfl) (hp : pc = true → p = true := by first | exact fun _ => rfl | exact fun h => h | (intro h; simp_all)) (hq : pc = true → b = true → q = true := by intro h1 h2; simp_all <;> omega) : WG draw P ops Q (o :: rest) n env w0 R E := WG.y hg hd hdn (Yl.pand ho hx hy hp hq) h
theorem yG {P : Program} {T : Tab} {n : Nat} {env : Env} {w0 : World} {R : Ro} {E : List Ent} {o : Oper} {pc : Bool} {p : Bool} {draw : Bool} {ops : List Oper} {rest : List Oper} {Q : Exit → Act → World → Prop} {t : TypeId} {x : Operand} {ad : Addr} {cs : List Value} {dd : TD} {v : Value} {d : Nat} (hrd : True → Rd R E ad cs) (h : WG draw P ops Q rest n ((d, pc, v) :: env) w0 R E) (hT : TabOk P T := by exact tab_ok) (hg : gpc ops env o = some pc := by exact rfl) (hd : o.dst = some d := by exact rfl) (hdn : d < n := by decide) (ho : o.op = .load t x := by exact rfl) (hdt : T.at t = some dd := by exact rfl) (hx : ev env x = some (p, .pointer (some ad)) := by exact rfl) (hp : pc = true → p = true := by first | exact fun _ => rfl | exact fun h => h | (intro h; simp_all)) (hk : dd.k.known = true := by exact rfl) (hv : loadV dd cs = some v := by exact rfl) : WG draw P ops Q (o :: rest) n env w0 R E := WG.y hg hd hdn (Yl.loadG hT ho hdt hx hp hrd hk hv (fun _ => trivial)) h
theorem yR {P : Program} {T : Tab} {n : Nat} {env : Env} {w0 : World} {R : Ro} {E : List Ent} {o : Oper} {pc : Bool} {p : Bool} {draw : Bool} {ops : List Oper} {rest : List Oper} {Q : Exit → Act → World → Prop} {t : TypeId} {x : Operand} {ad : Addr} {cs : List Value} {dd : TD} {v : Value} {d : Nat} (h : WG draw P ops Q rest n ((d, pc, v) :: env) w0 R E) (hT : TabOk P T := by exact tab_ok) (hg : gpc ops env o = some pc := by exact rfl) (hd : o.dst = some d := by exact rfl) (hdn : d < n := by decide) (ho : o.op = .load t x := by exact rfl) (hdt : T.at t = some dd := by exact rfl) (hx : ev env x = some (p, .pointer (some ad)) := by exact rfl) (hp : pc = true → p = true := by exact fun _ => rfl) (hrd : Rd R E ad cs := by (apply RS.rdD; assumption; ((try dsimp only) <;> omega))) (hk : dd.k.known = true := by exact rfl) (hv : loadV dd cs = some v := by exact rfl) : WG draw P ops Q (o :: rest) n env w0 R E := WG.y hg hd hdn (Yl.load1 hT ho hdt hx hp hrd hk hv) h
theorem sE {n : Nat} {env : Env} {w0 : World} {R : Ro} {E : List Ent} {ES : List Ent} {Q : Exit → Act → World → Prop} {x : Exit} (h : WE Q x n env w0 R E) (hE : E.Sublist ES := by (repeat (first | exact List.Sublist.refl _ | exact List.nil_sublist _ | apply List.Sublist.cons_cons | apply List.Sublist.cons)); done) : WE Q x n env w0 R ES := WE.subE hE h
theorem qB {P : Prop} (h : P := by first | exact Rd.blk 0 rfl | exact Rd.blk 1 rfl | exact Rd.blk 2 rfl | exact Rd.blk 3 rfl | exact Rd.blk 4 rfl | exact Rd.blk 5 rfl | exact Rd.blk 6 rfl | exact Rd.blk 7 rfl | exact Rd.blk 8 rfl | exact Rd.blk 9 rfl | exact Rd.blk 10 rfl | exact Rd.blk 11 rfl | exact Rd.blk 12 rfl) : P := h
end Go.Proofs.YthpblaoehlgpfaaGreat
set_option maxRecDepth 4000
set_option linter.unusedSimpArgs false
set_option linter.unusedVariables false
namespace Go.Proofs.YthpblaoehlgpfaaGreat
open Go Go.RowKit Go.Proofs.YthpblaoehlgpfaaGreat.K Go.Proofs.YthpblaoehlgpfaaGreat.M

theorem Ints_V {R : Ro} {a b : Option Addr} {ca cb : Nat} {xs ys : List Int} (ha : RS R 1 encI a xs) (hb : RS R 1 encI b ys) :
  FnV Tryz.prog 51 [.slice a xs.length ca, .slice b ys.length cb] R (.bool (decide (xs = ys))) := by
 have hla := ha.len
 have hlb := hb.len
 refine Fn.toV (fun w0 E => ?_)
 refine fE 26 Tryz.func51 ?_
 refine zQ (zG (zR 1 rfl (zN (zU (zQ (zQ (zG (zR 5 rfl (zN (zU ?_))))))))))
 refine W.condN rfl (fun hc0 => ?_) (fun hc0 => ?_)
 ·try dsimp only at hc0
  refine zQ (zG (zR 1 rfl (zN (zU (zT (wt ?_))))))
  refine WE.retF tab_ok [_] rfl ⟨rfl, trivial⟩ (RLe.refl _) ?_
  exact ⟨congrArg Value.bool (by symm; apply decide_eq_false; rintro rfl; exact hc0 rfl), rfl⟩
 ·try dsimp only at hc0
  refine zK (zU (zQ (zQ (zG (zR 1 rfl (zN (zU (zB ?_))))))))
  refine W.loop (β := Nat) (fun k => k ≤ xs.length ∧ ∀ i, i < k → nth xs i = nth ys i) (fun k => [(0, true, .slice a xs.length ca), (1, true, .slice b ys.length cb), (5, true, .int .i64 k)]) (fun _ => R) (fun _ => E) (fun k => xs.length - k) 0 ⟨Nat.zero_le _, fun i hi => absurd hi (Nat.not_lt_zero i)⟩ ⟨rfl, rfl, rfl, rfl⟩ (RLe.refl _) (List.Sublist.refl _) ?_
  intro st hst
  obtain ⟨hk, hpre⟩ := hst
  refine zQ (zQ (zG (zR 4 rfl (zN (zU ?_)))))
  refine W.condD rfl (fun hc1 => ?_) (fun hc1 => ?_)
  ·try dsimp only at hc1
   refine zK (zU (zQ (zB (zQ ?_))))
   refine W.regionQ _ mixed qK ?_
   refine zR 2 rfl ?_
   refine WG.y rfl rfl qD (Yl.indexN tab_ok rfl rfl rfl rfl rfl rfl (fun _ => rfl) qN qH) ?_
   refine yR ?_
   refine zR 2 rfl ?_
   refine WG.y rfl rfl qD (Yl.indexN tab_ok rfl rfl rfl rfl rfl rfl (fun _ => rfl) qN qH) ?_
   refine yR ?_
   refine zR 1 rfl (zN (zU ?_))
   refine W.condN rfl (fun hc2 => ?_) (fun hc2 => ?_)
   ·try dsimp only at hc2
    refine zQ (zG (zR 1 rfl (zN (zU (zT (wb (wt (wt (wb (wt ?_))))))))))
    refine WE.retF tab_ok [_] rfl ⟨rfl, trivial⟩ (RLe.refl _) ?_
    exact ⟨congrArg Value.bool (by symm; apply decide_eq_false; rintro rfl; exact hc2 rfl), rfl⟩
   ·try dsimp only at hc2
    refine zK (zL (zU (zG (zR 1 rfl ?_))))
    refine yA ?_
    refine zR 1 rfl (zN ?_)
    refine WE.again (st + 1) ⟨by omega, fun i hi => ?_⟩ qO ⟨rfl, rfl, rfl, rfl⟩ (RLe.refl _) (List.Sublist.refl _)
    rcases Nat.lt_or_ge i st with h | h
    ·exact hpre i h
    ·obtain rfl : i = st := by omega
     exact hc2
  ·try dsimp only at hc1
   refine zX ?_
   refine wx (wx (zY (zU (zQ (zG (zR 1 rfl (zN (zU (zT ?_)))))))))
   refine WE.retF tab_ok [_] rfl ⟨rfl, trivial⟩ (RLe.refl _) ?_
   exact ⟨congrArg Value.bool (by symm; apply decide_eq_true; exact nth_ext qO (fun i hi => hpre i qO)), rfl⟩



theorem tmod_gt (x : Int) {n : Int} (h : 0 < n) : -n < x.tmod n := by
 rcases Int.le_total 0 x with h0 | h0
 ·have := Int.tmod_nonneg n h0; omega
 ·have h1 := Int.neg_tmod (a := x) (b := n)
  have h2 := Int.tmod_lt_of_pos (-x) h
  omega
theorem mod_pos {x n : Int} (h : 1 ≤ n) (hc : ¬ x.tmod n < 0) : x.tmod n = x % n := by
 rw [Int.tmod_eq_emod] at hc ⊢
 split at hc
 ·rename_i h1; rw [if_pos h1]; omega
 ·rename_i h1
  rw [if_neg h1]
  have := Int.emod_lt_of_pos x (show 0 < n by omega)
  have h2 : (n.natAbs : Int) = n := by omega
  omega
theorem mod_neg {x n : Int} (h : 1 ≤ n) (hc : x.tmod n < 0) : x.tmod n + n = x % n := by
 rw [Int.tmod_eq_emod] at hc ⊢
 split at hc
 ·rename_i h1
  have := Int.emod_nonneg x (show n ≠ 0 by omega)
  omega
 ·rename_i h1; rw [if_neg h1]
  have h2 : (n.natAbs : Int) = n := by omega
  omega
theorem src_end {b : Nat} {a : Option Addr} {cp : Nat} {xs : List Int} {c : Nat} (h : xs.length ≤ c) : srcE b a cp xs c = srcE b a cp xs (c + 1) := by
 unfold srcE
 rw [show min c xs.length = min (c + 1) xs.length by omega]
theorem src_next {b : Nat} {a : Option Addr} {cp : Nat} {xs : List Int} {c : Nat} (h : c < xs.length) : Ent.blk b [.slice a xs.length cp, .int .i64 (((min c xs.length : Nat) : Int) + 1)] = srcE b a cp xs (c + 1) := by
 unfold srcE
 rw [show ((min c xs.length : Nat) : Int) + 1 = ((min (c + 1) xs.length : Nat) : Int) by omega]

theorem Mod_V {R : Ro} {x n : Int} (hn : InR n) : FnV Tryz.prog 56 [.int .i64 x, .int .i64 n] R (.int .i64 (mod x n)) := by
 refine Fn.toV (fun w0 E => ?_)
 refine fE 16 Tryz.func56 ?_
 refine zQ (zG (zR 1 rfl (zN (zU (zQ (zQ (zG (zR 2 rfl (zN (zU ?_))))))))))
 refine W.condD rfl (fun hc0 => ?_) (fun hc0 => ?_)
 ·try dsimp only at hc0
  refine zQ (zG (zR 1 rfl (zN (zU (zT (wt ?_))))))
  refine WE.retF tab_ok [_] rfl ⟨rfl, trivial⟩ (RLe.refl _) ?_
  exact ⟨by unfold mod; rw [if_pos hc0]; rfl, rfl⟩
 ·try dsimp only at hc0
  refine zK (zU (zQ (zG (zR 2 rfl ?_))))
  refine WG.y rfl rfl qD (Yl.tmod rfl rfl rfl (fun _ => rfl) (by intro _; omega)) ?_
  refine zR 1 rfl (zN (zU (zQ (zQ (zG (zR 2 rfl (zN (zU ?_))))))))
  refine W.condD rfl (fun hc1 => ?_) (fun hc1 => ?_)
  ·try dsimp only at hc1
   refine zG (zR 2 rfl ?_)
   refine WG.y rfl rfl qD (Yl.add rfl rfl rfl (fun _ => rfl) (by intro _; have h9 := tmod_gt x (show (0 : Int) < n by omega); constructor <;> omega)) ?_
   refine zR 1 rfl (zN (zU (zQ (zG (zR 2 rfl (zN (zU (zT ?_))))))))
   refine WE.retF tab_ok [_] rfl ⟨rfl, trivial⟩ (RLe.refl _) ?_
   refine ⟨congrArg (Value.int .i64) ?_, rfl⟩
   unfold mod; rw [if_neg hc0]; exact mod_neg (by omega) hc1
  ·try dsimp only at hc1
   refine zK (zU (zQ (zG (zR 2 rfl (zN (zU (zT ?_)))))))
   refine WE.retF tab_ok [_] rfl ⟨rfl, trivial⟩ (RLe.refl _) ?_
   refine ⟨congrArg (Value.int .i64) ?_, rfl⟩
   unfold mod; rw [if_neg hc0]; exact mod_pos (by omega) hc1

theorem Raw_C {R : Ro} {b : Nat} {a : Option Addr} {cp : Nat} {xs : List Int} {c : Nat} (w0 : World) (ha : RS R 1 encI a xs) : FnAt Tryz.prog 57 [.pointer (some ⟨b, 0, none⟩)] w0 R (srcE b a cp xs c) (RdPost (.int .i64 (nth xs c)) R (srcE b a cp xs (c + 1))) := by
 intro F
 have hla := ha.len
 refine fE 31 Tryz.func57 ?_
 refine zQ (zG (zR 1 rfl (zN (zU (zQ (zQ ?_))))))
 refine W.regionQ _ mixed qK ?_
 refine zR 3 rfl ?_
 refine yL (Rd.add (Rd.blk 0 rfl) _) ?_
 refine zR 3 rfl ?_
 refine yL (Rd.add (Rd.blk 0 rfl) _) ?_
 refine zR 2 rfl (zN (zU ?_))
 refine W.condD rfl (fun hc0 => ?_) (fun hc0 => ?_)
 ·try dsimp only at hc0
  refine zQ (zG (zR 1 rfl (zN (zU (zT (wt ?_))))))
  refine WE.retF tab_ok [_] rfl ⟨rfl, trivial⟩ (RLe.refl _) ?_
  exact ⟨_, [], rfl, by rw [nth_out (by omega)]; rfl, rfl, src_end (by omega), rfl⟩
 ·try dsimp only at hc0
  refine zK (zU (zQ (zG (zR 3 rfl ?_))))
  refine yL (Rd.add (Rd.blk 0 rfl) _) ?_
  refine yA ?_
  refine zR 2 rfl ?_
  refine zF 0 ?_
  refine zN (zU (zQ ?_))
  refine W.regionQ _ mixed qK ?_
  refine zR 3 rfl ?_
  refine yL (Rd.add (Rd.blk 0 rfl) _) ?_
  refine zR 3 rfl ?_
  refine yL (Rd.add (Rd.blk 0 rfl) _) ?_
  refine yS ?_
  refine WG.y rfl rfl qD (Yl.index tab_ok rfl rfl rfl rfl rfl rfl (fun _ => rfl) qA qH) ?_
  refine yR ?_
  refine zR 1 rfl (zN (zU (zT ?_)))
  refine WE.retF tab_ok [_] rfl ⟨rfl, trivial⟩ (RLe.refl _) ?_
  exact ⟨_, [], rfl, congrArg (fun i => Value.int .i64 (nth xs i)) (show _ = c by omega), rfl, src_next qO, rfl⟩

theorem N_C {R : Ro} {b : Nat} {a : Option Addr} {cp : Nat} {xs : List Int} {c : Nat} (w0 : World) {n : Int} (ha : RS R 1 encI a xs) (hn : InR n) : FnAt Tryz.prog 23 [.pointer (some ⟨b, 0, none⟩), .int .i64 n] w0 R (srcE b a cp xs c) (RdPost (.int .i64 (mod (nth xs c) n)) R (srcE b a cp xs (c + 1))) := by
 intro F
 refine fE 9 Tryz.func23 ?_
 refine zQ (zG (zR 1 rfl (zN (zU (zQ (zG (zR 1 rfl ?_)))))))
 refine WL.callAt 0 en57 rfl rfl qD (CallOp.mkT rfl rfl rfl rfl) rfl (Raw_C w0 ha _) ?_
 rintro _ _ _ _ - ⟨rfl, rfl, rfl, rfl⟩
 refine zR 1 rfl ?_
 refine WG.callV en56 rfl rfl qD (CallOp.mk' rfl rfl rfl rfl) (fun _ => rfl) (fun hg => Mod_V hn) ?_
 refine zR 1 rfl (zN (zU (zT ?_)))
 refine WE.retF tab_ok [_] rfl ⟨rfl, trivial⟩ (RLe.refl _) ?_
 exact ⟨_, [], rfl, rfl, rfl, rfl, rfl⟩

theorem Pick_C {R : Ro} {b : Nat} {a : Option Addr} {cp : Nat} {xs : List Int} {c : Nat} (w0 : World) {a2 : Option Addr} {c2 : Nat} {ys : List Int} {j : Nat} {F : List Ent} (ha : RS R 1 encI a xs) (hy : F[j]? = some (.sl 3 1 a2 c2 (ys.map encI))) (hne : 0 < ys.length) (hl : ys.length ≤ 1000000) :
  K.Fn Tryz.prog 32 [.pointer (some ⟨b, 0, none⟩), .slice a2 ys.length c2] w0 R (srcE b a cp xs c :: F) (fun v R' E' => ∃ e' N, E' = N ++ e' :: F ∧ RdPost (.int .i64 (nth ys (mod (nth xs c) ys.length).toNat)) R (srcE b a cp xs (c + 1)) v R' e' N) := by
 have hr := mod_range (nth xs c) (show (1 : Int) ≤ ys.length by omega)
 refine fE 12 Tryz.func32 ?_
 refine zQ (zG (zR 1 rfl (zN (zU (zQ (zG (zR 4 rfl ?_)))))))
 refine WL.callAt 0 en23 rfl rfl qD (CallOp.mkT rfl rfl rfl rfl) rfl (N_C w0 ha (by constructor <;> omega) _) ?_
 rintro _ _ _ _ - ⟨rfl, rfl, rfl, rfl⟩
 refine WG.y rfl rfl qD (Yl.index tab_ok rfl rfl rfl rfl rfl rfl (fun _ => rfl) qA (by intro _; first | exact HasMem.ownD (j + 1) hy | exact qI)) ?_
 refine' WG.y rfl rfl qD (Yl.load1 tab_ok rfl rfl rfl (fun _ => rfl) ?r1 rfl ?h1) ?_
 case r1 => (exact Rd.slD (j + 1) hy qO)
 case h1 => rfl
 refine zR 1 rfl (zN (zU (zT ?_)))
 refine WE.retF tab_ok [_] rfl ⟨rfl, trivial⟩ (RLe.refl _) ?_
 exact ⟨_, [], rfl, rfl, rfl, rfl, rfl⟩

theorem New_C {R : Ro} {a : Option Addr} {cp : Nat} {l : List Int} (w0 : World) (E : List Ent) (hc : l.length ≤ cp) :
  K.Fn Tryz.prog 8 [.slice a l.length cp] w0 R E (fun v R' E' => ∃ b, v = .pointer (some ⟨b, 0, none⟩) ∧ R = R' ∧ E' = srcE b a cp (l.take 2000) 0 :: E) := by
 refine fE 10 Tryz.func8 ?_
 refine zQ (zG (zR 1 rfl (zN (zU (zQ (zG (zR 4 rfl ?_)))))))
 refine WG.y rfl rfl qD (Yl.sliceH tab_ok rfl rfl rfl rfl rfl (fun _ => rfl) (by intro _; split <;> constructor <;> omega) rfl) ?_
 -- build
 refine WG.y rfl rfl qD (Yl.build (parts := [(0, .tmp 7)]) tab_ok rfl rfl rfl rfl (fun _ => rfl) rfl rfl) ?_
 refine zO fun b9 => ?_
 refine zR 1 rfl (zN (zU (zT ?_)))
 refine WE.retF tab_ok [_] rfl ⟨rfl, trivial⟩ (RLe.refl _) ?_
 refine ⟨_, rfl, rfl, ?_⟩
 unfold srcE
 rw [List.length_take, Nat.min_comm 0, Nat.min_zero]
 have e1 : ((if (2000 : Int) < (l.length : Int) then 2000 else (l.length : Int))).toNat = min 2000 l.length := by split <;> omega
 exact congrArg (fun n => Ent.blk _ [Value.slice a n cp, .int .i64 0] :: E) e1



theorem Validate_V {R : Ro} {a : Option Addr} {c : Nat} {ps : List Pkt} (ha : RS R 3 encP a ps) : FnV Tryz.prog 79 [.slice a ps.length c] R (.int .i64 (validate ps)) := by
 have hla := ha.len
 refine Fn.toV (fun w0 E => ?_)
 refine fE 50 Tryz.func79 ?_
 refine zQ (zG (zR 1 rfl (zN (zU (zQ (zQ (zG (zR 3 rfl (zN (zU ?_))))))))))
 refine W.condD rfl (fun hc0 => ?_) (fun hc0 => ?_)
 ·try dsimp only at hc0
  refine zQ (zG (zR 1 rfl (zN (zU (zT (wt ?_))))))
  refine sE (E := E) ?_
  refine WE.retF tab_ok [_] rfl ⟨rfl, trivial⟩ (RLe.refl _) ?_
  exact ⟨by unfold validate; rw [if_pos (show 60 < ps.length by omega)]; rfl, rfl⟩
 ·try dsimp only at hc0
  refine zK (zU (zQ (zG (zR 1 rfl (zN (zU (zQ (zQ (zG (zR 3 rfl (zN (zU (zB ?_)))))))))))))
  refine W.loop (β := Nat × Int) (fun (k, last) => k ≤ ps.length ∧ valGo last (ps.drop k) = valGo 0 ps) (fun (k, last) => [(0, true, .slice a ps.length c), (3, true, .int .i64 last), (9, true, .slice a ps.length c), (10, true, .int .i64 ps.length), (11, true, .int .i64 (k : Int))]) (fun _ => R) (fun _ => E) (fun (k, last) => ps.length - k) ((0, 0)) (⟨Nat.zero_le _, rfl⟩) ⟨rfl, rfl, rfl, rfl, rfl, rfl⟩ (RLe.refl _) qS ?_
  intro st hst
  obtain ⟨k, last⟩ := st
  obtain ⟨hk, hv⟩ := hst
  dsimp only
  refine zQ (zG (zR 1 rfl (zN (zU (zQ ?_)))))
  refine W.condD rfl (fun hc1 => ?_) (fun hc1 => ?_)
  ·try dsimp only at hc1
   have hd := drop_nth (xs := ps) (k := k) (by omega)
   rw [hd, valGo] at hv
   refine zK (zU (zQ (zB (zQ (zG ?_)))))
   refine WG.y rfl rfl qD (Yl.indexN tab_ok rfl rfl rfl rfl rfl rfl (fun _ => rfl) qN qH) ?_
   refine yR ?_
   refine zA fun b5 => ?_
   refine zE 0 ?_
   refine zN (zU (zQ (zQ (zG (zR 1 rfl ?_)))))
   refine yL (Rd.add (Rd.blk 0 rfl) _) ?_
   refine zR 2 rfl ?_
   refine yP ?_
   refine yG (Rd.addC (Rd.blkC 0 rfl) _) ?_
   refine yP ?_
   refine yO ?_
   refine zR 1 rfl ?_
   refine yP ?_
   refine yG (Rd.addC (Rd.blkC 0 rfl) _) ?_
   refine yP ?_
   refine yO ?_
   refine zR 1 rfl ?_
   refine yP ?_
   refine yG (Rd.addC (Rd.blkC 0 rfl) _) ?_
   refine yP ?_
   refine yO ?_
   refine zR 1 rfl ?_
   refine yP ?_
   refine yG (Rd.addC (Rd.blkC 0 rfl) _) ?_
   refine yP ?_
   refine yO ?_
   refine zR 1 rfl ?_
   refine yP ?_
   refine yG (Rd.addC (Rd.blkC 0 rfl) _) ?_
   refine yP ?_
   refine yO ?_
   refine zN (zU ?_)
   refine W.cond rfl (fun hc2 => ?_) (fun hc2 => ?_)
   ·try simp only [zk] at hc2
    rw [if_pos (show BadP (nth ps k) by unfold BadP; omega)] at hv
    refine zQ (zG (zR 1 rfl (zN (zU (zT (wt (wb (wt (wt (wb (wt ?_)))))))))))
    refine sE (E := E) ?_
    refine WE.retF tab_ok [_] rfl ⟨rfl, trivial⟩ (RLe.refl _) ?_
    exact ⟨by unfold validate; rw [if_neg (show ¬ 60 < ps.length by omega), ← hv]; rfl, rfl⟩
   ·try simp only [zk] at hc2
    rw [if_neg (show ¬ BadP (nth ps k) by unfold BadP; omega)] at hv
    refine zK (zU (zQ (zQ (zG (zR 1 rfl ?_)))))
    refine yL (Rd.add (Rd.blk 0 rfl) _) ?_
    refine zR 2 rfl (zN (zU ?_))
    refine W.condD rfl (fun hc3 => ?_) (fun hc3 => ?_)
    ·try dsimp only at hc3
     rw [if_pos hc3] at hv
     refine zQ (zG (zR 1 rfl (zN (zU (zT (wt (wb (wt (wt (wb (wt ?_)))))))))))
     refine sE (E := E) ?_
     refine WE.retF tab_ok [_] rfl ⟨rfl, trivial⟩ (RLe.refl _) ?_
     exact ⟨by unfold validate; rw [if_neg (show ¬ 60 < ps.length by omega), ← hv]; rfl, rfl⟩
    ·try dsimp only at hc3
     rw [if_neg hc3] at hv
     refine zK (zU (zG (zR 1 rfl ?_)))
     refine yL (Rd.add (Rd.blk 0 rfl) _) ?_
     refine zR 1 rfl (zN (zL (zU (zG ?_))))
     refine yA ?_
     refine zR 1 rfl (zN ?_)
     refine WE.again ((k + 1, (nth ps k).time)) (⟨by dsimp only; omega, hv⟩) (by (try dsimp only); omega) ⟨rfl, rfl, rfl, rfl, rfl, rfl⟩ (RLe.refl _) qS
  ·try dsimp only at hc1
   obtain rfl : k = ps.length := by omega
   simp only [List.drop_length, valGo] at hv
   refine zX ?_
   refine wx (wx (zY (zU (zQ (zG (zR 1 rfl (zN (zU (zT ?_)))))))))
   refine sE (E := E) ?_
   refine WE.retF tab_ok [_] rfl ⟨rfl, trivial⟩ (RLe.refl _) ?_
   exact ⟨by unfold validate; rw [if_neg (show ¬ 60 < ps.length by omega), ← hv]; rfl, rfl⟩

end Go.Proofs.YthpblaoehlgpfaaGreat
