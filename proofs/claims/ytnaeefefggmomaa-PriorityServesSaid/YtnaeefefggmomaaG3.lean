/- Rules and walks, joined from 11 texts: the first of them says: Valid curves, finite or not, plain: what they say, their normal forms, and that two ways to make a curve give the same. No condition. -/
import Derived.Test.YtnaeefefggmomaaG2
import Derived.WalkSpells
/- Valid curves, finite or not, plain: what they say, their normal forms, and that two ways to make a curve give the same. No condition. -/
namespace Go.Proofs.Ytnaeefefggmomaa.M
open Go Go.Proofs.Ytnaeefefggmomaa.K

/-! ### normal forms do not depend on the period that one began with -/
theorem grows_mod {F : Nat → Int} {S m n : Nat} {J I : Int} (hm : Grows F S m J) (hn : Grows F S n I) : Grows F S (n % m) (I - ((n / m : Nat) : Int) * J) := fun t ht => by
  have h1 := hm.mul (n / m) (t + n % m) (by omega)
  have h2 := hn t ht
  have e : t + n % m + n / m * m = t + n := by
    have := Nat.mod_add_div n m
    rw [Nat.mul_comm] at this
    omega
  rw [e, h2] at h1
  omega
theorem grows_gcd {F : Nat → Int} {S : Nat} (m n : Nat) : ∀ (J I : Int), Grows F S m J → Grows F S n I → ∃ K : Int, Grows F S (Nat.gcd m n) K := by
  refine Nat.gcd.induction (P := fun m n => ∀ (J I : Int), Grows F S m J → Grows F S n I → ∃ K : Int, Grows F S (Nat.gcd m n) K) m n ?_ ?_
  · intro n J I _ h
    exact ⟨I, by rw [Nat.gcd_zero_left]; exact h⟩
  · intro m n _ ih J I hm hn
    obtain ⟨K, h⟩ := ih _ _ (grows_mod hm hn) hm
    exact ⟨K, by rw [Nat.gcd_rec]; exact h⟩
theorem grows_fac {F : Nat → Int} {S p : Nat} {J I : Int} {k : Nat} (h1 : Grows F S p J) (h2 : Grows F S (k * p) I) : I = k * J := by
  have a := h1.mul k S (Nat.le_refl _)
  have b := h2 S (Nat.le_refl _)
  omega
theorem PerOk.of_late {F : Nat → Int} {S S' P p : Nat} {I J : Int} (hP : 0 < P) (hp : P % p = 0) (hg : Grows F S P I) (h : Grows F S' p J) : PerOk F S P I p := by
  have hl : Grows F (S' + S) P I := hg.mono (by omega)
  have hj : Grows F (S' + S) p J := h.mono (by omega)
  obtain ⟨k, hk⟩ : ∃ k, P = k * p := ⟨P / p, by
    have := Nat.mod_add_div P p
    rw [Nat.mul_comm (P / p) p]
    omega⟩
  have hI : I = k * J := grows_fac hj (by rw [← hk]; exact hl)
  have e : I * (p : Int) = J * (P : Int) := by
    rw [hI, hk]
    rw [Int.natCast_mul, Int.mul_comm (k : Int) J, Int.mul_assoc]
  refine ⟨hp, by rw [e]; exact Int.mul_emod_left J P, fun t ht _ => ?_⟩
  rw [e, Int.mul_ediv_cancel _ (by omega)]
  have a1 := hg.mul S' t ht
  have a2 := hg.mul S' (t + p) (by omega)
  have h1 : S' ≤ S' * P := Nat.le_mul_of_pos_right S' hP
  have a3 := h (t + S' * P) (by omega)
  rw [show t + S' * P + p = t + p + S' * P by omega] at a3
  omega
theorem nf_same {F : Nat → Int} {S S' P P' : Nat} {I I' : Int} {p p' s s' : Nat} (hP : 0 < P) (hP' : 0 < P') (hg : Grows F S P I) (hg' : Grows F S' P' I') (h : NF F S P I p s) (h' : NF F S' P' I' p' s') : p = p' ∧ s = s' ∧ I * p / P = I' * p' / P' := by
  have g1 := h.least.2.1.all hP hg
  have g2 := h'.least.2.1.all hP' hg'
  have p1 := h.least.1
  have p2 := h'.least.1
  obtain ⟨K, hK⟩ := grows_gcd p p' _ _ (g1.mono (show S ≤ S + S' by omega)) (g2.mono (show S' ≤ S + S' by omega))
  have hg0 : 0 < Nat.gcd p p' := Nat.gcd_pos_of_pos_left _ (by omega)
  have d1 : P % Nat.gcd p p' = 0 := Nat.mod_eq_zero_of_dvd (Nat.dvd_trans (Nat.gcd_dvd_left p p') (Nat.dvd_of_mod_eq_zero h.least.2.1.1))
  have d2 : P' % Nat.gcd p p' = 0 := Nat.mod_eq_zero_of_dvd (Nat.dvd_trans (Nat.gcd_dvd_right p p') (Nat.dvd_of_mod_eq_zero h'.least.2.1.1))
  have e1 : p = Nat.gcd p p' := by
    have hle := Nat.gcd_le_left p' (show 0 < p by omega)
    rcases Nat.lt_or_eq_of_le hle with hlt | he
    · exact absurd (PerOk.of_late hP d1 hg hK) (h.least.2.2 _ hg0 hlt)
    · exact he.symm
  have e2 : p' = Nat.gcd p p' := by
    have hle := Nat.gcd_le_right p (show 0 < p' by omega)
    rcases Nat.lt_or_eq_of_le hle with hlt | he
    · exact absurd (PerOk.of_late hP' d2 hg' hK) (h'.least.2.2 _ hg0 hlt)
    · exact he.symm
  have e3 : p = p' := by omega
  subst e3
  have e4 : I * p / P = I' * p / P' := by
    have a := g1 (S + S') (by omega)
    have b := g2 (S + S') (by omega)
    omega
  refine ⟨rfl, ?_, e4⟩
  have hs := h'.starts
  rw [← e4] at hs
  exact h.starts.unique hs
section
variable {F : Nat → Int} {S P S' P' : Nat} {I I' : Int}
/-- what a reference makes of a finite function is what the program makes of it -/
theorem build_made_fin (hP : 0 < P) (hI : 0 ≤ I) (hg : Grows F S P I) (hP' : 0 < P') (hI' : 0 ≤ I') (hg' : Grows F S' P' I') (hm : ∀ t, F t ≤ F (t + 1)) (h0 : 0 ≤ F 0) (hf : ∀ t, t < S + P → F t < INF) (hf' : ∀ t, t < S' + P' → F t < INF) : mbuild F S P I = madeR ⟨fvals F (S' + P'), P', I'⟩ := by
  have hne : ∀ t, t < S + P → F t ≠ INF := fun t ht => by have := hf t ht; omega
  rw [mbuild_fin hne]
  obtain ⟨p, s, h1, _, _, h2⟩ := finL_nf hP hg hne
  obtain ⟨p', s', h3, _, _, h4⟩ := madeR_nf hP' hI' hg' hm h0 hf'
  obtain ⟨e1, e2, e3⟩ := nf_same hP hP' hg hg' h1 h3
  subst e1; subst e2
  rw [h2, h4, e3]
/-- and of one that is infinite from some tick on -/
theorem mbuild_inf {n : Nat} (hn : n < S + P) (hi : F n = INF) (hf : ∀ t, t < n → F t ≠ INF) : mbuild F S P I = checkedL (fvals F (n + 1)) 1 0 := by
  unfold mbuild
  rw [infAt_some hn hi hf, if_neg (by omega), Int.toNat_natCast]
theorem infL_some {n m : Nat} (hn : n < m) (hi : F n = INF) (hf : ∀ t, t < n → F t ≠ INF) : infL (fvals F m) = n := by
  unfold infL
  rw [fvals_len]
  exact findFrom_some (Nat.zero_le _) (by omega) (by rw [fvals_nth F hn, hi]; simp) (fun j _ hj => by rw [fvals_nth F (by omega)]; simp [hf j hj])
theorem normR_inf {n m : Nat} {per inc : Int} (hn : n < m) (hi : F n = INF) (hf : ∀ t, t < n → F t ≠ INF) : normR ⟨fvals F m, per, inc⟩ = ⟨fvals F (n + 1), 1, 0⟩ := by
  unfold normR
  dsimp only
  rw [infL_some hn hi hf, if_neg (by omega), Int.toNat_natCast, fvals_take F (by omega)]
theorem valid_inf {n : Nat} (hi : F n = INF) (hf : ∀ t, t < n → 0 ≤ F t ∧ F t < INF) (hm : ∀ t, t < n → F t ≤ F (t + 1)) : validB ⟨fvals F (n + 1), 1, 0⟩ = true ↔ n + 1 ≤ 400 ∧ ∀ t, t < n → F t ≤ MAXV := by
  rw [validB_iff]
  dsimp only
  rw [fvals_len, fvals_nth F (show n + 1 - 1 < n + 1 by omega), show n + 1 - 1 = n by omega, if_pos hi]
  constructor
  · rintro ⟨⟨_, h2, _⟩, h3, _⟩
    refine ⟨h2, fun t ht => ?_⟩
    have := (h3 t (by omega)).1
    rw [fvals_nth F (by omega)] at this
    have h5 := hf t ht
    rcases this with h | h <;> omega
  · rintro ⟨h1, h2⟩
    refine ⟨⟨by omega, h1, by decide, by decide, by omega, by decide, by unfold MAXV; omega⟩, fun i hi' => ?_, rfl, rfl⟩
    rw [fvals_nth F hi']
    refine ⟨?_, ?_⟩
    · by_cases e : i = n
      · subst e; exact .inl hi
      · exact .inr ⟨(hf i (by omega)).1, h2 i (by omega)⟩
    · by_cases e : i = 0
      · exact .inl e
      · right
        rw [fvals_nth F (by omega)]
        have := hm (i - 1) (by omega)
        rwa [show i - 1 + 1 = i by omega] at this
theorem checked_inf {n : Nat} (hi : F n = INF) (hf : ∀ t, t < n → 0 ≤ F t ∧ F t < INF) : checkedE (fvals F (n + 1)) ≠ 3 ↔ n + 1 ≤ 400 ∧ ∀ t, t < n → F t ≤ MAXV := by
  constructor
  · intro h
    refine ⟨?_, fun t ht => ?_⟩
    · apply Classical.byContradiction
      intro hn
      exact h (checkedE_big (by rw [fvals_len]; omega))
    · apply Classical.byContradiction
      intro hn
      have := hf t ht
      exact h (checkedE_one (i := t) (by rw [fvals_len]; omega) (by rw [fvals_nth F (by omega)]; omega) (by rw [fvals_nth F (by omega)]; omega))
  · rintro ⟨h1, h2⟩
    refine checkedE_fine (by rw [fvals_len]; exact h1) (fun j hj => ?_)
    rw [fvals_len] at hj
    rw [fvals_nth F hj]
    by_cases e : j = n
    · subst e; exact .inl hi
    · exact .inr (h2 j (by omega))
theorem build_made_inf {n m : Nat} {per inc : Int} (hn : n < S + P) (hn' : n < m) (hi : F n = INF) (hf : ∀ t, t < n → 0 ≤ F t ∧ F t < INF) (hm : ∀ t, t < n → F t ≤ F (t + 1)) : mbuild F S P I = madeR ⟨fvals F m, per, inc⟩ := by
  have hne : ∀ t, t < n → F t ≠ INF := fun t ht => by have := hf t ht; omega
  rw [mbuild_inf hn hi hne]
  unfold madeR
  rw [normR_inf hn' hi hne]
  by_cases hv : validB ⟨fvals F (n + 1), 1, 0⟩ = true
  · rw [if_pos hv, checkedL_good ((checked_inf hi hf).2 ((valid_inf hi hf hm).1 hv))]
  · rw [if_neg hv, checkedL_bad]
    rcases checkedE_vals (fvals F (n + 1)) with h | h
    · exact h
    · exact absurd ((valid_inf hi hf hm).2 ((checked_inf hi hf).1 (by omega))) hv
end
/-! ### what valid curves say -/
/-- infinite from n on -/
structure IC (F : Nat → Int) (n : Nat) : Prop where
  hn : n < 400
  hi : ∀ t, n ≤ t → F t = INF
  hb : ∀ t, t < n → 0 ≤ F t ∧ F t ≤ 1073741824
  hm : ∀ t, F t ≤ F (t + 1)
def cvF (c : Cv) (t : Nat) : Int := atR c.vals c.per c.inc (t : Int)
theorem cvF_low {c : Cv} {t : Nat} (ht : t < c.vals.length) : cvF c t = nth c.vals t := by
  unfold cvF atR
  rw [if_neg (by omega), if_pos (by omega), Int.toNat_natCast]
theorem cvF_vals (c : Cv) : c.vals = fvals (cvF c) c.vals.length := fvals_eq (fun i hi => (cvF_low hi).symm)
/-- where the value of a late tick stands -/
def cvJ (n P t : Nat) : Nat := t - ((t - n) / P + 1) * P
theorem cvJ_at {n P t : Nat} (hP : 1 ≤ P ∧ P ≤ n) (ht : n ≤ t) : n - P ≤ cvJ n P t ∧ cvJ n P t < n ∧ cvJ n P t + ((t - n) / P + 1) * P = t := by
  have hd := Nat.mod_add_div (t - n) P
  have hm := Nat.mod_lt (t - n) (show 0 < P by omega)
  have hmul : ((t - n) / P + 1) * P = P * ((t - n) / P) + P := by rw [Nat.add_mul, Nat.mul_comm]; simp
  unfold cvJ
  omega
theorem cvF_high {c : Cv} {P : Nat} (hc : c.per = P) (hP : 1 ≤ P ∧ P ≤ c.vals.length) {t : Nat} (ht : c.vals.length ≤ t) :
    cvF c t = if nth c.vals (cvJ c.vals.length P t) = INF then INF else nth c.vals (cvJ c.vals.length P t) + (((t - c.vals.length) / P + 1 : Nat) : Int) * c.inc := by
  obtain ⟨j1, j2, j3⟩ := cvJ_at hP ht
  unfold cvF atR
  have e1 : ((t : Int) - (c.vals.length : Int)) / c.per + 1 = (((t - c.vals.length) / P + 1 : Nat) : Int) := by
    rw [hc, show (t : Int) - (c.vals.length : Int) = ((t - c.vals.length : Nat) : Int) by omega]
    rfl
  rw [if_neg (by omega), if_neg (by omega), e1, hc]
  have e2 : ((t : Int) - (((t - c.vals.length) / P + 1 : Nat) : Int) * (P : Int)).toNat = cvJ c.vals.length P t := by
    rw [← Int.natCast_mul]
    omega
  rw [e2]
  rfl
section
variable {c : Cv}
theorem valid_each (h : validB c = true) : ∀ i, i < c.vals.length → (nth c.vals i = INF ∨ (0 ≤ nth c.vals i ∧ nth c.vals i ≤ MAXV)) := fun i hi => ((validB_iff.1 h).2.1 i hi).1
theorem valid_mono (h : validB c = true) {i : Nat} : ∀ {j : Nat}, i ≤ j → j < c.vals.length → nth c.vals i ≤ nth c.vals j
  | 0, hij, _ => by obtain rfl : i = 0 := by omega
                    exact Int.le_refl _
  | j + 1, hij, hj => by
    by_cases e : i = j + 1
    · subst e; exact Int.le_refl _
    · have a := valid_mono h (i := i) (j := j) (by omega) (by omega)
      have b := (((validB_iff.1 h).2.1 (j + 1) hj).2).resolve_left (by omega)
      rw [show j + 1 - 1 = j by omega] at b
      omega
/-- a finite valid curve -/
theorem valid_fin (h : validB c = true) (hf : nth c.vals (c.vals.length - 1) ≠ INF) : ∃ S P : Nat, c.per = P ∧ c.vals.length = S + P ∧ FC (cvF c) S P c.inc := by
  obtain ⟨⟨h1, h2, h3, h4, h5, h6, h7⟩, _, h8⟩ := validB_iff.1 h
  rw [if_neg hf] at h8
  obtain ⟨P, hP⟩ := Int.eq_ofNat_of_zero_le (show 0 ≤ c.per by omega)
  have hPn : 1 ≤ P ∧ P ≤ c.vals.length := by omega
  have hlow : ∀ t, t < c.vals.length → 0 ≤ cvF c t ∧ cvF c t ≤ 1073741824 := fun t ht => by
    rw [cvF_low ht]
    have a := valid_mono h (i := t) (j := c.vals.length - 1) (by omega) (by omega)
    have b := valid_each h (c.vals.length - 1) (by omega)
    have d := valid_each h t ht
    unfold INF MAXV at b d
    unfold INF at hf
    omega
  have hfin : ∀ j, j < c.vals.length → nth c.vals j ≠ INF := fun j hj => by
    have := hlow j hj
    rw [cvF_low hj] at this
    unfold INF; omega
  have hg : Grows (cvF c) (c.vals.length - P) P c.inc := fun t ht => by
    obtain ⟨j1, j2, j3⟩ := cvJ_at hPn (show c.vals.length ≤ t + P by omega)
    rw [cvF_high hP hPn (show c.vals.length ≤ t + P by omega), if_neg (hfin _ j2)]
    by_cases hn : t < c.vals.length
    · have e : (t + P - c.vals.length) / P = 0 := Nat.div_eq_of_lt (by omega)
      rw [e] at j3 ⊢
      have ej : cvJ c.vals.length P (t + P) = t := by omega
      rw [ej, cvF_low hn]; simp
    · obtain ⟨i1, i2, i3⟩ := cvJ_at hPn (show c.vals.length ≤ t by omega)
      rw [cvF_high hP hPn (show c.vals.length ≤ t by omega), if_neg (hfin _ i2)]
      have e : (t + P - c.vals.length) / P = (t - c.vals.length) / P + 1 := by
        rw [show t + P - c.vals.length = t - c.vals.length + P by omega, Nat.add_div_right _ (by omega)]
      rw [e] at j3 ⊢
      have ej : cvJ c.vals.length P (t + P) = cvJ c.vals.length P t := by
        have : ((t - c.vals.length) / P + 1 + 1) * P = ((t - c.vals.length) / P + 1) * P + P := by rw [Nat.add_mul _ 1 P]; simp
        omega
      rw [ej]
      have e3 : (((t - c.vals.length) / P + 1 + 1 : Nat) : Int) * c.inc = (((t - c.vals.length) / P + 1 : Nat) : Int) * c.inc + c.inc := by
        rw [Int.natCast_add _ 1, Int.add_mul]; simp
      rw [e3]; omega
  have hstep : ∀ t, t + 1 ≤ c.vals.length → cvF c t ≤ cvF c (t + 1) := fun t ht => by
    by_cases e : t + 1 < c.vals.length
    · rw [cvF_low e, cvF_low (show t < c.vals.length by omega)]
      exact valid_mono h (by omega) e
    · have g := hg (c.vals.length - P) (Nat.le_refl _)
      rw [show c.vals.length - P + P = t + 1 by omega, cvF_low (show c.vals.length - P < c.vals.length by omega)] at g
      rw [g, cvF_low (show t < c.vals.length by omega)]
      rw [hP, Int.toNat_natCast, show c.vals.length - 1 = t by omega] at h8
      exact h8
  refine ⟨c.vals.length - P, P, hP, by omega, by omega, by omega, by unfold MAXV at h7; omega, hg, ?_, (hlow 0 (by omega)).1, fun t ht => (hlow t (by omega)).2⟩
  intro t
  induction t using Nat.strongRecOn with
  | _ t ih =>
    by_cases ht : t + 1 ≤ c.vals.length
    · exact hstep t ht
    · have a := ih (t - P) (by omega)
      have g1 := hg (t - P) (by omega)
      have g2 := hg (t - P + 1) (by omega)
      rw [show t - P + P = t by omega] at g1
      rw [show t - P + 1 + P = t + 1 by omega] at g2
      omega
theorem valid_ic (h : validB c = true) (hf : nth c.vals (c.vals.length - 1) = INF) : c.per = 1 ∧ c.inc = 0 ∧ ∃ n : Nat, n < c.vals.length ∧ infL c.vals = n ∧ IC (cvF c) n := by
  obtain ⟨⟨h1, h2, h3, h4, h5, h6, h7⟩, _, h8⟩ := validB_iff.1 h
  rw [if_pos hf] at h8
  refine ⟨h8.1, h8.2, ?_⟩
  unfold infL
  rcases findFrom_cases (fun i => nth c.vals i == INF) c.vals.length 0 with ⟨n, n1, n2, n3, n4, n5⟩ | ⟨_, n2⟩
  · rw [n3]
    have hnI : nth c.vals n = INF := by simpa using n4
    have hlow : ∀ t, t < n → 0 ≤ nth c.vals t ∧ nth c.vals t ≤ 1073741824 := fun t ht => by
      have a := valid_each h t (by omega)
      have b := n5 t (by omega) ht
      unfold MAXV at a
      rcases a with a | a
      · rw [a] at b; simp at b
      · exact a
    have hhi : ∀ t, n ≤ t → cvF c t = INF := fun t ht => by
      by_cases e : t < c.vals.length
      · rw [cvF_low e]
        have a := valid_mono h ht e
        have b := valid_each h t e
        rw [hnI] at a
        unfold MAXV INF at b
        unfold INF at a ⊢
        omega
      · obtain ⟨j1, j2, j3⟩ := cvJ_at (n := c.vals.length) (P := 1) (t := t) (by omega) (by omega)
        have ej : cvJ c.vals.length 1 t = c.vals.length - 1 := by omega
        rw [cvF_high (P := 1) (by rw [h8.1]; rfl) (by omega) (by omega), ej, if_pos hf]
    refine ⟨n, by omega, rfl, by omega, hhi, fun t ht => by rw [cvF_low (by omega)]; exact hlow t ht, fun t => ?_⟩
    by_cases ht : t + 1 < n
    · rw [cvF_low (show t + 1 < c.vals.length by omega), cvF_low (show t < c.vals.length by omega)]
      exact valid_mono h (by omega) (by omega)
    · rw [hhi (t + 1) (by omega)]
      by_cases e : t < n
      · rw [cvF_low (by omega)]
        have := hlow t e
        unfold INF; omega
      · rw [hhi t (by omega)]; exact Int.le_refl _
  · have := n2 (c.vals.length - 1) (by omega) (by omega)
    rw [hf] at this; simp at this
/-- of a finite curve, of any valid one -/
def finB (c : Cv) : Bool := nth c.vals (c.vals.length - 1) != INF
theorem cv_eq {S P : Nat} (hP : c.per = P) (hn : c.vals.length = S + P) : c = ⟨fvals (cvF c) (S + P), P, c.inc⟩ := by
  have := cvF_vals c
  rw [hn] at this
  cases c
  simp only at *
  subst hP
  rw [← this]
theorem cv_eqI {n : Nat} (hP : c.per = 1) (hI : c.inc = 0) (hn : n < c.vals.length) : c = ⟨fvals (cvF c) c.vals.length, 1, 0⟩ := by
  have := cvF_vals c
  cases c
  simp only at *
  subst hP; subst hI
  rw [← this]
end
theorem cvF_fc {F : Nat → Int} {S P : Nat} {I : Int} (h : FC F S P I) : cvF ⟨fvals F (S + P), P, I⟩ = F := funext fun t => h.atR t
theorem cvF_ic {F : Nat → Int} {n m : Nat} (h : IC F n) (hm : n < m) : cvF ⟨fvals F m, 1, 0⟩ = F := funext fun t => by
  by_cases ht : t < m
  · rw [cvF_low (by rw [fvals_len]; exact ht)]
    exact fvals_nth F ht
  · have hl : (fvals F m).length = m := fvals_len F m
    rw [cvF_high (c := ⟨fvals F m, 1, 0⟩) (P := 1) rfl (by rw [hl]; omega) (by rw [hl]; omega)]
    obtain ⟨j1, j2, j3⟩ := cvJ_at (n := m) (P := 1) (t := t) (by omega) (by omega)
    rw [hl]
    dsimp only
    rw [show cvJ m 1 t = m - 1 by omega, fvals_nth F (by omega), h.hi _ (by omega), if_pos rfl, h.hi t (by omega)]
theorem IC.fin {F : Nat → Int} {n t : Nat} (h : IC F n) (ht : t < n) : F t ≠ INF := by have := h.hb t ht; unfold INF; omega
theorem IC.valid {F : Nat → Int} {n m : Nat} (h : IC F n) (hm : n < m) (hm' : m ≤ 400) : validB ⟨fvals F m, 1, 0⟩ = true := by
  rw [validB_iff]
  dsimp only
  rw [fvals_len, fvals_nth F (show m - 1 < m by omega), if_pos (h.hi _ (by omega))]
  refine ⟨⟨by omega, hm', by decide, by decide, by omega, by decide, by unfold MAXV; omega⟩, fun i hi => ?_, rfl, rfl⟩
  rw [fvals_nth F hi]
  refine ⟨?_, ?_⟩
  · by_cases e : i < n
    · have := h.hb i e
      right; unfold MAXV; exact this
    · exact .inl (h.hi i (by omega))
  · by_cases e : i = 0
    · exact .inl e
    · right
      rw [fvals_nth F (by omega)]
      have := h.hm (i - 1)
      rwa [show i - 1 + 1 = i by omega] at this
theorem FC.valid' {F : Nat → Int} {S P : Nat} {I : Int} (h : FC F S P I) : validB ⟨fvals F (S + P), P, I⟩ = true := by
  have hP := h.hP
  have hn := h.hn
  have hI := h.hI
  rw [validB_iff]
  dsimp only
  rw [fvals_len]
  refine ⟨⟨by omega, by omega, by omega, by omega, by omega, by omega, by unfold MAXV; omega⟩, fun i hi => ?_, ?_⟩
  · rw [fvals_nth F hi]
    have a := h.nonneg i
    have b := h.hb i hi
    refine ⟨.inr ⟨a, by unfold MAXV; omega⟩, ?_⟩
    by_cases h0 : i = 0
    · exact .inl h0
    · right
      rw [fvals_nth F (by omega)]
      exact h.mono (show i - 1 ≤ i by omega)
  · rw [fvals_nth F (by omega), if_neg (h.fin (by omega)), Int.toNat_natCast, fvals_nth F (by omega)]
    have h1 := h.hg (S + P - P) (by omega)
    have h2 := h.mono (show S + P - 1 ≤ S + P - P + P by omega)
    omega
/-- the normal form of a finite curve -/
theorem FC.norm {F : Nat → Int} {S P : Nat} {I : Int} (h : FC F S P I) : ∃ (s p : Nat) (q : Int), normR ⟨fvals F (S + P), P, I⟩ = ⟨fvals F (s + p), p, q⟩ ∧ FC F s p q ∧ s ≤ S ∧ p ≤ P ∧ NF F S P I p s ∧ q = I * p / P := by
  have hP := h.hP
  have hI := h.hI
  obtain ⟨p, s, h1, h2, h3, h4⟩ := normR_nf (by omega) hI.1 h.hg (fun t ht => h.fin ht)
  have hp := h1.least.1
  have hq0 : 0 ≤ I * (p : Int) / P := Int.ediv_nonneg (Int.mul_nonneg hI.1 (by omega)) (by omega)
  have hq : I * (p : Int) / P ≤ I := by
    have h3 : I * (p : Int) ≤ I * (P : Int) := Int.mul_le_mul_of_nonneg_left (by omega) hI.1
    have h4 : I * (p : Int) / P ≤ I * (P : Int) / P := Int.ediv_le_ediv (by omega) h3
    rw [Int.mul_ediv_cancel _ (by omega)] at h4
    exact h4
  have hn := h.hn
  exact ⟨s, p, I * p / P, h4, ⟨by omega, by omega, ⟨hq0, by omega⟩, h1.starts.1, h.hm, h.h0, fun t ht => h.hb t (by omega)⟩, h3, h2, h1, rfl⟩
theorem IC.norm {F : Nat → Int} {n m : Nat} (h : IC F n) (hm : n < m) : normR ⟨fvals F m, 1, 0⟩ = ⟨fvals F (n + 1), 1, 0⟩ :=
  normR_inf hm (h.hi n (Nat.le_refl _)) (fun t ht => h.fin ht)
/-- what is known of a valid curve: finite or not -/
theorem valid_cases {c : Cv} (h : validB c = true) : (∃ S P : Nat, c = ⟨fvals (cvF c) (S + P), P, c.inc⟩ ∧ c.vals.length = S + P ∧ c.per = P ∧ FC (cvF c) S P c.inc ∧ finB c = true) ∨ (∃ n : Nat, c = ⟨fvals (cvF c) c.vals.length, 1, 0⟩ ∧ n < c.vals.length ∧ c.per = 1 ∧ c.inc = 0 ∧ infL c.vals = n ∧ IC (cvF c) n ∧ finB c = false) := by
  by_cases hf : nth c.vals (c.vals.length - 1) = INF
  · obtain ⟨h1, h2, n, h3, h4, h5⟩ := valid_ic h hf
    exact .inr ⟨n, cv_eqI h1 h2 h3, h3, h1, h2, h4, h5, by unfold finB; rw [hf]; simp⟩
  · obtain ⟨S, P, h1, h2, h3⟩ := valid_fin h hf
    exact .inl ⟨S, P, cv_eq h1 h2, h2, h1, h3, by unfold finB; simp [hf]⟩
theorem norm_valid {c : Cv} (h : validB c = true) : validB (normR c) = true ∧ cvF (normR c) = cvF c ∧ (normR c).vals.length ≤ c.vals.length ∧ finB (normR c) = finB c ∧ (∀ S P : Nat, c.vals.length = S + P → c.per = P → ∃ s p : Nat, (normR c).vals.length = s + p ∧ (normR c).per = p ∧ s ≤ S ∧ p ≤ P) := by
  have hfb : ∀ {a b : Cv}, validB a = true → validB b = true → cvF a = cvF b → finB a = finB b := fun {a b} ha hb e => by
    rcases valid_cases ha with ⟨S, P, _, _, _, hfc, f1⟩ | ⟨n, _, _, _, _, _, hic, f1⟩
    · rcases valid_cases hb with ⟨_, _, _, _, _, _, f2⟩ | ⟨n, _, _, _, _, _, hic, f2⟩
      · rw [f1, f2]
      · rw [e] at hfc
        have a1 := hic.hi (n + S + P) (by omega)
        have a2 := hfc.bound n
        have a3 := hic.hi n (Nat.le_refl _)
        have := hic.hn
        unfold INF at a3; omega
    · rcases valid_cases hb with ⟨S, P, _, _, _, hfc, f2⟩ | ⟨_, _, _, _, _, _, _, f2⟩
      · rw [← e] at hfc
        have a2 := hfc.bound n
        have a3 := hic.hi n (Nat.le_refl _)
        have := hic.hn
        unfold INF at a3; omega
      · rw [f1, f2]
  rcases valid_cases h with ⟨S, P, e, hl, hp, hfc, _⟩ | ⟨n, e, hl, hp, hI, _, hic, _⟩
  · obtain ⟨s, p, q, h1, h2, h3, h4, _⟩ := hfc.norm
    have e2 : normR c = ⟨fvals (cvF c) (s + p), p, q⟩ := by rw [← h1, ← e]
    have e3 : cvF (normR c) = cvF c := by rw [e2]; exact cvF_fc h2
    have hv : validB (normR c) = true := by rw [e2]; exact h2.valid'
    have hp1 := h2.hP
    refine ⟨hv, e3, by rw [e2, hl, fvals_len]; omega, hfb hv h e3, fun S' P' hl' hp' => ⟨s, p, by rw [e2]; exact fvals_len _ _, by rw [e2], by omega, by omega⟩⟩
  · have h1 := hic.norm hl
    have e2 : normR c = ⟨fvals (cvF c) (n + 1), 1, 0⟩ := by rw [← h1, ← e]
    have e3 : cvF (normR c) = cvF c := by rw [e2]; exact cvF_ic hic (by omega)
    have hn := hic.hn
    have hv : validB (normR c) = true := by rw [e2]; exact hic.valid (by omega) (by omega)
    refine ⟨hv, e3, by rw [e2, fvals_len]; omega, hfb hv h e3, fun S' P' hl' hp' => ⟨n, 1, by rw [e2]; exact fvals_len _ _, by rw [e2]; rfl, by omega, by omega⟩⟩
end Go.Proofs.Ytnaeefefggmomaa.M

/- What the references' normal form wants of long lists, plain; curves less a number. No condition. -/
namespace Go.Proofs.Ytnaeefefggmomaa.M
open Go Go.Proofs.Ytnaeefefggmomaa.K

/-- what Made wants -/
structure MadeOk (v : List Int) (per inc : Int) : Prop where
  vals : ∀ x ∈ v, -2305843009213693952 ≤ x ∧ x ≤ 4611686018427387904
  hper : 1 ≤ per ∧ per ≤ 10000 ∧ per ≤ v.length
  hinc : 0 ≤ inc ∧ inc ≤ 2147483648
  self : infL v = -1 → perR ⟨v, per, inc⟩ ((v.length : Int) - per) per = true
  at_ : ∀ t : Int, 0 ≤ t → t ≤ (v.length : Int) + per → infL v = -1 → 0 ≤ atR v per inc t ∧ atR v per inc t ≤ 1000000000000000
  nb : (∀ x ∈ (normR ⟨v, per, inc⟩).vals, -2305843009213693952 ≤ x ∧ x ≤ 4611686018427387904) ∧ InR (normR ⟨v, per, inc⟩).per ∧ InR (normR ⟨v, per, inc⟩).inc
theorem cvF_bound {c : Cv} (h : validB c = true) (t : Nat) : 0 ≤ cvF c t ∧ (cvF c t = INF ∨ cvF c t ≤ 1073741824 * ((t : Int) + 2)) := by
  rcases valid_cases h with ⟨S, P, _, _, _, hfc, _⟩ | ⟨n, _, _, _, _, _, hic, _⟩
  · exact ⟨hfc.nonneg t, .inr (hfc.bound t)⟩
  · by_cases ht : t < n
    · have := hic.hb t ht
      exact ⟨this.1, .inr (by omega)⟩
    · have := hic.hi t (by omega)
      exact ⟨by rw [this]; unfold INF; omega, .inl this⟩
theorem cvF_mono {c : Cv} (h : validB c = true) (t : Nat) : cvF c t ≤ cvF c (t + 1) := by
  rcases valid_cases h with ⟨S, P, _, _, _, hfc, _⟩ | ⟨n, _, _, _, _, _, hic, _⟩
  · exact hfc.hm t
  · exact hic.hm t
theorem valid_range {c : Cv} (h : validB c = true) : (∀ x ∈ c.vals, -2305843009213693952 ≤ x ∧ x ≤ 4611686018427387904) ∧ 1 ≤ c.vals.length ∧ c.vals.length ≤ 400 ∧ 1 ≤ c.per ∧ c.per ≤ 120 ∧ c.per ≤ c.vals.length ∧ 0 ≤ c.inc ∧ c.inc ≤ 1073741824 := by
  obtain ⟨⟨h1, h2, h3, h4, h5, h6, h7⟩, _, _⟩ := validB_iff.1 h
  refine ⟨all_of_nth (fun j hj => ?_), h1, h2, h3, h4, h5, h6, by unfold MAXV at h7; omega⟩
  have := valid_each h j hj
  unfold INF MAXV at this
  omega
/-! ### a curve less a number -/
/-- infinite there -/
def isInf (c : Cv) (t : Nat) : Prop := finB c = false ∧ cvF c t = INF
instance (c : Cv) (t : Nat) : Decidable (isInf c t) := by unfold isInf; infer_instance
theorem isInf_iff {c : Cv} (h : validB c = true) {t : Nat} (ht : t ≤ 1000000000) : isInf c t ↔ cvF c t = INF := by
  refine ⟨fun h => h.2, fun h0 => ⟨?_, h0⟩⟩
  rcases valid_cases h with ⟨S, P, _, _, _, hfc, _⟩ | ⟨n, _, _, _, _, _, hic, hf⟩
  · have := hfc.bound t
    unfold INF at h0; omega
  · exact hf
def lowF (c : Cv) (k : Int) (t : Nat) : Int := if isInf c t then INF else max 0 (cvF c t - k)
def lowerR (c : Cv) (k : Int) : Cv × Int :=
  if finB (normR c) = true ∧ 0 < (normR c).inc ∧ cvF (normR c) 400 < k then (zcv, 3)
  else madeR ⟨fvals (lowF (normR c) k) (400 + (normR c).per.toNat), (normR c).per, (normR c).inc⟩
end Go.Proofs.Ytnaeefefggmomaa.M

/- Sums of curves, curves raised, what is left of a line, plain: the program and the reference make the same. No condition. -/
namespace Go.Proofs.Ytnaeefefggmomaa.M
open Go Go.Proofs.Ytnaeefefggmomaa.K

/-! ### functions that repeat, or are infinite from some tick on -/
structure RepF (F : Nat → Int) (S P : Nat) (I : Int) : Prop where
  hP : 0 < P
  hI : 0 ≤ I
  hg : Grows F S P I
  hm : ∀ t, F t ≤ F (t + 1)
  h0 : 0 ≤ F 0
  hf : ∀ t, t < S + P → F t < INF
structure RepI (F : Nat → Int) (n m : Nat) : Prop where
  hn : n < m
  hi : ∀ t, n ≤ t → F t = INF
  hf : ∀ t, t < n → 0 ≤ F t ∧ F t < INF
  hm : ∀ t, F t ≤ F (t + 1)
/-- a curve in normal form -/
structure Nrm (c : Cv) : Prop where
  valid : validB c = true
  norm : normR c = c
theorem RepF.ne {F : Nat → Int} {S P : Nat} {I : Int} (h : RepF F S P I) {t : Nat} (ht : t < S + P) : F t ≠ INF := by have := h.hf t ht; omega
/-- what Build makes of it -/
theorem RepF.res {F : Nat → Int} {S P : Nat} {I : Int} (h : RepF F S P I) : mbuild F S P I = (zcv, 3) ∨ ∃ c, mbuild F S P I = (c, 0) ∧ Nrm c ∧ cvF c = F ∧ finB c = true := by
  rw [mbuild_fin (fun t ht => h.ne ht)]
  obtain ⟨p, s, hnf, h1, h2, e⟩ := finL_nf h.hP h.hg (fun t ht => h.ne ht)
  rw [e]
  unfold nfC
  by_cases h3 : nfE F p s (I * p / P) = 3
  · rw [if_pos h3]; exact .inl rfl
  · rw [if_neg h3]
    right
    have h4 : ¬ (120 < p ∨ MAXV < I * p / P ∨ 400 < s + p ∨ ((List.range (s + p)).any fun i => decide (F i > MAXV)) = true) := fun hh => h3 (if_pos hh)
    have hp := hnf.least.1
    have hP := h.hP
    have hI := h.hI
    have hfc : FC F s p (I * p / P) := by
      refine ⟨by omega, by omega, ⟨Int.ediv_nonneg (Int.mul_nonneg hI (by omega)) (by omega), ?_⟩, hnf.starts.1, h.hm, h.h0, fun t ht => ?_⟩
      · have : ¬ MAXV < I * p / P := fun hh => h4 (.inr (.inl hh))
        unfold MAXV at this; omega
      · apply Classical.byContradiction
        intro hh
        refine h4 (.inr (.inr (.inr ?_)))
        rw [List.any_eq_true]
        exact ⟨t, List.mem_range.2 ht, decide_eq_true (by unfold MAXV; omega)⟩
    have hv := hfc.valid'
    refine ⟨_, rfl, ⟨hv, ?_⟩, cvF_fc hfc, ?_⟩
    · obtain ⟨s', p', q', e', _, _, _, hnf', hq'⟩ := hfc.norm
      obtain ⟨e1, e2, e3⟩ := nf_same h.hP (by omega) h.hg hfc.hg hnf hnf'
      rw [e', hq', ← e3, ← e1, ← e2]
    · rcases valid_cases hv with ⟨_, _, _, _, _, _, f1⟩ | ⟨n, _, _, _, _, _, hic, _⟩
      · exact f1
      · have := hic.hi (n + s + p) (by omega)
        rw [cvF_fc hfc] at this
        have h5 := hic.hi n (Nat.le_refl _)
        rw [cvF_fc hfc] at h5
        have h6 := hfc.bound n
        have := hic.hn
        unfold INF at h5; omega
theorem RepI.ne {F : Nat → Int} {n m : Nat} (h : RepI F n m) {t : Nat} (ht : t < n) : F t ≠ INF := by have := h.hf t ht; omega
theorem RepI.res {F : Nat → Int} {n S P : Nat} {I : Int} (h : RepI F n (S + P)) : mbuild F S P I = (zcv, 3) ∨ ∃ c, mbuild F S P I = (c, 0) ∧ Nrm c ∧ cvF c = F ∧ finB c = false := by
  rw [mbuild_inf h.hn (h.hi n (Nat.le_refl _)) (fun t ht => h.ne ht)]
  rcases checkedE_vals (fvals F (n + 1)) with hc | hc
  · rw [checkedL_bad hc]; exact .inl rfl
  · rw [checkedL_good (by omega)]
    right
    obtain ⟨h1, h2⟩ := (checked_inf (h.hi n (Nat.le_refl _)) h.hf).1 (by omega)
    have hic : IC F n := ⟨by omega, h.hi, fun t ht => by have := h.hf t ht; have := h2 t ht; unfold MAXV at this; omega, h.hm⟩
    have hv := hic.valid (show n < n + 1 by omega) h1
    refine ⟨_, rfl, ⟨hv, hic.norm (by omega)⟩, cvF_ic hic (by omega), ?_⟩
    unfold finB
    dsimp only
    rw [fvals_len, show n + 1 - 1 = n by omega, fvals_nth F (by omega), h.hi n (Nat.le_refl _)]
    simp
theorem norm_nrm {c : Cv} (h : validB c = true) : Nrm (normR c) := by
  refine ⟨(norm_valid h).1, ?_⟩
  rcases valid_cases h with ⟨S, P, e, hl, hp, hfc, _⟩ | ⟨n, e, hl, hp, hI, _, hic, _⟩
  · obtain ⟨s, p, q, h1, h2, h3, h4, h5, h6⟩ := hfc.norm
    have e2 : normR c = ⟨fvals (cvF c) (s + p), p, q⟩ := by rw [← h1, ← e]
    obtain ⟨s', p', q', g1, g2, g3, g4, g5, g6⟩ := h2.norm
    have hP := hfc.hP
    have hp2 := h2.hP
    obtain ⟨e3, e4, e5⟩ := nf_same (by omega) (by omega) hfc.hg h2.hg h5 g5
    rw [e2, g1, g6, ← e5, ← e3, ← e4, ← h6]
  · have h1 := hic.norm hl
    have e2 : normR c = ⟨fvals (cvF c) (n + 1), 1, 0⟩ := by rw [← h1, ← e]
    rw [e2]; exact hic.norm (by omega)
def stN (c : Cv) : Nat := c.vals.length - c.per.toNat
theorem norm_build {c : Cv} (h : validB c = true) : mbuild (cvF c) (stN c) c.per.toNat c.inc = (normR c, 0) := by
  have hn := (norm_nrm h).valid
  have hm : madeR c = (normR c, 0) := by unfold madeR; rw [if_pos hn]
  rcases valid_cases h with ⟨S, P, e, hl, hp, hfc, _⟩ | ⟨n, e, hl, hp, hI, _, hic, _⟩
  · have hP := hfc.hP
    have hs : stN c = S := by unfold stN; rw [hl, hp, Int.toNat_natCast]; omega
    have hf : ∀ t, t < S + P → cvF c t < INF := fun t ht => by have := hfc.hb t ht; unfold INF; omega
    rw [hs, hp, Int.toNat_natCast, build_made_fin (by omega) hfc.hI.1 hfc.hg (by omega) hfc.hI.1 hfc.hg hfc.hm hfc.h0 hf hf, ← e, hm]
  · have hr := valid_range h
    have hs : stN c + c.per.toNat = c.vals.length := by unfold stN; omega
    rw [build_made_inf (n := n) (m := c.vals.length) (per := 1) (inc := 0) (by rw [hs]; exact hl) hl (hic.hi n (Nat.le_refl _)) (fun t ht => by have := hic.hb t ht; unfold INF; omega) (fun t _ => hic.hm t), ← e, hm]
/-- a curve, if it is one, in normal form -/
def normC (c : Cv) : Cv × Int := if validB c = true then (normR c, 0) else (zcv, 1)
/-! ### sums -/
def lcmC (a b : Cv) : Nat := lcmN a.per.toNat b.per.toNat
def gainC (c : Cv) (L : Nat) : Int := (L : Int) / c.per * c.inc
def plusF (a b : Cv) (t : Nat) : Int := if isInf a t ∨ isInf b t then INF else cvF a t + cvF b t
theorem grows_gain {F : Nat → Int} {S P L : Nat} {I : Int} (hP : 1 ≤ P) (hg : Grows F S P I) (hL : L % P = 0) : Grows F S L ((L : Int) / (P : Int) * I) := fun t ht => by
  have h1 := hg.mul (L / P) t ht
  have h2 : L / P * P = L := Nat.div_mul_cancel (Nat.dvd_of_mod_eq_zero hL)
  rw [h2] at h1
  rw [h1]; rfl
theorem lcm_mod {a b : Nat} (ha : 0 < a) (hb : 0 < b) : lcmN a b % a = 0 ∧ lcmN a b % b = 0 ∧ 0 < lcmN a b := by
  obtain ⟨h1, h2, _, h4⟩ := lcmN_facts ha hb
  refine ⟨?_, ?_, h4⟩
  · rw [h1]; exact Nat.mul_mod_left _ _
  · rw [h2]; exact Nat.mul_mod_left _ _
theorem isInf_ic {c : Cv} {n : Nat} (hic : IC (cvF c) n) (hf : finB c = false) (t : Nat) : isInf c t ↔ n ≤ t := by
  constructor
  · intro h
    apply Classical.byContradiction
    intro hh
    exact hic.fin (show t < n by omega) h.2
  · intro h
    exact ⟨hf, hic.hi t h⟩
theorem isInf_fin {c : Cv} (hf : finB c = true) (t : Nat) : ¬ isInf c t := fun h => by have := h.1; rw [hf] at this; cases this
section
variable {a b : Cv}
theorem plus_fin (ha : validB a = true) (hb : validB b = true) (fa : finB a = true) (fb : finB b = true) (hl : lcmC a b ≤ 10000) {S : Nat} (hS : stN a ≤ S ∧ stN b ≤ S) (hS2 : S ≤ 10000) : RepF (plusF a b) S (lcmC a b) (gainC a (lcmC a b) + gainC b (lcmC a b)) := by
  rcases valid_cases ha with ⟨S1, P1, _, l1, p1, fc1, _⟩ | ⟨_, _, _, _, _, _, _, f⟩
  · rcases valid_cases hb with ⟨S2, P2, _, l2, p2, fc2, _⟩ | ⟨_, _, _, _, _, _, _, f⟩
    · have hP1 := fc1.hP
      have hP2 := fc2.hP
      have hI1 := fc1.hI
      have hI2 := fc2.hI
      unfold stN at hS
      unfold lcmC gainC at *
      rw [l1, p1, Int.toNat_natCast, l2, p2, Int.toNat_natCast] at hS
      rw [p1, p2, Int.toNat_natCast, Int.toNat_natCast] at hl ⊢
      obtain ⟨m1, m2, m3⟩ := lcm_mod (a := P1) (b := P2) (by omega) (by omega)
      have g1 := grows_gain (L := lcmN P1 P2) (by omega) (fc1.hg.mono (show S1 ≤ S by omega)) m1
      have g2 := grows_gain (L := lcmN P1 P2) (by omega) (fc2.hg.mono (show S2 ≤ S by omega)) m2
      have hpl : ∀ t, plusF a b t = cvF a t + cvF b t := fun t => if_neg (fun h => h.elim (isInf_fin fa t) (isInf_fin fb t))
      refine ⟨m3, ?_, fun t ht => by rw [hpl, hpl, g1 t ht, g2 t ht]; omega, fun t => by rw [hpl, hpl]; have := fc1.hm t; have := fc2.hm t; omega, by rw [hpl]; have := fc1.h0; have := fc2.h0; omega, fun t ht => ?_⟩
      · have a1 : 0 ≤ (lcmN P1 P2 : Int) / (P1 : Int) * a.inc := Int.mul_nonneg (Int.ediv_nonneg (by omega) (by omega)) hI1.1
        have a2 : 0 ≤ (lcmN P1 P2 : Int) / (P2 : Int) * b.inc := Int.mul_nonneg (Int.ediv_nonneg (by omega) (by omega)) hI2.1
        omega
      · rw [hpl]
        have := fc1.bound t
        have := fc2.bound t
        unfold INF; omega
    · rw [fb] at f; cases f
  · rw [fa] at f; cases f
/-- an infinite valid curve and any valid one -/
theorem inf_at (ha : validB a = true) (fa : finB a = false) : ∃ n, n ≤ stN a ∧ (∀ t, isInf a t ↔ n ≤ t) ∧ IC (cvF a) n := by
  rcases valid_cases ha with ⟨_, _, _, _, _, _, f⟩ | ⟨n, _, h1, h2, _, _, hic, f⟩
  · rw [fa] at f; cases f
  · refine ⟨n, ?_, isInf_ic hic f, hic⟩
    unfold stN
    rw [h2]
    have : (1 : Int).toNat = 1 := rfl
    omega
theorem fin_part (ha : validB a = true) {t : Nat} (h : ¬ isInf a t) (ht : t ≤ 1000000000) : 0 ≤ cvF a t ∧ cvF a t ≤ 1073741824 * ((t : Int) + 2) := by
  have h1 := cvF_bound ha t
  refine ⟨h1.1, h1.2.resolve_left (fun e => h ((isInf_iff ha ht).2 e))⟩
theorem isInf_mono (ha : validB a = true) {s t : Nat} (hst : s ≤ t) (h : isInf a s) : isInf a t := by
  obtain ⟨n, _, h1, _⟩ := inf_at ha h.1
  have := (h1 s).1 h
  exact (h1 t).2 (by omega)
theorem plus_inf (ha : validB a = true) (hb : validB b = true) (hab : ¬ (finB a = true ∧ finB b = true)) {m : Nat} (hm : stN a < m ∧ stN b < m) : ∃ n, RepI (plusF a b) n m := by
  have key : ∀ n : Nat, n < m → n ≤ 400 → (∀ t, (isInf a t ∨ isInf b t) ↔ n ≤ t) → RepI (plusF a b) n m := fun n hn hn4 h => by
    refine ⟨hn, fun t ht => if_pos ((h t).2 ht), fun t ht => ?_, fun t => ?_⟩
    · have hno : ¬ (isInf a t ∨ isInf b t) := fun hh => by have := (h t).1 hh; omega
      have e : plusF a b t = cvF a t + cvF b t := if_neg hno
      have h1 := fin_part ha (fun x => hno (.inl x)) (show t ≤ 1000000000 by omega)
      have h2 := fin_part hb (fun x => hno (.inr x)) (show t ≤ 1000000000 by omega)
      rw [e]
      unfold INF; omega
    · by_cases h1 : isInf a (t + 1) ∨ isInf b (t + 1)
      · rw [show plusF a b (t + 1) = INF from if_pos h1]
        by_cases h2 : isInf a t ∨ isInf b t
        · rw [show plusF a b t = INF from if_pos h2]; exact Int.le_refl _
        · have e : plusF a b t = cvF a t + cvF b t := if_neg h2
          have ht : t < n := by
            apply Classical.byContradiction
            intro hh; exact h2 ((h t).2 (by omega))
          have a1 := fin_part ha (fun x => h2 (.inl x)) (show t ≤ 1000000000 by omega)
          have a2 := fin_part hb (fun x => h2 (.inr x)) (show t ≤ 1000000000 by omega)
          rw [e]; unfold INF; omega
      · have h2 : ¬ (isInf a t ∨ isInf b t) := fun hh => h1 (hh.imp (isInf_mono ha (by omega)) (isInf_mono hb (by omega)))
        rw [show plusF a b (t + 1) = _ from if_neg h1, show plusF a b t = _ from if_neg h2]
        have := cvF_mono ha t
        have := cvF_mono hb t
        omega
  by_cases fa : finB a = true
  · have fb : finB b = false := by simpa using fun h => hab ⟨fa, h⟩
    obtain ⟨n, h1, h2, h3⟩ := inf_at hb fb
    have := h3.hn
    exact ⟨n, key n (by omega) (by omega) (fun t => by
      rw [h2 t]
      exact ⟨fun h => h.elim (fun x => absurd x (isInf_fin fa t)) id, .inr⟩)⟩
  · have fa : finB a = false := by simpa using fa
    obtain ⟨n, h1, h2, h3⟩ := inf_at ha fa
    have hn := h3.hn
    by_cases fb : finB b = true
    · exact ⟨n, key n (by omega) (by omega) (fun t => by
        rw [h2 t]
        exact ⟨fun h => h.elim id (fun x => absurd x (isInf_fin fb t)), .inl⟩)⟩
    · have fb : finB b = false := by simpa using fb
      obtain ⟨n', h1', h2', h3'⟩ := inf_at hb fb
      exact ⟨min n n', key _ (by omega) (by omega) (fun t => by rw [h2 t, h2' t]; omega)⟩
end
def sumC (f g : Cv) : Cv × Int :=
  if validB f = false ∨ validB g = false then (zcv, 1)
  else if 120 < lcmC (normR f) (normR g) then (zcv, 3)
  else mbuild (plusF (normR f) (normR g)) (max (stN (normR f)) (stN (normR g))) (lcmC (normR f) (normR g)) (gainC (normR f) (lcmC (normR f) (normR g)) + gainC (normR g) (lcmC (normR f) (normR g)))
theorem stN_lt {c : Cv} (h : validB c = true) : stN c < c.vals.length ∧ stN c + c.per.toNat = c.vals.length ∧ c.vals.length ≤ 400 := by
  obtain ⟨_, h1, h2, h3, h4, h5, _⟩ := valid_range h
  unfold stN; omega
theorem sum_res {f g : Cv} (hf : validB f = true) (hg : validB g = true) : sumC f g = (zcv, 3) ∨ ∃ c, sumC f g = (c, 0) ∧ Nrm c ∧ cvF c = plusF (normR f) (normR g) ∧ (finB f = true → finB g = true → finB c = true) := by
  have hnf := norm_nrm hf
  have hng := norm_nrm hg
  unfold sumC
  rw [if_neg (by rw [hf, hg]; simp)]
  by_cases hl : 120 < lcmC (normR f) (normR g)
  · rw [if_pos hl]; exact .inl rfl
  · rw [if_neg hl]
    have s1 := stN_lt hnf.valid
    have s2 := stN_lt hng.valid
    by_cases hfin : finB (normR f) = true ∧ finB (normR g) = true
    · rcases (plus_fin hnf.valid hng.valid hfin.1 hfin.2 (by omega) ⟨Nat.le_max_left _ _, Nat.le_max_right _ _⟩ (by omega)).res with h | ⟨c, h1, h2, h3, h4⟩
      · exact .inl h
      · exact .inr ⟨c, h1, h2, h3, fun _ _ => h4⟩
    · have hl0 : 0 < lcmC (normR f) (normR g) := by
        obtain ⟨_, _, _, q1, _⟩ := valid_range hnf.valid
        obtain ⟨_, _, _, q2, _⟩ := valid_range hng.valid
        exact (lcm_mod (by omega) (by omega)).2.2
      obtain ⟨n, hn⟩ := plus_inf hnf.valid hng.valid hfin (m := max (stN (normR f)) (stN (normR g)) + lcmC (normR f) (normR g)) (by omega)
      rcases hn.res (I := gainC (normR f) (lcmC (normR f) (normR g)) + gainC (normR g) (lcmC (normR f) (normR g))) with h | ⟨c, h1, h2, h3, h4⟩
      · exact .inl h
      · refine .inr ⟨c, h1, h2, h3, fun q1 q2 => ?_⟩
        exact absurd ⟨by rw [(norm_valid hf).2.2.2.1]; exact q1, by rw [(norm_valid hg).2.2.2.1]; exact q2⟩ hfin
/-! ### raised -/
def raiseF (a : Cv) (k : Int) (t : Nat) : Int := if t = 0 then 0 else if isInf a t then INF else cvF a t + k
def raiseC (f : Cv) (k : Int) : Cv × Int :=
  if validB f = false then (zcv, 1) else if k < 0 ∨ MAXV < k then (zcv, 2)
  else mbuild (raiseF (normR f) k) (max 1 (stN (normR f))) (normR f).per.toNat (normR f).inc
theorem raise_fin {a : Cv} (ha : validB a = true) (fa : finB a = true) {k : Int} (hk : 0 ≤ k ∧ k ≤ MAXV) {S : Nat} (hS : stN a ≤ S ∧ 1 ≤ S) (hS2 : S ≤ 10000) : RepF (raiseF a k) S a.per.toNat a.inc := by
  unfold MAXV at hk
  rcases valid_cases ha with ⟨S1, P1, _, l1, p1, fc1, _⟩ | ⟨_, _, _, _, _, _, _, f⟩
  · have hP1 := fc1.hP
    have hI1 := fc1.hI
    unfold stN at hS
    rw [l1, p1, Int.toNat_natCast] at hS
    rw [p1, Int.toNat_natCast]
    have hpl : ∀ t, 1 ≤ t → raiseF a k t = cvF a t + k := fun t ht => by
      unfold raiseF
      rw [if_neg (by omega), if_neg (isInf_fin fa t)]
    have h0 : raiseF a k 0 = 0 := if_pos rfl
    refine ⟨by omega, hI1.1, fun t ht => by rw [hpl _ (by omega), hpl _ (by omega), fc1.hg t (by omega)]; omega, fun t => ?_, by rw [h0]; omega, fun t ht => ?_⟩
    · by_cases h : t = 0
      · subst h
        rw [h0, hpl _ (by omega)]
        have := fc1.nonneg (0 + 1)
        omega
      · rw [hpl _ (by omega), hpl _ (by omega)]
        have := fc1.hm t
        omega
    · by_cases h : t = 0
      · subst h; rw [h0]; unfold INF; omega
      · rw [hpl _ (by omega)]
        have := fc1.bound t
        unfold INF; omega
  · rw [fa] at f; cases f
theorem raise_inf {a : Cv} (ha : validB a = true) (fa : finB a = false) {k : Int} (hk : 0 ≤ k ∧ k ≤ MAXV) {m : Nat} (hm : stN a < m ∧ 1 < m) : ∃ n, RepI (raiseF a k) n m := by
  unfold MAXV at hk
  obtain ⟨n, h1, h2, h3⟩ := inf_at ha fa
  have hn := h3.hn
  have h0 : raiseF a k 0 = 0 := if_pos rfl
  refine ⟨max 1 n, by omega, fun t ht => ?_, fun t ht => ?_, fun t => ?_⟩
  · unfold raiseF
    rw [if_neg (by omega), if_pos ((h2 t).2 (by omega))]
  · by_cases h : t = 0
    · subst h; rw [h0]; unfold INF; omega
    · have hb := h3.hb t (by omega)
      unfold raiseF
      rw [if_neg h, if_neg (fun hh => by have := (h2 t).1 hh; omega)]
      unfold INF; omega
  · have hr : ∀ t, t ≠ 0 → raiseF a k t = if isInf a t then INF else cvF a t + k := fun t h => if_neg h
    by_cases h : t = 0
    · subst h
      rw [h0, hr (0 + 1) (by omega)]
      have hb := cvF_bound ha (0 + 1)
      split
      · unfold INF; omega
      · omega
    · rw [hr t h, hr (t + 1) (by omega)]
      by_cases e : isInf a t
      · rw [if_pos e, if_pos (isInf_mono ha (by omega) e)]; exact Int.le_refl _
      · have hlt : t < n := by
          apply Classical.byContradiction
          intro hh; exact e ((h2 t).2 (by omega))
        have hb := h3.hb t hlt
        rw [if_neg e]
        split
        · unfold INF; omega
        · have := cvF_mono ha t
          omega
theorem raise_res {f : Cv} (hf : validB f = true) {k : Int} (hk : 0 ≤ k ∧ k ≤ MAXV) : raiseC f k = (zcv, 3) ∨ ∃ c, raiseC f k = (c, 0) ∧ Nrm c ∧ cvF c = raiseF (normR f) k ∧ (finB f = true → finB c = true) := by
  have hnf := norm_nrm hf
  unfold raiseC
  rw [if_neg (by rw [hf]; simp), if_neg (by omega)]
  have s1 := stN_lt hnf.valid
  obtain ⟨_, _, _, q1, _⟩ := valid_range hnf.valid
  by_cases hfin : finB (normR f) = true
  · rcases (raise_fin hnf.valid hfin hk (S := max 1 (stN (normR f))) (by omega) (by omega)).res with h | ⟨c, h1, h2, h3, h4⟩
    · exact .inl h
    · exact .inr ⟨c, h1, h2, h3, fun _ => h4⟩
  · have hfin' : finB (normR f) = false := by simpa using hfin
    obtain ⟨n, hn⟩ := raise_inf hnf.valid hfin' hk (m := max 1 (stN (normR f)) + (normR f).per.toNat) (by omega)
    rcases hn.res (I := (normR f).inc) with h | ⟨c, h1, h2, h3, h4⟩
    · exact .inl h
    · refine .inr ⟨c, h1, h2, h3, fun q1 => ?_⟩
      exact absurd (by rw [(norm_valid hf).2.2.2.1]; exact q1) hfin
/-! ### totals -/
def zeroC : Cv := ⟨[0], 1, 0⟩
def totalGo (s : Cv) : List Cv → Cv × Int
  | [] => (s, 0)
  | f :: l => if (sumC s f).2 ≠ 0 then (zcv, (sumC s f).2) else totalGo (sumC s f).1 l
def totalC (l : List Cv) : Cv × Int := totalGo zeroC l
theorem zero_nrm : Nrm zeroC := ⟨by kernel_rfl, by kernel_rfl⟩
theorem total_res : ∀ (l : List Cv) (s : Cv), validB s = true → Nrm s → (∀ f ∈ l, validB f = true) → totalGo s l = (zcv, 3) ∨ ∃ c, totalGo s l = (c, 0) ∧ Nrm c ∧ (finB s = true → (∀ f ∈ l, finB f = true) → finB c = true)
  | [], s, hv, hn, _ => .inr ⟨s, rfl, hn, fun h _ => h⟩
  | f :: l, s, hv, hn, hl => by
    simp only [totalGo]
    rcases sum_res hv (hl f (by simp)) with h | ⟨c, h1, h2, h3, h4⟩
    · rw [h, if_pos (by decide)]; exact .inl rfl
    · rw [h1, if_neg (by simp)]
      rcases total_res l c h2.valid h2 (fun f hf => hl f (by simp [hf])) with h | ⟨c', e1, e2, e3⟩
      · exact .inl h
      · exact .inr ⟨c', e1, e2, fun q1 q2 => e3 (h4 q1 (q2 f (by simp))) (fun f hf => q2 f (by simp [hf]))⟩
/-- a flat one -/
def flatF (k : Int) (t : Nat) : Int := if t = 0 then 0 else k
theorem flatF_bound {k : Int} (hk : 0 ≤ k ∧ k ≤ 1073741824) (t : Nat) : 0 ≤ flatF k t ∧ flatF k t ≤ 1000000000000000 := by unfold flatF; split <;> omega
def flatC (k : Int) : Cv × Int := mbuild (flatF k) 1 1 0
theorem flat_zero : flatC 0 = (zeroC, 0) := by kernel_rfl
/-- curves in memory -/
structure CvS where
  a : Option Addr
  cap : Nat
  cv : Cv
instance instCvS : Inhabited CvS := ⟨⟨none, 0, zcv⟩⟩
def encC (s : CvS) : List Value := [.slice s.a s.cv.vals.length s.cap, .int .i64 s.cv.per, .int .i64 s.cv.inc]
theorem drop_map_cons {ls : List CvS} {i : Nat} (h : i < ls.length) : (ls.map CvS.cv).drop i = (nth ls i).cv :: (ls.map CvS.cv).drop (i + 1) := by
  rw [List.drop_eq_getElem_cons (by simpa using h), List.getElem_map, ← nth_eq h]
/-- the last value that was looked at -/
def lastV (v : List Int) (t : Nat) : Int := if t = 0 then 0 else nth v (t - 1)
theorem lastV_succ (v : List Int) (t : Nat) : lastV v (t + 1) = nth v t := by unfold lastV; rw [if_neg (by omega)]; rfl
end Go.Proofs.Ytnaeefefggmomaa.M

/- What a curve leaves of a line, plain: the program and the reference make the same. No condition. -/
namespace Go.Proofs.Ytnaeefefggmomaa.M
open Go Go.Proofs.Ytnaeefefggmomaa.K

/-- the greatest of the first so many, and 0 -/
def mostF (f : Nat → Int) : Nat → Int
  | 0 => 0
  | n + 1 => max (mostF f n) (f n)
/-- the greatest from s on -/
def tailF (f : Nat → Int) (s : Nat) : Nat → Int
  | 0 => f s
  | d + 1 => max (tailF f s d) (f (s + (d + 1)))
section
variable {f : Nat → Int} {s P : Nat} {D : Int}
theorem mostF_nonneg : ∀ n : Nat, 0 ≤ mostF f n
  | 0 => Int.le_refl _
  | n + 1 => by have := mostF_nonneg n; simp only [mostF]; omega
theorem mostF_step (n : Nat) : mostF f n ≤ mostF f (n + 1) := by simp only [mostF]; omega
theorem mostF_ge {u : Nat} : ∀ {n : Nat}, u < n → f u ≤ mostF f n
  | 0, h => by omega
  | n + 1, h => by
    simp only [mostF]
    by_cases e : u = n
    · subst e; omega
    · have : f u ≤ mostF f n := mostF_ge (by omega)
      omega
theorem mostF_le {B : Int} (h0 : 0 ≤ B) : ∀ {n : Nat}, (∀ u, u < n → f u ≤ B) → mostF f n ≤ B
  | 0, _ => h0
  | n + 1, h => by
    have a := mostF_le h0 (n := n) (fun u hu => h u (by omega))
    have b := h n (by omega)
    simp only [mostF]; omega
theorem tailF_ge {u : Nat} : ∀ {d : Nat}, s ≤ u → u ≤ s + d → f u ≤ tailF f s d
  | 0, h1, h2 => by
    obtain rfl : u = s := by omega
    exact Int.le_refl _
  | d + 1, h1, h2 => by
    simp only [tailF]
    by_cases e : u = s + (d + 1)
    · subst e; omega
    · have : f u ≤ tailF f s d := tailF_ge h1 (by omega)
      omega
theorem tailF_le {B : Int} : ∀ {d : Nat}, (∀ u, s ≤ u → u ≤ s + d → f u ≤ B) → tailF f s d ≤ B
  | 0, h => h s (Nat.le_refl _) (by omega)
  | d + 1, h => by
    have a := tailF_le (d := d) (fun u h1 h2 => h u h1 (by omega))
    have b := h (s + (d + 1)) (by omega) (Nat.le_refl _)
    simp only [tailF]; omega
theorem most_tail : ∀ d : Nat, mostF f (s + d + 1) = max (mostF f s) (tailF f s d)
  | 0 => rfl
  | d + 1 => by
    have ih := most_tail d
    have e : mostF f (s + (d + 1) + 1) = max (mostF f (s + d + 1)) (f (s + (d + 1))) := rfl
    rw [e, ih]
    simp only [tailF]; omega
theorem tail_shift (hP : 0 < P) (hD : 0 ≤ D) (h : ∀ t, s ≤ t → f (t + P) = f t + D) {d : Nat} (hd : P ≤ d + 1) : tailF f s (d + P) = tailF f s d + D := by
  refine Int.le_antisymm (tailF_le (fun u h1 h2 => ?_)) ?_
  · by_cases hu : s + P ≤ u
    · have a := h (u - P) (by omega)
      rw [show u - P + P = u by omega] at a
      have b := tailF_ge (f := f) (s := s) (u := u - P) (d := d) (by omega) (by omega)
      omega
    · have b := tailF_ge (f := f) (s := s) (u := u) (d := d) h1 (by omega)
      omega
  · have key : ∀ d : Nat, tailF f s d + D ≤ tailF f s (d + P) := fun d => by
      have : tailF f s d ≤ tailF f s (d + P) - D := tailF_le (fun u h1 h2 => by
        have a := h u h1
        have b := tailF_ge (f := f) (s := s) (u := u + P) (d := d + P) (by omega) (by omega)
        omega)
      omega
    exact key d
theorem most_flat (hP : 0 < P) (hD : D ≤ 0) (h : ∀ t, s ≤ t → f (t + P) = f t + D) {t : Nat} (ht : s + P ≤ t + 1) : mostF f (t + 1 + 1) = mostF f (t + 1) := by
  have a := h (t + 1 - P) (by omega)
  rw [show t + 1 - P + P = t + 1 by omega] at a
  have b := mostF_ge (f := f) (u := t + 1 - P) (n := t + 1) (by omega)
  show max (mostF f (t + 1)) (f (t + 1)) = _
  omega
end
/-- the difference -/
def rawL (cap : Int) (b : Cv) (t : Nat) : Int := if isInf b t then 0 else cap * (t : Int) - cvF b t
def restF (cap : Int) (b : Cv) (t : Nat) : Int := mostF (rawL cap b) (t + 1)
def driftL (cap : Int) (b : Cv) : Int := b.per * cap - b.inc
def restC (cap : Int) (g : Cv) : Cv × Int :=
  if validB g = false then (zcv, 1)
  else if finB (normR g) = true ∧ 0 < driftL cap (normR g) then
    (if tailF (rawL cap (normR g)) (stN (normR g)) (400 - stN (normR g)) < mostF (rawL cap (normR g)) (stN (normR g)) then (zcv, 3) else mbuild (restF cap (normR g)) 400 (normR g).per.toNat (driftL cap (normR g)))
  else mbuild (restF cap (normR g)) (stN (normR g) + (normR g).per.toNat) 1 0
/-- what the reference adds in a period -/
def gainL (cap : Int) (b : Cv) : Int := if finB b = true then max 0 (driftL cap b) else 0
def restQ (cap : Int) (g : Cv) : Cv × Int :=
  if restF cap (normR g) (400 + (normR g).per.toNat) ≠ restF cap (normR g) 400 + gainL cap (normR g) then (zcv, 3)
  else madeR ⟨fvals (restF cap (normR g)) (400 + (normR g).per.toNat), (normR g).per, gainL cap (normR g)⟩
section
variable {cap : Int} {b : Cv}
theorem rawL_le (hc : 0 ≤ cap) (hb : validB b = true) (t : Nat) : rawL cap b t ≤ cap * (t : Int) := by
  have h1 := Int.mul_nonneg hc (show (0 : Int) ≤ (t : Int) by omega)
  have h2 := (cvF_bound hb t).1
  unfold rawL
  split <;> omega
theorem restF_bound (hc : 0 ≤ cap) (hb : validB b = true) (t : Nat) : 0 ≤ restF cap b t ∧ restF cap b t ≤ cap * (t : Int) := by
  refine ⟨mostF_nonneg _, mostF_le (Int.mul_nonneg hc (by omega)) (fun u hu => ?_)⟩
  have h1 := rawL_le hc hb u
  have h2 := Int.mul_le_mul_of_nonneg_left (show (u : Int) ≤ (t : Int) by omega) hc
  omega
theorem raw_shift (hb : validB b = true) (hf : finB b = true) : ∀ t, stN b ≤ t → rawL cap b (t + b.per.toNat) = rawL cap b t + driftL cap b := fun t ht => by
  rcases valid_cases hb with ⟨S1, P1, _, l1, p1, fc1, _⟩ | ⟨_, _, _, _, _, _, _, f⟩
  · unfold stN at ht
    rw [l1, p1, Int.toNat_natCast] at ht
    unfold rawL driftL
    rw [if_neg (isInf_fin hf _), if_neg (isInf_fin hf _), p1, Int.toNat_natCast, fc1.hg t (by omega)]
    have : cap * ((t + P1 : Nat) : Int) = cap * (t : Int) + (P1 : Int) * cap := by rw [Int.natCast_add, Int.mul_add, Int.mul_comm cap (P1 : Int)]
    omega
  · rw [hf] at f; cases f
theorem restF_lt (hc : 0 ≤ cap ∧ cap ≤ 4000) (hb : validB b = true) {t : Nat} (ht : t ≤ 10000) : restF cap b t < INF := by
  have h1 := (restF_bound hc.1 hb t).2
  have h2 := mulB (a := cap) (b := (t : Int)) (A := 4000) (B := 10000) (by omega) (by omega)
  unfold INF; omega
theorem rest_flat (hb : validB b = true) (h : ¬ (finB b = true ∧ 0 < driftL cap b)) {t : Nat} (ht : stN b + b.per.toNat ≤ t + 1) : restF cap b (t + 1) = restF cap b t := by
  unfold restF
  obtain ⟨_, _, _, q1, _⟩ := valid_range hb
  by_cases hf : finB b = true
  · exact most_flat (P := b.per.toNat) (by omega) (show driftL cap b ≤ 0 by
      apply Classical.byContradiction
      intro hh; exact h ⟨hf, by omega⟩) (raw_shift hb hf) ht
  · have hf' : finB b = false := by simpa using hf
    obtain ⟨n, h1, h2, h3⟩ := inf_at hb hf'
    have e : rawL cap b (t + 1) = 0 := by
      unfold rawL; rw [if_pos ((h2 _).2 (by omega))]
    show max (mostF (rawL cap b) (t + 1)) (rawL cap b (t + 1)) = _
    have := mostF_nonneg (f := rawL cap b) (t + 1)
    omega
theorem rest_rep2 (hc : 0 ≤ cap ∧ cap ≤ 4000) (hb : validB b = true) (h : ¬ (finB b = true ∧ 0 < driftL cap b)) {S : Nat} (hS : stN b + b.per.toNat ≤ S + 1) (hS2 : S ≤ 5000) {P : Nat} (hP : 0 < P ∧ P ≤ 1000) : RepF (restF cap b) S P 0 := by
  refine ⟨hP.1, Int.le_refl _, fun t ht => ?_, fun t => mostF_step _, (restF_bound hc.1 hb 0).1, fun t ht => restF_lt hc hb (by omega)⟩
  have key : ∀ k : Nat, restF cap b (t + k) = restF cap b t := by
    intro k
    induction k with
    | zero => rfl
    | succ k ih =>
      rw [← ih, show t + (k + 1) = t + k + 1 by omega]
      exact rest_flat hb h (by omega)
  rw [key]; omega
theorem rest_rep1 (hc : 0 ≤ cap ∧ cap ≤ 4000) (hb : validB b = true) (hf : finB b = true) (hd : 0 < driftL cap b) (h : ¬ tailF (rawL cap b) (stN b) (400 - stN b) < mostF (rawL cap b) (stN b)) : RepF (restF cap b) 400 b.per.toNat (driftL cap b) := by
  obtain ⟨_, _, q0, q1, q2, _⟩ := valid_range hb
  have hst := stN_lt hb
  refine ⟨by omega, by omega, fun t ht => ?_, fun t => mostF_step _, (restF_bound hc.1 hb 0).1, fun t ht => restF_lt hc hb (by omega)⟩
  unfold restF
  have e1 := most_tail (f := rawL cap b) (s := stN b) (t - stN b)
  have e2 := most_tail (f := rawL cap b) (s := stN b) (t - stN b + b.per.toNat)
  rw [show stN b + (t - stN b) + 1 = t + 1 by omega] at e1
  rw [show stN b + (t - stN b + b.per.toNat) + 1 = t + b.per.toNat + 1 by omega] at e2
  have e3 := tail_shift (s := stN b) (P := b.per.toNat) (by omega) (by omega) (raw_shift (cap := cap) hb hf) (d := t - stN b) (by omega)
  have e4 : tailF (rawL cap b) (stN b) (400 - stN b) ≤ tailF (rawL cap b) (stN b) (t - stN b) := tailF_le (fun u h1 h2 => tailF_ge h1 (by omega))
  omega
end
theorem rest_res {cap : Int} {g : Cv} (hc : 0 ≤ cap ∧ cap ≤ 4000) (hg : validB g = true) : restC cap g = (zcv, 3) ∨ ∃ c, restC cap g = (c, 0) ∧ Nrm c ∧ cvF c = restF cap (normR g) ∧ finB c = true := by
  have hn := (norm_nrm hg).valid
  have hst := stN_lt hn
  unfold restC
  rw [if_neg (by rw [hg]; simp)]
  by_cases h : finB (normR g) = true ∧ 0 < driftL cap (normR g)
  · rw [if_pos h]
    by_cases h2 : tailF (rawL cap (normR g)) (stN (normR g)) (400 - stN (normR g)) < mostF (rawL cap (normR g)) (stN (normR g))
    · rw [if_pos h2]; exact .inl rfl
    · rw [if_neg h2]; exact (rest_rep1 hc hn h.1 h.2 h2).res
  · rw [if_neg h]
    exact (rest_rep2 hc hn h (by omega) (by omega) ⟨by decide, by decide⟩).res
/-! ### the line itself; what the walk of Rest keeps -/
def lineC (cap : Int) : Cv := ⟨[0], 1, cap⟩
theorem line_facts {cap : Int} (hc : 0 ≤ cap ∧ cap ≤ 1073741824) : Nrm (lineC cap) ∧ cvF (lineC cap) = (fun t : Nat => cap * (t : Int)) ∧ finB (lineC cap) = true ∧ stN (lineC cap) = 0 := by
  have hfc := fc_line (c := cap) hc
  have e0 : fvals (fun t : Nat => cap * (t : Int)) (0 + 1) = [0] := by simp [fvals]
  have hv := hfc.valid'
  rw [e0] at hv
  have hn : normR ⟨[0], 1, cap⟩ = ⟨[0], 1, cap⟩ := by
    obtain ⟨s, p, q, h1, h2, h3, h4, _, h6⟩ := hfc.norm
    have hp := h2.hP
    obtain rfl : s = 0 := by omega
    obtain rfl : p = 1 := by omega
    rw [e0] at h1
    have hq : q = cap := by rw [h6]; simp
    rw [hq] at h1
    exact h1
  have hcv : cvF ⟨[0], 1, cap⟩ = fun t : Nat => cap * (t : Int) := by
    have := cvF_fc hfc
    rw [e0] at this; exact this
  exact ⟨⟨hv, hn⟩, hcv, rfl, rfl⟩
def tailV (f : Nat → Int) (s t : Nat) : Int := if t ≤ s then -INF else tailF f s (t - 1 - s)
def mostV (f : Nat → Int) (s t : Nat) : Int := mostF f (min t s)
theorem tailV_succ {f : Nat → Int} {s t : Nat} (h : s ≤ t) (hb : -INF ≤ f t) : tailV f s (t + 1) = max (tailV f s t) (f t) := by
  unfold tailV
  rw [if_neg (by omega)]
  by_cases e : t = s
  · subst e
    rw [if_pos (Nat.le_refl _), show t + 1 - 1 - t = 0 by omega]
    show f t = _
    omega
  · rw [if_neg (by omega)]
    obtain ⟨d, rfl⟩ : ∃ d, t = s + (d + 1) := ⟨t - s - 1, by omega⟩
    rw [show s + (d + 1) + 1 - 1 - s = d + 1 by omega, show s + (d + 1) - 1 - s = d by omega]
    rfl
theorem tailV_low {f : Nat → Int} {s t : Nat} (h : t < s) : tailV f s (t + 1) = tailV f s t := by
  unfold tailV
  rw [if_pos (by omega), if_pos (by omega)]
theorem mostV_succ {f : Nat → Int} {s t : Nat} (h : t < s) : mostV f s (t + 1) = max (mostV f s t) (f t) := by
  unfold mostV
  rw [show min (t + 1) s = t + 1 by omega, show min t s = t by omega]
  rfl
theorem mostV_high {f : Nat → Int} {s t : Nat} (h : s ≤ t) : mostV f s (t + 1) = mostV f s t := by
  unfold mostV
  rw [show min (t + 1) s = s by omega, show min t s = s by omega]
theorem rest_vals {cap : Int} {b : Cv} {s t : Nat} : max (mostV (rawL cap b) s (t + 1)) (tailV (rawL cap b) s (t + 1)) = restF cap b t := by
  unfold restF
  by_cases h : t < s
  · unfold mostV tailV
    rw [show min (t + 1) s = t + 1 by omega, if_pos (by omega)]
    have := mostF_nonneg (f := rawL cap b) (t + 1)
    unfold INF; omega
  · have := most_tail (f := rawL cap b) (s := s) (t - s)
    rw [show s + (t - s) + 1 = t + 1 by omega] at this
    unfold mostV tailV
    rw [show min (t + 1) s = s by omega, if_neg (by omega), show t + 1 - 1 - s = t - s by omega]
    exact this.symm
theorem rawL_range {cap : Int} {b : Cv} (hc : 0 ≤ cap ∧ cap ≤ 4000) (hb : validB b = true) {t : Nat} (ht : t ≤ 10000) : -100000000000000 ≤ rawL cap b t ∧ rawL cap b t ≤ 100000000 := by
  have h1 := rawL_le hc.1 hb t
  have h2 := mulB (a := cap) (b := (t : Int)) (A := 4000) (B := 10000) (by omega) (by omega)
  refine ⟨?_, by omega⟩
  unfold rawL
  split
  · omega
  · rename_i h
    have := fin_part hb h (show t ≤ 1000000000 by omega)
    omega
theorem mostV_range {cap : Int} {b : Cv} (hc : 0 ≤ cap ∧ cap ≤ 4000) (hb : validB b = true) {s t : Nat} (ht : t ≤ 10000) : 0 ≤ mostV (rawL cap b) s t ∧ mostV (rawL cap b) s t ≤ 100000000 :=
  ⟨mostF_nonneg _, mostF_le (by decide) (fun u hu => (rawL_range hc hb (by omega)).2)⟩
theorem tailV_range {cap : Int} {b : Cv} (hc : 0 ≤ cap ∧ cap ≤ 4000) (hb : validB b = true) {s t : Nat} (ht : t ≤ 10000) : -INF ≤ tailV (rawL cap b) s t ∧ tailV (rawL cap b) s t ≤ 100000000 := by
  unfold tailV
  split
  · unfold INF; omega
  · rename_i h
    refine ⟨?_, tailF_le (fun u h1 h2 => (rawL_range hc hb (by omega)).2)⟩
    have h1 := tailF_ge (f := rawL cap b) (s := s) (u := s) (d := t - 1 - s) (Nat.le_refl _) (by omega)
    have h2 := (rawL_range (cap := cap) hc hb (show s ≤ 10000 by omega)).1
    unfold INF; omega
end Go.Proofs.Ytnaeefefggmomaa.M

/- Deficit round robin, plain: greater quanta and packets of others leave less. No condition. -/
namespace Go.Proofs.Ytnaeefefggmomaa.M
open Go Go.Proofs.Ytnaeefefggmomaa.K

end Go.Proofs.Ytnaeefefggmomaa.M

/- Priorities, plain: the curve of a class. No condition. -/
namespace Go.Proofs.Ytnaeefefggmomaa.M
open Go Go.Proofs.Ytnaeefefggmomaa.K

/-- what may block a class -/
def blkF (cls : Int) (z : List Sz) (i : Nat) : Int := (nth (z.drop (cls + 1).toNat) i).most - 1
def blkN (cls : Int) (z : List Sz) : Int := mostF (blkF cls z) (z.length - (cls + 1).toNat)
def allV (ls : List Cv) : Bool := ls.all fun c => validB c
theorem allV_iff {ls : List Cv} : allV ls = true ↔ ∀ c ∈ ls, validB c = true := by unfold allV; rw [List.all_eq_true]
def midC (tot : Cv × Int) (k : Int) : Cv × Int := if tot.2 = 0 then raiseC tot.1 k else tot
def prioC (cap cls : Int) (ls : List Cv) (z : List Sz) : Cv × Int :=
  if chk18 cap cls z ≠ 0 then (zcv, chk18 cap cls z)
  else if ls.length ≠ z.length then (zcv, 2)
  else if allV ls = false then (zcv, 1)
  else if (midC (totalC (ls.take cls.toNat)) (blkN cls z)).2 ≠ 0 then (zcv, (midC (totalC (ls.take cls.toNat)) (blkN cls z)).2)
  else restC cap (midC (totalC (ls.take cls.toNat)) (blkN cls z)).1
theorem chk18_ok {cap cls : Int} {z : List Sz} (h : chk18 cap cls z = 0) : 1 ≤ cap ∧ cap ≤ 4000 ∧ 0 ≤ cls ∧ cls < z.length ∧ z.length ≤ 6 ∧ ∀ s ∈ z, 0 ≤ s.least ∧ s.least ≤ s.most ∧ s.most ≤ 1500 := by
  unfold chk18 at h
  split at h
  · omega
  · rename_i h3
    have a2 : zOk z = true := by
      cases hb : zOk z with
      | true => rfl
      | false => exact absurd (.inr (.inr (.inr (.inr (.inl hb))))) h3
    exact ⟨by omega, by omega, by omega, by omega, by omega, zOk_iff.1 a2⟩
theorem chk18_zero {cap cls : Int} {z : List Sz} (h1 : 1 ≤ cap ∧ cap ≤ 4000) (h2 : 0 ≤ cls ∧ cls < z.length) (h3 : z.length ≤ 6) (h6 : ∀ s ∈ z, 0 ≤ s.least ∧ s.least ≤ s.most ∧ s.most ≤ 1500) : chk18 cap cls z = 0 := by
  have a : zOk z = true := zOk_iff.2 h6
  exact if_neg (by rintro (h|h|h|h|h|h|h) <;> first | omega | (rw [a] at h; cases h))
theorem blk_range {cls : Int} {z : List Sz} (hz : ∀ s ∈ z, 0 ≤ s.least ∧ s.least ≤ s.most ∧ s.most ≤ 1500) {n : Nat} (hn : n ≤ z.length - (cls + 1).toNat) : 0 ≤ mostF (blkF cls z) n ∧ mostF (blkF cls z) n ≤ 1499 := by
  refine ⟨mostF_nonneg _, mostF_le (by decide) (fun u hu => ?_)⟩
  have hl : u < (z.drop (cls + 1).toNat).length := by rw [List.length_drop]; omega
  have := hz _ (List.mem_of_mem_drop (nth_mem hl))
  unfold blkF; omega
theorem mid_res {l : List Cv} (hl : ∀ c ∈ l, validB c = true) {k : Int} (hk : 0 ≤ k ∧ k ≤ MAXV) : midC (totalC l) k = (zcv, 3) ∨ ∃ c, midC (totalC l) k = (c, 0) ∧ Nrm c := by
  unfold midC
  rcases total_res l zeroC zero_nrm.valid zero_nrm hl with h | ⟨c, h1, h2, _⟩
  · rw [show totalC l = (zcv, 3) from h, if_neg (by decide)]; exact .inl rfl
  · rw [show totalC l = (c, 0) from h1, if_pos rfl]
    rcases raise_res h2.valid hk with h | ⟨c', h3, h4, _⟩
    · exact .inl h
    · exact .inr ⟨c', h3, h4⟩
end Go.Proofs.Ytnaeefefggmomaa.M

/- Priorities, plain: the curve of a class is what it is served. No condition. -/
namespace Go.Proofs.Ytnaeefefggmomaa.M
open Go Go.Proofs.Ytnaeefefggmomaa.K

instance instCv : Inhabited Cv := ⟨zcv⟩
theorem total_cv : ∀ (l : List Cv) (s c : Cv), validB s = true → finB s = true → (∀ f ∈ l, validB f = true ∧ finB f = true) → totalGo s l = (c, 0) → finB c = true ∧ ∀ t, cvF c t = cvF s t + sumUp (fun i => cvF (nth l i) t) l.length
  | [], s, c, hv, hf, _, h => by
    simp only [totalGo, Prod.mk.injEq, and_true] at h
    subst h
    exact ⟨hf, fun t => by simp [sumUp]⟩
  | f :: l, s, c, hv, hf, hl, h => by
    have hff := hl f (by simp)
    simp only [totalGo] at h
    rcases sum_res hv hff.1 with e | ⟨c1, e1, e2, e3, e4⟩
    · rw [e, if_pos (by decide)] at h
      have := congrArg Prod.snd h
      simp at this
    · rw [e1, if_neg (by simp)] at h
      obtain ⟨i1, i2⟩ := total_cv l c1 c e2.valid (e4 hf hff.2) (fun f hf => hl f (by simp [hf])) h
      refine ⟨i1, fun t => ?_⟩
      rw [i2 t, e3, List.length_cons, sumUp_front]
      obtain ⟨_, n1, _, n2, _⟩ := norm_valid hv
      obtain ⟨_, n3, _, n4, _⟩ := norm_valid hff.1
      have e5 : plusF (normR s) (normR f) t = cvF s t + cvF f t := by
        unfold plusF
        rw [if_neg (fun h => h.elim (isInf_fin (by rw [n2]; exact hf) t) (isInf_fin (by rw [n4]; exact hff.2) t)), n1, n3]
      rw [e5]
      show _ = cvF s t + (cvF f t + sumUp (fun i => cvF (nth l i) t) l.length)
      omega
theorem zero_cv (t : Nat) : cvF zeroC t = 0 := by
  have := (line_facts (cap := 0) (by decide)).2.1
  have e : cvF zeroC = fun t : Nat => (0 : Int) * (t : Int) := this
  rw [e]; simp
/-- what is known of a class's curve, if all contracts are finite -/
theorem prio_case {cap cls : Int} {ls : List Cv} {z : List Sz} (h0 : chk18 cap cls z = 0) (hlen : ls.length = z.length) (hl : ∀ f ∈ ls, validB f = true ∧ finB f = true) :
    prioC cap cls ls z = (zcv, 3) ∨ ∃ (G : Nat → Int) (s p : Nat) (q : Int), prioC cap cls ls z = (⟨fvals G (s + p), p, q⟩, 0) ∧ FC G s p q ∧ ∀ u, G u = mostF (fun t : Nat => if t = 0 then 0 else cap * (t : Int) - (sumUp (fun i => cvF (nth ls i) t) cls.toNat + blkN cls z)) (u + 1) := by
  obtain ⟨p1, p2, p3, p4, p5, hz⟩ := chk18_ok h0
  have hav : allV ls = true := allV_iff.2 (fun c hc => (hl c hc).1)
  have hbk := blk_range (cls := cls) hz (Nat.le_refl _)
  have hp : prioC cap cls ls z = if (midC (totalC (ls.take cls.toNat)) (blkN cls z)).2 ≠ 0 then (zcv, (midC (totalC (ls.take cls.toNat)) (blkN cls z)).2) else restC cap (midC (totalC (ls.take cls.toNat)) (blkN cls z)).1 := by
    unfold prioC
    rw [if_neg (fun h => h h0), if_neg (by omega), if_neg (by rw [hav]; decide)]
  have hlt : ∀ f ∈ ls.take cls.toNat, validB f = true ∧ finB f = true := fun f hf => hl f (List.mem_of_mem_take hf)
  have htl : (ls.take cls.toNat).length = cls.toNat := by rw [List.length_take]; omega
  have hnt : ∀ i, i < cls.toNat → nth (ls.take cls.toNat) i = nth ls i := fun i hi => by
    unfold nth List.getD
    rw [List.getElem?_take, if_pos hi]
  rw [hp]
  rcases total_res (ls.take cls.toNat) zeroC zero_nrm.valid zero_nrm (fun f hf => (hlt f hf).1) with e | ⟨c, e, hn, hfc⟩
  · have e' : midC (totalC (ls.take cls.toNat)) (blkN cls z) = (zcv, 3) := by unfold midC; rw [show totalC (ls.take cls.toNat) = (zcv, 3) from e, if_neg (by decide)]
    rw [e', if_pos (by decide)]; exact .inl rfl
  · obtain ⟨hcf, hcv⟩ := total_cv (ls.take cls.toNat) zeroC c zero_nrm.valid rfl hlt e
    have e' : midC (totalC (ls.take cls.toNat)) (blkN cls z) = raiseC c (blkN cls z) := by unfold midC; rw [show totalC (ls.take cls.toNat) = (c, 0) from e, if_pos rfl]
    rw [e']
    rcases raise_res hn.valid (k := blkN cls z) (by unfold MAXV blkN; omega) with e2 | ⟨r, e2, hr, hrc, hrf⟩
    · rw [e2, if_pos (by decide)]; exact .inl rfl
    · rw [e2, if_neg (by simp)]
      have hrf := hrf hcf
      rcases rest_res (cap := cap) ⟨by omega, p2⟩ hr.valid with e3 | ⟨d, e3, hd, hdc, hdf⟩
      · exact .inl e3
      · right
        rcases valid_cases hd.valid with ⟨S, P, f1, f2, f3, f4, _⟩ | ⟨_, _, _, _, _, _, _, f5⟩
        · refine ⟨cvF d, S, P, d.inc, by rw [e3]; exact congrArg (fun x => (x, (0 : Int))) f1, f4, fun u => ?_⟩
          rw [hdc, hr.norm]
          unfold restF
          have : rawL cap r = fun t : Nat => if t = 0 then 0 else cap * (t : Int) - (sumUp (fun i => cvF (nth ls i) t) cls.toNat + blkN cls z) := funext fun t => by
            unfold rawL
            rw [if_neg (isInf_fin hrf t), hrc, hn.norm]
            by_cases h : t = 0
            · subst h
              rw [if_pos rfl, show raiseF c (blkN cls z) 0 = 0 from if_pos rfl]; simp
            · rw [if_neg h]
              have : raiseF c (blkN cls z) t = cvF c t + blkN cls z := by
                unfold raiseF
                rw [if_neg h, if_neg (isInf_fin hcf t)]
              rw [this, hcv t, zero_cv, htl, sumUp_congr (fun i hi => by rw [hnt i hi])]
              omega
          rw [this]
        · rw [hdf] at f5; cases f5
/-- and the class is served so much -/
theorem prio_full {ps : List Pkt} {n k : Nat} {cap : Int} {ls : List Cv} {z : List Sz} {G : Nat → Int} {s p : Nat} {q : Int} (hsort : ps.Pairwise fun a b => a.time ≤ b.time) (hs : ∀ p ∈ ps, 1 ≤ p.size) (hfl : ∀ p ∈ ps, 0 ≤ p.flow ∧ p.flow < n) (h0 : ∀ p ∈ ps, 0 ≤ p.time) (hk : k < n) (hcap : 0 ≤ cap) (hzn : z.length = n) (hzb : ∀ s ∈ z, 0 ≤ s.least ∧ s.least ≤ s.most ∧ s.most ≤ 1500) (hS : SzOf ps z)
    (hkeep : ∀ c, c < k → ∀ x t : Nat, x ≤ t → pbytes c (t : Int) ps - pbytes c (x : Int) ps ≤ cvF (nth ls c) (t - x)) (hfc : FC G s p q) (hG : ∀ u, G u = mostF (fun t : Nat => if t = 0 then 0 else cap * (t : Int) - (sumUp (fun i => cvF (nth ls i) t) k + blkN k z)) (u + 1)) {m : Nat} :
    (∀ t : Nat, t ≤ m → ∃ a : Nat, a ≤ t ∧ pbytes k (a : Int) ps + G (t - a) ≤ nth (nth (mrun ps (prioCh ps n) cap n m ()).sent k) t) ∧
    (∀ (F : Nat → Int) (d i T : Nat), (∀ x t : Nat, x ≤ t → pbytes k (t : Int) ps - pbytes k (x : Int) ps ≤ F (t - x)) → (∀ u, F u ≤ G (u + d)) → i < ps.length → (nth ps i).flow = k → (nth ps i).time = T → T + d < m → 0 ≤ nth (mrun ps (prioCh ps n) cap n m ()).done i ∧ nth (mrun ps (prioCh ps n) cap n m ()).done i ≤ (T : Int) + d) := by
  have hsz : ∀ p ∈ ps, 0 ≤ p.size := fun p hp => by have := hs p hp; omega
  have hbk := blk_range (cls := (k : Int)) hzb (Nat.le_refl _)
  have hserv : ∀ t : Nat, t ≤ m → ∃ a : Nat, a ≤ t ∧ pbytes k (a : Int) ps + G (t - a) ≤ nth (nth (mrun ps (prioCh ps n) cap n m ()).sent k) t := fun t ht => by
    obtain ⟨x, h1, h2, h3⟩ := prio_serve hsort hs hfl h0 hk hcap (Bk := blkN k z) hbk.1 (fun p hp hf => by
      obtain ⟨i, hi, e⟩ := List.getElem_of_mem hp
      have h2 := (hS i hi).2
      have hfp := hfl p hp
      rw [nth_eq hi, e] at h2
      have h4 := mostF_ge (f := blkF k z) (u := p.flow.toNat - (k + 1)) (n := z.length - ((k : Int) + 1).toNat) (by omega)
      have h5 : blkF k z (p.flow.toNat - (k + 1)) = (nth z p.flow.toNat).most - 1 := by
        unfold blkF
        have : nth (z.drop ((k : Int) + 1).toNat) (p.flow.toNat - (k + 1)) = nth z p.flow.toNat := by
          unfold nth List.getD
          rw [List.getElem?_drop]
          rw [show ((k : Int) + 1).toNat + (p.flow.toNat - (k + 1)) = p.flow.toNat by omega]
        rw [this]
      unfold blkN
      omega) hkeep t ht
    refine ⟨x, h1, ?_⟩
    rw [hG]
    have : mostF (fun t : Nat => if t = 0 then 0 else cap * (t : Int) - (sumUp (fun i => cvF (nth ls i) t) k + blkN k z)) (t - x + 1) ≤ nth (nth (mrun ps (prioCh ps n) cap n m ()).sent k) t - pbytes k (x : Int) ps := mostF_le (by omega) (fun u hu => by
      by_cases hu0 : u = 0
      · rw [if_pos hu0]; omega
      · rw [if_neg hu0]
        have := h3 u (by omega) (by omega)
        omega)
    omega
  refine ⟨hserv, fun F d i T hF hd hi hf hT hTm => ?_⟩
  have hg := prio_fair (ps := ps) (n := n) hsort
  have h1 := wait_bound (a := fun u => pbytes k (u : Int) ps) (v := fun u => nth (nth (mrun ps (prioCh ps n) cap n m ()).sent k) u) (F := F) (G := G) (m := m) (T := T) (d := d) hF (fun x t hxt => pbytes_mono (by omega) ps hsz) hfc.nonneg hserv hd (by omega)
  apply Classical.byContradiction
  intro hn2
  have h2 := late_less hg hs hfl hsort hk hcap (prio_start (ps := ps) n) (m := m) (n := i) (T := T) (t := T + d) hi hf hT hTm (by omega)
  have h3 : pbytes k ((T : Int) + 1) ps ≤ nth (nth (mrun ps (prioCh ps n) cap n m ()).sent k) (T + d + 1) := h1
  omega
end Go.Proofs.Ytnaeefefggmomaa.M

/- The rules of the walks, over any program: a call that only reads the memory that is owned. No condition. -/
namespace Go.Proofs.Ytnaeefefggmomaa.K
open Go Go.RowKit

/-- a call that hands back this value and leaves this memory as it is -/
def FnE (P : Program) (f : FuncId) (args : List Value) (w0 : World) (R : Ro) (E : List Ent) (v : Value) : Prop :=
  ∀ w, Mem w0 w R E → Calls P f args.toArray w fun e w' => e = .returned v ∧ Mem w0 w' R E
section
variable {P : Program} {ops : List Oper} {Q : Exit → Act → World → Prop} {rest : List Oper} {n : Nat} {env : Env} {w0 : World} {R : Ro} {E : List Ent} {o : Oper} {pc q draw : Bool}
end
end Go.Proofs.Ytnaeefefggmomaa.K
namespace Go.Proofs.Ytnaeefefggmomaa.K
open Go Go.RowKit
section
variable {P : Program} {n : Nat} {env : Env} {w0 : World} {R : Ro} {E : List Ent} {o : Oper} {pc p q : Bool}
end
end Go.Proofs.Ytnaeefefggmomaa.K
namespace Go.Proofs.Ytnaeefefggmomaa.K
open Go Go.RowKit
section
variable {P : Program} {n : Nat} {env : Env} {w0 : World} {R : Ro} {E : List Ent} {o : Oper} {pc p q : Bool}
/-- a slice against nil -/
theorem Yl.eqNilS {t t' e : TypeId} {x y : Operand} {a : Option Addr} {m c m' c' : Nat} (hu : P.underlying t = some (.slice e)) (ho : o.op = .binOp .eql t x y t') (hx : ev env x = some (p, .slice a m c)) (hy : ev env y = some (q, .slice none m' c'))
    (hpq : pc = true → (p && q) = true) : Yl P n env w0 R E o pc (.bool a.isNone) := by
  intro ac w hk hm hp
  obtain ⟨h1, h2⟩ := and_both (hpq hp)
  have e1 : (binOp .eql t (.slice a m c) (.slice none m' c')).run P w = .ok (.bool a.isNone) w := by
    simp only [binOp]
    simp [Op.equal, Op.maxDepth, Lib.run_equalIn_slice_nil w 9999 t e a m c m' c' hu]
  unfold execOp
  simp [ho, hk.ev hx h1, hk.ev hy h2, eqGuard, e1]
end
theorem RS.some {α : Type} {_i : Inhabited α} {R : Ro} {k : Nat} {enc : α → List Value} {a : Option Addr} {xs : List α} (h : RS (_i := _i) R k enc a xs) (hx : 0 < xs.length) : a.isNone = false := by
  rcases h.2.1 with h1 | ⟨b, off, cs, h1, _⟩
  · rw [List.map_eq_nil_iff] at h1; rw [h1] at hx; simp at hx
  · rw [h1]; rfl
end Go.Proofs.Ytnaeefefggmomaa.K

/- A trial. No condition. -/
set_option linter.unusedSimpArgs false
set_option linter.unusedVariables false
namespace Go.Proofs.Ytnaeefefggmomaa
open Go Go.RowKit Go.Proofs.Ytnaeefefggmomaa.K Go.Proofs.Ytnaeefefggmomaa.M

theorem Ints_V {R : Ro} {a b : Option Addr} {ca cb : Nat} {xs ys : List Int} (ha : RS R 1 encI a xs) (hb : RS R 1 encI b ys) :
    FnV Try.prog 37 [.slice a xs.length ca, .slice b ys.length cb] R (.bool (decide (xs = ys))) := by
  have hla := ha.len
  have hlb := hb.len
  refine Fn.toV (fun w0 E => ?_)
  refine Fn.enter (n := 26) Try.func37 rfl rfl (Nat.le_of_ble_eq_true rfl) rfl ?_
  refine W.seq ?_
  refine W.region _ ?_
  refine WG.run tab_ok 1 rfl ?_
  refine WG.nil ?_
  refine WE.nxt ?_
  refine W.seq ?_
  refine W.seq ?_
  refine W.region _ ?_
  refine WG.run tab_ok 5 rfl ?_
  refine WG.nil ?_
  refine WE.nxt ?_
  refine W.condN rfl (fun hc0 => ?_) (fun hc0 => ?_)
  · try dsimp only at hc0
    refine W.seq ?_
    refine W.region _ ?_
    refine WG.run tab_ok 1 rfl ?_
    refine WG.nil ?_
    refine WE.nxt ?_
    refine W.ret ?_
    refine WE.then_ret ?_
    refine WE.retF tab_ok [_] rfl ⟨rfl, trivial⟩ (RLe.refl _) ?_
    exact ⟨congrArg Value.bool (by symm; apply decide_eq_false; rintro rfl; exact hc0 rfl), rfl⟩
  · try dsimp only at hc0
    refine W.skip ?_
    refine WE.nxt ?_
    refine W.seq ?_
    refine W.seq ?_
    refine W.region _ ?_
    refine WG.run tab_ok 1 rfl ?_
    refine WG.nil ?_
    refine WE.nxt ?_
    refine W.block ?_
    refine W.loop (β := Nat) (fun k => k ≤ xs.length ∧ ∀ i, i < k → nth xs i = nth ys i) (fun k => [(0, true, .slice a xs.length ca), (1, true, .slice b ys.length cb), (5, true, .int .i64 k)]) (fun _ => R) (fun _ => E) (fun k => xs.length - k) 0 ⟨Nat.zero_le _, fun i hi => absurd hi (Nat.not_lt_zero i)⟩ ⟨rfl, rfl, rfl, rfl⟩ (RLe.refl _) (List.Sublist.refl _) ?_
    intro st hst
    obtain ⟨hk, hpre⟩ := hst
    refine W.seq ?_
    refine W.seq ?_
    refine W.region _ ?_
    refine WG.run tab_ok 4 rfl ?_
    refine WG.nil ?_
    refine WE.nxt ?_
    refine W.condD rfl (fun hc1 => ?_) (fun hc1 => ?_)
    · try dsimp only at hc1
      refine W.skip ?_
      refine WE.nxt ?_
      refine W.seq ?_
      refine W.block ?_
      refine W.seq ?_
      refine W.regionQ _ mixed (by kernel_rfl) ?_
      refine WG.run tab_ok 2 rfl ?_
      refine WG.y rfl rfl (by decide) (Yl.indexN tab_ok rfl rfl rfl rfl rfl rfl (fun _ => rfl) (by intro _; (try dsimp only) <;> omega) (by intro _; first | exact fun _ _ _ _ => rfl | exact RS.has (by assumption) | exact fun _ _ _ _ => (by assumption) | exact HasMem.ownD 0 rfl | exact HasMem.ownD 1 rfl | exact HasMem.ownD 2 rfl | exact HasMem.ownD 3 rfl | exact HasMem.ownD 4 rfl | exact HasMem.ownD 5 rfl | exact HasMem.ownD 6 rfl | exact HasMem.ownD 7 rfl)) ?_
      refine' WG.y rfl rfl (by decide) (Yl.load1 tab_ok rfl rfl rfl (fun _ => rfl) ?r1 rfl ?h1) ?_
      case r1 => (first | (apply RS.rdD; assumption; ((try dsimp only) <;> omega)) | exact Rd.slD 0 rfl (by (try dsimp only) <;> omega) | exact Rd.slD 1 rfl (by (try dsimp only) <;> omega) | exact Rd.slD 2 rfl (by (try dsimp only) <;> omega) | exact Rd.slD 3 rfl (by (try dsimp only) <;> omega) | exact Rd.slD 4 rfl (by (try dsimp only) <;> omega) | exact Rd.slD 5 rfl (by (try dsimp only) <;> omega) | exact Rd.slD 6 rfl (by (try dsimp only) <;> omega) | exact Rd.slD 7 rfl (by (try dsimp only) <;> omega))
      case h1 => rfl
      refine WG.run tab_ok 2 rfl ?_
      refine WG.y rfl rfl (by decide) (Yl.indexN tab_ok rfl rfl rfl rfl rfl rfl (fun _ => rfl) (by intro _; (try dsimp only) <;> omega) (by intro _; first | exact fun _ _ _ _ => rfl | exact RS.has (by assumption) | exact fun _ _ _ _ => (by assumption) | exact HasMem.ownD 0 rfl | exact HasMem.ownD 1 rfl | exact HasMem.ownD 2 rfl | exact HasMem.ownD 3 rfl | exact HasMem.ownD 4 rfl | exact HasMem.ownD 5 rfl | exact HasMem.ownD 6 rfl | exact HasMem.ownD 7 rfl)) ?_
      refine' WG.y rfl rfl (by decide) (Yl.load1 tab_ok rfl rfl rfl (fun _ => rfl) ?r2 rfl ?h2) ?_
      case r2 => (first | (apply RS.rdD; assumption; ((try dsimp only) <;> omega)) | exact Rd.slD 0 rfl (by (try dsimp only) <;> omega) | exact Rd.slD 1 rfl (by (try dsimp only) <;> omega) | exact Rd.slD 2 rfl (by (try dsimp only) <;> omega) | exact Rd.slD 3 rfl (by (try dsimp only) <;> omega) | exact Rd.slD 4 rfl (by (try dsimp only) <;> omega) | exact Rd.slD 5 rfl (by (try dsimp only) <;> omega) | exact Rd.slD 6 rfl (by (try dsimp only) <;> omega) | exact Rd.slD 7 rfl (by (try dsimp only) <;> omega))
      case h2 => rfl
      refine WG.run tab_ok 1 rfl ?_
      refine WG.nil ?_
      refine WE.nxt ?_
      refine W.condN rfl (fun hc2 => ?_) (fun hc2 => ?_)
      · try dsimp only at hc2
        refine W.seq ?_
        refine W.region _ ?_
        refine WG.run tab_ok 1 rfl ?_
        refine WG.nil ?_
        refine WE.nxt ?_
        refine W.ret ?_
        refine WE.blk_ret ?_
        refine WE.then_ret ?_
        refine WE.then_ret ?_
        refine WE.blk_ret ?_
        refine WE.then_ret ?_
        refine WE.retF tab_ok [_] rfl ⟨rfl, trivial⟩ (RLe.refl _) ?_
        exact ⟨congrArg Value.bool (by symm; apply decide_eq_false; rintro rfl; exact hc2 rfl), rfl⟩
      · try dsimp only at hc2
        refine W.skip ?_
        refine WE.blk _ ?_
        refine WE.nxt ?_
        refine W.region _ ?_
        refine WG.run tab_ok 1 rfl ?_
        refine WG.y rfl rfl (by decide) (Yl.add rfl rfl rfl (fun _ => rfl) (by intro _; constructor <;> (try dsimp only) <;> omega)) ?_
        refine WG.run tab_ok 1 rfl ?_
        refine WG.nil ?_
        refine WE.again (st + 1) ⟨by omega, fun i hi => ?_⟩ (by omega) ⟨rfl, rfl, rfl, rfl⟩ (RLe.refl _) (List.Sublist.refl _)
        rcases Nat.lt_or_ge i st with h | h
        · exact hpre i h
        · obtain rfl : i = st := by omega
          exact hc2
    · try dsimp only at hc1
      refine W.exit ?_
      refine WE.then_exit ?_
      refine WE.then_exit ?_
      refine WE.blk_exit ?_
      refine WE.nxt ?_
      refine W.seq ?_
      refine W.region _ ?_
      refine WG.run tab_ok 1 rfl ?_
      refine WG.nil ?_
      refine WE.nxt ?_
      refine W.ret ?_
      refine WE.retF tab_ok [_] rfl ⟨rfl, trivial⟩ (RLe.refl _) ?_
      exact ⟨congrArg Value.bool (by symm; apply decide_eq_true; exact nth_ext (by omega) (fun i hi => hpre i (by omega))), rfl⟩

end Go.Proofs.Ytnaeefefggmomaa

/- A trial. No condition. -/
set_option linter.unusedSimpArgs false
set_option linter.unusedVariables false
namespace Go.Proofs.Ytnaeefefggmomaa
open Go Go.RowKit Go.Proofs.Ytnaeefefggmomaa.K Go.Proofs.Ytnaeefefggmomaa.M

theorem tmod_gt (x : Int) {n : Int} (h : 0 < n) : -n < x.tmod n := by
  rcases Int.le_total 0 x with h0 | h0
  · have := Int.tmod_nonneg n h0; omega
  · have h1 := Int.neg_tmod (a := x) (b := n)
    have h2 := Int.tmod_lt_of_pos (-x) h
    omega
theorem mod_pos {x n : Int} (h : 1 ≤ n) (hc : ¬ x.tmod n < 0) : x.tmod n = x % n := by
  rw [Int.tmod_eq_emod] at hc ⊢
  split at hc
  · rename_i h1; rw [if_pos h1]; omega
  · rename_i h1
    rw [if_neg h1]
    have := Int.emod_lt_of_pos x (show 0 < n by omega)
    have h2 : (n.natAbs : Int) = n := by omega
    omega
theorem mod_neg {x n : Int} (h : 1 ≤ n) (hc : x.tmod n < 0) : x.tmod n + n = x % n := by
  rw [Int.tmod_eq_emod] at hc ⊢
  split at hc
  · rename_i h1
    have := Int.emod_nonneg x (show n ≠ 0 by omega)
    omega
  · rename_i h1; rw [if_neg h1]
    have h2 : (n.natAbs : Int) = n := by omega
    omega
theorem src_end {b : Nat} {a : Option Addr} {cp : Nat} {xs : List Int} {c : Nat} (h : xs.length ≤ c) : srcE b a cp xs c = srcE b a cp xs (c + 1) := by
  unfold srcE
  rw [show min c xs.length = min (c + 1) xs.length by omega]
theorem src_next {b : Nat} {a : Option Addr} {cp : Nat} {xs : List Int} {c : Nat} (h : c < xs.length) : Ent.blk b [.slice a xs.length cp, .int .i64 (((min c xs.length : Nat) : Int) + 1)] = srcE b a cp xs (c + 1) := by
  unfold srcE
  rw [show ((min c xs.length : Nat) : Int) + 1 = ((min (c + 1) xs.length : Nat) : Int) by omega]

theorem Mod_V {R : Ro} {x n : Int} (hn : InR n) : FnV Try.prog 67 [.int .i64 x, .int .i64 n] R (.int .i64 (mod x n)) := by
  refine Fn.toV (fun w0 E => ?_)
  refine Fn.enter (n := 16) Try.func67 rfl rfl (Nat.le_of_ble_eq_true rfl) rfl ?_
  refine W.seq ?_
  refine W.region _ ?_
  refine WG.run tab_ok 1 rfl ?_
  refine WG.nil ?_
  refine WE.nxt ?_
  refine W.seq ?_
  refine W.seq ?_
  refine W.region _ ?_
  refine WG.run tab_ok 2 rfl ?_
  refine WG.nil ?_
  refine WE.nxt ?_
  refine W.condD rfl (fun hc0 => ?_) (fun hc0 => ?_)
  · try dsimp only at hc0
    refine W.seq ?_
    refine W.region _ ?_
    refine WG.run tab_ok 1 rfl ?_
    refine WG.nil ?_
    refine WE.nxt ?_
    refine W.ret ?_
    refine WE.then_ret ?_
    refine WE.retF tab_ok [_] rfl ⟨rfl, trivial⟩ (RLe.refl _) ?_
    exact ⟨by unfold mod; rw [if_pos hc0]; rfl, rfl⟩
  · try dsimp only at hc0
    refine W.skip ?_
    refine WE.nxt ?_
    refine W.seq ?_
    refine W.region _ ?_
    refine WG.run tab_ok 2 rfl ?_
    refine WG.y rfl rfl (by decide) (Yl.tmod rfl rfl rfl (fun _ => rfl) (by intro _; omega)) ?_
    refine WG.run tab_ok 1 rfl ?_
    refine WG.nil ?_
    refine WE.nxt ?_
    refine W.seq ?_
    refine W.seq ?_
    refine W.region _ ?_
    refine WG.run tab_ok 2 rfl ?_
    refine WG.nil ?_
    refine WE.nxt ?_
    refine W.condD rfl (fun hc1 => ?_) (fun hc1 => ?_)
    · try dsimp only at hc1
      refine W.region _ ?_
      refine WG.run tab_ok 2 rfl ?_
      refine WG.y rfl rfl (by decide) (Yl.add rfl rfl rfl (fun _ => rfl) (by intro _; have h9 := tmod_gt x (show (0 : Int) < n by omega); constructor <;> omega)) ?_
      refine WG.run tab_ok 1 rfl ?_
      refine WG.nil ?_
      refine WE.nxt ?_
      refine W.seq ?_
      refine W.region _ ?_
      refine WG.run tab_ok 2 rfl ?_
      refine WG.nil ?_
      refine WE.nxt ?_
      refine W.ret ?_
      refine WE.retF tab_ok [_] rfl ⟨rfl, trivial⟩ (RLe.refl _) ?_
      refine ⟨congrArg (Value.int .i64) ?_, rfl⟩
      unfold mod; rw [if_neg hc0]; exact mod_neg (by omega) hc1
    · try dsimp only at hc1
      refine W.skip ?_
      refine WE.nxt ?_
      refine W.seq ?_
      refine W.region _ ?_
      refine WG.run tab_ok 2 rfl ?_
      refine WG.nil ?_
      refine WE.nxt ?_
      refine W.ret ?_
      refine WE.retF tab_ok [_] rfl ⟨rfl, trivial⟩ (RLe.refl _) ?_
      refine ⟨congrArg (Value.int .i64) ?_, rfl⟩
      unfold mod; rw [if_neg hc0]; exact mod_pos (by omega) hc1

theorem Raw_C {R : Ro} {b : Nat} {a : Option Addr} {cp : Nat} {xs : List Int} {c : Nat} (w0 : World) (ha : RS R 1 encI a xs) : FnAt Try.prog 68 [.pointer (some ⟨b, 0, none⟩)] w0 R (srcE b a cp xs c) (RdPost (.int .i64 (nth xs c)) R (srcE b a cp xs (c + 1))) := by
  intro F
  have hla := ha.len
  refine Fn.enter (n := 31) Try.func68 rfl rfl (Nat.le_of_ble_eq_true rfl) rfl ?_
  refine W.seq ?_
  refine W.region _ ?_
  refine WG.run tab_ok 1 rfl ?_
  refine WG.nil ?_
  refine WE.nxt ?_
  refine W.seq ?_
  refine W.seq ?_
  refine W.regionQ _ mixed (by kernel_rfl) ?_
  refine WG.run tab_ok 3 rfl ?_
  refine' WG.y rfl rfl (by decide) (Yl.load1 tab_ok rfl rfl rfl (fun _ => rfl) ?r1 rfl ?h1) ?_
  case r1 => apply Rd.add; (first | exact Rd.blk 0 rfl | exact Rd.blk 1 rfl | exact Rd.blk 2 rfl | exact Rd.blk 3 rfl | exact Rd.blk 4 rfl | exact Rd.blk 5 rfl | exact Rd.blk 6 rfl | exact Rd.blk 7 rfl | (apply RS.rdD; assumption; ((try dsimp only) <;> omega)) | exact Rd.slD 0 rfl (by (try dsimp only) <;> omega) | exact Rd.slD 1 rfl (by (try dsimp only) <;> omega) | exact Rd.slD 2 rfl (by (try dsimp only) <;> omega) | exact Rd.slD 3 rfl (by (try dsimp only) <;> omega) | exact Rd.slD 4 rfl (by (try dsimp only) <;> omega) | exact Rd.slD 5 rfl (by (try dsimp only) <;> omega) | exact Rd.slD 6 rfl (by (try dsimp only) <;> omega) | exact Rd.slD 7 rfl (by (try dsimp only) <;> omega))
  case h1 => rfl
  refine WG.run tab_ok 3 rfl ?_
  refine' WG.y rfl rfl (by decide) (Yl.load1 tab_ok rfl rfl rfl (fun _ => rfl) ?r2 rfl ?h2) ?_
  case r2 => apply Rd.add; (first | exact Rd.blk 0 rfl | exact Rd.blk 1 rfl | exact Rd.blk 2 rfl | exact Rd.blk 3 rfl | exact Rd.blk 4 rfl | exact Rd.blk 5 rfl | exact Rd.blk 6 rfl | exact Rd.blk 7 rfl | (apply RS.rdD; assumption; ((try dsimp only) <;> omega)) | exact Rd.slD 0 rfl (by (try dsimp only) <;> omega) | exact Rd.slD 1 rfl (by (try dsimp only) <;> omega) | exact Rd.slD 2 rfl (by (try dsimp only) <;> omega) | exact Rd.slD 3 rfl (by (try dsimp only) <;> omega) | exact Rd.slD 4 rfl (by (try dsimp only) <;> omega) | exact Rd.slD 5 rfl (by (try dsimp only) <;> omega) | exact Rd.slD 6 rfl (by (try dsimp only) <;> omega) | exact Rd.slD 7 rfl (by (try dsimp only) <;> omega))
  case h2 => rfl
  refine WG.run tab_ok 2 rfl ?_
  refine WG.nil ?_
  refine WE.nxt ?_
  refine W.condD rfl (fun hc0 => ?_) (fun hc0 => ?_)
  · try dsimp only at hc0
    refine W.seq ?_
    refine W.region _ ?_
    refine WG.run tab_ok 1 rfl ?_
    refine WG.nil ?_
    refine WE.nxt ?_
    refine W.ret ?_
    refine WE.then_ret ?_
    refine WE.retF tab_ok [_] rfl ⟨rfl, trivial⟩ (RLe.refl _) ?_
    exact ⟨_, [], rfl, by rw [nth_out (by omega)]; rfl, rfl, src_end (by omega), rfl⟩
  · try dsimp only at hc0
    refine W.skip ?_
    refine WE.nxt ?_
    refine W.seq ?_
    refine W.region _ ?_
    refine WG.run tab_ok 3 rfl ?_
    refine' WG.y rfl rfl (by decide) (Yl.load1 tab_ok rfl rfl rfl (fun _ => rfl) ?r3 rfl ?h3) ?_
    case r3 => apply Rd.add; (first | exact Rd.blk 0 rfl | exact Rd.blk 1 rfl | exact Rd.blk 2 rfl | exact Rd.blk 3 rfl | exact Rd.blk 4 rfl | exact Rd.blk 5 rfl | exact Rd.blk 6 rfl | exact Rd.blk 7 rfl | (apply RS.rdD; assumption; ((try dsimp only) <;> omega)) | exact Rd.slD 0 rfl (by (try dsimp only) <;> omega) | exact Rd.slD 1 rfl (by (try dsimp only) <;> omega) | exact Rd.slD 2 rfl (by (try dsimp only) <;> omega) | exact Rd.slD 3 rfl (by (try dsimp only) <;> omega) | exact Rd.slD 4 rfl (by (try dsimp only) <;> omega) | exact Rd.slD 5 rfl (by (try dsimp only) <;> omega) | exact Rd.slD 6 rfl (by (try dsimp only) <;> omega) | exact Rd.slD 7 rfl (by (try dsimp only) <;> omega))
    case h3 => rfl
    refine WG.y rfl rfl (by decide) (Yl.add rfl rfl rfl (fun _ => rfl) (by intro _; constructor <;> (try dsimp only) <;> omega)) ?_
    refine WG.run tab_ok 2 rfl ?_
    first | refine WL.efN rfl rfl (Ef.store 0 tab_ok rfl rfl rfl rfl rfl rfl rfl rfl ?_) | refine WL.efN rfl rfl (Ef.store 1 tab_ok rfl rfl rfl rfl rfl rfl rfl rfl ?_) | refine WL.efN rfl rfl (Ef.store 2 tab_ok rfl rfl rfl rfl rfl rfl rfl rfl ?_) | refine WL.efN rfl rfl (Ef.store 3 tab_ok rfl rfl rfl rfl rfl rfl rfl rfl ?_) | refine WL.efN rfl rfl (Ef.store 4 tab_ok rfl rfl rfl rfl rfl rfl rfl rfl ?_) | refine WL.efN rfl rfl (Ef.store 5 tab_ok rfl rfl rfl rfl rfl rfl rfl rfl ?_) | refine WL.efN rfl rfl (Ef.store 6 tab_ok rfl rfl rfl rfl rfl rfl rfl rfl ?_) | refine WL.efN rfl rfl (Ef.store 7 tab_ok rfl rfl rfl rfl rfl rfl rfl rfl ?_)
    refine WG.nil ?_
    refine WE.nxt ?_
    refine W.seq ?_
    refine W.regionQ _ mixed (by kernel_rfl) ?_
    refine WG.run tab_ok 3 rfl ?_
    refine' WG.y rfl rfl (by decide) (Yl.load1 tab_ok rfl rfl rfl (fun _ => rfl) ?r4 rfl ?h4) ?_
    case r4 => apply Rd.add; (first | exact Rd.blk 0 rfl | exact Rd.blk 1 rfl | exact Rd.blk 2 rfl | exact Rd.blk 3 rfl | exact Rd.blk 4 rfl | exact Rd.blk 5 rfl | exact Rd.blk 6 rfl | exact Rd.blk 7 rfl | (apply RS.rdD; assumption; ((try dsimp only) <;> omega)) | exact Rd.slD 0 rfl (by (try dsimp only) <;> omega) | exact Rd.slD 1 rfl (by (try dsimp only) <;> omega) | exact Rd.slD 2 rfl (by (try dsimp only) <;> omega) | exact Rd.slD 3 rfl (by (try dsimp only) <;> omega) | exact Rd.slD 4 rfl (by (try dsimp only) <;> omega) | exact Rd.slD 5 rfl (by (try dsimp only) <;> omega) | exact Rd.slD 6 rfl (by (try dsimp only) <;> omega) | exact Rd.slD 7 rfl (by (try dsimp only) <;> omega))
    case h4 => rfl
    refine WG.run tab_ok 3 rfl ?_
    refine' WG.y rfl rfl (by decide) (Yl.load1 tab_ok rfl rfl rfl (fun _ => rfl) ?r5 rfl ?h5) ?_
    case r5 => apply Rd.add; (first | exact Rd.blk 0 rfl | exact Rd.blk 1 rfl | exact Rd.blk 2 rfl | exact Rd.blk 3 rfl | exact Rd.blk 4 rfl | exact Rd.blk 5 rfl | exact Rd.blk 6 rfl | exact Rd.blk 7 rfl | (apply RS.rdD; assumption; ((try dsimp only) <;> omega)) | exact Rd.slD 0 rfl (by (try dsimp only) <;> omega) | exact Rd.slD 1 rfl (by (try dsimp only) <;> omega) | exact Rd.slD 2 rfl (by (try dsimp only) <;> omega) | exact Rd.slD 3 rfl (by (try dsimp only) <;> omega) | exact Rd.slD 4 rfl (by (try dsimp only) <;> omega) | exact Rd.slD 5 rfl (by (try dsimp only) <;> omega) | exact Rd.slD 6 rfl (by (try dsimp only) <;> omega) | exact Rd.slD 7 rfl (by (try dsimp only) <;> omega))
    case h5 => rfl
    refine WG.y rfl rfl (by decide) (Yl.sub rfl rfl rfl (fun _ => rfl) (by intro _; constructor <;> (try dsimp only) <;> omega)) ?_
    refine WG.y rfl rfl (by decide) (Yl.index tab_ok rfl rfl rfl rfl rfl rfl (fun _ => rfl) (by intro _; constructor <;> (try dsimp only) <;> omega) (by intro _; first | exact fun _ _ _ _ => rfl | exact RS.has (by assumption) | exact fun _ _ _ _ => (by assumption) | exact HasMem.ownD 0 rfl | exact HasMem.ownD 1 rfl | exact HasMem.ownD 2 rfl | exact HasMem.ownD 3 rfl | exact HasMem.ownD 4 rfl | exact HasMem.ownD 5 rfl | exact HasMem.ownD 6 rfl | exact HasMem.ownD 7 rfl)) ?_
    refine' WG.y rfl rfl (by decide) (Yl.load1 tab_ok rfl rfl rfl (fun _ => rfl) ?r6 rfl ?h6) ?_
    case r6 => (first | (apply RS.rdD; assumption; ((try dsimp only) <;> omega)) | exact Rd.slD 0 rfl (by (try dsimp only) <;> omega) | exact Rd.slD 1 rfl (by (try dsimp only) <;> omega) | exact Rd.slD 2 rfl (by (try dsimp only) <;> omega) | exact Rd.slD 3 rfl (by (try dsimp only) <;> omega) | exact Rd.slD 4 rfl (by (try dsimp only) <;> omega) | exact Rd.slD 5 rfl (by (try dsimp only) <;> omega) | exact Rd.slD 6 rfl (by (try dsimp only) <;> omega) | exact Rd.slD 7 rfl (by (try dsimp only) <;> omega))
    case h6 => rfl
    refine WG.run tab_ok 1 rfl ?_
    refine WG.nil ?_
    refine WE.nxt ?_
    refine W.ret ?_
    refine WE.retF tab_ok [_] rfl ⟨rfl, trivial⟩ (RLe.refl _) ?_
    exact ⟨_, [], rfl, congrArg (fun i => Value.int .i64 (nth xs i)) (show _ = c by omega), rfl, src_next (by omega), rfl⟩

theorem N_C {R : Ro} {b : Nat} {a : Option Addr} {cp : Nat} {xs : List Int} {c : Nat} (w0 : World) {n : Int} (ha : RS R 1 encI a xs) (hn : InR n) : FnAt Try.prog 21 [.pointer (some ⟨b, 0, none⟩), .int .i64 n] w0 R (srcE b a cp xs c) (RdPost (.int .i64 (mod (nth xs c) n)) R (srcE b a cp xs (c + 1))) := by
  intro F
  refine Fn.enter (n := 9) Try.func21 rfl rfl (Nat.le_of_ble_eq_true rfl) rfl ?_
  refine W.seq ?_
  refine W.region _ ?_
  refine WG.run tab_ok 1 rfl ?_
  refine WG.nil ?_
  refine WE.nxt ?_
  refine W.seq ?_
  refine W.region _ ?_
  refine WG.run tab_ok 1 rfl ?_
  refine WL.callAt 0 en68 rfl rfl (by decide) (CallOp.mkT rfl rfl rfl rfl) rfl (Raw_C w0 ha _) ?_
  rintro _ _ _ _ - ⟨rfl, rfl, rfl, rfl⟩
  refine WG.run tab_ok 1 rfl ?_
  refine WG.callV en67 rfl rfl (by decide) (CallOp.mk' rfl rfl rfl rfl) (fun _ => rfl) (fun hg => Mod_V hn) ?_
  refine WG.run tab_ok 1 rfl ?_
  refine WG.nil ?_
  refine WE.nxt ?_
  refine W.ret ?_
  refine WE.retF tab_ok [_] rfl ⟨rfl, trivial⟩ (RLe.refl _) ?_
  exact ⟨_, [], rfl, rfl, rfl, rfl, rfl⟩

theorem Pick_C {R : Ro} {b : Nat} {a : Option Addr} {cp : Nat} {xs : List Int} {c : Nat} (w0 : World) {a2 : Option Addr} {c2 : Nat} {ys : List Int} {j : Nat} {F : List Ent} (ha : RS R 1 encI a xs) (hy : F[j]? = some (.sl 3 1 a2 c2 (ys.map encI))) (hne : 0 < ys.length) (hl : ys.length ≤ 1000000) :
    K.Fn Try.prog 22 [.pointer (some ⟨b, 0, none⟩), .slice a2 ys.length c2] w0 R (srcE b a cp xs c :: F) (fun v R' E' => ∃ e' N, E' = N ++ e' :: F ∧ RdPost (.int .i64 (nth ys (mod (nth xs c) ys.length).toNat)) R (srcE b a cp xs (c + 1)) v R' e' N) := by
  have hr := mod_range (nth xs c) (show (1 : Int) ≤ ys.length by omega)
  refine Fn.enter (n := 12) Try.func22 rfl rfl (Nat.le_of_ble_eq_true rfl) rfl ?_
  refine W.seq ?_
  refine W.region _ ?_
  refine WG.run tab_ok 1 rfl ?_
  refine WG.nil ?_
  refine WE.nxt ?_
  refine W.seq ?_
  refine W.region _ ?_
  refine WG.run tab_ok 4 rfl ?_
  refine WL.callAt 0 en21 rfl rfl (by decide) (CallOp.mkT rfl rfl rfl rfl) rfl (N_C w0 ha (by constructor <;> omega) _) ?_
  rintro _ _ _ _ - ⟨rfl, rfl, rfl, rfl⟩
  refine WG.y rfl rfl (by decide) (Yl.index tab_ok rfl rfl rfl rfl rfl rfl (fun _ => rfl) (by intro _; constructor <;> (try dsimp only) <;> omega) (by intro _; first | exact HasMem.ownD (j + 1) hy | exact fun _ _ _ _ => rfl | exact RS.has (by assumption) | exact fun _ _ _ _ => (by assumption) | exact HasMem.ownD 0 rfl | exact HasMem.ownD 1 rfl | exact HasMem.ownD 2 rfl | exact HasMem.ownD 3 rfl | exact HasMem.ownD 4 rfl | exact HasMem.ownD 5 rfl | exact HasMem.ownD 6 rfl | exact HasMem.ownD 7 rfl)) ?_
  refine' WG.y rfl rfl (by decide) (Yl.load1 tab_ok rfl rfl rfl (fun _ => rfl) ?r1 rfl ?h1) ?_
  case r1 => (first | exact Rd.slD (j + 1) hy (by omega) | (apply RS.rdD; assumption; ((try dsimp only) <;> omega)) | exact Rd.slD 0 rfl (by (try dsimp only) <;> omega) | exact Rd.slD 1 rfl (by (try dsimp only) <;> omega) | exact Rd.slD 2 rfl (by (try dsimp only) <;> omega) | exact Rd.slD 3 rfl (by (try dsimp only) <;> omega) | exact Rd.slD 4 rfl (by (try dsimp only) <;> omega) | exact Rd.slD 5 rfl (by (try dsimp only) <;> omega) | exact Rd.slD 6 rfl (by (try dsimp only) <;> omega) | exact Rd.slD 7 rfl (by (try dsimp only) <;> omega))
  case h1 => rfl
  refine WG.run tab_ok 1 rfl ?_
  refine WG.nil ?_
  refine WE.nxt ?_
  refine W.ret ?_
  refine WE.retF tab_ok [_] rfl ⟨rfl, trivial⟩ (RLe.refl _) ?_
  exact ⟨_, [], rfl, rfl, rfl, rfl, rfl⟩

theorem New_C {R : Ro} {a : Option Addr} {cp : Nat} {l : List Int} (w0 : World) (E : List Ent) (hc : l.length ≤ cp) :
    K.Fn Try.prog 16 [.slice a l.length cp] w0 R E (fun v R' E' => ∃ b, v = .pointer (some ⟨b, 0, none⟩) ∧ R = R' ∧ E' = srcE b a cp (l.take 2000) 0 :: E) := by
  refine Fn.enter (n := 10) Try.func16 rfl rfl (Nat.le_of_ble_eq_true rfl) rfl ?_
  refine W.seq ?_
  refine W.region _ ?_
  refine WG.run tab_ok 1 rfl ?_
  refine WG.nil ?_
  refine WE.nxt ?_
  refine W.seq ?_
  refine W.region _ ?_
  refine WG.run tab_ok 4 rfl ?_
  refine WG.y rfl rfl (by decide) (Yl.sliceH tab_ok rfl rfl rfl rfl rfl (fun _ => rfl) (by intro _; split <;> constructor <;> omega) rfl) ?_
  -- build
  refine WG.y rfl rfl (by decide) (Yl.build (parts := [(0, .tmp 7)]) tab_ok rfl rfl rfl rfl (fun _ => rfl) rfl rfl) ?_
  refine WL.ef rfl rfl (by decide) (Ef.box rfl rfl (fun b9 => ?_))
  refine WG.run tab_ok 1 rfl ?_
  refine WG.nil ?_
  refine WE.nxt ?_
  refine W.ret ?_
  refine WE.retF tab_ok [_] rfl ⟨rfl, trivial⟩ (RLe.refl _) ?_
  refine ⟨_, rfl, rfl, ?_⟩
  unfold srcE
  rw [List.length_take, Nat.min_comm 0, Nat.min_zero]
  have e1 : ((if (2000 : Int) < (l.length : Int) then 2000 else (l.length : Int))).toNat = min 2000 l.length := by split <;> omega
  exact congrArg (fun n => Ent.blk _ [Value.slice a n cp, .int .i64 0] :: E) e1

theorem Pick7_C {R : Ro} {b : Nat} {a : Option Addr} {cp : Nat} {xs : List Int} {c : Nat} (w0 : World) {a2 : Option Addr} {c2 : Nat} {j : Nat} {F : List Ent} (ha : RS R 1 encI a xs) (hy : F[j]? = some (.sl 3 1 a2 c2 ([0, 0, 0, 1, 1, 2, 7].map encI))) :
    K.Fn Try.prog 22 [.pointer (some ⟨b, 0, none⟩), .slice a2 7 c2] w0 R (srcE b a cp xs c :: F) (fun v R' E' => ∃ e' N, E' = N ++ e' :: F ∧ RdPost (.int .i64 (pick7 (mod (nth xs c) 7))) R (srcE b a cp xs (c + 1)) v R' e' N) :=
  Pick_C (ys := [0, 0, 0, 1, 1, 2, 7]) w0 ha hy (by decide) (by decide)

theorem Traffic_C {R : Ro} {b : Nat} {a : Option Addr} {cp : Nat} {xs : List Int} {c : Nat} (w0 : World) {n flows most : Int} (ha : RS R 1 encI a xs) (hn : 0 ≤ n ∧ n ≤ 1000) (hf : InR flows) (hm : 1 ≤ most ∧ most ≤ 1000000) (F : List Ent) :
    K.Fn Try.prog 17 [.pointer (some ⟨b, 0, none⟩), .int .i64 n, .int .i64 flows, .int .i64 most] w0 R (srcE b a cp xs c :: F) (fun v R' E' => ∃ e' N, E' = N ++ e' :: F ∧
      ∃ a2 c2, v = .slice a2 (traffic xs n flows most c).length c2 ∧ R = R' ∧ e' = srcE b a cp xs (c + 1 + 3 * trafficK xs n c) ∧ N = [.sl 62 3 a2 c2 ((traffic xs n flows most c).map encP)]) := by
  have hr := mod_range (nth xs c) (show (1 : Int) ≤ n + 1 by omega)
  have hK : (trafficK xs n c : Int) = mod (nth xs c) (n + 1) := by unfold trafficK; omega
  refine Fn.enter (n := 38) Try.func17 rfl rfl (Nat.le_of_ble_eq_true rfl) rfl ?_
  refine W.seq ?_
  refine W.region _ ?_
  refine WG.run tab_ok 1 rfl ?_
  refine WG.nil ?_
  refine WE.nxt ?_
  refine W.seq ?_
  refine W.region _ ?_
  refine WG.run tab_ok 1 rfl ?_
  refine WG.nil ?_
  refine WE.nxt ?_
  refine W.seq ?_
  refine W.region _ ?_
  refine WG.run tab_ok 1 rfl ?_
  refine WG.nil ?_
  refine WE.nxt ?_
  refine W.seq ?_
  refine W.seq ?_
  refine W.region _ ?_
  refine WG.run tab_ok 2 rfl ?_
  refine WG.y rfl rfl (by decide) (Yl.add rfl rfl rfl (fun _ => rfl) (by intro _; constructor <;> (try dsimp only) <;> omega)) ?_
  refine WL.callAt 0 en21 rfl rfl (by decide) (CallOp.mkT rfl rfl rfl rfl) rfl (N_C w0 ha (by constructor <;> omega) _) ?_
  rintro _ _ _ _ - ⟨rfl, rfl, rfl, rfl⟩
  refine WG.run tab_ok 1 rfl ?_
  refine WG.nil ?_
  refine WE.nxt ?_
  refine W.block ?_
  refine W.nil 62 3 (by decide) ?_
  refine W.loop (β := Nat × Nat × Int × List Pkt × Option Addr × Nat) (fun (k, c1, t, acc, a2, c2) => acc ++ trafficGo xs flows most k c1 t = traffic xs n flows most c ∧ c1 + 3 * k = c + 1 + 3 * trafficK xs n c ∧ 0 ≤ t ∧ t + 7 * k ≤ 7 * trafficK xs n c ∧ acc.length + k = trafficK xs n c) (fun (k, c1, t, acc, a2, c2) => [(0, true, .pointer (some ⟨b, 0, none⟩)), (1, true, .int .i64 n), (2, true, .int .i64 flows), (3, true, .int .i64 most), (9, true, .slice a2 acc.length c2), (10, true, .int .i64 t), (11, true, .int .i64 (k : Int))]) (fun _ => R) (fun (k, c1, t, acc, a2, c2) => .sl 62 3 a2 c2 (acc.map encP) :: srcE b a cp xs c1 :: F) (fun (k, c1, t, acc, a2, c2) => k) ((trafficK xs n c, c + 1, 0, [], none, 0)) (⟨rfl, rfl, Int.le_refl _, by omega, by simp⟩) ⟨rfl, rfl, rfl, rfl, rfl, rfl, vint hK.symm, rfl⟩ (RLe.refl _) qS ?_
  intro st hst
  obtain ⟨k, c1, t, acc, a2, c2⟩ := st
  obtain ⟨h1, h2, h3, h4, h5⟩ := hst
  dsimp only
  refine W.seq ?_
  refine W.seq ?_
  refine W.region _ ?_
  refine WG.run tab_ok 2 rfl ?_
  refine WG.nil ?_
  refine WE.nxt ?_
  refine W.condD rfl (fun hc0 => ?_) (fun hc0 => ?_)
  · try dsimp only at hc0
    obtain ⟨k, rfl⟩ : ∃ m, k = m + 1 := ⟨k - 1, by omega⟩
    have hr1 := mod_range (nth xs (c1 + 1)) (show (1 : Int) ≤ most by omega)
    have hr2 := pick7_range (mod (nth xs (c1 + 1 + 1)) 7)
    have hr3 := pick7_range (mod (nth xs (c1 + 2)) 7)
    refine W.skip ?_
    refine WE.nxt ?_
    refine W.seq ?_
    refine W.block ?_
    refine W.seq ?_
    refine W.region _ ?_
    refine WG.run tab_ok 3 rfl ?_
    refine WL.callAt 1 en21 rfl rfl (by decide) (CallOp.mkT rfl rfl rfl rfl) rfl (N_C w0 ha hf _) ?_
    rintro _ _ _ _ - ⟨rfl, rfl, rfl, rfl⟩
    refine WG.run tab_ok 3 rfl ?_
    refine WL.callAt 1 en21 rfl rfl (by decide) (CallOp.mkT rfl rfl rfl rfl) rfl (N_C w0 ha (by constructor <;> omega) _) ?_
    rintro _ _ _ _ - ⟨rfl, rfl, rfl, rfl⟩
    refine WG.y rfl rfl (by decide) (Yl.add rfl rfl rfl (fun _ => rfl) (by intro _; constructor <;> (try dsimp only) <;> omega)) ?_
    -- build
    refine WG.y rfl rfl (by decide) (Yl.build (parts := [(0, .tmp 23), (1, .tmp 24), (2, .tmp 28)]) tab_ok rfl rfl rfl rfl (fun _ => rfl) rfl rfl) ?_
    refine WL.ef rfl rfl (by decide) (Ef.buildSliceD (enc := encP) (parts := [.tmp 29]) [⟨_, _, _⟩] tab_ok rfl rfl rfl rfl rfl rfl rfl rfl (by decide) (by decide) (fun a30 => ?_))
    first | refine WL.ef rfl rfl (by decide) (Ef.appendD 1 0 tab_ok rfl rfl rfl rfl rfl rfl rfl rfl rfl rfl rfl (fun _ _ => rfl) (by simp only [List.length_cons, List.length_nil]; omega) (by simp only [List.length_cons, List.length_nil]; omega) (fun a31 c31 ha31 => ?_)) | refine WL.ef rfl rfl (by decide) (Ef.appendD 2 0 tab_ok rfl rfl rfl rfl rfl rfl rfl rfl rfl rfl rfl (fun _ _ => rfl) (by simp only [List.length_cons, List.length_nil]; omega) (by simp only [List.length_cons, List.length_nil]; omega) (fun a31 c31 ha31 => ?_)) | refine WL.ef rfl rfl (by decide) (Ef.appendD 3 0 tab_ok rfl rfl rfl rfl rfl rfl rfl rfl rfl rfl rfl (fun _ _ => rfl) (by simp only [List.length_cons, List.length_nil]; omega) (by simp only [List.length_cons, List.length_nil]; omega) (fun a31 c31 ha31 => ?_)) | refine WL.ef rfl rfl (by decide) (Ef.appendD 4 0 tab_ok rfl rfl rfl rfl rfl rfl rfl rfl rfl rfl rfl (fun _ _ => rfl) (by simp only [List.length_cons, List.length_nil]; omega) (by simp only [List.length_cons, List.length_nil]; omega) (fun a31 c31 ha31 => ?_)) | refine WL.ef rfl rfl (by decide) (Ef.appendD 5 0 tab_ok rfl rfl rfl rfl rfl rfl rfl rfl rfl rfl rfl (fun _ _ => rfl) (by simp only [List.length_cons, List.length_nil]; omega) (by simp only [List.length_cons, List.length_nil]; omega) (fun a31 c31 ha31 => ?_)) | refine WL.ef rfl rfl (by decide) (Ef.appendD 6 0 tab_ok rfl rfl rfl rfl rfl rfl rfl rfl rfl rfl rfl (fun _ _ => rfl) (by simp only [List.length_cons, List.length_nil]; omega) (by simp only [List.length_cons, List.length_nil]; omega) (fun a31 c31 ha31 => ?_)) | refine WL.ef rfl rfl (by decide) (Ef.appendD 7 0 tab_ok rfl rfl rfl rfl rfl rfl rfl rfl rfl rfl rfl (fun _ _ => rfl) (by simp only [List.length_cons, List.length_nil]; omega) (by simp only [List.length_cons, List.length_nil]; omega) (fun a31 c31 ha31 => ?_)) | refine WL.ef rfl rfl (by decide) (Ef.appendR 0 tab_ok rfl rfl rfl rfl rfl rfl rfl rfl rfl rfl (by assumption) (fun _ _ => rfl) (by (try dsimp only); omega) (by omega) (fun a31 c31 ha31 => ?_)) | refine WL.ef rfl rfl (by decide) (Ef.appendR 1 tab_ok rfl rfl rfl rfl rfl rfl rfl rfl rfl rfl (by assumption) (fun _ _ => rfl) (by (try dsimp only); omega) (by omega) (fun a31 c31 ha31 => ?_)) | refine WL.ef rfl rfl (by decide) (Ef.appendR 2 tab_ok rfl rfl rfl rfl rfl rfl rfl rfl rfl rfl (by assumption) (fun _ _ => rfl) (by (try dsimp only); omega) (by omega) (fun a31 c31 ha31 => ?_)) | refine WL.ef rfl rfl (by decide) (Ef.appendR 3 tab_ok rfl rfl rfl rfl rfl rfl rfl rfl rfl rfl (by assumption) (fun _ _ => rfl) (by (try dsimp only); omega) (by omega) (fun a31 c31 ha31 => ?_)) | refine WL.ef rfl rfl (by decide) (Ef.appendR 4 tab_ok rfl rfl rfl rfl rfl rfl rfl rfl rfl rfl (by assumption) (fun _ _ => rfl) (by (try dsimp only); omega) (by omega) (fun a31 c31 ha31 => ?_)) | refine WL.ef rfl rfl (by decide) (Ef.appendR 5 tab_ok rfl rfl rfl rfl rfl rfl rfl rfl rfl rfl (by assumption) (fun _ _ => rfl) (by (try dsimp only); omega) (by omega) (fun a31 c31 ha31 => ?_)) | refine WL.ef rfl rfl (by decide) (Ef.appendR 6 tab_ok rfl rfl rfl rfl rfl rfl rfl rfl rfl rfl (by assumption) (fun _ _ => rfl) (by (try dsimp only); omega) (by omega) (fun a31 c31 ha31 => ?_)) | refine WL.ef rfl rfl (by decide) (Ef.appendR 7 tab_ok rfl rfl rfl rfl rfl rfl rfl rfl rfl rfl (by assumption) (fun _ _ => rfl) (by (try dsimp only); omega) (by omega) (fun a31 c31 ha31 => ?_))
    refine WG.run tab_ok 1 rfl ?_
    refine WG.nil ?_
    refine WE.nxt ?_
    refine W.region _ ?_
    refine WG.run tab_ok 2 rfl ?_
    refine WL.ef rfl rfl (by decide) (Ef.buildSliceD (enc := encI) (parts := [.const (.int .i64 0), .const (.int .i64 0), .const (.int .i64 0), .const (.int .i64 1), .const (.int .i64 1), .const (.int .i64 2), .const (.int .i64 7)]) [_, _, _, _, _, _, _] tab_ok rfl rfl rfl rfl rfl rfl rfl rfl (by decide) (by decide) (fun a34 => ?_))
    refine WL.callAt 3 en22 rfl rfl (by decide) (CallOp.mkT rfl rfl rfl rfl) rfl (Pick7_C (j := 0) w0 ha rfl) ?_
    rintro _ _ _ _ - ⟨rfl, rfl, rfl, rfl⟩
    refine WG.y rfl rfl (by decide) (Yl.add rfl rfl rfl (fun _ => rfl) (by intro _; constructor <;> (try dsimp only) <;> omega)) ?_
    refine WG.run tab_ok 1 rfl ?_
    refine WG.nil ?_
    refine WE.blk _ ?_
    refine WE.nxt ?_
    refine W.region _ ?_
    refine WG.run tab_ok 1 rfl ?_
    refine WG.y rfl rfl (by decide) (Yl.sub rfl rfl rfl (fun _ => rfl) (by intro _; constructor <;> (try dsimp only) <;> omega)) ?_
    refine WG.run tab_ok 1 rfl ?_
    refine WG.nil ?_
    refine WE.again ((k, c1 + 3, t + pick7 (mod (nth xs (c1 + 2)) 7), acc ++ [⟨mod (nth xs c1) flows, t, 1 + mod (nth xs (c1 + 1)) most⟩], a31, c31)) (⟨by dsimp only; rw [← h1]; simp [trafficGo], by dsimp only; omega, by dsimp only; omega, by dsimp only; omega, by simp; omega⟩) (by (try dsimp only); omega) ⟨rfl, rfl, rfl, rfl, rfl, rfl, vint (by omega), rfl⟩ (RLe.refl _) qS
  · try dsimp only at hc0
    obtain rfl : k = 0 := by omega
    simp only [trafficGo, List.append_nil] at h1
    subst h1
    refine W.exit ?_
    refine WE.then_exit ?_
    refine WE.then_exit ?_
    refine WE.blk_exit ?_
    refine WE.nxt ?_
    refine W.seq ?_
    refine W.region _ ?_
    refine WG.run tab_ok 2 rfl ?_
    refine WG.nil ?_
    refine WE.nxt ?_
    refine W.ret ?_
    refine WE.retF tab_ok [_] rfl ⟨rfl, trivial⟩ (RLe.refl _) ?_
    exact ⟨_, [_], rfl, _, _, rfl, rfl, congrArg (srcE b a cp xs) (by omega), rfl⟩

end Go.Proofs.Ytnaeefefggmomaa

/- A trial. No condition. -/
set_option linter.unusedSimpArgs false
set_option linter.unusedVariables false
namespace Go.Proofs.Ytnaeefefggmomaa
open Go Go.RowKit Go.Proofs.Ytnaeefefggmomaa.K Go.Proofs.Ytnaeefefggmomaa.M

theorem Validate_V {R : Ro} {a : Option Addr} {c : Nat} {ps : List Pkt} (ha : RS R 3 encP a ps) : FnV Try.prog 70 [.slice a ps.length c] R (.int .i64 (validate ps)) := by
  have hla := ha.len
  refine Fn.toV (fun w0 E => ?_)
  refine Fn.enter (n := 50) Try.func70 rfl rfl (Nat.le_of_ble_eq_true rfl) rfl ?_
  refine W.seq ?_
  refine W.region _ ?_
  refine WG.run tab_ok 1 rfl ?_
  refine WG.nil ?_
  refine WE.nxt ?_
  refine W.seq ?_
  refine W.seq ?_
  refine W.region _ ?_
  refine WG.run tab_ok 3 rfl ?_
  refine WG.nil ?_
  refine WE.nxt ?_
  refine W.condD rfl (fun hc0 => ?_) (fun hc0 => ?_)
  · try dsimp only at hc0
    refine W.seq ?_
    refine W.region _ ?_
    refine WG.run tab_ok 1 rfl ?_
    refine WG.nil ?_
    refine WE.nxt ?_
    refine W.ret ?_
    refine WE.then_ret ?_
    refine WE.subE (E' := E) qS ?_
    refine WE.retF tab_ok [_] rfl ⟨rfl, trivial⟩ (RLe.refl _) ?_
    exact ⟨by unfold validate; rw [if_pos (show 60 < ps.length by omega)]; rfl, rfl⟩
  · try dsimp only at hc0
    refine W.skip ?_
    refine WE.nxt ?_
    refine W.seq ?_
    refine W.region _ ?_
    refine WG.run tab_ok 1 rfl ?_
    refine WG.nil ?_
    refine WE.nxt ?_
    refine W.seq ?_
    refine W.seq ?_
    refine W.region _ ?_
    refine WG.run tab_ok 3 rfl ?_
    refine WG.nil ?_
    refine WE.nxt ?_
    refine W.block ?_
    refine W.loop (β := Nat × Int) (fun (k, last) => k ≤ ps.length ∧ valGo last (ps.drop k) = valGo 0 ps) (fun (k, last) => [(0, true, .slice a ps.length c), (3, true, .int .i64 last), (9, true, .slice a ps.length c), (10, true, .int .i64 ps.length), (11, true, .int .i64 (k : Int))]) (fun _ => R) (fun _ => E) (fun (k, last) => ps.length - k) ((0, 0)) (⟨Nat.zero_le _, rfl⟩) ⟨rfl, rfl, rfl, rfl, rfl, rfl⟩ (RLe.refl _) qS ?_
    intro st hst
    obtain ⟨k, last⟩ := st
    obtain ⟨hk, hv⟩ := hst
    dsimp only
    refine W.seq ?_
    refine W.region _ ?_
    refine WG.run tab_ok 1 rfl ?_
    refine WG.nil ?_
    refine WE.nxt ?_
    refine W.seq ?_
    refine W.condD rfl (fun hc1 => ?_) (fun hc1 => ?_)
    · try dsimp only at hc1
      have hd := drop_nth (xs := ps) (k := k) (by omega)
      rw [hd, valGo] at hv
      refine W.skip ?_
      refine WE.nxt ?_
      refine W.seq ?_
      refine W.block ?_
      refine W.seq ?_
      refine W.region _ ?_
      refine WG.y rfl rfl (by decide) (Yl.indexN tab_ok rfl rfl rfl rfl rfl rfl (fun _ => rfl) (by intro _; (try dsimp only) <;> omega) (by intro _; first | exact fun _ _ _ _ => rfl | exact RS.has (by assumption) | exact fun _ _ _ _ => (by assumption) | exact HasMem.ownD 0 rfl | exact HasMem.ownD 1 rfl | exact HasMem.ownD 2 rfl | exact HasMem.ownD 3 rfl | exact HasMem.ownD 4 rfl | exact HasMem.ownD 5 rfl | exact HasMem.ownD 6 rfl | exact HasMem.ownD 7 rfl)) ?_
      refine' WG.y rfl rfl (by decide) (Yl.load1 tab_ok rfl rfl rfl (fun _ => rfl) ?r1 rfl ?h1) ?_
      case r1 => (first | (apply RS.rdD; assumption; ((try dsimp only) <;> omega)) | exact Rd.slD 0 rfl (by (try dsimp only) <;> omega) | exact Rd.slD 1 rfl (by (try dsimp only) <;> omega) | exact Rd.slD 2 rfl (by (try dsimp only) <;> omega) | exact Rd.slD 3 rfl (by (try dsimp only) <;> omega) | exact Rd.slD 4 rfl (by (try dsimp only) <;> omega) | exact Rd.slD 5 rfl (by (try dsimp only) <;> omega) | exact Rd.slD 6 rfl (by (try dsimp only) <;> omega) | exact Rd.slD 7 rfl (by (try dsimp only) <;> omega))
      case h1 => rfl
      refine WL.ef rfl rfl (by decide) (Ef.alloc tab_ok rfl rfl (fun b5 => ?_))
      first | refine WL.efN rfl rfl (Ef.store0 0 tab_ok rfl rfl rfl rfl rfl rfl rfl rfl ?_) | refine WL.efN rfl rfl (Ef.store0 1 tab_ok rfl rfl rfl rfl rfl rfl rfl rfl ?_) | refine WL.efN rfl rfl (Ef.store0 2 tab_ok rfl rfl rfl rfl rfl rfl rfl rfl ?_) | refine WL.efN rfl rfl (Ef.store0 3 tab_ok rfl rfl rfl rfl rfl rfl rfl rfl ?_) | refine WL.efN rfl rfl (Ef.store0 4 tab_ok rfl rfl rfl rfl rfl rfl rfl rfl ?_) | refine WL.efN rfl rfl (Ef.store0 5 tab_ok rfl rfl rfl rfl rfl rfl rfl rfl ?_) | refine WL.efN rfl rfl (Ef.store0 6 tab_ok rfl rfl rfl rfl rfl rfl rfl rfl ?_) | refine WL.efN rfl rfl (Ef.store0 7 tab_ok rfl rfl rfl rfl rfl rfl rfl rfl ?_)
      refine WG.nil ?_
      refine WE.nxt ?_
      refine W.seq ?_
      refine W.seq ?_
      refine W.region _ ?_
      refine WG.run tab_ok 1 rfl ?_
      refine' WG.y rfl rfl (by decide) (Yl.load1 tab_ok rfl rfl rfl (fun _ => rfl) ?r2 rfl ?h2) ?_
      case r2 => apply Rd.add; (first | exact Rd.blk 0 rfl | exact Rd.blk 1 rfl | exact Rd.blk 2 rfl | exact Rd.blk 3 rfl | exact Rd.blk 4 rfl | exact Rd.blk 5 rfl | exact Rd.blk 6 rfl | exact Rd.blk 7 rfl)
      case h2 => rfl
      refine WG.run tab_ok 2 rfl ?_
      refine WG.y rfl rfl (by decide) (pureV_ok tab_ok rfl qE) ?_
      refine' WG.y rfl rfl (by decide) (Yl.loadG tab_ok rfl rfl rfl qE ?r3 rfl ?h3 ?g3) ?_
      case r3 => apply Rd.addC; (first | exact Rd.blkC 0 rfl | exact Rd.blkC 1 rfl | exact Rd.blkC 2 rfl | exact Rd.blkC 3 rfl | exact Rd.blkC 4 rfl | exact Rd.blkC 5 rfl | exact Rd.blkC 6 rfl | exact Rd.blkC 7 rfl)
      case h3 => rfl
      case g3 => first | exact fun _ => trivial | (intro hg; (try simp only [decide_eq_true_eq, decide_eq_false_iff_not, beq_iff_eq, bne_iff_ne, beq_eq_false_iff_ne, bne_eq_false_iff_eq, ne_eq, Bool.or_eq_true, Bool.or_eq_false_iff, Bool.and_eq_true, Bool.and_eq_false_imp, Bool.not_eq_true, Bool.not_eq_true', Bool.not_eq_false', Classical.not_not, Int.not_lt, Int.not_le, gt_iff_lt, ge_iff_le] at hg); (try dsimp only); omega)
      refine WG.y rfl rfl (by decide) (pureV_ok tab_ok rfl qE) ?_
      refine WG.y rfl rfl (by decide) (Yl.por rfl rfl rfl (fun _ => rfl) (by intro h1 h2; simp_all <;> omega)) ?_
      refine WG.run tab_ok 1 rfl ?_
      refine WG.y rfl rfl (by decide) (pureV_ok tab_ok rfl qE) ?_
      refine' WG.y rfl rfl (by decide) (Yl.loadG tab_ok rfl rfl rfl qE ?r4 rfl ?h4 ?g4) ?_
      case r4 => apply Rd.addC; (first | exact Rd.blkC 0 rfl | exact Rd.blkC 1 rfl | exact Rd.blkC 2 rfl | exact Rd.blkC 3 rfl | exact Rd.blkC 4 rfl | exact Rd.blkC 5 rfl | exact Rd.blkC 6 rfl | exact Rd.blkC 7 rfl)
      case h4 => rfl
      case g4 => first | exact fun _ => trivial | (intro hg; (try simp only [decide_eq_true_eq, decide_eq_false_iff_not, beq_iff_eq, bne_iff_ne, beq_eq_false_iff_ne, bne_eq_false_iff_eq, ne_eq, Bool.or_eq_true, Bool.or_eq_false_iff, Bool.and_eq_true, Bool.and_eq_false_imp, Bool.not_eq_true, Bool.not_eq_true', Bool.not_eq_false', Classical.not_not, Int.not_lt, Int.not_le, gt_iff_lt, ge_iff_le] at hg); (try dsimp only); omega)
      refine WG.y rfl rfl (by decide) (pureV_ok tab_ok rfl qE) ?_
      refine WG.y rfl rfl (by decide) (Yl.por rfl rfl rfl (fun _ => rfl) (by intro h1 h2; simp_all <;> omega)) ?_
      refine WG.run tab_ok 1 rfl ?_
      refine WG.y rfl rfl (by decide) (pureV_ok tab_ok rfl qE) ?_
      refine' WG.y rfl rfl (by decide) (Yl.loadG tab_ok rfl rfl rfl qE ?r5 rfl ?h5 ?g5) ?_
      case r5 => apply Rd.addC; (first | exact Rd.blkC 0 rfl | exact Rd.blkC 1 rfl | exact Rd.blkC 2 rfl | exact Rd.blkC 3 rfl | exact Rd.blkC 4 rfl | exact Rd.blkC 5 rfl | exact Rd.blkC 6 rfl | exact Rd.blkC 7 rfl)
      case h5 => rfl
      case g5 => first | exact fun _ => trivial | (intro hg; (try simp only [decide_eq_true_eq, decide_eq_false_iff_not, beq_iff_eq, bne_iff_ne, beq_eq_false_iff_ne, bne_eq_false_iff_eq, ne_eq, Bool.or_eq_true, Bool.or_eq_false_iff, Bool.and_eq_true, Bool.and_eq_false_imp, Bool.not_eq_true, Bool.not_eq_true', Bool.not_eq_false', Classical.not_not, Int.not_lt, Int.not_le, gt_iff_lt, ge_iff_le] at hg); (try dsimp only); omega)
      refine WG.y rfl rfl (by decide) (pureV_ok tab_ok rfl qE) ?_
      refine WG.y rfl rfl (by decide) (Yl.por rfl rfl rfl (fun _ => rfl) (by intro h1 h2; simp_all <;> omega)) ?_
      refine WG.run tab_ok 1 rfl ?_
      refine WG.y rfl rfl (by decide) (pureV_ok tab_ok rfl qE) ?_
      refine' WG.y rfl rfl (by decide) (Yl.loadG tab_ok rfl rfl rfl qE ?r6 rfl ?h6 ?g6) ?_
      case r6 => apply Rd.addC; (first | exact Rd.blkC 0 rfl | exact Rd.blkC 1 rfl | exact Rd.blkC 2 rfl | exact Rd.blkC 3 rfl | exact Rd.blkC 4 rfl | exact Rd.blkC 5 rfl | exact Rd.blkC 6 rfl | exact Rd.blkC 7 rfl)
      case h6 => rfl
      case g6 => first | exact fun _ => trivial | (intro hg; (try simp only [decide_eq_true_eq, decide_eq_false_iff_not, beq_iff_eq, bne_iff_ne, beq_eq_false_iff_ne, bne_eq_false_iff_eq, ne_eq, Bool.or_eq_true, Bool.or_eq_false_iff, Bool.and_eq_true, Bool.and_eq_false_imp, Bool.not_eq_true, Bool.not_eq_true', Bool.not_eq_false', Classical.not_not, Int.not_lt, Int.not_le, gt_iff_lt, ge_iff_le] at hg); (try dsimp only); omega)
      refine WG.y rfl rfl (by decide) (pureV_ok tab_ok rfl qE) ?_
      refine WG.y rfl rfl (by decide) (Yl.por rfl rfl rfl (fun _ => rfl) (by intro h1 h2; simp_all <;> omega)) ?_
      refine WG.run tab_ok 1 rfl ?_
      refine WG.y rfl rfl (by decide) (pureV_ok tab_ok rfl qE) ?_
      refine' WG.y rfl rfl (by decide) (Yl.loadG tab_ok rfl rfl rfl qE ?r7 rfl ?h7 ?g7) ?_
      case r7 => apply Rd.addC; (first | exact Rd.blkC 0 rfl | exact Rd.blkC 1 rfl | exact Rd.blkC 2 rfl | exact Rd.blkC 3 rfl | exact Rd.blkC 4 rfl | exact Rd.blkC 5 rfl | exact Rd.blkC 6 rfl | exact Rd.blkC 7 rfl)
      case h7 => rfl
      case g7 => first | exact fun _ => trivial | (intro hg; (try simp only [decide_eq_true_eq, decide_eq_false_iff_not, beq_iff_eq, bne_iff_ne, beq_eq_false_iff_ne, bne_eq_false_iff_eq, ne_eq, Bool.or_eq_true, Bool.or_eq_false_iff, Bool.and_eq_true, Bool.and_eq_false_imp, Bool.not_eq_true, Bool.not_eq_true', Bool.not_eq_false', Classical.not_not, Int.not_lt, Int.not_le, gt_iff_lt, ge_iff_le] at hg); (try dsimp only); omega)
      refine WG.y rfl rfl (by decide) (pureV_ok tab_ok rfl qE) ?_
      refine WG.y rfl rfl (by decide) (Yl.por rfl rfl rfl (fun _ => rfl) (by intro h1 h2; simp_all <;> omega)) ?_
      refine WG.nil ?_
      refine WE.nxt ?_
      refine W.cond rfl (fun hc2 => ?_) (fun hc2 => ?_)
      · try simp only [decide_eq_true_eq, decide_eq_false_iff_not, beq_iff_eq, bne_iff_ne, beq_eq_false_iff_ne, bne_eq_false_iff_eq, ne_eq, Bool.or_eq_true, Bool.or_eq_false_iff, Bool.and_eq_true, Bool.and_eq_false_imp, Bool.not_eq_true, Bool.not_eq_true', Bool.not_eq_false', Classical.not_not, Int.not_lt, Int.not_le, gt_iff_lt, ge_iff_le] at hc2
        rw [if_pos (show BadP (nth ps k) by unfold BadP; omega)] at hv
        refine W.seq ?_
        refine W.region _ ?_
        refine WG.run tab_ok 1 rfl ?_
        refine WG.nil ?_
        refine WE.nxt ?_
        refine W.ret ?_
        refine WE.then_ret ?_
        refine WE.blk_ret ?_
        refine WE.then_ret ?_
        refine WE.then_ret ?_
        refine WE.blk_ret ?_
        refine WE.then_ret ?_
        refine WE.subE (E' := E) qS ?_
        refine WE.retF tab_ok [_] rfl ⟨rfl, trivial⟩ (RLe.refl _) ?_
        exact ⟨by unfold validate; rw [if_neg (show ¬ 60 < ps.length by omega), ← hv]; rfl, rfl⟩
      · try simp only [decide_eq_true_eq, decide_eq_false_iff_not, beq_iff_eq, bne_iff_ne, beq_eq_false_iff_ne, bne_eq_false_iff_eq, ne_eq, Bool.or_eq_true, Bool.or_eq_false_iff, Bool.and_eq_true, Bool.and_eq_false_imp, Bool.not_eq_true, Bool.not_eq_true', Bool.not_eq_false', Classical.not_not, Int.not_lt, Int.not_le, gt_iff_lt, ge_iff_le] at hc2
        rw [if_neg (show ¬ BadP (nth ps k) by unfold BadP; omega)] at hv
        refine W.skip ?_
        refine WE.nxt ?_
        refine W.seq ?_
        refine W.seq ?_
        refine W.region _ ?_
        refine WG.run tab_ok 1 rfl ?_
        refine' WG.y rfl rfl (by decide) (Yl.load1 tab_ok rfl rfl rfl (fun _ => rfl) ?r8 rfl ?h8) ?_
        case r8 => apply Rd.add; (first | exact Rd.blk 0 rfl | exact Rd.blk 1 rfl | exact Rd.blk 2 rfl | exact Rd.blk 3 rfl | exact Rd.blk 4 rfl | exact Rd.blk 5 rfl | exact Rd.blk 6 rfl | exact Rd.blk 7 rfl)
        case h8 => rfl
        refine WG.run tab_ok 2 rfl ?_
        refine WG.nil ?_
        refine WE.nxt ?_
        refine W.condD rfl (fun hc3 => ?_) (fun hc3 => ?_)
        · try dsimp only at hc3
          rw [if_pos hc3] at hv
          refine W.seq ?_
          refine W.region _ ?_
          refine WG.run tab_ok 1 rfl ?_
          refine WG.nil ?_
          refine WE.nxt ?_
          refine W.ret ?_
          refine WE.then_ret ?_
          refine WE.blk_ret ?_
          refine WE.then_ret ?_
          refine WE.then_ret ?_
          refine WE.blk_ret ?_
          refine WE.then_ret ?_
          refine WE.subE (E' := E) qS ?_
          refine WE.retF tab_ok [_] rfl ⟨rfl, trivial⟩ (RLe.refl _) ?_
          exact ⟨by unfold validate; rw [if_neg (show ¬ 60 < ps.length by omega), ← hv]; rfl, rfl⟩
        · try dsimp only at hc3
          rw [if_neg hc3] at hv
          refine W.skip ?_
          refine WE.nxt ?_
          refine W.region _ ?_
          refine WG.run tab_ok 1 rfl ?_
          refine' WG.y rfl rfl (by decide) (Yl.load1 tab_ok rfl rfl rfl (fun _ => rfl) ?r9 rfl ?h9) ?_
          case r9 => apply Rd.add; (first | exact Rd.blk 0 rfl | exact Rd.blk 1 rfl | exact Rd.blk 2 rfl | exact Rd.blk 3 rfl | exact Rd.blk 4 rfl | exact Rd.blk 5 rfl | exact Rd.blk 6 rfl | exact Rd.blk 7 rfl)
          case h9 => rfl
          refine WG.run tab_ok 1 rfl ?_
          refine WG.nil ?_
          refine WE.blk _ ?_
          refine WE.nxt ?_
          refine W.region _ ?_
          refine WG.y rfl rfl (by decide) (Yl.add rfl rfl rfl (fun _ => rfl) (by intro _; constructor <;> (try dsimp only) <;> omega)) ?_
          refine WG.run tab_ok 1 rfl ?_
          refine WG.nil ?_
          refine WE.again ((k + 1, (nth ps k).time)) (⟨by dsimp only; omega, hv⟩) (by (try dsimp only); omega) ⟨rfl, rfl, rfl, rfl, rfl, rfl⟩ (RLe.refl _) qS
    · try dsimp only at hc1
      obtain rfl : k = ps.length := by omega
      simp only [List.drop_length, valGo] at hv
      refine W.exit ?_
      refine WE.then_exit ?_
      refine WE.then_exit ?_
      refine WE.blk_exit ?_
      refine WE.nxt ?_
      refine W.seq ?_
      refine W.region _ ?_
      refine WG.run tab_ok 1 rfl ?_
      refine WG.nil ?_
      refine WE.nxt ?_
      refine W.ret ?_
      refine WE.subE (E' := E) qS ?_
      refine WE.retF tab_ok [_] rfl ⟨rfl, trivial⟩ (RLe.refl _) ?_
      exact ⟨by unfold validate; rw [if_neg (show ¬ 60 < ps.length by omega), ← hv]; rfl, rfl⟩

theorem ValidateR_V {R : Ro} {a : Option Addr} {c : Nat} {ps : List Pkt} (ha : RS R 3 encP a ps) : FnV Try.prog 136 [.slice a ps.length c] R (.int .i64 (validate ps)) := by
  have hla := ha.len
  refine Fn.toV (fun w0 E => ?_)
  refine Fn.enter (n := 59) Try.func136 rfl rfl (Nat.le_of_ble_eq_true rfl) rfl ?_
  refine W.seq ?_
  refine W.region _ ?_
  refine WG.run tab_ok 1 rfl ?_
  refine WG.nil ?_
  refine WE.nxt ?_
  refine W.seq ?_
  refine W.seq ?_
  refine W.region _ ?_
  refine WG.run tab_ok 3 rfl ?_
  refine WG.nil ?_
  refine WE.nxt ?_
  refine W.condD rfl (fun hc0 => ?_) (fun hc0 => ?_)
  · try dsimp only at hc0
    refine W.seq ?_
    refine W.region _ ?_
    refine WG.run tab_ok 1 rfl ?_
    refine WG.nil ?_
    refine WE.nxt ?_
    refine W.ret ?_
    refine WE.then_ret ?_
    refine WE.subE (E' := E) qS ?_
    refine WE.retF tab_ok [_] rfl ⟨rfl, trivial⟩ (RLe.refl _) ?_
    exact ⟨by unfold validate; rw [if_pos (show 60 < ps.length by omega)]; rfl, rfl⟩
  · try dsimp only at hc0
    refine W.skip ?_
    refine WE.nxt ?_
    refine W.seq ?_
    refine W.seq ?_
    refine W.region _ ?_
    refine WG.run tab_ok 1 rfl ?_
    refine WG.nil ?_
    refine WE.nxt ?_
    refine W.block ?_
    refine W.loop (β := Nat) (fun k => k ≤ ps.length ∧ valGo (if k = 0 then 0 else (nth ps (k - 1)).time) (ps.drop k) = valGo 0 ps) (fun k => [(0, true, .slice a ps.length c), (3, true, .int .i64 (k : Int))]) (fun _ => R) (fun _ => E) (fun k => ps.length - k) (0) (⟨Nat.zero_le _, rfl⟩) ⟨rfl, rfl, rfl⟩ (RLe.refl _) qS ?_
    intro st hst
    obtain ⟨hk, hv⟩ := hst
    have hk0 : st ≠ 0 → ((st : Int) - 1).toNat = st - 1 := by omega
    refine W.seq ?_
    refine W.seq ?_
    refine W.region _ ?_
    refine WG.run tab_ok 4 rfl ?_
    refine WG.nil ?_
    refine WE.nxt ?_
    refine W.condD rfl (fun hc1 => ?_) (fun hc1 => ?_)
    · try dsimp only at hc1
      have hd := drop_nth (xs := ps) (k := st) (by omega)
      rw [hd, valGo] at hv
      refine W.skip ?_
      refine WE.nxt ?_
      refine W.seq ?_
      refine W.block ?_
      refine W.seq ?_
      refine W.region _ ?_
      refine WG.run tab_ok 2 rfl ?_
      refine WG.y rfl rfl (by decide) (Yl.indexN tab_ok rfl rfl rfl rfl rfl rfl (fun _ => rfl) (by intro _; (try dsimp only) <;> omega) (by intro _; first | exact fun _ _ _ _ => rfl | exact RS.has (by assumption) | exact fun _ _ _ _ => (by assumption) | exact HasMem.ownD 0 rfl | exact HasMem.ownD 1 rfl | exact HasMem.ownD 2 rfl | exact HasMem.ownD 3 rfl | exact HasMem.ownD 4 rfl | exact HasMem.ownD 5 rfl | exact HasMem.ownD 6 rfl | exact HasMem.ownD 7 rfl)) ?_
      refine' WG.y rfl rfl (by decide) (Yl.load1 tab_ok rfl rfl rfl (fun _ => rfl) ?r1 rfl ?h1) ?_
      case r1 => (first | (apply RS.rdD; assumption; ((try dsimp only) <;> omega)) | exact Rd.slD 0 rfl (by (try dsimp only) <;> omega) | exact Rd.slD 1 rfl (by (try dsimp only) <;> omega) | exact Rd.slD 2 rfl (by (try dsimp only) <;> omega) | exact Rd.slD 3 rfl (by (try dsimp only) <;> omega) | exact Rd.slD 4 rfl (by (try dsimp only) <;> omega) | exact Rd.slD 5 rfl (by (try dsimp only) <;> omega) | exact Rd.slD 6 rfl (by (try dsimp only) <;> omega) | exact Rd.slD 7 rfl (by (try dsimp only) <;> omega))
      case h1 => rfl
      refine WL.ef rfl rfl (by decide) (Ef.alloc tab_ok rfl rfl (fun b4 => ?_))
      first | refine WL.efN rfl rfl (Ef.store0 0 tab_ok rfl rfl rfl rfl rfl rfl rfl rfl ?_) | refine WL.efN rfl rfl (Ef.store0 1 tab_ok rfl rfl rfl rfl rfl rfl rfl rfl ?_) | refine WL.efN rfl rfl (Ef.store0 2 tab_ok rfl rfl rfl rfl rfl rfl rfl rfl ?_) | refine WL.efN rfl rfl (Ef.store0 3 tab_ok rfl rfl rfl rfl rfl rfl rfl rfl ?_) | refine WL.efN rfl rfl (Ef.store0 4 tab_ok rfl rfl rfl rfl rfl rfl rfl rfl ?_) | refine WL.efN rfl rfl (Ef.store0 5 tab_ok rfl rfl rfl rfl rfl rfl rfl rfl ?_) | refine WL.efN rfl rfl (Ef.store0 6 tab_ok rfl rfl rfl rfl rfl rfl rfl rfl ?_) | refine WL.efN rfl rfl (Ef.store0 7 tab_ok rfl rfl rfl rfl rfl rfl rfl rfl ?_)
      refine WG.nil ?_
      refine WE.nxt ?_
      refine W.seq ?_
      refine W.seq ?_
      refine W.region _ ?_
      refine WG.run tab_ok 1 rfl ?_
      refine' WG.y rfl rfl (by decide) (Yl.load1 tab_ok rfl rfl rfl (fun _ => rfl) ?r2 rfl ?h2) ?_
      case r2 => apply Rd.add; (first | exact Rd.blk 0 rfl | exact Rd.blk 1 rfl | exact Rd.blk 2 rfl | exact Rd.blk 3 rfl | exact Rd.blk 4 rfl | exact Rd.blk 5 rfl | exact Rd.blk 6 rfl | exact Rd.blk 7 rfl)
      case h2 => rfl
      refine WG.run tab_ok 2 rfl ?_
      refine WG.y rfl rfl (by decide) (pureV_ok tab_ok rfl qE) ?_
      refine' WG.y rfl rfl (by decide) (Yl.loadG tab_ok rfl rfl rfl qE ?r3 rfl ?h3 ?g3) ?_
      case r3 => apply Rd.addC; (first | exact Rd.blkC 0 rfl | exact Rd.blkC 1 rfl | exact Rd.blkC 2 rfl | exact Rd.blkC 3 rfl | exact Rd.blkC 4 rfl | exact Rd.blkC 5 rfl | exact Rd.blkC 6 rfl | exact Rd.blkC 7 rfl)
      case h3 => rfl
      case g3 => first | exact fun _ => trivial | (intro hg; (try simp only [decide_eq_true_eq, decide_eq_false_iff_not, beq_iff_eq, bne_iff_ne, beq_eq_false_iff_ne, bne_eq_false_iff_eq, ne_eq, Bool.or_eq_true, Bool.or_eq_false_iff, Bool.and_eq_true, Bool.and_eq_false_imp, Bool.not_eq_true, Bool.not_eq_true', Bool.not_eq_false', Classical.not_not, Int.not_lt, Int.not_le, gt_iff_lt, ge_iff_le] at hg); (try dsimp only); omega)
      refine WG.y rfl rfl (by decide) (pureV_ok tab_ok rfl qE) ?_
      refine WG.y rfl rfl (by decide) (Yl.por rfl rfl rfl (fun _ => rfl) (by intro h1 h2; simp_all <;> omega)) ?_
      refine WG.run tab_ok 1 rfl ?_
      refine WG.y rfl rfl (by decide) (pureV_ok tab_ok rfl qE) ?_
      refine' WG.y rfl rfl (by decide) (Yl.loadG tab_ok rfl rfl rfl qE ?r4 rfl ?h4 ?g4) ?_
      case r4 => apply Rd.addC; (first | exact Rd.blkC 0 rfl | exact Rd.blkC 1 rfl | exact Rd.blkC 2 rfl | exact Rd.blkC 3 rfl | exact Rd.blkC 4 rfl | exact Rd.blkC 5 rfl | exact Rd.blkC 6 rfl | exact Rd.blkC 7 rfl)
      case h4 => rfl
      case g4 => first | exact fun _ => trivial | (intro hg; (try simp only [decide_eq_true_eq, decide_eq_false_iff_not, beq_iff_eq, bne_iff_ne, beq_eq_false_iff_ne, bne_eq_false_iff_eq, ne_eq, Bool.or_eq_true, Bool.or_eq_false_iff, Bool.and_eq_true, Bool.and_eq_false_imp, Bool.not_eq_true, Bool.not_eq_true', Bool.not_eq_false', Classical.not_not, Int.not_lt, Int.not_le, gt_iff_lt, ge_iff_le] at hg); (try dsimp only); omega)
      refine WG.y rfl rfl (by decide) (pureV_ok tab_ok rfl qE) ?_
      refine WG.y rfl rfl (by decide) (Yl.por rfl rfl rfl (fun _ => rfl) (by intro h1 h2; simp_all <;> omega)) ?_
      refine WG.run tab_ok 1 rfl ?_
      refine WG.y rfl rfl (by decide) (pureV_ok tab_ok rfl qE) ?_
      refine' WG.y rfl rfl (by decide) (Yl.loadG tab_ok rfl rfl rfl qE ?r5 rfl ?h5 ?g5) ?_
      case r5 => apply Rd.addC; (first | exact Rd.blkC 0 rfl | exact Rd.blkC 1 rfl | exact Rd.blkC 2 rfl | exact Rd.blkC 3 rfl | exact Rd.blkC 4 rfl | exact Rd.blkC 5 rfl | exact Rd.blkC 6 rfl | exact Rd.blkC 7 rfl)
      case h5 => rfl
      case g5 => first | exact fun _ => trivial | (intro hg; (try simp only [decide_eq_true_eq, decide_eq_false_iff_not, beq_iff_eq, bne_iff_ne, beq_eq_false_iff_ne, bne_eq_false_iff_eq, ne_eq, Bool.or_eq_true, Bool.or_eq_false_iff, Bool.and_eq_true, Bool.and_eq_false_imp, Bool.not_eq_true, Bool.not_eq_true', Bool.not_eq_false', Classical.not_not, Int.not_lt, Int.not_le, gt_iff_lt, ge_iff_le] at hg); (try dsimp only); omega)
      refine WG.y rfl rfl (by decide) (pureV_ok tab_ok rfl qE) ?_
      refine WG.y rfl rfl (by decide) (Yl.por rfl rfl rfl (fun _ => rfl) (by intro h1 h2; simp_all <;> omega)) ?_
      refine WG.run tab_ok 1 rfl ?_
      refine WG.y rfl rfl (by decide) (pureV_ok tab_ok rfl qE) ?_
      refine' WG.y rfl rfl (by decide) (Yl.loadG tab_ok rfl rfl rfl qE ?r6 rfl ?h6 ?g6) ?_
      case r6 => apply Rd.addC; (first | exact Rd.blkC 0 rfl | exact Rd.blkC 1 rfl | exact Rd.blkC 2 rfl | exact Rd.blkC 3 rfl | exact Rd.blkC 4 rfl | exact Rd.blkC 5 rfl | exact Rd.blkC 6 rfl | exact Rd.blkC 7 rfl)
      case h6 => rfl
      case g6 => first | exact fun _ => trivial | (intro hg; (try simp only [decide_eq_true_eq, decide_eq_false_iff_not, beq_iff_eq, bne_iff_ne, beq_eq_false_iff_ne, bne_eq_false_iff_eq, ne_eq, Bool.or_eq_true, Bool.or_eq_false_iff, Bool.and_eq_true, Bool.and_eq_false_imp, Bool.not_eq_true, Bool.not_eq_true', Bool.not_eq_false', Classical.not_not, Int.not_lt, Int.not_le, gt_iff_lt, ge_iff_le] at hg); (try dsimp only); omega)
      refine WG.y rfl rfl (by decide) (pureV_ok tab_ok rfl qE) ?_
      refine WG.y rfl rfl (by decide) (Yl.por rfl rfl rfl (fun _ => rfl) (by intro h1 h2; simp_all <;> omega)) ?_
      refine WG.run tab_ok 1 rfl ?_
      refine WG.y rfl rfl (by decide) (pureV_ok tab_ok rfl qE) ?_
      refine' WG.y rfl rfl (by decide) (Yl.loadG tab_ok rfl rfl rfl qE ?r7 rfl ?h7 ?g7) ?_
      case r7 => apply Rd.addC; (first | exact Rd.blkC 0 rfl | exact Rd.blkC 1 rfl | exact Rd.blkC 2 rfl | exact Rd.blkC 3 rfl | exact Rd.blkC 4 rfl | exact Rd.blkC 5 rfl | exact Rd.blkC 6 rfl | exact Rd.blkC 7 rfl)
      case h7 => rfl
      case g7 => first | exact fun _ => trivial | (intro hg; (try simp only [decide_eq_true_eq, decide_eq_false_iff_not, beq_iff_eq, bne_iff_ne, beq_eq_false_iff_ne, bne_eq_false_iff_eq, ne_eq, Bool.or_eq_true, Bool.or_eq_false_iff, Bool.and_eq_true, Bool.and_eq_false_imp, Bool.not_eq_true, Bool.not_eq_true', Bool.not_eq_false', Classical.not_not, Int.not_lt, Int.not_le, gt_iff_lt, ge_iff_le] at hg); (try dsimp only); omega)
      refine WG.y rfl rfl (by decide) (pureV_ok tab_ok rfl qE) ?_
      refine WG.y rfl rfl (by decide) (Yl.por rfl rfl rfl (fun _ => rfl) (by intro h1 h2; simp_all <;> omega)) ?_
      refine WG.nil ?_
      refine WE.nxt ?_
      refine W.cond rfl (fun hc2 => ?_) (fun hc2 => ?_)
      · try simp only [decide_eq_true_eq, decide_eq_false_iff_not, beq_iff_eq, bne_iff_ne, beq_eq_false_iff_ne, bne_eq_false_iff_eq, ne_eq, Bool.or_eq_true, Bool.or_eq_false_iff, Bool.and_eq_true, Bool.and_eq_false_imp, Bool.not_eq_true, Bool.not_eq_true', Bool.not_eq_false', Classical.not_not, Int.not_lt, Int.not_le, gt_iff_lt, ge_iff_le] at hc2
        rw [if_pos (show BadP (nth ps st) by unfold BadP; omega)] at hv
        refine W.seq ?_
        refine W.region _ ?_
        refine WG.run tab_ok 1 rfl ?_
        refine WG.nil ?_
        refine WE.nxt ?_
        refine W.ret ?_
        refine WE.then_ret ?_
        refine WE.blk_ret ?_
        refine WE.then_ret ?_
        refine WE.then_ret ?_
        refine WE.blk_ret ?_
        refine WE.then_ret ?_
        refine WE.subE (E' := E) qS ?_
        refine WE.retF tab_ok [_] rfl ⟨rfl, trivial⟩ (RLe.refl _) ?_
        exact ⟨by unfold validate; rw [if_neg (show ¬ 60 < ps.length by omega), ← hv]; rfl, rfl⟩
      · try simp only [decide_eq_true_eq, decide_eq_false_iff_not, beq_iff_eq, bne_iff_ne, beq_eq_false_iff_ne, bne_eq_false_iff_eq, ne_eq, Bool.or_eq_true, Bool.or_eq_false_iff, Bool.and_eq_true, Bool.and_eq_false_imp, Bool.not_eq_true, Bool.not_eq_true', Bool.not_eq_false', Classical.not_not, Int.not_lt, Int.not_le, gt_iff_lt, ge_iff_le] at hc2
        rw [if_neg (show ¬ BadP (nth ps st) by unfold BadP; omega)] at hv
        refine W.skip ?_
        refine WE.nxt ?_
        refine W.seq ?_
        refine W.regionQ _ mixed (by kernel_rfl) ?_
        refine WG.run tab_ok 3 rfl ?_
        refine WG.y rfl rfl (by decide) (pureV_ok tab_ok rfl qE) ?_
        refine' WG.y rfl rfl (by decide) (Yl.loadG tab_ok rfl rfl rfl qE ?r8 rfl ?h8 ?g8) ?_
        case r8 => apply Rd.addC; (first | exact Rd.blkC 0 rfl | exact Rd.blkC 1 rfl | exact Rd.blkC 2 rfl | exact Rd.blkC 3 rfl | exact Rd.blkC 4 rfl | exact Rd.blkC 5 rfl | exact Rd.blkC 6 rfl | exact Rd.blkC 7 rfl)
        case h8 => rfl
        case g8 => first | exact fun _ => trivial | (intro hg; (try simp only [decide_eq_true_eq, decide_eq_false_iff_not, beq_iff_eq, bne_iff_ne, beq_eq_false_iff_ne, bne_eq_false_iff_eq, ne_eq, Bool.or_eq_true, Bool.or_eq_false_iff, Bool.and_eq_true, Bool.and_eq_false_imp, Bool.not_eq_true, Bool.not_eq_true', Bool.not_eq_false', Classical.not_not, Int.not_lt, Int.not_le, gt_iff_lt, ge_iff_le] at hg); (try dsimp only); omega)
        refine WG.y rfl rfl (by decide) (pureV_ok tab_ok rfl qE) ?_
        refine WG.y rfl rfl (by decide) (pureV_ok tab_ok rfl qE) ?_
        refine WG.y rfl rfl (by decide) (Yl.sub rfl rfl rfl qE (by intro hg; (try simp only [decide_eq_true_eq, decide_eq_false_iff_not, beq_iff_eq, bne_iff_ne, beq_eq_false_iff_ne, bne_eq_false_iff_eq, ne_eq, Bool.or_eq_true, Bool.or_eq_false_iff, Bool.and_eq_true, Bool.and_eq_false_imp, Bool.not_eq_true, Bool.not_eq_true', Bool.not_eq_false', Classical.not_not, Int.not_lt, Int.not_le, gt_iff_lt, ge_iff_le] at hg); constructor <;> (try dsimp only) <;> omega)) ?_
        refine WG.y rfl rfl (by decide) (Yl.index tab_ok rfl rfl rfl rfl rfl rfl qE (by intro hg; (try simp only [decide_eq_true_eq, decide_eq_false_iff_not, beq_iff_eq, bne_iff_ne, beq_eq_false_iff_ne, bne_eq_false_iff_eq, ne_eq, Bool.or_eq_true, Bool.or_eq_false_iff, Bool.and_eq_true, Bool.and_eq_false_imp, Bool.not_eq_true, Bool.not_eq_true', Bool.not_eq_false', Classical.not_not, Int.not_lt, Int.not_le, gt_iff_lt, ge_iff_le] at hg); constructor <;> (try dsimp only) <;> omega) (by intro hg; (try simp only [decide_eq_true_eq, decide_eq_false_iff_not, beq_iff_eq, bne_iff_ne, beq_eq_false_iff_ne, bne_eq_false_iff_eq, ne_eq, Bool.or_eq_true, Bool.or_eq_false_iff, Bool.and_eq_true, Bool.and_eq_false_imp, Bool.not_eq_true, Bool.not_eq_true', Bool.not_eq_false', Classical.not_not, Int.not_lt, Int.not_le, gt_iff_lt, ge_iff_le] at hg); first | exact fun _ _ _ _ => rfl | exact RS.has (by assumption) | exact fun _ _ _ _ => (by assumption) | exact HasMem.ownD 0 rfl | exact HasMem.ownD 1 rfl | exact HasMem.ownD 2 rfl | exact HasMem.ownD 3 rfl | exact HasMem.ownD 4 rfl | exact HasMem.ownD 5 rfl | exact HasMem.ownD 6 rfl | exact HasMem.ownD 7 rfl)) ?_
        refine WG.y rfl rfl (by decide) (pureV_ok tab_ok rfl qE) ?_
        refine' WG.y rfl rfl (by decide) (Yl.loadG tab_ok rfl rfl rfl qE ?r9 rfl ?h9 ?g9) ?_
        case r9 => apply Rd.addC; (first | (apply RS.rdC; assumption) | exact Rd.slC 0 rfl | exact Rd.slC 1 rfl | exact Rd.slC 2 rfl | exact Rd.slC 3 rfl | exact Rd.slC 4 rfl | exact Rd.slC 5 rfl | exact Rd.slC 6 rfl | exact Rd.slC 7 rfl)
        case h9 => rfl
        case g9 => first | exact fun _ => trivial | (intro hg; (try simp only [decide_eq_true_eq, decide_eq_false_iff_not, beq_iff_eq, bne_iff_ne, beq_eq_false_iff_ne, bne_eq_false_iff_eq, ne_eq, Bool.or_eq_true, Bool.or_eq_false_iff, Bool.and_eq_true, Bool.and_eq_false_imp, Bool.not_eq_true, Bool.not_eq_true', Bool.not_eq_false', Classical.not_not, Int.not_lt, Int.not_le, gt_iff_lt, ge_iff_le] at hg); (try dsimp only); omega)
        refine WG.y rfl rfl (by decide) (pureV_ok tab_ok rfl qE) ?_
        refine WG.y rfl rfl (by decide) (Yl.pand rfl rfl rfl (fun _ => rfl) (by intro h1 h2; simp_all <;> omega)) ?_
        refine WG.nil ?_
        refine WE.nxt ?_
        refine W.cond rfl (fun hc3 => ?_) (fun hc3 => ?_)
        · try simp only [decide_eq_true_eq, decide_eq_false_iff_not, beq_iff_eq, bne_iff_ne, beq_eq_false_iff_ne, bne_eq_false_iff_eq, ne_eq, Bool.or_eq_true, Bool.or_eq_false_iff, Bool.and_eq_true, Bool.and_eq_false_imp, Bool.not_eq_true, Bool.not_eq_true', Bool.not_eq_false', Classical.not_not, Int.not_lt, Int.not_le, gt_iff_lt, ge_iff_le] at hc3
          obtain ⟨hc4, hc5⟩ := hc3
          rw [hk0 (by omega)] at hc5
          rw [if_neg (show ¬ st = 0 by omega), if_pos hc5] at hv
          refine W.seq ?_
          refine W.region _ ?_
          refine WG.run tab_ok 1 rfl ?_
          refine WG.nil ?_
          refine WE.nxt ?_
          refine W.ret ?_
          refine WE.blk_ret ?_
          refine WE.then_ret ?_
          refine WE.then_ret ?_
          refine WE.blk_ret ?_
          refine WE.then_ret ?_
          refine WE.subE (E' := E) qS ?_
          refine WE.retF tab_ok [_] rfl ⟨rfl, trivial⟩ (RLe.refl _) ?_
          exact ⟨by unfold validate; rw [if_neg (show ¬ 60 < ps.length by omega), ← hv]; rfl, rfl⟩
        · try simp only [decide_eq_true_eq, decide_eq_false_iff_not, beq_iff_eq, bne_iff_ne, beq_eq_false_iff_ne, bne_eq_false_iff_eq, ne_eq, Bool.or_eq_true, Bool.or_eq_false_iff, Bool.and_eq_true, Bool.and_eq_false_imp, Bool.not_eq_true, Bool.not_eq_true', Bool.not_eq_false', Classical.not_not, Int.not_lt, Int.not_le, gt_iff_lt, ge_iff_le] at hc3
          have hc4 : ¬ (nth ps st).time < (if st = 0 then 0 else (nth ps (st - 1)).time) := by
            split
            · have hb : ¬ BadP (nth ps st) := by unfold BadP; omega
              unfold BadP at hb; omega
            · rw [← hk0 (by omega)]
              have := hc3 (by omega); omega
          rw [if_neg hc4] at hv
          refine W.skip ?_
          refine WE.blk _ ?_
          refine WE.nxt ?_
          refine W.region _ ?_
          refine WG.run tab_ok 1 rfl ?_
          refine WG.y rfl rfl (by decide) (Yl.add rfl rfl rfl (fun _ => rfl) (by intro _; constructor <;> (try dsimp only) <;> omega)) ?_
          refine WG.run tab_ok 1 rfl ?_
          refine WG.nil ?_
          refine WE.again (st + 1) (⟨by omega, by simpa using hv⟩) (by (try dsimp only); omega) ⟨rfl, rfl, rfl⟩ (RLe.refl _) qS
    · try dsimp only at hc1
      obtain rfl : st = ps.length := by omega
      simp only [List.drop_length, valGo] at hv
      refine W.exit ?_
      refine WE.then_exit ?_
      refine WE.then_exit ?_
      refine WE.blk_exit ?_
      refine WE.nxt ?_
      refine W.seq ?_
      refine W.region _ ?_
      refine WG.run tab_ok 1 rfl ?_
      refine WG.nil ?_
      refine WE.nxt ?_
      refine W.ret ?_
      refine WE.subE (E' := E) qS ?_
      refine WE.retF tab_ok [_] rfl ⟨rfl, trivial⟩ (RLe.refl _) ?_
      exact ⟨by unfold validate; rw [if_neg (show ¬ 60 < ps.length by omega)]; exact congrArg (Value.int .i64) hv, rfl⟩

theorem BytesR_V {R : Ro} {a : Option Addr} {c : Nat} {ps : List Pkt} (ha : RS R 3 encP a ps) {flow t : Int} (hs : ∀ p ∈ ps, 0 ≤ p.size ∧ p.size ≤ 1000000) (hl : ps.length ≤ 1000000) : FnV Try.prog 156 [.slice a ps.length c, .int .i64 flow, .int .i64 t] R (.int .i64 (pbytes flow t ps)) := by
  have hla := ha.len
  refine Fn.toV (fun w0 E => ?_)
  refine Fn.enter (n := 47) Try.func156 rfl rfl (Nat.le_of_ble_eq_true rfl) rfl ?_
  refine W.seq ?_
  refine W.region _ ?_
  refine WG.run tab_ok 1 rfl ?_
  refine WG.nil ?_
  refine WE.nxt ?_
  refine W.seq ?_
  refine W.region _ ?_
  refine WG.run tab_ok 1 rfl ?_
  refine WG.nil ?_
  refine WE.nxt ?_
  refine W.seq ?_
  refine W.seq ?_
  refine W.region _ ?_
  refine WG.run tab_ok 1 rfl ?_
  refine WG.nil ?_
  refine WE.nxt ?_
  refine W.block ?_
  refine W.loop (β := Nat) (fun k => k ≤ ps.length) (fun k => [(0, true, .slice a ps.length c), (1, true, .int .i64 flow), (2, true, .int .i64 t), (7, true, .int .i64 (pbytes flow t (ps.take k))), (8, true, .int .i64 (k : Int))]) (fun _ => R) (fun _ => E) (fun k => ps.length - k) (0) (Nat.zero_le _) ⟨rfl, rfl, rfl, rfl, rfl, rfl⟩ (RLe.refl _) qS ?_
  intro st hst
  have hk : st ≤ ps.length := hst
  have hb := pbytes_bound flow t (ps.take st) (fun p hp => hs p (List.mem_of_mem_take hp))
  have hb2 := List.length_take_le st ps
  refine W.seq ?_
  refine W.seq ?_
  refine W.region _ ?_
  refine WG.run tab_ok 4 rfl ?_
  refine WG.nil ?_
  refine WE.nxt ?_
  refine W.condD rfl (fun hc0 => ?_) (fun hc0 => ?_)
  · try dsimp only at hc0
    have hm := hs _ (nth_mem (xs := ps) (k := st) (by omega))
    have htk := pbytes_snoc flow t (ps.take st) (nth ps st)
    rw [← take_nth (by omega)] at htk
    refine W.skip ?_
    refine WE.nxt ?_
    refine W.seq ?_
    refine W.block ?_
    refine W.seq ?_
    refine W.region _ ?_
    refine WG.run tab_ok 2 rfl ?_
    refine WG.y rfl rfl (by decide) (Yl.indexN tab_ok rfl rfl rfl rfl rfl rfl (fun _ => rfl) (by intro _; (try dsimp only) <;> omega) (by intro _; first | exact fun _ _ _ _ => rfl | exact RS.has (by assumption) | exact fun _ _ _ _ => (by assumption) | exact HasMem.ownD 0 rfl | exact HasMem.ownD 1 rfl | exact HasMem.ownD 2 rfl | exact HasMem.ownD 3 rfl | exact HasMem.ownD 4 rfl | exact HasMem.ownD 5 rfl | exact HasMem.ownD 6 rfl | exact HasMem.ownD 7 rfl)) ?_
    refine WG.run tab_ok 1 rfl ?_
    refine' WG.y rfl rfl (by decide) (Yl.load1 tab_ok rfl rfl rfl (fun _ => rfl) ?r1 rfl ?h1) ?_
    case r1 => apply Rd.add; (first | (apply RS.rdD; assumption; ((try dsimp only) <;> omega)) | exact Rd.slD 0 rfl (by (try dsimp only) <;> omega) | exact Rd.slD 1 rfl (by (try dsimp only) <;> omega) | exact Rd.slD 2 rfl (by (try dsimp only) <;> omega) | exact Rd.slD 3 rfl (by (try dsimp only) <;> omega) | exact Rd.slD 4 rfl (by (try dsimp only) <;> omega) | exact Rd.slD 5 rfl (by (try dsimp only) <;> omega) | exact Rd.slD 6 rfl (by (try dsimp only) <;> omega) | exact Rd.slD 7 rfl (by (try dsimp only) <;> omega))
    case h1 => rfl
    refine WG.run tab_ok 3 rfl ?_
    refine WG.y rfl rfl (by decide) (pureV_ok tab_ok rfl qE) ?_
    refine WG.y rfl rfl (by decide) (pureV_ok tab_ok rfl qE) ?_
    refine WG.y rfl rfl (by decide) (Yl.pand rfl rfl rfl (fun _ => rfl) (by intro h1 h2; simp_all <;> omega)) ?_
    refine WG.run tab_ok 1 rfl ?_
    refine WG.y rfl rfl (by decide) (pureV_ok tab_ok rfl qE) ?_
    refine WG.y rfl rfl (by decide) (pureV_ok tab_ok rfl qE) ?_
    refine WG.y rfl rfl (by decide) (pureV_ok tab_ok rfl qE) ?_
    refine WG.y rfl rfl (by decide) (pureV_ok tab_ok rfl qE) ?_
    refine WG.y rfl rfl (by decide) (pureV_ok tab_ok rfl qE) ?_
    refine WG.y rfl rfl (by decide) (Yl.indexN tab_ok rfl rfl rfl rfl rfl rfl qE (by intro hg; (try simp only [decide_eq_true_eq, decide_eq_false_iff_not, beq_iff_eq, bne_iff_ne, beq_eq_false_iff_ne, bne_eq_false_iff_eq, ne_eq, Bool.or_eq_true, Bool.or_eq_false_iff, Bool.and_eq_true, Bool.and_eq_false_imp, Bool.not_eq_true, Bool.not_eq_true', Bool.not_eq_false', Classical.not_not, Int.not_lt, Int.not_le, gt_iff_lt, ge_iff_le] at hg); (try dsimp only) <;> omega) (by intro hg; (try simp only [decide_eq_true_eq, decide_eq_false_iff_not, beq_iff_eq, bne_iff_ne, beq_eq_false_iff_ne, bne_eq_false_iff_eq, ne_eq, Bool.or_eq_true, Bool.or_eq_false_iff, Bool.and_eq_true, Bool.and_eq_false_imp, Bool.not_eq_true, Bool.not_eq_true', Bool.not_eq_false', Classical.not_not, Int.not_lt, Int.not_le, gt_iff_lt, ge_iff_le] at hg); first | exact fun _ _ _ _ => rfl | exact RS.has (by assumption) | exact fun _ _ _ _ => (by assumption) | exact HasMem.ownD 0 rfl | exact HasMem.ownD 1 rfl | exact HasMem.ownD 2 rfl | exact HasMem.ownD 3 rfl | exact HasMem.ownD 4 rfl | exact HasMem.ownD 5 rfl | exact HasMem.ownD 6 rfl | exact HasMem.ownD 7 rfl)) ?_
    refine WG.y rfl rfl (by decide) (pureV_ok tab_ok rfl qE) ?_
    refine' WG.y rfl rfl (by decide) (Yl.loadG tab_ok rfl rfl rfl qE ?r2 rfl ?h2 ?g2) ?_
    case r2 => apply Rd.addC; (first | (apply RS.rdC; assumption) | exact Rd.slC 0 rfl | exact Rd.slC 1 rfl | exact Rd.slC 2 rfl | exact Rd.slC 3 rfl | exact Rd.slC 4 rfl | exact Rd.slC 5 rfl | exact Rd.slC 6 rfl | exact Rd.slC 7 rfl)
    case h2 => rfl
    case g2 => first | exact fun _ => trivial | (intro hg; (try simp only [decide_eq_true_eq, decide_eq_false_iff_not, beq_iff_eq, bne_iff_ne, beq_eq_false_iff_ne, bne_eq_false_iff_eq, ne_eq, Bool.or_eq_true, Bool.or_eq_false_iff, Bool.and_eq_true, Bool.and_eq_false_imp, Bool.not_eq_true, Bool.not_eq_true', Bool.not_eq_false', Classical.not_not, Int.not_lt, Int.not_le, gt_iff_lt, ge_iff_le] at hg); (try dsimp only); omega)
    refine WG.y rfl rfl (by decide) (pureV_ok tab_ok rfl qE) ?_
    refine WG.y rfl rfl (by decide) (pureV_ok tab_ok rfl qE) ?_
    refine WG.y rfl rfl (by decide) (Yl.por rfl rfl rfl qE (by intro h1 h2; simp_all <;> omega)) ?_
    refine WG.y rfl rfl (by decide) (Yl.pand rfl rfl rfl (fun _ => rfl) (by intro h1 h2; simp_all <;> omega)) ?_
    refine WG.nil ?_
    refine WE.nxt ?_
    refine W.cond rfl (fun hc1 => ?_) (fun hc1 => ?_)
    · try simp only [decide_eq_true_eq, decide_eq_false_iff_not, beq_iff_eq, bne_iff_ne, beq_eq_false_iff_ne, bne_eq_false_iff_eq, ne_eq, Bool.or_eq_true, Bool.or_eq_false_iff, Bool.and_eq_true, Bool.and_eq_false_imp, Bool.not_eq_true, Bool.not_eq_true', Bool.not_eq_false', Classical.not_not, Int.not_lt, Int.not_le, gt_iff_lt, ge_iff_le] at hc1
      rw [if_pos (show hit flow t (nth ps st) by unfold hit; omega)] at htk
      refine W.region _ ?_
      refine WG.run tab_ok 3 rfl ?_
      refine WG.y rfl rfl (by decide) (Yl.indexN tab_ok rfl rfl rfl rfl rfl rfl (fun _ => rfl) (by intro _; (try dsimp only) <;> omega) (by intro _; first | exact fun _ _ _ _ => rfl | exact RS.has (by assumption) | exact fun _ _ _ _ => (by assumption) | exact HasMem.ownD 0 rfl | exact HasMem.ownD 1 rfl | exact HasMem.ownD 2 rfl | exact HasMem.ownD 3 rfl | exact HasMem.ownD 4 rfl | exact HasMem.ownD 5 rfl | exact HasMem.ownD 6 rfl | exact HasMem.ownD 7 rfl)) ?_
      refine WG.run tab_ok 1 rfl ?_
      refine' WG.y rfl rfl (by decide) (Yl.load1 tab_ok rfl rfl rfl (fun _ => rfl) ?r3 rfl ?h3) ?_
      case r3 => apply Rd.add; (first | (apply RS.rdD; assumption; ((try dsimp only) <;> omega)) | exact Rd.slD 0 rfl (by (try dsimp only) <;> omega) | exact Rd.slD 1 rfl (by (try dsimp only) <;> omega) | exact Rd.slD 2 rfl (by (try dsimp only) <;> omega) | exact Rd.slD 3 rfl (by (try dsimp only) <;> omega) | exact Rd.slD 4 rfl (by (try dsimp only) <;> omega) | exact Rd.slD 5 rfl (by (try dsimp only) <;> omega) | exact Rd.slD 6 rfl (by (try dsimp only) <;> omega) | exact Rd.slD 7 rfl (by (try dsimp only) <;> omega))
      case h3 => rfl
      refine WG.y rfl rfl (by decide) (Yl.add rfl rfl rfl (fun _ => rfl) (by intro _; constructor <;> (try dsimp only) <;> omega)) ?_
      refine WG.run tab_ok 1 rfl ?_
      refine WG.nil ?_
      refine WE.blk _ ?_
      refine WE.nxt ?_
      refine W.region _ ?_
      refine WG.run tab_ok 1 rfl ?_
      refine WG.y rfl rfl (by decide) (Yl.add rfl rfl rfl (fun _ => rfl) (by intro _; constructor <;> (try dsimp only) <;> omega)) ?_
      refine WG.run tab_ok 1 rfl ?_
      refine WG.nil ?_
      refine WE.again (st + 1) (by omega) (by (try dsimp only); omega) ⟨rfl, rfl, rfl, vint htk.symm, rfl, rfl⟩ (RLe.refl _) qS
    · try simp only [decide_eq_true_eq, decide_eq_false_iff_not, beq_iff_eq, bne_iff_ne, beq_eq_false_iff_ne, bne_eq_false_iff_eq, ne_eq, Bool.or_eq_true, Bool.or_eq_false_iff, Bool.and_eq_true, Bool.and_eq_false_imp, Bool.not_eq_true, Bool.not_eq_true', Bool.not_eq_false', Classical.not_not, Int.not_lt, Int.not_le, gt_iff_lt, ge_iff_le] at hc1
      rw [if_neg (show ¬ hit flow t (nth ps st) by unfold hit; omega)] at htk
      refine W.skip ?_
      refine WE.blk _ ?_
      refine WE.nxt ?_
      refine W.region _ ?_
      refine WG.run tab_ok 1 rfl ?_
      refine WG.y rfl rfl (by decide) (Yl.add rfl rfl rfl (fun _ => rfl) (by intro _; constructor <;> (try dsimp only) <;> omega)) ?_
      refine WG.run tab_ok 1 rfl ?_
      refine WG.nil ?_
      refine WE.again (st + 1) (by omega) (by (try dsimp only); omega) ⟨rfl, rfl, rfl, vint (by rw [htk]; omega), rfl, rfl⟩ (RLe.refl _) qS
  · try dsimp only at hc0
    obtain rfl : st = ps.length := by omega
    refine W.exit ?_
    refine WE.then_exit ?_
    refine WE.then_exit ?_
    refine WE.blk_exit ?_
    refine WE.nxt ?_
    refine W.seq ?_
    refine W.region _ ?_
    refine WG.run tab_ok 2 rfl ?_
    refine WG.nil ?_
    refine WE.nxt ?_
    refine W.ret ?_
    refine WE.subE (E' := E) qS ?_
    refine WE.retF tab_ok [_] rfl ⟨rfl, trivial⟩ (RLe.refl _) ?_
    exact ⟨by rw [List.take_length]; rfl, rfl⟩

end Go.Proofs.Ytnaeefefggmomaa
