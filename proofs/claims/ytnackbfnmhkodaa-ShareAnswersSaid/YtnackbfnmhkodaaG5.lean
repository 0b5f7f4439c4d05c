/- Rules and walks, joined from 18 texts: the first of them says: What one valid curve leaves of another one behind a theta, plain: the program and the reference make the same. No condition. -/
import Derived.Test.YtnackbfnmhkodaaG4
/- What one valid curve leaves of another one behind a theta, plain: the program and the reference make the same. No condition. -/
namespace Go.Proofs.Ytnackbfnmhkodaa.M
open Go Go.Proofs.Ytnackbfnmhkodaa.K

/-- the least of n values from a place on, as the program looks for it -/
def leastG (f : Nat → Int) (a : Nat) : Nat → Int
  | 0 => 4611686018427387904
  | n + 1 => min (leastG f a n) (f (a + n))
/-- the least from s to s + d -/
def minF (f : Nat → Int) (s : Nat) : Nat → Int
  | 0 => f s
  | d + 1 => min (minF f s d) (f (s + (d + 1)))
section
variable {f : Nat → Int} {s a : Nat} {D : Int}
theorem minF_le {u : Nat} : ∀ {d : Nat}, s ≤ u → u ≤ s + d → minF f s d ≤ f u
  | 0, h1, h2 => by
    obtain rfl : u = s := by omega
    exact Int.le_refl _
  | d + 1, h1, h2 => by
    simp only [minF]
    by_cases e : u = s + (d + 1)
    · subst e; omega
    · have : minF f s d ≤ f u := minF_le h1 (by omega)
      omega
theorem minF_ge {B : Int} : ∀ {d : Nat}, (∀ u, s ≤ u → u ≤ s + d → B ≤ f u) → B ≤ minF f s d
  | 0, h => h s (Nat.le_refl _) (by omega)
  | d + 1, h => by
    have a := minF_ge (d := d) (fun u h1 h2 => h u h1 (by omega))
    have b := h (s + (d + 1)) (by omega) (Nat.le_refl _)
    simp only [minF]; omega
theorem minF_at : ∀ {d : Nat}, ∃ u, s ≤ u ∧ u ≤ s + d ∧ minF f s d = f u
  | 0 => ⟨s, Nat.le_refl _, by omega, rfl⟩
  | d + 1 => by
    obtain ⟨u, h1, h2, h3⟩ := minF_at (d := d)
    simp only [minF]
    by_cases h : minF f s d ≤ f (s + (d + 1))
    · exact ⟨u, h1, by omega, by omega⟩
    · exact ⟨s + (d + 1), by omega, Nat.le_refl _, by omega⟩
theorem minF_ext {n m : Nat} (hnm : n ≤ m) (h : ∀ v, s + n < v → v ≤ s + m → ∃ v', s ≤ v' ∧ v' < v ∧ f v' ≤ f v) : minF f s m = minF f s n := by
  refine Int.le_antisymm (minF_ge (fun u h1 h2 => minF_le h1 (by omega))) (minF_ge (fun u => ?_))
  induction u using Nat.strongRecOn with
  | _ u ih =>
    intro h1 h2
    by_cases hu : u ≤ s + n
    · exact minF_le h1 hu
    · obtain ⟨v, a1, a2, a3⟩ := h u (by omega) h2
      have := ih v a2 a1 (by omega)
      omega
theorem minF_shift {L d : Nat} (h : ∀ u, s ≤ u → u ≤ s + d → f (u + L) = f u + D) : minF f (s + L) d = minF f s d + D := by
  refine Int.le_antisymm ?_ (minF_ge (fun u h1 h2 => ?_))
  · have : minF f (s + L) d - D ≤ minF f s d := minF_ge (fun u h1 h2 => by
      have a1 := h u h1 h2
      have a2 := minF_le (f := f) (s := s + L) (u := u + L) (d := d) (by omega) (by omega)
      omega)
    omega
  · have a1 := h (u - L) (by omega) (by omega)
    rw [show u - L + L = u by omega] at a1
    have a2 := minF_le (f := f) (s := s) (u := u - L) (d := d) (by omega) (by omega)
    omega
theorem minF_max {g : Nat → Int} {d : Nat} (h : ∀ u, s ≤ u → u ≤ s + d → g u = max 0 (f u)) : minF g s d = max 0 (minF f s d) := by
  obtain ⟨u, h1, h2, h3⟩ := minF_at (f := f) (s := s) (d := d)
  have a1 := minF_le (f := g) h1 h2
  rw [h u h1 h2, ← h3] at a1
  refine Int.le_antisymm a1 (minF_ge (fun v v1 v2 => ?_))
  have := minF_le (f := f) v1 v2
  rw [h v v1 v2]; omega
theorem leastG_min : ∀ {d : Nat}, leastG f a (d + 1) = min INF (minF f a d)
  | 0 => rfl
  | d + 1 => by
    have e : leastG f a (d + 1 + 1) = min (leastG f a (d + 1)) (f (a + (d + 1))) := rfl
    rw [e, leastG_min (d := d)]
    simp only [minF]; omega
theorem leastG_cap {d : Nat} (h : f a ≤ INF) : leastG f a (d + 1) = minF f a d := by
  have := minF_le (f := f) (s := a) (u := a) (d := d) (Nat.le_refl _) (by omega)
  rw [leastG_min]; omega
theorem leastG_cons (n a : Nat) : leastG f a (n + 1) = min (leastG f (a + 1) n) (f a) := by
  induction n generalizing a with
  | zero => simp only [leastG, Nat.add_zero]
  | succ n ih =>
    have e : leastG f a (n + 1 + 1) = min (leastG f a (n + 1)) (f (a + (n + 1))) := rfl
    have e2 : leastG f (a + 1) (n + 1) = min (leastG f (a + 1) n) (f (a + 1 + n)) := rfl
    rw [e, ih, e2, show a + (n + 1) = a + 1 + n by omega]
    omega
end
/-! ### the differences -/
def rawG (b o : Cv) (th u : Nat) : Int := if isInf o (u - th) then 0 else if isInf b u then INF else cvF b u - cvF o (u - th)
def driftG (b o : Cv) : Int := gainC b (lcmC b o) - gainC o (lcmC b o)
def frG (b o : Cv) (th : Nat) : Nat := max (max (stN b) (stN o + th)) (th + 1)
def hG (b o : Cv) (th u : Nat) : Int := if u ≤ th then 0 else max 0 (minF (rawG b o th) u (max (frG b o th) u - u + (lcmC b o - 1)))
theorem grows_back {F : Nat → Int} {S P S' L : Nat} {I D : Int} (hP : 0 < P) (h : Grows F S P I) (h' : Grows F S' L D) : Grows F S L D := fun t ht => by
  have a1 := h.mul S' t ht
  have a2 := h.mul S' (t + L) (by omega)
  have h1 : S' ≤ S' * P := Nat.le_mul_of_pos_right S' hP
  have a3 := h' (t + S' * P) (by omega)
  rw [show t + S' * P + L = t + L + S' * P by omega] at a3
  omega
section
variable {b o : Cv} {th : Nat}
theorem lcm_pos (hb : validB b = true) (ho : validB o = true) : 0 < lcmC b o := by
  obtain ⟨_, _, _, q1, _⟩ := valid_range hb
  obtain ⟨_, _, _, q2, _⟩ := valid_range ho
  exact (lcm_mod (by omega) (by omega)).2.2
theorem gain_grows (hb : validB b = true) (fb : finB b = true) {L : Nat} (hL : L % b.per.toNat = 0) : Grows (cvF b) (stN b) L (gainC b L) := by
  rcases valid_cases hb with ⟨S1, P1, _, l1, p1, fc1, _⟩ | ⟨_, _, _, _, _, _, _, f⟩
  · have hP1 := fc1.hP
    have hs : stN b = S1 := by unfold stN; rw [l1, p1, Int.toNat_natCast]; omega
    rw [p1, Int.toNat_natCast] at hL
    unfold gainC
    rw [hs, p1]
    exact grows_gain (by omega) fc1.hg hL
  · rw [fb] at f; cases f
theorem rawG_shift (hb : validB b = true) (ho : validB o = true) (fb : finB b = true) (fo : finB o = true) {t : Nat} (ht : frG b o th ≤ t) : rawG b o th (t + lcmC b o) = rawG b o th t + driftG b o := by
  obtain ⟨_, _, _, q1, _⟩ := valid_range hb
  obtain ⟨_, _, _, q2, _⟩ := valid_range ho
  obtain ⟨m1, m2, _⟩ := lcm_mod (a := b.per.toNat) (b := o.per.toNat) (by omega) (by omega)
  have g1 := gain_grows (L := lcmC b o) hb fb m1 t (by unfold frG at ht; omega)
  have g2 := gain_grows (L := lcmC b o) ho fo m2 (t - th) (by unfold frG at ht; omega)
  have e : t + lcmC b o - th = t - th + lcmC b o := by unfold frG at ht; omega
  unfold rawG
  rw [if_neg (isInf_fin fo _), if_neg (isInf_fin fb _), if_neg (isInf_fin fo _), if_neg (isInf_fin fb _), e, g1, g2]
  unfold driftG; omega
theorem rawG_inf (hb : validB b = true) (fb : finB b = false) (fo : finB o = true) {t : Nat} (ht : stN b ≤ t) : rawG b o th t = INF := by
  obtain ⟨n, h1, h2, _⟩ := inf_at hb fb
  unfold rawG
  rw [if_neg (isInf_fin fo _), if_pos ((h2 t).2 (by omega))]
/-- the differences do not fall over a common period -/
def UpG (b o : Cv) : Prop := finB o = true ∧ (finB b = true → 0 ≤ driftG b o)
theorem rawG_up (hb : validB b = true) (ho : validB o = true) (hu : UpG b o) {t : Nat} (ht : frG b o th ≤ t) : rawG b o th t ≤ rawG b o th (t + lcmC b o) := by
  cases fb : finB b with
  | true => rw [rawG_shift hb ho fb hu.1 ht]; have := hu.2 fb; omega
  | false =>
    have : stN b ≤ t := by unfold frG at ht; omega
    rw [rawG_inf hb fb hu.1 this, rawG_inf hb fb hu.1 (by omega)]
    exact Int.le_refl _
/-- a longer window has the same least -/
theorem rawG_win (hb : validB b = true) (ho : validB o = true) (hu : UpG b o) {u m : Nat} (hm : max (frG b o th) u - u + (lcmC b o - 1) ≤ m) : minF (rawG b o th) u m = minF (rawG b o th) u (max (frG b o th) u - u + (lcmC b o - 1)) := by
  have hl := lcm_pos hb ho
  refine minF_ext hm (fun v h1 h2 => ⟨v - lcmC b o, by omega, by omega, ?_⟩)
  have := rawG_up (th := th) hb ho hu (t := v - lcmC b o) (by omega)
  rw [show v - lcmC b o + lcmC b o = v by omega] at this
  exact this
theorem hG_low {u : Nat} (h : u ≤ th) : hG b o th u = 0 := if_pos h
theorem hG_win (hb : validB b = true) (ho : validB o = true) (hu : UpG b o) {u m : Nat} (h : th < u) (hm : max (frG b o th) u - u + (lcmC b o - 1) ≤ m) : hG b o th u = max 0 (minF (rawG b o th) u m) := by
  rw [rawG_win hb ho hu hm]
  exact if_neg (by omega)
theorem hG_nonneg (u : Nat) : 0 ≤ hG b o th u := by
  unfold hG
  split <;> omega
theorem hG_le {u : Nat} (h : th < u) : hG b o th u ≤ max 0 (rawG b o th u) := by
  have e : hG b o th u = max 0 (minF (rawG b o th) u (max (frG b o th) u - u + (lcmC b o - 1))) := if_neg (by omega)
  have := minF_le (f := rawG b o th) (s := u) (u := u) (d := max (frG b o th) u - u + (lcmC b o - 1)) (Nat.le_refl _) (by omega)
  rw [e]; omega
theorem hG_high {u : Nat} (h : frG b o th ≤ u) : hG b o th u = max 0 (minF (rawG b o th) u (lcmC b o - 1)) := by
  have h1 : ¬ u ≤ th := by unfold frG at h; omega
  unfold hG
  rw [if_neg h1, show max (frG b o th) u - u + (lcmC b o - 1) = lcmC b o - 1 by omega]
theorem hG_mono (hb : validB b = true) (ho : validB o = true) (hu : UpG b o) (t : Nat) : hG b o th t ≤ hG b o th (t + 1) := by
  by_cases h : t ≤ th
  · rw [hG_low h]; exact hG_nonneg _
  · have e1 : hG b o th t = max 0 (minF (rawG b o th) t (max (frG b o th) t - t + (lcmC b o - 1))) := if_neg h
    have e2 : hG b o th (t + 1) = max 0 (minF (rawG b o th) (t + 1) (max (frG b o th) (t + 1) - (t + 1) + (lcmC b o - 1))) := if_neg (by omega)
    have hl := lcm_pos hb ho
    have : minF (rawG b o th) t (max (frG b o th) t - t + (lcmC b o - 1)) ≤ minF (rawG b o th) (t + 1) (max (frG b o th) (t + 1) - (t + 1) + (lcmC b o - 1)) := minF_ge (fun u h1 h2 => by
      by_cases h3 : u ≤ t + (max (frG b o th) t - t + (lcmC b o - 1))
      · exact minF_le (by omega) h3
      · have h4 := rawG_up (th := th) hb ho hu (t := u - lcmC b o) (by omega)
        rw [show u - lcmC b o + lcmC b o = u by omega] at h4
        have h5 := minF_le (f := rawG b o th) (s := t) (u := u - lcmC b o) (d := max (frG b o th) t - t + (lcmC b o - 1)) (by omega) (by omega)
        omega)
    omega
theorem raw_late (hb : validB b = true) (ho : validB o = true) (fb : finB b = true) (fo : finB o = true) (hd : 0 ≤ driftG b o) {S : Nat} (hS : frG b o th ≤ S) (h : 0 ≤ minF (rawG b o th) S (lcmC b o - 1)) (u : Nat) : S ≤ u → 0 ≤ rawG b o th u := by
  have hl := lcm_pos hb ho
  induction u using Nat.strongRecOn with
  | _ u ih =>
    intro hu
    by_cases h1 : u < S + lcmC b o
    · have := minF_le (f := rawG b o th) (s := S) (u := u) (d := lcmC b o - 1) hu (by omega)
      omega
    · have h2 := ih (u - lcmC b o) (by omega) (by omega)
      have h3 := rawG_shift (th := th) hb ho fb fo (t := u - lcmC b o) (by omega)
      rw [show u - lcmC b o + lcmC b o = u by omega] at h3
      omega
theorem hG_grows (hb : validB b = true) (ho : validB o = true) (fb : finB b = true) (fo : finB o = true) (hd : 0 ≤ driftG b o) {S : Nat} (hS : frG b o th ≤ S) (h : ∀ u, S ≤ u → 0 ≤ rawG b o th u) : Grows (hG b o th) S (lcmC b o) (driftG b o) := fun t ht => by
  have e := minF_shift (f := rawG b o th) (s := t) (L := lcmC b o) (d := lcmC b o - 1) (D := driftG b o) (fun u h1 h2 => rawG_shift hb ho fb fo (by omega))
  have h0 : 0 ≤ minF (rawG b o th) t (lcmC b o - 1) := minF_ge (fun u h1 h2 => h u (by omega))
  rw [hG_high (show frG b o th ≤ t by omega), hG_high (show frG b o th ≤ t + lcmC b o by omega), e]
  omega
theorem min_const (hb : validB b = true) (ho : validB o = true) (fb : finB b = true) (fo : finB o = true) (hd : driftG b o = 0) {t : Nat} (ht : frG b o th ≤ t) : minF (rawG b o th) t (lcmC b o - 1) = minF (rawG b o th) (frG b o th) (lcmC b o - 1) := by
  have hl := lcm_pos hb ho
  have key : ∀ k : Nat, minF (rawG b o th) (frG b o th + k) (lcmC b o - 1) = minF (rawG b o th) (frG b o th) (lcmC b o - 1) := by
    intro k
    induction k with
    | zero => rfl
    | succ k ih =>
      rw [← ih]
      have h0 := rawG_shift (th := th) hb ho fb fo (t := frG b o th + k) (by omega)
      rw [hd, Int.add_zero] at h0
      refine Int.le_antisymm (minF_ge (fun u h1 h2 => ?_)) (minF_ge (fun u h1 h2 => ?_))
      · by_cases e : u = frG b o th + k
        · rw [e, ← h0]; exact minF_le (by omega) (by omega)
        · exact minF_le (by omega) (by omega)
      · by_cases e : u = frG b o th + k + lcmC b o
        · rw [e, h0]; exact minF_le (by omega) (by omega)
        · exact minF_le (by omega) (by omega)
  have := key (t - frG b o th)
  rwa [show frG b o th + (t - frG b o th) = t by omega] at this
theorem hG_flat (hb : validB b = true) (ho : validB o = true) (fb : finB b = true) (fo : finB o = true) (hd : driftG b o = 0) {S P : Nat} (hS : frG b o th ≤ S) : Grows (hG b o th) S P 0 := fun t ht => by
  rw [hG_high (show frG b o th ≤ t by omega), hG_high (show frG b o th ≤ t + P by omega), min_const hb ho fb fo hd (show frG b o th ≤ t by omega), min_const hb ho fb fo hd (show frG b o th ≤ t + P by omega)]
  omega
theorem hG_bound (hb : validB b = true) (ho : validB o = true) (fb : finB b = true) (t : Nat) : hG b o th t ≤ 1073741824 * ((t : Int) + 2) := by
  by_cases h : t ≤ th
  · rw [hG_low h]; omega
  · have h1 := hG_le (b := b) (o := o) (show th < t by omega)
    have h2 : rawG b o th t ≤ 1073741824 * ((t : Int) + 2) := by
      rcases valid_cases hb with ⟨S1, P1, _, l1, p1, fc1, _⟩ | ⟨_, _, _, _, _, _, _, f⟩
      · have a1 := fc1.bound t
        have a2 := (cvF_bound ho (t - th)).1
        unfold rawG
        split
        · omega
        · rw [if_neg (isInf_fin fb _)]; omega
      · rw [fb] at f; cases f
    omega
theorem frG_facts (hb : validB b = true) (ho : validB o = true) : th + 1 ≤ frG b o th ∧ frG b o th ≤ th + 400 ∧ stN b ≤ frG b o th := by
  have h1 := stN_lt hb
  have h2 := stN_lt ho
  unfold frG; omega
theorem rawG_top (hb : validB b = true) (ho : validB o = true) {t : Nat} (ht : t ≤ 4000000) : -5000000000000000 ≤ rawG b o th t ∧ (rawG b o th t = INF ∨ rawG b o th t ≤ 5000000000000000) := by
  unfold rawG
  split
  · omega
  · rename_i h1
    have a1 := fin_part ho h1 (show t - th ≤ 1000000000 by omega)
    split
    · unfold INF; omega
    · rename_i h2
      have a2 := fin_part hb h2 (show t ≤ 1000000000 by omega)
      unfold INF; omega
theorem hG_top (hb : validB b = true) (ho : validB o = true) {t : Nat} (ht : t ≤ 100000) : hG b o th t = INF ∨ (0 ≤ hG b o th t ∧ hG b o th t ≤ 1000000000000000) := by
  by_cases h : t ≤ th
  · rw [hG_low h]; right; omega
  · have e : hG b o th t = max 0 (minF (rawG b o th) t (max (frG b o th) t - t + (lcmC b o - 1))) := if_neg h
    by_cases hi : isInf b t
    · obtain ⟨u, h1, h2, h3⟩ := minF_at (f := rawG b o th) (s := t) (d := max (frG b o th) t - t + (lcmC b o - 1))
      have h4 : rawG b o th u = 0 ∨ rawG b o th u = INF := by
        unfold rawG
        by_cases h5 : isInf o (u - th)
        · rw [if_pos h5]; exact .inl rfl
        · rw [if_neg h5, if_pos (isInf_mono hb h1 hi)]; exact .inr rfl
      rw [e, h3]
      rcases h4 with h4 | h4
      · rw [h4]; right; decide
      · rw [h4]; left; decide
    · right
      have h1 := hG_le (b := b) (o := o) (show th < t by omega)
      have h2 : rawG b o th t ≤ 1073741824 * ((t : Int) + 2) := by
        unfold rawG
        split
        · omega
        · have a1 := fin_part hb hi (show t ≤ 1000000000 by omega)
          have a2 := (cvF_bound ho (t - th)).1
          first | omega | (rw [if_neg hi]; omega)
      exact ⟨hG_nonneg t, by omega⟩
/-! ### what Rest makes -/
def flatB (b o : Cv) (th : Nat) : Prop := finB o = false ∨ (finB b = true ∧ (driftG b o < 0 ∨ (driftG b o = 0 ∧ minF (rawG b o th) (frG b o th) (lcmC b o - 1) ≤ 0)))
instance (b o : Cv) (th : Nat) : Decidable (flatB b o th) := by unfold flatB; infer_instance
def shareN (b o : Cv) (th : Nat) : Cv × Int :=
  if 120 < lcmC b o then (zcv, 3)
  else if flatB b o th then (zeroC, 0)
  else if 400 ≤ th then (zcv, 3)
  else if finB b = true ∧ 0 < driftG b o then
    (if minF (rawG b o th) (max (frG b o th) 400) (lcmC b o - 1) < 0 then (zcv, 3) else mbuild (hG b o th) (max (frG b o th) 400) (lcmC b o) (driftG b o))
  else mbuild (hG b o th) (frG b o th) 1 0
theorem not_flat (h : ¬ flatB b o th) : UpG b o := by
  unfold flatB at h
  constructor
  · cases fo : finB o with
    | true => rfl
    | false => exact absurd (.inl fo) h
  · intro fb
    apply Classical.byContradiction
    intro hh
    exact h (.inr ⟨fb, .inl (by omega)⟩)
theorem share_rep1 (hb : validB b = true) (ho : validB o = true) (fb : finB b = true) (fo : finB o = true) (hd : 0 ≤ driftG b o) {S : Nat} (hS : frG b o th ≤ S) (hS2 : S ≤ 100000) (hl : lcmC b o ≤ 10000) (h : ∀ u, S ≤ u → 0 ≤ rawG b o th u) : RepF (hG b o th) S (lcmC b o) (driftG b o) :=
  ⟨lcm_pos hb ho, hd, hG_grows hb ho fb fo hd hS h, hG_mono hb ho ⟨fo, fun _ => hd⟩, hG_nonneg 0, fun t ht => by
    have := hG_bound (th := th) hb ho fb t
    unfold INF; omega⟩
theorem share_rep0 (hb : validB b = true) (ho : validB o = true) (fb : finB b = true) (fo : finB o = true) (hd : driftG b o = 0) {S P : Nat} (hS : frG b o th ≤ S) (hS2 : S ≤ 100000) (hP : 0 < P ∧ P ≤ 10000) : RepF (hG b o th) S P 0 :=
  ⟨hP.1, Int.le_refl _, hG_flat hb ho fb fo hd hS, hG_mono hb ho ⟨fo, fun _ => by omega⟩, hG_nonneg 0, fun t ht => by
    have := hG_bound (th := th) hb ho fb t
    unfold INF; omega⟩
theorem share_repI (hb : validB b = true) (ho : validB o = true) (fb : finB b = false) (fo : finB o = true) {m : Nat} (hm : frG b o th < m) : ∃ n, n ≤ frG b o th ∧ RepI (hG b o th) n m := by
  have hu : UpG b o := ⟨fo, fun h => by rw [fb] at h; cases h⟩
  obtain ⟨n, h1, h2, h3⟩ := inf_at hb fb
  have hf := frG_facts (th := th) hb ho
  refine ⟨max n (th + 1), by omega, by omega, fun t ht => ?_, fun t ht => ⟨hG_nonneg t, ?_⟩, hG_mono hb ho hu⟩
  · have e : hG b o th t = max 0 (minF (rawG b o th) t (max (frG b o th) t - t + (lcmC b o - 1))) := if_neg (by omega)
    have h4 : INF ≤ minF (rawG b o th) t (max (frG b o th) t - t + (lcmC b o - 1)) := minF_ge (fun u u1 u2 => by
      unfold rawG
      rw [if_neg (isInf_fin fo _), if_pos ((h2 u).2 (by omega))]
      exact Int.le_refl _)
    have h5 := minF_le (f := rawG b o th) (s := t) (u := t) (d := max (frG b o th) t - t + (lcmC b o - 1)) (Nat.le_refl _) (by omega)
    have h6 : rawG b o th t = INF := by
      unfold rawG
      rw [if_neg (isInf_fin fo _), if_pos ((h2 t).2 (by omega))]
    rw [e]
    unfold INF at *; omega
  · by_cases h : t ≤ th
    · rw [hG_low h]; unfold INF; omega
    · have a1 := hG_le (b := b) (o := o) (show th < t by omega)
      have a2 := h3.hb t (by omega)
      have a3 := (cvF_bound ho (t - th)).1
      have a4 : rawG b o th t = cvF b t - cvF o (t - th) := by
        unfold rawG
        rw [if_neg (isInf_fin fo _), if_neg (fun hh => by have := (h2 t).1 hh; omega)]
      rw [a4] at a1
      unfold INF; omega
/-- what it makes is the share -/
theorem share_res (hb : validB b = true) (ho : validB o = true) : shareN b o th = (zcv, 3) ∨ ∃ c, shareN b o th = (c, 0) ∧ Nrm c ∧ (cvF c = hG b o th ∨ (cvF c = fun _ => 0)) ∧ (finB b = true → finB c = true) := by
  have hl := lcm_pos hb ho
  have hf := frG_facts (th := th) hb ho
  unfold shareN
  by_cases h1 : 120 < lcmC b o
  · rw [if_pos h1]; exact .inl rfl
  rw [if_neg h1]
  by_cases h2 : flatB b o th
  · rw [if_pos h2]
    exact .inr ⟨zeroC, rfl, zero_nrm, .inr (funext fun t => by
      have := fc_line (c := 0) (by decide)
      have e : cvF ⟨fvals (fun t : Nat => (0 : Int) * t) (0 + 1), 1, 0⟩ = fun t : Nat => (0 : Int) * t := cvF_fc this
      have e0 : fvals (fun t : Nat => (0 : Int) * (t : Int)) (0 + 1) = [0] := by simp [fvals]
      rw [e0] at e
      have := congrFun e t
      simp only [Int.zero_mul] at this
      exact this), fun _ => by kernel_rfl⟩
  rw [if_neg h2]
  have hu := not_flat h2
  by_cases h3 : 400 ≤ th
  · rw [if_pos h3]; exact .inl rfl
  rw [if_neg h3]
  by_cases h4 : finB b = true ∧ 0 < driftG b o
  · rw [if_pos h4]
    by_cases h5 : minF (rawG b o th) (max (frG b o th) 400) (lcmC b o - 1) < 0
    · rw [if_pos h5]; exact .inl rfl
    · rw [if_neg h5]
      rcases (share_rep1 hb ho h4.1 hu.1 (by omega) (Nat.le_max_left (frG b o th) 400) (by omega) (by omega) (raw_late hb ho h4.1 hu.1 (by omega) (Nat.le_max_left _ _) (by omega))).res with h | ⟨c, e1, e2, e3, e4⟩
      · exact .inl h
      · exact .inr ⟨c, e1, e2, .inl e3, fun _ => e4⟩
  · rw [if_neg h4]
    cases fb : finB b with
    | true =>
      have hd : driftG b o = 0 := by
        have := hu.2 fb
        apply Classical.byContradiction
        intro hh; exact h4 ⟨fb, by omega⟩
      rcases (share_rep0 (P := 1) hb ho fb hu.1 hd (Nat.le_refl (frG b o th)) (by omega) ⟨by decide, by decide⟩).res with h | ⟨c, e1, e2, e3, e4⟩
      · exact .inl h
      · exact .inr ⟨c, e1, e2, .inl e3, fun _ => e4⟩
    | false =>
      obtain ⟨n, hn, hr⟩ := share_repI (th := th) (m := frG b o th + 1) hb ho fb hu.1 (by omega)
      rcases hr.res (I := 0) with h | ⟨c, e1, e2, e3, e4⟩
      · exact .inl h
      · exact .inr ⟨c, e1, e2, .inl e3, fun h => by cases h⟩
/-! ### what the reference makes -/
def leftG (b o : Cv) (th u : Nat) : Int := if u ≤ th then 0 else max 0 (rawG b o th u)
def bothB (b o : Cv) : Prop := finB b = true ∧ finB o = true
instance (b o : Cv) : Decidable (bothB b o) := by unfold bothB; infer_instance
def flatQ (b o : Cv) (th : Nat) : Prop := (bothB b o ∧ driftG b o < 0) ∨ finB o = false ∨ (bothB b o ∧ driftG b o = 0 ∧ minF (leftG b o th) (th + 400) (lcmC b o - 1) = 0)
instance (b o : Cv) (th : Nat) : Decidable (flatQ b o th) := by unfold flatQ; infer_instance
def incQ (b o : Cv) : Int := if bothB b o then driftG b o else 0
def shareQ (b o : Cv) (th : Nat) : Cv × Int :=
  if 120 < lcmC b o then (zcv, 3)
  else if flatQ b o th then (zeroC, 0)
  else if 400 ≤ th then (zcv, 3)
  else if bothB b o ∧ 0 < driftG b o ∧ minF (rawG b o th) (th + 400) (lcmC b o - 1) < 0 then (zcv, 3)
  else madeR ⟨fvals (hG b o th) (th + 400 + lcmC b o), lcmC b o, incQ b o⟩
/-- the reference's list may be made normal -/
theorem share_madeOk (hb : validB b = true) (ho : validB o = true) (h2 : ¬ flatB b o th) (h3 : th < 400) (hl : lcmC b o ≤ 120) (hneg : ¬ (bothB b o ∧ 0 < driftG b o ∧ minF (rawG b o th) (th + 400) (lcmC b o - 1) < 0)) : MadeOk (fvals (hG b o th) (th + 400 + lcmC b o)) (lcmC b o) (incQ b o) := by
  have hlp := lcm_pos hb ho
  have hf := frG_facts (th := th) hb ho
  have hu := not_flat h2
  cases fb : finB b with
  | true =>
    have hd := hu.2 fb
    have hi : incQ b o = driftG b o := if_pos ⟨fb, hu.1⟩
    have hgn : gainC b (lcmC b o) ≤ 120 * 1073741824 := by
      obtain ⟨_, _, _, p1, p2, p3, p4, p5⟩ := valid_range hb
      unfold gainC
      have hd0 : 0 ≤ (lcmC b o : Int) / b.per := Int.ediv_nonneg (by omega) (by omega)
      have hd1 : (lcmC b o : Int) / b.per ≤ lcmC b o := Int.ediv_le_self _ (by omega)
      exact (mulB (a := (lcmC b o : Int) / b.per) (b := b.inc) (A := 120) (B := 1073741824) (by omega) (by omega)).2
    have hgo : 0 ≤ gainC o (lcmC b o) := by
      obtain ⟨_, _, _, p1, p2, p3, p4, p5⟩ := valid_range ho
      unfold gainC
      exact Int.mul_nonneg (Int.ediv_nonneg (by omega) (by omega)) (by omega)
    have hg : Grows (hG b o th) (th + 400) (lcmC b o) (incQ b o) := by
      rw [hi]
      by_cases h0 : driftG b o = 0
      · rw [h0]; exact hG_flat hb ho fb hu.1 h0 (by omega)
      · exact hG_grows hb ho fb hu.1 hd (by omega) (raw_late (S := th + 400) hb ho fb hu.1 hd (by omega) (by
          apply Classical.byContradiction
          intro hh
          exact hneg ⟨⟨fb, hu.1⟩, by omega, by omega⟩))
    refine madeOk_fin ⟨hlp, by omega⟩ (by omega) (by rw [hi]; unfold driftG at *; omega) hg (fun t ht => ⟨hG_nonneg t, ?_⟩)
    have := hG_bound (th := th) hb ho fb t
    omega
  | false =>
    have hi : incQ b o = 0 := if_neg (fun h => by have := h.1; rw [fb] at this; cases this)
    rw [hi]
    obtain ⟨n, hn, hr⟩ := share_repI (th := th) (m := th + 400 + lcmC b o) hb ho fb hu.1 (by omega)
    refine madeOk_inf (n := n) hr.hn (by omega) (by omega) (by decide) (hr.hi n (Nat.le_refl _)) hr.hf (fun t ht => ⟨hG_nonneg t, ?_⟩)
    rcases hG_top (th := th) hb ho (show t ≤ 100000 by omega) with h | h
    · rw [h]; exact Int.le_refl _
    · unfold INF; omega
/-- what the reference finds from a place on -/
theorem left_hG (hb : validB b = true) (ho : validB o = true) (hu : UpG b o) (h3 : th < 400) (hl : lcmC b o ≤ 120) {u : Nat} (h : u < th + 400 + lcmC b o) : leastG (leftG b o th) u (th + 400 + 2 * lcmC b o - u) = hG b o th u := by
  have hlp := lcm_pos hb ho
  have hf := frG_facts (th := th) hb ho
  obtain ⟨m, hm⟩ : ∃ m, th + 400 + 2 * lcmC b o - u = m + 1 := ⟨th + 400 + 2 * lcmC b o - u - 1, by omega⟩
  have h0 : ∀ v, 0 ≤ leftG b o th v := fun v => by unfold leftG; split <;> omega
  have hle : leftG b o th u ≤ INF := by
    unfold leftG
    have := rawG_top (th := th) hb ho (t := u) (by omega)
    unfold INF at *
    split <;> omega
  rw [hm, leastG_cap hle]
  by_cases h1 : u ≤ th
  · rw [hG_low h1]
    have a1 := minF_le (f := leftG b o th) (s := u) (u := u) (d := m) (Nat.le_refl _) (by omega)
    have a2 : leftG b o th u = 0 := if_pos h1
    have a3 : 0 ≤ minF (leftG b o th) u m := minF_ge (fun v _ _ => h0 v)
    omega
  · rw [minF_max (g := leftG b o th) (f := rawG b o th) (fun v h1 h2 => if_neg (by omega)), ← hG_win hb ho hu (by omega) (by omega)]
theorem flat_same (hb : validB b = true) (ho : validB o = true) : flatB b o th ↔ flatQ b o th := by
  have hf := frG_facts (th := th) hb ho
  unfold flatB flatQ bothB
  cases fo : finB o with
  | false => simp
  | true =>
    cases fb : finB b with
    | false => simp
    | true =>
      have e : minF (leftG b o th) (th + 400) (lcmC b o - 1) = max 0 (minF (rawG b o th) (th + 400) (lcmC b o - 1)) := minF_max (fun u h1 h2 => if_neg (by omega))
      rw [e]
      constructor
      · rintro (h | ⟨_, h | ⟨h, h2⟩⟩)
        · cases h
        · exact .inl ⟨⟨rfl, rfl⟩, h⟩
        · rw [← min_const hb ho fb fo h (show frG b o th ≤ th + 400 by omega)] at h2
          exact .inr (.inr ⟨⟨rfl, rfl⟩, h, by omega⟩)
      · rintro (⟨_, h⟩ | h | ⟨_, h, h2⟩)
        · exact .inr ⟨rfl, .inl h⟩
        · cases h
        · rw [← min_const hb ho fb fo h (show frG b o th ≤ th + 400 by omega)]
          exact .inr ⟨rfl, .inr ⟨h, by omega⟩⟩
theorem share_ref (hb : validB b = true) (ho : validB o = true) : shareN b o th = shareQ b o th := by
  have hl := lcm_pos hb ho
  have hf := frG_facts (th := th) hb ho
  unfold shareN shareQ
  by_cases h1 : 120 < lcmC b o
  · rw [if_pos h1, if_pos h1]
  rw [if_neg h1, if_neg h1]
  by_cases h2 : flatB b o th
  · rw [if_pos h2, if_pos ((flat_same hb ho).1 h2)]
  rw [if_neg h2, if_neg (fun h => h2 ((flat_same hb ho).2 h))]
  have hu := not_flat h2
  by_cases h3 : 400 ≤ th
  · rw [if_pos h3, if_pos h3]
  rw [if_neg h3, if_neg h3]
  by_cases h4 : finB b = true ∧ 0 < driftG b o
  · have hbo : bothB b o := ⟨h4.1, hu.1⟩
    have hi : incQ b o = driftG b o := if_pos hbo
    rw [if_pos h4, hi]
    by_cases h6 : minF (rawG b o th) (th + 400) (lcmC b o - 1) < 0
    · rw [if_pos (show bothB b o ∧ 0 < driftG b o ∧ _ from ⟨hbo, h4.2, h6⟩), if_pos]
      apply Classical.byContradiction
      intro hh
      have h7 := raw_late (th := th) hb ho h4.1 hu.1 (by omega) (Nat.le_max_left _ 400) (by omega)
      have h8 : 0 ≤ minF (rawG b o th) (th + 400) (lcmC b o - 1) := minF_ge (fun u u1 u2 => h7 u (by omega))
      omega
    · rw [if_neg (show ¬ (bothB b o ∧ 0 < driftG b o ∧ minF (rawG b o th) (th + 400) (lcmC b o - 1) < 0) from fun h => h6 h.2.2)]
      have h7 := raw_late (th := th) hb ho h4.1 hu.1 (by omega) (show frG b o th ≤ th + 400 by omega) (by omega)
      have r2 := share_rep1 hb ho h4.1 hu.1 (by omega) (show frG b o th ≤ th + 400 by omega) (by omega) (by omega) h7
      by_cases h5 : minF (rawG b o th) (max (frG b o th) 400) (lcmC b o - 1) < 0
      · rw [if_pos h5, ← build_made_fin r2.hP r2.hI r2.hg r2.hP r2.hI r2.hg r2.hm r2.h0 r2.hf r2.hf]
        rcases r2.res with h | ⟨c, e1, e2, e3, e4⟩
        · exact h.symm
        · exfalso
          rcases valid_cases e2.valid with ⟨S, P, _, l1, p1, fc, _⟩ | ⟨_, _, _, _, _, _, _, f⟩
          · have hP := fc.hP
            have hn := fc.hn
            rw [e3] at fc
            have hg := grows_back (by omega) fc.hg r2.hg
            have g := hg (max (frG b o th) 400) (by omega)
            have m := minF_shift (f := rawG b o th) (s := max (frG b o th) 400) (L := lcmC b o) (d := lcmC b o - 1) (D := driftG b o) (fun u u1 u2 => rawG_shift hb ho h4.1 hu.1 (by omega))
            rw [hG_high (Nat.le_max_left _ _), hG_high (show frG b o th ≤ max (frG b o th) 400 + lcmC b o by omega), m] at g
            omega
          · rw [e4] at f; cases f
      · rw [if_neg h5]
        have r1 := share_rep1 hb ho h4.1 hu.1 (by omega) (Nat.le_max_left (frG b o th) 400) (by omega) (by omega) (raw_late hb ho h4.1 hu.1 (by omega) (Nat.le_max_left _ _) (by omega))
        exact build_made_fin r1.hP r1.hI r1.hg r2.hP r2.hI r2.hg r1.hm r1.h0 r1.hf r2.hf
  · rw [if_neg h4, if_neg (fun h => h4 ⟨h.1.1, h.2.1⟩)]
    cases fb : finB b with
    | true =>
      have hd : driftG b o = 0 := by
        have := hu.2 fb
        apply Classical.byContradiction
        intro hh; exact h4 ⟨fb, by omega⟩
      have hi : incQ b o = 0 := by unfold incQ; rw [if_pos ⟨fb, hu.1⟩]; exact hd
      have r1 := share_rep0 (P := 1) hb ho fb hu.1 hd (Nat.le_refl (frG b o th)) (by omega) ⟨by decide, by decide⟩
      have r2 := share_rep0 (P := lcmC b o) hb ho fb hu.1 hd (show frG b o th ≤ th + 400 by omega) (by omega) ⟨hl, by omega⟩
      rw [hi]
      exact build_made_fin r1.hP r1.hI r1.hg r2.hP r2.hI r2.hg r1.hm r1.h0 r1.hf r2.hf
    | false =>
      obtain ⟨n, hn, hr⟩ := share_repI (th := th) (m := frG b o th + 1) hb ho fb hu.1 (by omega)
      exact build_made_inf (n := n) (by omega) (by omega) (hr.hi n (Nat.le_refl _)) hr.hf (fun t _ => hr.hm t)
end
end Go.Proofs.Ytnackbfnmhkodaa.M

/- Rule: the greatest of three. No condition. -/
namespace Go.Proofs.Ytnackbfnmhkodaa.K
open Go Go.RowKit
section
variable {P : Program} {n : Nat} {env : Env} {w0 : World} {R : Ro} {E : List Ent} {o : Oper} {pc p q r : Bool}
theorem Yl.max3 {x y z : Operand} {a b c : Int} {ats : Array TypeId} (ho : o.op = .call { callee := .builtin .max, args := #[x, y, z], argTypes := ats }) (hx : ev env x = some (p, .int .i64 a)) (hy : ev env y = some (q, .int .i64 b)) (hz : ev env z = some (r, .int .i64 c))
    (hpq : pc = true → (p && (q && r)) = true) : Yl P n env w0 R E o pc (.int .i64 (if (if a < b then b else a) < c then c else (if a < b then b else a))) := by
  intro ac w hk hm hp
  obtain ⟨h1, h23⟩ := and_both (hpq hp)
  obtain ⟨h2, h3⟩ := and_both h23
  unfold execOp
  by_cases e1 : a < b
  · by_cases e2 : b < c
    · simp [ho, resolve, invoke, builtin, hk.ev hx h1, hk.ev hy h2, hk.ev hz h3, Builtin.max_, Builtin.max2, e1, e2]
    · simp [ho, resolve, invoke, builtin, hk.ev hx h1, hk.ev hy h2, hk.ev hz h3, Builtin.max_, Builtin.max2, e1, e2]
  · by_cases e2 : a < c
    · simp [ho, resolve, invoke, builtin, hk.ev hx h1, hk.ev hy h2, hk.ev hz h3, Builtin.max_, Builtin.max2, e1, e2]
    · simp [ho, resolve, invoke, builtin, hk.ev hx h1, hk.ev hy h2, hk.ev hz h3, Builtin.max_, Builtin.max2, e1, e2]
end
end Go.Proofs.Ytnackbfnmhkodaa.K

/- Finite curves: values, gains, validity. No condition. -/
set_option maxRecDepth 4000
set_option linter.unusedSimpArgs false
set_option linter.unusedVariables false
namespace Go.Proofs.Ytnackbfnmhkodaa
open Go Go.RowKit Go.Proofs.Ytnackbfnmhkodaa.K Go.Proofs.Ytnackbfnmhkodaa.M

theorem WAt_V {R : Ro} {fa : Option Addr} {fc : Nat} {F : Nat → Int} {S P : Nat} {I : Int} (hf : FC F S P I) (ha : RS R 1 encI fa (fvals F (S + P))) {t : Nat} (ht : t ≤ 1000000000000000000) (hG : F t ≤ 4000000000000000000) : FnV Try.prog 68 [.agg #[.slice fa (fvals F (S + P)).length fc, .int .i64 (P : Int), .int .i64 I], .int .i64 (t : Int)] R (.int .i64 (F t)) := by
 have hfl := fvals_len F (S + P)
 have hP := hf.hP
 have hn := hf.hn
 have hI := hf.hI
 refine Fn.toV (fun w0 E => ?_)
 refine Fn.enter (n := 45) Try.func68 rfl rfl (Nat.le_of_ble_eq_true rfl) rfl ?_
 refine W.seq (W.region _ ?_)
 refine WL.ef rfl rfl qD (Ef.box rfl rfl (fun b2 => ?_))
 refine WG.run tab_ok 1 rfl (WG.nil (WE.nxt (W.seq (W.region _ (WG.run tab_ok 1 rfl ?_)))))
 refine' WG.y rfl rfl qD (Yl.load1 tab_ok rfl rfl rfl (fun _ => rfl) ?r1 rfl ?h1) ?_
 case r1 => apply Rd.add; (exact Rd.blk 0 rfl)
 case h1 => rfl
 refine WG.run tab_ok 2 rfl (WG.nil (WE.nxt (W.seq (W.seq (W.region _ (WG.run tab_ok 3 rfl (WG.nil (WE.nxt ?_))))))))
 refine W.condD rfl (fun hc0 => ?_) (fun hc0 => ?_)
 ·try dsimp only at hc0
  have htl : t < S + P := by omega
  refine W.seq (W.region _ (WG.run tab_ok 1 rfl ?_))
  refine' WG.y rfl rfl qD (Yl.load1 tab_ok rfl rfl rfl (fun _ => rfl) ?r2 rfl ?h2) ?_
  case r2 => apply Rd.add; (exact Rd.blk 0 rfl)
  case h2 => rfl
  refine WG.run tab_ok 1 rfl ?_
  refine WG.y rfl rfl (by decide) (Yl.indexN tab_ok rfl rfl rfl rfl rfl rfl (fun _ => rfl) (by intro _; (try dsimp only) <;> omega) (by intro _; first | exact fun _ _ _ _ => rfl | exact RS.has (by assumption) | exact fun _ _ _ _ => (by assumption) | exact HasMem.ownD 0 rfl | exact HasMem.ownD 1 rfl)) ?_
  refine' WG.y rfl rfl qD (Yl.load1 tab_ok rfl rfl rfl (fun _ => rfl) ?r3 rfl ?h3) ?_
  case r3 => ((apply RS.rdD; assumption; ((try dsimp only) <;> omega)))
  case h3 => rfl
  refine WG.run tab_ok 1 rfl (WG.nil (WE.nxt (W.ret (WE.then_ret ?_))))
  refine WE.subE (E' := E) qS ?_
  refine WE.retF tab_ok [_] rfl ⟨rfl, trivial⟩ (RLe.refl _) ?_
  exact ⟨by rw [fvals_nth F htl]; rfl, rfl⟩
 ·try dsimp only at hc0
  obtain ⟨q, hq⟩ := Int.eq_ofNat_of_zero_le (show 0 ≤ ((t : Int) - ((fvals F (S + P)).length : Int)) / (P : Int) from Int.ediv_nonneg (by omega) (by omega))
  have hq1 : (q : Int) * P ≤ (t : Int) - (S + P : Nat) := by rw [← hfl, ← hq]; exact Int.ediv_mul_le _ (by omega)
  have hq2 : (t : Int) - (S + P : Nat) < P * (q : Int) + P := by rw [← hfl, ← hq]; exact Int.lt_mul_ediv_self_add (by omega)
  rw [Int.mul_comm] at hq2
  have hq3 : (q + 1) * P = q * P + P := by rw [Nat.add_mul]; omega
  have hq4 : ((q * P : Nat) : Int) = (q : Int) * P := by rw [Int.natCast_mul]
  have hq5 : ((q : Int) + 1) * (P : Int) = (((q + 1) * P : Nat) : Int) := by rw [Int.natCast_mul]; rfl
  have hqle : q ≤ t := Nat.le_trans (Nat.le_mul_of_pos_right q (show 0 < P by omega)) (by omega)
  have hgm := hf.hg.mul (q + 1) (t - (q + 1) * P) (by omega)
  rw [show t - (q + 1) * P + (q + 1) * P = t by omega, show ((q + 1 : Nat) : Int) = (q : Int) + 1 from rfl] at hgm
  have hF0 := hf.nonneg (t - (q + 1) * P)
  have hF1 := hf.fin (t := t - (q + 1) * P) (by omega)
  have hqI : 0 ≤ ((q : Int) + 1) * I := Int.mul_nonneg (by omega) (by omega)
  refine W.skip (WE.nxt (W.seq (W.region _ (WG.run tab_ok 2 rfl ?_))))
  refine WG.y rfl rfl (by decide) (Yl.sub rfl rfl rfl (fun _ => rfl) (by intro _; constructor <;> (try dsimp only) <;> omega)) ?_
  refine WG.run tab_ok 1 rfl ?_
  refine' WG.y rfl rfl qD (Yl.load1 tab_ok rfl rfl rfl (fun _ => rfl) ?r4 rfl ?h4) ?_
  case r4 => apply Rd.add; (exact Rd.blk 0 rfl)
  case h4 => rfl
  refine WG.y rfl rfl (by decide) (Yl.quo rfl rfl rfl (fun _ => rfl) (by intro _; constructor <;> (try dsimp only) <;> omega) (by intro _; omega)) ?_
  refine WG.y rfl rfl (by decide) (Yl.add rfl rfl rfl (fun _ => rfl) (by intro _; constructor <;> (try dsimp only) <;> omega)) ?_
  refine WG.run tab_ok 1 rfl (WG.nil (WE.nxt ?_))
  rw [hq]
  refine W.seq (W.region _ (WG.run tab_ok 1 rfl ?_))
  refine' WG.y rfl rfl qD (Yl.load1 tab_ok rfl rfl rfl (fun _ => rfl) ?r5 rfl ?h5) ?_
  case r5 => apply Rd.add; (exact Rd.blk 0 rfl)
  case h5 => rfl
  refine WG.run tab_ok 3 rfl ?_
  refine' WG.y rfl rfl qD (Yl.load1 tab_ok rfl rfl rfl (fun _ => rfl) ?r6 rfl ?h6) ?_
  case r6 => apply Rd.add; (exact Rd.blk 0 rfl)
  case h6 => rfl
  refine WG.y rfl rfl (by decide) (Yl.mul rfl rfl rfl (fun _ => rfl) (by intro _; constructor <;> (try dsimp only) <;> omega)) ?_
  refine WG.y rfl rfl (by decide) (Yl.sub rfl rfl rfl (fun _ => rfl) (by intro _; constructor <;> (try dsimp only) <;> omega)) ?_
  rw [hq5, show (t : Int) - (((q + 1) * P : Nat) : Int) = ((t - (q + 1) * P : Nat) : Int) by omega]
  refine WG.y rfl rfl (by decide) (Yl.indexN tab_ok rfl rfl rfl rfl rfl rfl (fun _ => rfl) (by intro _; (try dsimp only) <;> omega) (by intro _; first | exact fun _ _ _ _ => rfl | exact RS.has (by assumption) | exact fun _ _ _ _ => (by assumption) | exact HasMem.ownD 0 rfl | exact HasMem.ownD 1 rfl)) ?_
  refine' WG.y rfl rfl qD (Yl.load1 tab_ok rfl rfl rfl (fun _ => rfl) ?r7 rfl ?h7) ?_
  case r7 => ((apply RS.rdD; assumption; ((try dsimp only) <;> omega)))
  case h7 => rfl
  refine WG.run tab_ok 1 rfl (WG.nil (WE.nxt (W.seq ?_)))
  rw [fvals_nth F (show t - (q + 1) * P < S + P by omega)]
  refine W.seq (W.region _ (WG.run tab_ok 2 rfl (WG.nil (WE.nxt ?_))))
  refine W.condE rfl (fun hc1 => ?_) (fun hc1 => ?_)
  ·try dsimp only at hc1
   exact absurd hc1 hF1
  ·try dsimp only at hc1
   refine W.skip (WE.nxt (W.seq (W.region _ (WG.run tab_ok 3 rfl ?_))))
   refine' WG.y rfl rfl qD (Yl.load1 tab_ok rfl rfl rfl (fun _ => rfl) ?r8 rfl ?h8) ?_
   case r8 => apply Rd.add; (exact Rd.blk 0 rfl)
   case h8 => rfl
   refine WG.y rfl rfl (by decide) (Yl.mul rfl rfl rfl (fun _ => rfl) (by intro _; constructor <;> (try dsimp only) <;> omega)) ?_
   refine WG.y rfl rfl (by decide) (Yl.add rfl rfl rfl (fun _ => rfl) (by intro _; constructor <;> (try dsimp only) <;> omega)) ?_
   refine WG.run tab_ok 1 rfl (WG.nil (WE.nxt (W.ret ?_)))
   refine WE.subE (E' := E) qS ?_
   refine WE.retF tab_ok [_] rfl ⟨rfl, trivial⟩ (RLe.refl _) ?_
   exact ⟨by rw [hgm]; rfl, rfl⟩

end Go.Proofs.Ytnackbfnmhkodaa

/- Finite curves: normal forms. No condition. -/
set_option maxRecDepth 4000
set_option linter.unusedSimpArgs false
set_option linter.unusedVariables false
namespace Go.Proofs.Ytnackbfnmhkodaa
open Go Go.RowKit Go.Proofs.Ytnackbfnmhkodaa.K Go.Proofs.Ytnackbfnmhkodaa.M

theorem CloneI_C {R : Ro} {fa : Option Addr} {fc : Nat} {xs : List Int} (ha : RS R 1 encI fa xs) (hx : 0 < xs.length) (hl : xs.length ≤ 100000) (w0 : World) (E : List Ent) : K.Fn Try.prog 66 [.slice fa xs.length fc] w0 R E (fun v R' E' => ∃ (a2 : Option Addr) (c2 : Nat), v = .slice a2 xs.length c2 ∧ R = R' ∧ (.sl 3 1 a2 c2 (xs.map encI) :: E).Sublist E') := by
 have hns := ha.some hx
 refine Fn.enter (n := 8) Try.func66 rfl rfl (Nat.le_of_ble_eq_true rfl) rfl ?_
 refine W.seq (W.region _ (WG.run tab_ok 1 rfl (WG.nil (WE.nxt (W.seq (W.seq (W.region _ (WG.run tab_ok 1 rfl ?_))))))))
 refine WG.y rfl rfl qD (Yl.eqNilS Try.underlying22 rfl rfl rfl (fun _ => rfl)) ?_
 refine WG.nil (WE.nxt ?_)
 refine W.cond rfl (fun hc0 => ?_) (fun hc0 => ?_)
 ·try simp only [kk] at hc0
  rw [hns] at hc0; cases hc0
 ·try simp only [kk] at hc0
  refine W.skip (WE.nxt (W.seq (W.region _ ?_)))
  refine WL.ef rfl rfl qD (Ef.buildSliceD (enc := encI) (parts := []) [] tab_ok rfl rfl rfl rfl rfl rfl rfl rfl qD qD (fun a5 => ?_))
  refine WG.run tab_ok 1 rfl ?_
  refine WL.ef rfl rfl (by decide) (Ef.cloneL (enc := encI) 0 tab_ok rfl rfl rfl rfl rfl rfl rfl rfl rfl rfl ha (fun _ _ => rfl) (by dsimp only; omega) (by omega) (fun a7 c7 ha7 => ?_))
  refine WG.run tab_ok 1 rfl (WG.nil (WE.nxt (W.ret ?_)))
  refine WE.retF tab_ok [_] rfl ⟨rfl, trivial⟩ (RLe.refl _) ?_
  exact ⟨_, _, rfl, rfl, qS⟩

end Go.Proofs.Ytnackbfnmhkodaa

/- Any valid curve in the program. No condition. -/
set_option maxRecDepth 4000
set_option linter.unusedSimpArgs false
set_option linter.unusedVariables false
namespace Go.Proofs.Ytnackbfnmhkodaa
open Go Go.RowKit Go.Proofs.Ytnackbfnmhkodaa.K Go.Proofs.Ytnackbfnmhkodaa.M

theorem WAtG_V {R : Ro} {fa : Option Addr} {fc : Nat} {c : Cv} (hv : validB c = true) (ha : RS R 1 encI fa c.vals) {t : Nat} (ht : t ≤ 1000000000) : FnV Try.prog 68 [.agg #[.slice fa c.vals.length fc, .int .i64 c.per, .int .i64 c.inc], .int .i64 (t : Int)] R (.int .i64 (cvF c t)) := by
 refine Fn.toV (fun w0 E => ?_)
 obtain ⟨hr1, hr2, hr3, hr4, hr5, hr6, hr7, hr8⟩ := valid_range hv
 refine Fn.enter (n := 45) Try.func68 rfl rfl (Nat.le_of_ble_eq_true rfl) rfl ?_
 refine W.seq (W.region _ ?_)
 refine WL.ef rfl rfl qD (Ef.box rfl rfl (fun b2 => ?_))
 refine WG.run tab_ok 1 rfl (WG.nil (WE.nxt (W.seq (W.region _ (WG.run tab_ok 1 rfl ?_)))))
 refine' WG.y rfl rfl qD (Yl.load1 tab_ok rfl rfl rfl (fun _ => rfl) ?r1 rfl ?h1) ?_
 case r1 => apply Rd.add; (exact Rd.blk 0 rfl)
 case h1 => rfl
 refine WG.run tab_ok 2 rfl (WG.nil (WE.nxt (W.seq (W.seq (W.region _ (WG.run tab_ok 3 rfl (WG.nil (WE.nxt ?_))))))))
 refine W.condD rfl (fun hc0 => ?_) (fun hc0 => ?_)
 ·try dsimp only at hc0
  have htl : t < c.vals.length := by omega
  refine W.seq (W.region _ (WG.run tab_ok 1 rfl ?_))
  refine' WG.y rfl rfl qD (Yl.load1 tab_ok rfl rfl rfl (fun _ => rfl) ?r2 rfl ?h2) ?_
  case r2 => apply Rd.add; (exact Rd.blk 0 rfl)
  case h2 => rfl
  refine WG.run tab_ok 1 rfl ?_
  refine WG.y rfl rfl (by decide) (Yl.indexN tab_ok rfl rfl rfl rfl rfl rfl (fun _ => rfl) (by intro _; (try dsimp only) <;> omega) (by intro _; first | exact fun _ _ _ _ => rfl | exact RS.has (by assumption) | exact fun _ _ _ _ => (by assumption) | exact HasMem.ownD 0 rfl | exact HasMem.ownD 1 rfl)) ?_
  refine' WG.y rfl rfl qD (Yl.load1 tab_ok rfl rfl rfl (fun _ => rfl) ?r3 rfl ?h3) ?_
  case r3 => ((apply RS.rdD; assumption; ((try dsimp only) <;> omega)))
  case h3 => rfl
  refine WG.run tab_ok 1 rfl (WG.nil (WE.nxt (W.ret (WE.then_ret ?_))))
  refine WE.subE (E' := E) qS ?_
  refine WE.retF tab_ok [_] rfl ⟨rfl, trivial⟩ (RLe.refl _) ?_
  exact ⟨by rw [cvF_low htl]; rfl, rfl⟩
 ·try dsimp only at hc0
  obtain ⟨P, hP⟩ := Int.eq_ofNat_of_zero_le (show 0 ≤ c.per by omega)
  have hPn : 1 ≤ P ∧ P ≤ c.vals.length := by omega
  obtain ⟨j1, j2, j3⟩ := cvJ_at hPn (show c.vals.length ≤ t by omega)
  have hcv := cvF_high hP hPn (show c.vals.length ≤ t by omega)
  generalize hq : (t - c.vals.length) / P = q at j3 hcv
  have hq1 : ((t : Int) - (c.vals.length : Int)) / c.per = (q : Int) := by rw [hP, show (t : Int) - (c.vals.length : Int) = ((t - c.vals.length : Nat) : Int) by omega, ← hq]; rfl
  have hq5 : ((q : Int) + 1) * c.per = (((q + 1) * P : Nat) : Int) := by rw [hP, Int.natCast_mul]; rfl
  have hj : (t : Int) - (((q + 1) * P : Nat) : Int) = (cvJ c.vals.length P t : Int) := by omega
  have hqt : q + 1 ≤ t := Nat.le_trans (Nat.le_mul_of_pos_right (q + 1) (show 0 < P by omega)) (by omega)
  have hve := valid_each hv _ j2
  have hqI := mulB (a := (q : Int) + 1) (b := c.inc) (A := 1000000000) (B := 1073741824) (by omega) (by omega)
  refine W.skip (WE.nxt (W.seq (W.region _ (WG.run tab_ok 2 rfl ?_))))
  refine WG.y rfl rfl (by decide) (Yl.sub rfl rfl rfl (fun _ => rfl) (by intro _; constructor <;> (try dsimp only) <;> omega)) ?_
  refine WG.run tab_ok 1 rfl ?_
  refine' WG.y rfl rfl qD (Yl.load1 tab_ok rfl rfl rfl (fun _ => rfl) ?r4 rfl ?h4) ?_
  case r4 => apply Rd.add; (exact Rd.blk 0 rfl)
  case h4 => rfl
  refine WG.y rfl rfl (by decide) (Yl.quo rfl rfl rfl (fun _ => rfl) (by intro _; constructor <;> (try dsimp only) <;> omega) (by intro _; omega)) ?_
  refine WG.y rfl rfl (by decide) (Yl.add rfl rfl rfl (fun _ => rfl) (by intro _; constructor <;> (try dsimp only) <;> omega)) ?_
  refine WG.run tab_ok 1 rfl (WG.nil (WE.nxt ?_))
  rw [hq1]
  refine W.seq (W.region _ (WG.run tab_ok 1 rfl ?_))
  refine' WG.y rfl rfl qD (Yl.load1 tab_ok rfl rfl rfl (fun _ => rfl) ?r5 rfl ?h5) ?_
  case r5 => apply Rd.add; (exact Rd.blk 0 rfl)
  case h5 => rfl
  refine WG.run tab_ok 3 rfl ?_
  refine' WG.y rfl rfl qD (Yl.load1 tab_ok rfl rfl rfl (fun _ => rfl) ?r6 rfl ?h6) ?_
  case r6 => apply Rd.add; (exact Rd.blk 0 rfl)
  case h6 => rfl
  refine WG.y rfl rfl (by decide) (Yl.mul rfl rfl rfl (fun _ => rfl) (by intro _; constructor <;> (try dsimp only) <;> omega)) ?_
  refine WG.y rfl rfl (by decide) (Yl.sub rfl rfl rfl (fun _ => rfl) (by intro _; constructor <;> (try dsimp only) <;> omega)) ?_
  rw [hq5, hj]
  refine WG.y rfl rfl (by decide) (Yl.indexN tab_ok rfl rfl rfl rfl rfl rfl (fun _ => rfl) (by intro _; (try dsimp only) <;> omega) (by intro _; first | exact fun _ _ _ _ => rfl | exact RS.has (by assumption) | exact fun _ _ _ _ => (by assumption) | exact HasMem.ownD 0 rfl | exact HasMem.ownD 1 rfl)) ?_
  refine' WG.y rfl rfl qD (Yl.load1 tab_ok rfl rfl rfl (fun _ => rfl) ?r7 rfl ?h7) ?_
  case r7 => ((apply RS.rdD; assumption; ((try dsimp only) <;> omega)))
  case h7 => rfl
  refine WG.run tab_ok 1 rfl (WG.nil (WE.nxt (W.seq (W.seq (W.region _ (WG.run tab_ok 2 rfl (WG.nil (WE.nxt ?_))))))))
  refine W.condE rfl (fun hc1 => ?_) (fun hc1 => ?_)
  ·try dsimp only at hc1
   have hcv : cvF c t = 4611686018427387904 := by rw [hcv, if_pos (show _ = INF from hc1)]; rfl
   refine W.seq (W.region _ (WG.run tab_ok 2 rfl (WG.nil (WE.nxt (W.ret (WE.then_ret ?_))))))
   refine WE.subE (E' := E) qS ?_
   refine WE.retF tab_ok [_] rfl ⟨rfl, trivial⟩ (RLe.refl _) ?_
   exact ⟨by rw [hcv, hc1]; rfl, rfl⟩
  ·try dsimp only at hc1
   have hvm := hve.resolve_left hc1
   unfold MAXV at hvm
   rw [if_neg (show ¬ _ = INF from hc1), show ((q + 1 : Nat) : Int) = (q : Int) + 1 from rfl] at hcv
   refine W.skip (WE.nxt (W.seq (W.region _ (WG.run tab_ok 3 rfl ?_))))
   refine' WG.y rfl rfl qD (Yl.load1 tab_ok rfl rfl rfl (fun _ => rfl) ?r8 rfl ?h8) ?_
   case r8 => apply Rd.add; (exact Rd.blk 0 rfl)
   case h8 => rfl
   refine WG.y rfl rfl (by decide) (Yl.mul rfl rfl rfl (fun _ => rfl) (by intro _; constructor <;> (try dsimp only) <;> omega)) ?_
   refine WG.y rfl rfl (by decide) (Yl.add rfl rfl rfl (fun _ => rfl) (by intro _; constructor <;> (try dsimp only) <;> omega)) ?_
   refine WG.run tab_ok 1 rfl (WG.nil (WE.nxt (W.ret ?_)))
   refine WE.subE (E' := E) qS ?_
   refine WE.retF tab_ok [_] rfl ⟨rfl, trivial⟩ (RLe.refl _) ?_
   exact ⟨by rw [hcv]; rfl, rfl⟩

theorem WFiniteG_V {R : Ro} {fa : Option Addr} {fc : Nat} {c : Cv} (hv : validB c = true) (ha : RS R 1 encI fa c.vals) : FnV Try.prog 37 [.agg #[.slice fa c.vals.length fc, .int .i64 c.per, .int .i64 c.inc]] R (.bool (finB c)) := by
 refine Fn.toV (fun w0 E => ?_)
 obtain ⟨hr1, hr2, hr3, hr4, hr5, hr6, hr7, hr8⟩ := valid_range hv
 have hl : ((c.vals.length : Int) - 1).toNat = c.vals.length - 1 := by omega
 refine Fn.enter (n := 12) Try.func37 rfl rfl (Nat.le_of_ble_eq_true rfl) rfl ?_
 refine W.seq (W.region _ ?_)
 refine WL.ef rfl rfl qD (Ef.box rfl rfl (fun b1 => ?_))
 refine WG.run tab_ok 1 rfl (WG.nil (WE.nxt (W.seq (W.region _ (WG.run tab_ok 1 rfl ?_)))))
 refine' WG.y rfl rfl qD (Yl.load1 tab_ok rfl rfl rfl (fun _ => rfl) ?r1 rfl ?h1) ?_
 case r1 => apply Rd.add; (exact Rd.blk 0 rfl)
 case h1 => rfl
 refine WG.run tab_ok 1 rfl ?_
 refine' WG.y rfl rfl qD (Yl.load1 tab_ok rfl rfl rfl (fun _ => rfl) ?r2 rfl ?h2) ?_
 case r2 => apply Rd.add; (exact Rd.blk 0 rfl)
 case h2 => rfl
 refine WG.run tab_ok 1 rfl ?_
 refine WG.y rfl rfl (by decide) (Yl.sub rfl rfl rfl (fun _ => rfl) (by intro _; constructor <;> (try dsimp only) <;> omega)) ?_
 refine WG.y rfl rfl (by decide) (Yl.index tab_ok rfl rfl rfl rfl rfl rfl (fun _ => rfl) (by intro _; constructor <;> (try dsimp only) <;> omega) (by intro _; first | exact fun _ _ _ _ => rfl | exact RS.has (by assumption) | exact fun _ _ _ _ => (by assumption) | exact HasMem.ownD 0 rfl | exact HasMem.ownD 1 rfl)) ?_
 refine' WG.y rfl rfl qD (Yl.load1 tab_ok rfl rfl rfl (fun _ => rfl) ?r3 rfl ?h3) ?_
 case r3 => ((apply RS.rdD; assumption; ((try dsimp only) <;> omega)))
 case h3 => rfl
 refine WG.run tab_ok 2 rfl (WG.nil (WE.nxt (W.ret ?_)))
 refine WE.subE (E' := E) qS ?_
 refine WE.retF tab_ok [_] rfl ⟨rfl, trivial⟩ (RLe.refl _) ?_
 exact ⟨by rw [hl]; rfl, rfl⟩

theorem WStartG_V {R : Ro} {fa : Option Addr} {fc : Nat} {c : Cv} (hv : validB c = true) (ha : RS R 1 encI fa c.vals) : FnV Try.prog 35 [.agg #[.slice fa c.vals.length fc, .int .i64 c.per, .int .i64 c.inc]] R (.int .i64 (stN c : Int)) := by
 refine Fn.toV (fun w0 E => ?_)
 obtain ⟨hr1, hr2, hr3, hr4, hr5, hr6, hr7, hr8⟩ := valid_range hv
 have hl : (c.vals.length : Int) - c.per = (stN c : Int) := by unfold stN; omega
 refine Fn.enter (n := 9) Try.func35 rfl rfl (Nat.le_of_ble_eq_true rfl) rfl ?_
 refine W.seq (W.region _ ?_)
 refine WL.ef rfl rfl qD (Ef.box rfl rfl (fun b1 => ?_))
 refine WG.run tab_ok 1 rfl (WG.nil (WE.nxt (W.seq (W.region _ (WG.run tab_ok 1 rfl ?_)))))
 refine' WG.y rfl rfl qD (Yl.load1 tab_ok rfl rfl rfl (fun _ => rfl) ?r1 rfl ?h1) ?_
 case r1 => apply Rd.add; (exact Rd.blk 0 rfl)
 case h1 => rfl
 refine WG.run tab_ok 2 rfl ?_
 refine' WG.y rfl rfl qD (Yl.load1 tab_ok rfl rfl rfl (fun _ => rfl) ?r2 rfl ?h2) ?_
 case r2 => apply Rd.add; (exact Rd.blk 0 rfl)
 case h2 => rfl
 refine WG.y rfl rfl (by decide) (Yl.sub rfl rfl rfl (fun _ => rfl) (by intro _; constructor <;> (try dsimp only) <;> omega)) ?_
 refine WG.run tab_ok 1 rfl (WG.nil (WE.nxt (W.ret ?_)))
 refine WE.subE (E' := E) qS ?_
 refine WE.retF tab_ok [_] rfl ⟨rfl, trivial⟩ (RLe.refl _) ?_
 exact ⟨by rw [hl]; rfl, rfl⟩

theorem WGainG_V {R : Ro} {fa : Option Addr} {fc : Nat} {c : Cv} (hv : validB c = true) (ha : RS R 1 encI fa c.vals) {L : Nat} (hL : L ≤ 100000) : FnV Try.prog 34 [.agg #[.slice fa c.vals.length fc, .int .i64 c.per, .int .i64 c.inc], .int .i64 (L : Int)] R (.int .i64 (gainC c L)) := by
 refine Fn.toV (fun w0 E => ?_)
 obtain ⟨hr1, hr2, hr3, hr4, hr5, hr6, hr7, hr8⟩ := valid_range hv
 have hd0 : 0 ≤ (L : Int) / c.per := Int.ediv_nonneg (by omega) (by omega)
 have hd1 : (L : Int) / c.per ≤ L := Int.ediv_le_self _ (by omega)
 have hd2 := mulB (a := (L : Int) / c.per) (b := c.inc) (A := 100000) (B := 1073741824) (by omega) (by omega)
 refine Fn.enter (n := 12) Try.func34 rfl rfl (Nat.le_of_ble_eq_true rfl) rfl ?_
 refine W.seq (W.region _ ?_)
 refine WL.ef rfl rfl qD (Ef.box rfl rfl (fun b2 => ?_))
 refine WG.run tab_ok 1 rfl (WG.nil (WE.nxt (W.seq ?_)))
 refine W.regionQ _ mixed qK ?_
 refine WG.run tab_ok 2 rfl ?_
 refine' WG.y rfl rfl qD (Yl.load1 tab_ok rfl rfl rfl (fun _ => rfl) ?r1 rfl ?h1) ?_
 case r1 => apply Rd.add; (exact Rd.blk 0 rfl)
 case h1 => rfl
 refine WG.y rfl rfl (by decide) (Yl.quo rfl rfl rfl (fun _ => rfl) (by intro _; constructor <;> (try dsimp only) <;> omega) (by intro _; omega)) ?_
 refine WG.run tab_ok 1 rfl ?_
 refine' WG.y rfl rfl qD (Yl.load1 tab_ok rfl rfl rfl (fun _ => rfl) ?r2 rfl ?h2) ?_
 case r2 => apply Rd.add; (exact Rd.blk 0 rfl)
 case h2 => rfl
 refine WG.y rfl rfl (by decide) (Yl.mul rfl rfl rfl (fun _ => rfl) (by intro _; constructor <;> (try dsimp only) <;> omega)) ?_
 refine WG.run tab_ok 1 rfl (WG.nil (WE.nxt (W.ret ?_)))
 refine WE.subE (E' := E) qS ?_
 refine WE.retF tab_ok [_] rfl ⟨rfl, trivial⟩ (RLe.refl _) ?_
 exact ⟨rfl, rfl⟩

theorem CValidG_V {R : Ro} {fa : Option Addr} {fc : Nat} {c : Cv} (ha : RS R 1 encI fa c.vals) (hl : c.vals.length ≤ 100000) : FnV Try.prog 48 [.agg #[.slice fa c.vals.length fc, .int .i64 c.per, .int .i64 c.inc]] R (.bool (validB c)) := by
 refine Fn.toV (fun w0 E => ?_)
 refine Fn.enter (n := 85) Try.func48 rfl rfl (Nat.le_of_ble_eq_true rfl) rfl ?_
 refine W.seq (W.region _ ?_)
 refine WL.ef rfl rfl qD (Ef.box rfl rfl (fun b1 => ?_))
 refine WG.run tab_ok 1 rfl (WG.nil (WE.nxt (W.seq (W.region _ (WG.run tab_ok 1 rfl ?_)))))
 refine' WG.y rfl rfl qD (Yl.load1 tab_ok rfl rfl rfl (fun _ => rfl) ?r1 rfl ?h1) ?_
 case r1 => apply Rd.add; (exact Rd.blk 0 rfl)
 case h1 => rfl
 refine WG.run tab_ok 2 rfl (WG.nil (WE.nxt (W.seq (W.seq (W.region _ (WG.run tab_ok 3 rfl ?_))))))
 refine WG.y rfl rfl qD (pureV_ok tab_ok rfl qE) ?_
 refine WG.y rfl rfl qD (pureV_ok tab_ok rfl qE) ?_
 refine WG.y rfl rfl (by decide) (Yl.por rfl rfl rfl (fun _ => rfl) (by intro h1 h2; simp_all <;> omega)) ?_
 refine WG.run tab_ok 1 rfl ?_
 refine WG.y rfl rfl qD (pureV_ok tab_ok rfl qE) ?_
 refine' WG.y rfl rfl qD (Yl.loadG tab_ok rfl rfl rfl qE ?r2 rfl ?h2 ?g2) ?_
 case r2 => apply Rd.addC; (exact Rd.blkC 0 rfl)
 case h2 => rfl
 case g2 => exact fun _ => trivial
 refine WG.y rfl rfl qD (pureV_ok tab_ok rfl qE) ?_
 refine WG.y rfl rfl (by decide) (Yl.por rfl rfl rfl (fun _ => rfl) (by intro h1 h2; simp_all <;> omega)) ?_
 refine WG.run tab_ok 1 rfl ?_
 refine WG.y rfl rfl qD (pureV_ok tab_ok rfl qE) ?_
 refine' WG.y rfl rfl qD (Yl.loadG tab_ok rfl rfl rfl qE ?r3 rfl ?h3 ?g3) ?_
 case r3 => apply Rd.addC; (exact Rd.blkC 0 rfl)
 case h3 => rfl
 case g3 => exact fun _ => trivial
 refine WG.y rfl rfl qD (pureV_ok tab_ok rfl qE) ?_
 refine WG.y rfl rfl (by decide) (Yl.por rfl rfl rfl (fun _ => rfl) (by intro h1 h2; simp_all <;> omega)) ?_
 refine WG.run tab_ok 1 rfl ?_
 refine WG.y rfl rfl qD (pureV_ok tab_ok rfl qE) ?_
 refine' WG.y rfl rfl qD (Yl.loadG tab_ok rfl rfl rfl qE ?r4 rfl ?h4 ?g4) ?_
 case r4 => apply Rd.addC; (exact Rd.blkC 0 rfl)
 case h4 => rfl
 case g4 => exact fun _ => trivial
 refine WG.y rfl rfl qD (pureV_ok tab_ok rfl qE) ?_
 refine WG.y rfl rfl qD (pureV_ok tab_ok rfl qE) ?_
 refine WG.y rfl rfl (by decide) (Yl.por rfl rfl rfl (fun _ => rfl) (by intro h1 h2; simp_all <;> omega)) ?_
 refine WG.run tab_ok 1 rfl ?_
 refine WG.y rfl rfl qD (pureV_ok tab_ok rfl qE) ?_
 refine' WG.y rfl rfl qD (Yl.loadG tab_ok rfl rfl rfl qE ?r5 rfl ?h5 ?g5) ?_
 case r5 => apply Rd.addC; (exact Rd.blkC 0 rfl)
 case h5 => rfl
 case g5 => exact fun _ => trivial
 refine WG.y rfl rfl qD (pureV_ok tab_ok rfl qE) ?_
 refine WG.y rfl rfl (by decide) (Yl.por rfl rfl rfl (fun _ => rfl) (by intro h1 h2; simp_all <;> omega)) ?_
 refine WG.run tab_ok 1 rfl ?_
 refine WG.y rfl rfl qD (pureV_ok tab_ok rfl qE) ?_
 refine' WG.y rfl rfl qD (Yl.loadG tab_ok rfl rfl rfl qE ?r6 rfl ?h6 ?g6) ?_
 case r6 => apply Rd.addC; (exact Rd.blkC 0 rfl)
 case h6 => rfl
 case g6 => exact fun _ => trivial
 refine WG.y rfl rfl qD (pureV_ok tab_ok rfl qE) ?_
 refine WG.y rfl rfl (by decide) (Yl.por rfl rfl rfl (fun _ => rfl) (by intro h1 h2; simp_all <;> omega)) ?_
 refine WG.nil (WE.nxt ?_)
 refine W.cond rfl (fun hc0 => ?_) (fun hc0 => ?_)
 ·try simp only [kk] at hc0
  have hno : validB c = false := validB_false (fun h => by obtain ⟨⟨a1, a2, a3, a4, a5, a6, a7⟩, _⟩ := h; unfold MAXV at a7; omega)
  refine W.seq (W.region _ (WG.run tab_ok 1 rfl (WG.nil (WE.nxt (W.ret (WE.then_ret ?_))))))
  refine WE.subE (E' := E) qS ?_
  refine WE.retF tab_ok [_] rfl ⟨rfl, trivial⟩ (RLe.refl _) ?_
  exact ⟨by rw [hno]; rfl, rfl⟩
 ·try simp only [kk] at hc0
  have hall : 1 ≤ c.vals.length ∧ c.vals.length ≤ 400 ∧ 1 ≤ c.per ∧ c.per ≤ 120 ∧ c.per ≤ c.vals.length ∧ 0 ≤ c.inc ∧ c.inc ≤ MAXV := by unfold MAXV; omega
  refine W.skip (WE.nxt (W.seq (W.region _ (WG.run tab_ok 1 rfl (WG.nil (WE.nxt (W.seq (W.seq (W.region _ (WG.run tab_ok 1 rfl ?_))))))))))
  refine' WG.y rfl rfl qD (Yl.load1 tab_ok rfl rfl rfl (fun _ => rfl) ?r7 rfl ?h7) ?_
  case r7 => apply Rd.add; (exact Rd.blk 0 rfl)
  case h7 => rfl
  refine WG.run tab_ok 2 rfl (WG.nil (WE.nxt (W.block ?_)))
  refine W.loopK (β := Nat) (fun t => t ≤ c.vals.length ∧ ∀ i, i < t → (nth c.vals i = INF ∨ (0 ≤ nth c.vals i ∧ nth c.vals i ≤ MAXV)) ∧ (i = 0 ∨ nth c.vals (i - 1) ≤ nth c.vals i)) (fun t => [(4, true, .int .i64 (lastV c.vals t)), (45, true, .int .i64 (t : Int))]) [1, 3, 43, 44] [_, _, _, _] [] _ rfl (fun t => []) (fun t => c.vals.length - t) (0) (⟨Nat.zero_le _, fun i hi => by omega⟩) ⟨rfl, rfl, rfl, rfl, rfl, rfl, rfl⟩ qS ?_
  intro t hst
  dsimp only [zipE, setAll, List.cons_append, List.nil_append, List.set_cons_zero, List.set_cons_succ] at hst ⊢
  have hlast : 0 ≤ lastV c.vals t ∧ (lastV c.vals t = INF ∨ lastV c.vals t ≤ MAXV) := by
   unfold lastV
   by_cases h : t = 0
   ·rw [if_pos h]; exact ⟨Int.le_refl _, .inr (by decide)⟩
   ·rw [if_neg h]
    have := (hst.2 (t - 1) (by omega)).1
    unfold INF MAXV at this ⊢
    omega
  refine W.seq (W.region _ (WG.run tab_ok 1 rfl (WG.nil (WE.nxt (W.seq ?_)))))
  refine W.condD rfl (fun hc1 => ?_) (fun hc1 => ?_)
  ·try dsimp only at hc1
   have htl : t < c.vals.length := by omega
   refine W.skip (WE.nxt (W.seq (W.block (W.seq (W.region _ ?_)))))
   refine WG.y rfl rfl (by decide) (Yl.indexN tab_ok rfl rfl rfl rfl rfl rfl (fun _ => rfl) (by intro _; (try dsimp only) <;> omega) (by intro _; first | exact fun _ _ _ _ => rfl | exact RS.has (by assumption) | exact fun _ _ _ _ => (by assumption) | exact HasMem.ownD 0 rfl | exact HasMem.ownD 1 rfl)) ?_
   refine' WG.y rfl rfl qD (Yl.load1 tab_ok rfl rfl rfl (fun _ => rfl) ?r8 rfl ?h8) ?_
   case r8 => ((apply RS.rdD; assumption; ((try dsimp only) <;> omega)))
   case h8 => rfl
   refine WG.run tab_ok 1 rfl (WG.nil (WE.nxt (W.seq (W.seq (W.region _ (WG.run tab_ok 4 rfl ?_))))))
   refine WG.y rfl rfl qD (pureV_ok tab_ok rfl qE) ?_
   refine WG.y rfl rfl qD (pureV_ok tab_ok rfl qE) ?_
   refine WG.y rfl rfl qD (pureV_ok tab_ok rfl qE) ?_
   refine WG.y rfl rfl qD (pureV_ok tab_ok rfl qE) ?_
   refine WG.y rfl rfl qD (pureV_ok tab_ok rfl qE) ?_
   refine WG.y rfl rfl (by decide) (Yl.pand rfl rfl rfl qE (by intro h1 h2; simp_all <;> omega)) ?_
   refine WG.y rfl rfl (by decide) (Yl.por rfl rfl rfl (fun _ => rfl) (by intro h1 h2; simp_all <;> omega)) ?_
   refine WG.nil (WE.nxt ?_)
   refine W.cond rfl (fun hc2 => ?_) (fun hc2 => ?_)
   ·try simp only [kk] at hc2
    have hno : validB c = false := validB_false (fun h => by
     have h2 := h.2.1 t htl
     unfold lastV at hc2
     unfold INF MAXV at h2
     rcases hc2 with x | x
     ·split at x
      ·omega
      ·have := h2.2.resolve_left (by omega)
       omega
     ·omega)
    refine W.seq (W.region _ (WG.run tab_ok 1 rfl (WG.nil (WE.nxt (W.ret (WE.then_ret (WE.blk_ret (WE.then_ret (WE.then_ret (WE.blk_ret (WE.then_ret ?_)))))))))))
    refine WE.subE (E' := E) qS ?_
    refine WE.retF tab_ok [_] rfl ⟨rfl, trivial⟩ (RLe.refl _) ?_
    exact ⟨by rw [hno]; rfl, rfl⟩
   ·try simp only [kk] at hc2
    have hy : (nth c.vals t = INF ∨ (0 ≤ nth c.vals t ∧ nth c.vals t ≤ MAXV)) ∧ (t = 0 ∨ nth c.vals (t - 1) ≤ nth c.vals t) := by
     unfold INF MAXV
     have hle : lastV c.vals t ≤ nth c.vals t := by omega
     refine ⟨by omega, ?_⟩
     unfold lastV at hle
     by_cases h : t = 0
     ·exact .inl h
     ·rw [if_neg h] at hle; exact .inr hle
    refine W.skip (WE.nxt (W.region _ (WG.run tab_ok 2 rfl (WG.nil (WE.blk _ (WE.nxt (W.region _ ?_)))))))
    refine WG.y rfl rfl (by decide) (Yl.add rfl rfl rfl (fun _ => rfl) (by intro _; constructor <;> (try dsimp only) <;> omega)) ?_
    refine WG.run tab_ok 1 rfl (WG.nil ?_)
    refine WE.again (t + 1) (⟨by omega, fun i hi => by
     by_cases e : i = t
     ·subst e; exact hy
     ·exact hst.2 i (by omega)⟩) (by (try dsimp only); omega) ⟨vint (lastV_succ _ _), rfl, rfl, rfl, rfl, rfl, rfl⟩ (RLe.refl _) qS
  ·try dsimp only at hc1
   obtain rfl : t = c.vals.length := by omega
   obtain ⟨P, hP⟩ := Int.eq_ofNat_of_zero_le (show 0 ≤ c.per by omega)
   have hlv : lastV c.vals c.vals.length = nth c.vals (c.vals.length - 1) := if_neg (by omega)
   have e3 : ((c.vals.length : Int) - c.per).toNat = c.vals.length - c.per.toNat := by omega
   refine W.exit ?_
   refine WE.then_exit (WE.then_exit (WE.blk_exit (WE.nxt (W.seq (W.seq (W.region _ (WG.run tab_ok 2 rfl (WG.nil (WE.nxt ?_)))))))))
   refine W.condE rfl (fun hc3 => ?_) (fun hc3 => ?_)
   ·try dsimp only at hc3
    have hif : (if nth c.vals (c.vals.length - 1) = INF then c.per = 1 ∧ c.inc = 0 else nth c.vals (c.vals.length - 1) ≤ nth c.vals (c.vals.length - c.per.toNat) + c.inc) ↔ (c.per = 1 ∧ c.inc = 0) := by rw [if_pos (by rw [← hlv]; exact hc3)]
    refine W.seq (W.region _ (WG.run tab_ok 1 rfl ?_))
    refine' WG.y rfl rfl qD (Yl.load1 tab_ok rfl rfl rfl (fun _ => rfl) ?r9 rfl ?h9) ?_
    case r9 => apply Rd.add; (exact Rd.blk 0 rfl)
    case h9 => rfl
    refine WG.run tab_ok 2 rfl ?_
    refine WG.y rfl rfl qD (pureV_ok tab_ok rfl qE) ?_
    refine' WG.y rfl rfl qD (Yl.loadG tab_ok rfl rfl rfl qE ?r10 rfl ?h10 ?g10) ?_
    case r10 => apply Rd.addC; (exact Rd.blkC 0 rfl)
    case h10 => rfl
    case g10 => exact fun _ => trivial
    refine WG.y rfl rfl qD (pureV_ok tab_ok rfl qE) ?_
    refine WG.y rfl rfl (by decide) (Yl.pand rfl rfl rfl (fun _ => rfl) (by intro h1 h2; simp_all <;> omega)) ?_
    refine WG.run tab_ok 1 rfl (WG.nil (WE.nxt (W.ret (WE.then_ret ?_))))
    refine WE.subE (E' := E) qS ?_
    refine WE.retF tab_ok [_] rfl ⟨rfl, trivial⟩ (RLe.refl _) ?_
    refine ⟨congrArg Value.bool ?_, rfl⟩
    rw [Bool.eq_iff_iff, validB_iff, hif]
    simp only [Bool.and_eq_true, beq_iff_eq]
    exact ⟨fun h => ⟨hall, fun j hj => hst.2 j hj, h⟩, fun h => h.2.2⟩
   ·try dsimp only at hc3
    have hif : (if nth c.vals (c.vals.length - 1) = INF then c.per = 1 ∧ c.inc = 0 else nth c.vals (c.vals.length - 1) ≤ nth c.vals (c.vals.length - c.per.toNat) + c.inc) ↔ (nth c.vals (c.vals.length - 1) ≤ nth c.vals (c.vals.length - c.per.toNat) + c.inc) := by rw [if_neg (by rw [← hlv]; exact hc3)]
    have hx2 := (hst.2 (c.vals.length - c.per.toNat) (by omega)).1
    rw [← e3] at hx2
    unfold INF MAXV at hx2 hall
    refine W.skip (WE.nxt (W.seq ?_))
    refine W.regionQ _ mixed qK ?_
    refine WG.run tab_ok 1 rfl ?_
    refine' WG.y rfl rfl qD (Yl.load1 tab_ok rfl rfl rfl (fun _ => rfl) ?r11 rfl ?h11) ?_
    case r11 => apply Rd.add; (exact Rd.blk 0 rfl)
    case h11 => rfl
    refine WG.run tab_ok 2 rfl ?_
    refine' WG.y rfl rfl qD (Yl.load1 tab_ok rfl rfl rfl (fun _ => rfl) ?r12 rfl ?h12) ?_
    case r12 => apply Rd.add; (exact Rd.blk 0 rfl)
    case h12 => rfl
    refine WG.y rfl rfl (by decide) (Yl.sub rfl rfl rfl (fun _ => rfl) (by intro _; constructor <;> (try dsimp only) <;> omega)) ?_
    refine WG.y rfl rfl (by decide) (Yl.index tab_ok rfl rfl rfl rfl rfl rfl (fun _ => rfl) (by intro _; constructor <;> (try dsimp only) <;> omega) (by intro _; first | exact fun _ _ _ _ => rfl | exact RS.has (by assumption) | exact fun _ _ _ _ => (by assumption) | exact HasMem.ownD 0 rfl | exact HasMem.ownD 1 rfl)) ?_
    refine' WG.y rfl rfl qD (Yl.load1 tab_ok rfl rfl rfl (fun _ => rfl) ?r13 rfl ?h13) ?_
    case r13 => ((apply RS.rdD; assumption; ((try dsimp only) <;> omega)))
    case h13 => rfl
    refine WG.run tab_ok 1 rfl ?_
    refine' WG.y rfl rfl qD (Yl.load1 tab_ok rfl rfl rfl (fun _ => rfl) ?r14 rfl ?h14) ?_
    case r14 => apply Rd.add; (exact Rd.blk 0 rfl)
    case h14 => rfl
    refine WG.y rfl rfl (by decide) (Yl.add rfl rfl rfl (fun _ => rfl) (by intro _; constructor <;> (try dsimp only) <;> omega)) ?_
    refine WG.run tab_ok 3 rfl (WG.nil (WE.nxt (W.ret ?_)))
    refine WE.subE (E' := E) qS ?_
    refine WE.retF tab_ok [_] rfl ⟨rfl, trivial⟩ (RLe.refl _) ?_
    refine ⟨congrArg Value.bool ?_, rfl⟩
    rw [Bool.eq_iff_iff, validB_iff, hif, e3, hlv]
    simp only [decide_eq_true_eq]
    exact ⟨fun h => ⟨by unfold MAXV; omega, fun j hj => hst.2 j hj, by omega⟩, fun h => by have := h.2.2; omega⟩

theorem NormG_V {R : Ro} {fa : Option Addr} {fc : Nat} {c : Cv} (hv : validB c = true) (ha : RS R 1 encI fa c.vals) {b1 : Nat} (h1 : R b1 = some [.slice fa c.vals.length fc, .int .i64 c.per, .int .i64 c.inc]) {t : Nat} (ht : t ≤ 1000000) : FnV Try.prog 67 [.int .i64 (t : Int), .pointer (some ⟨b1, 0, none⟩)] R (.int .i64 (cvF c t)) := by
 refine Fn.toV (fun w0 E => ?_)
 refine Fn.enter (n := 7) Try.func67 rfl rfl (Nat.le_of_ble_eq_true rfl) rfl ?_
 refine W.seq (W.region _ (WG.run tab_ok 1 rfl (WG.nil (WE.nxt (W.seq (W.region _ ?_))))))
 refine' WG.y rfl rfl qD (Yl.load1 tab_ok rfl rfl rfl (fun _ => rfl) ?r1 rfl ?h1) ?_
 case r1 => (exact Rd.ro qU)
 case h1 => rfl
 refine WG.run tab_ok 1 rfl ?_
 refine WG.callV en68 rfl rfl qD (CallOp.mk' rfl rfl rfl rfl) (fun _ => rfl) (fun hg => WAtG_V hv ha qO) ?_
 refine WG.run tab_ok 1 rfl (WG.nil (WE.nxt (W.ret ?_)))
 refine WE.subE (E' := E) qS ?_
 refine WE.retF tab_ok [_] rfl ⟨rfl, trivial⟩ (RLe.refl _) ?_
 exact ⟨rfl, rfl⟩

theorem CNormalG_C {R : Ro} {fa : Option Addr} {fc : Nat} {c : Cv} (ha : RS R 1 encI fa c.vals) (hl : c.vals.length ≤ 100000) (w0 : World) (E : List Ent) : K.Fn Try.prog 32 [.agg #[.slice fa c.vals.length fc, .int .i64 c.per, .int .i64 c.inc]] w0 R E (fun r R' E' => ∃ (f : Option Addr) (fc : Nat), r = cvV f fc (normC c) ∧ RS R' 1 encI f (normC c).1.vals ∧ E.Sublist E') := by
 refine Fn.enter (n := 22) Try.func32 rfl rfl (Nat.le_of_ble_eq_true rfl) rfl ?_
 refine W.seq (W.region _ ?_)
 refine WL.ef rfl rfl qD (Ef.box rfl rfl (fun b1 => ?_))
 refine WL.ef rfl rfl qD (Ef.alloc tab_ok rfl rfl (fun b2 => ?_))
 refine WG.run tab_ok 1 rfl (WG.nil (WE.nxt (W.seq (W.seq (W.region _ ?_)))))
 refine' WG.y rfl rfl qD (Yl.load1 tab_ok rfl rfl rfl (fun _ => rfl) ?r1 rfl ?h1) ?_
 case r1 => (exact Rd.blk 1 rfl)
 case h1 => rfl
 refine WG.callV en48 rfl rfl qD (CallOp.mk' rfl rfl rfl rfl) (fun _ => rfl) (fun hg => CValidG_V ha hl) ?_
 refine WG.run tab_ok 1 rfl (WG.nil (WE.nxt ?_))
 refine W.cond rfl (fun hc0 => ?_) (fun hc0 => ?_)
 ·try simp only [kk] at hc0
  have hn : normC c = (zcv, 1) := if_neg (by simp [hc0])
  refine W.seq (W.region _ ?_)
  -- build
  refine WG.y rfl rfl qD (Yl.build (parts := []) tab_ok rfl rfl rfl rfl (fun _ => rfl) rfl rfl) ?_
  refine WL.efN rfl rfl (Ef.store0 0 tab_ok rfl rfl rfl rfl rfl rfl rfl rfl ?_)
  refine WG.run tab_ok 1 rfl (WG.nil (WE.nxt (W.ret (WE.then_ret ?_))))
  refine WE.retF tab_ok [_, _] rfl ⟨⟨_, _, _, rfl, rfl, rfl, ((by first | exact Rd.blk 0 rfl | exact Rd.blk 1 rfl | exact Rd.blk 2 rfl | exact Rd.blk 3 rfl)), rfl⟩, rfl, trivial⟩ ((by first | exact hR1.trans (hR2.trans hR4) | exact RLe.refl _)) ?_
  exact ⟨none, 0, by rw [hn]; rfl, by rw [hn]; exact rs_nil, qS⟩
 ·try simp only [kk] at hc0
  have hv : validB c = true := by simpa using hc0
  have hn : normC c = (normR c, 0) := if_pos hv
  obtain ⟨hr1, hr2, hr3, hr4, hr5, hr6, hr7, hr8⟩ := valid_range hv
  have hst := stN_lt hv
  refine W.skip (WE.nxt (W.seq (W.region _ (WG.run tab_ok 1 rfl ?_))))
  refine' WG.y rfl rfl qD (Yl.load1 tab_ok rfl rfl rfl (fun _ => rfl) ?r2 rfl ?h2) ?_
  case r2 => apply Rd.add; (exact Rd.blk 1 rfl)
  case h2 => rfl
  refine WL.call en66 rfl rfl qD (CallOp.mkT rfl rfl rfl rfl) (CloneI_C ha qO qO w0 _) ?_
  rintro _ _ E2 - ⟨a2, c2, rfl, rfl, hsub⟩
  refine WL.subE hsub ?_
  refine WG.run tab_ok 1 rfl ?_
  refine WL.efN rfl rfl (Ef.store 2 tab_ok rfl rfl rfl rfl rfl rfl rfl rfl ?_)
  refine WG.nil (WE.nxt ?_)
  refine W.freeze (enc := encI) (xs := c.vals) 0 rfl ?_
  intro R1 hR1 ha1
  refine W.freezeBlk 1 rfl ?_
  intro R2 hR2 hb1
  have ha2 := ha1.mono hR2
  have hperI : ((c.per.toNat : Nat) : Int) = c.per := by omega
  have hF : ∀ t : Nat, t < stN c + c.per.toNat → FnV Try.prog 67 ((#[] : Array Value).toList ++ [.int .i64 (t : Int)] ++ (#[.pointer (some ⟨b1, 0, none⟩)] : Array Value).toList) R2 (.int .i64 (cvF c t)) := fun t ht => NormG_V hv ha2 hb1 (by omega)
  refine W.seq ?_
  refine W.regionH _ (ES := []) mixed ?_
  refine WA.take 0 rfl qK qK qK rfl rfl qD (Yl.makeFunc (fi := []) (ca := [.tmp 1]) rfl rfl rfl (fun _ => rfl)) qS qR ?_
  refine' WA.take 1 rfl qK qK qK rfl rfl qD (Yl.load1 tab_ok rfl rfl rfl (fun _ => rfl) ?r3 rfl ?h3) qS qR ?_
  case r3 => (exact Rd.ro qU)
  case h3 => rfl
  refine WA.take 3 rfl qK qK qK rfl rfl qD (pureV_ok tab_ok rfl (fun _ => rfl)) qS qR ?_
  refine' WA.take 4 rfl qK qK qK rfl rfl qD (Yl.load1 tab_ok rfl rfl rfl (fun _ => rfl) ?r4 rfl ?h4) qS qR ?_
  case r4 => apply Rd.add; (exact Rd.ro qU)
  case h4 => rfl
  refine WA.take 5 rfl qK qK qK rfl rfl qD (pureV_ok tab_ok rfl (fun _ => rfl)) qS qR ?_
  refine' WA.take 6 rfl qK qK qK rfl rfl qD (Yl.load1 tab_ok rfl rfl rfl (fun _ => rfl) ?r5 rfl ?h5) qS qR ?_
  case r5 => apply Rd.add; (exact Rd.ro qU)
  case h5 => rfl
  refine WA.callG 2 rfl qK en35 rfl (by first | rfl | decide) rfl qD (CallOp.mkT rfl rfl rfl rfl) ((WStartG_V hv ha2).toFn) ?_
  rintro _ _ _ - ⟨rfl, rfl, rfl⟩
  refine ⟨by first | exact RLe.refl _ | assumption, qS, ?_⟩
  refine WA.callG 7 rfl qK en40 rfl (by first | rfl | decide) rfl qD (CallOp.mkT rfl rfl rfl rfl) (hperI ▸ Build_C (S := stN c) (P := c.per.toNat) (F := cvF c) en67 qO qO qO (fun t ht => (cvF_bound hv t).2.imp id (fun h => ⟨(cvF_bound hv t).1, by omega⟩)) hF w0 _) ?_
  rintro _ R4 E4 hR4 ⟨f, fc', rfl, hff, hsub⟩
  refine ⟨hR4, List.nil_sublist _, ?_⟩
  refine WA.subE hsub ?_
  rw [norm_build hv] at hff ⊢
  unfold cvV
  refine WA.take 8 rfl qK qK qK rfl rfl qD (pureV_ok tab_ok rfl (fun _ => rfl)) qS qR ?_
  refine WA.take 9 rfl qK qK qK rfl rfl qD (pureV_ok tab_ok rfl (fun _ => rfl)) qS qR ?_
  refine WA.effN 10 rfl qK rfl rfl (Ef.store0 0 tab_ok rfl rfl rfl rfl rfl rfl rfl rfl ?_)
  refine ⟨by first | exact RLe.refl _ | assumption, qS, ?_⟩
  refine WA.take 11 rfl qK qK qK rfl rfl qD (pureV_ok tab_ok rfl (fun _ => rfl)) qS qR ?_
  refine WA.done qK ?_
  refine WE.nxt (W.ret ?_)
  refine WE.retF tab_ok [_, _] rfl ⟨⟨_, _, _, rfl, rfl, rfl, ((by first | exact Rd.blk 0 rfl | exact Rd.blk 1 rfl | exact Rd.blk 2 rfl | exact Rd.blk 3 rfl)), rfl⟩, rfl, trivial⟩ ((by first | exact hR1.trans (hR2.trans hR4) | exact RLe.refl _)) ?_
  exact ⟨f, fc', by rw [hn]; rfl, by rw [hn]; exact hff, qS⟩

theorem CNormalV_C {R : Ro} {fa : Option Addr} {fc : Nat} {c : Cv} (hv : validB c = true) (ha : RS R 1 encI fa c.vals) (w0 : World) (E : List Ent) : K.Fn Try.prog 32 [.agg #[.slice fa c.vals.length fc, .int .i64 c.per, .int .i64 c.inc]] w0 R E (fun r R' E' => ∃ (f : Option Addr) (fc : Nat), r = cvV f fc (normR c, 0) ∧ RS R' 1 encI f ((normR c, (0 : Int))).1.vals ∧ E.Sublist E') := by
 have h := CNormalG_C (fc := fc) ha (by have := valid_range hv; omega) w0 E
 rw [show normC c = (normR c, 0) from if_pos hv] at h
 exact h

end Go.Proofs.Ytnackbfnmhkodaa

/- Sums of curves. No condition. -/
set_option maxRecDepth 4000
set_option linter.unusedSimpArgs false
set_option linter.unusedVariables false
namespace Go.Proofs.Ytnackbfnmhkodaa
open Go Go.RowKit Go.Proofs.Ytnackbfnmhkodaa.K Go.Proofs.Ytnackbfnmhkodaa.M

end Go.Proofs.Ytnackbfnmhkodaa

/- Curves raised, totals. No condition. -/
set_option maxRecDepth 4000
set_option linter.unusedSimpArgs false
set_option linter.unusedVariables false
namespace Go.Proofs.Ytnackbfnmhkodaa
open Go Go.RowKit Go.Proofs.Ytnackbfnmhkodaa.K Go.Proofs.Ytnackbfnmhkodaa.M

theorem FlatF_V {R : Ro} {b1 : Nat} {k : Int} (h1 : R b1 = some [.int .i64 k]) (hk : 0 ≤ k ∧ k ≤ 1073741824) {t : Nat} (ht : t ≤ 1000000) : FnV Try.prog 69 [.int .i64 (t : Int), .pointer (some ⟨b1, 0, none⟩)] R (.int .i64 (flatF k t)) := by
 refine Fn.toV (fun w0 E => ?_)
 have hfl : k * (if (1 : Int) < (t : Int) then (1 : Int) else (t : Int)) = flatF k t := by
  unfold flatF
  by_cases h : t = 0
  ·subst h; simp
  ·rw [if_neg h, show (if (1 : Int) < (t : Int) then (1 : Int) else (t : Int)) = 1 by split <;> omega, Int.mul_one]
 have hfb : 0 ≤ flatF k t ∧ flatF k t ≤ 1073741824 := by unfold flatF; split <;> omega
 refine Fn.enter (n := 8) Try.func69 rfl rfl (Nat.le_of_ble_eq_true rfl) rfl ?_
 refine W.seq (W.region _ (WG.run tab_ok 1 rfl (WG.nil (WE.nxt (W.seq (W.region _ ?_))))))
 refine' WG.y rfl rfl qD (Yl.load1 tab_ok rfl rfl rfl (fun _ => rfl) ?r1 rfl ?h1) ?_
 case r1 => exact Rd.ro h1
 case h1 => rfl
 refine WG.run tab_ok 2 rfl ?_
 refine WG.y rfl rfl (by decide) (Yl.mul rfl rfl rfl (fun _ => rfl) (by intro _; constructor <;> (try dsimp only) <;> omega)) ?_
 refine WG.run tab_ok 1 rfl (WG.nil (WE.nxt (W.ret ?_)))
 refine WE.subE (E' := E) qS ?_
 refine WE.retF tab_ok [_] rfl ⟨rfl, trivial⟩ (RLe.refl _) ?_
 exact ⟨by rw [← hfl]; rfl, rfl⟩

theorem CFlat_C {R : Ro} {k : Int} (hk : 0 ≤ k ∧ k ≤ 1073741824) (w0 : World) (E : List Ent) : K.Fn Try.prog 38 [.int .i64 k] w0 R E (fun r R' E' => ∃ (f : Option Addr) (fc : Nat), r = cvV f fc (flatC k) ∧ RS R' 1 encI f (flatC k).1.vals ∧ E.Sublist E') := by
 have hd : flatC k = mbuild (flatF k) 1 1 0 := rfl
 refine Fn.enter (n := 14) Try.func38 rfl rfl (Nat.le_of_ble_eq_true rfl) rfl ?_
 refine W.seq (W.region _ ?_)
 refine WL.ef rfl rfl qD (Ef.box rfl rfl (fun b1 => ?_))
 refine WL.ef rfl rfl qD (Ef.alloc tab_ok rfl rfl (fun b2 => ?_))
 refine WG.run tab_ok 1 rfl (WG.nil (WE.nxt (W.seq (W.seq (W.region _ ?_)))))
 refine' WG.y rfl rfl qD (Yl.load1 tab_ok rfl rfl rfl (fun _ => rfl) ?r1 rfl ?h1) ?_
 case r1 => (exact Rd.blk 1 rfl)
 case h1 => rfl
 refine WG.run tab_ok 1 rfl (WG.nil (WE.nxt ?_))
 refine W.condD rfl (fun hc0 => ?_) (fun hc0 => ?_)
 ·try dsimp only at hc0
  omega
 ·try dsimp only at hc0
  refine W.skip (WE.nxt (W.seq (W.seq (W.region _ ?_))))
  refine' WG.y rfl rfl qD (Yl.load1 tab_ok rfl rfl rfl (fun _ => rfl) ?r2 rfl ?h2) ?_
  case r2 => (exact Rd.blk 1 rfl)
  case h2 => rfl
  refine WG.run tab_ok 1 rfl (WG.nil (WE.nxt ?_))
  refine W.condD rfl (fun hc1 => ?_) (fun hc1 => ?_)
  ·try dsimp only at hc1
   omega
  ·try dsimp only at hc1
   refine W.skip (WE.nxt ?_)
   refine W.freezeBlk 1 rfl ?_
   intro R2 hR2 h1
   have hF : ∀ t : Nat, t < 1 + 1 → FnV Try.prog 69 ((#[] : Array Value).toList ++ [.int .i64 (t : Int)] ++ (#[.pointer (some ⟨b1, 0, none⟩)] : Array Value).toList) R2 (.int .i64 (flatF k t)) := fun t ht => FlatF_V h1 hk (by omega)
   refine W.seq (W.region _ (WG.run tab_ok 1 rfl ?_))
   refine WL.call en40 rfl rfl qD (CallOp.mkT rfl rfl rfl rfl) (Build_C (S := 1) (P := 1) (F := flatF k) en69 qO qO qO (fun t ht => .inr (flatF_bound hk t)) hF w0 _) ?_
   rintro _ R4 E4 hR4 ⟨fr, frc, rfl, hfr, hsub⟩
   refine WL.subE hsub ?_
   rw [← hd] at hfr ⊢
   unfold cvV
   refine WG.run tab_ok 2 rfl ?_
   refine WL.efN rfl rfl (Ef.store0 0 tab_ok rfl rfl rfl rfl rfl rfl rfl rfl ?_)
   refine WG.run tab_ok 1 rfl (WG.nil (WE.nxt (W.ret ?_)))
   refine WE.retF tab_ok [_, _] rfl ⟨⟨_, _, _, rfl, rfl, rfl, ((by first | exact Rd.blk 0 rfl | exact Rd.blk 1 rfl | exact Rd.blk 2 rfl | exact Rd.blk 3 rfl)), rfl⟩, rfl, trivial⟩ (hR2.trans hR4) ?_
   exact ⟨fr, frc, rfl, hfr, qS⟩

end Go.Proofs.Ytnackbfnmhkodaa

/- The share: differences and their least. No condition. -/
set_option maxRecDepth 4000
set_option linter.unusedSimpArgs false
set_option linter.unusedVariables false
namespace Go.Proofs.Ytnackbfnmhkodaa
open Go Go.RowKit Go.Proofs.Ytnackbfnmhkodaa.K Go.Proofs.Ytnackbfnmhkodaa.M

theorem GapRawG_V {R : Ro} {a1 : Option Addr} {c1 : Nat} {m1 : Cv} (hv1 : validB m1 = true) (hx1 : RS R 1 encI a1 m1.vals) {a2 : Option Addr} {c2 : Nat} {m2 : Cv} (hv2 : validB m2 = true) (hx2 : RS R 1 encI a2 m2.vals) {th u : Nat} (hu : th ≤ u ∧ u ≤ 4000000) : FnV Try.prog 39 [.agg #[.slice a1 m1.vals.length c1, .int .i64 m1.per, .int .i64 m1.inc, .slice a2 m2.vals.length c2, .int .i64 m2.per, .int .i64 m2.inc, .int .i64 (th : Int)], .int .i64 (u : Int)] R (.int .i64 (rawG m1 m2 th u)) := by
 refine Fn.toV (fun w0 E => ?_)
 have i1 := isInf_iff hv1 (t := u) (by omega)
 have i2 := isInf_iff hv2 (t := u - th) (by omega)
 have b1 := cvF_bound hv1 u
 have b2 := cvF_bound hv2 (u - th)
 unfold INF at i1 i2 b1 b2
 refine Fn.enter (n := 28) Try.func39 rfl rfl (Nat.le_of_ble_eq_true rfl) rfl ?_
 refine W.seq (W.region _ ?_)
 refine WL.ef rfl rfl qD (Ef.box rfl rfl (fun b2 => ?_))
 refine WG.run tab_ok 1 rfl (WG.nil (WE.nxt (W.seq ?_)))
 refine W.regionQ _ mixed qK ?_
 refine WG.run tab_ok 1 rfl ?_
 refine' WG.y rfl rfl qD (Yl.load1 tab_ok rfl rfl rfl (fun _ => rfl) ?r1 rfl ?h1) ?_
 case r1 => apply Rd.add; (exact Rd.blk 0 rfl)
 case h1 => rfl
 refine WG.run tab_ok 1 rfl ?_
 refine WG.callV (v := .int .i64 (cvF m1 u)) en68 rfl rfl qD (CallOp.mk' rfl rfl rfl rfl) (fun _ => rfl) (fun hg => WAtG_V hv1 hx1 (t := u) qO) ?_
 refine WG.run tab_ok 1 rfl ?_
 refine' WG.y rfl rfl qD (Yl.load1 tab_ok rfl rfl rfl (fun _ => rfl) ?r2 rfl ?h2) ?_
 case r2 => apply Rd.add; (exact Rd.blk 0 rfl)
 case h2 => rfl
 refine WG.run tab_ok 2 rfl ?_
 refine' WG.y rfl rfl qD (Yl.load1 tab_ok rfl rfl rfl (fun _ => rfl) ?r3 rfl ?h3) ?_
 case r3 => apply Rd.add; (exact Rd.blk 0 rfl)
 case h3 => rfl
 refine WG.y rfl rfl (by decide) (Yl.sub rfl rfl rfl (fun _ => rfl) (by intro _; constructor <;> (try dsimp only) <;> omega)) ?_
 refine WG.callV (v := .int .i64 (cvF m2 (u - th))) en68 rfl rfl qD (CallOp.mk' rfl rfl rfl rfl) (fun _ => rfl) (fun hg => by
  have h := WAtG_V (fc := c2) (t := u - th) hv2 hx2 (by omega)
  rw [show ((u - th : Nat) : Int) = (u : Int) - (th : Int) by omega] at h
  exact h) ?_
 refine WG.run tab_ok 2 rfl (WG.nil (WE.nxt (W.seq (W.block (W.seq (W.region _ (WG.run tab_ok 3 rfl (WG.nil (WE.nxt ?_)))))))))
 refine W.condE rfl (fun hc0 => ?_) (fun hc0 => ?_)
 ·try dsimp only at hc0
  have hr : rawG m1 m2 th u = 0 := if_pos (i2.2 hc0)
  refine W.seq (W.region _ (WG.run tab_ok 1 rfl (WG.nil (WE.nxt (W.ret (WE.blk_ret (WE.then_ret ?_)))))))
  refine WE.subE (E' := E) qS ?_
  refine WE.retF tab_ok [_] rfl ⟨rfl, trivial⟩ (RLe.refl _) ?_
  exact ⟨by rw [hr]; rfl, rfl⟩
 ·try dsimp only at hc0
  have hr0 : ¬ isInf m2 (u - th) := fun h => hc0 (i2.1 h)
  refine W.seq (W.region _ (WG.run tab_ok 3 rfl (WG.nil (WE.nxt ?_))))
  refine W.condE rfl (fun hc1 => ?_) (fun hc1 => ?_)
  ·try dsimp only at hc1
   have hr : rawG m1 m2 th u = cvF m1 u := by unfold rawG; rw [if_neg hr0, if_pos (i1.2 hc1), hc1]; rfl
   refine W.seq (W.region _ (WG.run tab_ok 2 rfl (WG.nil (WE.nxt (W.ret (WE.blk_ret (WE.then_ret ?_)))))))
   refine WE.subE (E' := E) qS ?_
   refine WE.retF tab_ok [_] rfl ⟨rfl, trivial⟩ (RLe.refl _) ?_
   exact ⟨by rw [hr]; rfl, rfl⟩
  ·try dsimp only at hc1
   have hr : rawG m1 m2 th u = cvF m1 u - cvF m2 (u - th) := by unfold rawG; rw [if_neg hr0, if_neg (fun h => hc1 (i1.1 h))]
   refine W.skip (WE.blk _ (WE.nxt (W.seq (W.region _ (WG.run tab_ok 2 rfl ?_)))))
   refine WG.y rfl rfl (by decide) (Yl.sub rfl rfl rfl (fun _ => rfl) (by intro _; constructor <;> (try dsimp only) <;> omega)) ?_
   refine WG.run tab_ok 1 rfl (WG.nil (WE.nxt (W.ret ?_)))
   refine WE.subE (E' := E) qS ?_
   refine WE.retF tab_ok [_] rfl ⟨rfl, trivial⟩ (RLe.refl _) ?_
   exact ⟨by rw [hr]; rfl, rfl⟩

theorem GapLeastG_V {R : Ro} {a1 : Option Addr} {c1 : Nat} {m1 : Cv} (hv1 : validB m1 = true) (hx1 : RS R 1 encI a1 m1.vals) {a2 : Option Addr} {c2 : Nat} {m2 : Cv} (hv2 : validB m2 = true) (hx2 : RS R 1 encI a2 m2.vals) {th a n : Nat} (hu : th ≤ a ∧ a + n ≤ 4000000) : FnV Try.prog 36 [.agg #[.slice a1 m1.vals.length c1, .int .i64 m1.per, .int .i64 m1.inc, .slice a2 m2.vals.length c2, .int .i64 m2.per, .int .i64 m2.inc, .int .i64 (th : Int)], .int .i64 (a : Int), .int .i64 (n : Int)] R (.int .i64 (leastG (rawG m1 m2 th) a n)) := by
 refine Fn.toV (fun w0 E => ?_)
 refine Fn.enter (n := 23) Try.func36 rfl rfl (Nat.le_of_ble_eq_true rfl) rfl ?_
 refine W.seq (W.region _ ?_)
 refine WL.ef rfl rfl qD (Ef.box rfl rfl (fun b3 => ?_))
 refine WG.run tab_ok 1 rfl (WG.nil (WE.nxt (W.seq (W.region _ (WG.run tab_ok 1 rfl (WG.nil (WE.nxt (W.seq (W.seq (W.region _ (WG.run tab_ok 2 rfl (WG.nil (WE.nxt (W.block ?_))))))))))))))
 refine W.loopK (β := Nat × Int) (fun (k, m) => k ≤ n ∧ m = leastG (rawG m1 m2 th) a k) (fun (k, m) => [(7, true, .int .i64 m), (8, true, .int .i64 ((a + k : Nat) : Int))]) [1, 2, 3] [_, _, _] [] _ rfl (fun (k, m) => []) (fun (k, m) => n - k) ((0, 4611686018427387904)) (⟨Nat.zero_le _, rfl⟩) ⟨rfl, rfl, rfl, rfl, rfl, rfl⟩ qS ?_
 intro zz hst
 obtain ⟨k, m⟩ := zz
 dsimp only [zipE, setAll, List.cons_append, List.nil_append, List.set_cons_zero, List.set_cons_succ] at hst ⊢
 obtain ⟨hk, hm⟩ := hst
 refine W.seq (W.seq (W.region _ (WG.run tab_ok 3 rfl ?_)))
 refine WG.y rfl rfl (by decide) (Yl.add rfl rfl rfl (fun _ => rfl) (by intro _; constructor <;> (try dsimp only) <;> omega)) ?_
 refine WG.run tab_ok 1 rfl (WG.nil (WE.nxt ?_))
 refine W.condD rfl (fun hc0 => ?_) (fun hc0 => ?_)
 ·try dsimp only at hc0
  have hkn : k < n := by omega
  refine W.skip (WE.nxt (W.seq (W.block (W.region _ (WG.run tab_ok 1 rfl ?_)))))
  refine' WG.y rfl rfl qD (Yl.load1 tab_ok rfl rfl rfl (fun _ => rfl) ?r1 rfl ?h1) ?_
  case r1 => (exact Rd.blk 0 rfl)
  case h1 => rfl
  refine WG.run tab_ok 1 rfl ?_
  refine WG.callV (v := .int .i64 (rawG m1 m2 th (a + k))) en39 rfl rfl qD (CallOp.mk' rfl rfl rfl rfl) (fun _ => rfl) (fun hg => GapRawG_V (u := a + k) hv1 hx1 hv2 hx2 qO) ?_
  refine WG.run tab_ok 2 rfl (WG.nil (WE.blk _ (WE.nxt (W.region _ (WG.run tab_ok 1 rfl ?_)))))
  refine WG.y rfl rfl (by decide) (Yl.add rfl rfl rfl (fun _ => rfl) (by intro _; constructor <;> (try dsimp only) <;> omega)) ?_
  refine WG.run tab_ok 1 rfl (WG.nil ?_)
  generalize hrr : rawG m1 m2 th (a + k) = rr
  try rw [show (if m < rr then rr else m) = min m rr by split <;> omega]
  try rw [show (if rr < m then rr else m) = min m rr by split <;> omega]
  rw [← hrr]
  rw [show ((a + k : Nat) : Int) + 1 = ((a + (k + 1) : Nat) : Int) by omega]
  refine WE.again ((k + 1, min m (rawG m1 m2 th (a + k)))) (⟨by dsimp only; omega, by dsimp only; rw [hm]; rfl⟩) (by (try dsimp only); omega) ⟨rfl, rfl, rfl, rfl, rfl, rfl⟩ (RLe.refl _) qS
 ·try dsimp only at hc0
  obtain rfl : k = n := by omega
  refine W.exit ?_
  refine WE.then_exit (WE.then_exit (WE.blk_exit (WE.nxt (W.seq (W.region _ (WG.run tab_ok 2 rfl (WG.nil (WE.nxt (W.ret ?_)))))))))
  refine WE.subE (E' := E) qS ?_
  refine WE.retF tab_ok [_] rfl ⟨rfl, trivial⟩ (RLe.refl _) ?_
  exact ⟨by rw [hm]; rfl, rfl⟩

theorem RestFG_V {R : Ro} {b11 : Nat} {a : Option Addr} {c : Nat} {xs : List Int} (h11 : R b11 = some [.slice a xs.length c]) (hx : RS R 1 encI a xs) {t : Nat} (ht : t < xs.length) : FnV Try.prog 41 [.int .i64 (t : Int), .pointer (some ⟨b11, 0, none⟩)] R (.int .i64 (nth xs t)) := by
 refine Fn.toV (fun w0 E => ?_)
 have hla := hx.len
 refine Fn.enter (n := 8) Try.func41 rfl rfl (Nat.le_of_ble_eq_true rfl) rfl ?_
 refine W.seq (W.region _ (WG.run tab_ok 1 rfl (WG.nil (WE.nxt (W.seq (W.region _ ?_))))))
 refine' WG.y rfl rfl qD (Yl.load1 tab_ok rfl rfl rfl (fun _ => rfl) ?r1 rfl ?h1) ?_
 case r1 => exact Rd.ro h11
 case h1 => rfl
 refine WG.run tab_ok 1 rfl ?_
 refine WG.y rfl rfl (by decide) (Yl.indexN tab_ok rfl rfl rfl rfl rfl rfl (fun _ => rfl) (by intro _; (try dsimp only) <;> omega) (by intro _; first | exact fun _ _ _ _ => rfl | exact RS.has (by assumption) | exact fun _ _ _ _ => (by assumption) | exact HasMem.ownD 0 rfl | exact HasMem.ownD 1 rfl)) ?_
 refine' WG.y rfl rfl qD (Yl.load1 tab_ok rfl rfl rfl (fun _ => rfl) ?r2 rfl ?h2) ?_
 case r2 => ((apply RS.rdD; assumption; ((try dsimp only) <;> omega)))
 case h2 => rfl
 refine WG.run tab_ok 1 rfl (WG.nil (WE.nxt (W.ret ?_)))
 refine WE.subE (E' := E) qS ?_
 refine WE.retF tab_ok [_] rfl ⟨rfl, trivial⟩ (RLe.refl _) ?_
 exact ⟨rfl, rfl⟩

theorem CommonC_V {R : Ro} {m1 m2 : Cv} (hv1 : validB m1 = true) (hv2 : validB m2 = true) : FnV Try.prog 33 [.int .i64 m1.per, .int .i64 m2.per] R (.int .i64 (lcmC m1 m2 : Int)) := by
 obtain ⟨_, _, _, p1, p2, _⟩ := valid_range hv1
 obtain ⟨_, _, _, q1, q2, _⟩ := valid_range hv2
 have h := Common_V (R := R) (a := m1.per.toNat) (b := m2.per.toNat) (by omega) (by omega)
 rw [Int.toNat_of_nonneg (by omega), Int.toNat_of_nonneg (by omega)] at h
 exact h
theorem lcmC_le {m1 m2 : Cv} (hv1 : validB m1 = true) (hv2 : validB m2 = true) : lcmC m1 m2 ≤ 14400 := by
 obtain ⟨_, _, _, p1, p2, _⟩ := valid_range hv1
 obtain ⟨_, _, _, q1, q2, _⟩ := valid_range hv2
 exact Nat.le_trans (lcmN_facts qO qO).2.2.1 (Nat.mul_le_mul (show m1.per.toNat ≤ 120 by omega) (show m2.per.toNat ≤ 120 by omega))
theorem gainC_le {c : Cv} (hv : validB c = true) {L : Nat} (hL : L ≤ 120) : 0 ≤ gainC c L ∧ gainC c L ≤ 120 * 1073741824 := by
 obtain ⟨_, _, _, p1, p2, p3, p4, p5⟩ := valid_range hv
 unfold gainC
 have hd0 : 0 ≤ (L : Int) / c.per := Int.ediv_nonneg (by omega) (by omega)
 have hd1 : (L : Int) / c.per ≤ L := Int.ediv_le_self _ (by omega)
 exact mulB qO qO

end Go.Proofs.Ytnackbfnmhkodaa

/- The share of two valid curves. No condition. -/
set_option maxRecDepth 4000
set_option linter.unusedSimpArgs false
set_option linter.unusedVariables false
namespace Go.Proofs.Ytnackbfnmhkodaa
open Go Go.RowKit Go.Proofs.Ytnackbfnmhkodaa.K Go.Proofs.Ytnackbfnmhkodaa.M

theorem leastG_le0 {f : Nat → Int} {a L : Nat} (hL : 0 < L) : leastG f a L ≤ 0 ↔ minF f a (L - 1) ≤ 0 := by
 obtain ⟨d, rfl⟩ : ∃ d, L = d + 1 := ⟨L - 1, by omega⟩
 rw [leastG_min, Nat.add_sub_cancel]; unfold INF; omega
theorem leastG_lt0 {f : Nat → Int} {a L : Nat} (hL : 0 < L) : leastG f a L < 0 ↔ minF f a (L - 1) < 0 := by
 obtain ⟨d, rfl⟩ : ∃ d, L = d + 1 := ⟨L - 1, by omega⟩
 rw [leastG_min, Nat.add_sub_cancel]; unfold INF; omega

set_option maxHeartbeats 4000000 in
theorem SRestG_C {R : Ro} {fa : Option Addr} {fc : Nat} {cf : Cv} (hvf : validB cf = true) (ha : RS R 1 encI fa cf.vals) {ga : Option Addr} {gc : Nat} {cg : Cv} (hvg : validB cg = true) (hb : RS R 1 encI ga cg.vals) {th : Nat} (hth : th ≤ 1048576) (w0 : World) (E : List Ent) : K.Fn Try.prog 14 [.agg #[.slice fa cf.vals.length fc, .int .i64 cf.per, .int .i64 cf.inc], .agg #[.slice ga cg.vals.length gc, .int .i64 cg.per, .int .i64 cg.inc], .int .i64 (th : Int)] w0 R E (fun r R' E' => ∃ (f : Option Addr) (fc : Nat), r = cvV f fc (shareN (normR cf) (normR cg) th) ∧ RS R' 1 encI f (shareN (normR cf) (normR cg) th).1.vals ∧ E.Sublist E') := by
 have hnf := norm_nrm hvf
 have hng := norm_nrm hvg
 refine Fn.enter (n := 154) Try.func14 rfl rfl (Nat.le_of_ble_eq_true rfl) rfl ?_
 refine W.seq (W.region _ ?_)
 refine WL.ef rfl rfl qD (Ef.box rfl rfl (fun b3 => ?_))
 refine WL.ef rfl rfl qD (Ef.box rfl rfl (fun b4 => ?_))
 refine WL.ef rfl rfl qD (Ef.alloc tab_ok rfl rfl (fun b6 => ?_))
 refine WG.run tab_ok 1 rfl (WG.nil (WE.nxt (W.seq (W.region _ ?_))))
 refine' WG.y rfl rfl qD (Yl.load1 tab_ok rfl rfl rfl (fun _ => rfl) ?r1 rfl ?h1) ?_
 case r1 => (exact Rd.blk 2 rfl)
 case h1 => rfl
 refine WL.call en32 rfl rfl qD (CallOp.mkT rfl rfl rfl rfl) (CNormalV_C hvf ha w0 _) ?_
 rintro _ R1 _ hR1 ⟨fa1x, ca1x, rfl, ha1x, hsub⟩
 refine WL.subE hsub ?_
 unfold cvV
 dsimp only at ha1x ⊢
 have hb := hb.mono hR1
 refine WG.run tab_ok 3 rfl ?_
 refine WL.ef rfl rfl qD (Ef.alloc tab_ok rfl rfl (fun b8 => ?_))
 refine WL.efN rfl rfl (Ef.store0 0 tab_ok rfl rfl rfl rfl rfl rfl rfl rfl ?_)
 refine WG.run tab_ok 1 rfl (WG.nil (WE.nxt (W.seq (W.seq (W.region _ (WG.run tab_ok 2 rfl (WG.nil (WE.nxt ?_))))))))
 refine W.condN rfl (fun hc0 => ?_) (fun hc0 => ?_)
 ·try dsimp only at hc0
  exact absurd rfl hc0
 ·try dsimp only at hc0
  refine W.skip (WE.nxt (W.seq (W.region _ ?_)))
  refine' WG.y rfl rfl qD (Yl.load1 tab_ok rfl rfl rfl (fun _ => rfl) ?r2 rfl ?h2) ?_
  case r2 => (exact Rd.blk 2 rfl)
  case h2 => rfl
  refine WL.call en32 rfl rfl qD (CallOp.mkT rfl rfl rfl rfl) (CNormalV_C hvg hb w0 _) ?_
  rintro _ R2 _ hR2 ⟨fa2x, ca2x, rfl, ha2x, hsub⟩
  refine WL.subE hsub ?_
  unfold cvV
  dsimp only at ha2x ⊢
  have ha1x := ha1x.mono hR2
  generalize normR cf = m1 at *
  generalize normR cg = m2 at *
  have hv1 := hnf.valid
  have hv2 := hng.valid
  have hlle := lcmC_le hv1 hv2
  have hlp := lcm_pos hv1 hv2
  have hs1 := stN_lt hv1
  have hs2 := stN_lt hv2
  refine WG.run tab_ok 3 rfl ?_
  refine WL.ef rfl rfl qD (Ef.alloc tab_ok rfl rfl (fun b10 => ?_))
  refine WL.efN rfl rfl (Ef.store0 0 tab_ok rfl rfl rfl rfl rfl rfl rfl rfl ?_)
  refine WG.run tab_ok 1 rfl (WG.nil (WE.nxt (W.seq (W.seq (W.region _ (WG.run tab_ok 2 rfl (WG.nil (WE.nxt ?_))))))))
  refine W.condN rfl (fun hc1 => ?_) (fun hc1 => ?_)
  ·try dsimp only at hc1
   exact absurd rfl hc1
  ·try dsimp only at hc1
   refine W.skip (WE.nxt (W.seq (W.seq (W.region _ (WG.run tab_ok 3 rfl ?_)))))
   refine WG.y rfl rfl qD (pureV_ok tab_ok rfl qE) ?_
   refine WG.y rfl rfl qD (pureV_ok tab_ok rfl qE) ?_
   refine WG.y rfl rfl (by decide) (Yl.por rfl rfl rfl (fun _ => rfl) (by intro h1 h2; simp_all <;> omega)) ?_
   refine WG.nil (WE.nxt ?_)
   refine W.cond rfl (fun hc2 => ?_) (fun hc2 => ?_)
   ·try simp only [kk] at hc2
    omega
   ·try simp only [kk] at hc2
    refine W.skip (WE.nxt (W.seq (W.region _ (WG.run tab_ok 1 rfl ?_))))
    refine' WG.y rfl rfl qD (Yl.load1 tab_ok rfl rfl rfl (fun _ => rfl) ?r3 rfl ?h3) ?_
    case r3 => apply Rd.add; (exact Rd.blk 1 rfl)
    case h3 => rfl
    refine WG.run tab_ok 1 rfl ?_
    refine' WG.y rfl rfl qD (Yl.load1 tab_ok rfl rfl rfl (fun _ => rfl) ?r4 rfl ?h4) ?_
    case r4 => apply Rd.add; (exact Rd.blk 0 rfl)
    case h4 => rfl
    refine WG.callV (v := .int .i64 (lcmC m1 m2 : Int)) en33 rfl rfl qD (CallOp.mk' rfl rfl rfl rfl) (fun _ => rfl) (fun hg => CommonC_V hv1 hv2) ?_
    refine WG.run tab_ok 1 rfl (WG.nil (WE.nxt (W.seq (W.seq (W.region _ (WG.run tab_ok 2 rfl (WG.nil (WE.nxt ?_))))))))
    refine W.condD rfl (fun hc3 => ?_) (fun hc3 => ?_)
    ·try dsimp only at hc3
     have hd : shareN m1 m2 th = (zcv, 3) := by unfold shareN; rw [if_pos (by omega)]
     refine W.seq (W.region _ ?_)
     -- build
     refine WG.y rfl rfl qD (Yl.build (parts := []) tab_ok rfl rfl rfl rfl (fun _ => rfl) rfl rfl) ?_
     refine WL.efN rfl rfl (Ef.store0 2 tab_ok rfl rfl rfl rfl rfl rfl rfl rfl ?_)
     refine WG.run tab_ok 1 rfl (WG.nil (WE.nxt (W.ret (WE.then_ret ?_))))
     refine WE.retF tab_ok [_, _] rfl ⟨⟨_, _, _, rfl, rfl, rfl, ((by first | exact Rd.blk 0 rfl | exact Rd.blk 1 rfl | exact Rd.blk 2 rfl | exact Rd.blk 3 rfl | exact Rd.blk 4 rfl | exact Rd.blk 5 rfl | exact Rd.blk 6 rfl | exact Rd.blk 7 rfl | exact Rd.blk 8 rfl | exact Rd.blk 9 rfl)), rfl⟩, rfl, trivial⟩ ((by first | exact hR1.trans hR2 | exact (hR1.trans hR2).trans hR3 | exact (hR1.trans hR2).trans (hR3.trans (hR4.trans hR5)))) ?_
     exact ⟨none, 0, by rw [hd]; rfl, by rw [hd]; exact rs_nil, qS⟩
    ·try dsimp only at hc3
     have hl1 : ¬ 120 < lcmC m1 m2 := by omega
     have hg1 := gainC_le hv1 (L := lcmC m1 m2) (by omega)
     have hg2 := gainC_le hv2 (L := lcmC m1 m2) (by omega)
     have hfr := frG_facts (th := th) hv1 hv2
     refine W.skip (WE.nxt (W.seq (W.region _ ?_)))
     refine' WG.y rfl rfl qD (Yl.load1 tab_ok rfl rfl rfl (fun _ => rfl) ?r5 rfl ?h5) ?_
     case r5 => (exact Rd.blk 1 rfl)
     case h5 => rfl
     refine' WG.y rfl rfl qD (Yl.load1 tab_ok rfl rfl rfl (fun _ => rfl) ?r6 rfl ?h6) ?_
     case r6 => (exact Rd.blk 0 rfl)
     case h6 => rfl
     refine WG.run tab_ok 1 rfl ?_
     -- build
     refine WG.y rfl rfl qD (Yl.build (parts := [(0, .tmp 54), (1, .tmp 55), (2, .tmp 56)]) tab_ok rfl rfl rfl rfl (fun _ => rfl) rfl rfl) ?_
     refine WL.ef rfl rfl qD (Ef.alloc tab_ok rfl rfl (fun b12 => ?_))
     refine WL.efN rfl rfl (Ef.store0 0 tab_ok rfl rfl rfl rfl rfl rfl rfl rfl ?_)
     refine WG.nil (WE.nxt (W.seq ?_))
     refine W.regionQ _ mixed qK ?_
     refine' WG.y rfl rfl qD (Yl.load1 tab_ok rfl rfl rfl (fun _ => rfl) ?r7 rfl ?h7) ?_
     case r7 => (exact Rd.blk 2 rfl)
     case h7 => rfl
     refine WG.run tab_ok 1 rfl ?_
     refine WG.callV (v := .int .i64 (gainC m1 (lcmC m1 m2))) en34 rfl rfl qD (CallOp.mk' rfl rfl rfl rfl) (fun _ => rfl) (fun hg => WGainG_V hv1 ha1x (L := lcmC m1 m2) qO) ?_
     refine' WG.y rfl rfl qD (Yl.load1 tab_ok rfl rfl rfl (fun _ => rfl) ?r8 rfl ?h8) ?_
     case r8 => (exact Rd.blk 1 rfl)
     case h8 => rfl
     refine WG.run tab_ok 1 rfl ?_
     refine WG.callV (v := .int .i64 (gainC m2 (lcmC m1 m2))) en34 rfl rfl qD (CallOp.mk' rfl rfl rfl rfl) (fun _ => rfl) (fun hg => WGainG_V hv2 ha2x (L := lcmC m1 m2) qO) ?_
     refine WG.y rfl rfl (by decide) (Yl.sub rfl rfl rfl (fun _ => rfl) (by intro _; constructor <;> (try dsimp only) <;> omega)) ?_
     rw [show gainC m1 (lcmC m1 m2) - gainC m2 (lcmC m1 m2) = driftG m1 m2 from rfl]
     refine WG.run tab_ok 1 rfl (WG.nil (WE.nxt (W.seq ?_)))
     refine W.regionQ _ mixed qK ?_
     refine' WG.y rfl rfl qD (Yl.load1 tab_ok rfl rfl rfl (fun _ => rfl) ?r9 rfl ?h9) ?_
     case r9 => (exact Rd.blk 2 rfl)
     case h9 => rfl
     refine WG.callV en35 rfl rfl qD (CallOp.mk' rfl rfl rfl rfl) (fun _ => rfl) (fun hg => WStartG_V hv1 ha1x) ?_
     refine' WG.y rfl rfl qD (Yl.load1 tab_ok rfl rfl rfl (fun _ => rfl) ?r10 rfl ?h10) ?_
     case r10 => (exact Rd.blk 1 rfl)
     case h10 => rfl
     refine WG.callV en35 rfl rfl qD (CallOp.mk' rfl rfl rfl rfl) (fun _ => rfl) (fun hg => WStartG_V hv2 ha2x) ?_
     refine WG.run tab_ok 1 rfl ?_
     refine WG.y rfl rfl (by decide) (Yl.add rfl rfl rfl (fun _ => rfl) (by intro _; constructor <;> (try dsimp only) <;> omega)) ?_
     refine WG.run tab_ok 1 rfl ?_
     refine WG.y rfl rfl (by decide) (Yl.add rfl rfl rfl (fun _ => rfl) (by intro _; constructor <;> (try dsimp only) <;> omega)) ?_
     refine WG.y rfl rfl qD (Yl.max3 rfl rfl rfl rfl (fun _ => rfl)) ?_
     refine WG.run tab_ok 1 rfl (WG.nil (WE.nxt ?_))
     have hfr3 : (if (if (stN m1 : Int) < (stN m2 : Int) + (th : Int) then (stN m2 : Int) + (th : Int) else (stN m1 : Int)) < (th : Int) + 1 then (th : Int) + 1 else (if (stN m1 : Int) < (stN m2 : Int) + (th : Int) then (stN m2 : Int) + (th : Int) else (stN m1 : Int))) = (frG m1 m2 th : Int) := by unfold frG; split <;> split <;> omega
     rw [hfr3]
     refine W.seq (W.region _ ?_)
     refine' WG.y rfl rfl qD (Yl.load1 tab_ok rfl rfl rfl (fun _ => rfl) ?r11 rfl ?h11) ?_
     case r11 => (exact Rd.blk 0 rfl)
     case h11 => rfl
     refine WG.run tab_ok 2 rfl ?_
     refine WG.callV en36 rfl rfl qD (CallOp.mk' rfl rfl rfl rfl) (fun _ => rfl) (fun hg => GapLeastG_V (c1 := ca1x) (c2 := ca2x) hv1 ha1x hv2 ha2x (th := th) (a := frG m1 m2 th) (n := lcmC m1 m2) qO) ?_
     refine WG.run tab_ok 1 rfl (WG.nil (WE.nxt (W.seq (W.seq (W.region _ ?_)))))
     refine' WG.y rfl rfl qD (Yl.load1 tab_ok rfl rfl rfl (fun _ => rfl) ?r12 rfl ?h12) ?_
     case r12 => (exact Rd.blk 1 rfl)
     case h12 => rfl
     refine WG.callV en37 rfl rfl qD (CallOp.mk' rfl rfl rfl rfl) (fun _ => rfl) (fun hg => WFiniteG_V hv2 ha2x) ?_
     refine WG.run tab_ok 2 rfl ?_
     refine' WG.y rfl rfl qD (Yl.loadG tab_ok rfl rfl rfl qE ?r13 rfl ?h13 ?g13) ?_
     case r13 => (exact Rd.blkC 2 rfl)
     case h13 => rfl
     case g13 => exact fun _ => trivial
     refine WG.callV en37 rfl rfl qD (CallOp.mk' rfl rfl rfl rfl) qE (fun hg => WFiniteG_V hv1 ha1x) ?_
     refine WG.y rfl rfl qD (pureV_ok tab_ok rfl qE) ?_
     refine WG.y rfl rfl qD (pureV_ok tab_ok rfl qE) ?_
     refine WG.y rfl rfl qD (pureV_ok tab_ok rfl qE) ?_
     refine WG.y rfl rfl qD (pureV_ok tab_ok rfl qE) ?_
     refine WG.y rfl rfl qD (pureV_ok tab_ok rfl qE) ?_
     refine WG.y rfl rfl qD (pureV_ok tab_ok rfl qE) ?_
     refine WG.y rfl rfl qD (pureV_ok tab_ok rfl qE) ?_
     refine WG.y rfl rfl qD (pureV_ok tab_ok rfl qE) ?_
     refine WG.y rfl rfl qD (pureV_ok tab_ok rfl qE) ?_
     refine WG.y rfl rfl (by decide) (Yl.pand rfl rfl rfl qE (by intro h1 h2; simp_all <;> omega)) ?_
     refine WG.y rfl rfl (by decide) (Yl.por rfl rfl rfl qE (by intro h1 h2; simp_all <;> omega)) ?_
     refine WG.y rfl rfl (by decide) (Yl.pand rfl rfl rfl qE (by intro h1 h2; simp_all <;> omega)) ?_
     refine WG.y rfl rfl (by decide) (Yl.por rfl rfl rfl (fun _ => rfl) (by intro h1 h2; simp_all <;> omega)) ?_
     refine WG.nil (WE.nxt ?_)
     refine W.cond rfl (fun hc4 => ?_) (fun hc4 => ?_)
     ·try simp only [kk] at hc4
      rw [leastG_le0 hlp] at hc4
      have hd : shareN m1 m2 th = (zeroC, 0) := by unfold shareN; rw [if_neg hl1, if_pos (show flatB m1 m2 th from hc4)]
      refine W.seq (W.region _ ?_)
      refine WL.call en38 rfl rfl qD (CallOp.mkT rfl rfl rfl rfl) (CFlat_C (k := 0) qD w0 _) ?_
      rintro _ R3 _ hR3 ⟨fz, fzc, rfl, hfz, hsubz⟩
      refine WL.subE hsubz ?_
      rw [flat_zero] at hfz ⊢
      unfold cvV
      dsimp only at hfz ⊢
      refine WG.run tab_ok 2 rfl ?_
      refine WL.efN rfl rfl (Ef.store0 3 tab_ok rfl rfl rfl rfl rfl rfl rfl rfl ?_)
      refine WG.run tab_ok 1 rfl (WG.nil (WE.nxt (W.ret (WE.then_ret ?_))))
      refine WE.retF tab_ok [_, _] rfl ⟨⟨_, _, _, rfl, rfl, rfl, ((by first | exact Rd.blk 0 rfl | exact Rd.blk 1 rfl | exact Rd.blk 2 rfl | exact Rd.blk 3 rfl | exact Rd.blk 4 rfl | exact Rd.blk 5 rfl | exact Rd.blk 6 rfl | exact Rd.blk 7 rfl | exact Rd.blk 8 rfl | exact Rd.blk 9 rfl)), rfl⟩, rfl, trivial⟩ ((by first | exact hR1.trans hR2 | exact (hR1.trans hR2).trans hR3 | exact (hR1.trans hR2).trans (hR3.trans (hR4.trans hR5)))) ?_
      exact ⟨fz, fzc, by rw [hd]; rfl, by rw [hd]; exact hfz, qS⟩
     ·try simp only [kk] at hc4
      have hnf4 : ¬ flatB m1 m2 th := fun h => by
       unfold flatB at h
       rw [← leastG_le0 hlp] at h
       obtain ⟨h4a, h4b⟩ := hc4
       rcases h with h | ⟨h1, h | ⟨h, h2⟩⟩
       ·rw [h4a] at h; cases h
       ·have := (h4b h1).1; omega
       ·have := (h4b h1).2 h; omega
      have hup := not_flat hnf4
      refine W.skip (WE.nxt (W.seq (W.seq (W.region _ (WG.run tab_ok 2 rfl (WG.nil (WE.nxt ?_)))))))
      refine W.condD rfl (fun hc5 => ?_) (fun hc5 => ?_)
      ·try dsimp only at hc5
       have hd : shareN m1 m2 th = (zcv, 3) := by unfold shareN; rw [if_neg hl1, if_neg hnf4, if_pos (by omega)]
       refine W.seq (W.region _ ?_)
       -- build
       refine WG.y rfl rfl qD (Yl.build (parts := []) tab_ok rfl rfl rfl rfl (fun _ => rfl) rfl rfl) ?_
       refine WL.efN rfl rfl (Ef.store0 3 tab_ok rfl rfl rfl rfl rfl rfl rfl rfl ?_)
       refine WG.run tab_ok 1 rfl (WG.nil (WE.nxt (W.ret (WE.then_ret ?_))))
       refine WE.retF tab_ok [_, _] rfl ⟨⟨_, _, _, rfl, rfl, rfl, ((by first | exact Rd.blk 0 rfl | exact Rd.blk 1 rfl | exact Rd.blk 2 rfl | exact Rd.blk 3 rfl | exact Rd.blk 4 rfl | exact Rd.blk 5 rfl | exact Rd.blk 6 rfl | exact Rd.blk 7 rfl | exact Rd.blk 8 rfl | exact Rd.blk 9 rfl)), rfl⟩, rfl, trivial⟩ ((by first | exact hR1.trans hR2 | exact (hR1.trans hR2).trans hR3 | exact (hR1.trans hR2).trans (hR3.trans (hR4.trans hR5)))) ?_
       exact ⟨none, 0, by rw [hd]; rfl, by rw [hd]; exact rs_nil, qS⟩
      ·try dsimp only at hc5
       have h400 : ¬ 400 ≤ th := by omega
       refine W.skip (WE.nxt (W.seq (W.region _ (WG.run tab_ok 2 rfl (WG.nil (WE.nxt ?_))))))
       refine W.seqCut (β := Nat × Nat × Int) (fun (f2, P, inc) => ((finB m1 = true ∧ 0 < driftG m1 m2) ∧ f2 = max (frG m1 m2 th) 400 ∧ P = lcmC m1 m2 ∧ inc = driftG m1 m2 ∧ ¬ minF (rawG m1 m2 th) (max (frG m1 m2 th) 400) (lcmC m1 m2 - 1) < 0) ∨ (¬ (finB m1 = true ∧ 0 < driftG m1 m2) ∧ f2 = frG m1 m2 th ∧ P = 1 ∧ inc = 0)) (fun (f2, P, inc) => [(2, true, .int .i64 (th : Int)), (6, true, .pointer (some ⟨b6, 0, none⟩)), (11, true, .int .i64 (lcmC m1 m2 : Int)), (12, true, .pointer (some ⟨b12, 0, none⟩)), (14, true, .int .i64 (f2 : Int)), (16, true, .int .i64 (P : Int)), (17, true, .int .i64 inc)]) (fun _ => R2) (fun _ => .blk b12 [.slice fa1x m1.vals.length ca1x, .int .i64 m1.per, .int .i64 m1.inc, .slice fa2x m2.vals.length ca2x, .int .i64 m2.per, .int .i64 m2.inc, .int .i64 (th : Int)] :: .blk b6 [.slice none 0 0, .int .i64 0, .int .i64 0] :: E) ?_ ?_
       ·
        intro zz hst
        obtain ⟨f2, P, inc⟩ := zz
        dsimp only at hst ⊢
        have hd : shareN m1 m2 th = mbuild (hG m1 m2 th) f2 P inc := by
         unfold shareN
         rw [if_neg hl1, if_neg hnf4, if_neg h400]
         rcases hst with ⟨h1, rfl, rfl, rfl, h5⟩ | ⟨h1, rfl, rfl, rfl⟩
         ·rw [if_pos h1, if_neg h5]
         ·rw [if_neg h1]
        have hf2 : frG m1 m2 th ≤ f2 ∧ f2 ≤ 800 ∧ 1 ≤ P ∧ P ≤ lcmC m1 m2 ∧ 0 ≤ inc ∧ inc ≤ 128849018880 := by
         rcases hst with ⟨h1, rfl, rfl, rfl, h5⟩ | ⟨h1, rfl, rfl, rfl⟩
         ·have := h1.2
          unfold driftG at this ⊢
          omega
         ·omega
        refine W.seq (W.region _ (WG.run tab_ok 2 rfl ?_))
        refine WG.y rfl rfl (by decide) (Yl.add rfl rfl rfl (fun _ => rfl) (by intro _; constructor <;> (try dsimp only) <;> omega)) ?_
        refine WL.ef rfl rfl (by decide) (Ef.makeSliceD (enc := encI) 0 tab_ok rfl rfl rfl rfl rfl rfl (by (try dsimp only) <;> omega) (by (try dsimp only) <;> omega) (by (try dsimp only) <;> omega) (by (try dsimp only) <;> omega) (by decide) rfl rfl (fun a122 => ?_))
        refine WL.ef rfl rfl qD (Ef.alloc tab_ok rfl rfl (fun b18 => ?_))
        refine WL.efN rfl rfl (Ef.store0 0 tab_ok rfl rfl rfl rfl rfl rfl rfl rfl ?_)
        refine WG.nil (WE.nxt ?_)
        rw [show ((f2 : Int) + (P : Int)).toNat = f2 + P by omega]
        refine W.seq (W.region _ ?_)
        refine' WG.y rfl rfl qD (Yl.load1 tab_ok rfl rfl rfl (fun _ => rfl) ?r14 rfl ?h14) ?_
        case r14 => (exact Rd.blk 2 rfl)
        case h14 => rfl
        refine WG.run tab_ok 2 rfl ?_
        refine WG.y rfl rfl (by decide) (Yl.add rfl rfl rfl (fun _ => rfl) (by intro _; constructor <;> (try dsimp only) <;> omega)) ?_
        refine WG.run tab_ok 1 rfl ?_
        refine WG.callV (v := .int .i64 (leastG (rawG m1 m2 th) (f2 + P) (lcmC m1 m2))) en36 rfl rfl qD (CallOp.mk' rfl rfl rfl rfl) (fun _ => rfl) (fun hg => GapLeastG_V (c1 := ca1x) (c2 := ca2x) hv1 ha1x hv2 ha2x (th := th) (a := f2 + P) (n := lcmC m1 m2) qO) ?_
        refine WG.run tab_ok 1 rfl (WG.nil (WE.nxt (W.seq (W.seq (W.region _ ?_)))))
        refine' WG.y rfl rfl qD (Yl.load1 tab_ok rfl rfl rfl (fun _ => rfl) ?r15 rfl ?h15) ?_
        case r15 => (exact Rd.blk 0 rfl)
        case h15 => rfl
        refine WG.run tab_ok 1 rfl ?_
        refine WG.y rfl rfl (by decide) (Yl.sub rfl rfl rfl (fun _ => rfl) (by intro _; constructor <;> (try dsimp only) <;> omega)) ?_
        rw [show ((f2 + P : Nat) : Int) - 1 = ((f2 + P - 1 : Nat) : Int) by omega]
        refine WG.run tab_ok 1 rfl (WG.nil (WE.nxt (W.block ?_)))
        refine W.loopK (β := Nat × Int × List Int) (fun (u, lst, xs) => (th ≤ u ∧ u + 1 ≤ f2 + P) ∧ xs.length = f2 + P ∧ lst = leastG (rawG m1 m2 th) (u + 1) (f2 + P + lcmC m1 m2 - (u + 1)) ∧ ∀ i, i < f2 + P → nth xs i = if u < i then (hG m1 m2 th) i else 0) (fun (u, lst, xs) => [(19, true, .int .i64 lst), (20, true, .int .i64 (u : Int))]) [2, 6, 12, 14, 16, 17, 18] [_, _, _, _, _, _, _] [] _ rfl (fun (u, lst, xs) => [(1, .sl 3 1 (some ⟨a122, 0, none⟩) (f2 + P) (xs.map encI))]) (fun (u, lst, xs) => u) ((f2 + P - 1, leastG (rawG m1 m2 th) (f2 + P) (lcmC m1 m2), List.replicate (f2 + P) 0)) (⟨⟨by (try dsimp only); omega, by (try dsimp only); omega⟩, by simp, by (try dsimp only); rw [show f2 + P - 1 + 1 = f2 + P by omega, show f2 + P + lcmC m1 m2 - (f2 + P) = lcmC m1 m2 by omega], fun i hi => by rw [if_neg (by (try dsimp only); omega)]; exact nth_replicate (by omega)⟩) ⟨rfl, rfl, rfl, rfl, rfl, rfl, rfl, rfl, rfl, rfl⟩ qS ?_
        intro zz hst
        obtain ⟨u, lst, xs⟩ := zz
        dsimp only [zipE, setAll, List.cons_append, List.nil_append, List.set_cons_zero, List.set_cons_succ] at hst ⊢
        obtain ⟨⟨hu1, hu2⟩, hxl, hlst, hxs⟩ := hst
        refine W.seq (W.seq (W.region _ (WG.run tab_ok 3 rfl (WG.nil (WE.nxt ?_)))))
        refine W.condD rfl (fun hc6 => ?_) (fun hc6 => ?_)
        ·try dsimp only at hc6
         obtain ⟨w, rfl⟩ : ∃ w, u = w + 1 := ⟨u - 1, by omega⟩
         refine W.skip (WE.nxt (W.seq (W.block (W.seq (W.region _ (WG.run tab_ok 1 rfl ?_))))))
         refine' WG.y rfl rfl qD (Yl.load1 tab_ok rfl rfl rfl (fun _ => rfl) ?r16 rfl ?h16) ?_
         case r16 => (exact Rd.blk 2 rfl)
         case h16 => rfl
         refine WG.run tab_ok 1 rfl ?_
         refine WG.callV (v := .int .i64 (rawG m1 m2 th (w + 1))) en39 rfl rfl qD (CallOp.mk' rfl rfl rfl rfl) (fun _ => rfl) (fun hg => GapRawG_V (c1 := ca1x) (c2 := ca2x) hv1 ha1x hv2 ha2x (th := th) (u := w + 1) qO) ?_
         refine WG.run tab_ok 2 rfl (WG.nil (WE.nxt (W.region _ ?_)))
         refine' WG.y rfl rfl qD (Yl.load1 tab_ok rfl rfl rfl (fun _ => rfl) ?r17 rfl ?h17) ?_
         case r17 => (exact Rd.blk 0 rfl)
         case h17 => rfl
         refine WG.run tab_ok 3 rfl ?_
         refine WG.y rfl rfl (by decide) (Yl.indexN tab_ok rfl rfl rfl rfl rfl rfl (fun _ => rfl) (by intro _; (try dsimp only) <;> omega) (by intro _; first | exact fun _ _ _ _ => rfl | exact RS.has (by assumption) | exact fun _ _ _ _ => (by assumption) | exact HasMem.ownD 0 rfl | exact HasMem.ownD 1 rfl | exact HasMem.ownD 2 rfl | exact HasMem.ownD 3 rfl | exact HasMem.ownD 4 rfl | exact HasMem.ownD 5 rfl | exact HasMem.ownD 6 rfl | exact HasMem.ownD 7 rfl | exact HasMem.ownD 8 rfl | exact HasMem.ownD 9 rfl)) ?_
         refine WL.efN rfl rfl (Ef.storeD _ 1 tab_ok rfl rfl rfl rfl rfl (by (try dsimp only) <;> omega) rfl rfl rfl rfl ?_)
         refine WG.nil (WE.blk _ (WE.nxt (W.region _ (WG.run tab_ok 1 rfl ?_))))
         refine WG.y rfl rfl (by decide) (Yl.sub rfl rfl rfl (fun _ => rfl) (by intro _; constructor <;> (try dsimp only) <;> omega)) ?_
         refine WG.run tab_ok 1 rfl (WG.nil ?_)
         have hnew : min lst (rawG m1 m2 th (w + 1)) = leastG (rawG m1 m2 th) (w + 1) (f2 + P + lcmC m1 m2 - (w + 1)) := by
          rw [show f2 + P + lcmC m1 m2 - (w + 1) = (f2 + P + lcmC m1 m2 - (w + 1 + 1)) + 1 by omega, leastG_cons, ← hlst]
         rw [show (if (rawG m1 m2 th (w + 1)) < lst then (rawG m1 m2 th (w + 1)) else lst) = min lst (rawG m1 m2 th (w + 1)) by split <;> omega, show (if 0 < min lst (rawG m1 m2 th (w + 1)) then min lst (rawG m1 m2 th (w + 1)) else 0) = max 0 (min lst (rawG m1 m2 th (w + 1))) by split <;> omega, show ((w + 1 : Nat) : Int) - 1 = (w : Int) by omega]
         refine WE.again ((w, min lst (rawG m1 m2 th (w + 1)), xs.set (w + 1) (max 0 (min lst (rawG m1 m2 th (w + 1)))))) (⟨⟨by omega, by omega⟩, by (try dsimp only); rw [List.length_set]; exact hxl, hnew, fun i hi => by
          (try dsimp only)
          by_cases e : i = w + 1
          ·subst e
           rw [nth_set_self (by omega), if_pos (by omega), hnew]
           have hw := hG_win (th := th) hv1 hv2 hup (u := w + 1) (m := f2 + P + lcmC m1 m2 - w - 2) (by omega) (by omega)
           rw [hw, show f2 + P + lcmC m1 m2 - (w + 1) = f2 + P + lcmC m1 m2 - w - 2 + 1 by omega, leastG_cap]
           have := rawG_top (th := th) hv1 hv2 (t := w + 1) (by omega)
           unfold INF at this ⊢
           omega
          ·rw [nth_set_ne (fun h => e h.symm), hxs i hi]
           by_cases h : w < i
           ·rw [if_pos h, if_pos (by omega)]
           ·rw [if_neg h, if_neg (by omega)]⟩) (by (try dsimp only); omega) ⟨rfl, rfl, rfl, rfl, rfl, rfl, rfl, rfl, rfl, rfl⟩ (RLe.refl _) qS
        ·try dsimp only at hc6
         obtain rfl : th = u := by omega
         refine W.exit ?_
         refine WE.then_exit (WE.then_exit (WE.blk_exit (WE.nxt ?_)))
         have hxv : xs = fvals (hG m1 m2 th) (f2 + P) := nth_ext (by rw [fvals_len]; exact hxl) (fun i hi => by
          rw [hxs i (by omega), fvals_nth _ (by omega)]
          by_cases h : th < i
          ·rw [if_pos h]
          ·rw [if_neg h, hG_low (by omega)])
         refine W.freeze (enc := encI) (xs := xs) 1 rfl ?_
         intro R3 hR3 hxr
         refine W.freezeBlk 0 rfl ?_
         intro R4 hR4 hb18
         have hF : ∀ t : Nat, t < f2 + P → FnV Try.prog 41 ((#[] : Array Value).toList ++ [.int .i64 (t : Int)] ++ (#[.pointer (some ⟨b18, 0, none⟩)] : Array Value).toList) R4 (.int .i64 ((hG m1 m2 th) t)) := fun t ht => by
          have h := RestFG_V (c := f2 + P) (xs := xs) (by rw [hxl]; exact hb18) (hxr.mono hR4) (t := t) (by omega)
          rw [show nth xs t = (hG m1 m2 th) t by rw [hxv, fvals_nth _ (by omega)]] at h
          exact h
         refine W.seq (W.region _ (WG.run tab_ok 4 rfl ?_))
         refine WL.call en40 rfl rfl qD (CallOp.mkT rfl rfl rfl rfl) (Build_C (S := f2) (P := P) (I := inc) (F := (hG m1 m2 th)) en41 qO qO qO (fun t ht => hG_top hv1 hv2 qO) hF w0 _) ?_
         rintro _ R5 E5 hR5 ⟨ff, ffc, rfl, hff, hsub5⟩
         refine WL.subE hsub5 ?_
         rw [← hd] at hff ⊢
         unfold cvV
         refine WG.run tab_ok 2 rfl ?_
         refine WL.efN rfl rfl (Ef.store0 1 tab_ok rfl rfl rfl rfl rfl rfl rfl rfl ?_)
         refine WG.run tab_ok 1 rfl (WG.nil (WE.nxt (W.ret ?_)))
         refine WE.retF tab_ok [_, _] rfl ⟨⟨_, _, _, rfl, rfl, rfl, ((by first | exact Rd.blk 0 rfl | exact Rd.blk 1 rfl | exact Rd.blk 2 rfl | exact Rd.blk 3 rfl | exact Rd.blk 4 rfl | exact Rd.blk 5 rfl | exact Rd.blk 6 rfl | exact Rd.blk 7 rfl | exact Rd.blk 8 rfl | exact Rd.blk 9 rfl)), rfl⟩, rfl, trivial⟩ ((by first | exact hR1.trans hR2 | exact (hR1.trans hR2).trans hR3 | exact (hR1.trans hR2).trans (hR3.trans (hR4.trans hR5)))) ?_
         exact ⟨ff, ffc, rfl, hff, qS⟩
       ·
        refine W.seq (W.region _ ?_)
        refine' WG.y rfl rfl qD (Yl.load1 tab_ok rfl rfl rfl (fun _ => rfl) ?r18 rfl ?h18) ?_
        case r18 => (exact Rd.blk 2 rfl)
        case h18 => rfl
        refine WG.callV en37 rfl rfl qD (CallOp.mk' rfl rfl rfl rfl) (fun _ => rfl) (fun hg => WFiniteG_V hv1 ha1x) ?_
        refine WG.run tab_ok 1 rfl ?_
        refine WG.y rfl rfl qD (pureV_ok tab_ok rfl qE) ?_
        refine WG.y rfl rfl qD (pureV_ok tab_ok rfl qE) ?_
        refine WG.y rfl rfl (by decide) (Yl.pand rfl rfl rfl (fun _ => rfl) (by intro h1 h2; simp_all <;> omega)) ?_
        refine WG.nil (WE.nxt ?_)
        refine W.cond rfl (fun hc7 => ?_) (fun hc7 => ?_)
        ·try simp only [kk] at hc7
         have hdc : (finB m1 = true ∧ 0 < driftG m1 m2) := by first | exact hc7 | simpa using hc7
         refine W.seq (W.seq (W.region _ (WG.run tab_ok 4 rfl (WG.nil (WE.nxt (W.seq (W.region _ (WG.run tab_ok 2 rfl (WG.nil (WE.nxt ?_))))))))))
         refine W.condD rfl (fun hc8 => ?_) (fun hc8 => ?_)
         ·try dsimp only at hc8
          refine W.region _ (WG.run tab_ok 1 rfl (WG.nil (WE.nxt (W.seq (W.region _ ?_)))))
          refine' WG.y rfl rfl qD (Yl.load1 tab_ok rfl rfl rfl (fun _ => rfl) ?r19 rfl ?h19) ?_
          case r19 => (exact Rd.blk 0 rfl)
          case h19 => rfl
          refine WG.run tab_ok 2 rfl ?_
          refine WG.callV (v := .int .i64 (leastG (rawG m1 m2 th) 400 (lcmC m1 m2))) en36 rfl rfl qD (CallOp.mk' rfl rfl rfl rfl) (fun _ => rfl) (fun hg => GapLeastG_V (c1 := ca1x) (c2 := ca2x) hv1 ha1x hv2 ha2x (th := th) (a := 400) (n := lcmC m1 m2) qO) ?_
          refine WG.run tab_ok 1 rfl (WG.nil (WE.nxt ?_))
          refine W.condD rfl (fun hc9 => ?_) (fun hc9 => ?_)
          ·try dsimp only at hc9
           have hd : shareN m1 m2 th = (zcv, 3) := by
            rw [leastG_lt0 hlp] at hc9
            unfold shareN; rw [if_neg hl1, if_neg hnf4, if_neg h400, if_pos hdc, if_pos]
            (rw [show max (frG m1 m2 th) 400 = 400 by omega]; exact hc9)
           refine W.seq (W.region _ ?_)
           -- build
           refine WG.y rfl rfl qD (Yl.build (parts := []) tab_ok rfl rfl rfl rfl (fun _ => rfl) rfl rfl) ?_
           refine WL.efN rfl rfl (Ef.store0 3 tab_ok rfl rfl rfl rfl rfl rfl rfl rfl ?_)
           refine WG.run tab_ok 1 rfl (WG.nil (WE.nxt (W.ret (WE.then_ret ?_))))
           refine WE.retF tab_ok [_, _] rfl ⟨⟨_, _, _, rfl, rfl, rfl, ((by first | exact Rd.blk 0 rfl | exact Rd.blk 1 rfl | exact Rd.blk 2 rfl | exact Rd.blk 3 rfl | exact Rd.blk 4 rfl | exact Rd.blk 5 rfl | exact Rd.blk 6 rfl | exact Rd.blk 7 rfl | exact Rd.blk 8 rfl | exact Rd.blk 9 rfl)), rfl⟩, rfl, trivial⟩ ((by first | exact hR1.trans hR2 | exact (hR1.trans hR2).trans hR3 | exact (hR1.trans hR2).trans (hR3.trans (hR4.trans hR5)))) ?_
           exact ⟨none, 0, by rw [hd]; rfl, by rw [hd]; exact rs_nil, qS⟩
          ·try dsimp only at hc9
           have hge : ¬ minF (rawG m1 m2 th) (max (frG m1 m2 th) 400) (lcmC m1 m2 - 1) < 0 := by
            rw [← leastG_lt0 hlp]
            (rw [show max (frG m1 m2 th) 400 = 400 by omega]; omega)
           refine W.skip ?_
           refine WE.cut (400, lcmC m1 m2, driftG m1 m2) (.inl ⟨hdc, by omega, rfl, rfl, hge⟩) ⟨rfl, rfl, rfl, rfl, rfl, rfl, rfl, rfl⟩ (RLe.refl _) qS
         ·try dsimp only at hc8
          refine W.skip (WE.nxt (W.seq (W.region _ ?_)))
          refine' WG.y rfl rfl qD (Yl.load1 tab_ok rfl rfl rfl (fun _ => rfl) ?r20 rfl ?h20) ?_
          case r20 => (exact Rd.blk 0 rfl)
          case h20 => rfl
          refine WG.run tab_ok 2 rfl ?_
          refine WG.callV (v := .int .i64 (leastG (rawG m1 m2 th) (frG m1 m2 th) (lcmC m1 m2))) en36 rfl rfl qD (CallOp.mk' rfl rfl rfl rfl) (fun _ => rfl) (fun hg => GapLeastG_V (c1 := ca1x) (c2 := ca2x) hv1 ha1x hv2 ha2x (th := th) (a := frG m1 m2 th) (n := lcmC m1 m2) qO) ?_
          refine WG.run tab_ok 1 rfl (WG.nil (WE.nxt ?_))
          refine W.condD rfl (fun hc10 => ?_) (fun hc10 => ?_)
          ·try dsimp only at hc10
           have hd : shareN m1 m2 th = (zcv, 3) := by
            rw [leastG_lt0 hlp] at hc10
            unfold shareN; rw [if_neg hl1, if_neg hnf4, if_neg h400, if_pos hdc, if_pos]
            (rw [show max (frG m1 m2 th) 400 = frG m1 m2 th by omega]; exact hc10)
           refine W.seq (W.region _ ?_)
           -- build
           refine WG.y rfl rfl qD (Yl.build (parts := []) tab_ok rfl rfl rfl rfl (fun _ => rfl) rfl rfl) ?_
           refine WL.efN rfl rfl (Ef.store0 3 tab_ok rfl rfl rfl rfl rfl rfl rfl rfl ?_)
           refine WG.run tab_ok 1 rfl (WG.nil (WE.nxt (W.ret (WE.then_ret ?_))))
           refine WE.retF tab_ok [_, _] rfl ⟨⟨_, _, _, rfl, rfl, rfl, ((by first | exact Rd.blk 0 rfl | exact Rd.blk 1 rfl | exact Rd.blk 2 rfl | exact Rd.blk 3 rfl | exact Rd.blk 4 rfl | exact Rd.blk 5 rfl | exact Rd.blk 6 rfl | exact Rd.blk 7 rfl | exact Rd.blk 8 rfl | exact Rd.blk 9 rfl)), rfl⟩, rfl, trivial⟩ ((by first | exact hR1.trans hR2 | exact (hR1.trans hR2).trans hR3 | exact (hR1.trans hR2).trans (hR3.trans (hR4.trans hR5)))) ?_
           exact ⟨none, 0, by rw [hd]; rfl, by rw [hd]; exact rs_nil, qS⟩
          ·try dsimp only at hc10
           have hge : ¬ minF (rawG m1 m2 th) (max (frG m1 m2 th) 400) (lcmC m1 m2 - 1) < 0 := by
            rw [← leastG_lt0 hlp]
            (rw [show max (frG m1 m2 th) 400 = frG m1 m2 th by omega]; omega)
           refine W.skip ?_
           refine WE.cut (frG m1 m2 th, lcmC m1 m2, driftG m1 m2) (.inl ⟨hdc, by omega, rfl, rfl, hge⟩) ⟨rfl, rfl, rfl, rfl, rfl, rfl, rfl, rfl⟩ (RLe.refl _) qS
        ·try simp only [kk] at hc7
         have hdc : ¬ (finB m1 = true ∧ 0 < driftG m1 m2) := fun h => by first | exact hc7 h | exact hc7 h.1 h.2 | (have := hc7 h.1; have := h.2; omega)
         refine W.skip ?_
         refine WE.cut (frG m1 m2 th, 1, 0) (.inr ⟨hdc, rfl, rfl, rfl⟩) ⟨rfl, rfl, rfl, rfl, rfl, rfl, rfl, rfl⟩ (RLe.refl _) qS

end Go.Proofs.Ytnackbfnmhkodaa

/- Chapter 17: what its laws use. No condition. -/
set_option maxRecDepth 4000
set_option linter.unusedSimpArgs false
set_option linter.unusedVariables false
namespace Go.Proofs.Ytnackbfnmhkodaa
open Go Go.RowKit Go.Proofs.Ytnackbfnmhkodaa.K Go.Proofs.Ytnackbfnmhkodaa.M

theorem share17 : shareN (normR (⟨[0], 1, 10⟩ : Cv)) (normR (⟨[0, 14, 14, 28], 2, 14⟩ : Cv)) 2 = (⟨[0, 0, 0, 16, 22], 2, 6⟩, 0) := by
 have e1 : normR (⟨[0], 1, 10⟩ : Cv) = (⟨[0], 1, 10⟩ : Cv) := by kernel_rfl
 have e2 : normR (⟨[0, 14, 14, 28], 2, 14⟩ : Cv) = ⟨[0, 14], 2, 14⟩ := by kernel_rfl
 rw [e1, e2]
 have hb : validB (⟨[0], 1, 10⟩ : Cv) = true := by kernel_rfl
 have ho : validB ⟨[0, 14], 2, 14⟩ = true := by kernel_rfl
 have fb : finB (⟨[0], 1, 10⟩ : Cv) = true := by kernel_rfl
 have fo : finB ⟨[0, 14], 2, 14⟩ = true := by kernel_rfl
 have hl : lcmC (⟨[0], 1, 10⟩ : Cv) ⟨[0, 14], 2, 14⟩ = 2 := by kernel_rfl
 have hd : driftG (⟨[0], 1, 10⟩ : Cv) ⟨[0, 14], 2, 14⟩ = 6 := by kernel_rfl
 have hfr : frG (⟨[0], 1, 10⟩ : Cv) ⟨[0, 14], 2, 14⟩ 2 = 3 := by kernel_rfl
 have hm : minF (rawG (⟨[0], 1, 10⟩ : Cv) ⟨[0, 14], 2, 14⟩ 2) 3 (2 - 1) = 16 := by kernel_rfl
 have hlate := raw_late (th := 2) hb ho fb fo (by omega) (S := 3) (by omega) (by rw [hl, hm]; decide)
 have r1 := share_rep1 (th := 2) hb ho fb fo (by omega) (S := 3) (by omega) (by omega) (by omega) hlate
 have r2 := share_rep1 (th := 2) hb ho fb fo (by omega) (S := 400) (by omega) (by omega) (by omega) (fun u hu => hlate u (by omega))
 have hneg : 0 ≤ minF (rawG (⟨[0], 1, 10⟩ : Cv) ⟨[0, 14], 2, 14⟩ 2) 400 (2 - 1) := minF_ge (fun u h1 h2 => hlate u (by omega))
 unfold shareN
 rw [if_neg (by omega), if_neg (fun h => by unfold flatB at h; rw [fo, hd] at h; rcases h with h | ⟨_, h | ⟨h, _⟩⟩ <;> first | cases h | omega), if_neg (by omega), if_pos ⟨fb, by omega⟩, hfr, show max 3 400 = 400 from rfl, hl, if_neg (by omega), hd]
 rw [hl, hd] at r1 r2
 rw [build_build_fin r2.hP r2.hg r1.hP r1.hg (fun t ht => r2.ne ht) (fun t ht => r1.ne ht)]
 show mbuild (hG (⟨[0], 1, 10⟩ : Cv) ⟨[0, 14], 2, 14⟩ 2) 3 2 6 = (⟨[0, 0, 0, 16, 22], 2, 6⟩, 0)
 kernel_rfl

set_option maxHeartbeats 1000000 in
theorem Awake17_C {R : Ro} (w0 : World) (E : List Ent) : K.Fn Try.prog 6 [] w0 R E (fun v R' E' => v = .bool true ∧ E.Sublist E') := by
 refine Fn.enter (n := 41) Try.func6 rfl rfl (Nat.le_of_ble_eq_true rfl) rfl ?_
 refine W.seq (W.region _ (WG.run tab_ok 1 rfl (WG.nil (WE.nxt (W.seq (W.region _ ?_))))))
 refine WL.ef rfl rfl qD (Ef.buildSliceD (enc := encI) (parts := [.const (.int .i64 0)]) [_] tab_ok rfl rfl rfl rfl rfl rfl rfl rfl qD qD (fun a5 => ?_))
 refine WL.freeze (enc := encI) (xs := ([0] : List Int)) 0 rfl ?_
 intro R1 hR1 hc1
 -- build
 refine WG.y rfl rfl qD (Yl.build (parts := [(0, .tmp 5), (1, .const (.int .i64 1)), (2, .const (.int .i64 10))]) tab_ok rfl rfl rfl rfl (fun _ => rfl) rfl rfl) ?_
 refine WL.ef rfl rfl qD (Ef.buildSliceD (enc := encI) (parts := [.const (.int .i64 0), .const (.int .i64 14), .const (.int .i64 14), .const (.int .i64 28)]) [_, _, _, _] tab_ok rfl rfl rfl rfl rfl rfl rfl rfl qD qD (fun a7 => ?_))
 refine WL.freeze (enc := encI) (xs := ([0, 14, 14, 28] : List Int)) 0 rfl ?_
 intro R2 hR2 hc2
 have hc1 := hc1.mono hR2
 -- build
 refine WG.y rfl rfl qD (Yl.build (parts := [(0, .tmp 7), (1, .const (.int .i64 2)), (2, .const (.int .i64 14))]) tab_ok rfl rfl rfl rfl (fun _ => rfl) rfl rfl) ?_
 refine WL.ef rfl rfl qD (Ef.alloc tab_ok rfl rfl (fun b1 => ?_))
 refine WL.ef rfl rfl qD (Ef.alloc tab_ok rfl rfl (fun b2 => ?_))
 refine WL.efN rfl rfl (Ef.store0 1 tab_ok rfl rfl rfl rfl rfl rfl rfl rfl ?_)
 refine WL.efN rfl rfl (Ef.store0 0 tab_ok rfl rfl rfl rfl rfl rfl rfl rfl ?_)
 refine WG.nil (WE.nxt (W.seq (W.region _ ?_)))
 refine' WG.y rfl rfl qD (Yl.load1 tab_ok rfl rfl rfl (fun _ => rfl) ?r1 rfl ?h1) ?_
 case r1 => (exact Rd.blk 1 rfl)
 case h1 => rfl
 refine' WG.y rfl rfl qD (Yl.load1 tab_ok rfl rfl rfl (fun _ => rfl) ?r2 rfl ?h2) ?_
 case r2 => (exact Rd.blk 0 rfl)
 case h2 => rfl
 refine WL.call en14 rfl rfl qD (CallOp.mkT rfl rfl rfl rfl) (SRestG_C (cf := (⟨[0], 1, 10⟩ : Cv)) (cg := (⟨[0, 14, 14, 28], 2, 14⟩ : Cv)) (th := 2) qK hc1 qK hc2 qD w0 _) ?_
 rintro _ R3 E2 hR3 ⟨f1, fc1, rfl, hf1, hsub2⟩
 rw [share17] at hf1 ⊢
 refine WL.subE hsub2 ?_
 unfold cvV
 refine WG.run tab_ok 3 rfl ?_
 refine WL.ef rfl rfl qD (Ef.alloc tab_ok rfl rfl (fun b3 => ?_))
 refine WL.efN rfl rfl (Ef.store0 0 tab_ok rfl rfl rfl rfl rfl rfl rfl rfl ?_)
 refine WG.run tab_ok 1 rfl (WG.nil (WE.nxt (W.seq (W.region _ (WG.run tab_ok 3 rfl ?_)))))
 refine WL.guardT rfl (by rfl) ?_
 refine' WG.y rfl rfl qD (Yl.load1 tab_ok rfl rfl rfl (fun _ => rfl) ?r3 rfl ?h3) ?_
 case r3 => (exact Rd.blk 0 rfl)
 case h3 => rfl
 refine WL.guardT rfl (by rfl) ?_
 refine WG.callV (v := .bool true) en27 rfl rfl qD (CallOp.mk' rfl rfl rfl rfl) (fun _ => rfl) (fun hg => by
  have h := Valid_V (per := 2) (inc := 6) (c := fc1) hf1 (by constructor <;> decide) (by constructor <;> decide) (by decide)
  exact h) ?_
 refine WG.y rfl rfl (by decide) (Yl.pand rfl rfl rfl (fun _ => rfl) (by intro h1 h2; simp_all <;> omega)) ?_
 refine WG.run tab_ok 1 rfl ?_
 refine WL.guardT rfl (by rfl) ?_
 refine' WG.y rfl rfl qD (Yl.load1 tab_ok rfl rfl rfl (fun _ => rfl) ?r4 rfl ?h4) ?_
 case r4 => (exact Rd.blk 0 rfl)
 case h4 => rfl
 refine WL.guardT rfl (by rfl) ?_
 refine WG.callV (v := .int .i64 0) en28 rfl rfl qD (CallOp.mk' rfl rfl rfl rfl) (fun _ => rfl) (fun hg => by
  have h := At_V (t := 2) (per := 2) (inc := 6) (c := fc1) hf1 (by constructor <;> decide) ⟨by constructor <;> decide, by decide⟩ (by decide) (by decide)
  exact h) ?_
 refine WL.guardT rfl (by rfl) ?_
 refine WG.y rfl rfl qD (pureV_ok tab_ok rfl (fun _ => rfl)) ?_
 refine WG.y rfl rfl (by decide) (Yl.pand rfl rfl rfl (fun _ => rfl) (by intro h1 h2; simp_all <;> omega)) ?_
 refine WG.run tab_ok 1 rfl ?_
 refine WL.guardT rfl (by rfl) ?_
 refine' WG.y rfl rfl qD (Yl.load1 tab_ok rfl rfl rfl (fun _ => rfl) ?r5 rfl ?h5) ?_
 case r5 => (exact Rd.blk 0 rfl)
 case h5 => rfl
 refine WL.guardT rfl (by rfl) ?_
 refine WG.callV (v := .int .i64 16) en28 rfl rfl qD (CallOp.mk' rfl rfl rfl rfl) (fun _ => rfl) (fun hg => by
  have h := At_V (t := 3) (per := 2) (inc := 6) (c := fc1) hf1 (by constructor <;> decide) ⟨by constructor <;> decide, by decide⟩ (by decide) (by decide)
  exact h) ?_
 refine WL.guardT rfl (by rfl) ?_
 refine WG.y rfl rfl qD (pureV_ok tab_ok rfl (fun _ => rfl)) ?_
 refine WG.y rfl rfl (by decide) (Yl.pand rfl rfl rfl (fun _ => rfl) (by intro h1 h2; simp_all <;> omega)) ?_
 refine WG.run tab_ok 1 rfl ?_
 refine WL.guardT rfl (by rfl) ?_
 refine' WG.y rfl rfl qD (Yl.load1 tab_ok rfl rfl rfl (fun _ => rfl) ?r6 rfl ?h6) ?_
 case r6 => (exact Rd.blk 0 rfl)
 case h6 => rfl
 refine WL.guardT rfl (by rfl) ?_
 refine WG.callV (v := .int .i64 22) en28 rfl rfl qD (CallOp.mk' rfl rfl rfl rfl) (fun _ => rfl) (fun hg => by
  have h := At_V (t := 5) (per := 2) (inc := 6) (c := fc1) hf1 (by constructor <;> decide) ⟨by constructor <;> decide, by decide⟩ (by decide) (by decide)
  exact h) ?_
 refine WL.guardT rfl (by rfl) ?_
 refine WG.y rfl rfl qD (pureV_ok tab_ok rfl (fun _ => rfl)) ?_
 refine WG.y rfl rfl (by decide) (Yl.pand rfl rfl rfl (fun _ => rfl) (by intro h1 h2; simp_all <;> omega)) ?_
 refine WG.run tab_ok 1 rfl ?_
 refine WL.guardT rfl (by rfl) ?_
 refine' WG.y rfl rfl qD (Yl.load1 tab_ok rfl rfl rfl (fun _ => rfl) ?r7 rfl ?h7) ?_
 case r7 => (exact Rd.blk 0 rfl)
 case h7 => rfl
 refine WL.guardT rfl (by rfl) ?_
 refine WG.callV (v := .int .i64 28) en28 rfl rfl qD (CallOp.mk' rfl rfl rfl rfl) (fun _ => rfl) (fun hg => by
  have h := At_V (t := 6) (per := 2) (inc := 6) (c := fc1) hf1 (by constructor <;> decide) ⟨by constructor <;> decide, by decide⟩ (by decide) (by decide)
  exact h) ?_
 refine WL.guardT rfl (by rfl) ?_
 refine WG.y rfl rfl qD (pureV_ok tab_ok rfl (fun _ => rfl)) ?_
 refine WG.y rfl rfl (by decide) (Yl.pand rfl rfl rfl (fun _ => rfl) (by intro h1 h2; simp_all <;> omega)) ?_
 refine WG.run tab_ok 1 rfl (WG.nil (WE.nxt (W.ret ?_)))
 refine WE.retF tab_ok [_] rfl ⟨rfl, trivial⟩ (hR1.trans (hR2.trans hR3)) ?_
 exact ⟨rfl, qS⟩

end Go.Proofs.Ytnackbfnmhkodaa

/- A curve in which one thing is changed. No condition. -/
set_option maxRecDepth 4000
set_option linter.unusedSimpArgs false
set_option linter.unusedVariables false
namespace Go.Proofs.Ytnackbfnmhkodaa
open Go Go.RowKit Go.Proofs.Ytnackbfnmhkodaa.K Go.Proofs.Ytnackbfnmhkodaa.M

theorem Bent_C {R : Ro} {b : Nat} {a : Option Addr} {cp : Nat} {xs : List Int} {c : Nat} {fa : Option Addr} {fc : Nat} {c1 : Cv} (w0 : World) (ha : RS R 1 encI a xs) (hv : validB c1 = true) (hx : RS R 1 encI fa c1.vals) : FnAt Try.prog 9 [.pointer (some ⟨b, 0, none⟩), .agg #[.slice fa c1.vals.length fc, .int .i64 c1.per, .int .i64 c1.inc]] w0 R (srcE b a cp xs c) (fun v R' e' N => ∃ (f : Option Addr) (fc cn : Nat) (cv : Cv), v = .agg #[.slice f cv.vals.length fc, .int .i64 cv.per, .int .i64 cv.inc] ∧ RS R' 1 encI f cv.vals ∧ cv.vals.length ≤ 500 ∧ cv.vals.length ≤ fc ∧ e' = srcE b a cp xs cn ∧ N = []) := by
 intro F
 obtain ⟨hvr, hl1, hl4, hp1, hp2, hp3, hi1, hi2⟩ := valid_range hv
 refine Fn.enter (n := 96) Try.func9 rfl rfl (Nat.le_of_ble_eq_true rfl) rfl ?_
 refine W.seq (W.region _ ?_)
 refine WL.ef rfl rfl qD (Ef.box rfl rfl (fun b3 => ?_))
 refine WL.ef rfl rfl qD (Ef.alloc tab_ok rfl rfl (fun b4 => ?_))
 refine WG.nil (WE.nxt ?_)
 refine W.seqCut (β := Nat × Option Addr × Nat) (fun (b5, a10, c10) => True) (fun (b5, a10, c10) => [(0, true, .pointer (some ⟨b, 0, none⟩)), (4, true, .pointer (some ⟨b4, 0, none⟩)), (5, true, .pointer (some ⟨b5, 0, none⟩))]) (fun _ => R) (fun (b5, a10, c10) => .blk b5 [.slice a10 c1.vals.length c10, .int .i64 c1.per, .int .i64 c1.inc] :: .sl 3 1 a10 c10 ((c1.vals).map encI) :: .blk b4 [.slice none 0 0, .int .i64 0, .int .i64 0] :: .blk b3 [.slice fa c1.vals.length fc, .int .i64 c1.per, .int .i64 c1.inc] :: srcE b a cp xs c :: F) ?_ ?_
 ·
  intro st hst
  obtain ⟨b5, a10, c10⟩ := st
  dsimp only
  refine W.seq (W.seq (W.region _ (WG.run tab_ok 1 rfl ?_)))
  refine' WG.y rfl rfl qD (Yl.load1 tab_ok rfl rfl rfl (fun _ => rfl) ?r1 rfl ?h1) ?_
  case r1 => apply Rd.add; (exact Rd.blk 0 rfl)
  case h1 => rfl
  refine WG.run tab_ok 2 rfl (WG.nil (WE.nxt ?_))
  refine W.condE rfl (fun hc0 => ?_) (fun hc0 => ?_)
  ·try dsimp only at hc0
   omega
  ·try dsimp only at hc0
   refine W.skip (WE.nxt (W.seq (W.region _ (WG.run tab_ok 2 rfl ?_))))
   refine' WG.y rfl rfl qD (Yl.load1 tab_ok rfl rfl rfl (fun _ => rfl) ?r2 rfl ?h2) ?_
   case r2 => apply Rd.add; (exact Rd.blk 0 rfl)
   case h2 => rfl
   refine WG.run tab_ok 1 rfl ?_
   refine WL.callAt 4 en12 rfl rfl qD (CallOp.mkT rfl rfl rfl rfl) rfl (N_C w0 ha (by constructor <;> omega) _) ?_
   rintro _ _ _ _ - ⟨rfl, rfl, rfl, rfl⟩
   have hm1 := mod_range (nth xs c) (show (1 : Int) ≤ (c1.vals.length : Int) by omega)
   obtain ⟨i, hi⟩ := Int.eq_ofNat_of_zero_le (show 0 ≤ mod (nth xs c) (c1.vals.length : Int) by omega)
   rw [hi] at hm1 ⊢
   have hbi := hvr _ (nth_mem (xs := c1.vals) (k := i) (by omega))
   have hbj : -2305843009213693952 ≤ nth c1.vals ((i : Int)).toNat ∧ nth c1.vals ((i : Int)).toNat ≤ 4611686018427387904 := hbi
   have hin : ((i : Int)).toNat = i := rfl
   refine WG.run tab_ok 1 rfl (WG.nil (WE.nxt (W.seq (W.seq (W.region _ (WG.run tab_ok 1 rfl ?_))))))
   refine WL.callAt 4 en12 rfl rfl qD (CallOp.mkT rfl rfl rfl rfl) rfl (N_C w0 ha (by constructor <;> decide) _) ?_
   rintro _ _ _ _ - ⟨rfl, rfl, rfl, rfl⟩
   refine WG.nil (WE.nxt (W.block (W.seq (W.region _ (WG.run tab_ok 2 rfl (WG.nil (WE.nxt ?_)))))))
   refine W.condE rfl (fun hc1 => ?_) (fun hc1 => ?_)
   ·try dsimp only at hc1
    refine W.regionH _ (ES := [.blk b5 [.slice a10 c1.vals.length c10, .int .i64 c1.per, .int .i64 c1.inc]]) mixed ?_
    refine WA.take 0 rfl qK qK qK rfl rfl qD (pureV_ok tab_ok rfl (fun _ => rfl)) qS qR ?_
    refine' WA.take 1 rfl qK qK qK rfl rfl qD (Yl.load1 tab_ok rfl rfl rfl (fun _ => rfl) ?r3 rfl ?h3) qS qR ?_
    case r3 => apply Rd.add; (exact Rd.blk 0 rfl)
    case h3 => rfl
    refine WA.take 2 rfl qK qK qK rfl rfl qD (pureV_ok tab_ok rfl (fun _ => rfl)) qS qR ?_
    refine WA.take 3 rfl qK qK qK rfl rfl qD (pureV_ok tab_ok rfl (fun _ => rfl)) qS qR ?_
    refine WA.eff 4 rfl qK rfl rfl qD (Ef.buildSliceD (enc := encI) (parts := [.const (.int .i64 (-1)), .const (.int .i64 0), .const (.int .i64 1073741824), .const (.int .i64 1073741825), .const (.int .i64 4611686018427387904), .const (.int .i64 4611686018427387905)]) [_, _, _, _, _, _] tab_ok rfl rfl rfl rfl rfl rfl rfl rfl qD qD (fun a54 => ?_))
    refine ⟨by first | exact RLe.refl _ | assumption, qS, ?_⟩
    refine WA.callAt 5 5 rfl qK en13 rfl rfl qD (CallOp.mkT rfl rfl rfl rfl) rfl (PickM_C (j := 0) w0 ([-1, 0, 1073741824, 1073741825, 4611686018427387904, 4611686018427387905] : List Int) rfl qD qD ha rfl) ?_
    rintro _ _ _ _ - ⟨rfl, rfl, rfl, rfl⟩
    refine ⟨RLe.refl _, qS, ?_⟩
    refine WA.yl 6 rfl (by kernel_rfl) rfl rfl (by decide) (Yl.index tab_ok rfl rfl rfl rfl rfl rfl (fun _ => rfl) (by intro _; constructor <;> (try dsimp only) <;> omega) (by intro _; first | exact fun _ _ _ _ => ha10 (by omega) | exact fun _ _ _ _ => rfl | exact RS.has (by assumption) | exact fun _ _ _ _ => (by assumption) | exact HasMem.ownD 0 rfl | exact HasMem.ownD 1 rfl | exact HasMem.ownD 2 rfl | exact HasMem.ownD 3 rfl | exact HasMem.ownD 4 rfl | exact HasMem.ownD 5 rfl)) qS (by first | exact RLe.refl _ | assumption) ?_
    refine WA.effN 7 rfl (by kernel_rfl) rfl rfl (Ef.storeD _ 2 tab_ok rfl rfl rfl rfl rfl (by (try dsimp only) <;> omega) rfl rfl rfl rfl ?_)
    refine ⟨by first | exact RLe.refl _ | assumption, qS, ?_⟩
    refine WA.done qK ?_
    refine WE.blk _ (WE.nxt ?_)
    (refine W.cap 2 rfl ?_; intro hcp; rw [List.length_map] at hcp; (try rw [List.length_set] at hcp); refine W.freeze (enc := encI) 2 rfl ?_; intro R1 hR1 hfz)
    refine W.seq (W.region _ ?_)
    refine' WG.y rfl rfl qD (Yl.load1 tab_ok rfl rfl rfl (fun _ => rfl) ?r4 rfl ?h4) ?_
    case r4 => (exact Rd.blk 1 rfl)
    case h4 => rfl
    refine WL.efN rfl rfl (Ef.store0 2 tab_ok rfl rfl rfl rfl rfl rfl rfl rfl ?_)
    refine WG.nil (WE.nxt (W.ret ?_))
    refine WE.retFS (E' := srcE b a cp xs (c + 1 + 1 + 1) :: F) qS tab_ok [_] rfl ⟨⟨_, _, _, rfl, rfl, rfl, ((by first | exact Rd.blk 0 rfl | exact Rd.blk 1 rfl | exact Rd.blk 2 rfl | exact Rd.blk 3 rfl | exact Rd.blk 4 rfl | exact Rd.blk 5 rfl)), rfl⟩, trivial⟩ (hR1) ?_
    exact ⟨_, [], rfl, a10, c10, _, ⟨c1.vals.set ((i : Int)).toNat (_), c1.per, c1.inc⟩, by (try dsimp only); rw [List.length_set]; rfl, hfz, by (try dsimp only); (try rw [List.length_set]); omega, by (try dsimp only); (try rw [List.length_set]); omega, rfl, rfl⟩
   ·try dsimp only at hc1
    refine W.seq (W.region _ (WG.run tab_ok 2 rfl (WG.nil (WE.nxt ?_))))
    refine W.condE rfl (fun hc2 => ?_) (fun hc2 => ?_)
    ·try dsimp only at hc2
     refine W.region _ (WG.run tab_ok 2 rfl ?_)
     refine' WG.y rfl rfl qD (Yl.load1 tab_ok rfl rfl rfl (fun _ => rfl) ?r5 rfl ?h5) ?_
     case r5 => apply Rd.add; (exact Rd.blk 0 rfl)
     case h5 => rfl
     refine WG.run tab_ok 2 rfl ?_
     refine' WG.y rfl rfl qD (Yl.load1 tab_ok rfl rfl rfl (fun _ => rfl) ?r6 rfl ?h6) ?_
     case r6 => apply Rd.add; (exact Rd.blk 0 rfl)
     case h6 => rfl
     refine WG.run tab_ok 1 rfl ?_
     refine WG.y rfl rfl (by decide) (Yl.add rfl rfl rfl (fun _ => rfl) (by intro _; constructor <;> (try dsimp only) <;> omega)) ?_
     refine WL.ef rfl rfl qD (Ef.buildSliceD (enc := encI) (parts := [.const (.int .i64 (-1)), .const (.int .i64 0), .const (.int .i64 1), .tmp 62, .tmp 66, .const (.int .i64 121)]) [_, _, _, _, _, _] tab_ok rfl rfl rfl rfl rfl rfl rfl rfl qD qD (fun a67 => ?_))
     refine WL.callAt 5 en13 rfl rfl qD (CallOp.mkT rfl rfl rfl rfl) rfl (PickM_C (j := 0) w0 ([-1, 0, 1, (c1.vals.length : Int), (c1.vals.length : Int) + 1, 121] : List Int) rfl qD qD ha rfl) ?_
     rintro _ _ _ _ - ⟨rfl, rfl, rfl, rfl⟩
     refine WG.run tab_ok 1 rfl ?_
     refine WL.efN rfl rfl (Ef.store 1 tab_ok rfl rfl rfl rfl rfl rfl rfl rfl ?_)
     refine WG.nil (WE.blk _ (WE.nxt ?_))
     (refine W.cap 2 rfl ?_; intro hcp; rw [List.length_map] at hcp; (try rw [List.length_set] at hcp); refine W.freeze (enc := encI) 2 rfl ?_; intro R1 hR1 hfz)
     refine W.seq (W.region _ ?_)
     refine' WG.y rfl rfl qD (Yl.load1 tab_ok rfl rfl rfl (fun _ => rfl) ?r7 rfl ?h7) ?_
     case r7 => (exact Rd.blk 1 rfl)
     case h7 => rfl
     refine WL.efN rfl rfl (Ef.store0 2 tab_ok rfl rfl rfl rfl rfl rfl rfl rfl ?_)
     refine WG.nil (WE.nxt (W.ret ?_))
     refine WE.retFS (E' := srcE b a cp xs (c + 1 + 1 + 1) :: F) qS tab_ok [_] rfl ⟨⟨_, _, _, rfl, rfl, rfl, ((by first | exact Rd.blk 0 rfl | exact Rd.blk 1 rfl | exact Rd.blk 2 rfl | exact Rd.blk 3 rfl | exact Rd.blk 4 rfl | exact Rd.blk 5 rfl)), rfl⟩, trivial⟩ (hR1) ?_
     exact ⟨_, [], rfl, a10, c10, _, ⟨c1.vals, nth ([-1, 0, 1, (c1.vals.length : Int), (c1.vals.length : Int) + 1, 121] : List Int) (mod (nth xs (c + 1 + 1)) ((6 : Nat) : Int)).toNat, c1.inc⟩, rfl, hfz, by (try dsimp only); (try rw [List.length_set]); omega, by (try dsimp only); (try rw [List.length_set]); omega, rfl, rfl⟩
    ·try dsimp only at hc2
     refine W.seq (W.region _ (WG.run tab_ok 2 rfl (WG.nil (WE.nxt ?_))))
     refine W.condE rfl (fun hc3 => ?_) (fun hc3 => ?_)
     ·try dsimp only at hc3
      refine W.region _ (WG.run tab_ok 1 rfl ?_)
      refine WL.ef rfl rfl qD (Ef.buildSliceD (enc := encI) (parts := [.const (.int .i64 (-1)), .const (.int .i64 0), .const (.int .i64 1073741824), .const (.int .i64 1073741825)]) [_, _, _, _] tab_ok rfl rfl rfl rfl rfl rfl rfl rfl qD qD (fun a73 => ?_))
      refine WL.callAt 5 en13 rfl rfl qD (CallOp.mkT rfl rfl rfl rfl) rfl (PickM_C (j := 0) w0 ([-1, 0, 1073741824, 1073741825] : List Int) rfl qD qD ha rfl) ?_
      rintro _ _ _ _ - ⟨rfl, rfl, rfl, rfl⟩
      refine WG.run tab_ok 1 rfl ?_
      refine WL.efN rfl rfl (Ef.store 1 tab_ok rfl rfl rfl rfl rfl rfl rfl rfl ?_)
      refine WG.nil (WE.blk _ (WE.nxt ?_))
      (refine W.cap 2 rfl ?_; intro hcp; rw [List.length_map] at hcp; (try rw [List.length_set] at hcp); refine W.freeze (enc := encI) 2 rfl ?_; intro R1 hR1 hfz)
      refine W.seq (W.region _ ?_)
      refine' WG.y rfl rfl qD (Yl.load1 tab_ok rfl rfl rfl (fun _ => rfl) ?r8 rfl ?h8) ?_
      case r8 => (exact Rd.blk 1 rfl)
      case h8 => rfl
      refine WL.efN rfl rfl (Ef.store0 2 tab_ok rfl rfl rfl rfl rfl rfl rfl rfl ?_)
      refine WG.nil (WE.nxt (W.ret ?_))
      refine WE.retFS (E' := srcE b a cp xs (c + 1 + 1 + 1) :: F) qS tab_ok [_] rfl ⟨⟨_, _, _, rfl, rfl, rfl, ((by first | exact Rd.blk 0 rfl | exact Rd.blk 1 rfl | exact Rd.blk 2 rfl | exact Rd.blk 3 rfl | exact Rd.blk 4 rfl | exact Rd.blk 5 rfl)), rfl⟩, trivial⟩ (hR1) ?_
      exact ⟨_, [], rfl, a10, c10, _, ⟨c1.vals, c1.per, nth ([-1, 0, 1073741824, 1073741825] : List Int) (mod (nth xs (c + 1 + 1)) ((4 : Nat) : Int)).toNat⟩, rfl, hfz, by (try dsimp only); (try rw [List.length_set]); omega, by (try dsimp only); (try rw [List.length_set]); omega, rfl, rfl⟩
     ·try dsimp only at hc3
      refine W.seq (W.region _ (WG.run tab_ok 2 rfl (WG.nil (WE.nxt ?_))))
      refine W.condE rfl (fun hc4 => ?_) (fun hc4 => ?_)
      ·try dsimp only at hc4
       refine W.cap 1 rfl ?_
       intro hcp
       rw [List.length_map] at hcp
       (try rw [List.length_set] at hcp)
       refine W.freeze (enc := encI) 1 rfl ?_
       intro R1 hR1 hfz
       refine W.region _ (WG.run tab_ok 1 rfl ?_)
       refine' WG.y rfl rfl qD (Yl.load1 tab_ok rfl rfl rfl (fun _ => rfl) ?r9 rfl ?h9) ?_
       case r9 => apply Rd.add; (exact Rd.blk 0 rfl)
       case h9 => rfl
       refine WG.run tab_ok 1 rfl ?_
       refine WG.y rfl rfl qD (Yl.sliceH tab_ok rfl rfl rfl rfl rfl (fun _ => rfl) (by intro _; omega) rfl) ?_
       refine WG.run tab_ok 1 rfl ?_
       refine WL.efN rfl rfl (Ef.store 0 tab_ok rfl rfl rfl rfl rfl rfl rfl rfl ?_)
       refine WG.nil (WE.blk _ (WE.nxt ?_))
       skip
       refine W.seq (W.region _ ?_)
       refine' WG.y rfl rfl qD (Yl.load1 tab_ok rfl rfl rfl (fun _ => rfl) ?r10 rfl ?h10) ?_
       case r10 => (exact Rd.blk 0 rfl)
       case h10 => rfl
       refine WL.efN rfl rfl (Ef.store0 1 tab_ok rfl rfl rfl rfl rfl rfl rfl rfl ?_)
       refine WG.nil (WE.nxt (W.ret ?_))
       refine WE.retFS (E' := srcE b a cp xs (c + 1 + 1) :: F) qS tab_ok [_] rfl ⟨⟨_, _, _, rfl, rfl, rfl, ((by first | exact Rd.blk 0 rfl | exact Rd.blk 1 rfl | exact Rd.blk 2 rfl | exact Rd.blk 3 rfl | exact Rd.blk 4 rfl | exact Rd.blk 5 rfl)), rfl⟩, trivial⟩ (hR1) ?_
       exact ⟨_, [], rfl, a10, c10, _, ⟨c1.vals.take ((i : Int)).toNat, c1.per, c1.inc⟩, by (try dsimp only); rw [List.length_take, Nat.min_eq_left (by omega)]; rfl, hfz.take _, by (try dsimp only); rw [List.length_take]; omega, by (try dsimp only); rw [List.length_take]; omega, rfl, rfl⟩
      ·try dsimp only at hc4
       refine W.seq (W.region _ (WG.run tab_ok 2 rfl (WG.nil (WE.nxt ?_))))
       refine W.condE rfl (fun hc5 => ?_) (fun hc5 => ?_)
       ·try dsimp only at hc5
        have hm2 := mod_range (nth xs (c + 1 + 1)) (show (1 : Int) ≤ 5 by decide)
        refine W.regionH _ (ES := [.blk b5 [.slice a10 c1.vals.length c10, .int .i64 c1.per, .int .i64 c1.inc]]) mixed ?_
        refine WA.take 0 rfl qK qK qK rfl rfl qD (pureV_ok tab_ok rfl (fun _ => rfl)) qS qR ?_
        refine' WA.take 1 rfl qK qK qK rfl rfl qD (Yl.load1 tab_ok rfl rfl rfl (fun _ => rfl) ?r11 rfl ?h11) qS qR ?_
        case r11 => apply Rd.add; (exact Rd.blk 0 rfl)
        case h11 => rfl
        refine WA.take 2 rfl qK qK qK rfl rfl qD (pureV_ok tab_ok rfl (fun _ => rfl)) qS qR ?_
        refine WA.take 5 rfl qK qK qK rfl rfl qD (pureV_ok tab_ok rfl (fun _ => rfl)) qS qR ?_
        refine WA.br2 (i := 3) (j := 6) qK ?_ ?_
        ·
         refine WS.yl rfl rfl rfl (by decide) (Yl.index tab_ok rfl rfl rfl rfl rfl rfl (fun _ => rfl) (by intro _; constructor <;> (try dsimp only) <;> omega) (by intro _; first | exact fun _ _ _ _ => ha10 (by omega) | exact fun _ _ _ _ => rfl | exact RS.has (by assumption) | exact fun _ _ _ _ => (by assumption) | exact HasMem.ownD 0 rfl | exact HasMem.ownD 1 rfl | exact HasMem.ownD 2 rfl | exact HasMem.ownD 3 rfl | exact HasMem.ownD 4 rfl | exact HasMem.ownD 5 rfl)) qS (by first | exact RLe.refl _ | assumption) ?_
         refine WA.br2 (i := 4) (j := 6) qK ?_ ?_
         ·
          refine' WS.yl rfl rfl rfl qD (Yl.load1 tab_ok rfl rfl rfl (fun _ => rfl) ?r12 rfl ?h12) qS qR ?_
          case r12 => (exact Rd.slD 1 rfl (by (try dsimp only) <;> omega))
          case h12 => rfl
          refine WA.callAt 4 6 rfl qK en12 rfl rfl qD (CallOp.mkT rfl rfl rfl rfl) rfl (N_C w0 ha (by constructor <;> decide) _) ?_
          rintro _ _ _ _ - ⟨rfl, rfl, rfl, rfl⟩
          refine ⟨RLe.refl _, qS, ?_⟩
          refine WA.take 7 rfl (by kernel_rfl) (by kernel_rfl) (by kernel_rfl) rfl rfl (by decide) (Yl.sub rfl rfl rfl (fun _ => rfl) (by intro _; constructor <;> (try dsimp only) <;> omega)) qS (by first | exact RLe.refl _ | assumption) ?_
          refine WA.yl 8 rfl (by kernel_rfl) rfl rfl (by decide) (Yl.add rfl rfl rfl (fun _ => rfl) (by intro _; constructor <;> (try dsimp only) <;> omega)) qS (by first | exact RLe.refl _ | assumption) ?_
          refine WA.yl 9 rfl (by kernel_rfl) rfl rfl (by decide) (Yl.index tab_ok rfl rfl rfl rfl rfl rfl (fun _ => rfl) (by intro _; constructor <;> (try dsimp only) <;> omega) (by intro _; first | exact fun _ _ _ _ => ha10 (by omega) | exact fun _ _ _ _ => rfl | exact RS.has (by assumption) | exact fun _ _ _ _ => (by assumption) | exact HasMem.ownD 0 rfl | exact HasMem.ownD 1 rfl | exact HasMem.ownD 2 rfl | exact HasMem.ownD 3 rfl | exact HasMem.ownD 4 rfl | exact HasMem.ownD 5 rfl)) qS (by first | exact RLe.refl _ | assumption) ?_
          refine WA.effN 10 rfl (by kernel_rfl) rfl rfl (Ef.storeD _ 1 tab_ok rfl rfl rfl rfl rfl (by (try dsimp only) <;> omega) rfl rfl rfl rfl ?_)
          refine ⟨by first | exact RLe.refl _ | assumption, qS, ?_⟩
          refine WA.done qK ?_
          refine WE.blk _ (WE.nxt ?_)
          (refine W.cap 1 rfl ?_; intro hcp; rw [List.length_map] at hcp; (try rw [List.length_set] at hcp); refine W.freeze (enc := encI) 1 rfl ?_; intro R1 hR1 hfz)
          refine W.seq (W.region _ ?_)
          refine' WG.y rfl rfl qD (Yl.load1 tab_ok rfl rfl rfl (fun _ => rfl) ?r13 rfl ?h13) ?_
          case r13 => (exact Rd.blk 0 rfl)
          case h13 => rfl
          refine WL.efN rfl rfl (Ef.store0 1 tab_ok rfl rfl rfl rfl rfl rfl rfl rfl ?_)
          refine WG.nil (WE.nxt (W.ret ?_))
          refine WE.retFS (E' := srcE b a cp xs (c + 1 + 1 + 1) :: F) qS tab_ok [_] rfl ⟨⟨_, _, _, rfl, rfl, rfl, ((by first | exact Rd.blk 0 rfl | exact Rd.blk 1 rfl | exact Rd.blk 2 rfl | exact Rd.blk 3 rfl | exact Rd.blk 4 rfl | exact Rd.blk 5 rfl)), rfl⟩, trivial⟩ (hR1) ?_
          exact ⟨_, [], rfl, a10, c10, _, ⟨c1.vals.set ((i : Int)).toNat (_), c1.per, c1.inc⟩, by (try dsimp only); rw [List.length_set]; rfl, hfz, by (try dsimp only); (try rw [List.length_set]); omega, by (try dsimp only); (try rw [List.length_set]); omega, rfl, rfl⟩
         ·
          refine WS.callAt 4 rfl en12 rfl rfl qD (CallOp.mkT rfl rfl rfl rfl) rfl (N_C w0 ha (by constructor <;> decide) _) ?_
          rintro _ _ _ _ - ⟨rfl, rfl, rfl, rfl⟩
          refine ⟨by first | exact RLe.refl _ | assumption, qS, ?_⟩
          refine WA.take 7 rfl (by kernel_rfl) (by kernel_rfl) (by kernel_rfl) rfl rfl (by decide) (Yl.sub rfl rfl rfl (fun _ => rfl) (by intro _; constructor <;> (try dsimp only) <;> omega)) qS (by first | exact RLe.refl _ | assumption) ?_
          refine' WA.yl 4 rfl qK rfl rfl qD (Yl.load1 tab_ok rfl rfl rfl (fun _ => rfl) ?r14 rfl ?h14) qS qR ?_
          case r14 => (exact Rd.slD 1 rfl (by (try dsimp only) <;> omega))
          case h14 => rfl
          refine WA.yl 8 rfl (by kernel_rfl) rfl rfl (by decide) (Yl.add rfl rfl rfl (fun _ => rfl) (by intro _; constructor <;> (try dsimp only) <;> omega)) qS (by first | exact RLe.refl _ | assumption) ?_
          refine WA.yl 9 rfl (by kernel_rfl) rfl rfl (by decide) (Yl.index tab_ok rfl rfl rfl rfl rfl rfl (fun _ => rfl) (by intro _; constructor <;> (try dsimp only) <;> omega) (by intro _; first | exact fun _ _ _ _ => ha10 (by omega) | exact fun _ _ _ _ => rfl | exact RS.has (by assumption) | exact fun _ _ _ _ => (by assumption) | exact HasMem.ownD 0 rfl | exact HasMem.ownD 1 rfl | exact HasMem.ownD 2 rfl | exact HasMem.ownD 3 rfl | exact HasMem.ownD 4 rfl | exact HasMem.ownD 5 rfl)) qS (by first | exact RLe.refl _ | assumption) ?_
          refine WA.effN 10 rfl (by kernel_rfl) rfl rfl (Ef.storeD _ 1 tab_ok rfl rfl rfl rfl rfl (by (try dsimp only) <;> omega) rfl rfl rfl rfl ?_)
          refine ⟨by first | exact RLe.refl _ | assumption, qS, ?_⟩
          refine WA.done qK ?_
          refine WE.blk _ (WE.nxt ?_)
          (refine W.cap 1 rfl ?_; intro hcp; rw [List.length_map] at hcp; (try rw [List.length_set] at hcp); refine W.freeze (enc := encI) 1 rfl ?_; intro R1 hR1 hfz)
          refine W.seq (W.region _ ?_)
          refine' WG.y rfl rfl qD (Yl.load1 tab_ok rfl rfl rfl (fun _ => rfl) ?r15 rfl ?h15) ?_
          case r15 => (exact Rd.blk 0 rfl)
          case h15 => rfl
          refine WL.efN rfl rfl (Ef.store0 1 tab_ok rfl rfl rfl rfl rfl rfl rfl rfl ?_)
          refine WG.nil (WE.nxt (W.ret ?_))
          refine WE.retFS (E' := srcE b a cp xs (c + 1 + 1 + 1) :: F) qS tab_ok [_] rfl ⟨⟨_, _, _, rfl, rfl, rfl, ((by first | exact Rd.blk 0 rfl | exact Rd.blk 1 rfl | exact Rd.blk 2 rfl | exact Rd.blk 3 rfl | exact Rd.blk 4 rfl | exact Rd.blk 5 rfl)), rfl⟩, trivial⟩ (hR1) ?_
          exact ⟨_, [], rfl, a10, c10, _, ⟨c1.vals.set ((i : Int)).toNat (_), c1.per, c1.inc⟩, by (try dsimp only); rw [List.length_set]; rfl, hfz, by (try dsimp only); (try rw [List.length_set]); omega, by (try dsimp only); (try rw [List.length_set]); omega, rfl, rfl⟩
        ·
         refine WS.callAt 4 rfl en12 rfl rfl qD (CallOp.mkT rfl rfl rfl rfl) rfl (N_C w0 ha (by constructor <;> decide) _) ?_
         rintro _ _ _ _ - ⟨rfl, rfl, rfl, rfl⟩
         refine ⟨by first | exact RLe.refl _ | assumption, qS, ?_⟩
         refine WA.take 7 rfl (by kernel_rfl) (by kernel_rfl) (by kernel_rfl) rfl rfl (by decide) (Yl.sub rfl rfl rfl (fun _ => rfl) (by intro _; constructor <;> (try dsimp only) <;> omega)) qS (by first | exact RLe.refl _ | assumption) ?_
         refine WA.yl 3 rfl (by kernel_rfl) rfl rfl (by decide) (Yl.index tab_ok rfl rfl rfl rfl rfl rfl (fun _ => rfl) (by intro _; constructor <;> (try dsimp only) <;> omega) (by intro _; first | exact fun _ _ _ _ => ha10 (by omega) | exact fun _ _ _ _ => rfl | exact RS.has (by assumption) | exact fun _ _ _ _ => (by assumption) | exact HasMem.ownD 0 rfl | exact HasMem.ownD 1 rfl | exact HasMem.ownD 2 rfl | exact HasMem.ownD 3 rfl | exact HasMem.ownD 4 rfl | exact HasMem.ownD 5 rfl)) qS (by first | exact RLe.refl _ | assumption) ?_
         refine' WA.yl 4 rfl qK rfl rfl qD (Yl.load1 tab_ok rfl rfl rfl (fun _ => rfl) ?r16 rfl ?h16) qS qR ?_
         case r16 => (exact Rd.slD 1 rfl (by (try dsimp only) <;> omega))
         case h16 => rfl
         refine WA.yl 8 rfl (by kernel_rfl) rfl rfl (by decide) (Yl.add rfl rfl rfl (fun _ => rfl) (by intro _; constructor <;> (try dsimp only) <;> omega)) qS (by first | exact RLe.refl _ | assumption) ?_
         refine WA.yl 9 rfl (by kernel_rfl) rfl rfl (by decide) (Yl.index tab_ok rfl rfl rfl rfl rfl rfl (fun _ => rfl) (by intro _; constructor <;> (try dsimp only) <;> omega) (by intro _; first | exact fun _ _ _ _ => ha10 (by omega) | exact fun _ _ _ _ => rfl | exact RS.has (by assumption) | exact fun _ _ _ _ => (by assumption) | exact HasMem.ownD 0 rfl | exact HasMem.ownD 1 rfl | exact HasMem.ownD 2 rfl | exact HasMem.ownD 3 rfl | exact HasMem.ownD 4 rfl | exact HasMem.ownD 5 rfl)) qS (by first | exact RLe.refl _ | assumption) ?_
         refine WA.effN 10 rfl (by kernel_rfl) rfl rfl (Ef.storeD _ 1 tab_ok rfl rfl rfl rfl rfl (by (try dsimp only) <;> omega) rfl rfl rfl rfl ?_)
         refine ⟨by first | exact RLe.refl _ | assumption, qS, ?_⟩
         refine WA.done qK ?_
         refine WE.blk _ (WE.nxt ?_)
         (refine W.cap 1 rfl ?_; intro hcp; rw [List.length_map] at hcp; (try rw [List.length_set] at hcp); refine W.freeze (enc := encI) 1 rfl ?_; intro R1 hR1 hfz)
         refine W.seq (W.region _ ?_)
         refine' WG.y rfl rfl qD (Yl.load1 tab_ok rfl rfl rfl (fun _ => rfl) ?r17 rfl ?h17) ?_
         case r17 => (exact Rd.blk 0 rfl)
         case h17 => rfl
         refine WL.efN rfl rfl (Ef.store0 1 tab_ok rfl rfl rfl rfl rfl rfl rfl rfl ?_)
         refine WG.nil (WE.nxt (W.ret ?_))
         refine WE.retFS (E' := srcE b a cp xs (c + 1 + 1 + 1) :: F) qS tab_ok [_] rfl ⟨⟨_, _, _, rfl, rfl, rfl, ((by first | exact Rd.blk 0 rfl | exact Rd.blk 1 rfl | exact Rd.blk 2 rfl | exact Rd.blk 3 rfl | exact Rd.blk 4 rfl | exact Rd.blk 5 rfl)), rfl⟩, trivial⟩ (hR1) ?_
         exact ⟨_, [], rfl, a10, c10, _, ⟨c1.vals.set ((i : Int)).toNat (_), c1.per, c1.inc⟩, by (try dsimp only); rw [List.length_set]; rfl, hfz, by (try dsimp only); (try rw [List.length_set]); omega, by (try dsimp only); (try rw [List.length_set]); omega, rfl, rfl⟩
       ·try dsimp only at hc5
        refine W.block ?_
        refine W.loopK (β := List Int × Option Addr × Nat × Nat) (fun (qs, aq, cq, cn) => 0 < qs.length ∧ qs.length ≤ 401) (fun (qs, aq, cq, cn) => []) [0, 4, 5] [_, _, _] [] _ rfl (fun (qs, aq, cq, cn) => [(0, .blk b5 [.slice aq qs.length cq, .int .i64 c1.per, .int .i64 c1.inc]), (1, .sl 3 1 aq cq ((qs).map encI)), (4, srcE b a cp xs cn)]) (fun (qs, aq, cq, cn) => 401 - qs.length) ((c1.vals, a10, c10, c + 1 + 1)) (⟨by (try dsimp only); omega, by (try dsimp only); omega⟩) ⟨rfl, rfl, rfl, rfl⟩ qS ?_
        intro zz hst
        obtain ⟨qs, aq, cq, cn⟩ := zz
        dsimp only [zipE, setAll, List.cons_append, List.nil_append, List.set_cons_zero, List.set_cons_succ] at hst ⊢
        obtain ⟨hq0, hq1⟩ := hst
        have hm3 := mod_range (nth xs cn) (show (1 : Int) ≤ 2 by decide)
        refine W.seq (W.seq ?_)
        refine W.regionH _ (ES := [.blk b5 [.slice aq qs.length cq, .int .i64 c1.per, .int .i64 c1.inc]]) mixed ?_
        refine WA.take 0 rfl qK qK qK rfl rfl qD (pureV_ok tab_ok rfl (fun _ => rfl)) qS qR ?_
        refine' WA.take 1 rfl qK qK qK rfl rfl qD (Yl.load1 tab_ok rfl rfl rfl (fun _ => rfl) ?r18 rfl ?h18) qS qR ?_
        case r18 => apply Rd.add; (exact Rd.blk 0 rfl)
        case h18 => rfl
        refine WA.take 2 rfl qK qK qK rfl rfl qD (pureV_ok tab_ok rfl (fun _ => rfl)) qS qR ?_
        refine WA.take 3 rfl qK qK qK rfl rfl qD (pureV_ok tab_ok rfl (fun _ => rfl)) qS qR ?_
        refine WA.callAt 4 4 rfl qK en12 rfl rfl qD (CallOp.mkT rfl rfl rfl rfl) rfl (N_C w0 ha (by constructor <;> decide) _) ?_
        rintro _ _ _ _ - ⟨rfl, rfl, rfl, rfl⟩
        refine ⟨RLe.refl _, qS, ?_⟩
        refine WA.take 5 rfl (by kernel_rfl) (by kernel_rfl) (by kernel_rfl) rfl rfl (by decide) (Yl.add rfl rfl rfl (fun _ => rfl) (by intro _; constructor <;> (try dsimp only) <;> omega)) qS (by first | exact RLe.refl _ | assumption) ?_
        refine WA.take 6 rfl qK qK qK rfl rfl qD (pureV_ok tab_ok rfl (fun _ => rfl)) qS qR ?_
        refine WA.done qK ?_
        refine WE.nxt ?_
        refine W.condD rfl (fun hc6 => ?_) (fun hc6 => ?_)
        ·try dsimp only at hc6
         refine W.skip (WE.nxt (W.block ?_))
         refine W.regionH _ (ES := []) mixed ?_
         refine WA.take 0 rfl qK qK qK rfl rfl qD (pureV_ok tab_ok rfl (fun _ => rfl)) qS qR ?_
         refine WA.take 2 rfl qK qK qK rfl rfl qD (pureV_ok tab_ok rfl (fun _ => rfl)) qS qR ?_
         refine WA.take 4 rfl qK qK qK rfl rfl qD (pureV_ok tab_ok rfl (fun _ => rfl)) qS qR ?_
         refine WA.br3 (i := 1) (j := 3) (k := 5) qK ?_ ?_ ?_
         ·
          refine' WS.yl rfl rfl rfl qD (Yl.load1 tab_ok rfl rfl rfl (fun _ => rfl) ?r19 rfl ?h19) qS qR ?_
          case r19 => apply Rd.add; (exact Rd.blk 0 rfl)
          case h19 => rfl
          refine WA.br2 (i := 3) (j := 5) qK ?_ ?_
          ·
           refine' WS.yl rfl rfl rfl qD (Yl.load1 tab_ok rfl rfl rfl (fun _ => rfl) ?r20 rfl ?h20) qS qR ?_
           case r20 => apply Rd.add; (exact Rd.blk 0 rfl)
           case h20 => rfl
           refine' WA.yl 5 rfl qK rfl rfl qD (Yl.load1 tab_ok rfl rfl rfl (fun _ => rfl) ?r21 rfl ?h21) qS qR ?_
           case r21 => apply Rd.add; (exact Rd.blk 0 rfl)
           case h21 => rfl
           refine WA.take 6 rfl qK qK qK rfl rfl qD (pureV_ok tab_ok rfl (fun _ => rfl)) qS qR ?_
           refine WA.take 7 rfl (by kernel_rfl) (by kernel_rfl) (by kernel_rfl) rfl rfl (by decide) (Yl.sub rfl rfl rfl (fun _ => rfl) (by intro _; constructor <;> (try dsimp only) <;> omega)) qS (by first | exact RLe.refl _ | assumption) ?_
           refine WA.yl 8 rfl (by kernel_rfl) rfl rfl (by decide) (Yl.index tab_ok rfl rfl rfl rfl rfl rfl (fun _ => rfl) (by intro _; constructor <;> (try dsimp only) <;> omega) (by intro _; first | exact fun _ _ _ _ => ha10 (by omega) | exact fun _ _ _ _ => rfl | exact RS.has (by assumption) | exact fun _ _ _ _ => (by assumption) | exact HasMem.ownD 0 rfl | exact HasMem.ownD 1 rfl | exact HasMem.ownD 2 rfl | exact HasMem.ownD 3 rfl | exact HasMem.ownD 4 rfl | exact HasMem.ownD 5 rfl)) qS (by first | exact RLe.refl _ | assumption) ?_
           refine' WA.yl 9 rfl qK rfl rfl qD (Yl.load1 tab_ok rfl rfl rfl (fun _ => rfl) ?r22 rfl ?h22) qS qR ?_
           case r22 => (exact Rd.slD 1 rfl (by (try dsimp only) <;> omega))
           case h22 => rfl
           refine WA.eff 10 rfl qK rfl rfl qD (Ef.buildSliceD (enc := encI) (parts := [.tmp 44]) [_] tab_ok rfl rfl rfl rfl rfl rfl rfl rfl qD qD (fun a45 => ?_))
           refine ⟨by first | exact RLe.refl _ | assumption, qS, ?_⟩
           refine WA.eff 11 rfl (by kernel_rfl) rfl rfl (by decide) (Ef.appendD 2 0 tab_ok rfl rfl rfl rfl rfl rfl rfl rfl rfl rfl rfl (fun _ _ => rfl) (by simp only [List.length_cons, List.length_nil]; omega) (by simp only [List.length_cons, List.length_nil]; omega) (fun a46 c46 ha46 => ?_))
           refine ⟨by first | exact RLe.refl _ | assumption, qS, ?_⟩
           refine WA.take 12 rfl qK qK qK rfl rfl qD (pureV_ok tab_ok rfl (fun _ => rfl)) qS qR ?_
           refine WA.effN 13 rfl qK rfl rfl (Ef.store 1 tab_ok rfl rfl rfl rfl rfl rfl rfl rfl ?_)
           refine ⟨by first | exact RLe.refl _ | assumption, qS, ?_⟩
           refine WA.done qK ?_
           refine WE.blk _ ?_
           refine WE.again ((qs ++ [nth qs ((qs.length : Int) - 1).toNat], a46, c46, cn + 1)) (⟨by simp, by simp only [List.length_append, List.length_cons, List.length_nil]; omega⟩) (by simp only [List.length_append, List.length_cons, List.length_nil]; omega) ⟨rfl, rfl, rfl, rfl⟩ (RLe.refl _) qS
          ·
           refine' WS.yl rfl rfl rfl qD (Yl.load1 tab_ok rfl rfl rfl (fun _ => rfl) ?r23 rfl ?h23) qS qR ?_
           case r23 => apply Rd.add; (exact Rd.blk 0 rfl)
           case h23 => rfl
           refine WA.take 6 rfl qK qK qK rfl rfl qD (pureV_ok tab_ok rfl (fun _ => rfl)) qS qR ?_
           refine WA.take 7 rfl (by kernel_rfl) (by kernel_rfl) (by kernel_rfl) rfl rfl (by decide) (Yl.sub rfl rfl rfl (fun _ => rfl) (by intro _; constructor <;> (try dsimp only) <;> omega)) qS (by first | exact RLe.refl _ | assumption) ?_
           refine' WA.yl 3 rfl qK rfl rfl qD (Yl.load1 tab_ok rfl rfl rfl (fun _ => rfl) ?r24 rfl ?h24) qS qR ?_
           case r24 => apply Rd.add; (exact Rd.blk 0 rfl)
           case h24 => rfl
           refine WA.yl 8 rfl (by kernel_rfl) rfl rfl (by decide) (Yl.index tab_ok rfl rfl rfl rfl rfl rfl (fun _ => rfl) (by intro _; constructor <;> (try dsimp only) <;> omega) (by intro _; first | exact fun _ _ _ _ => ha10 (by omega) | exact fun _ _ _ _ => rfl | exact RS.has (by assumption) | exact fun _ _ _ _ => (by assumption) | exact HasMem.ownD 0 rfl | exact HasMem.ownD 1 rfl | exact HasMem.ownD 2 rfl | exact HasMem.ownD 3 rfl | exact HasMem.ownD 4 rfl | exact HasMem.ownD 5 rfl)) qS (by first | exact RLe.refl _ | assumption) ?_
           refine' WA.yl 9 rfl qK rfl rfl qD (Yl.load1 tab_ok rfl rfl rfl (fun _ => rfl) ?r25 rfl ?h25) qS qR ?_
           case r25 => (exact Rd.slD 1 rfl (by (try dsimp only) <;> omega))
           case h25 => rfl
           refine WA.eff 10 rfl qK rfl rfl qD (Ef.buildSliceD (enc := encI) (parts := [.tmp 44]) [_] tab_ok rfl rfl rfl rfl rfl rfl rfl rfl qD qD (fun a45 => ?_))
           refine ⟨by first | exact RLe.refl _ | assumption, qS, ?_⟩
           refine WA.eff 11 rfl (by kernel_rfl) rfl rfl (by decide) (Ef.appendD 2 0 tab_ok rfl rfl rfl rfl rfl rfl rfl rfl rfl rfl rfl (fun _ _ => rfl) (by simp only [List.length_cons, List.length_nil]; omega) (by simp only [List.length_cons, List.length_nil]; omega) (fun a46 c46 ha46 => ?_))
           refine ⟨by first | exact RLe.refl _ | assumption, qS, ?_⟩
           refine WA.take 12 rfl qK qK qK rfl rfl qD (pureV_ok tab_ok rfl (fun _ => rfl)) qS qR ?_
           refine WA.effN 13 rfl qK rfl rfl (Ef.store 1 tab_ok rfl rfl rfl rfl rfl rfl rfl rfl ?_)
           refine ⟨by first | exact RLe.refl _ | assumption, qS, ?_⟩
           refine WA.done qK ?_
           refine WE.blk _ ?_
           refine WE.again ((qs ++ [nth qs ((qs.length : Int) - 1).toNat], a46, c46, cn + 1)) (⟨by simp, by simp only [List.length_append, List.length_cons, List.length_nil]; omega⟩) (by simp only [List.length_append, List.length_cons, List.length_nil]; omega) ⟨rfl, rfl, rfl, rfl⟩ (RLe.refl _) qS
         ·
          refine' WS.yl rfl rfl rfl qD (Yl.load1 tab_ok rfl rfl rfl (fun _ => rfl) ?r26 rfl ?h26) qS qR ?_
          case r26 => apply Rd.add; (exact Rd.blk 0 rfl)
          case h26 => rfl
          refine WA.br2 (i := 1) (j := 5) qK ?_ ?_
          ·
           refine' WS.yl rfl rfl rfl qD (Yl.load1 tab_ok rfl rfl rfl (fun _ => rfl) ?r27 rfl ?h27) qS qR ?_
           case r27 => apply Rd.add; (exact Rd.blk 0 rfl)
           case h27 => rfl
           refine' WA.yl 5 rfl qK rfl rfl qD (Yl.load1 tab_ok rfl rfl rfl (fun _ => rfl) ?r28 rfl ?h28) qS qR ?_
           case r28 => apply Rd.add; (exact Rd.blk 0 rfl)
           case h28 => rfl
           refine WA.take 6 rfl qK qK qK rfl rfl qD (pureV_ok tab_ok rfl (fun _ => rfl)) qS qR ?_
           refine WA.take 7 rfl (by kernel_rfl) (by kernel_rfl) (by kernel_rfl) rfl rfl (by decide) (Yl.sub rfl rfl rfl (fun _ => rfl) (by intro _; constructor <;> (try dsimp only) <;> omega)) qS (by first | exact RLe.refl _ | assumption) ?_
           refine WA.yl 8 rfl (by kernel_rfl) rfl rfl (by decide) (Yl.index tab_ok rfl rfl rfl rfl rfl rfl (fun _ => rfl) (by intro _; constructor <;> (try dsimp only) <;> omega) (by intro _; first | exact fun _ _ _ _ => ha10 (by omega) | exact fun _ _ _ _ => rfl | exact RS.has (by assumption) | exact fun _ _ _ _ => (by assumption) | exact HasMem.ownD 0 rfl | exact HasMem.ownD 1 rfl | exact HasMem.ownD 2 rfl | exact HasMem.ownD 3 rfl | exact HasMem.ownD 4 rfl | exact HasMem.ownD 5 rfl)) qS (by first | exact RLe.refl _ | assumption) ?_
           refine' WA.yl 9 rfl qK rfl rfl qD (Yl.load1 tab_ok rfl rfl rfl (fun _ => rfl) ?r29 rfl ?h29) qS qR ?_
           case r29 => (exact Rd.slD 1 rfl (by (try dsimp only) <;> omega))
           case h29 => rfl
           refine WA.eff 10 rfl qK rfl rfl qD (Ef.buildSliceD (enc := encI) (parts := [.tmp 44]) [_] tab_ok rfl rfl rfl rfl rfl rfl rfl rfl qD qD (fun a45 => ?_))
           refine ⟨by first | exact RLe.refl _ | assumption, qS, ?_⟩
           refine WA.eff 11 rfl (by kernel_rfl) rfl rfl (by decide) (Ef.appendD 2 0 tab_ok rfl rfl rfl rfl rfl rfl rfl rfl rfl rfl rfl (fun _ _ => rfl) (by simp only [List.length_cons, List.length_nil]; omega) (by simp only [List.length_cons, List.length_nil]; omega) (fun a46 c46 ha46 => ?_))
           refine ⟨by first | exact RLe.refl _ | assumption, qS, ?_⟩
           refine WA.take 12 rfl qK qK qK rfl rfl qD (pureV_ok tab_ok rfl (fun _ => rfl)) qS qR ?_
           refine WA.effN 13 rfl qK rfl rfl (Ef.store 1 tab_ok rfl rfl rfl rfl rfl rfl rfl rfl ?_)
           refine ⟨by first | exact RLe.refl _ | assumption, qS, ?_⟩
           refine WA.done qK ?_
           refine WE.blk _ ?_
           refine WE.again ((qs ++ [nth qs ((qs.length : Int) - 1).toNat], a46, c46, cn + 1)) (⟨by simp, by simp only [List.length_append, List.length_cons, List.length_nil]; omega⟩) (by simp only [List.length_append, List.length_cons, List.length_nil]; omega) ⟨rfl, rfl, rfl, rfl⟩ (RLe.refl _) qS
          ·
           refine' WS.yl rfl rfl rfl qD (Yl.load1 tab_ok rfl rfl rfl (fun _ => rfl) ?r30 rfl ?h30) qS qR ?_
           case r30 => apply Rd.add; (exact Rd.blk 0 rfl)
           case h30 => rfl
           refine WA.take 6 rfl qK qK qK rfl rfl qD (pureV_ok tab_ok rfl (fun _ => rfl)) qS qR ?_
           refine WA.take 7 rfl (by kernel_rfl) (by kernel_rfl) (by kernel_rfl) rfl rfl (by decide) (Yl.sub rfl rfl rfl (fun _ => rfl) (by intro _; constructor <;> (try dsimp only) <;> omega)) qS (by first | exact RLe.refl _ | assumption) ?_
           refine WA.br2 (i := 1) (j := 8) qK ?_ ?_
           ·
            refine' WS.yl rfl rfl rfl qD (Yl.load1 tab_ok rfl rfl rfl (fun _ => rfl) ?r31 rfl ?h31) qS qR ?_
            case r31 => apply Rd.add; (exact Rd.blk 0 rfl)
            case h31 => rfl
            refine WA.yl 8 rfl (by kernel_rfl) rfl rfl (by decide) (Yl.index tab_ok rfl rfl rfl rfl rfl rfl (fun _ => rfl) (by intro _; constructor <;> (try dsimp only) <;> omega) (by intro _; first | exact fun _ _ _ _ => ha10 (by omega) | exact fun _ _ _ _ => rfl | exact RS.has (by assumption) | exact fun _ _ _ _ => (by assumption) | exact HasMem.ownD 0 rfl | exact HasMem.ownD 1 rfl | exact HasMem.ownD 2 rfl | exact HasMem.ownD 3 rfl | exact HasMem.ownD 4 rfl | exact HasMem.ownD 5 rfl)) qS (by first | exact RLe.refl _ | assumption) ?_
            refine' WA.yl 9 rfl qK rfl rfl qD (Yl.load1 tab_ok rfl rfl rfl (fun _ => rfl) ?r32 rfl ?h32) qS qR ?_
            case r32 => (exact Rd.slD 1 rfl (by (try dsimp only) <;> omega))
            case h32 => rfl
            refine WA.eff 10 rfl qK rfl rfl qD (Ef.buildSliceD (enc := encI) (parts := [.tmp 44]) [_] tab_ok rfl rfl rfl rfl rfl rfl rfl rfl qD qD (fun a45 => ?_))
            refine ⟨by first | exact RLe.refl _ | assumption, qS, ?_⟩
            refine WA.eff 11 rfl (by kernel_rfl) rfl rfl (by decide) (Ef.appendD 2 0 tab_ok rfl rfl rfl rfl rfl rfl rfl rfl rfl rfl rfl (fun _ _ => rfl) (by simp only [List.length_cons, List.length_nil]; omega) (by simp only [List.length_cons, List.length_nil]; omega) (fun a46 c46 ha46 => ?_))
            refine ⟨by first | exact RLe.refl _ | assumption, qS, ?_⟩
            refine WA.take 12 rfl qK qK qK rfl rfl qD (pureV_ok tab_ok rfl (fun _ => rfl)) qS qR ?_
            refine WA.effN 13 rfl qK rfl rfl (Ef.store 1 tab_ok rfl rfl rfl rfl rfl rfl rfl rfl ?_)
            refine ⟨by first | exact RLe.refl _ | assumption, qS, ?_⟩
            refine WA.done qK ?_
            refine WE.blk _ ?_
            refine WE.again ((qs ++ [nth qs ((qs.length : Int) - 1).toNat], a46, c46, cn + 1)) (⟨by simp, by simp only [List.length_append, List.length_cons, List.length_nil]; omega⟩) (by simp only [List.length_append, List.length_cons, List.length_nil]; omega) ⟨rfl, rfl, rfl, rfl⟩ (RLe.refl _) qS
           ·
            refine WS.yl rfl rfl rfl (by decide) (Yl.index tab_ok rfl rfl rfl rfl rfl rfl (fun _ => rfl) (by intro _; constructor <;> (try dsimp only) <;> omega) (by intro _; first | exact fun _ _ _ _ => ha10 (by omega) | exact fun _ _ _ _ => rfl | exact RS.has (by assumption) | exact fun _ _ _ _ => (by assumption) | exact HasMem.ownD 0 rfl | exact HasMem.ownD 1 rfl | exact HasMem.ownD 2 rfl | exact HasMem.ownD 3 rfl | exact HasMem.ownD 4 rfl | exact HasMem.ownD 5 rfl)) qS (by first | exact RLe.refl _ | assumption) ?_
            refine WA.br2 (i := 1) (j := 9) qK ?_ ?_
            ·
             refine' WS.yl rfl rfl rfl qD (Yl.load1 tab_ok rfl rfl rfl (fun _ => rfl) ?r33 rfl ?h33) qS qR ?_
             case r33 => apply Rd.add; (exact Rd.blk 0 rfl)
             case h33 => rfl
             refine' WA.yl 9 rfl qK rfl rfl qD (Yl.load1 tab_ok rfl rfl rfl (fun _ => rfl) ?r34 rfl ?h34) qS qR ?_
             case r34 => (exact Rd.slD 1 rfl (by (try dsimp only) <;> omega))
             case h34 => rfl
             refine WA.eff 10 rfl qK rfl rfl qD (Ef.buildSliceD (enc := encI) (parts := [.tmp 44]) [_] tab_ok rfl rfl rfl rfl rfl rfl rfl rfl qD qD (fun a45 => ?_))
             refine ⟨by first | exact RLe.refl _ | assumption, qS, ?_⟩
             refine WA.eff 11 rfl (by kernel_rfl) rfl rfl (by decide) (Ef.appendD 2 0 tab_ok rfl rfl rfl rfl rfl rfl rfl rfl rfl rfl rfl (fun _ _ => rfl) (by simp only [List.length_cons, List.length_nil]; omega) (by simp only [List.length_cons, List.length_nil]; omega) (fun a46 c46 ha46 => ?_))
             refine ⟨by first | exact RLe.refl _ | assumption, qS, ?_⟩
             refine WA.take 12 rfl qK qK qK rfl rfl qD (pureV_ok tab_ok rfl (fun _ => rfl)) qS qR ?_
             refine WA.effN 13 rfl qK rfl rfl (Ef.store 1 tab_ok rfl rfl rfl rfl rfl rfl rfl rfl ?_)
             refine ⟨by first | exact RLe.refl _ | assumption, qS, ?_⟩
             refine WA.done qK ?_
             refine WE.blk _ ?_
             refine WE.again ((qs ++ [nth qs ((qs.length : Int) - 1).toNat], a46, c46, cn + 1)) (⟨by simp, by simp only [List.length_append, List.length_cons, List.length_nil]; omega⟩) (by simp only [List.length_append, List.length_cons, List.length_nil]; omega) ⟨rfl, rfl, rfl, rfl⟩ (RLe.refl _) qS
            ·
             refine' WS.yl rfl rfl rfl qD (Yl.load1 tab_ok rfl rfl rfl (fun _ => rfl) ?r35 rfl ?h35) qS qR ?_
             case r35 => (exact Rd.slD 1 rfl (by (try dsimp only) <;> omega))
             case h35 => rfl
             refine WA.br2 (i := 1) (j := 10) qK ?_ ?_
             ·
              refine' WS.yl rfl rfl rfl qD (Yl.load1 tab_ok rfl rfl rfl (fun _ => rfl) ?r36 rfl ?h36) qS qR ?_
              case r36 => apply Rd.add; (exact Rd.blk 0 rfl)
              case h36 => rfl
              refine WA.eff 10 rfl qK rfl rfl qD (Ef.buildSliceD (enc := encI) (parts := [.tmp 44]) [_] tab_ok rfl rfl rfl rfl rfl rfl rfl rfl qD qD (fun a45 => ?_))
              refine ⟨by first | exact RLe.refl _ | assumption, qS, ?_⟩
              refine WA.eff 11 rfl (by kernel_rfl) rfl rfl (by decide) (Ef.appendD 2 0 tab_ok rfl rfl rfl rfl rfl rfl rfl rfl rfl rfl rfl (fun _ _ => rfl) (by simp only [List.length_cons, List.length_nil]; omega) (by simp only [List.length_cons, List.length_nil]; omega) (fun a46 c46 ha46 => ?_))
              refine ⟨by first | exact RLe.refl _ | assumption, qS, ?_⟩
              refine WA.take 12 rfl qK qK qK rfl rfl qD (pureV_ok tab_ok rfl (fun _ => rfl)) qS qR ?_
              refine WA.effN 13 rfl qK rfl rfl (Ef.store 1 tab_ok rfl rfl rfl rfl rfl rfl rfl rfl ?_)
              refine ⟨by first | exact RLe.refl _ | assumption, qS, ?_⟩
              refine WA.done qK ?_
              refine WE.blk _ ?_
              refine WE.again ((qs ++ [nth qs ((qs.length : Int) - 1).toNat], a46, c46, cn + 1)) (⟨by simp, by simp only [List.length_append, List.length_cons, List.length_nil]; omega⟩) (by simp only [List.length_append, List.length_cons, List.length_nil]; omega) ⟨rfl, rfl, rfl, rfl⟩ (RLe.refl _) qS
             ·
              refine WS.eff rfl rfl rfl qD (Ef.buildSliceD (enc := encI) (parts := [.tmp 44]) [_] tab_ok rfl rfl rfl rfl rfl rfl rfl rfl qD qD (fun a45 => ?_))
              refine ⟨by first | exact RLe.refl _ | assumption, qS, ?_⟩
              refine' WA.yl 1 rfl qK rfl rfl qD (Yl.load1 tab_ok rfl rfl rfl (fun _ => rfl) ?r37 rfl ?h37) qS qR ?_
              case r37 => apply Rd.add; (exact Rd.blk 1 rfl)
              case h37 => rfl
              refine WA.eff 11 rfl (by kernel_rfl) rfl rfl (by decide) (Ef.appendD 2 0 tab_ok rfl rfl rfl rfl rfl rfl rfl rfl rfl rfl rfl (fun _ _ => rfl) (by simp only [List.length_cons, List.length_nil]; omega) (by simp only [List.length_cons, List.length_nil]; omega) (fun a46 c46 ha46 => ?_))
              refine ⟨by first | exact RLe.refl _ | assumption, qS, ?_⟩
              refine WA.take 12 rfl qK qK qK rfl rfl qD (pureV_ok tab_ok rfl (fun _ => rfl)) qS qR ?_
              refine WA.effN 13 rfl qK rfl rfl (Ef.store 1 tab_ok rfl rfl rfl rfl rfl rfl rfl rfl ?_)
              refine ⟨by first | exact RLe.refl _ | assumption, qS, ?_⟩
              refine WA.done qK ?_
              refine WE.blk _ ?_
              refine WE.again ((qs ++ [nth qs ((qs.length : Int) - 1).toNat], a46, c46, cn + 1)) (⟨by simp, by simp only [List.length_append, List.length_cons, List.length_nil]; omega⟩) (by simp only [List.length_append, List.length_cons, List.length_nil]; omega) ⟨rfl, rfl, rfl, rfl⟩ (RLe.refl _) qS
         ·
          refine' WS.yl rfl rfl rfl qD (Yl.load1 tab_ok rfl rfl rfl (fun _ => rfl) ?r38 rfl ?h38) qS qR ?_
          case r38 => apply Rd.add; (exact Rd.blk 0 rfl)
          case h38 => rfl
          refine WA.take 6 rfl qK qK qK rfl rfl qD (pureV_ok tab_ok rfl (fun _ => rfl)) qS qR ?_
          refine WA.take 7 rfl (by kernel_rfl) (by kernel_rfl) (by kernel_rfl) rfl rfl (by decide) (Yl.sub rfl rfl rfl (fun _ => rfl) (by intro _; constructor <;> (try dsimp only) <;> omega)) qS (by first | exact RLe.refl _ | assumption) ?_
          refine WA.br2 (i := 1) (j := 3) qK ?_ ?_
          ·
           refine' WS.yl rfl rfl rfl qD (Yl.load1 tab_ok rfl rfl rfl (fun _ => rfl) ?r39 rfl ?h39) qS qR ?_
           case r39 => apply Rd.add; (exact Rd.blk 0 rfl)
           case h39 => rfl
           refine' WA.yl 3 rfl qK rfl rfl qD (Yl.load1 tab_ok rfl rfl rfl (fun _ => rfl) ?r40 rfl ?h40) qS qR ?_
           case r40 => apply Rd.add; (exact Rd.blk 0 rfl)
           case h40 => rfl
           refine WA.yl 8 rfl (by kernel_rfl) rfl rfl (by decide) (Yl.index tab_ok rfl rfl rfl rfl rfl rfl (fun _ => rfl) (by intro _; constructor <;> (try dsimp only) <;> omega) (by intro _; first | exact fun _ _ _ _ => ha10 (by omega) | exact fun _ _ _ _ => rfl | exact RS.has (by assumption) | exact fun _ _ _ _ => (by assumption) | exact HasMem.ownD 0 rfl | exact HasMem.ownD 1 rfl | exact HasMem.ownD 2 rfl | exact HasMem.ownD 3 rfl | exact HasMem.ownD 4 rfl | exact HasMem.ownD 5 rfl)) qS (by first | exact RLe.refl _ | assumption) ?_
           refine' WA.yl 9 rfl qK rfl rfl qD (Yl.load1 tab_ok rfl rfl rfl (fun _ => rfl) ?r41 rfl ?h41) qS qR ?_
           case r41 => (exact Rd.slD 1 rfl (by (try dsimp only) <;> omega))
           case h41 => rfl
           refine WA.eff 10 rfl qK rfl rfl qD (Ef.buildSliceD (enc := encI) (parts := [.tmp 44]) [_] tab_ok rfl rfl rfl rfl rfl rfl rfl rfl qD qD (fun a45 => ?_))
           refine ⟨by first | exact RLe.refl _ | assumption, qS, ?_⟩
           refine WA.eff 11 rfl (by kernel_rfl) rfl rfl (by decide) (Ef.appendD 2 0 tab_ok rfl rfl rfl rfl rfl rfl rfl rfl rfl rfl rfl (fun _ _ => rfl) (by simp only [List.length_cons, List.length_nil]; omega) (by simp only [List.length_cons, List.length_nil]; omega) (fun a46 c46 ha46 => ?_))
           refine ⟨by first | exact RLe.refl _ | assumption, qS, ?_⟩
           refine WA.take 12 rfl qK qK qK rfl rfl qD (pureV_ok tab_ok rfl (fun _ => rfl)) qS qR ?_
           refine WA.effN 13 rfl qK rfl rfl (Ef.store 1 tab_ok rfl rfl rfl rfl rfl rfl rfl rfl ?_)
           refine ⟨by first | exact RLe.refl _ | assumption, qS, ?_⟩
           refine WA.done qK ?_
           refine WE.blk _ ?_
           refine WE.again ((qs ++ [nth qs ((qs.length : Int) - 1).toNat], a46, c46, cn + 1)) (⟨by simp, by simp only [List.length_append, List.length_cons, List.length_nil]; omega⟩) (by simp only [List.length_append, List.length_cons, List.length_nil]; omega) ⟨rfl, rfl, rfl, rfl⟩ (RLe.refl _) qS
          ·
           refine' WS.yl rfl rfl rfl qD (Yl.load1 tab_ok rfl rfl rfl (fun _ => rfl) ?r42 rfl ?h42) qS qR ?_
           case r42 => apply Rd.add; (exact Rd.blk 0 rfl)
           case h42 => rfl
           refine WA.br2 (i := 1) (j := 8) qK ?_ ?_
           ·
            refine' WS.yl rfl rfl rfl qD (Yl.load1 tab_ok rfl rfl rfl (fun _ => rfl) ?r43 rfl ?h43) qS qR ?_
            case r43 => apply Rd.add; (exact Rd.blk 0 rfl)
            case h43 => rfl
            refine WA.yl 8 rfl (by kernel_rfl) rfl rfl (by decide) (Yl.index tab_ok rfl rfl rfl rfl rfl rfl (fun _ => rfl) (by intro _; constructor <;> (try dsimp only) <;> omega) (by intro _; first | exact fun _ _ _ _ => ha10 (by omega) | exact fun _ _ _ _ => rfl | exact RS.has (by assumption) | exact fun _ _ _ _ => (by assumption) | exact HasMem.ownD 0 rfl | exact HasMem.ownD 1 rfl | exact HasMem.ownD 2 rfl | exact HasMem.ownD 3 rfl | exact HasMem.ownD 4 rfl | exact HasMem.ownD 5 rfl)) qS (by first | exact RLe.refl _ | assumption) ?_
            refine' WA.yl 9 rfl qK rfl rfl qD (Yl.load1 tab_ok rfl rfl rfl (fun _ => rfl) ?r44 rfl ?h44) qS qR ?_
            case r44 => (exact Rd.slD 1 rfl (by (try dsimp only) <;> omega))
            case h44 => rfl
            refine WA.eff 10 rfl qK rfl rfl qD (Ef.buildSliceD (enc := encI) (parts := [.tmp 44]) [_] tab_ok rfl rfl rfl rfl rfl rfl rfl rfl qD qD (fun a45 => ?_))
            refine ⟨by first | exact RLe.refl _ | assumption, qS, ?_⟩
            refine WA.eff 11 rfl (by kernel_rfl) rfl rfl (by decide) (Ef.appendD 2 0 tab_ok rfl rfl rfl rfl rfl rfl rfl rfl rfl rfl rfl (fun _ _ => rfl) (by simp only [List.length_cons, List.length_nil]; omega) (by simp only [List.length_cons, List.length_nil]; omega) (fun a46 c46 ha46 => ?_))
            refine ⟨by first | exact RLe.refl _ | assumption, qS, ?_⟩
            refine WA.take 12 rfl qK qK qK rfl rfl qD (pureV_ok tab_ok rfl (fun _ => rfl)) qS qR ?_
            refine WA.effN 13 rfl qK rfl rfl (Ef.store 1 tab_ok rfl rfl rfl rfl rfl rfl rfl rfl ?_)
            refine ⟨by first | exact RLe.refl _ | assumption, qS, ?_⟩
            refine WA.done qK ?_
            refine WE.blk _ ?_
            refine WE.again ((qs ++ [nth qs ((qs.length : Int) - 1).toNat], a46, c46, cn + 1)) (⟨by simp, by simp only [List.length_append, List.length_cons, List.length_nil]; omega⟩) (by simp only [List.length_append, List.length_cons, List.length_nil]; omega) ⟨rfl, rfl, rfl, rfl⟩ (RLe.refl _) qS
           ·
            refine WS.yl rfl rfl rfl (by decide) (Yl.index tab_ok rfl rfl rfl rfl rfl rfl (fun _ => rfl) (by intro _; constructor <;> (try dsimp only) <;> omega) (by intro _; first | exact fun _ _ _ _ => ha10 (by omega) | exact fun _ _ _ _ => rfl | exact RS.has (by assumption) | exact fun _ _ _ _ => (by assumption) | exact HasMem.ownD 0 rfl | exact HasMem.ownD 1 rfl | exact HasMem.ownD 2 rfl | exact HasMem.ownD 3 rfl | exact HasMem.ownD 4 rfl | exact HasMem.ownD 5 rfl)) qS (by first | exact RLe.refl _ | assumption) ?_
            refine WA.br2 (i := 1) (j := 9) qK ?_ ?_
            ·
             refine' WS.yl rfl rfl rfl qD (Yl.load1 tab_ok rfl rfl rfl (fun _ => rfl) ?r45 rfl ?h45) qS qR ?_
             case r45 => apply Rd.add; (exact Rd.blk 0 rfl)
             case h45 => rfl
             refine' WA.yl 9 rfl qK rfl rfl qD (Yl.load1 tab_ok rfl rfl rfl (fun _ => rfl) ?r46 rfl ?h46) qS qR ?_
             case r46 => (exact Rd.slD 1 rfl (by (try dsimp only) <;> omega))
             case h46 => rfl
             refine WA.eff 10 rfl qK rfl rfl qD (Ef.buildSliceD (enc := encI) (parts := [.tmp 44]) [_] tab_ok rfl rfl rfl rfl rfl rfl rfl rfl qD qD (fun a45 => ?_))
             refine ⟨by first | exact RLe.refl _ | assumption, qS, ?_⟩
             refine WA.eff 11 rfl (by kernel_rfl) rfl rfl (by decide) (Ef.appendD 2 0 tab_ok rfl rfl rfl rfl rfl rfl rfl rfl rfl rfl rfl (fun _ _ => rfl) (by simp only [List.length_cons, List.length_nil]; omega) (by simp only [List.length_cons, List.length_nil]; omega) (fun a46 c46 ha46 => ?_))
             refine ⟨by first | exact RLe.refl _ | assumption, qS, ?_⟩
             refine WA.take 12 rfl qK qK qK rfl rfl qD (pureV_ok tab_ok rfl (fun _ => rfl)) qS qR ?_
             refine WA.effN 13 rfl qK rfl rfl (Ef.store 1 tab_ok rfl rfl rfl rfl rfl rfl rfl rfl ?_)
             refine ⟨by first | exact RLe.refl _ | assumption, qS, ?_⟩
             refine WA.done qK ?_
             refine WE.blk _ ?_
             refine WE.again ((qs ++ [nth qs ((qs.length : Int) - 1).toNat], a46, c46, cn + 1)) (⟨by simp, by simp only [List.length_append, List.length_cons, List.length_nil]; omega⟩) (by simp only [List.length_append, List.length_cons, List.length_nil]; omega) ⟨rfl, rfl, rfl, rfl⟩ (RLe.refl _) qS
            ·
             refine' WS.yl rfl rfl rfl qD (Yl.load1 tab_ok rfl rfl rfl (fun _ => rfl) ?r47 rfl ?h47) qS qR ?_
             case r47 => (exact Rd.slD 1 rfl (by (try dsimp only) <;> omega))
             case h47 => rfl
             refine WA.br2 (i := 1) (j := 10) qK ?_ ?_
             ·
              refine' WS.yl rfl rfl rfl qD (Yl.load1 tab_ok rfl rfl rfl (fun _ => rfl) ?r48 rfl ?h48) qS qR ?_
              case r48 => apply Rd.add; (exact Rd.blk 0 rfl)
              case h48 => rfl
              refine WA.eff 10 rfl qK rfl rfl qD (Ef.buildSliceD (enc := encI) (parts := [.tmp 44]) [_] tab_ok rfl rfl rfl rfl rfl rfl rfl rfl qD qD (fun a45 => ?_))
              refine ⟨by first | exact RLe.refl _ | assumption, qS, ?_⟩
              refine WA.eff 11 rfl (by kernel_rfl) rfl rfl (by decide) (Ef.appendD 2 0 tab_ok rfl rfl rfl rfl rfl rfl rfl rfl rfl rfl rfl (fun _ _ => rfl) (by simp only [List.length_cons, List.length_nil]; omega) (by simp only [List.length_cons, List.length_nil]; omega) (fun a46 c46 ha46 => ?_))
              refine ⟨by first | exact RLe.refl _ | assumption, qS, ?_⟩
              refine WA.take 12 rfl qK qK qK rfl rfl qD (pureV_ok tab_ok rfl (fun _ => rfl)) qS qR ?_
              refine WA.effN 13 rfl qK rfl rfl (Ef.store 1 tab_ok rfl rfl rfl rfl rfl rfl rfl rfl ?_)
              refine ⟨by first | exact RLe.refl _ | assumption, qS, ?_⟩
              refine WA.done qK ?_
              refine WE.blk _ ?_
              refine WE.again ((qs ++ [nth qs ((qs.length : Int) - 1).toNat], a46, c46, cn + 1)) (⟨by simp, by simp only [List.length_append, List.length_cons, List.length_nil]; omega⟩) (by simp only [List.length_append, List.length_cons, List.length_nil]; omega) ⟨rfl, rfl, rfl, rfl⟩ (RLe.refl _) qS
             ·
              refine WS.eff rfl rfl rfl qD (Ef.buildSliceD (enc := encI) (parts := [.tmp 44]) [_] tab_ok rfl rfl rfl rfl rfl rfl rfl rfl qD qD (fun a45 => ?_))
              refine ⟨by first | exact RLe.refl _ | assumption, qS, ?_⟩
              refine' WA.yl 1 rfl qK rfl rfl qD (Yl.load1 tab_ok rfl rfl rfl (fun _ => rfl) ?r49 rfl ?h49) qS qR ?_
              case r49 => apply Rd.add; (exact Rd.blk 1 rfl)
              case h49 => rfl
              refine WA.eff 11 rfl (by kernel_rfl) rfl rfl (by decide) (Ef.appendD 2 0 tab_ok rfl rfl rfl rfl rfl rfl rfl rfl rfl rfl rfl (fun _ _ => rfl) (by simp only [List.length_cons, List.length_nil]; omega) (by simp only [List.length_cons, List.length_nil]; omega) (fun a46 c46 ha46 => ?_))
              refine ⟨by first | exact RLe.refl _ | assumption, qS, ?_⟩
              refine WA.take 12 rfl qK qK qK rfl rfl qD (pureV_ok tab_ok rfl (fun _ => rfl)) qS qR ?_
              refine WA.effN 13 rfl qK rfl rfl (Ef.store 1 tab_ok rfl rfl rfl rfl rfl rfl rfl rfl ?_)
              refine ⟨by first | exact RLe.refl _ | assumption, qS, ?_⟩
              refine WA.done qK ?_
              refine WE.blk _ ?_
              refine WE.again ((qs ++ [nth qs ((qs.length : Int) - 1).toNat], a46, c46, cn + 1)) (⟨by simp, by simp only [List.length_append, List.length_cons, List.length_nil]; omega⟩) (by simp only [List.length_append, List.length_cons, List.length_nil]; omega) ⟨rfl, rfl, rfl, rfl⟩ (RLe.refl _) qS
        ·try dsimp only at hc6
         refine W.exit ?_
         refine WE.then_exit (WE.then_exit (WE.blk_exit (WE.blk _ (WE.nxt ?_))))
         (refine W.cap 1 rfl ?_; intro hcp; rw [List.length_map] at hcp; (try rw [List.length_set] at hcp); refine W.freeze (enc := encI) 1 rfl ?_; intro R1 hR1 hfz)
         refine W.seq (W.region _ ?_)
         refine' WG.y rfl rfl qD (Yl.load1 tab_ok rfl rfl rfl (fun _ => rfl) ?r50 rfl ?h50) ?_
         case r50 => (exact Rd.blk 0 rfl)
         case h50 => rfl
         refine WL.efN rfl rfl (Ef.store0 1 tab_ok rfl rfl rfl rfl rfl rfl rfl rfl ?_)
         refine WG.nil (WE.nxt (W.ret ?_))
         refine WE.retFS (E' := srcE b a cp xs (cn + 1) :: F) qS tab_ok [_] rfl ⟨⟨_, _, _, rfl, rfl, rfl, ((by first | exact Rd.blk 0 rfl | exact Rd.blk 1 rfl | exact Rd.blk 2 rfl | exact Rd.blk 3 rfl | exact Rd.blk 4 rfl | exact Rd.blk 5 rfl)), rfl⟩, trivial⟩ (hR1) ?_
         exact ⟨_, [], rfl, aq, cq, _, ⟨qs, c1.per, c1.inc⟩, rfl, hfz, by (try dsimp only); (try rw [List.length_set]); omega, by (try dsimp only); (try rw [List.length_set]); omega, rfl, rfl⟩
 ·
  refine W.regionH _ (ES := [.blk b3 [.slice fa c1.vals.length fc, .int .i64 c1.per, .int .i64 c1.inc]]) mixed ?_
  refine WA.take 1 rfl qK qK qK rfl rfl qD (pureV_ok tab_ok rfl (fun _ => rfl)) qS qR ?_
  refine' WA.take 2 rfl qK qK qK rfl rfl qD (Yl.load1 tab_ok rfl rfl rfl (fun _ => rfl) ?r51 rfl ?h51) qS qR ?_
  case r51 => apply Rd.add; (exact Rd.blk 0 rfl)
  case h51 => rfl
  refine WA.take 4 rfl qK qK qK rfl rfl qD (pureV_ok tab_ok rfl (fun _ => rfl)) qS qR ?_
  refine' WA.take 5 rfl qK qK qK rfl rfl qD (Yl.load1 tab_ok rfl rfl rfl (fun _ => rfl) ?r52 rfl ?h52) qS qR ?_
  case r52 => apply Rd.add; (exact Rd.blk 0 rfl)
  case h52 => rfl
  refine WA.take 6 rfl qK qK qK rfl rfl qD (pureV_ok tab_ok rfl (fun _ => rfl)) qS qR ?_
  refine' WA.take 7 rfl qK qK qK rfl rfl qD (Yl.load1 tab_ok rfl rfl rfl (fun _ => rfl) ?r53 rfl ?h53) qS qR ?_
  case r53 => apply Rd.add; (exact Rd.blk 0 rfl)
  case h53 => rfl
  refine WA.br2 (i := 0) (j := 9) qK ?_ ?_
  ·
   refine WS.eff rfl rfl rfl qD (Ef.buildSliceD (enc := encI) (parts := []) [] tab_ok rfl rfl rfl rfl rfl rfl rfl rfl qD qD (fun a7 => ?_))
   refine ⟨by first | exact RLe.refl _ | assumption, qS, ?_⟩
   refine WA.br2 (i := 3) (j := 9) qK ?_ ?_
   ·
    refine WS.eff rfl rfl rfl (by decide) (Ef.cloneL (enc := encI) 0 tab_ok rfl rfl rfl rfl rfl rfl rfl rfl rfl rfl hx (fun _ _ => rfl) (by dsimp only; omega) (by omega) (fun a10 c10 ha10 => ?_))
    refine ⟨by first | exact RLe.refl _ | assumption, qS, ?_⟩
    -- build
    refine WA.take 8 rfl qK qK qK rfl rfl qD (Yl.build (parts := [(0, .tmp 10), (1, .tmp 12), (2, .tmp 14)]) tab_ok rfl rfl rfl rfl (fun _ => rfl) rfl rfl) qS qR ?_
    refine WA.eff 9 rfl qK rfl rfl qD (Ef.alloc tab_ok rfl rfl (fun b5 => ?_))
    refine ⟨by first | exact RLe.refl _ | assumption, qS, ?_⟩
    refine WA.effN 10 rfl qK rfl rfl (Ef.store0 0 tab_ok rfl rfl rfl rfl rfl rfl rfl rfl ?_)
    refine ⟨by first | exact RLe.refl _ | assumption, qS, ?_⟩
    refine WA.done qK ?_
    refine WE.cutP (b5, a10, c10) trivial ⟨rfl, rfl, rfl, rfl⟩ (RLe.refl _) (by dsimp only; first | exact List.Perm.refl _ | exact List.Perm.swap _ _ _)
   ·
    refine WS.eff rfl rfl rfl qD (Ef.alloc tab_ok rfl rfl (fun b5 => ?_))
    refine ⟨by first | exact RLe.refl _ | assumption, qS, ?_⟩
    refine WA.eff 3 rfl (by kernel_rfl) rfl rfl (by decide) (Ef.cloneL (enc := encI) 1 tab_ok rfl rfl rfl rfl rfl rfl rfl rfl rfl rfl hx (fun _ _ => rfl) (by dsimp only; omega) (by omega) (fun a10 c10 ha10 => ?_))
    refine ⟨by first | exact RLe.refl _ | assumption, qS, ?_⟩
    -- build
    refine WA.take 8 rfl qK qK qK rfl rfl qD (Yl.build (parts := [(0, .tmp 10), (1, .tmp 12), (2, .tmp 14)]) tab_ok rfl rfl rfl rfl (fun _ => rfl) rfl rfl) qS qR ?_
    refine WA.effN 10 rfl qK rfl rfl (Ef.store0 0 tab_ok rfl rfl rfl rfl rfl rfl rfl rfl ?_)
    refine ⟨by first | exact RLe.refl _ | assumption, qS, ?_⟩
    refine WA.done qK ?_
    refine WE.cutP (b5, a10, c10) trivial ⟨rfl, rfl, rfl, rfl⟩ (RLe.refl _) (by dsimp only; first | exact List.Perm.refl _ | exact List.Perm.swap _ _ _)
  ·
   refine WS.eff rfl rfl rfl qD (Ef.alloc tab_ok rfl rfl (fun b5 => ?_))
   refine ⟨by first | exact RLe.refl _ | assumption, qS, ?_⟩
   refine WA.eff 0 rfl qK rfl rfl qD (Ef.buildSliceD (enc := encI) (parts := []) [] tab_ok rfl rfl rfl rfl rfl rfl rfl rfl qD qD (fun a7 => ?_))
   refine ⟨by first | exact RLe.refl _ | assumption, qS, ?_⟩
   refine WA.eff 3 rfl (by kernel_rfl) rfl rfl (by decide) (Ef.cloneL (enc := encI) 0 tab_ok rfl rfl rfl rfl rfl rfl rfl rfl rfl rfl hx (fun _ _ => rfl) (by dsimp only; omega) (by omega) (fun a10 c10 ha10 => ?_))
   refine ⟨by first | exact RLe.refl _ | assumption, qS, ?_⟩
   -- build
   refine WA.take 8 rfl qK qK qK rfl rfl qD (Yl.build (parts := [(0, .tmp 10), (1, .tmp 12), (2, .tmp 14)]) tab_ok rfl rfl rfl rfl (fun _ => rfl) rfl rfl) qS qR ?_
   refine WA.effN 10 rfl qK rfl rfl (Ef.store0 1 tab_ok rfl rfl rfl rfl rfl rfl rfl rfl ?_)
   refine ⟨by first | exact RLe.refl _ | assumption, qS, ?_⟩
   refine WA.done qK ?_
   refine WE.cutP (b5, a10, c10) trivial ⟨rfl, rfl, rfl, rfl⟩ (RLe.refl _) (by dsimp only; first | exact List.Perm.refl _ | exact List.Perm.swap _ _ _)

theorem Steps_C {R : Ro} {b : Nat} {a : Option Addr} {cp : Nat} {xs : List Int} {c : Nat} (w0 : World) (ha : RS R 1 encI a xs) : FnAt Try.prog 11 [.pointer (some ⟨b, 0, none⟩)] w0 R (srcE b a cp xs c) (fun v R' e' N => ∃ (f : Option Addr) (fc cn : Nat) (cv : Cv), v = .agg #[.slice f cv.vals.length fc, .int .i64 cv.per, .int .i64 cv.inc] ∧ RS R' 1 encI f cv.vals ∧ cv.vals.length ≤ 500 ∧ cv.vals.length ≤ fc ∧ e' = srcE b a cp xs cn ∧ N = []) := by
 intro F
 refine Fn.enter (n := 14) Try.func11 rfl rfl (Nat.le_of_ble_eq_true rfl) rfl ?_
 refine W.seq (W.region _ ?_)
 refine WL.ef rfl rfl qD (Ef.alloc tab_ok rfl rfl (fun b2 => ?_))
 refine WG.nil (WE.nxt (W.seq (W.region _ (WG.run tab_ok 1 rfl ?_))))
 refine WL.ef rfl rfl qD (Ef.buildSliceD (enc := encI) (parts := [.const (.int .i64 2), .const (.int .i64 3), .const (.int .i64 5), .const (.int .i64 8), .const (.int .i64 9), .const (.int .i64 11), .const (.int .i64 13), .const (.int .i64 16), .const (.int .i64 40), .const (.int .i64 60), .const (.int .i64 119)]) [_, _, _, _, _, _, _, _, _, _, _] tab_ok rfl rfl rfl rfl rfl rfl rfl rfl qD qD (fun a5 => ?_))
 refine WL.callAt 2 en13 rfl rfl qD (CallOp.mkT rfl rfl rfl rfl) rfl (PickM_C (j := 0) w0 ([2, 3, 5, 8, 9, 11, 13, 16, 40, 60, 119] : List Int) rfl qD qD ha rfl) ?_
 rintro _ _ _ _ - ⟨rfl, rfl, rfl, rfl⟩
 obtain ⟨P, hP, hP1⟩ : ∃ P : Nat, nth ([2, 3, 5, 8, 9, 11, 13, 16, 40, 60, 119] : List Int) (mod (nth xs c) ((11 : Nat) : Int)).toNat = (P : Int) ∧ 2 ≤ P ∧ P ≤ 119 := by
  have hm2 := mod_range (nth xs c) (show (1 : Int) ≤ ((11 : Nat) : Int) by decide)
  have h2 : 2 ≤ nth ([2, 3, 5, 8, 9, 11, 13, 16, 40, 60, 119] : List Int) (mod (nth xs c) ((11 : Nat) : Int)).toNat ∧ nth ([2, 3, 5, 8, 9, 11, 13, 16, 40, 60, 119] : List Int) (mod (nth xs c) ((11 : Nat) : Int)).toNat ≤ 119 := nth_in (by decide) (by simp only [List.length_cons, List.length_nil]; omega)
  exact ⟨(nth ([2, 3, 5, 8, 9, 11, 13, 16, 40, 60, 119] : List Int) (mod (nth xs c) ((11 : Nat) : Int)).toNat).toNat, by omega, by omega, by omega⟩
 rw [hP]
 have hm1 := mod_range (nth xs (c + 1)) (show (1 : Int) ≤ 40 by decide)
 refine WG.run tab_ok 1 rfl (WG.nil (WE.nxt (W.seq ?_)))
 refine W.regionH _ (ES := []) mixed ?_
 refine WA.take 0 rfl qK qK qK rfl rfl qD (pureV_ok tab_ok rfl (fun _ => rfl)) qS qR ?_
 refine WA.take 2 rfl qK qK qK rfl rfl qD (pureV_ok tab_ok rfl (fun _ => rfl)) qS qR ?_
 refine WA.take 3 rfl qK qK qK rfl rfl qD (pureV_ok tab_ok rfl (fun _ => rfl)) qS qR ?_
 refine WA.br2 (i := 1) (j := 4) qK ?_ ?_
 ·
  refine WS.eff rfl rfl rfl (by decide) (Ef.makeSliceD (enc := encI) 0 tab_ok rfl rfl rfl rfl rfl rfl (by (try dsimp only) <;> omega) (by (try dsimp only) <;> omega) (by (try dsimp only) <;> omega) (by (try dsimp only) <;> omega) (by decide) rfl rfl (fun a8 => ?_))
  refine ⟨by first | exact RLe.refl _ | assumption, qS, ?_⟩
  refine WA.callAt 3 4 rfl qK en12 rfl rfl qD (CallOp.mkT rfl rfl rfl rfl) rfl (N_C w0 ha (by constructor <;> decide) _) ?_
  rintro _ _ _ _ - ⟨rfl, rfl, rfl, rfl⟩
  refine ⟨RLe.refl _, qS, ?_⟩
  refine WA.take 5 rfl (by kernel_rfl) (by kernel_rfl) (by kernel_rfl) rfl rfl (by decide) (Yl.add rfl rfl rfl (fun _ => rfl) (by intro _; constructor <;> (try dsimp only) <;> omega)) qS (by first | exact RLe.refl _ | assumption) ?_
  -- build
  refine WA.take 6 rfl qK qK qK rfl rfl qD (Yl.build (parts := [(0, .tmp 8), (1, .tmp 9), (2, .tmp 12)]) tab_ok rfl rfl rfl rfl (fun _ => rfl) rfl rfl) qS qR ?_
  refine WA.effN 7 rfl qK rfl rfl (Ef.store0 2 tab_ok rfl rfl rfl rfl rfl rfl rfl rfl ?_)
  refine ⟨by first | exact RLe.refl _ | assumption, qS, ?_⟩
  refine WA.done qK ?_
  refine WE.freeze (enc := encI) (xs := List.replicate P 0) 0 rfl ?_
  intro R1 hR1 hfz
  refine WE.nxt (W.ret ?_)
  refine WE.retFS (E' := srcE b a cp xs (c + 1 + 1) :: F) qS tab_ok [_] rfl ⟨⟨_, _, _, rfl, rfl, rfl, ((by first | exact Rd.blk 0 rfl | exact Rd.blk 1 rfl | exact Rd.blk 2 rfl | exact Rd.blk 3 rfl | exact Rd.blk 4 rfl)), rfl⟩, trivial⟩ (hR1) ?_
  exact ⟨_, [], rfl, _, P, _, ⟨List.replicate P 0, (P : Int), _⟩, by (try dsimp only); rw [List.length_replicate]; rfl, hfz, by (try dsimp only); rw [List.length_replicate]; omega, by (try dsimp only); rw [List.length_replicate]; omega, rfl, rfl⟩
 ·
  refine WS.callAt 2 rfl en12 rfl rfl qD (CallOp.mkT rfl rfl rfl rfl) rfl (N_C w0 ha (by constructor <;> decide) _) ?_
  rintro _ _ _ _ - ⟨rfl, rfl, rfl, rfl⟩
  refine ⟨by first | exact RLe.refl _ | assumption, qS, ?_⟩
  refine WA.take 5 rfl (by kernel_rfl) (by kernel_rfl) (by kernel_rfl) rfl rfl (by decide) (Yl.add rfl rfl rfl (fun _ => rfl) (by intro _; constructor <;> (try dsimp only) <;> omega)) qS (by first | exact RLe.refl _ | assumption) ?_
  refine WA.eff 1 rfl (by kernel_rfl) rfl rfl (by decide) (Ef.makeSliceD (enc := encI) 0 tab_ok rfl rfl rfl rfl rfl rfl (by (try dsimp only) <;> omega) (by (try dsimp only) <;> omega) (by (try dsimp only) <;> omega) (by (try dsimp only) <;> omega) (by decide) rfl rfl (fun a8 => ?_))
  refine ⟨by first | exact RLe.refl _ | assumption, qS, ?_⟩
  -- build
  refine WA.take 6 rfl qK qK qK rfl rfl qD (Yl.build (parts := [(0, .tmp 8), (1, .tmp 9), (2, .tmp 12)]) tab_ok rfl rfl rfl rfl (fun _ => rfl) rfl rfl) qS qR ?_
  refine WA.effN 7 rfl qK rfl rfl (Ef.store0 2 tab_ok rfl rfl rfl rfl rfl rfl rfl rfl ?_)
  refine ⟨by first | exact RLe.refl _ | assumption, qS, ?_⟩
  refine WA.done qK ?_
  refine WE.freeze (enc := encI) (xs := List.replicate P 0) 0 rfl ?_
  intro R1 hR1 hfz
  refine WE.nxt (W.ret ?_)
  refine WE.retFS (E' := srcE b a cp xs (c + 1 + 1) :: F) qS tab_ok [_] rfl ⟨⟨_, _, _, rfl, rfl, rfl, ((by first | exact Rd.blk 0 rfl | exact Rd.blk 1 rfl | exact Rd.blk 2 rfl | exact Rd.blk 3 rfl | exact Rd.blk 4 rfl)), rfl⟩, trivial⟩ (hR1) ?_
  exact ⟨_, [], rfl, _, P, _, ⟨List.replicate P 0, (P : Int), _⟩, by (try dsimp only); rw [List.length_replicate]; rfl, hfz, by (try dsimp only); rw [List.length_replicate]; omega, by (try dsimp only); rw [List.length_replicate]; omega, rfl, rfl⟩

end Go.Proofs.Ytnackbfnmhkodaa

/- Delays and backlogs of any two valid curves, plain: the program and the reference find the same. No condition. -/
namespace Go.Proofs.Ytnackbfnmhkodaa.M
open Go Go.Proofs.Ytnackbfnmhkodaa.K

/-- the least tick with so much, as the program looks for it -/
def reachG (c : Cv) (v : Int) : Int × Bool :=
  if findFrom (fun t => decide (cvF c t ≥ v)) c.vals.length 0 ≠ -1 then (findFrom (fun t => decide (cvF c t ≥ v)) c.vals.length 0, true)
  else if v = INF ∨ c.inc = 0 then (0, false)
  else (findFrom (fun t => decide (cvF c t ≥ v)) (c.per.toNat + 1) (c.vals.length + (((v - cvF c (c.vals.length - 1) + c.inc - 1) / c.inc).toNat - 1) * c.per.toNat), true)
structure IsFirst (F : Nat → Int) (v : Int) (r : Int × Bool) : Prop where
  yes : r.2 = true → ∃ t : Nat, r.1 = t ∧ v ≤ F t ∧ ∀ j, j < t → F j < v
  no : r.2 = false → r.1 = 0 ∧ ∀ t, F t < v
theorem IsFirst.eq {F : Nat → Int} {v : Int} {r r' : Int × Bool} (h : IsFirst F v r) (h' : IsFirst F v r') : r = r' := by
  obtain ⟨x, b⟩ := r
  obtain ⟨y, b'⟩ := r'
  cases b with
  | false =>
    obtain ⟨e, hn⟩ := h.no rfl
    cases b' with
    | false => obtain ⟨e', _⟩ := h'.no rfl; simp only at e e'; rw [e, e']
    | true => obtain ⟨t, _, h1, _⟩ := h'.yes rfl; have := hn t; omega
  | true =>
    obtain ⟨t, e, h1, h2⟩ := h.yes rfl
    cases b' with
    | false => obtain ⟨_, hn⟩ := h'.no rfl; have := hn t; omega
    | true =>
      obtain ⟨t', e', h1', h2'⟩ := h'.yes rfl
      have : t = t' := by
        apply Classical.byContradiction
        intro hne
        rcases Nat.lt_or_gt_of_ne hne with hl | hl
        · have := h2' t hl; omega
        · have := h2 t' hl; omega
      simp only at e e'
      rw [e, e', this]
theorem reachG_F {c : Cv} {S P : Nat} (hl : c.vals.length = S + P) (hp : c.per = P) {v : Int} (hv : v ≠ INF) : reachG c v = reachF (cvF c) S P c.inc v := by
  have e : (v = INF ∨ c.inc = 0) ↔ c.inc = 0 := ⟨fun h => h.resolve_left hv, .inr⟩
  unfold reachG reachF
  rw [hl, hp, Int.toNat_natCast]
  simp only [e]
theorem reachG_fin {c : Cv} (hv : validB c = true) (hf : finB c = true) {v : Int} (h : v ≠ INF) : IsFirst (cvF c) v (reachG c v) := by
  rcases valid_cases hv with ⟨S, P, _, hl, hp, hfc, _⟩ | ⟨_, _, _, _, _, _, _, f⟩
  · rw [reachG_F hl hp h]
    have hP := hfc.hP
    unfold reachF
    rcases findFrom_cases (fun t => decide (cvF c t ≥ v)) (S + P) 0 with ⟨i, h1, h2, h3, h4, h5⟩ | ⟨h1, h2⟩
    · rw [h3, if_pos (by omega)]
      exact ⟨fun _ => ⟨i, rfl, of_decide_eq_true h4, fun j hj => by have := of_decide_eq_false (h5 j (Nat.zero_le _) hj); omega⟩, fun hh => by cases hh⟩
    · have hlow : ∀ j, j < S + P → cvF c j < v := fun j hj => by have := of_decide_eq_false (h2 j (Nat.zero_le _) (by omega)); omega
      rw [h1, if_neg (fun hh => hh rfl)]
      by_cases hI : c.inc = 0
      · rw [if_pos hI]
        refine ⟨fun hh => (by cases hh), fun _ => ⟨rfl, fun t => ?_⟩⟩
        induction t using Nat.strongRecOn with
        | _ t ih =>
          by_cases ht : t < S + P
          · exact hlow t ht
          · have a := ih (t - P) (by omega)
            have b := hfc.hg (t - P) (by omega)
            rw [show t - P + P = t by omega, hI] at b
            omega
      · rw [if_neg hI]
        obtain ⟨g1, g2, g3, g4⟩ := reach_facts hfc hI (hlow (S + P - 1) (by omega))
        rcases findFrom_cases (fun t => decide (cvF c t ≥ v)) (P + 1) (S + P + (((v - cvF c (S + P - 1) + c.inc - 1) / c.inc).toNat - 1) * P) with ⟨i, k1, k2, k3, k4, k5⟩ | ⟨k1, k2⟩
        · rw [k3]
          refine ⟨fun _ => ⟨i, rfl, of_decide_eq_true k4, fun j hj => ?_⟩, fun hh => by cases hh⟩
          obtain ⟨k, hk⟩ := Int.eq_ofNat_of_zero_le (show 0 ≤ (v - cvF c (S + P - 1) + c.inc - 1) / c.inc by omega)
          rw [hk] at g1 g2
          rw [hk, Int.toNat_natCast] at k5
          by_cases hj2 : j < S + P + (k - 1) * P
          · have a := hfc.mono (show j ≤ S + P - 1 + (k - 1) * P by omega)
            have b := hfc.hg.mul (k - 1) (S + P - 1) (by omega)
            have e : ((k - 1 : Nat) : Int) * c.inc = (k : Int) * c.inc - c.inc := by
              rw [show ((k - 1 : Nat) : Int) = (k : Int) - 1 by omega, Int.sub_mul]; simp
            rw [e] at b
            omega
          · have := of_decide_eq_false (k5 j (by omega) hj); omega
        · have := of_decide_eq_false (k2 (S + P + (((v - cvF c (S + P - 1) + c.inc - 1) / c.inc).toNat - 1) * P + (P - 1)) (by omega) (by omega))
          omega
  · rw [hf] at f; cases f
theorem reachG_inf {c : Cv} (hv : validB c = true) (hf : finB c = false) {v : Int} (h : v ≤ INF) : IsFirst (cvF c) v (reachG c v) ∧ (reachG c v).2 = true ∧ (reachG c v).1 ≤ stN c := by
  obtain ⟨n, h1, h2, h3⟩ := inf_at hv hf
  have hs := stN_lt hv
  unfold reachG
  rcases findFrom_cases (fun t => decide (cvF c t ≥ v)) c.vals.length 0 with ⟨i, k1, k2, k3, k4, k5⟩ | ⟨k1, k2⟩
  · have hin : i ≤ n := by
      apply Classical.byContradiction
      intro hh
      have := of_decide_eq_false (k5 n (Nat.zero_le _) (by omega))
      rw [h3.hi n (Nat.le_refl _)] at this
      omega
    rw [k3, if_pos (by omega)]
    exact ⟨⟨fun _ => ⟨i, rfl, of_decide_eq_true k4, fun j hj => by have := of_decide_eq_false (k5 j (Nat.zero_le _) hj); omega⟩, fun hh => by cases hh⟩, rfl, by dsimp only; omega⟩
  · have := of_decide_eq_false (k2 n (Nat.zero_le _) (by omega))
    rw [h3.hi n (Nat.le_refl _)] at this
    omega
theorem reachG_none {c : Cv} (hv : validB c = true) (hf : finB c = true) : reachG c INF = (0, false) := by
  rcases valid_cases hv with ⟨S, P, _, hl, hp, hfc, _⟩ | ⟨_, _, _, _, _, _, _, f⟩
  · unfold reachG
    rw [show findFrom (fun t => decide (cvF c t ≥ INF)) c.vals.length 0 = -1 from findFrom_none (fun j _ hj => decide_eq_false (by have := hfc.hb j (by omega); unfold INF; omega)), if_neg (fun hh => hh rfl), if_pos (.inl rfl)]
  · rw [hf] at f; cases f
theorem reachG_bound {c : Cv} (hv : validB c = true) {v : Int} (h : v = INF ∨ (0 ≤ v ∧ v ≤ 1000000000000000)) : -1 ≤ (reachG c v).1 ∧ (reachG c v).1 ≤ 200000000000000000 := by
  cases hf : finB c with
  | false =>
    obtain ⟨h1, h2, h3⟩ := reachG_inf hv hf (v := v) (by unfold INF at *; omega)
    obtain ⟨t, e, _⟩ := h1.yes h2
    have := stN_lt hv
    omega
  | true =>
    rcases h with rfl | h
    · rw [reachG_none hv hf]; decide
    · rcases valid_cases hv with ⟨S, P, _, hl, hp, hfc, _⟩ | ⟨_, _, _, _, _, _, _, f⟩
      · rw [reachG_F hl hp (by unfold INF; omega)]
        exact reach_bound hfc h
      · rw [hf] at f; cases f
/-! ### the greatest distance -/
theorem greatW_true {f : Nat → Int × Bool} : ∀ (n t : Nat) (v a : Int), (greatW f n t v a).1 = true → greatW f n t v a = (true, 0, 0)
  | 0, t, v, a, h => by cases h
  | n + 1, t, v, a, h => by
    simp only [greatW] at h ⊢
    by_cases h1 : (f t).2 = false
    · rw [if_pos h1]
    · rw [if_neg h1] at h ⊢
      by_cases h2 : (f t).1 > v
      · rw [if_pos h2] at h ⊢; exact greatW_true n _ _ _ h
      · rw [if_neg h2] at h ⊢; exact greatW_true n _ _ _ h
theorem greatW_app {f : Nat → Int × Bool} (k : Nat) : ∀ (n t : Nat) (v a : Int), greatW f (n + k) t v a = if (greatW f n t v a).1 = true then (true, 0, 0) else greatW f k (t + n) (greatW f n t v a).2.1 (greatW f n t v a).2.2
  | 0, t, v, a => by
    have e : greatW f 0 t v a = (false, v, a) := rfl
    rw [e, Nat.zero_add, Nat.add_zero]; rfl
  | n + 1, t, v, a => by
    rw [show n + 1 + k = n + k + 1 by omega]
    by_cases h1 : (f t).2 = false
    · have e1 : greatW f (n + k + 1) t v a = (true, 0, 0) := if_pos h1
      have e2 : greatW f (n + 1) t v a = (true, 0, 0) := if_pos h1
      rw [e1, e2]; rfl
    · by_cases h2 : (f t).1 > v
      · have e1 : greatW f (n + k + 1) t v a = greatW f (n + k) (t + 1) (f t).1 t := by simp only [greatW]; rw [if_neg h1, if_pos h2]
        have e2 : greatW f (n + 1) t v a = greatW f n (t + 1) (f t).1 t := by simp only [greatW]; rw [if_neg h1, if_pos h2]
        rw [e1, e2, greatW_app k n, show t + 1 + n = t + (n + 1) by omega]
      · have e1 : greatW f (n + k + 1) t v a = greatW f (n + k) (t + 1) v a := by simp only [greatW]; rw [if_neg h1, if_neg h2]
        have e2 : greatW f (n + 1) t v a = greatW f n (t + 1) v a := by simp only [greatW]; rw [if_neg h1, if_neg h2]
        rw [e1, e2, greatW_app k n, show t + 1 + n = t + (n + 1) by omega]
theorem greatW_stay {f : Nat → Int × Bool} {v a : Int} : ∀ {k t : Nat}, (∀ u, t ≤ u → u < t + k → (f u).2 = true ∧ (f u).1 ≤ v) → greatW f k t v a = (false, v, a)
  | 0, t, _ => rfl
  | k + 1, t, h => by
    obtain ⟨h1, h2⟩ := h t (Nat.le_refl _) (by omega)
    simp only [greatW]
    rw [if_neg (by rw [h1]; simp), if_neg (by omega)]
    exact greatW_stay (fun u u1 u2 => h u (by omega) (by omega))
theorem greatW_inf {f : Nat → Int × Bool} {u : Nat} (hf : (f u).2 = false) : ∀ (n t : Nat) (v a : Int), t ≤ u → u < t + n → greatW f n t v a = (true, 0, 0)
  | 0, t, v, a, h1, h2 => by omega
  | n + 1, t, v, a, h1, h2 => by
    simp only [greatW]
    by_cases e : t = u
    · subst e; rw [if_pos hf]
    · by_cases h3 : (f t).2 = false
      · rw [if_pos h3]
      · rw [if_neg h3]
        split
        · exact greatW_inf hf n _ _ _ (by omega) (by omega)
        · exact greatW_inf hf n _ _ _ (by omega) (by omega)
theorem greatW_same {f : Nat → Int × Bool} {n1 n2 : Nat} (h : n1 ≤ n2) (hs : ∀ V : Int, 0 ≤ V → (∀ u, u < n1 → (f u).2 = true ∧ (f u).1 ≤ V) → ∀ u, n1 ≤ u → u < n2 → (f u).2 = true ∧ (f u).1 ≤ V) : greatW f n1 0 0 0 = greatW f n2 0 0 0 := by
  obtain ⟨k, rfl⟩ : ∃ k, n2 = n1 + k := ⟨n2 - n1, by omega⟩
  rw [greatW_app]
  cases e : (greatW f n1 0 0 0).1 with
  | true => rw [if_pos rfl]; exact greatW_true _ _ _ _ e
  | false =>
    obtain ⟨h1, h2⟩ := greatW_sound n1 0 0 0 e
    rw [if_neg (by simp), greatW_stay (fun u u1 u2 => hs _ h1 (fun u hu => h2 u (Nat.zero_le _) (by omega)) u (by omega) (by omega))]
    exact Prod.ext e rfl
/-! ### delays, backlogs -/
def loose (a b : Cv) : Prop := finB b = true ∧ (finB a = false ∨ gainC b (lcmC a b) < gainC a (lcmC a b))
instance (a b : Cv) : Decidable (loose a b) := by unfold loose; infer_instance
def fastQ (a b : Cv) : Prop := finB a = true ∧ finB b = true ∧ 0 < gainC a (lcmC a b) - gainC b (lcmC a b)
instance (a b : Cv) : Decidable (fastQ a b) := by unfold fastQ; infer_instance
def gapD (a b : Cv) (t : Nat) : Int × Bool := ((reachG b (cvF a t)).1 - t, (reachG b (cvF a t)).2)
def gapA (a b : Cv) (d t : Nat) : Int × Bool := if isInf b t then (0, true) else (cvF a (t + d) - cvF b t, !decide (isInf a (t + d)))
def devN (a b : Cv) (f : Nat → Int × Bool) : (Bool × Int × Int) × Int :=
  if 120 < lcmC a b then ((false, 0, 0), 3) else if loose a b then ((true, 0, 0), 0) else (greatW f (max (stN a) (stN b) + lcmC a b) 0 0 0, 0)
def devQ (a b : Cv) (f : Nat → Int × Bool) : (Bool × Int × Int) × Int :=
  if 120 < lcmC a b then ((false, 0, 0), 3) else if fastQ a b then ((true, 0, 0), 0) else (greatW f (max a.vals.length b.vals.length + lcmC a b) 0 0 0, 0)
theorem dev_same {a b : Cv} {f : Nat → Int × Bool} (ha : validB a = true) (hb : validB b = true)
    (h1 : finB b = true → finB a = false → ∃ u, u < a.vals.length ∧ (f u).2 = false)
    (h2 : ¬ loose a b → ∀ V : Int, 0 ≤ V → (∀ u, u < max (stN a) (stN b) + lcmC a b → (f u).2 = true ∧ (f u).1 ≤ V) → ∀ u, max (stN a) (stN b) + lcmC a b ≤ u → u < max a.vals.length b.vals.length + lcmC a b → (f u).2 = true ∧ (f u).1 ≤ V) : devN a b f = devQ a b f := by
  have s1 := stN_lt ha
  have s2 := stN_lt hb
  unfold devN devQ
  by_cases hl : 120 < lcmC a b
  · rw [if_pos hl, if_pos hl]
  rw [if_neg hl, if_neg hl]
  by_cases hlo : loose a b
  · rw [if_pos hlo]
    obtain ⟨fb, hlo⟩ := hlo
    cases fa : finB a with
    | false =>
      obtain ⟨u, hu, hf⟩ := h1 fb fa
      rw [if_neg (fun h => by unfold fastQ at h; rw [fa] at h; cases h.1), greatW_inf hf _ _ _ _ (Nat.zero_le _) (by omega)]
    | true =>
      rw [fa] at hlo
      rw [if_pos]
      unfold fastQ
      refine ⟨fa, fb, ?_⟩
      rcases hlo with h | h
      · cases h
      · omega
  · rw [if_neg hlo, if_neg, greatW_same (by omega) (h2 hlo)]
    rintro ⟨fa, fb, hd⟩
    exact hlo ⟨fb, .inr (by omega)⟩
section
variable {a b : Cv}
theorem cvF_le (hv : validB a = true) {s t : Nat} (h : s ≤ t) : cvF a s ≤ cvF a t := mono_le (cvF_mono hv) h
theorem gains (ha : validB a = true) (hb : validB b = true) (fa : finB a = true) (fb : finB b = true) : Grows (cvF a) (stN a) (lcmC a b) (gainC a (lcmC a b)) ∧ Grows (cvF b) (stN b) (lcmC a b) (gainC b (lcmC a b)) := by
  obtain ⟨_, _, _, q1, _⟩ := valid_range ha
  obtain ⟨_, _, _, q2, _⟩ := valid_range hb
  obtain ⟨m1, m2, _⟩ := lcm_mod (a := a.per.toNat) (b := b.per.toNat) (by omega) (by omega)
  exact ⟨gain_grows ha fa m1, gain_grows hb fb m2⟩
theorem cvF_low15 (ha : validB a = true) {u : Nat} (hu : u ≤ 100000) : cvF a u = INF ∨ (0 ≤ cvF a u ∧ cvF a u ≤ 1000000000000000) := by
  have := cvF_bound ha u
  rcases this.2 with h | h
  · exact .inl h
  · right; omega
theorem fin_ne (ha : validB a = true) (fa : finB a = true) {u : Nat} (hu : u ≤ 100000) : cvF a u ≠ INF := fun h => isInf_fin fa u ((isInf_iff ha (by omega)).2 h)
theorem delay_same (ha : validB a = true) (hb : validB b = true) : devN a b (gapD a b) = devQ a b (gapD a b) := by
  have s1 := stN_lt ha
  have s2 := stN_lt hb
  by_cases hl : 120 < lcmC a b
  · unfold devN devQ; rw [if_pos hl, if_pos hl]
  refine dev_same ha hb (fun fb fa => ?_) (fun hlo V hV hbase => ?_)
  · obtain ⟨n, n1, _, n3⟩ := inf_at ha fa
    refine ⟨n, by omega, ?_⟩
    unfold gapD
    rw [n3.hi n (Nat.le_refl _), reachG_none hb fb]
  · cases fb : finB b with
    | false =>
      intro u u1 u2
      have hle : cvF a u ≤ INF := by rcases cvF_low15 ha (show u ≤ 100000 by omega) with h | h <;> unfold INF at * <;> omega
      obtain ⟨_, r2, r3⟩ := reachG_inf hb fb hle
      exact ⟨r2, by unfold gapD; dsimp only; omega⟩
    | true =>
      have fa : finB a = true := by
        cases fa : finB a with
        | true => rfl
        | false => exact absurd ⟨fb, .inl fa⟩ hlo
      have hg : gainC a (lcmC a b) ≤ gainC b (lcmC a b) := by
        apply Classical.byContradiction
        intro h; exact hlo ⟨fb, .inr (by omega)⟩
      obtain ⟨g1, g2⟩ := gains ha hb fa fb
      have hl0 := lcm_pos ha hb
      have key : ∀ u, u ≤ 100000 → (gapD a b u).2 = true ∧ (gapD a b u).1 ≤ V := by
        intro u
        induction u using Nat.strongRecOn with
        | _ u ih =>
          intro hu
          by_cases h1 : u < max (stN a) (stN b) + lcmC a b
          · exact hbase u h1
          · obtain ⟨i1, i2⟩ := ih (u - lcmC a b) (by omega) (by omega)
            unfold gapD at i1 i2 ⊢
            dsimp only at i1 i2 ⊢
            obtain ⟨r, e, r1, _⟩ := (reachG_fin hb fb (fin_ne ha fa (show u - lcmC a b ≤ 100000 by omega))).yes i1
            have a1 := g1 (u - lcmC a b) (by omega)
            rw [show u - lcmC a b + lcmC a b = u by omega] at a1
            have a2 := g2 (max r (stN b)) (by omega)
            have a3 := cvF_le hb (Nat.le_max_left r (stN b))
            have hfi := reachG_fin hb fb (fin_ne ha fa hu)
            cases e2 : (reachG b (cvF a u)).2 with
            | false => have := (hfi.no e2).2 (max r (stN b) + lcmC a b); omega
            | true =>
              obtain ⟨t, k1, k2, k3⟩ := hfi.yes e2
              refine ⟨rfl, ?_⟩
              have : t ≤ max r (stN b) + lcmC a b := by
                apply Classical.byContradiction
                intro hh
                have := k3 (max r (stN b) + lcmC a b) (by omega)
                omega
              omega
      exact fun u _ u2 => key u (by omega)
end
end Go.Proofs.Ytnackbfnmhkodaa.M

/- The theta with the least delay, plain. No condition. -/
namespace Go.Proofs.Ytnackbfnmhkodaa.M
open Go Go.Proofs.Ytnackbfnmhkodaa.K
def lessD (a b : Bool × Int × Int) : Bool := !a.1 && (b.1 || decide (a.2.1 < b.2.1))
abbrev Best : Type := Option (Nat × Bool × Int × Int)
def betterD (d : Bool × Int × Int) : Best → Bool
  | none => true
  | some y => lessD d y.2
/-- one theta -/
def stepD (a b o : Cv) (th : Nat) (best : Best) : Best :=
  if (shareN b o th).2 ≠ 0 then best
  else if (devN a (normR (shareN b o th).1) (gapD a (normR (shareN b o th).1))).2 = 0 ∧ betterD (devN a (normR (shareN b o th).1) (gapD a (normR (shareN b o th).1))).1 best = true then some (th, (devN a (normR (shareN b o th).1) (gapD a (normR (shareN b o th).1))).1)
  else best
def leastGo (a b o : Cv) : Nat → Nat → Best → Best
  | 0, _, best => best
  | n + 1, th, best => leastGo a b o n (th + 1) (stepD a b o th best)
/-- what comes of it -/
def outD : Best → (Int × Bool × Int × Int) × Int
  | none => ((0, false, 0, 0), 5)
  | some y => (((y.1 : Nat), y.2), 0)
/-- where it stands in memory -/
def BestR (R : Ro) (p : Option Addr) (best : Best) : Prop :=
  (p = none ∧ best = none) ∨ ∃ (b th : Nat) (i : Bool) (v a : Int), p = some ⟨b, 0, none⟩ ∧ best = some (th, i, v, a) ∧ R b = some [.int .i64 (th : Int), .bool i, .int .i64 v, .int .i64 a]
theorem BestR.mono {R R' : Ro} {p : Option Addr} {best : Best} (h : BestR R p best) (hR : RLe R R') : BestR R' p best := by
  rcases h with h | ⟨b, th, i, v, a, h1, h2, h3⟩
  · exact .inl h
  · exact .inr ⟨b, th, i, v, a, h1, h2, hR _ _ h3⟩
def optB (at' : Int) (d : Bool × Int × Int) : Best := if at' < 0 then none else some (at'.toNat, d)
section
variable {a b o : Cv}
end
end Go.Proofs.Ytnackbfnmhkodaa.M

/- Rules: calls that hand back one value and leave memory, under any guard, in regions that draw their order and write; what is not wanted. No condition. -/
namespace Go.Proofs.Ytnackbfnmhkodaa.K
open Go Go.RowKit
section
variable {P : Program} {ops : List Oper} {o : Oper} {Q : Exit → Act → World → Prop} {ES : List Ent} {R0 : Ro} {w0 : World} {fuel : Nat} {listed : Array Bool} {n : Nat} {env : Env} {R : Ro} {E : List Ent} {pc q : Bool}
theorem WA.callV {v : Value} {d : Nat} {f : FuncId} {vs : List Value} (i : Nat) (hi : ops.toArray[i]? = some o) (hr : Region.ready .any ops.toArray listed = [i]) (hf : Enters P f) (hg : gpc ops env o = some pc) (hd : o.dst = some d) (hdn : d < n)
    (hc : CallOp env o.op q f vs) (hq : pc = true → q = true) (hv : pc = true → FnV P f vs R v) (hsub : ES.Sublist E) (hR : RLe R0 R)
    (h : WA P ops Q ES R0 w0 fuel (listed.setIfInBounds i true) n ((d, pc, v) :: env) R E) : WA P ops Q ES R0 w0 (fuel + 1) listed n env R E := by
  intro a w hk hm
  refine wpAnyH_all hr (by simp) fun j hj => ?_
  obtain rfl : j = i := by simpa using hj
  unfold wpOp
  rw [hi]
  have hput := hk.put hdn pc v
  have hw := hk.wanted hg
  cases pc with
  | true =>
    simp only [hw, if_true]
    left
    unfold Oper.wp
    rw [run_call hk hc (hq rfl) hf]
    refine (hv rfl w0 E w hm).mono ?_
    rintro e w' ⟨rfl, hm'⟩
    simp only [hd]
    exact ⟨hm'.sub hR hsub, h _ _ (by simpa using hput) hm'⟩
  | false =>
    simp only [hw, Bool.false_eq_true, if_false, hd]
    exact ⟨hm.sub hR hsub, h _ _ (by simpa using hput) hm⟩
theorem WS.callV {v : Value} {d : Nat} {f : FuncId} {vs : List Value} {i : Nat} (hi : ops.toArray[i]? = some o) (hf : Enters P f) (hg : gpc ops env o = some pc) (hd : o.dst = some d) (hdn : d < n)
    (hc : CallOp env o.op q f vs) (hq : pc = true → q = true) (hv : pc = true → FnV P f vs R v) (hsub : ES.Sublist E) (hR : RLe R0 R)
    (h : WA P ops Q ES R0 w0 fuel (listed.setIfInBounds i true) n ((d, pc, v) :: env) R E) : WS P ops Q ES R0 w0 fuel listed n env R E i := by
  intro a w hk hm
  unfold wpOp
  rw [hi]
  have hput := hk.put hdn pc v
  have hw := hk.wanted hg
  cases pc with
  | true =>
    simp only [hw, if_true]
    left
    unfold Oper.wp
    rw [run_call hk hc (hq rfl) hf]
    refine (hv rfl w0 E w hm).mono ?_
    rintro e w' ⟨rfl, hm'⟩
    simp only [hd]
    exact ⟨hm'.sub hR hsub, h _ _ (by simpa using hput) hm'⟩
  | false =>
    simp only [hw, Bool.false_eq_true, if_false, hd]
    exact ⟨hm.sub hR hsub, h _ _ (by simpa using hput) hm⟩
theorem Yl.off {v : Value} (h : pc = false) : Yl P n env w0 R E o pc v := fun _ _ _ _ hp => by rw [h] at hp; cases hp
end
end Go.Proofs.Ytnackbfnmhkodaa.K

/- Any valid curve: what the references make of it. No condition. -/
set_option maxRecDepth 4000
set_option linter.unusedSimpArgs false
set_option linter.unusedVariables false
namespace Go.Proofs.Ytnackbfnmhkodaa
open Go Go.RowKit Go.Proofs.Ytnackbfnmhkodaa.K Go.Proofs.Ytnackbfnmhkodaa.M

theorem AtG_V {R : Ro} {fa : Option Addr} {fc : Nat} {c : Cv} (hv : validB c = true) (ha : RS R 1 encI fa c.vals) {t : Nat} (ht : t ≤ 1000000000) : FnV Try.prog 28 [.agg #[.slice fa c.vals.length fc, .int .i64 c.per, .int .i64 c.inc], .int .i64 (t : Int)] R (.int .i64 (cvF c t)) := by
 obtain ⟨h1, h2, h3, h4, h5, h6, h7, h8⟩ := valid_range hv
 exact At_V ha (by constructor <;> omega) ⟨by constructor <;> omega, by omega⟩ qO h1
theorem ValidG_V {R : Ro} {fa : Option Addr} {fc : Nat} {c : Cv} (hv : validB c = true) (ha : RS R 1 encI fa c.vals) : FnV Try.prog 27 [.agg #[.slice fa c.vals.length fc, .int .i64 c.per, .int .i64 c.inc]] R (.bool true) := by
 obtain ⟨h1, h2, h3, h4, h5, h6, h7, h8⟩ := valid_range hv
 have h := Valid_V (c := fc) (per := c.per) (inc := c.inc) ha (by constructor <;> omega) (by constructor <;> omega) h1
 rw [show validB ⟨c.vals, c.per, c.inc⟩ = true from hv] at h
 exact h
theorem MadeGK_C {R : Ro} {a : Option Addr} {cc : Nat} {v : List Int} {per inc : Int} (ha : RS R 1 encI a v) (hl : v.length ≤ 100000) (hok : MadeOk v per inc) (hac : v.length ≤ cc) (w0 : World) (E : List Ent) : K.Fn Try.prog 47 [.agg #[.slice a v.length cc, .int .i64 per, .int .i64 inc]] w0 R E (fun r R' E' => ∃ (f : Option Addr) (fc : Nat), r = cvV f fc (madeR ⟨v, per, inc⟩) ∧ RS R' 1 encI f (madeR ⟨v, per, inc⟩).1.vals ∧ (madeR ⟨v, per, inc⟩).1.vals.length ≤ fc ∧ E.Sublist E') :=
 MadeK_C ha ⟨hl, hok.hper.2.2⟩ (fun _ => hac) ⟨hok.hper.1, by have := hok.hper; omega⟩ hok.hinc hok.vals hok.self hok.at_ hok.nb w0 E

theorem Normal02_C {R : Ro} {fa : Option Addr} {fc : Nat} {c : Cv} (hv : validB c = true) (ha : RS R 1 encI fa c.vals) (hcap : c.vals.length ≤ fc) (w0 : World) (E : List Ent) : K.Fn Try.prog 73 [.agg #[.slice fa c.vals.length fc, .int .i64 c.per, .int .i64 c.inc]] w0 R E (fun r R' E' => ∃ (f : Option Addr) (fc : Nat), r = cvV f fc (normR c, 0) ∧ RS R' 1 encI f (normR c).vals ∧ E.Sublist E') := by
 obtain ⟨h1, h2, h3, h4, h5, h6, h7, h8⟩ := valid_range hv
 have hok := valid_madeOk hv
 refine Fn.enter (n := 10) Try.func73 rfl rfl (Nat.le_of_ble_eq_true rfl) rfl ?_
 refine W.seq (W.region _ ?_)
 refine WL.ef rfl rfl qD (Ef.box rfl rfl (fun b1 => ?_))
 refine WL.ef rfl rfl qD (Ef.alloc tab_ok rfl rfl (fun b2 => ?_))
 refine WG.run tab_ok 1 rfl (WG.nil (WE.nxt (W.seq (W.seq (W.region _ ?_)))))
 refine' WG.y rfl rfl qD (Yl.load1 tab_ok rfl rfl rfl (fun _ => rfl) ?r1 rfl ?h1) ?_
 case r1 => (exact Rd.blk 1 rfl)
 case h1 => rfl
 refine WG.callV (v := .bool true) en27 rfl rfl qD (CallOp.mk' rfl rfl rfl rfl) (fun _ => rfl) (fun hg => ValidG_V hv ha) ?_
 refine WG.run tab_ok 1 rfl (WG.nil (WE.nxt ?_))
 refine W.cond rfl (fun hc0 => ?_) (fun hc0 => ?_)
 ·try simp only [kk] at hc0
  (simp at hc0; done)
 ·try simp only [kk] at hc0
  refine W.skip (WE.nxt (W.seq (W.region _ ?_)))
  refine' WG.y rfl rfl qD (Yl.load1 tab_ok rfl rfl rfl (fun _ => rfl) ?r2 rfl ?h2) ?_
  case r2 => (exact Rd.blk 1 rfl)
  case h2 => rfl
  refine WL.call en75 rfl rfl qD (CallOp.mkT rfl rfl rfl rfl) (Least02_C ha ⟨by omega, by omega⟩ (fun _ => hcap) ⟨by omega, by omega⟩ hok.hinc hok.vals hok.self hok.at_ w0 _) ?_
  rintro _ R1 E1 hR1 ⟨f, fc2, rfl, hf, hsub⟩
  refine WL.subE hsub ?_
  unfold cuV
  refine WL.efN rfl rfl (Ef.store0 0 tab_ok rfl rfl rfl rfl rfl rfl rfl rfl ?_)
  refine WG.run tab_ok 1 rfl (WG.nil (WE.nxt (W.ret ?_)))
  refine WE.retF tab_ok [_, _] rfl ⟨⟨_, _, _, rfl, rfl, rfl, ((by first | exact Rd.blk 0 rfl | exact Rd.blk 1 rfl | exact Rd.blk 2 rfl | exact Rd.blk 3 rfl)), rfl⟩, rfl, trivial⟩ (hR1) ?_
  exact ⟨f, fc2, rfl, hf, qS⟩

theorem FiniteG_V {R : Ro} {fa : Option Addr} {fc : Nat} {c : Cv} (hv : validB c = true) (ha : RS R 1 encI fa c.vals) : FnV Try.prog 43 [.agg #[.slice fa c.vals.length fc, .int .i64 c.per, .int .i64 c.inc]] R (.bool (finB c)) := by
 refine Fn.toV (fun w0 E => ?_)
 obtain ⟨h1, h2, h3, h4, h5, h6, h7, h8⟩ := valid_range hv
 have hl : ((c.vals.length : Int) - 1).toNat = c.vals.length - 1 := by omega
 refine Fn.enter (n := 16) Try.func43 rfl rfl (Nat.le_of_ble_eq_true rfl) rfl ?_
 refine W.seq (W.region _ ?_)
 refine WL.ef rfl rfl qD (Ef.box rfl rfl (fun b1 => ?_))
 refine WG.run tab_ok 1 rfl (WG.nil (WE.nxt (W.seq (W.region _ ?_))))
 refine' WG.y rfl rfl qD (Yl.load1 tab_ok rfl rfl rfl (fun _ => rfl) ?r1 rfl ?h1) ?_
 case r1 => (exact Rd.blk 0 rfl)
 case h1 => rfl
 refine WG.callV (v := .bool true) en27 rfl rfl qD (CallOp.mk' rfl rfl rfl rfl) (fun _ => rfl) (fun hg => ValidG_V hv ha) ?_
 refine WG.run tab_ok 1 rfl ?_
 refine WL.guardT rfl (by rfl) ?_
 refine WG.y rfl rfl qD (pureV_ok tab_ok rfl (fun _ => rfl)) ?_
 refine WL.guardT rfl (by rfl) ?_
 refine' WG.y rfl rfl qD (Yl.load1 tab_ok rfl rfl rfl (fun _ => rfl) ?r2 rfl ?h2) ?_
 case r2 => apply Rd.add; (exact Rd.blk 0 rfl)
 case h2 => rfl
 refine WL.guardT rfl (by rfl) ?_
 refine WG.y rfl rfl qD (pureV_ok tab_ok rfl (fun _ => rfl)) ?_
 refine WL.guardT rfl (by rfl) ?_
 refine' WG.y rfl rfl qD (Yl.load1 tab_ok rfl rfl rfl (fun _ => rfl) ?r3 rfl ?h3) ?_
 case r3 => apply Rd.add; (exact Rd.blk 0 rfl)
 case h3 => rfl
 refine WL.guardT rfl (by rfl) ?_
 refine WG.y rfl rfl qD (pureV_ok tab_ok rfl (fun _ => rfl)) ?_
 refine WL.guardT rfl (by rfl) ?_
 refine WG.y rfl rfl (by decide) (Yl.sub rfl rfl rfl (fun _ => rfl) (by intro _; constructor <;> (try dsimp only) <;> omega)) ?_
 refine WL.guardT rfl (by rfl) ?_
 refine WG.y rfl rfl (by decide) (Yl.index tab_ok rfl rfl rfl rfl rfl rfl (fun _ => rfl) (by intro _; constructor <;> (try dsimp only) <;> omega) (by intro _; first | exact fun _ _ _ _ => rfl | exact RS.has (by assumption) | exact fun _ _ _ _ => (by assumption) | exact HasMem.ownD 0 rfl | exact HasMem.ownD 1 rfl)) ?_
 refine WL.guardT rfl (by rfl) ?_
 refine' WG.y rfl rfl qD (Yl.load1 tab_ok rfl rfl rfl (fun _ => rfl) ?r4 rfl ?h4) ?_
 case r4 => ((apply RS.rdD; assumption; ((try dsimp only) <;> omega)))
 case h4 => rfl
 refine WL.guardT rfl (by rfl) ?_
 refine WG.y rfl rfl qD (pureV_ok tab_ok rfl (fun _ => rfl)) ?_
 refine WG.y rfl rfl (by decide) (Yl.pand rfl rfl rfl (fun _ => rfl) (by intro h1 h2; simp_all <;> omega)) ?_
 refine WG.run tab_ok 1 rfl (WG.nil (WE.nxt (W.ret ?_)))
 refine WE.subE (E' := E) qS ?_
 refine WE.retF tab_ok [_] rfl ⟨rfl, trivial⟩ (RLe.refl _) ?_
 exact ⟨by rw [hl]; rfl, rfl⟩

end Go.Proofs.Ytnackbfnmhkodaa

/- Sizes of a trace. No condition. -/
set_option maxRecDepth 4000
set_option linter.unusedSimpArgs false
set_option linter.unusedVariables false
namespace Go.Proofs.Ytnackbfnmhkodaa
open Go Go.RowKit Go.Proofs.Ytnackbfnmhkodaa.K Go.Proofs.Ytnackbfnmhkodaa.M

def szPre (z : List Sz) (p : Pkt) : List Sz := if (nth z p.flow.toNat).most = 0 then z.set p.flow.toNat ⟨p.size, p.size⟩ else z
def szPut (z1 : List Sz) (p : Pkt) : List Sz := z1.set p.flow.toNat ⟨(if p.size < (nth z1 p.flow.toNat).least then p.size else (nth z1 p.flow.toNat).least), (if (nth z1 p.flow.toNat).most < p.size then p.size else (nth z1 p.flow.toNat).most)⟩
def szAdd (n : Nat) (z : List Sz) (p : Pkt) : List Sz := if p.flow < 0 ∨ p.flow ≥ (n : Int) then z else szPut (szPre z p) p
def sizesL (n : Nat) (ps : List Pkt) : List Sz := ps.foldl (szAdd n) (List.replicate n ⟨0, 0⟩)
end Go.Proofs.Ytnackbfnmhkodaa

/- Reference 04: a curve that is never above another. No condition. -/
set_option maxRecDepth 4000
set_option linter.unusedSimpArgs false
set_option linter.unusedVariables false
namespace Go.Proofs.Ytnackbfnmhkodaa
open Go Go.RowKit Go.Proofs.Ytnackbfnmhkodaa.K Go.Proofs.Ytnackbfnmhkodaa.M

theorem Lcm_V {R : Ro} {a b : Nat} (ha : 0 < a ∧ a ≤ 1000000) (hb : 0 < b ∧ b ≤ 1000000) : FnV Try.prog 74 [.int .i64 (a : Int), .int .i64 (b : Int)] R (.int .i64 (lcmN a b : Int)) := by
 refine Fn.toV (fun w0 E => ?_)
 have hg : 0 < Nat.gcd a b := Nat.gcd_pos_of_pos_right _ hb.1
 have hq : ((a : Int) / (Nat.gcd a b : Int) * (b : Int)) ≤ 1000000 * 1000000 ∧ 0 ≤ ((a : Int) / (Nat.gcd a b : Int) * (b : Int)) := by
  have h1 : a / Nat.gcd a b * b ≤ 1000000 * 1000000 := Nat.mul_le_mul (Nat.le_trans (Nat.div_le_self _ _) ha.2) hb.2
  have e : ((a : Int) / (Nat.gcd a b : Int) * (b : Int)) = ((a / Nat.gcd a b * b : Nat) : Int) := rfl
  omega
 refine Fn.enter (n := 12) Try.func74 rfl rfl (Nat.le_of_ble_eq_true rfl) rfl ?_
 refine W.seq (W.region _ (WG.run tab_ok 1 rfl (WG.nil (WE.nxt (W.seq (W.region _ (WG.run tab_ok 3 rfl ?_)))))))
 refine WG.callV en99 rfl rfl qD (CallOp.mk' rfl rfl rfl rfl) (fun _ => rfl) (fun hg => Gcd_V) ?_
 refine WG.y rfl rfl (by decide) (Yl.quo rfl rfl rfl (fun _ => rfl) (by intro _; constructor <;> (try dsimp only) <;> omega) (by intro _; omega)) ?_
 refine WG.run tab_ok 1 rfl ?_
 refine WG.y rfl rfl (by decide) (Yl.mul rfl rfl rfl (fun _ => rfl) (by intro _; constructor <;> (try dsimp only) <;> omega)) ?_
 refine WG.run tab_ok 1 rfl (WG.nil (WE.nxt (W.ret ?_)))
 refine WE.subE (E' := E) qS ?_
 refine WE.retF tab_ok [_] rfl ⟨rfl, trivial⟩ (RLe.refl _) ?_
 exact ⟨rfl, rfl⟩

end Go.Proofs.Ytnackbfnmhkodaa

/- Two valid curves in normal form. No condition. -/
set_option maxRecDepth 4000
set_option linter.unusedSimpArgs false
set_option linter.unusedVariables false
namespace Go.Proofs.Ytnackbfnmhkodaa
open Go Go.RowKit Go.Proofs.Ytnackbfnmhkodaa.K Go.Proofs.Ytnackbfnmhkodaa.M

theorem Pair05_C {R : Ro} {fa : Option Addr} {fc : Nat} {c : Cv} (hv : validB c = true) (ha : RS R 1 encI fa c.vals) (hcap : c.vals.length ≤ fc) {ga : Option Addr} {gc : Nat} {d : Cv} (hw : validB d = true) (hb : RS R 1 encI ga d.vals) (hcapd : d.vals.length ≤ gc) (w0 : World) (E : List Ent) : K.Fn Try.prog 42 [.agg #[.slice fa c.vals.length fc, .int .i64 c.per, .int .i64 c.inc], .agg #[.slice ga d.vals.length gc, .int .i64 d.per, .int .i64 d.inc]] w0 R E (fun v R' E' => ∃ (f1 : Option Addr) (k1 : Nat) (f2 : Option Addr) (k2 : Nat), v = .tuple #[.agg #[.slice f1 (normR c).vals.length k1, .int .i64 (normR c).per, .int .i64 (normR c).inc], .agg #[.slice f2 (normR d).vals.length k2, .int .i64 (normR d).per, .int .i64 (normR d).inc], .int .i64 (if 120 < lcmC (normR c) (normR d) then 0 else (lcmC (normR c) (normR d) : Int)), .int .i64 (if 120 < lcmC (normR c) (normR d) then 3 else 0)] ∧ RS R' 1 encI f1 (normR c).vals ∧ RS R' 1 encI f2 (normR d).vals ∧ E.Sublist E') := by
 have hnv := (norm_valid hv).1
 have hnw := (norm_valid hw).1
 obtain ⟨_, _, _, p1, p2, _⟩ := valid_range hnv
 obtain ⟨_, _, _, q1, q2, _⟩ := valid_range hnw
 refine Fn.enter (n := 43) Try.func42 rfl rfl (Nat.le_of_ble_eq_true rfl) rfl ?_
 refine W.seq (W.region _ ?_)
 refine WL.ef rfl rfl qD (Ef.box rfl rfl (fun b2 => ?_))
 refine WL.ef rfl rfl qD (Ef.box rfl rfl (fun b3 => ?_))
 refine WL.ef rfl rfl qD (Ef.alloc tab_ok rfl rfl (fun b4 => ?_))
 refine WL.ef rfl rfl qD (Ef.alloc tab_ok rfl rfl (fun b5 => ?_))
 refine WG.run tab_ok 2 rfl (WG.nil (WE.nxt (W.seq (W.region _ ?_))))
 refine' WG.y rfl rfl qD (Yl.load1 tab_ok rfl rfl rfl (fun _ => rfl) ?r1 rfl ?h1) ?_
 case r1 => (exact Rd.blk 3 rfl)
 case h1 => rfl
 refine WL.call en73 rfl rfl qD (CallOp.mkT rfl rfl rfl rfl) (Normal02_C hv ha hcap w0 _) ?_
 rintro _ R1 E1 hR1 ⟨f1, k1, rfl, hf1, hsub1⟩
 refine WL.subE hsub1 ?_
 unfold cvV
 have hb := hb.mono hR1
 refine WG.run tab_ok 3 rfl ?_
 refine WL.ef rfl rfl qD (Ef.alloc tab_ok rfl rfl (fun b8 => ?_))
 refine WL.efN rfl rfl (Ef.store0 0 tab_ok rfl rfl rfl rfl rfl rfl rfl rfl ?_)
 refine WG.run tab_ok 1 rfl (WG.nil (WE.nxt (W.seq (W.region _ ?_))))
 refine' WG.y rfl rfl qD (Yl.load1 tab_ok rfl rfl rfl (fun _ => rfl) ?r2 rfl ?h2) ?_
 case r2 => (exact Rd.blk 3 rfl)
 case h2 => rfl
 refine WL.call en73 rfl rfl qD (CallOp.mkT rfl rfl rfl rfl) (Normal02_C hw hb hcapd w0 _) ?_
 rintro _ R2 E2 hR2 ⟨f2, k2, rfl, hf2, hsub2⟩
 refine WL.subE hsub2 ?_
 unfold cvV
 have hf1 := hf1.mono hR2
 generalize normR c = m1 at *
 generalize normR d = m2 at *
 refine WG.run tab_ok 3 rfl ?_
 refine WL.ef rfl rfl qD (Ef.alloc tab_ok rfl rfl (fun b10 => ?_))
 refine WL.efN rfl rfl (Ef.store0 0 tab_ok rfl rfl rfl rfl rfl rfl rfl rfl ?_)
 refine WG.run tab_ok 1 rfl (WG.nil (WE.nxt (W.seq (W.seq (W.region _ (WG.run tab_ok 3 rfl ?_))))))
 refine WL.guardT rfl (by rfl) ?_
 refine WG.y rfl rfl qD (pureV_ok tab_ok rfl (fun _ => rfl)) ?_
 refine WL.guardT rfl (by rfl) ?_
 refine WG.y rfl rfl qD (pureV_ok tab_ok rfl (fun _ => rfl)) ?_
 refine WG.y rfl rfl (by decide) (Yl.por rfl rfl rfl (fun _ => rfl) (by intro h1 h2; simp_all <;> omega)) ?_
 refine WG.nil (WE.nxt ?_)
 refine W.cond rfl (fun hc0 => ?_) (fun hc0 => ?_)
 ·try simp only [kk] at hc0
  (simp at hc0; done)
 ·try simp only [kk] at hc0
  refine W.skip (WE.nxt (W.seq (W.region _ (WG.run tab_ok 1 rfl ?_))))
  refine' WG.y rfl rfl qD (Yl.load1 tab_ok rfl rfl rfl (fun _ => rfl) ?r3 rfl ?h3) ?_
  case r3 => apply Rd.add; (exact Rd.blk 1 rfl)
  case h3 => rfl
  refine WG.run tab_ok 1 rfl ?_
  refine' WG.y rfl rfl qD (Yl.load1 tab_ok rfl rfl rfl (fun _ => rfl) ?r4 rfl ?h4) ?_
  case r4 => apply Rd.add; (exact Rd.blk 0 rfl)
  case h4 => rfl
  refine WG.callV (v := .int .i64 (lcmC m1 m2 : Int)) en74 rfl rfl (by decide) (CallOp.mk' rfl rfl rfl rfl) (fun _ => rfl) (fun hg => by have h := Lcm_V (R := R2) (a := m1.per.toNat) (b := m2.per.toNat) (by omega) (by omega); rw [Int.toNat_of_nonneg (by omega), Int.toNat_of_nonneg (by omega)] at h; exact h) ?_
  refine WG.run tab_ok 1 rfl (WG.nil (WE.nxt (W.seq (W.seq (W.region _ (WG.run tab_ok 2 rfl (WG.nil (WE.nxt ?_))))))))
  refine W.condD rfl (fun hc1 => ?_) (fun hc1 => ?_)
  ·try dsimp only at hc1
   have hL : 120 < lcmC m1 m2 := by omega
   refine W.seq ?_
   refine W.regionH _ (ES := [.blk b10 [.slice f2 m2.vals.length k2, .int .i64 m2.per, .int .i64 m2.inc], .blk b8 [.slice f1 m1.vals.length k1, .int .i64 m1.per, .int .i64 m1.inc]]) mixed ?_
   refine' WA.take 0 rfl qK qK qK rfl rfl qD (Yl.load1 tab_ok rfl rfl rfl (fun _ => rfl) ?r5 rfl ?h5) qS qR ?_
   case r5 => (exact Rd.blk 1 rfl)
   case h5 => rfl
   refine' WA.take 1 rfl qK qK qK rfl rfl qD (Yl.load1 tab_ok rfl rfl rfl (fun _ => rfl) ?r6 rfl ?h6) qS qR ?_
   case r6 => (exact Rd.blk 0 rfl)
   case h6 => rfl
   refine WA.effN 2 rfl qK rfl rfl (Ef.store0 3 tab_ok rfl rfl rfl rfl rfl rfl rfl rfl ?_)
   refine ⟨by first | exact RLe.refl _ | assumption, qS, ?_⟩
   refine WA.effN 3 rfl qK rfl rfl (Ef.store0 2 tab_ok rfl rfl rfl rfl rfl rfl rfl rfl ?_)
   refine ⟨by first | exact RLe.refl _ | assumption, qS, ?_⟩
   refine WA.take 4 rfl qK qK qK rfl rfl qD (pureV_ok tab_ok rfl (fun _ => rfl)) qS qR ?_
   refine WA.take 5 rfl qK qK qK rfl rfl qD (pureV_ok tab_ok rfl (fun _ => rfl)) qS qR ?_
   refine WA.done qK ?_
   refine WE.nxt (W.ret (WE.then_ret ?_))
   refine WE.retF tab_ok [_, _, _, _] rfl ⟨⟨_, _, _, rfl, rfl, rfl, ((by first | exact Rd.blk 0 rfl | exact Rd.blk 1 rfl | exact Rd.blk 2 rfl | exact Rd.blk 3 rfl | exact Rd.blk 4 rfl | exact Rd.blk 5 rfl | exact Rd.blk 6 rfl | exact Rd.blk 7 rfl)), rfl⟩, ⟨_, _, _, rfl, rfl, rfl, ((by first | exact Rd.blk 0 rfl | exact Rd.blk 1 rfl | exact Rd.blk 2 rfl | exact Rd.blk 3 rfl | exact Rd.blk 4 rfl | exact Rd.blk 5 rfl | exact Rd.blk 6 rfl | exact Rd.blk 7 rfl)), rfl⟩, rfl, rfl, trivial⟩ (hR1.trans hR2) ?_
   exact ⟨f1, k1, f2, k2, by rw [if_pos hL, if_pos hL]; rfl, hf1, hf2, qS⟩
  ·try dsimp only at hc1
   have hL : ¬ 120 < lcmC m1 m2 := by omega
   refine W.skip (WE.nxt (W.seq ?_))
   refine W.regionH _ (ES := [.blk b10 [.slice f2 m2.vals.length k2, .int .i64 m2.per, .int .i64 m2.inc], .blk b8 [.slice f1 m1.vals.length k1, .int .i64 m1.per, .int .i64 m1.inc]]) mixed ?_
   refine' WA.take 0 rfl qK qK qK rfl rfl qD (Yl.load1 tab_ok rfl rfl rfl (fun _ => rfl) ?r7 rfl ?h7) qS qR ?_
   case r7 => (exact Rd.blk 1 rfl)
   case h7 => rfl
   refine' WA.take 1 rfl qK qK qK rfl rfl qD (Yl.load1 tab_ok rfl rfl rfl (fun _ => rfl) ?r8 rfl ?h8) qS qR ?_
   case r8 => (exact Rd.blk 0 rfl)
   case h8 => rfl
   refine WA.take 2 rfl qK qK qK rfl rfl qD (pureV_ok tab_ok rfl (fun _ => rfl)) qS qR ?_
   refine WA.effN 3 rfl qK rfl rfl (Ef.store0 3 tab_ok rfl rfl rfl rfl rfl rfl rfl rfl ?_)
   refine ⟨by first | exact RLe.refl _ | assumption, qS, ?_⟩
   refine WA.effN 4 rfl qK rfl rfl (Ef.store0 2 tab_ok rfl rfl rfl rfl rfl rfl rfl rfl ?_)
   refine ⟨by first | exact RLe.refl _ | assumption, qS, ?_⟩
   refine WA.take 5 rfl qK qK qK rfl rfl qD (pureV_ok tab_ok rfl (fun _ => rfl)) qS qR ?_
   refine WA.take 6 rfl qK qK qK rfl rfl qD (pureV_ok tab_ok rfl (fun _ => rfl)) qS qR ?_
   refine WA.done qK ?_
   refine WE.nxt (W.ret ?_)
   refine WE.retF tab_ok [_, _, _, _] rfl ⟨⟨_, _, _, rfl, rfl, rfl, ((by first | exact Rd.blk 0 rfl | exact Rd.blk 1 rfl | exact Rd.blk 2 rfl | exact Rd.blk 3 rfl | exact Rd.blk 4 rfl | exact Rd.blk 5 rfl | exact Rd.blk 6 rfl | exact Rd.blk 7 rfl)), rfl⟩, ⟨_, _, _, rfl, rfl, rfl, ((by first | exact Rd.blk 0 rfl | exact Rd.blk 1 rfl | exact Rd.blk 2 rfl | exact Rd.blk 3 rfl | exact Rd.blk 4 rfl | exact Rd.blk 5 rfl | exact Rd.blk 6 rfl | exact Rd.blk 7 rfl)), rfl⟩, rfl, rfl, trivial⟩ (hR1.trans hR2) ?_
   exact ⟨f1, k1, f2, k2, by rw [if_neg hL, if_neg hL]; rfl, hf1, hf2, qS⟩

end Go.Proofs.Ytnackbfnmhkodaa
