/- Rules and walks, joined from 22 texts: the first of them says: What a curve leaves of a line, plain: the program and the reference make the same. No condition. -/
import Derived.Test.YthpblaoehlgpfaaGreatG2
/- What a curve leaves of a line, plain: the program and the reference make the same. No condition. -/
namespace Go.Proofs.YthpblaoehlgpfaaGreat.M
open Go Go.Proofs.YthpblaoehlgpfaaGreat.K

/-- the greatest of the first so many, and 0 -/
def mostF (f : Nat → Int) : Nat → Int
  | 0 => 0
  | n + 1 => max (mostF f n) (f n)
/-- the greatest from s on -/
def tailF (f : Nat → Int) (s : Nat) : Nat → Int
  | 0 => f s
  | d + 1 => max (tailF f s d) (f (s + (d + 1)))
section
variable {f : Nat → Int} {s P : Nat} {D : Int}
theorem mostF_nonneg : ∀ n : Nat, 0 ≤ mostF f n
 | 0 => Int.le_refl _
 | n + 1 => by have := mostF_nonneg n; simp only [mostF]; omega
theorem mostF_step (n : Nat) : mostF f n ≤ mostF f (n + 1) := by simp only [mostF]; omega
theorem mostF_ge {u : Nat} : ∀ {n : Nat}, u < n → f u ≤ mostF f n
 | 0, h => by omega
 | n + 1, h => by
  simp only [mostF]
  by_cases e : u = n
  ·subst e; omega
  ·have : f u ≤ mostF f n := mostF_ge (by omega)
   omega
theorem mostF_le {B : Int} (h0 : 0 ≤ B) : ∀ {n : Nat}, (∀ u, u < n → f u ≤ B) → mostF f n ≤ B
 | 0, _ => h0
 | n + 1, h => by
  have a := mostF_le h0 (n := n) (fun u hu => h u (by omega))
  have b := h n (by omega)
  simp only [mostF]; omega
theorem tailF_ge {u : Nat} : ∀ {d : Nat}, s ≤ u → u ≤ s + d → f u ≤ tailF f s d
 | 0, h1, h2 => by
  obtain rfl : u = s := by omega
  exact Int.le_refl _
 | d + 1, h1, h2 => by
  simp only [tailF]
  by_cases e : u = s + (d + 1)
  ·subst e; omega
  ·have : f u ≤ tailF f s d := tailF_ge h1 (by omega)
   omega
theorem tailF_le {B : Int} : ∀ {d : Nat}, (∀ u, s ≤ u → u ≤ s + d → f u ≤ B) → tailF f s d ≤ B
 | 0, h => h s (Nat.le_refl _) (by omega)
 | d + 1, h => by
  have a := tailF_le (d := d) (fun u h1 h2 => h u h1 (by omega))
  have b := h (s + (d + 1)) (by omega) (Nat.le_refl _)
  simp only [tailF]; omega
theorem most_tail : ∀ d : Nat, mostF f (s + d + 1) = max (mostF f s) (tailF f s d)
 | 0 => rfl
 | d + 1 => by
  have ih := most_tail d
  have e : mostF f (s + (d + 1) + 1) = max (mostF f (s + d + 1)) (f (s + (d + 1))) := rfl
  rw [e, ih]
  simp only [tailF]; omega
theorem tail_shift (hP : 0 < P) (hD : 0 ≤ D) (h : ∀ t, s ≤ t → f (t + P) = f t + D) {d : Nat} (hd : P ≤ d + 1) : tailF f s (d + P) = tailF f s d + D := by
 refine Int.le_antisymm (tailF_le (fun u h1 h2 => ?_)) ?_
 ·by_cases hu : s + P ≤ u
  ·have a := h (u - P) (by omega)
   rw [show u - P + P = u by omega] at a
   have b := tailF_ge (f := f) (s := s) (u := u - P) (d := d) (by omega) (by omega)
   omega
  ·have b := tailF_ge (f := f) (s := s) (u := u) (d := d) h1 (by omega)
   omega
 ·have key : ∀ d : Nat, tailF f s d + D ≤ tailF f s (d + P) := fun d => by
   have : tailF f s d ≤ tailF f s (d + P) - D := tailF_le (fun u h1 h2 => by
    have a := h u h1
    have b := tailF_ge (f := f) (s := s) (u := u + P) (d := d + P) (by omega) (by omega)
    omega)
   omega
  exact key d
theorem most_flat (hP : 0 < P) (hD : D ≤ 0) (h : ∀ t, s ≤ t → f (t + P) = f t + D) {t : Nat} (ht : s + P ≤ t + 1) : mostF f (t + 1 + 1) = mostF f (t + 1) := by
 have a := h (t + 1 - P) (by omega)
 rw [show t + 1 - P + P = t + 1 by omega] at a
 have b := mostF_ge (f := f) (u := t + 1 - P) (n := t + 1) (by omega)
 show max (mostF f (t + 1)) (f (t + 1)) = _
 omega
end
/-- the difference -/
def rawL (cap : Int) (b : Cv) (t : Nat) : Int := if isInf b t then 0 else cap * (t : Int) - cvF b t
def restF (cap : Int) (b : Cv) (t : Nat) : Int := mostF (rawL cap b) (t + 1)
def driftL (cap : Int) (b : Cv) : Int := b.per * cap - b.inc
def restC (cap : Int) (g : Cv) : Cv × Int :=
  if validB g = false then (zcv, 1)
  else if finB (normR g) = true ∧ 0 < driftL cap (normR g) then
    (if tailF (rawL cap (normR g)) (stN (normR g)) (400 - stN (normR g)) < mostF (rawL cap (normR g)) (stN (normR g)) then (zcv, 3) else mbuild (restF cap (normR g)) 400 (normR g).per.toNat (driftL cap (normR g)))
  else mbuild (restF cap (normR g)) (stN (normR g) + (normR g).per.toNat) 1 0
/-- what the reference adds in a period -/
def gainL (cap : Int) (b : Cv) : Int := if finB b = true then max 0 (driftL cap b) else 0
def restQ (cap : Int) (g : Cv) : Cv × Int :=
  if restF cap (normR g) (400 + (normR g).per.toNat) ≠ restF cap (normR g) 400 + gainL cap (normR g) then (zcv, 3)
  else madeR ⟨fvals (restF cap (normR g)) (400 + (normR g).per.toNat), (normR g).per, gainL cap (normR g)⟩
section
variable {cap : Int} {b : Cv}
theorem rawL_le (hc : 0 ≤ cap) (hb : validB b = true) (t : Nat) : rawL cap b t ≤ cap * (t : Int) := by
 have h1 := Int.mul_nonneg hc (show (0 : Int) ≤ (t : Int) by omega)
 have h2 := (cvF_bound hb t).1
 unfold rawL
 split <;> omega
theorem restF_bound (hc : 0 ≤ cap) (hb : validB b = true) (t : Nat) : 0 ≤ restF cap b t ∧ restF cap b t ≤ cap * (t : Int) := by
 refine ⟨mostF_nonneg _, mostF_le (Int.mul_nonneg hc (by omega)) (fun u hu => ?_)⟩
 have h1 := rawL_le hc hb u
 have h2 := Int.mul_le_mul_of_nonneg_left (show (u : Int) ≤ (t : Int) by omega) hc
 omega
theorem raw_shift (hb : validB b = true) (hf : finB b = true) : ∀ t, stN b ≤ t → rawL cap b (t + b.per.toNat) = rawL cap b t + driftL cap b := fun t ht => by
 rcases valid_cases hb with ⟨S1, P1, _, l1, p1, fc1, _⟩ | ⟨_, _, _, _, _, _, _, f⟩
 ·unfold stN at ht
  rw [l1, p1, Int.toNat_natCast] at ht
  unfold rawL driftL
  rw [if_neg (isInf_fin hf _), if_neg (isInf_fin hf _), p1, Int.toNat_natCast, fc1.hg t (by omega)]
  have : cap * ((t + P1 : Nat) : Int) = cap * (t : Int) + (P1 : Int) * cap := by rw [Int.natCast_add, Int.mul_add, Int.mul_comm cap (P1 : Int)]
  omega
 ·rw [hf] at f; cases f
theorem restF_lt (hc : 0 ≤ cap ∧ cap ≤ 4000) (hb : validB b = true) {t : Nat} (ht : t ≤ 10000) : restF cap b t < INF := by
 have h1 := (restF_bound hc.1 hb t).2
 have h2 := mulB (a := cap) (b := (t : Int)) (A := 4000) (B := 10000) (by omega) (by omega)
 unfold INF; omega
theorem rest_flat (hb : validB b = true) (h : ¬ (finB b = true ∧ 0 < driftL cap b)) {t : Nat} (ht : stN b + b.per.toNat ≤ t + 1) : restF cap b (t + 1) = restF cap b t := by
 unfold restF
 obtain ⟨_, _, _, q1, _⟩ := valid_range hb
 by_cases hf : finB b = true
 ·exact most_flat (P := b.per.toNat) (by omega) (show driftL cap b ≤ 0 by
   apply Classical.byContradiction
   intro hh; exact h ⟨hf, by omega⟩) (raw_shift hb hf) ht
 ·have hf' : finB b = false := by simpa using hf
  obtain ⟨n, h1, h2, h3⟩ := inf_at hb hf'
  have e : rawL cap b (t + 1) = 0 := by
   unfold rawL; rw [if_pos ((h2 _).2 (by omega))]
  show max (mostF (rawL cap b) (t + 1)) (rawL cap b (t + 1)) = _
  have := mostF_nonneg (f := rawL cap b) (t + 1)
  omega
theorem rest_rep2 (hc : 0 ≤ cap ∧ cap ≤ 4000) (hb : validB b = true) (h : ¬ (finB b = true ∧ 0 < driftL cap b)) {S : Nat} (hS : stN b + b.per.toNat ≤ S + 1) (hS2 : S ≤ 5000) {P : Nat} (hP : 0 < P ∧ P ≤ 1000) : RepF (restF cap b) S P 0 := by
 refine ⟨hP.1, Int.le_refl _, fun t ht => ?_, fun t => mostF_step _, (restF_bound hc.1 hb 0).1, fun t ht => restF_lt hc hb (by omega)⟩
 have key : ∀ k : Nat, restF cap b (t + k) = restF cap b t := by
  intro k
  induction k with
  | zero => rfl
  | succ k ih =>
   rw [← ih, show t + (k + 1) = t + k + 1 by omega]
   exact rest_flat hb h (by omega)
 rw [key]; omega
theorem rest_rep1 (hc : 0 ≤ cap ∧ cap ≤ 4000) (hb : validB b = true) (hf : finB b = true) (hd : 0 < driftL cap b) (h : ¬ tailF (rawL cap b) (stN b) (400 - stN b) < mostF (rawL cap b) (stN b)) : RepF (restF cap b) 400 b.per.toNat (driftL cap b) := by
 obtain ⟨_, _, q0, q1, q2, _⟩ := valid_range hb
 have hst := stN_lt hb
 refine ⟨by omega, by omega, fun t ht => ?_, fun t => mostF_step _, (restF_bound hc.1 hb 0).1, fun t ht => restF_lt hc hb (by omega)⟩
 unfold restF
 have e1 := most_tail (f := rawL cap b) (s := stN b) (t - stN b)
 have e2 := most_tail (f := rawL cap b) (s := stN b) (t - stN b + b.per.toNat)
 rw [show stN b + (t - stN b) + 1 = t + 1 by omega] at e1
 rw [show stN b + (t - stN b + b.per.toNat) + 1 = t + b.per.toNat + 1 by omega] at e2
 have e3 := tail_shift (s := stN b) (P := b.per.toNat) (by omega) (by omega) (raw_shift (cap := cap) hb hf) (d := t - stN b) (by omega)
 have e4 : tailF (rawL cap b) (stN b) (400 - stN b) ≤ tailF (rawL cap b) (stN b) (t - stN b) := tailF_le (fun u h1 h2 => tailF_ge h1 (by omega))
 omega
end
theorem rest_res {cap : Int} {g : Cv} (hc : 0 ≤ cap ∧ cap ≤ 4000) (hg : validB g = true) : restC cap g = (zcv, 3) ∨ ∃ c, restC cap g = (c, 0) ∧ Nrm c ∧ cvF c = restF cap (normR g) ∧ finB c = true := by
 have hn := (norm_nrm hg).valid
 have hst := stN_lt hn
 unfold restC
 rw [if_neg (by rw [hg]; simp)]
 by_cases h : finB (normR g) = true ∧ 0 < driftL cap (normR g)
 ·rw [if_pos h]
  by_cases h2 : tailF (rawL cap (normR g)) (stN (normR g)) (400 - stN (normR g)) < mostF (rawL cap (normR g)) (stN (normR g))
  ·rw [if_pos h2]; exact .inl rfl
  ·rw [if_neg h2]; exact (rest_rep1 hc hn h.1 h.2 h2).res
 ·rw [if_neg h]
  exact (rest_rep2 hc hn h (by omega) (by omega) ⟨by decide, by decide⟩).res
/-! ### the line itself; what the walk of Rest keeps -/
def lineC (cap : Int) : Cv := ⟨[0], 1, cap⟩
theorem line_facts {cap : Int} (hc : 0 ≤ cap ∧ cap ≤ 1073741824) : Nrm (lineC cap) ∧ cvF (lineC cap) = (fun t : Nat => cap * (t : Int)) ∧ finB (lineC cap) = true ∧ stN (lineC cap) = 0 := by
 have hfc := fc_line (c := cap) hc
 have e0 : fvals (fun t : Nat => cap * (t : Int)) (0 + 1) = [0] := by simp [fvals]
 have hv := hfc.valid'
 rw [e0] at hv
 have hn : normR ⟨[0], 1, cap⟩ = ⟨[0], 1, cap⟩ := by
  obtain ⟨s, p, q, h1, h2, h3, h4, _, h6⟩ := hfc.norm
  have hp := h2.hP
  obtain rfl : s = 0 := by omega
  obtain rfl : p = 1 := by omega
  rw [e0] at h1
  have hq : q = cap := by rw [h6]; simp
  rw [hq] at h1
  exact h1
 have hcv : cvF ⟨[0], 1, cap⟩ = fun t : Nat => cap * (t : Int) := by
  have := cvF_fc hfc
  rw [e0] at this; exact this
 exact ⟨⟨hv, hn⟩, hcv, rfl, rfl⟩
def tailV (f : Nat → Int) (s t : Nat) : Int := if t ≤ s then -INF else tailF f s (t - 1 - s)
def mostV (f : Nat → Int) (s t : Nat) : Int := mostF f (min t s)
theorem tailV_succ {f : Nat → Int} {s t : Nat} (h : s ≤ t) (hb : -INF ≤ f t) : tailV f s (t + 1) = max (tailV f s t) (f t) := by
 unfold tailV
 rw [if_neg (by omega)]
 by_cases e : t = s
 ·subst e
  rw [if_pos (Nat.le_refl _), show t + 1 - 1 - t = 0 by omega]
  show f t = _
  omega
 ·rw [if_neg (by omega)]
  obtain ⟨d, rfl⟩ : ∃ d, t = s + (d + 1) := ⟨t - s - 1, by omega⟩
  rw [show s + (d + 1) + 1 - 1 - s = d + 1 by omega, show s + (d + 1) - 1 - s = d by omega]
  rfl
theorem tailV_low {f : Nat → Int} {s t : Nat} (h : t < s) : tailV f s (t + 1) = tailV f s t := by
 unfold tailV
 rw [if_pos (by omega), if_pos (by omega)]
theorem mostV_succ {f : Nat → Int} {s t : Nat} (h : t < s) : mostV f s (t + 1) = max (mostV f s t) (f t) := by
 unfold mostV
 rw [show min (t + 1) s = t + 1 by omega, show min t s = t by omega]
 rfl
theorem mostV_high {f : Nat → Int} {s t : Nat} (h : s ≤ t) : mostV f s (t + 1) = mostV f s t := by
 unfold mostV
 rw [show min (t + 1) s = s by omega, show min t s = s by omega]
theorem rest_vals {cap : Int} {b : Cv} {s t : Nat} : max (mostV (rawL cap b) s (t + 1)) (tailV (rawL cap b) s (t + 1)) = restF cap b t := by
 unfold restF
 by_cases h : t < s
 ·unfold mostV tailV
  rw [show min (t + 1) s = t + 1 by omega, if_pos (by omega)]
  have := mostF_nonneg (f := rawL cap b) (t + 1)
  unfold INF; omega
 ·have := most_tail (f := rawL cap b) (s := s) (t - s)
  rw [show s + (t - s) + 1 = t + 1 by omega] at this
  unfold mostV tailV
  rw [show min (t + 1) s = s by omega, if_neg (by omega), show t + 1 - 1 - s = t - s by omega]
  exact this.symm
theorem rawL_range {cap : Int} {b : Cv} (hc : 0 ≤ cap ∧ cap ≤ 4000) (hb : validB b = true) {t : Nat} (ht : t ≤ 10000) : -100000000000000 ≤ rawL cap b t ∧ rawL cap b t ≤ 100000000 := by
 have h1 := rawL_le hc.1 hb t
 have h2 := mulB (a := cap) (b := (t : Int)) (A := 4000) (B := 10000) (by omega) (by omega)
 refine ⟨?_, by omega⟩
 unfold rawL
 split
 ·omega
 ·rename_i h
  have := fin_part hb h (show t ≤ 1000000000 by omega)
  omega
theorem mostV_range {cap : Int} {b : Cv} (hc : 0 ≤ cap ∧ cap ≤ 4000) (hb : validB b = true) {s t : Nat} (ht : t ≤ 10000) : 0 ≤ mostV (rawL cap b) s t ∧ mostV (rawL cap b) s t ≤ 100000000 :=
 ⟨mostF_nonneg _, mostF_le (by decide) (fun u hu => (rawL_range hc hb (by omega)).2)⟩
theorem tailV_range {cap : Int} {b : Cv} (hc : 0 ≤ cap ∧ cap ≤ 4000) (hb : validB b = true) {s t : Nat} (ht : t ≤ 10000) : -INF ≤ tailV (rawL cap b) s t ∧ tailV (rawL cap b) s t ≤ 100000000 := by
 unfold tailV
 split
 ·unfold INF; omega
 ·rename_i h
  refine ⟨?_, tailF_le (fun u h1 h2 => (rawL_range hc hb (by omega)).2)⟩
  have h1 := tailF_ge (f := rawL cap b) (s := s) (u := s) (d := t - 1 - s) (Nat.le_refl _) (by omega)
  have h2 := (rawL_range (cap := cap) hc hb (show s ≤ 10000 by omega)).1
  unfold INF; omega
end Go.Proofs.YthpblaoehlgpfaaGreat.M

/- The curve of deficit round robin, plain: it repeats itself from some tick on, so that the program's and the references' forms are one. No condition. -/
namespace Go.Proofs.YthpblaoehlgpfaaGreat.M
open Go Go.Proofs.YthpblaoehlgpfaaGreat.K

/-- the quanta of the other classes that have packets, and what they may have saved -/
def xSum (k : Int) (w : List Int) (z : List Sz) : Nat → Int
  | 0 => 0
  | n + 1 => xSum k w z n + (if (n : Int) ≠ k ∧ 1 ≤ (nth z n).most then nth w n else 0)
def zSum (k : Int) (z : List Sz) : Nat → Int
  | 0 => 0
  | n + 1 => zSum k z n + (if (n : Int) ≠ k ∧ 1 ≤ (nth z n).most then (nth z n).most - 1 else 0)
theorem xSum_bound {k : Int} {w : List Int} {z : List Sz} (hw : ∀ x ∈ w, 1 ≤ x ∧ x ≤ 6000) : ∀ n : Nat, n ≤ w.length → 0 ≤ xSum k w z n ∧ xSum k w z n ≤ 6000 * n
 | 0, _ => by simp [xSum]
 | n + 1, h1 => by
  have ih := xSum_bound (k := k) (z := z) hw n (by omega)
  have a := hw _ (nth_mem (xs := w) (k := n) (by omega))
  simp only [xSum]
  split <;> omega
theorem zSum_bound {k : Int} {z : List Sz} (hz : ∀ s ∈ z, 0 ≤ s.least ∧ s.least ≤ s.most ∧ s.most ≤ 1500) : ∀ n : Nat, n ≤ z.length → 0 ≤ zSum k z n ∧ zSum k z n ≤ 1500 * n
 | 0, _ => by simp [zSum]
 | n + 1, h1 => by
  have ih := zSum_bound (k := k) hz n (by omega)
  have a := hz _ (nth_mem (xs := z) (k := n) (by omega))
  simp only [zSum]
  split <;> omega
def defOthers (k : Int) (w : List Int) (z : List Sz) (own : Int) : Int :=
  if chkW 6000 1 k w z ≠ 0 ∨ (nth z k.toNat).most < 1 ∨ own < 0 ∨ MAXV < own then 0
  else ((own + (nth z k.toNat).most - 1) / nth w k.toNat + 1) * xSum k w z w.length + zSum k z w.length
def allD (s q l z y : Int) : Int := y + (s - q) * ((y + l - 1) / q + 1) + z
def defH (cap s q l z : Int) (t y : Nat) : Bool := decide (allD s q l z (y : Int) ≥ cap * t)
def defFn (cap s q l z : Int) (t : Nat) : Int := leastY (defH cap s q l z t) (cap * t).toNat
def startD (cap s q l z : Int) : Int := if 2 ≤ l then (allD s q l z (-1)).tdiv cap + 1 else if 1 ≤ z then (z - 1) / cap + 1 else 0
def fromD (cap s q l z : Int) : Int := ((s - q) * ((l - 1) / q + 1) + z) / cap + 1
def defC (cap k : Int) (w : List Int) (z : List Sz) : Cv × Int :=
  if chkW 6000 cap k w z ≠ 0 then (zcv, chkW 6000 cap k w z) else if (nth z k.toNat).most < 1 then (zcv, 5) else
    let q := nth w k.toNat
    let l := (nth z k.toNat).most
    let s := shortN (q + xSum k w z w.length).toNat cap.toNat
    let zz := zSum k z w.length
    if s = -1 then (zcv, 3) else
      let p := s.toNat / Nat.gcd s.toNat cap.toNat
      if 400 < fromD cap s q l zz then (zcv, 3)
      else madeR ⟨fvals (defFn cap s q l zz) ((fromD cap s q l zz).toNat + p), p, cap * p / s * q⟩
section
variable {cap s q l z : Int}
theorem allD_mono (hq : 0 < q) (hs : q ≤ s) {y y' : Int} (h : y ≤ y') : allD s q l z y ≤ allD s q l z y' := by
 unfold allD
 have h1 : (y + l - 1) / q ≤ (y' + l - 1) / q := Int.ediv_le_ediv hq (by omega)
 have h2 : (s - q) * ((y + l - 1) / q + 1) ≤ (s - q) * ((y' + l - 1) / q + 1) := Int.mul_le_mul_of_nonneg_left (by omega) (by omega)
 omega
theorem allD_ge (hq : 0 < q) (hs : q ≤ s) (hz : 0 ≤ z) {y : Int} (h : 0 ≤ y + l - 1) : y ≤ allD s q l z y := by
 unfold allD
 have h1 : 0 ≤ (y + l - 1) / q := Int.ediv_nonneg h (by omega)
 have h2 : 0 ≤ (s - q) * ((y + l - 1) / q + 1) := Int.mul_nonneg (by omega) (by omega)
 omega
theorem defH_bound (hq : 0 < q) (hs : q ≤ s) (hl : 1 ≤ l) (hz : 0 ≤ z) (t : Nat) (hc : 0 ≤ cap) : defH cap s q l z t (cap * t).toNat = true := by
 unfold defH
 have h1 : 0 ≤ cap * (t : Int) := Int.mul_nonneg hc (by omega)
 have h2 := allD_ge (l := l) hq hs hz (y := (((cap * t).toNat : Nat) : Int)) (by omega)
 exact decide_eq_true (by omega)
theorem defH_mono (hq : 0 < q) (hs : q ≤ s) {t y y' : Nat} (h : defH cap s q l z t y = true) (hy : y ≤ y') : defH cap s q l z t y' = true := by
 unfold defH at h ⊢
 have h0 := of_decide_eq_true h
 have := allD_mono (l := l) (z := z) hq hs (y := y) (y' := y') (by omega)
 exact decide_eq_true (by omega)
theorem allD_shift (hq : 0 < q) (y : Int) (m : Int) : allD s q l z (y + m * q) = allD s q l z y + m * s := by
 unfold allD
 have e1 : (y + m * q + l - 1) / q = (y + l - 1) / q + m := by
  rw [show y + m * q + l - 1 = y + l - 1 + m * q by omega]
  exact Int.add_mul_ediv_right _ _ (by omega)
 rw [e1]
 have e2 : (s - q) * ((y + l - 1) / q + m + 1) = (s - q) * ((y + l - 1) / q + 1) + (m * s - m * q) := by
  rw [show (y + l - 1) / q + m + 1 = ((y + l - 1) / q + 1) + m by omega, Int.mul_add, Int.sub_mul s q m, Int.mul_comm s, Int.mul_comm q m]
 rw [e2]
 generalize m * s = a
 generalize m * q = b
 omega
theorem capt {p m : Nat} (hm : cap * (p : Int) = (m : Int) * s) (t : Nat) : cap * ((t + p : Nat) : Int) = cap * (t : Int) + (m : Int) * s := by rw [Int.natCast_add, Int.mul_add, hm]
theorem defH_shift {qn p m : Nat} (hq : 0 < qn) (hm : cap * (p : Int) = (m : Int) * s) (t y : Nat) : defH cap s qn l z (t + p) (y + m * qn) = defH cap s qn l z t y := by
 unfold defH
 rw [capt hm, Int.natCast_add, Int.natCast_mul, allD_shift (by omega)]
 apply decide_eq_decide.2
 generalize (m : Int) * s = a
 omega
theorem defH_low {qn p m : Nat} (hq : 0 < qn) (hs : (qn : Int) ≤ s) (hm : cap * (p : Int) = (m : Int) * s) {t y : Nat} (ht : allD s qn l z (-1) < cap * t) (hy : y < m * qn) : defH cap s qn l z (t + p) y = false := by
 unfold defH
 apply decide_eq_false
 rw [capt hm]
 have h1 := allD_mono (l := l) (z := z) (s := s) (q := (qn : Int)) (by omega) hs (y := (y : Int)) (y' := -1 + (m : Int) * (qn : Int)) (by rw [← Int.natCast_mul]; omega)
 rw [allD_shift (by omega)] at h1
 generalize (m : Int) * s = a at *
 omega
/-- from the start on it is certain -/
theorem start_low (hc : 0 < cap) (hq : 0 < q) (hs : q ≤ s) (hl : 1 ≤ l) (hz : 0 ≤ z) {t : Nat} (ht : startD cap s q l z ≤ t) : allD s q l z (-1) < cap * t := by
 have h0 : 0 ≤ cap * (t : Int) := Int.mul_nonneg (by omega) (by omega)
 unfold startD at ht
 by_cases h2 : 2 ≤ l
 ·rw [if_pos h2] at ht
  by_cases hn : allD s q l z (-1) < 0
  ·omega
  ·rw [Int.tdiv_eq_ediv_of_nonneg (by omega)] at ht
   have h3 := Int.lt_mul_ediv_self_add (x := allD s q l z (-1)) hc
   have h4 : cap * (allD s q l z (-1) / cap) + cap ≤ cap * t := by
    have := Int.mul_le_mul_of_nonneg_left ht (show 0 ≤ cap by omega)
    rw [Int.mul_add, Int.mul_one] at this
    exact this
   omega
 ·rw [if_neg h2] at ht
  have e : allD s q l z (-1) = z - 1 := by
   unfold allD
   have : ((-1 : Int) + l - 1) / q = -1 := by
    rw [show (-1 : Int) + l - 1 = -1 by omega]
    rw [Int.ediv_eq_iff_of_pos hq]
    omega
   rw [this]
   simp; omega
  rw [e]
  by_cases h1 : 1 ≤ z
  ·rw [if_pos h1] at ht
   have h3 := Int.lt_mul_ediv_self_add (x := z - 1) hc
   have h4 : cap * ((z - 1) / cap) + cap ≤ cap * t := by
    have := Int.mul_le_mul_of_nonneg_left ht (show 0 ≤ cap by omega)
    rw [Int.mul_add, Int.mul_one] at this
    exact this
   omega
  ·omega
theorem all0 : allD s q l z 0 = (s - q) * ((l - 1) / q + 1) + z := by unfold allD; rw [Int.zero_add, Int.zero_add]
theorem start_bound (hc : 0 < cap) (hq : 0 < q) (hs : q ≤ s) (hl : 1 ≤ l) (hz : 0 ≤ z) : 0 ≤ startD cap s q l z ∧ startD cap s q l z ≤ fromD cap s q l z ∧ 1 ≤ fromD cap s q l z := by
 have h0 := allD_ge (l := l) hq hs hz (y := 0) (by omega)
 have hf : 0 ≤ allD s q l z 0 / cap := Int.ediv_nonneg h0 (by omega)
 unfold startD fromD
 rw [← all0]
 by_cases h2 : 2 ≤ l
 ·rw [if_pos h2]
  have h1 := allD_ge (l := l) hq hs hz (y := -1) (by omega)
  have hm := allD_mono (l := l) (z := z) hq hs (y := -1) (y' := 0) (by omega)
  by_cases hn : allD s q l z (-1) < 0
  ·have e : allD s q l z (-1) = -1 := by omega
   rw [e]
   have : -1 ≤ (-1 : Int).tdiv cap ∧ (-1 : Int).tdiv cap ≤ 0 := by
    rw [Int.neg_tdiv, Int.tdiv_eq_ediv_of_nonneg (by omega)]
    have a1 : (0 : Int) ≤ 1 / cap := Int.ediv_nonneg (by omega) (by omega)
    have a2 : (1 : Int) / cap ≤ 1 := Int.ediv_le_self _ (by omega)
    omega
   omega
  ·rw [Int.tdiv_eq_ediv_of_nonneg (by omega)]
   have a1 : 0 ≤ allD s q l z (-1) / cap := Int.ediv_nonneg (by omega) (by omega)
   have a2 : allD s q l z (-1) / cap ≤ allD s q l z 0 / cap := Int.ediv_le_ediv hc hm
   omega
 ·rw [if_neg h2]
  by_cases h1 : 1 ≤ z
  ·rw [if_pos h1]
   have hz0 : z - 1 ≤ allD s q l z 0 := by
    unfold allD
    have h1 : 0 ≤ (0 + l - 1) / q := Int.ediv_nonneg (by omega) (by omega)
    have h2 : 0 ≤ (s - q) * ((0 + l - 1) / q + 1) := Int.mul_nonneg (by omega) (by omega)
    omega
   have a1 : 0 ≤ (z - 1) / cap := Int.ediv_nonneg (by omega) (by omega)
   have a2 : (z - 1) / cap ≤ allD s q l z 0 / cap := Int.ediv_le_ediv hc hz0
   omega
  ·rw [if_neg h1]; omega
theorem defFn_grows {p m : Nat} (hc : 0 < cap) (hq : 0 < q) (hs : q ≤ s) (hl : 1 ≤ l) (hz : 0 ≤ z) (hm : cap * (p : Int) = (m : Int) * s) {S : Nat} (hS : startD cap s q l z ≤ S) : Grows (defFn cap s q l z) S p ((m : Int) * q) := by
 intro t ht
 obtain ⟨qn, rfl⟩ := Int.eq_ofNat_of_zero_le (show 0 ≤ q by omega)
 have hqn : 0 < qn := by omega
 have hc0 : 0 ≤ cap := by omega
 obtain ⟨a1, a2, a3⟩ := leastY_is (defH_bound hq hs hl hz t hc0)
 unfold defFn
 rw [leastY_eq (defH_bound hq hs hl hz (t + p) hc0) (lo := leastY (defH cap s qn l z t) (cap * t).toNat + m * qn) (by rw [defH_shift hqn hm]; exact a2) (fun j hj => ?_)]
 ·rw [Int.natCast_add, Int.natCast_mul]
 ·by_cases h : j < m * qn
  ·exact defH_low hqn hs hm (start_low hc hq hs hl hz (by omega)) h
  ·obtain ⟨y, rfl⟩ : ∃ y, j = y + m * qn := ⟨j - m * qn, by omega⟩
   rw [defH_shift hqn hm]
   exact a3 y (by omega)
theorem defH_less (hc : 0 ≤ cap) {t y : Nat} (h : defH cap s q l z (t + 1) y = true) : defH cap s q l z t y = true := by
 unfold defH at h ⊢
 have h0 := of_decide_eq_true h
 have h1 : cap * ((t + 1 : Nat) : Int) = cap * (t : Int) + cap := by rw [Int.natCast_add, Int.mul_add]; simp
 rw [h1] at h0
 exact decide_eq_true (by omega)
theorem defFn_mono (hc : 0 ≤ cap) (hq : 0 < q) (hs : q ≤ s) (hl : 1 ≤ l) (hz : 0 ≤ z) (t : Nat) : defFn cap s q l z t ≤ defFn cap s q l z (t + 1) := by
 obtain ⟨a1, a2, a3⟩ := leastY_is (defH_bound hq hs hl hz t hc)
 obtain ⟨b1, b2, b3⟩ := leastY_is (defH_bound hq hs hl hz (t + 1) hc)
 unfold defFn
 apply Int.ofNat_le.2
 apply Classical.byContradiction
 intro h
 have := a3 _ (Nat.lt_of_not_le h)
 rw [defH_less hc b2] at this
 cases this
theorem defFn_bound (hc : 0 ≤ cap) (hq : 0 < q) (hs : q ≤ s) (hl : 1 ≤ l) (hz : 0 ≤ z) (t : Nat) : 0 ≤ defFn cap s q l z t ∧ defFn cap s q l z t ≤ cap * t := by
 obtain ⟨a1, a2, a3⟩ := leastY_is (defH_bound hq hs hl hz t hc)
 unfold defFn
 have : 0 ≤ cap * (t : Int) := Int.mul_nonneg hc (by omega)
 omega
theorem defFn_zero (hc : 0 < cap) (hq : 0 < q) (hs : q ≤ s) (hl : 1 ≤ l) (hz : 0 ≤ z) {t : Nat} (ht : (t : Int) < fromD cap s q l z) : defFn cap s q l z t = 0 := by
 have h0 : defH cap s q l z t 0 = true := by
  unfold defH
  apply decide_eq_true
  unfold fromD at ht
  rw [← all0] at ht
  have h1 : cap * (t : Int) ≤ cap * (allD s q l z 0 / cap) := Int.mul_le_mul_of_nonneg_left (by omega) (by omega)
  have h2 := Int.mul_ediv_self_le (x := allD s q l z 0) (k := cap) (by omega)
  show allD s q l z ((0 : Nat) : Int) ≥ _
  exact Int.le_trans h1 h2
 unfold defFn
 rw [leastY_eq (defH_bound hq hs hl hz t (by omega)) h0 (fun j hj => by omega)]
 rfl
/-- the program's form is the reference's -/
theorem def_build {p m : Nat} (hc : 0 < cap ∧ cap ≤ 4000) (hq : 0 < q) (hs : q ≤ s) (hl : 1 ≤ l) (hz : 0 ≤ z) (hp : 0 < p ∧ p ≤ 120) (hm : cap * (p : Int) = (m : Int) * s) (hst : startD cap s q l z ≤ 400) :
  mbuild (defFn cap s q l z) (startD cap s q l z).toNat p ((m : Int) * q) = if 400 < fromD cap s q l z then (zcv, 3) else madeR ⟨fvals (defFn cap s q l z) ((fromD cap s q l z).toNat + p), p, (m : Int) * q⟩ := by
 obtain ⟨b1, b2, b3⟩ := start_bound (cap := cap) hc.1 hq hs hl hz
 have hm1 : 0 < (m : Int) := by
  have h1 : 0 < cap * (p : Int) := Int.mul_pos hc.1 (by omega)
  rw [hm] at h1
  by_cases h : (m : Int) = 0
  ·rw [h, Int.zero_mul] at h1; omega
  ·omega
 have hI : 0 < (m : Int) * q := Int.mul_pos hm1 hq
 have hb : ∀ t : Nat, t ≤ 1000 → defFn cap s q l z t < INF := fun t ht => by
  have h1 := (defFn_bound (cap := cap) (by omega) hq hs hl hz t).2
  have h2 := (mulB (a := cap) (b := (t : Int)) (A := 4000) (B := 1000) (by omega) (by omega)).2
  unfold INF; omega
 have hg := defFn_grows (S := (startD cap s q l z).toNat) hc.1 hq hs hl hz hm (by omega)
 have hf : ∀ t, t < (startD cap s q l z).toNat + p → defFn cap s q l z t < INF := fun t ht => hb t (by omega)
 have hne : ∀ t, t < (startD cap s q l z).toNat + p → defFn cap s q l z t ≠ INF := fun t ht => by have := hf t ht; omega
 rw [mbuild_fin hne]
 by_cases hfr : 400 < fromD cap s q l z
 ·rw [if_pos hfr]
  obtain ⟨p', s', hnf, _, _, e⟩ := finL_nf hp.1 hg hne
  rw [e]
  have hp1 := hnf.least.1
  have hq1 : 1 ≤ (m : Int) * q * (p' : Int) / (p : Int) := by
   have h1 : 0 < (m : Int) * q * (p' : Int) := Int.mul_pos hI (by omega)
   have h2 := hnf.least.2.1.2.1
   have h3 := Int.mul_ediv_add_emod ((m : Int) * q * (p' : Int)) p
   rw [h2] at h3
   apply Classical.byContradiction
   intro hn
   have h4 : 0 ≤ (m : Int) * q * (p' : Int) / (p : Int) := Int.ediv_nonneg (by omega) (by omega)
   rw [show (m : Int) * q * (p' : Int) / (p : Int) = 0 by omega, Int.mul_zero] at h3
   omega
  have hgr := hnf.starts.1 s' (Nat.le_refl _)
  have hnn := (defFn_bound (cap := cap) (by omega) hq hs hl hz s').1
  have hlen : 400 < s' + p' := by
   apply Classical.byContradiction
   intro hn
   have := defFn_zero (t := s' + p') hc.1 hq hs hl hz (by omega)
   omega
  unfold nfC nfE
  rw [if_pos (if_pos (.inr (.inr (.inl hlen))))]
 ·rw [if_neg hfr]
  have hg' := defFn_grows (S := (fromD cap s q l z).toNat) hc.1 hq hs hl hz hm (by omega)
  exact build_made hp.1 (by omega) hg hg' (fun t => defFn_mono (by omega) hq hs hl hz t) (defFn_bound (by omega) hq hs hl hz 0).1 hf (fun t ht => hb t (by omega))
end
/-- all of it, for the walks -/
structure DefOk (cap k : Int) (w : List Int) (z : List Sz) (cn kn m s p mm : Nat) (q l x y : Int) : Prop where
  hs : shortN m cn = s
  s1 : q ≤ s ∧ s ≤ 120 * cn
  sx : q + x ≤ s
  hp : p = s / Nat.gcd s cn
  p1 : 1 ≤ p ∧ p ≤ 120
  hmm : (cn : Int) * p = mm * s
  mm1 : mm ≤ 4000
  hinc : (cn : Int) * p / s * q = mm * q
theorem def_cases {cap k : Int} {w : List Int} {z : List Sz} (h0 : chkW 6000 cap k w z = 0) (h1 : ¬ (nth z k.toNat).most < 1) :
  ∃ (cn kn m : Nat) (q l x y : Int), cap = cn ∧ k = kn ∧ (1 ≤ cn ∧ cn ≤ 4000) ∧ kn < z.length ∧ z.length ≤ 6 ∧ w.length = z.length ∧ (∀ x ∈ w, 1 ≤ x ∧ x ≤ 6000) ∧ (∀ s ∈ z, 0 ≤ s.least ∧ s.least ≤ s.most ∧ s.most ≤ 1500) ∧
   q = nth w kn ∧ l = (nth z kn).most ∧ (1 ≤ q ∧ q ≤ 6000) ∧ (1 ≤ l ∧ l ≤ 1500) ∧ x = xSum kn w z w.length ∧ y = zSum kn z w.length ∧ (0 ≤ x ∧ x ≤ 36000) ∧ (0 ≤ y ∧ y ≤ 9000) ∧ (m : Int) = q + x ∧ m ≤ 42000 ∧
   ((shortN m cn = -1 ∧ defC cap k w z = (zcv, 3)) ∨ ∃ s p mm, DefOk cap k w z cn kn m s p mm q l x y ∧ defC cap k w z = if 400 < fromD cn s q l y then (zcv, 3) else madeR ⟨fvals (defFn cn s q l y) ((fromD cn s q l y).toNat + p), p, (cn : Int) * p / s * q⟩) := by
 obtain ⟨c1, c2, k0, k1, zl, wl, hw, hz⟩ := chkW_ok h0
 obtain ⟨cn, rfl⟩ := Int.eq_ofNat_of_zero_le (show 0 ≤ cap by omega)
 obtain ⟨kn, rfl⟩ := Int.eq_ofNat_of_zero_le k0
 have hkn : kn < z.length := by omega
 rw [Int.toNat_natCast] at h1
 have hwk := hw _ (nth_mem (xs := w) (k := kn) (by omega))
 have hzk := hz _ (nth_mem hkn)
 have hx := xSum_bound (k := (kn : Int)) (z := z) hw w.length (Nat.le_refl _)
 have hy := zSum_bound (k := (kn : Int)) hz w.length (by omega)
 obtain ⟨m, hm⟩ := Int.eq_ofNat_of_zero_le (show 0 ≤ nth w kn + xSum kn w z w.length by omega)
 have hdef : defC cn kn w z = if shortN m cn = -1 then (zcv, 3) else if 400 < fromD cn (shortN m cn) (nth w kn) (nth z kn).most (zSum kn z w.length) then (zcv, 3)
   else madeR ⟨fvals (defFn cn (shortN m cn) (nth w kn) (nth z kn).most (zSum kn z w.length)) ((fromD cn (shortN m cn) (nth w kn) (nth z kn).most (zSum kn z w.length)).toNat + (shortN m cn).toNat / Nat.gcd (shortN m cn).toNat cn), (((shortN m cn).toNat / Nat.gcd (shortN m cn).toNat cn : Nat) : Int), (cn : Int) * (((shortN m cn).toNat / Nat.gcd (shortN m cn).toNat cn : Nat) : Int) / shortN m cn * nth w kn⟩ := by
  unfold defC
  rw [if_neg (fun h => h h0), Int.toNat_natCast, if_neg h1]
  dsimp only
  rw [hm, Int.toNat_natCast, Int.toNat_natCast]
 refine ⟨cn, kn, m, nth w kn, (nth z kn).most, xSum kn w z w.length, zSum kn z w.length, rfl, rfl, by omega, hkn, by omega, wl, hw, hz, rfl, rfl, hwk, by omega, rfl, rfl, by omega, by omega, hm.symm, by omega, ?_⟩
 rcases shortN_cases m cn with h | ⟨s, e, s1, s2, s3⟩
 ·exact .inl ⟨h, by rw [hdef, if_pos h]⟩
 ·right
  have hg : 0 < Nat.gcd s cn := Nat.gcd_pos_of_pos_right _ (by omega)
  have hd1 : Nat.gcd s cn ∣ s := Nat.gcd_dvd_left _ _
  have hd2 : Nat.gcd s cn ∣ cn := Nat.gcd_dvd_right _ _
  have hs0 : 0 < s := by omega
  have e1 : cn * (s / Nat.gcd s cn) = cn / Nat.gcd s cn * s := by
   rw [← Nat.mul_div_assoc _ hd1, Nat.div_mul_right_comm hd2]
  have e2 : (cn : Int) * ((s / Nat.gcd s cn : Nat) : Int) = ((cn / Nat.gcd s cn : Nat) : Int) * (s : Int) := by
   rw [← Int.natCast_mul, e1, Int.natCast_mul]
  have e3 : (cn : Int) * ((s / Nat.gcd s cn : Nat) : Int) / (s : Int) = ((cn / Nat.gcd s cn : Nat) : Int) := by
   rw [e2]; exact Int.mul_ediv_cancel _ (by omega)
  refine ⟨s, s / Nat.gcd s cn, cn / Nat.gcd s cn, ?_, ?_⟩
  ·exact { hs := e, s1 := ⟨by omega, s2⟩, sx := by omega, hp := rfl, p1 := ⟨Nat.div_pos (Nat.le_of_dvd hs0 hd1) hg, s3⟩, hmm := e2, mm1 := Nat.le_trans (Nat.div_le_self _ _) (by omega), hinc := by rw [e3] }
  ·rw [hdef, e, if_neg (by omega), Int.toNat_natCast]
end Go.Proofs.YthpblaoehlgpfaaGreat.M

/- Deficit round robin, plain: greater quanta and packets of others leave less. No condition. -/
namespace Go.Proofs.YthpblaoehlgpfaaGreat.M
open Go Go.Proofs.YthpblaoehlgpfaaGreat.K

end Go.Proofs.YthpblaoehlgpfaaGreat.M

/- Priorities, plain: the curve of a class. No condition. -/
namespace Go.Proofs.YthpblaoehlgpfaaGreat.M
open Go Go.Proofs.YthpblaoehlgpfaaGreat.K

/-- what may block a class -/
def blkF (cls : Int) (z : List Sz) (i : Nat) : Int := (nth (z.drop (cls + 1).toNat) i).most - 1
def blkN (cls : Int) (z : List Sz) : Int := mostF (blkF cls z) (z.length - (cls + 1).toNat)
def allV (ls : List Cv) : Bool := ls.all fun c => validB c
theorem allV_iff {ls : List Cv} : allV ls = true ↔ ∀ c ∈ ls, validB c = true := by unfold allV; rw [List.all_eq_true]
def midC (tot : Cv × Int) (k : Int) : Cv × Int := if tot.2 = 0 then raiseC tot.1 k else tot
def prioC (cap cls : Int) (ls : List Cv) (z : List Sz) : Cv × Int :=
  if chk18 cap cls z ≠ 0 then (zcv, chk18 cap cls z)
  else if ls.length ≠ z.length then (zcv, 2)
  else if allV ls = false then (zcv, 1)
  else if (midC (totalC (ls.take cls.toNat)) (blkN cls z)).2 ≠ 0 then (zcv, (midC (totalC (ls.take cls.toNat)) (blkN cls z)).2)
  else restC cap (midC (totalC (ls.take cls.toNat)) (blkN cls z)).1
theorem chk18_ok {cap cls : Int} {z : List Sz} (h : chk18 cap cls z = 0) : 1 ≤ cap ∧ cap ≤ 4000 ∧ 0 ≤ cls ∧ cls < z.length ∧ z.length ≤ 6 ∧ ∀ s ∈ z, 0 ≤ s.least ∧ s.least ≤ s.most ∧ s.most ≤ 1500 := by
 unfold chk18 at h
 split at h
 ·omega
 ·rename_i h3
  have a2 : zOk z = true := by
   cases hb : zOk z with
   | true => rfl
   | false => exact absurd (.inr (.inr (.inr (.inr (.inl hb))))) h3
  exact ⟨by omega, by omega, by omega, by omega, by omega, zOk_iff.1 a2⟩
theorem blk_range {cls : Int} {z : List Sz} (hz : ∀ s ∈ z, 0 ≤ s.least ∧ s.least ≤ s.most ∧ s.most ≤ 1500) {n : Nat} (hn : n ≤ z.length - (cls + 1).toNat) : 0 ≤ mostF (blkF cls z) n ∧ mostF (blkF cls z) n ≤ 1499 := by
 refine ⟨mostF_nonneg _, mostF_le (by decide) (fun u hu => ?_)⟩
 have hl : u < (z.drop (cls + 1).toNat).length := by rw [List.length_drop]; omega
 have := hz _ (List.mem_of_mem_drop (nth_mem hl))
 unfold blkF; omega
theorem mid_res {l : List Cv} (hl : ∀ c ∈ l, validB c = true) {k : Int} (hk : 0 ≤ k ∧ k ≤ MAXV) : midC (totalC l) k = (zcv, 3) ∨ ∃ c, midC (totalC l) k = (c, 0) ∧ Nrm c := by
 unfold midC
 rcases total_res l zeroC zero_nrm.valid zero_nrm hl with h | ⟨c, h1, h2, _⟩
 ·rw [show totalC l = (zcv, 3) from h, if_neg (by decide)]; exact .inl rfl
 ·rw [show totalC l = (c, 0) from h1, if_pos rfl]
  rcases raise_res h2.valid hk with h | ⟨c', h3, h4, _⟩
  ·exact .inl h
  ·exact .inr ⟨c', h3, h4⟩
end Go.Proofs.YthpblaoehlgpfaaGreat.M

/- What a class is sent while it is backlogged, plain, whatever the choice: an invariant of the rounds is carried from tick to tick. No condition. -/
namespace Go.Proofs.YthpblaoehlgpfaaGreat.M
open Go Go.Proofs.YthpblaoehlgpfaaGreat.K

/-- the bytes of a class that have been begun -/
def begK (k : Int) : List Pkt → List Bool → Int
  | p :: ps, b :: bs => (if b = true ∧ p.flow = k then p.size else 0) + begK k ps bs
  | _, _ => 0
theorem begK_none (k : Int) : ∀ (ps : List Pkt) (n : Nat), begK k ps (List.replicate n false) = 0
 | [], _ => by simp [begK]
 | _ :: _, 0 => by simp [begK]
 | p :: ps, n + 1 => by simp [List.replicate_succ, begK, begK_none k ps n]
theorem begK_set (k : Int) : ∀ (ps : List Pkt) (bs : List Bool) (i : Nat), i < ps.length → i < bs.length → nth bs i = false → begK k ps (bs.set i true) = begK k ps bs + (if (nth ps i).flow = k then (nth ps i).size else 0)
 | [], _, i, h, _, _ => by simp at h
 | _ :: _, [], i, _, h, _ => by simp at h
 | p :: ps, b :: bs, 0, _, _, hb => by
  have : b = false := hb
  subst this
  simp only [List.set_cons_zero, begK, show nth (p :: ps) 0 = p from rfl]
  simp; omega
 | p :: ps, b :: bs, i + 1, h1, h2, hb => by
  have := begK_set k ps bs i (by simpa using h1) (by simpa using h2) hb
  simp only [List.set_cons_succ, begK, this]
  rw [show nth (p :: ps) (i + 1) = nth ps i from rfl]; omega
/-- a class of which less has been begun than has arrived waits -/
theorem begK_wait {k t : Int} (hk : 0 ≤ k) : ∀ (ps : List Pkt) (bs : List Bool), bs.length = ps.length → (∀ p ∈ ps, 0 ≤ p.size) → begK k ps bs < pbytes k (t + 1) ps → ∃ i, i < ps.length ∧ nth bs i = false ∧ (nth ps i).flow = k ∧ (nth ps i).time ≤ t
 | [], _, _, _, h => by simp [begK, pbytes] at h
 | _ :: _, [], hl, _, _ => by simp at hl
 | p :: ps, b :: bs, hl, hs, h => by
  have hp := hs p (by simp)
  by_cases h0 : b = false ∧ p.flow = k ∧ p.time ≤ t
  ·exact ⟨0, by simp, h0.1, h0.2.1, h0.2.2⟩
  ·have h1 : begK k ps bs < pbytes k (t + 1) ps := by
    simp only [begK, pbytes] at h
    by_cases hh : hit k (t + 1) p
    ·rw [if_pos hh] at h
     have hb : b = true ∧ p.flow = k := by
      unfold hit at hh
      have hf : p.flow = k := by omega
      refine ⟨?_, hf⟩
      cases b with
      | true => rfl
      | false => exact absurd ⟨rfl, hf, by omega⟩ h0
     rw [if_pos hb] at h
     omega
    ·rw [if_neg hh] at h
     split at h <;> omega
   obtain ⟨i, g1, g2, g3, g4⟩ := begK_wait hk ps bs (by simpa using hl) (fun q hq => hs q (by simp [hq])) h1
   exact ⟨i + 1, by simpa using g1, g2, g3, g4⟩

/-- the sums of a class: begun, less what is still to be sent of the open packet -/
def Cl {σ : Type} (ps : List Pkt) (k : Nat) (col : Nat) (s : RS σ) : Prop :=
  nth (nth s.sent k) col = begK k ps s.ms.begun - (if 0 ≤ s.cur ∧ (nth ps s.cur.toNat).flow = k then s.rest else 0)
/-- an invariant of the rounds: of the choice's state, the open packet and what is left of it, what the class and all others have been sent -/
structure Per {σ : Type} (ps : List Pkt) (ch : MS → σ → Int × Nat × σ) (good : MS → σ → Prop) (k : Nat) (J : σ → Int → Int → Int → Int → Prop) : Prop where
  pick : ∀ ms sg r own oth, good ms sg → ms.begun.length = ps.length → (∃ i, i < ps.length ∧ nth ms.begun i = false ∧ (nth ps i).flow = k ∧ (nth ps i).time ≤ ms.now) → J sg (-1) r own oth → 0 ≤ (ch ms sg).1 → J (ch ms sg).2.2 (ch ms sg).1 (nth ps (ch ms sg).1.toNat).size own oth
  send : ∀ (sg : σ) (cur rest own oth n : Int), 0 ≤ cur → cur < ps.length → 1 ≤ n → n ≤ rest → J sg cur rest own oth →
    J sg (if rest - n = 0 then -1 else cur) (rest - n) (own + (if (nth ps cur.toNat).flow = k then n else 0)) (oth + (if (nth ps cur.toNat).flow = k then 0 else n))
  none : ∀ sg c c' r r' own oth, c < 0 → c' < 0 → J sg c r own oth → J sg c' r' own oth
section
variable {σ : Type} {ps : List Pkt} {ch : MS → σ → Int × Nat × σ} {good : MS → σ → Prop} {rel : Nat → Nat → Prop} {classes col k : Nat} {s : RS σ} {J : σ → Int → Int → Int → Int → Prop}
theorem Cl.pickup (hg : Fair ps ch good rel) (hw : Wk ps classes good rel col s) (h : Cl ps k col s) : Cl ps k col (pickup ps ch s) := by
 unfold M.pickup
 by_cases hc : 0 ≤ s.cur
 ·rw [if_pos hc]; exact h
 ·rw [if_neg hc]
  unfold Cl at h
  rw [if_neg (by omega)] at h
  by_cases hr : (ch s.ms s.sg).1 < 0
  ·simp only [hr, if_true]
   unfold Cl
   dsimp only
   rw [if_neg (by omega)]; exact h
  ·simp only [hr, if_false]
   have hi := hg.idx _ _ hw.good hw.blen (by omega)
   obtain ⟨w1, w2⟩ := hg.waits _ _ hw.good hw.blen (by omega)
   have hb := hw.blen
   unfold Cl
   dsimp only
   rw [begK_set _ _ _ _ (by omega) (by omega) w1, h]
   by_cases hf : (nth ps (ch s.ms s.sg).1.toNat).flow = k
   ·rw [if_pos hf, if_pos ⟨by omega, hf⟩]; omega
   ·rw [if_neg hf, if_neg (fun h => hf h.2)]; omega
/-- what is sent of the class: n or nothing -/
theorem Cl.send (hfl : ∀ p ∈ ps, 0 ≤ p.flow ∧ p.flow < classes) (hk : k < classes) {t : Nat} (hw : Wk ps classes good rel (t + 1) s) (h : Cl ps k (t + 1) s) (hc : 0 ≤ s.cur) (hl : 0 < s.ms.left) :
  ∃ n, 1 ≤ n ∧ n ≤ s.rest ∧ (M.send ps t s).ms.left = s.ms.left - n ∧ (M.send ps t s).rest = s.rest - n ∧ (M.send ps t s).cur = (if s.rest - n = 0 then -1 else s.cur) ∧ (M.send ps t s).sg = s.sg ∧ (M.send ps t s).ms.begun = s.ms.begun ∧
   nth (nth (M.send ps t s).sent k) (t + 1) = nth (nth s.sent k) (t + 1) + (if (nth ps s.cur.toNat).flow = k then n else 0) ∧ Cl ps k (t + 1) (M.send ps t s) := by
 obtain ⟨c1, c2, c3⟩ := hw.cur hc
 have hfl' := hfl _ (nth_mem (show s.cur.toNat < ps.length by omega))
 have hlen := hw.slen
 refine ⟨if s.ms.left < s.rest then s.ms.left else s.rest, by split <;> omega, by split <;> omega, rfl, rfl, rfl, rfl, rfl, ?_⟩
 have hn : (if s.ms.left < s.rest then s.ms.left else s.rest) ≤ s.rest := by split <;> omega
 have hcol : nth (nth (M.send ps t s).sent k) (t + 1) = nth (nth s.sent k) (t + 1) + (if (nth ps s.cur.toNat).flow = k then (if s.ms.left < s.rest then s.ms.left else s.rest) else 0) := by
  unfold M.send
  dsimp only
  by_cases hf : (nth ps s.cur.toNat).flow = k
  ·have e : (nth ps s.cur.toNat).flow.toNat = k := by omega
   rw [if_pos hf, e, nth_set_self (by omega), nth_set_self]
   have := hw.rlen _ (nth_mem (xs := s.sent) (k := k) (by omega))
   omega
  ·rw [if_neg hf, nth_set_ne (by omega)]; omega
 refine ⟨hcol, ?_⟩
 unfold Cl at h ⊢
 rw [hcol, h]
 unfold M.send
 dsimp only
 generalize (if s.ms.left < s.rest then s.ms.left else s.rest) = n at hn ⊢
 by_cases hf : (nth ps s.cur.toNat).flow = k
 ·rw [if_pos ⟨hc, hf⟩, if_pos hf]
  by_cases hz : s.rest - n = 0
  ·simp only [hz, if_true]; rw [if_neg (by omega)]; omega
  ·simp only [hz, if_false]; rw [if_pos ⟨hc, hf⟩]; omega
 ·rw [if_neg (fun h => hf h.2), if_neg hf]
  by_cases hz : s.rest - n = 0
  ·simp only [hz, if_true]; rw [if_neg (by omega)]; omega
  ·simp only [hz, if_false]; rw [if_neg (fun h => hf h.2)]; omega
theorem Per.inner (hg : Fair ps ch good rel) (hb : Busy ps ch good) (hJ : Per ps ch good k J) (hs : ∀ p ∈ ps, 1 ≤ p.size) (hfl : ∀ p ∈ ps, 0 ≤ p.flow ∧ p.flow < classes) (hk : k < classes) {t : Nat} : ∀ (j : Nat) (s : RS σ) (own oth : Int), Wk ps classes good rel (t + 1) s → Cl ps k (t + 1) s → s.ms.now = t → 0 ≤ s.ms.left →
  (J s.sg s.cur s.rest own oth ∨ pbytes k ((t : Int) + 1) ps ≤ nth (nth s.sent k) (t + 1)) →
  Cl ps k (t + 1) (inner ps ch t j s) ∧ nth (nth s.sent k) (t + 1) ≤ nth (nth (inner ps ch t j s).sent k) (t + 1) ∧
   (nth (nth (inner ps ch t j s).sent k) (t + 1) < pbytes k ((t : Int) + 1) ps →
    J (inner ps ch t j s).sg (inner ps ch t j s).cur (inner ps ch t j s).rest (own + (nth (nth (inner ps ch t j s).sent k) (t + 1) - nth (nth s.sent k) (t + 1))) (oth + ((colSum (inner ps ch t j s).sent (t + 1) - colSum s.sent (t + 1)) - (nth (nth (inner ps ch t j s).sent k) (t + 1) - nth (nth s.sent k) (t + 1)))))
 | 0, s, own, oth, hw, hc, hn, hl, h => by
  simp only [M.inner]
  refine ⟨hc, Int.le_refl _, fun hlt => ?_⟩
  rcases h with h | h
  ·simpa using h
  ·omega
 | j + 1, s, own, oth, hw, hc, hn, hl, h => by
  simp only [M.inner]
  by_cases hl0 : s.ms.left ≤ 0
  ·rw [if_pos hl0]
   refine ⟨hc, Int.le_refl _, fun hlt => ?_⟩
   rcases h with h | h
   ·simpa using h
   ·omega
  ·rw [if_neg hl0]
   have hw1 := hw.pickup hg hs
   have hc1 := hc.pickup hg hw
   obtain ⟨e1, e2, e3, e4⟩ := pickup_same ps ch s
   -- the choice
   have hJ1 : nth (nth s.sent k) (t + 1) < pbytes k ((t : Int) + 1) ps → 0 ≤ (M.pickup ps ch s).cur ∧ J (M.pickup ps ch s).sg (M.pickup ps ch s).cur (M.pickup ps ch s).rest own oth := fun hlt => by
    have h := h.resolve_right (by omega)
    by_cases hcur : 0 ≤ s.cur
    ·unfold M.pickup; rw [if_pos hcur]; exact ⟨hcur, h⟩
    ·unfold Cl at hc
     rw [if_neg (fun x => hcur x.1)] at hc
     obtain ⟨i, g1, g2, g3, g4⟩ := begK_wait (k := (k : Int)) (t := (t : Int)) (by omega) ps s.ms.begun hw.blen (fun p hp => by have := hs p hp; omega) (by omega)
     have hr0 : 0 ≤ (ch s.ms s.sg).1 := by
      apply Classical.byContradiction
      intro hneg
      have := hb _ _ hw.good hw.blen (by omega) i g1 (by omega)
      rw [this] at g2; cases g2
     have hp := hJ.pick s.ms s.sg s.rest own oth hw.good hw.blen ⟨i, g1, g2, g3, by omega⟩ (hJ.none _ s.cur _ s.rest _ own oth (by omega) (by omega) h) hr0
     unfold M.pickup
     rw [if_neg hcur]
     dsimp only
     rw [if_neg (by omega)]
     exact ⟨hr0, hp⟩
   by_cases hcn : (M.pickup ps ch s).cur < 0
   ·rw [if_pos hcn]
    refine ⟨hc1, by rw [e3]; exact Int.le_refl _, fun hlt => ?_⟩
    rw [e3] at hlt
    have := (hJ1 hlt).1
    omega
   ·rw [if_neg hcn]
    obtain ⟨n, n1, n2, n3, n4, n5, n6, n7, n8, n9⟩ := Cl.send hfl hk hw1 hc1 (by omega) (by rw [e1]; omega)
    obtain ⟨g1, g2, g3, g4, g5, g6⟩ := hw1.send hfl hg.free (by rw [e2]; exact hn) (by omega) (by rw [e1]; omega)
    have hn0 : 0 ≤ (if (nth ps (M.pickup ps ch s).cur.toNat).flow = (k : Int) then n else 0) := by split <;> omega
    have hcc := hw1.cur (by omega)
    obtain ⟨r1, r2, r3⟩ := Per.inner hg hb hJ hs hfl hk j (M.send ps t (M.pickup ps ch s)) (own + (if (nth ps (M.pickup ps ch s).cur.toNat).flow = (k : Int) then n else 0)) (oth + (if (nth ps (M.pickup ps ch s).cur.toNat).flow = (k : Int) then 0 else n)) g1 n9 (by rw [g5, e2]; exact hn) g3 (by
     by_cases hlt : nth (nth s.sent k) (t + 1) < pbytes k ((t : Int) + 1) ps
     ·left
      have := hJ.send _ _ _ _ _ n (by omega) hcc.1 n1 n2 (hJ1 hlt).2
      rw [n4, n5, n6]; exact this
     ·right; rw [n8, e3]; omega)
    have hcs : colSum (M.send ps t (M.pickup ps ch s)).sent (t + 1) = colSum s.sent (t + 1) + n := by rw [g2, n3, e3]; omega
    refine ⟨r1, by rw [n8, e3] at r2; omega, fun hlt => ?_⟩
    have := r3 hlt
    rw [n8, hcs, e3] at this
    have ea : own + (if (nth ps (M.pickup ps ch s).cur.toNat).flow = (k : Int) then n else 0) + (nth (nth (M.inner ps ch t j (M.send ps t (M.pickup ps ch s))).sent k) (t + 1) - (nth (nth s.sent k) (t + 1) + (if (nth ps (M.pickup ps ch s).cur.toNat).flow = (k : Int) then n else 0))) = own + (nth (nth (M.inner ps ch t j (M.send ps t (M.pickup ps ch s))).sent k) (t + 1) - nth (nth s.sent k) (t + 1)) := by omega
    rw [ea] at this
    have eb : oth + (if (nth ps (M.pickup ps ch s).cur.toNat).flow = (k : Int) then 0 else n) + ((colSum (M.inner ps ch t j (M.send ps t (M.pickup ps ch s))).sent (t + 1) - (colSum s.sent (t + 1) + n)) - (nth (nth (M.inner ps ch t j (M.send ps t (M.pickup ps ch s))).sent k) (t + 1) - (nth (nth s.sent k) (t + 1) + (if (nth ps (M.pickup ps ch s).cur.toNat).flow = (k : Int) then n else 0)))) = oth + ((colSum (M.inner ps ch t j (M.send ps t (M.pickup ps ch s))).sent (t + 1) - colSum s.sent (t + 1)) - (nth (nth (M.inner ps ch t j (M.send ps t (M.pickup ps ch s))).sent k) (t + 1) - nth (nth s.sent k) (t + 1))) := by split <;> omega
    rw [eb] at this
    exact this
/-- the state at the beginning of a tick -/
def opened (cap : Int) (t : Nat) (s : RS σ) : RS σ := { s with ms := { s.ms with now := t, left := cap }, sent := s.sent.map fun l => l ++ [nth l t] }
theorem opened_row {t : Nat} {l : List Int} (h : l.length = t + 1) : nth (l ++ [nth l t]) (t + 1) = nth l t := by
 unfold nth List.getD
 rw [List.getElem?_append_right (by omega), h]; simp
theorem Wk.opened (hg : Fair ps ch good rel) {t : Nat} {cap : Int} (h : Wk ps classes good rel t s) (hnow : s.ms.now ≤ t) : Wk ps classes good rel (t + 1) (M.opened cap t s) ∧ colSum (M.opened cap t s).sent (t + 1) = colSum s.sent t := by
 have hcol : colSum (s.sent.map fun l => l ++ [nth l t]) (t + 1) = colSum s.sent t := colSum_map _ (fun l hl => opened_row (h.rlen l hl))
 refine ⟨⟨hg.free _ _ _ _ h.good, h.dlen, h.blen, by simp [M.opened, h.slen], fun l hl => ?_, h.cur, h.open_, fun i hi hb hne => ?_, fun i hi hb => ?_, h.ord, h.dord, by unfold M.opened; dsimp only; rw [hcol]; exact h.sum⟩, hcol⟩
 ·obtain ⟨l', h2, rfl⟩ := List.mem_map.1 hl
  simp [h.rlen l' h2]
 ·have := h.shut i hi hb hne
  unfold M.opened; dsimp only; omega
 ·have := h.time i hi hb
  unfold M.opened; dsimp only; omega
theorem opened_nth {t : Nat} {cap : Int} (h : Wk ps classes good rel t s) (hk : k < classes) : nth (nth (M.opened cap t s).sent k) (t + 1) = nth (nth s.sent k) t := by
 unfold M.opened
 dsimp only
 rw [nth_map_lt _ (by rw [h.slen]; exact hk), opened_row (h.rlen _ (nth_mem (by rw [h.slen]; exact hk)))]
theorem mrun_succ (cap : Int) (classes m : Nat) (sg : σ) : mrun ps ch cap classes (m + 1) sg = inner ps ch m cap.toNat (M.opened cap m (mrun ps ch cap classes m sg)) := by
 have e : mrun ps ch cap classes (m + 1) sg = tick ps ch cap m (mrun ps ch cap classes m sg) := by unfold mrun; rw [ticksFrom_snoc, Nat.zero_add]
 rw [e]; rfl
/-- what holds of a class in every run -/
theorem cl_run (hg : Fair ps ch good rel) (hb : Busy ps ch good) (hs : ∀ p ∈ ps, 1 ≤ p.size) (hfl : ∀ p ∈ ps, 0 ≤ p.flow ∧ p.flow < classes) (hk : k < classes) {cap : Int} (hcap : 0 ≤ cap) {sg : σ} (hst : good (start ps classes sg).ms sg) : ∀ (m : Nat), Cl ps k m (mrun ps ch cap classes m sg)
 | 0 => by
  show nth (nth (List.replicate classes [(0 : Int)]) k) 0 = begK k ps (List.replicate ps.length false) - _
  rw [begK_none, nth_replicate hk, if_neg (by simp [mrun, ticksFrom, start])]; rfl
 | m + 1 => by
  have ih := cl_run hg hb hs hfl hk hcap hst m
  obtain ⟨h1, h2, _, _⟩ := work_run hg hs hfl hcap hst m
  obtain ⟨w1, w2⟩ := h1.opened (cap := cap) hg h2
  have hc : Cl ps k (m + 1) (M.opened cap m (mrun ps ch cap classes m sg)) := by
   unfold Cl
   rw [opened_nth h1 hk]; exact ih
  rw [mrun_succ]
  exact (Per.inner (J := fun _ _ _ _ _ => True) hg hb ⟨fun _ _ _ _ _ _ _ _ _ _ => trivial, fun _ _ _ _ _ _ _ _ _ _ _ => trivial, fun _ _ _ _ _ _ _ _ _ _ => trivial⟩ hs hfl hk cap.toNat _ 0 0 w1 hc rfl hcap (.inl trivial)).1
/-- the invariant from a tick to any later one up to which the class is backlogged -/
theorem per_run (hg : Fair ps ch good rel) (hb : Busy ps ch good) (hJ : Per ps ch good k J) (hs : ∀ p ∈ ps, 1 ≤ p.size) (hfl : ∀ p ∈ ps, 0 ≤ p.flow ∧ p.flow < classes) (hk : k < classes) {cap : Int} (hcap : 0 ≤ cap) {sg : σ} (hst : good (start ps classes sg).ms sg) {x : Nat}
    (h0 : J (mrun ps ch cap classes x sg).sg (mrun ps ch cap classes x sg).cur (mrun ps ch cap classes x sg).rest 0 0) : ∀ (d : Nat), (∀ u, x < u → u ≤ x + d → nth (nth (mrun ps ch cap classes u sg).sent k) u < pbytes k (u : Int) ps) →
    J (mrun ps ch cap classes (x + d) sg).sg (mrun ps ch cap classes (x + d) sg).cur (mrun ps ch cap classes (x + d) sg).rest (nth (nth (mrun ps ch cap classes (x + d) sg).sent k) (x + d) - nth (nth (mrun ps ch cap classes x sg).sent k) x)
      ((colSum (mrun ps ch cap classes (x + d) sg).sent (x + d) - colSum (mrun ps ch cap classes x sg).sent x) - (nth (nth (mrun ps ch cap classes (x + d) sg).sent k) (x + d) - nth (nth (mrun ps ch cap classes x sg).sent k) x))
  | 0, _ => by
    simp only [Nat.add_zero]
    rw [Int.sub_self, Int.sub_self, Int.sub_self]; exact h0
  | d + 1, hback => by
    have ih := per_run hg hb hJ hs hfl hk hcap hst h0 d (fun u h1 h2 => hback u h1 (by omega))
    have hlast := hback (x + d + 1) (by omega) (by omega)
    obtain ⟨h1, h2, _, _⟩ := work_run hg hs hfl hcap hst (x + d)
    obtain ⟨w1, w2⟩ := h1.opened (cap := cap) hg h2
    have hc0 := cl_run hg hb hs hfl hk hcap hst (x + d)
    have hc : Cl ps k (x + d + 1) (M.opened cap (x + d) (mrun ps ch cap classes (x + d) sg)) := by
      unfold Cl
      rw [opened_nth h1 hk]; exact hc0
    have hr := (Per.inner hg hb hJ hs hfl hk cap.toNat (M.opened cap (x + d) (mrun ps ch cap classes (x + d) sg)) _ _ w1 hc rfl hcap (.inl ih)).2.2
    rw [← mrun_succ, opened_nth h1 hk, w2] at hr
    have hr := hr (by have e : ((x + d : Nat) : Int) + 1 = ((x + d + 1 : Nat) : Int) := by omega
                      rw [e]; exact hlast)
    rw [show x + (d + 1) = x + d + 1 by omega]
    have ea : ∀ a b c : Int, a - b + (c - a) = c - b := fun a b c => by omega
    rw [ea] at hr
    generalize nth (nth (mrun ps ch cap classes (x + d + 1) sg).sent k) (x + d + 1) = p1 at hr ⊢
    generalize nth (nth (mrun ps ch cap classes (x + d) sg).sent k) (x + d) = p2 at hr ⊢
    generalize nth (nth (mrun ps ch cap classes x sg).sent k) x = p3 at hr ⊢
    generalize colSum (mrun ps ch cap classes (x + d + 1) sg).sent (x + d + 1) = q1 at hr ⊢
    generalize colSum (mrun ps ch cap classes (x + d) sg).sent (x + d) = q2 at hr ⊢
    generalize colSum (mrun ps ch cap classes x sg).sent x = q3 at hr ⊢
    rw [show q2 - q3 - (p2 - p3) + (q1 - q2 - (p1 - p2)) = q1 - q3 - (p1 - p3) by omega] at hr
    exact hr
end
end Go.Proofs.YthpblaoehlgpfaaGreat.M

/- Weighted round robin while a class is backlogged, plain: what the others take. No condition. -/
namespace Go.Proofs.YthpblaoehlgpfaaGreat.M
open Go Go.Proofs.YthpblaoehlgpfaaGreat.K

section
variable {w : List Int} {z : List Sz} {k : Nat}
/-- what the others may still take, from the beginning of class c on until class k -/
def restR (w : List Int) (z : List Sz) (k c : Nat) : Int := if c ≤ k then qSum k w z k - qSum k w z c else qSum k w z w.length - qSum k w z c + qSum k w z k
def mosts (w : List Int) (z : List Sz) (c : Nat) : Int := nth w c * (nth z c).most
theorem qSum_succ (i : Nat) : qSum k w z (i + 1) = qSum k w z i + (if i ≠ k then mosts w z i else 0) := by
 simp only [qSum, mosts]
 by_cases h : i = k
 ·rw [if_neg (by omega), if_neg (by omega)]
 ·rw [if_pos (by omega), if_pos h]
theorem qSum_grows (hm : ∀ i, i < w.length → 0 ≤ mosts w z i) : ∀ {j : Nat} (i : Nat), i ≤ j → j ≤ w.length → qSum k w z i ≤ qSum k w z j
  | 0, i, h, _ => by obtain rfl : i = 0 := by omega
                     exact Int.le_refl _
  | j + 1, i, h, hj => by
    by_cases e : i = j + 1
    · subst e; exact Int.le_refl _
    · have := qSum_grows hm (j := j) i (by omega) (by omega)
      rw [qSum_succ]
      have := hm j (by omega)
      split <;> omega
theorem restR_self : restR w z k k = 0 := by unfold restR; rw [if_pos (Nat.le_refl _)]; omega
theorem restR_le (hm : ∀ i, i < w.length → 0 ≤ mosts w z i) (hk : k < w.length) {c : Nat} (hc : c < w.length) : restR w z k c ≤ qSum k w z w.length := by
 have h0 : qSum k w z 0 = 0 := rfl
 have a1 := qSum_grows hm (k := k) (j := w.length) k (by omega) (by omega)
 have a2 := qSum_grows hm (k := k) (j := c) 0 (by omega) (by omega)
 unfold restR
 split
 ·omega
 ·have := qSum_grows hm (k := k) (j := c) k (by omega) (by omega); omega
theorem restR_next {c : Nat} (hc : c < w.length) (hk : k < w.length) (hne : c ≠ k) : restR w z k ((c + 1) % w.length) = restR w z k c - mosts w z c := by
 have hs := qSum_succ (w := w) (z := z) (k := k) c
 rw [if_pos hne] at hs
 by_cases hl : c + 1 < w.length
 ·rw [Nat.mod_eq_of_lt hl]
  unfold restR
  by_cases h : c ≤ k
  ·rw [if_pos h, if_pos (by omega), hs]; omega
  ·rw [if_neg h, if_neg (by omega), hs]; omega
 ·have e : c + 1 = w.length := by omega
  rw [e, Nat.mod_self]
  unfold restR
  rw [if_pos (Nat.zero_le _), if_neg (by omega), ← e, hs]
  have h0 : qSum k w z 0 = 0 := rfl
  omega
theorem restR_first (hk : k < w.length) : restR w z k ((k + 1) % w.length) = qSum k w z w.length := by
 have hs := qSum_succ (w := w) (z := z) (k := k) k
 rw [if_neg (by omega)] at hs
 by_cases hl : k + 1 < w.length
 ·rw [Nat.mod_eq_of_lt hl]
  unfold restR
  rw [if_neg (by omega), hs]; omega
 ·have e : k + 1 = w.length := by omega
  rw [e, Nat.mod_self]
  unfold restR
  rw [if_pos (Nat.zero_le _), ← e, hs]
  have h0 : qSum k w z 0 = 0 := rfl
  omega
/-- in class c, l packets of whose visit are to come and op bytes of the open one -/
def JR (w : List Int) (z : List Sz) (k c : Nat) (l op own oth : Int) : Prop :=
  c < w.length ∧ 0 ≤ l ∧
  if c = k then ∃ f : Nat, oth ≤ qSum k w z w.length * f ∧ nth w k * (nth z k).least * f ≤ own + op + l * (nth z k).least ∧ nth w k * (nth z k).least * ((f : Int) - 1) ≤ own
  else ∃ f : Nat, oth + op + l * (nth z c).most + (restR w z k c - mosts w z c) ≤ qSum k w z w.length * ((f : Int) + 1) ∧ nth w k * (nth z k).least * f ≤ own
theorem JR.next (hw : ∀ x ∈ w, 1 ≤ x) (hz : ∀ c, c < w.length → 0 ≤ (nth z c).least ∧ (nth z c).least ≤ (nth z c).most) (hk : k < w.length) (hn : 2 ≤ w.length) {c : Nat} {l own oth : Int} (h : JR w z k c l 0 own oth) (hl : c = k → l ≤ 0) :
  JR w z k ((c + 1) % w.length) (nth w ((c + 1) % w.length)) 0 own oth := by
 obtain ⟨h1, h2, h3⟩ := h
 have hlt : (c + 1) % w.length < w.length := Nat.mod_lt _ (by omega)
 have hwc := hw _ (nth_mem hlt)
 refine ⟨hlt, by omega, ?_⟩
 by_cases hck : c = k
 ·subst hck
  rw [if_pos rfl] at h3
  obtain ⟨f, f1, f2, f3⟩ := h3
  have hne : (c + 1) % w.length ≠ c := by
   by_cases hh : c + 1 < w.length
   ·rw [Nat.mod_eq_of_lt hh]; omega
   ·rw [show c + 1 = w.length by omega, Nat.mod_self]; omega
  rw [if_neg hne]
  refine ⟨f, ?_, ?_⟩
  ·rw [restR_first hk]
   show oth + 0 + mosts w z ((c + 1) % w.length) + (_ - mosts w z ((c + 1) % w.length)) ≤ _
   rw [Int.mul_add, Int.mul_one]; omega
  ·have : l = 0 := by have := hl rfl; omega
   rw [this] at f2
   simpa using f2
 ·rw [if_neg hck] at h3
  obtain ⟨f, f1, f2⟩ := h3
  have hr := restR_next (z := z) h1 hk hck
  have hl0 : 0 ≤ l * (nth z c).most := Int.mul_nonneg h2 (by have := hz c h1; omega)
  by_cases hnk : (c + 1) % w.length = k
  ·rw [if_pos hnk, hnk]
   rw [hnk, restR_self] at hr
   refine ⟨f + 1, ?_, ?_, ?_⟩
   ·have : ((f + 1 : Nat) : Int) = (f : Int) + 1 := by omega
    rw [this]; omega
   ·have : ((f + 1 : Nat) : Int) = (f : Int) + 1 := by omega
    rw [this, Int.mul_add, Int.mul_one]; omega
   ·have : ((f + 1 : Nat) : Int) - 1 = (f : Int) := by omega
    rw [this]; exact f2
  ·rw [if_neg hnk]
   refine ⟨f, ?_, f2⟩
   show oth + 0 + mosts w z ((c + 1) % w.length) + (_ - mosts w z ((c + 1) % w.length)) ≤ _
   omega
/-- what the invariant says in the end -/
theorem JR.end_ (hm : ∀ i, i < w.length → 0 ≤ mosts w z i) (hz : ∀ c, c < w.length → 0 ≤ (nth z c).least ∧ (nth z c).least ≤ (nth z c).most) (hk : k < w.length) (hr : 0 < nth w k * (nth z k).least) {c : Nat} {l op own oth : Int} (h0 : 0 ≤ own) (hop : 0 ≤ op) (h : JR w z k c l op own oth) : oth ≤ qSum k w z w.length * (own / (nth w k * (nth z k).least) + 1) := by
 obtain ⟨h1, h2, h3⟩ := h
 have hq : 0 ≤ qSum k w z w.length := by have := qSum_grows hm (k := k) (j := w.length) 0 (by omega) (by omega); exact this
 have key : ∀ g : Int, nth w k * (nth z k).least * g ≤ own → g + 1 ≤ own / (nth w k * (nth z k).least) + 1 := fun g hg => by
  have : g ≤ own / (nth w k * (nth z k).least) := Int.le_ediv_of_mul_le hr (by rw [Int.mul_comm]; exact hg)
  omega
 by_cases hck : c = k
 ·rw [if_pos hck] at h3
  obtain ⟨f, f1, f2, f3⟩ := h3
  have a := key _ f3
  exact Int.le_trans f1 (Int.mul_le_mul_of_nonneg_left (by omega) hq)
 ·rw [if_neg hck] at h3
  obtain ⟨f, f1, f2⟩ := h3
  have a := key _ f2
  have hl0 : 0 ≤ l * (nth z c).most := Int.mul_nonneg h2 (by have := hz c h1; omega)
  have hrr : 0 ≤ restR w z k c - mosts w z c := by
   rw [← restR_next h1 hk hck]
   have hlt : (c + 1) % w.length < w.length := Nat.mod_lt _ (by omega)
   unfold restR
   split
   ·have := qSum_grows hm (k := k) (j := k) ((c + 1) % w.length) (by omega) (by omega); omega
   ·have a1 := qSum_grows hm (k := k) (j := w.length) ((c + 1) % w.length) (by omega) (by omega)
    have a2 := qSum_grows hm (k := k) (j := k) 0 (by omega) (by omega)
    have h0 : qSum k w z 0 = 0 := rfl
    omega
  exact Int.le_trans (by omega) (Int.mul_le_mul_of_nonneg_left a hq)
end
end Go.Proofs.YthpblaoehlgpfaaGreat.M

/- Weighted round robin: the invariant of the rounds while a class is backlogged, plain. No condition. -/
namespace Go.Proofs.YthpblaoehlgpfaaGreat.M
open Go Go.Proofs.YthpblaoehlgpfaaGreat.K

/-- an invariant of every run: of the choice's state, the open packet and what is left of it -/
structure Vis {σ : Type} (ps : List Pkt) (ch : MS → σ → Int × Nat × σ) (good : MS → σ → Prop) (V : σ → Int → Int → Prop) : Prop where
  pick : ∀ ms sg r, good ms sg → ms.begun.length = ps.length → V sg (-1) r → 0 ≤ (ch ms sg).1 → V (ch ms sg).2.2 (ch ms sg).1 (nth ps (ch ms sg).1.toNat).size
  idle : ∀ ms sg r r', good ms sg → ms.begun.length = ps.length → V sg (-1) r → (ch ms sg).1 < 0 → V (ch ms sg).2.2 (ch ms sg).1 r'
  send : ∀ (sg : σ) (cur rest n : Int), 0 ≤ cur → cur < ps.length → 1 ≤ n → n ≤ rest → V sg cur rest → V sg (if rest - n = 0 then -1 else cur) (rest - n)
  none : ∀ sg c c' r r', c < 0 → c' < 0 → V sg c r → V sg c' r'
section
variable {σ : Type} {ps : List Pkt} {ch : MS → σ → Int × Nat × σ} {good : MS → σ → Prop} {rel : Nat → Nat → Prop} {classes k : Nat} {V : σ → Int → Int → Prop}
theorem Vis.inner (hg : Fair ps ch good rel) (hV : Vis ps ch good V) (hs : ∀ p ∈ ps, 1 ≤ p.size) (hfl : ∀ p ∈ ps, 0 ≤ p.flow ∧ p.flow < classes) {t : Nat} : ∀ (j : Nat) (s : RS σ), Wk ps classes good rel (t + 1) s → s.ms.now = t → 0 ≤ s.ms.left → V s.sg s.cur s.rest →
  V (inner ps ch t j s).sg (inner ps ch t j s).cur (inner ps ch t j s).rest
 | 0, s, hw, hn, hl, h => h
 | j + 1, s, hw, hn, hl, h => by
  simp only [M.inner]
  by_cases hl0 : s.ms.left ≤ 0
  ·rw [if_pos hl0]; exact h
  ·rw [if_neg hl0]
   have hw1 := hw.pickup hg hs
   obtain ⟨e1, e2, e3, e4⟩ := pickup_same ps ch s
   have h1 : V (M.pickup ps ch s).sg (M.pickup ps ch s).cur (M.pickup ps ch s).rest := by
    unfold M.pickup
    by_cases hcur : 0 ≤ s.cur
    ·rw [if_pos hcur]; exact h
    ·rw [if_neg hcur]
     have h0 := hV.none s.sg s.cur (-1) s.rest s.rest (by omega) (by omega) h
     by_cases hr : (ch s.ms s.sg).1 < 0
     ·simp only [hr, if_true]
      exact hV.idle _ _ _ _ hw.good hw.blen h0 hr
     ·simp only [hr, if_false]
      exact hV.pick _ _ _ hw.good hw.blen h0 (by omega)
   by_cases hcn : (M.pickup ps ch s).cur < 0
   ·rw [if_pos hcn]; exact h1
   ·rw [if_neg hcn]
    obtain ⟨c1, c2, c3⟩ := hw1.cur (by omega)
    obtain ⟨g1, g2, g3, g4, g5, g6⟩ := hw1.send hfl hg.free (by rw [e2]; exact hn) (by omega) (by rw [e1]; omega)
    refine Vis.inner hg hV hs hfl j _ g1 (by rw [g5, e2]; exact hn) g3 ?_
    have hle : (if (M.pickup ps ch s).ms.left < (M.pickup ps ch s).rest then (M.pickup ps ch s).ms.left else (M.pickup ps ch s).rest) ≤ (M.pickup ps ch s).rest := by split <;> omega
    have hge : 1 ≤ (if (M.pickup ps ch s).ms.left < (M.pickup ps ch s).rest then (M.pickup ps ch s).ms.left else (M.pickup ps ch s).rest) := by rw [e1]; split <;> omega
    exact hV.send _ _ _ _ (by omega) c1 hge hle h1
theorem vis_run (hg : Fair ps ch good rel) (hV : Vis ps ch good V) (hs : ∀ p ∈ ps, 1 ≤ p.size) (hfl : ∀ p ∈ ps, 0 ≤ p.flow ∧ p.flow < classes) {cap : Int} (hcap : 0 ≤ cap) {sg : σ} (hst : good (start ps classes sg).ms sg) (h0 : V sg (-1) 0) : ∀ (m : Nat), V (mrun ps ch cap classes m sg).sg (mrun ps ch cap classes m sg).cur (mrun ps ch cap classes m sg).rest
 | 0 => h0
 | m + 1 => by
  have ih := vis_run hg hV hs hfl hcap hst h0 m
  obtain ⟨h1, h2, _, _⟩ := work_run hg hs hfl hcap hst m
  obtain ⟨w1, w2⟩ := h1.opened (cap := cap) hg h2
  rw [mrun_succ]
  exact Vis.inner hg hV hs hfl cap.toNat _ w1 rfl hcap ih
end
/-! ### round robin -/
def Jrob (ps : List Pkt) (w : List Int) (z : List Sz) (k : Nat) (sg : Nat × Int) (cur rest own oth : Int) : Prop := JR w z k sg.1 sg.2 (if 0 ≤ cur then rest else 0) own oth ∧ (0 ≤ cur → (nth ps cur.toNat).flow = sg.1)
/-- sizes of the packets of each class -/
def SzOf (ps : List Pkt) (z : List Sz) : Prop := ∀ i, i < ps.length → (nth z (nth ps i).flow.toNat).least ≤ (nth ps i).size ∧ (nth ps i).size ≤ (nth z (nth ps i).flow.toNat).most
section
variable {ps : List Pkt} {w : List Int} {z : List Sz} {k : Nat}
theorem rob_go (hw : ∀ x ∈ w, 1 ≤ x) (hz : ∀ c, c < w.length → 0 ≤ (nth z c).least ∧ (nth z c).least ≤ (nth z c).most) (hk : k < w.length) (hn : 2 ≤ w.length) (hS : SzOf ps z) {nx : Int → Int} (hnx : ∀ d : Nat, 0 ≤ nx d → nx d < ps.length ∧ (nth ps (nx d).toNat).flow = d) (hwait : 0 ≤ nx k) {own oth : Int} : ∀ (fuel c : Nat) (l : Int), JR w z k c l 0 own oth → 0 ≤ (robinGo nx w fuel c l).1 →
  JR w z k (robinGo nx w fuel c l).2.1 (robinGo nx w fuel c l).2.2 (nth ps (robinGo nx w fuel c l).1.toNat).size own oth ∧ (nth ps (robinGo nx w fuel c l).1.toNat).flow = (robinGo nx w fuel c l).2.1
 | 0, c, l, _, h => by simp [robinGo] at h
 | fuel + 1, c, l, hj, h => by
  simp only [robinGo] at h ⊢
  by_cases hy : 0 ≤ nx c ∧ 0 < l
  ·rw [if_pos hy]
   obtain ⟨a1, a2⟩ := hnx c hy.1
   have hs := hS (nx c).toNat (by omega)
   rw [a2, Int.toNat_natCast] at hs
   obtain ⟨h1, h2, h3⟩ := hj
   refine ⟨⟨h1, by dsimp only; omega, ?_⟩, a2⟩
   dsimp only
   have e1 : ∀ q : Int, (l - 1) * q = l * q - q := fun q => by rw [Int.sub_mul]; omega
   by_cases hck : c = k
   ·rw [if_pos hck] at h3 ⊢
    obtain ⟨f, f1, f2, f3⟩ := h3
    subst hck
    refine ⟨f, f1, ?_, f3⟩
    rw [e1]; omega
   ·rw [if_neg hck] at h3 ⊢
    obtain ⟨f, f1, f2⟩ := h3
    refine ⟨f, ?_, f2⟩
    rw [e1]; omega
  ·rw [if_neg hy] at h ⊢
   exact rob_go hw hz hk hn hS hnx hwait fuel _ _ (hj.next hw hz hk hn (fun e => by subst e; omega)) h
theorem rob_per (hw : ∀ x ∈ w, 1 ≤ x) (hz : ∀ c, c < w.length → 0 ≤ (nth z c).least ∧ (nth z c).least ≤ (nth z c).most) (hk : k < w.length) (hn : 2 ≤ w.length) (hS : SzOf ps z) (hsort : ps.Pairwise fun a b => a.time ≤ b.time) : Per ps (robinCh ps w) (goodRb ps w.length) k (Jrob ps w z k) where
 pick := fun ms sg r own oth hg hb hex hJ h0 => by
  have hwait : 0 ≤ nextW ps ms k := by
   apply Classical.byContradiction
   intro hneg
   obtain ⟨i, g1, g2, g3, g4⟩ := hex
   have := nextW_none (ps := ps) (ms := ms) (cls := (k : Int)) (by omega) g1 g4 g3
   rw [this] at g2; cases g2
  unfold robinCh at h0 ⊢
  split at h0
  ·simp at h0
  ·rename_i hf
   rw [if_neg hf]
   dsimp only at h0 ⊢
   have hj := hJ.1
   rw [if_neg (by omega)] at hj
   have := rob_go hw hz hk hn hS (nx := nextW ps ms) (fun d hd => by obtain ⟨a, b, c, e, _⟩ := nextW_some hsort hd; exact ⟨by omega, e⟩) hwait (w.length + 1) sg.1 sg.2 hj h0
   unfold Jrob
   rw [if_pos h0]
   exact ⟨this.1, fun _ => this.2⟩
 send := fun sg cur rest own oth n hc hl h1 h2 hJ => by
  obtain ⟨hj, hfl⟩ := hJ
  have hfl := hfl hc
  rw [if_pos hc] at hj
  have hop : (if 0 ≤ (if rest - n = 0 then (-1 : Int) else cur) then rest - n else 0) = rest - n := by
   by_cases hz : rest - n = 0
   ·rw [if_pos hz, if_neg (by omega), hz]
   ·rw [if_neg hz, if_pos hc]
  refine ⟨?_, fun hh => ?_⟩
  ·rw [hop]
   obtain ⟨h3, h4, h5⟩ := hj
   refine ⟨h3, h4, ?_⟩
   by_cases hck : sg.1 = k
   ·rw [if_pos hck] at h5 ⊢
    obtain ⟨f, f1, f2, f3⟩ := h5
    have hf : (nth ps cur.toNat).flow = (k : Int) := by omega
    rw [if_pos hf, if_pos hf]
    exact ⟨f, by omega, by omega, by omega⟩
   ·rw [if_neg hck] at h5 ⊢
    obtain ⟨f, f1, f2⟩ := h5
    have hf : ¬ (nth ps cur.toNat).flow = (k : Int) := by omega
    rw [if_neg hf, if_neg hf]
    exact ⟨f, by omega, by omega⟩
  ·by_cases hz : rest - n = 0
   ·rw [if_pos hz] at hh; omega
   ·rw [if_neg hz]; exact hfl
 none := fun sg c c' r r' own oth h1 h2 hJ => by
  obtain ⟨hj, _⟩ := hJ
  rw [if_neg (by omega)] at hj
  exact ⟨by rw [if_neg (by omega)]; exact hj, fun h => by omega⟩
/-- where every run stands -/
def Vrob (ps : List Pkt) (w : List Int) (sg : Nat × Int) (cur rest : Int) : Prop := sg.1 < w.length ∧ 0 ≤ sg.2 ∧ sg.2 ≤ nth w sg.1 ∧ (0 ≤ cur → cur < ps.length ∧ (nth ps cur.toNat).flow = sg.1 ∧ sg.2 ≤ nth w sg.1 - 1 ∧ 0 ≤ rest ∧ rest ≤ (nth ps cur.toNat).size)
theorem rob_vgo (hw : ∀ x ∈ w, 1 ≤ x) (hn : 0 < w.length) {nx : Int → Int} (hnx : ∀ d : Nat, 0 ≤ nx d → nx d < ps.length ∧ (nth ps (nx d).toNat).flow = d) : ∀ (fuel c : Nat) (l : Int), c < w.length → 0 ≤ l → l ≤ nth w c → 
  (robinGo nx w fuel c l).2.1 < w.length ∧ 0 ≤ (robinGo nx w fuel c l).2.2 ∧ (robinGo nx w fuel c l).2.2 ≤ nth w (robinGo nx w fuel c l).2.1 ∧
  (0 ≤ (robinGo nx w fuel c l).1 → (robinGo nx w fuel c l).1 < ps.length ∧ (nth ps (robinGo nx w fuel c l).1.toNat).flow = (robinGo nx w fuel c l).2.1 ∧ (robinGo nx w fuel c l).2.2 ≤ nth w (robinGo nx w fuel c l).2.1 - 1)
 | 0, c, l, hc, hl, hlw => ⟨hc, hl, hlw, fun h => by simp [robinGo] at h⟩
 | fuel + 1, c, l, hc, hl, hlw => by
  simp only [robinGo]
  by_cases hy : 0 ≤ nx c ∧ 0 < l
  ·rw [if_pos hy]
   obtain ⟨a1, a2⟩ := hnx c hy.1
   exact ⟨hc, by dsimp only; omega, by dsimp only; omega, fun _ => ⟨a1, a2, by dsimp only; omega⟩⟩
  ·rw [if_neg hy]
   have hlt : (c + 1) % w.length < w.length := Nat.mod_lt _ hn
   have := hw _ (nth_mem hlt)
   exact rob_vgo hw hn hnx fuel _ _ hlt (by omega) (Int.le_refl _)
theorem rob_vis (hw : ∀ x ∈ w, 1 ≤ x) (hn : 0 < w.length) (hs : ∀ p ∈ ps, 1 ≤ p.size) (hsort : ps.Pairwise fun a b => a.time ≤ b.time) : Vis ps (robinCh ps w) (goodRb ps w.length) (Vrob ps w) where
 pick := fun ms sg r hg hb hV h0 => by
  obtain ⟨v1, v2, v3, _⟩ := hV
  unfold robinCh at h0 ⊢
  split at h0
  ·simp at h0
  ·rename_i hf
   rw [if_neg hf]
   dsimp only at h0 ⊢
   obtain ⟨a, b, c, d⟩ := rob_vgo (ps := ps) hw hn (nx := nextW ps ms) (fun d hd => by obtain ⟨a, b, c, e, _⟩ := nextW_some hsort hd; exact ⟨by omega, e⟩) (w.length + 1) sg.1 sg.2 v1 v2 v3
   refine ⟨a, b, c, fun _ => ?_⟩
   obtain ⟨d1, d2, d3⟩ := d h0
   have := hs _ (nth_mem (xs := ps) (k := (robinGo (nextW ps ms) w (w.length + 1) sg.1 sg.2).1.toNat) (by omega))
   exact ⟨d1, d2, d3, by omega, Int.le_refl _⟩
 idle := fun ms sg r r' hg hb hV h0 => by
  obtain ⟨v1, v2, v3, _⟩ := hV
  unfold robinCh at h0 ⊢
  split
  ·exact ⟨v1, v2, v3, fun h => by simp at h⟩
  ·rename_i hf
   rw [if_neg hf] at h0
   dsimp only at h0 ⊢
   obtain ⟨a, b, c, d⟩ := rob_vgo (ps := ps) hw hn (nx := nextW ps ms) (fun d hd => by obtain ⟨a, b, c, e, _⟩ := nextW_some hsort hd; exact ⟨by omega, e⟩) (w.length + 1) sg.1 sg.2 v1 v2 v3
   exact ⟨a, b, c, fun h => by omega⟩
 send := fun sg cur rest n hc hl h1 h2 hV => by
  obtain ⟨v1, v2, v3, v4⟩ := hV
  obtain ⟨a, b, c, d, e⟩ := v4 hc
  refine ⟨v1, v2, v3, fun hh => ?_⟩
  by_cases hz : rest - n = 0
  ·rw [if_pos hz] at hh; omega
  ·rw [if_neg hz]; exact ⟨a, b, c, by omega, by omega⟩
 none := fun sg c c' r r' h1 h2 hV => ⟨hV.1, hV.2.1, hV.2.2.1, fun h => by omega⟩
theorem vrob_start (hm : ∀ i, i < w.length → 0 ≤ mosts w z i) (hz : ∀ c, c < w.length → 0 ≤ (nth z c).least ∧ (nth z c).least ≤ (nth z c).most) (hr : 0 ≤ nth w k * (nth z k).least) (hk : k < w.length) (hS : SzOf ps z) {sg : Nat × Int} {cur rest : Int} (hV : Vrob ps w sg cur rest) : Jrob ps w z k sg cur rest 0 0 := by
 obtain ⟨v1, v2, v3, v4⟩ := hV
 have hzc := hz _ v1
 refine ⟨⟨v1, v2, ?_⟩, fun h => (v4 h).2.1⟩
 have hll : 0 ≤ sg.2 * (nth z sg.1).least := Int.mul_nonneg v2 hzc.1
 by_cases hck : sg.1 = k
 ·rw [if_pos hck]
  refine ⟨0, by simp, ?_, ?_⟩
  ·rw [← hck]
   have : 0 ≤ (if 0 ≤ cur then rest else 0) := by
    split
    ·rename_i h; exact (v4 h).2.2.2.1
    ·omega
   simp; omega
  ·rw [show ((0 : Nat) : Int) - 1 = -1 by omega, Int.mul_neg, Int.mul_one]; omega
 ·rw [if_neg hck]
  refine ⟨0, ?_, by simp⟩
  have hR := restR_le hm (k := k) hk v1
  have hop : (if 0 ≤ cur then rest else 0) + sg.2 * (nth z sg.1).most ≤ mosts w z sg.1 := by
   unfold mosts
   split
   ·rename_i h
    obtain ⟨a, b, c, d, e⟩ := v4 h
    have hs := hS cur.toNat (by omega)
    rw [b, Int.toNat_natCast] at hs
    have := Int.mul_le_mul_of_nonneg_right c (show 0 ≤ (nth z sg.1).most by omega)
    rw [Int.sub_mul] at this
    omega
   ·have := Int.mul_le_mul_of_nonneg_right v3 (show 0 ≤ (nth z sg.1).most by omega)
    omega
  simp; omega
/-- while a class is backlogged, the others are sent at most what is said -/
theorem rob_shares (hw : ∀ x ∈ w, 1 ≤ x ∧ x ≤ 20) (hz : ∀ c, c < w.length → 0 ≤ (nth z c).least ∧ (nth z c).least ≤ (nth z c).most) (hk : k < w.length) (hn : 2 ≤ w.length) (hS : SzOf ps z) (hsort : ps.Pairwise fun a b => a.time ≤ b.time) (hs : ∀ p ∈ ps, 1 ≤ p.size) (hfl : ∀ p ∈ ps, 0 ≤ p.flow ∧ p.flow < w.length) (hl : 0 < (nth z k).least) {cap : Int} (hcap : 0 ≤ cap) {x y : Nat} (hxy : x ≤ y)
  (hback : ∀ u, x < u → u ≤ y → nth (nth (mrun ps (robinCh ps w) cap w.length u (0, nth w 0)).sent k) u < pbytes k (u : Int) ps) (hown : nth (nth (mrun ps (robinCh ps w) cap w.length x (0, nth w 0)).sent k) x ≤ nth (nth (mrun ps (robinCh ps w) cap w.length y (0, nth w 0)).sent k) y) :
  (colSum (mrun ps (robinCh ps w) cap w.length y (0, nth w 0)).sent y - colSum (mrun ps (robinCh ps w) cap w.length x (0, nth w 0)).sent x) - (nth (nth (mrun ps (robinCh ps w) cap w.length y (0, nth w 0)).sent k) y - nth (nth (mrun ps (robinCh ps w) cap w.length x (0, nth w 0)).sent k) x) ≤
   qSum k w z w.length * ((nth (nth (mrun ps (robinCh ps w) cap w.length y (0, nth w 0)).sent k) y - nth (nth (mrun ps (robinCh ps w) cap w.length x (0, nth w 0)).sent k) x) / (nth w k * (nth z k).least) + 1) := by
 have hn0 : 0 < w.length := by omega
 have hw1 : ∀ x ∈ w, 1 ≤ x := fun x h => (hw x h).1
 have hm : ∀ i, i < w.length → 0 ≤ mosts w z i := fun i hi => Int.mul_nonneg (by have := hw1 _ (nth_mem hi); omega) (by have := hz i hi; omega)
 have hr : 0 < nth w k * (nth z k).least := Int.mul_pos (by have := hw1 _ (nth_mem hk); omega) hl
 have hg := robin_fair hw hn0 hfl hsort
 have hb := robin_busy hw hn0 hfl hsort
 have hst := robin_start (ps := ps) hw hn0 w.length
 have hv := vis_run hg (rob_vis hw1 hn0 hs hsort) hs hfl hcap hst ⟨hn0, by have := hw _ (nth_mem hn0); dsimp only; omega, Int.le_refl _, fun h => by omega⟩
 have hj := per_run hg hb (rob_per hw1 hz hk hn hS hsort) hs hfl hk hcap hst (x := x) (vrob_start hm hz (by omega) hk hS (hv x)) (y - x) (fun u h1 h2 => hback u h1 (by omega))
 rw [show x + (y - x) = y by omega] at hj
 have hvy := (hv y).2.2.2
 exact hj.1.end_ hm hz hk hr (by omega) (by
  split
  ·rename_i h; exact (hvy h).2.2.2.1
  ·omega)
end
end Go.Proofs.YthpblaoehlgpfaaGreat.M

/- Shares over one run: what the others are sent while a class is backlogged, plain. No condition. -/
namespace Go.Proofs.YthpblaoehlgpfaaGreat.M
open Go Go.Proofs.YthpblaoehlgpfaaGreat.K

section
variable {σ : Type} {ps : List Pkt} {ch : MS → σ → Int × Nat × σ} {good : MS → σ → Prop} {rel : Nat → Nat → Prop} {classes k : Nat}
theorem own_per : Per ps ch good k (fun _ _ _ own _ => 0 ≤ own) where
 pick := fun _ _ _ _ _ _ _ _ h _ => h
 send := fun _ _ _ _ _ n _ _ _ _ h => by split <;> omega
 none := fun _ _ _ _ _ _ _ _ _ h => h
theorem cl_inner (hg : Fair ps ch good rel) (hs : ∀ p ∈ ps, 1 ≤ p.size) (hfl : ∀ p ∈ ps, 0 ≤ p.flow ∧ p.flow < classes) (hk : k < classes) {t : Nat} : ∀ (j : Nat) (s : RS σ), Wk ps classes good rel (t + 1) s → s.ms.now = t → Cl ps k (t + 1) s → Cl ps k (t + 1) (inner ps ch t j s)
 | 0, s, _, _, h => h
 | j + 1, s, hw, hn, h => by
  simp only [M.inner]
  by_cases hl0 : s.ms.left ≤ 0
  ·rw [if_pos hl0]; exact h
  ·rw [if_neg hl0]
   have hw1 := hw.pickup hg hs
   obtain ⟨e1, e2, e3, e4⟩ := pickup_same ps ch s
   have h1 := h.pickup hg hw
   by_cases hcn : (M.pickup ps ch s).cur < 0
   ·rw [if_pos hcn]; exact h1
   ·rw [if_neg hcn]
    obtain ⟨g1, g2, g3, g4, g5, g6⟩ := hw1.send hfl hg.free (by rw [e2]; exact hn) (by omega) (by rw [e1]; omega)
    obtain ⟨_, _, _, _, _, _, _, _, _, hcl⟩ := h1.send hfl hk hw1 (by omega) (by rw [e1]; omega)
    exact cl_inner hg hs hfl hk j _ g1 (by rw [g5, e2]; exact hn) hcl
/-- what holds of a class in every run, never idle or not -/
theorem cl_run0 (hg : Fair ps ch good rel) (hs : ∀ p ∈ ps, 1 ≤ p.size) (hfl : ∀ p ∈ ps, 0 ≤ p.flow ∧ p.flow < classes) (hk : k < classes) {cap : Int} (hcap : 0 ≤ cap) {sg : σ} (hst : good (start ps classes sg).ms sg) : ∀ (m : Nat), Cl ps k m (mrun ps ch cap classes m sg)
 | 0 => by
  show nth (nth (List.replicate classes [(0 : Int)]) k) 0 = begK k ps (List.replicate ps.length false) - _
  rw [begK_none, nth_replicate hk, if_neg (by simp [mrun, ticksFrom, start])]; rfl
 | m + 1 => by
  have ih := cl_run0 hg hs hfl hk hcap hst m
  obtain ⟨h1, h2, _, _⟩ := work_run hg hs hfl hcap hst m
  obtain ⟨w1, w2⟩ := h1.opened (cap := cap) hg h2
  have hc : Cl ps k (m + 1) (M.opened cap m (mrun ps ch cap classes m sg)) := by
   unfold Cl
   rw [opened_nth h1 hk]; exact ih
  rw [mrun_succ]
  exact cl_inner hg hs hfl hk cap.toNat _ w1 rfl hc
/-- the sums of a run at an earlier tick are those of the run up to there -/
theorem run_at (hg : Fair ps ch good rel) (hs : ∀ p ∈ ps, 1 ≤ p.size) (hfl : ∀ p ∈ ps, 0 ≤ p.flow ∧ p.flow < classes) {cap : Int} (hcap : 0 ≤ cap) {sg : σ} (hst : good (start ps classes sg).ms sg) {m u : Nat} (hu : u ≤ m) {c : Nat} (hc : c < classes) :
  nth (nth (mrun ps ch cap classes m sg).sent c) u = nth (nth (mrun ps ch cap classes u sg).sent c) u := by
 by_cases h : u = m
 ·subst h; rfl
 ·exact (work_run hg hs hfl hcap hst m).2.2.1 u (by omega) c hc
theorem run_sum (hg : Fair ps ch good rel) (hs : ∀ p ∈ ps, 1 ≤ p.size) (hfl : ∀ p ∈ ps, 0 ≤ p.flow ∧ p.flow < classes) {cap : Int} (hcap : 0 ≤ cap) {sg : σ} (hst : good (start ps classes sg).ms sg) {m u : Nat} (hu : u ≤ m) :
  colSum (mrun ps ch cap classes m sg).sent u = colSum (mrun ps ch cap classes u sg).sent u := by
 have h1 := work_run hg hs hfl hcap hst m
 have h2 := work_run hg hs hfl hcap hst u
 exact colSum_congr (by rw [h1.1.slen, h2.1.slen]) (fun c hc => run_at hg hs hfl hcap hst hu (by rw [h1.1.slen] at hc; exact hc))
/-- a bound of what the others are sent, for all runs, is one for the sums of a longer run -/
theorem shares_at (hg : Fair ps ch good rel) (hb : Busy ps ch good) (hs : ∀ p ∈ ps, 1 ≤ p.size) (hfl : ∀ p ∈ ps, 0 ≤ p.flow ∧ p.flow < classes) (hk : k < classes) {cap : Int} (hcap : 0 ≤ cap) {sg : σ} (hst : good (start ps classes sg).ms sg) {O : Int → Int}
  (hO : ∀ {x y : Nat}, x ≤ y → (∀ u, x < u → u ≤ y → nth (nth (mrun ps ch cap classes u sg).sent k) u < pbytes k (u : Int) ps) → nth (nth (mrun ps ch cap classes x sg).sent k) x ≤ nth (nth (mrun ps ch cap classes y sg).sent k) y →
   (colSum (mrun ps ch cap classes y sg).sent y - colSum (mrun ps ch cap classes x sg).sent x) - (nth (nth (mrun ps ch cap classes y sg).sent k) y - nth (nth (mrun ps ch cap classes x sg).sent k) x) ≤ O (nth (nth (mrun ps ch cap classes y sg).sent k) y - nth (nth (mrun ps ch cap classes x sg).sent k) x))
  {m x y : Nat} (hxy : x ≤ y) (hy : y ≤ m) (hback : ∀ u, x < u → u ≤ y → nth (nth (mrun ps ch cap classes m sg).sent k) u < pbytes k (u : Int) ps) :
  0 ≤ nth (nth (mrun ps ch cap classes m sg).sent k) y - nth (nth (mrun ps ch cap classes m sg).sent k) x ∧
  (colSum (mrun ps ch cap classes m sg).sent y - colSum (mrun ps ch cap classes m sg).sent x) - (nth (nth (mrun ps ch cap classes m sg).sent k) y - nth (nth (mrun ps ch cap classes m sg).sent k) x) ≤ O (nth (nth (mrun ps ch cap classes m sg).sent k) y - nth (nth (mrun ps ch cap classes m sg).sent k) x) := by
 have e1 := run_at hg hs hfl hcap hst hy hk
 have e2 := run_at hg hs hfl hcap hst (show x ≤ m by omega) hk
 have hback : ∀ u, x < u → u ≤ y → nth (nth (mrun ps ch cap classes u sg).sent k) u < pbytes k (u : Int) ps := fun u h1 h2 => by
  have := hback u h1 h2
  rw [run_at hg hs hfl hcap hst (show u ≤ m by omega) hk] at this
  exact this
 have hj := per_run hg hb own_per hs hfl hk hcap hst (x := x) (Int.le_refl 0) (y - x) (fun u h1 h2 => hback u h1 (by omega))
 rw [show x + (y - x) = y by omega] at hj
 rw [e1, e2, run_sum hg hs hfl hcap hst hy, run_sum hg hs hfl hcap hst (show x ≤ m by omega)]
 exact ⟨hj, hO hxy hback (by omega)⟩
end
theorem rob_said {ps : List Pkt} {w : List Int} {z : List Sz} {k : Nat} (hw : ∀ x ∈ w, 1 ≤ x ∧ x ≤ 20) (hz : ∀ c, c < w.length → 0 ≤ (nth z c).least ∧ (nth z c).least ≤ (nth z c).most) (hk : k < w.length) (hn : 2 ≤ w.length) (hS : SzOf ps z) (hsort : ps.Pairwise fun a b => a.time ≤ b.time) (hs : ∀ p ∈ ps, 1 ≤ p.size) (hfl : ∀ p ∈ ps, 0 ≤ p.flow ∧ p.flow < w.length) (hl : 0 < (nth z k).least) {cap : Int} (hcap : 0 ≤ cap) {m x y : Nat} (hxy : x ≤ y) (hy : y ≤ m)
  (hback : ∀ u, x < u → u ≤ y → nth (nth (mrun ps (robinCh ps w) cap w.length m (0, nth w 0)).sent k) u < pbytes k (u : Int) ps) :
  0 ≤ nth (nth (mrun ps (robinCh ps w) cap w.length m (0, nth w 0)).sent k) y - nth (nth (mrun ps (robinCh ps w) cap w.length m (0, nth w 0)).sent k) x ∧
  (colSum (mrun ps (robinCh ps w) cap w.length m (0, nth w 0)).sent y - colSum (mrun ps (robinCh ps w) cap w.length m (0, nth w 0)).sent x) - (nth (nth (mrun ps (robinCh ps w) cap w.length m (0, nth w 0)).sent k) y - nth (nth (mrun ps (robinCh ps w) cap w.length m (0, nth w 0)).sent k) x) ≤
   qSum k w z w.length * ((nth (nth (mrun ps (robinCh ps w) cap w.length m (0, nth w 0)).sent k) y - nth (nth (mrun ps (robinCh ps w) cap w.length m (0, nth w 0)).sent k) x) / (nth w k * (nth z k).least) + 1) :=
 shares_at (O := fun own => qSum k w z w.length * (own / (nth w k * (nth z k).least) + 1)) (robin_fair hw (by omega) hfl hsort) (robin_busy hw (by omega) hfl hsort) hs hfl hk hcap (robin_start (ps := ps) hw (by omega) w.length)
  (fun hxy hback hown => rob_shares hw hz hk hn hS hsort hs hfl hl hcap hxy hback hown) hxy hy hback
end Go.Proofs.YthpblaoehlgpfaaGreat.M

/- What a flow keeps: the least curve of a trace, plain. No condition. -/
namespace Go.Proofs.YthpblaoehlgpfaaGreat.M
open Go Go.Proofs.YthpblaoehlgpfaaGreat.K

theorem pbytes_congr {flow t t' : Int} : ∀ (ps : List Pkt), (∀ p ∈ ps, p.time < t ↔ p.time < t') → pbytes flow t ps = pbytes flow t' ps
 | [], _ => rfl
 | p :: ps, h => by
  have h1 := h p (by simp)
  have ih := pbytes_congr (flow := flow) ps (fun q hq => h q (by simp [hq]))
  simp only [pbytes]
  rw [ih]
  congr 1
  have e : hit flow t p ↔ hit flow t' p := by unfold hit; rw [h1]
  by_cases hh : hit flow t p
  ·rw [if_pos hh, if_pos (e.1 hh)]
  ·rw [if_neg hh, if_neg (fun h2 => hh (e.2 h2))]
theorem pbytes_mono {flow t t' : Int} (ht : t ≤ t') : ∀ (ps : List Pkt), (∀ p ∈ ps, 0 ≤ p.size) → pbytes flow t ps ≤ pbytes flow t' ps
 | [], _ => Int.le_refl _
 | p :: ps, h => by
  have ih := pbytes_mono (flow := flow) ht ps (fun q hq => h q (by simp [hq]))
  have hp := h p (by simp)
  simp only [pbytes]
  by_cases h1 : hit flow t p
  ·rw [if_pos h1, if_pos (by unfold hit at *; omega)]; omega
  ·rw [if_neg h1]; split <;> omega
def endN (ps : List Pkt) : Int := if ps.length = 0 then 0 else (nth ps (ps.length - 1)).time + 1
theorem endN_gt {ps : List Pkt} (hsort : ps.Pairwise fun a b => a.time ≤ b.time) : ∀ p ∈ ps, p.time < endN ps := by
 refine all_of_nth (fun i hi => ?_)
 unfold endN
 rw [if_neg (by omega)]
 by_cases e : i = ps.length - 1
 ·subst e; omega
 ·have := List.pairwise_iff_getElem.1 hsort i (ps.length - 1) hi (by omega) (by omega)
  rw [← nth_eq hi, ← nth_eq (show ps.length - 1 < ps.length by omega)] at this
  omega
theorem endN_bound {ps : List Pkt} {B : Int} (hB : 0 ≤ B) (h : ∀ p ∈ ps, 0 ≤ p.time ∧ p.time ≤ B) : 0 ≤ endN ps ∧ endN ps ≤ B + 1 := by
 unfold endN
 split
 ·omega
 ·have := h _ (nth_mem (xs := ps) (k := ps.length - 1) (by omega)); omega
theorem nth_up {vs : List Int} {en : Nat} (hm : ∀ j, j < en → nth vs j ≤ nth vs (j + 1)) {a b : Nat} (hab : a ≤ b) (hb : b ≤ en) : nth vs a ≤ nth vs b := by
  induction b with
  | zero => obtain rfl : a = 0 := by omega
            exact Int.le_refl _
  | succ b ih =>
    by_cases e : a = b + 1
    · subst e; exact Int.le_refl _
    · have h1 := ih (by omega) (by omega)
      have h2 := hm b (by omega)
      omega
theorem keeps {ps : List Pkt} {flow : Int} (hsort : ps.Pairwise fun a b => a.time ≤ b.time) {en : Nat} (hen : ∀ p ∈ ps, 0 ≤ p.time ∧ p.time < en) {vs : List Int} (h0 : ∀ j, j ≤ en → 0 ≤ nth vs j) (hm : ∀ j, j < en → nth vs j ≤ nth vs (j + 1))
  (hP : ∀ i, i < ps.length → ∀ T t : Nat, (nth ps i).time = T → T ≤ t → t ≤ en → pbytes flow (t : Int) ps - pbytes flow (T : Int) ps ≤ nth vs (t - T)) {x t : Nat} (hxt : x ≤ t) : pbytes flow (t : Int) ps - pbytes flow (x : Int) ps ≤ nth vs (min (t - x) en) := by
 have hnn := h0 (min (t - x) en) (by omega)
 by_cases hex : ∃ i, i < ps.length ∧ (x : Int) ≤ (nth ps i).time ∧ (nth ps i).time < t
 ·obtain ⟨i0, i1, i2, i3⟩ := hex
  rcases findFrom_cases (fun i => decide ((x : Int) ≤ (nth ps i).time)) ps.length 0 with ⟨j, j1, j2, _, j4, j5⟩ | ⟨_, h2⟩
  ·have j4 := of_decide_eq_true j4
   have hji : j ≤ i0 := by
    apply Classical.byContradiction
    intro hn
    have := of_decide_eq_false (j5 i0 (Nat.zero_le _) (by omega))
    exact this i2
   have hle : ∀ i, j ≤ i → i < ps.length → (nth ps j).time ≤ (nth ps i).time := fun i h1 h2 => by
    by_cases e : j = i
    ·subst e; exact Int.le_refl _
    ·have := List.pairwise_iff_getElem.1 hsort j i (by omega) h2 (by omega)
     rwa [← nth_eq (show j < ps.length by omega), ← nth_eq h2] at this
   have hj := hen _ (nth_mem (xs := ps) (k := j) (by omega))
   obtain ⟨T, hT⟩ := Int.eq_ofNat_of_zero_le hj.1
   have hTi := hle i0 hji i1
   have e1 : pbytes flow (x : Int) ps = pbytes flow (T : Int) ps := by
    refine pbytes_congr ps (all_of_nth (fun i hi => ?_))
    constructor
    ·intro h; omega
    ·intro h
     apply Classical.byContradiction
     intro hn
     by_cases hij : i < j
     ·have := of_decide_eq_false (j5 i (Nat.zero_le _) hij)
      omega
     ·have := hle i (by omega) hi
      omega
   have e2 : pbytes flow (t : Int) ps = pbytes flow ((min t en : Nat) : Int) ps := by
    refine pbytes_congr ps (fun p hp => ?_)
    have := hen p hp
    omega
   have h3 := hP j (by omega) T (min t en) hT (by omega) (by omega)
   have h4 := nth_up hm (a := min t en - T) (b := min (t - x) en) (by omega) (by omega)
   omega
  ·exact absurd i2 (of_decide_eq_false (h2 i0 (Nat.zero_le _) (by omega)))
 ·have e : pbytes flow (t : Int) ps = pbytes flow (x : Int) ps := by
   refine pbytes_congr ps (all_of_nth (fun i hi => ?_))
   constructor
   ·intro h
    apply Classical.byContradiction
    intro hn
    exact hex ⟨i, hi, by omega, h⟩
   ·intro h; omega
  omega
/-- a greater value in one place keeps what was shown -/
theorem nth_raise {vs : List Int} {k : Nat} {x : Int} (h : nth vs k ≤ x) (j : Nat) : nth vs j ≤ nth (vs.set k x) j := by
 by_cases hk : k < vs.length
 ·by_cases e : k = j
  ·subst e; rw [nth_set_self hk]; exact h
  ·rw [nth_set_ne e]; exact Int.le_refl _
 ·rw [List.set_eq_of_length_le (by omega)]; exact Int.le_refl _
end Go.Proofs.YthpblaoehlgpfaaGreat.M

/- Any line that is never idle and keeps the order within a class: service and waits of a class, plain. No condition. -/
namespace Go.Proofs.YthpblaoehlgpfaaGreat.M
open Go Go.Proofs.YthpblaoehlgpfaaGreat.K

theorem begK_le {k t : Int} (hk : 0 ≤ k) : ∀ (ps : List Pkt) (bs : List Bool), bs.length = ps.length → (∀ p ∈ ps, 0 ≤ p.size) → (∀ i, i < ps.length → nth bs i = true → (nth ps i).flow = k → (nth ps i).time ≤ t) → begK k ps bs ≤ pbytes k (t + 1) ps
 | [], [], _, _, _ => by simp [begK, pbytes]
 | [], _ :: _, h, _, _ => by simp at h
 | _ :: _, [], h, _, _ => by simp at h
 | p :: ps, b :: bs, hl, hs, h => by
  have ih := begK_le hk ps bs (by simpa using hl) (fun q hq => hs q (by simp [hq])) (fun i hi hb hf => h (i + 1) (by simpa using hi) hb hf)
  have hp := hs p (by simp)
  simp only [begK, pbytes]
  have h0 : b = true → p.flow = k → hit k (t + 1) p := fun hb hf => by have := h 0 (by simp) hb hf; simp [nth] at this; unfold hit; omega
  by_cases hb : b = true ∧ p.flow = k
  ·rw [if_pos hb, if_pos (h0 hb.1 hb.2)]; omega
  ·rw [if_neg hb]; split <;> omega
section
variable {σ : Type} {ps : List Pkt} {ch : MS → σ → Int × Nat × σ} {good : MS → σ → Prop} {rel : Nat → Nat → Prop} {classes col k : Nat} {s : RS σ}
/-- what is finished stays so -/
theorem inner_done (hg : Fair ps ch good rel) (hs : ∀ p ∈ ps, 1 ≤ p.size) (hfl : ∀ p ∈ ps, 0 ≤ p.flow ∧ p.flow < classes) {t : Nat} {i : Nat} (hi : i < ps.length) : ∀ (j : Nat) (s : RS σ), Wk ps classes good rel (t + 1) s → s.ms.now = t → 0 ≤ nth s.done i → nth (inner ps ch t j s).done i = nth s.done i
 | 0, s, _, _, _ => rfl
 | j + 1, s, hw, hn, hd => by
  simp only [M.inner]
  by_cases hl0 : s.ms.left ≤ 0
  ·rw [if_pos hl0]
  ·rw [if_neg hl0]
   have hw1 := hw.pickup hg hs
   obtain ⟨e1, e2, e3, e4⟩ := pickup_same ps ch s
   by_cases hcn : (M.pickup ps ch s).cur < 0
   ·rw [if_pos hcn, e4]
   ·rw [if_neg hcn]
    obtain ⟨c1, c2, c3⟩ := hw1.cur (by omega)
    obtain ⟨g1, g2, g3, g4, g5, g6⟩ := hw1.send hfl hg.free (by rw [e2]; exact hn) (by omega) (by rw [e1]; omega)
    have hne : (M.pickup ps ch s).cur.toNat ≠ i := fun e => by
     have := hw1.open_ i hi (.inr (by omega))
     rw [e4] at this; omega
    have hsd : nth (M.send ps t (M.pickup ps ch s)).done i = nth s.done i := by
     unfold M.send
     dsimp only
     generalize (if (M.pickup ps ch s).ms.left < (M.pickup ps ch s).rest then (M.pickup ps ch s).ms.left else (M.pickup ps ch s).rest) = n
     split
     ·rw [nth_set_ne hne, e4]
     ·rw [e4]
    rw [inner_done hg hs hfl hi j _ g1 (by rw [g5, e2]; exact hn) (by rw [hsd]; exact hd), hsd]
theorem done_stays (hg : Fair ps ch good rel) (hs : ∀ p ∈ ps, 1 ≤ p.size) (hfl : ∀ p ∈ ps, 0 ≤ p.flow ∧ p.flow < classes) {cap : Int} (hcap : 0 ≤ cap) {sg : σ} (hst : good (start ps classes sg).ms sg) {u : Nat} {i : Nat} (hi : i < ps.length) (hd : 0 ≤ nth (mrun ps ch cap classes u sg).done i) : ∀ (d : Nat), nth (mrun ps ch cap classes (u + d) sg).done i = nth (mrun ps ch cap classes u sg).done i
 | 0 => rfl
 | d + 1 => by
  have ih := done_stays hg hs hfl hcap hst hi hd d
  obtain ⟨h1, h2, _, _⟩ := work_run hg hs hfl hcap hst (u + d)
  obtain ⟨w1, w2⟩ := h1.opened (cap := cap) hg h2
  rw [show u + (d + 1) = u + d + 1 by omega, mrun_succ, inner_done hg hs hfl hi cap.toNat _ w1 rfl (by show 0 ≤ nth (mrun ps ch cap classes (u + d) sg).done i; rw [ih]; exact hd)]
  exact ih
theorem run_now (hg : Fair ps ch good rel) (hs : ∀ p ∈ ps, 1 ≤ p.size) (hfl : ∀ p ∈ ps, 0 ≤ p.flow ∧ p.flow < classes) {cap : Int} (hcap : 0 ≤ cap) {sg : σ} (hst : good (start ps classes sg).ms sg) (u : Nat) : (mrun ps ch cap classes (u + 1) sg).ms.now = u := by
 obtain ⟨h1, h2, _, _⟩ := work_run hg hs hfl hcap hst u
 have e : mrun ps ch cap classes (u + 1) sg = tick ps ch cap u (mrun ps ch cap classes u sg) := by unfold mrun; rw [ticksFrom_snoc, Nat.zero_add]
 rw [e]
 exact (h1.tick hg hs hfl hcap h2).2.1
/-- while a class is backlogged, so are all together -/
theorem lag_all (hg : Fair ps ch good rel) (hb : Busy ps ch good) (hs : ∀ p ∈ ps, 1 ≤ p.size) (hfl : ∀ p ∈ ps, 0 ≤ p.flow ∧ p.flow < classes) (hk : k < classes) {cap : Int} (hcap : 0 ≤ cap) {sg : σ} (hst : good (start ps classes sg).ms sg) (u : Nat)
  (h : nth (nth (mrun ps ch cap classes (u + 1) sg).sent k) (u + 1) < pbytes k ((u + 1 : Nat) : Int) ps) : wsum cap ps (u + 1) < pbytes (-1) ((u + 1 : Nat) : Int) ps := by
 have hw := (work_run hg hs hfl hcap hst (u + 1)).1
 have hnow := run_now hg hs hfl hcap hst (cap := cap) u
 have hc := cl_run hg hb hs hfl hk hcap hst (cap := cap) (u + 1)
 rw [← work_sum hg hs hfl hcap hst hb (Nat.le_refl (u + 1))]
 generalize mrun ps ch cap classes (u + 1) sg = S at h hw hnow hc ⊢
 have hsz : ∀ p ∈ ps, 0 ≤ p.size := fun p hp => by have := hs p hp; omega
 have e1 : ((u + 1 : Nat) : Int) = (u : Int) + 1 := by omega
 rw [e1] at h ⊢
 rw [hw.sum]
 unfold Cl at hc
 rw [hc] at h
 by_cases hcur : 0 ≤ S.cur
 ·obtain ⟨c1, c2, c3⟩ := hw.cur hcur
  have := begB_le (t := (u : Int)) ps S.ms.begun hw.blen hsz (fun i hi hb => by have := hw.time i hi hb; omega)
  rw [if_pos hcur]; omega
 ·rw [if_neg (fun hh => hcur hh.1)] at h
  obtain ⟨i, i1, i2, i3, i4⟩ := begK_wait (show (0 : Int) ≤ k by omega) ps S.ms.begun hw.blen hsz (show begK k ps S.ms.begun < pbytes k ((u : Int) + 1) ps by omega)
  have h1 := begB_set ps S.ms.begun i i1 (by rw [hw.blen]; exact i1) i2
  have h2 := begB_le (t := (u : Int)) ps (S.ms.begun.set i true) (by simp [hw.blen]) hsz (fun j hj hbj => by
   by_cases e : i = j
   ·subst e; exact i4
   ·rw [nth_set_ne e] at hbj
    have := hw.time j hj hbj; omega)
  have h3 := hs _ (nth_mem i1)
  rw [if_neg hcur]; omega
/-- the sums of a class while it is backlogged: the line sends all of its capacity -/
theorem busy_all (hg : Fair ps ch good rel) (hb : Busy ps ch good) (hs : ∀ p ∈ ps, 1 ≤ p.size) (hfl : ∀ p ∈ ps, 0 ≤ p.flow ∧ p.flow < classes) (hk : k < classes) {cap : Int} (hcap : 0 ≤ cap) {sg : σ} (hst : good (start ps classes sg).ms sg) {m x y : Nat} (hxy : x ≤ y) (hy : y ≤ m)
  (hback : ∀ u, x < u → u ≤ y → nth (nth (mrun ps ch cap classes m sg).sent k) u < pbytes k (u : Int) ps) : cap * ((y - x : Nat) : Int) ≤ colSum (mrun ps ch cap classes m sg).sent y - colSum (mrun ps ch cap classes m sg).sent x := by
 rw [work_sum hg hs hfl hcap hst hb hy, work_sum hg hs hfl hcap hst hb (show x ≤ m by omega)]
 have := wsum_busy (cap := cap) (ps := ps) (s := x) (y - x) (fun u h1 h2 => by
  obtain ⟨v, rfl⟩ : ∃ v, u = v + 1 := ⟨u - 1, by omega⟩
  refine lag_all hg hb hs hfl hk hcap hst v ?_
  have h3 := hback (v + 1) h1 (by omega)
  rw [run_at hg hs hfl hcap hst (show v + 1 ≤ m by omega) hk] at h3
  exact h3)
 rw [show x + (y - x) = y by omega] at this
 exact this
/-- a class is never sent more than has arrived -/
theorem class_le (hg : Fair ps ch good rel) (hs : ∀ p ∈ ps, 1 ≤ p.size) (hfl : ∀ p ∈ ps, 0 ≤ p.flow ∧ p.flow < classes) (hk : k < classes) {cap : Int} (hcap : 0 ≤ cap) {sg : σ} (hst : good (start ps classes sg).ms sg) {m u : Nat} (hu : u ≤ m) (h0 : ∀ p ∈ ps, 0 ≤ p.time) : nth (nth (mrun ps ch cap classes m sg).sent k) u ≤ pbytes k (u : Int) ps ∧ 0 ≤ nth (nth (mrun ps ch cap classes m sg).sent k) 0 := by
 have hsz : ∀ p ∈ ps, 0 ≤ p.size := fun p hp => by have := hs p hp; omega
 refine ⟨?_, ?_⟩
 ·rw [run_at hg hs hfl hcap hst hu hk]
  cases u with
  | zero =>
   rw [show ((0 : Nat) : Int) = 0 from rfl, pbytes_zero ps h0]
   show nth (nth (List.replicate classes [(0 : Int)]) k) 0 ≤ 0
   rw [nth_replicate hk]; exact Int.le_refl _
  | succ u =>
   have hw := (work_run hg hs hfl hcap hst (u + 1)).1
   have hnow := run_now hg hs hfl hcap hst (cap := cap) u
   have hc := cl_run0 hg hs hfl hk hcap hst (cap := cap) (u + 1)
   unfold Cl at hc
   rw [hc, show ((u + 1 : Nat) : Int) = (u : Int) + 1 by omega]
   have h1 := begK_le (k := (k : Int)) (t := (u : Int)) (by omega) ps (mrun ps ch cap classes (u + 1) sg).ms.begun hw.blen hsz (fun i hi hb _ => by have := hw.time i hi hb; omega)
   split
   ·rename_i hh
    have := (hw.cur hh.1).2.2
    omega
   ·omega
 ·rw [run_at hg hs hfl hcap hst (Nat.zero_le m) hk]
  show 0 ≤ nth (nth (List.replicate classes [(0 : Int)]) k) 0
  rw [nth_replicate hk]; exact Int.le_refl _
/-- a class that is served so while it is backlogged is served so from its arrivals -/
theorem serves_of {a v : Nat → Int} {f : Nat → Int} {m : Nat} (h0 : a 0 ≤ v 0) (hle : ∀ u, u ≤ m → v u ≤ a u) (hf0 : f 0 ≤ 0) (hbusy : ∀ s t : Nat, s < t → t ≤ m → (∀ u, s < u → u ≤ t → v u < a u) → f (t - s) ≤ v t - v s) : ∀ t : Nat, t ≤ m → ∃ s : Nat, s ≤ t ∧ a s + f (t - s) ≤ v t := by
 have key : ∀ t : Nat, t ≤ m → ∃ s : Nat, s ≤ t ∧ a s ≤ v s ∧ ∀ u, s < u → u ≤ t → v u < a u := by
  intro t
  induction t with
  | zero => intro _; exact ⟨0, Nat.le_refl _, h0, fun u h1 h2 => by omega⟩
  | succ t ih =>
   intro ht
   by_cases h : v (t + 1) < a (t + 1)
   ·obtain ⟨s, h1, h2, h3⟩ := ih (by omega)
    refine ⟨s, by omega, h2, fun u hu1 hu2 => ?_⟩
    by_cases e : u = t + 1
    ·subst e; exact h
    ·exact h3 u hu1 (by omega)
   ·exact ⟨t + 1, Nat.le_refl _, by omega, fun u h1 h2 => by omega⟩
 intro t ht
 obtain ⟨s, h1, h2, h3⟩ := key t ht
 refine ⟨s, h1, ?_⟩
 by_cases e : s = t
 ·subst e
  rw [Nat.sub_self]; omega
 ·have := hbusy s t (by omega) ht h3
  omega
/-- a packet that is not finished by the end of a tick: less has been sent than arrived with it -/
theorem late_less (hg : Fair ps ch good (sameFlow ps)) (hs : ∀ p ∈ ps, 1 ≤ p.size) (hfl : ∀ p ∈ ps, 0 ≤ p.flow ∧ p.flow < classes) (hsort : ps.Pairwise fun a b => a.time ≤ b.time) (hk : k < classes) {cap : Int} (hcap : 0 ≤ cap) {sg : σ} (hst : good (start ps classes sg).ms sg) {m n T t : Nat} (hn : n < ps.length) (hf : (nth ps n).flow = k) (hT : (nth ps n).time = T) (htm : t < m)
  (hd : nth (mrun ps ch cap classes m sg).done n < 0 ∨ (t : Int) < nth (mrun ps ch cap classes m sg).done n) : nth (nth (mrun ps ch cap classes m sg).sent k) (t + 1) < pbytes k ((T : Int) + 1) ps := by
 have hsz : ∀ p ∈ ps, 0 ≤ p.size := fun p hp => by have := hs p hp; omega
 rw [run_at hg hs hfl hcap hst (show t + 1 ≤ m by omega) hk]
 have hw := (work_run hg hs hfl hcap hst (t + 1)).1
 have hnow := run_now hg hs hfl hcap hst (cap := cap) t
 have hc := cl_run0 hg hs hfl hk hcap hst (cap := cap) (t + 1)
 have hnd : ¬ 0 ≤ nth (mrun ps ch cap classes (t + 1) sg).done n := fun h0 => by
  have h1 := done_stays hg hs hfl hcap hst hn h0 (m - (t + 1))
  rw [show t + 1 + (m - (t + 1)) = m by omega] at h1
  have hbg : nth (mrun ps ch cap classes (t + 1) sg).ms.begun n = true := by
   cases hbn : nth (mrun ps ch cap classes (t + 1) sg).ms.begun n with
   | true => rfl
   | false => have := hw.open_ n hn (.inl hbn); omega
  have hcn : (mrun ps ch cap classes (t + 1) sg).cur ≠ n := fun e => by have := hw.open_ n hn (.inr e); omega
  have := hw.shut n hn hbg hcn
  omega
 unfold Cl at hc
 rw [hc]
 generalize mrun ps ch cap classes (t + 1) sg = S at hw hnow hnd ⊢
 have hordT : ∀ i, i < ps.length → i ≤ n → (nth ps i).time ≤ T := fun i hi hin => by
  by_cases e : i = n
  ·subst e; omega
  ·have := List.pairwise_iff_getElem.1 hsort i n hi hn (by omega)
   rw [← nth_eq hi, ← nth_eq hn] at this; omega
 cases hbn : nth S.ms.begun n with
 | false =>
  have hbeg : ∀ i, i < ps.length → nth S.ms.begun i = true → (nth ps i).flow = k → i < n := fun i hi hbi hfi => by
   apply Classical.byContradiction
   intro hge
   by_cases e : i = n
   ·subst e; rw [hbn] at hbi; cases hbi
   ·have := hw.ord i hi hbi n (by omega) (by unfold sameFlow; rw [hf, hfi])
    rw [hbn] at this; cases this
  have h1 := begK_set k ps S.ms.begun n hn (by rw [hw.blen]; exact hn) hbn
  rw [if_pos hf] at h1
  have h2 := begK_le (k := (k : Int)) (t := (T : Int)) (by omega) ps (S.ms.begun.set n true) (by simp [hw.blen]) hsz (fun i hi hbi hfi => by
   by_cases e : n = i
   ·subst e; omega
   ·rw [nth_set_ne e] at hbi
    exact hordT i hi (by have := hbeg i hi hbi hfi; omega))
  have h3 := hs _ (nth_mem hn)
  split
  ·rename_i hh
   have := (hw.cur hh.1).2.2
   omega
  ·omega
 | true =>
  have hcur : S.cur = n := by
   apply Classical.byContradiction
   intro hne
   have := (hw.shut n hn hbn hne).1
   exact hnd this
  have hbeg : ∀ i, i < ps.length → nth S.ms.begun i = true → (nth ps i).flow = k → i ≤ n := fun i hi hbi hfi => by
   apply Classical.byContradiction
   intro hge
   have hdi := (hw.shut i hi hbi (by omega)).1
   have := (hw.dord i hi hdi n (by omega) (by unfold sameFlow; rw [hf, hfi])).1
   exact hnd this
  have h2 := begK_le (k := (k : Int)) (t := (T : Int)) (by omega) ps S.ms.begun hw.blen hsz (fun i hi hbi hfi => hordT i hi (hbeg i hi hbi hfi))
  have h3 := (hw.cur (by omega)).2.2
  rw [if_pos ⟨by omega, by rw [hcur, Int.toNat_natCast]; exact hf⟩]
  omega
/-- no packet waits longer than the distance of what its class keeps and how it is served -/
theorem wait_bound {a v F G : Nat → Int} {m T d : Nat} (ha : ∀ x t : Nat, x ≤ t → a t - a x ≤ F (t - x)) (hmono : ∀ x t : Nat, x ≤ t → a x ≤ a t) (hG0 : ∀ t, 0 ≤ G t) (hserv : ∀ t : Nat, t ≤ m → ∃ s : Nat, s ≤ t ∧ a s + G (t - s) ≤ v t) (hd : ∀ u, F u ≤ G (u + d)) (hTm : T + d + 1 ≤ m) : a (T + 1) ≤ v (T + d + 1) := by
 obtain ⟨s, h1, h2⟩ := hserv (T + d + 1) hTm
 by_cases hs : T + 1 ≤ s
 ·have := hmono _ _ hs
  have := hG0 (T + d + 1 - s)
  omega
 ·have h3 := ha s (T + 1) (by omega)
  have h4 := hd (T + 1 - s)
  rw [show T + 1 - s + d = T + d + 1 - s by omega] at h4
  omega
end
end Go.Proofs.YthpblaoehlgpfaaGreat.M
namespace Go.Proofs.YthpblaoehlgpfaaGreat.M
open Go Go.Proofs.YthpblaoehlgpfaaGreat.K
end Go.Proofs.YthpblaoehlgpfaaGreat.M

/- Deficit round robin while a class is backlogged, plain: what the others take. No condition. -/
namespace Go.Proofs.YthpblaoehlgpfaaGreat.M
open Go Go.Proofs.YthpblaoehlgpfaaGreat.K

def sumF (f : Nat → Int) : Nat → Int
  | 0 => 0
  | n + 1 => sumF f n + f n
theorem sumF_congr {f g : Nat → Int} : ∀ {n : Nat}, (∀ i, i < n → f i = g i) → sumF f n = sumF g n
 | 0, _ => rfl
 | n + 1, h => by simp only [sumF]; rw [sumF_congr (fun i hi => h i (by omega)), h n (by omega)]
theorem sumF_le {f g : Nat → Int} : ∀ {n : Nat}, (∀ i, i < n → f i ≤ g i) → sumF f n ≤ sumF g n
 | 0, _ => Int.le_refl _
 | n + 1, h => by have a := sumF_le (fun i hi => h i (by omega) : ∀ i, i < n → f i ≤ g i); have b := h n (by omega); simp only [sumF]; omega
theorem sumF_nonneg {f : Nat → Int} : ∀ {n : Nat}, (∀ i, i < n → 0 ≤ f i) → 0 ≤ sumF f n
 | 0, _ => Int.le_refl _
 | n + 1, h => by have a := sumF_nonneg (fun i hi => h i (by omega) : ∀ i, i < n → 0 ≤ f i); have b := h n (by omega); simp only [sumF]; omega
theorem sumF_change {f g : Nat → Int} {c : Nat} : ∀ {n : Nat}, c < n → (∀ i, i < n → i ≠ c → g i = f i) → sumF g n = sumF f n + (g c - f c)
 | 0, h, _ => by omega
 | n + 1, hc, h => by
  simp only [sumF]
  by_cases e : c = n
  ·subst e
   rw [sumF_congr (fun i hi => h i (by omega) (by omega) : ∀ i, i < c → g i = f i)]; omega
  ·rw [sumF_change (by omega) (fun i hi hne => h i (by omega) hne : ∀ i, i < n → i ≠ c → g i = f i), h n (by omega) (by omega)]; omega
theorem sumF_add {f g : Nat → Int} : ∀ {n : Nat}, sumF (fun i => f i + g i) n = sumF f n + sumF g n
 | 0 => rfl
 | n + 1 => by simp only [sumF]; rw [sumF_add]; omega
def xF (k : Nat) (w : List Int) (z : List Sz) (i : Nat) : Int := if i ≠ k ∧ 1 ≤ (nth z i).most then nth w i else 0
def zF (k : Nat) (z : List Sz) (i : Nat) : Int := if i ≠ k ∧ 1 ≤ (nth z i).most then (nth z i).most - 1 else 0
theorem xSum_eq {k : Nat} {w : List Int} {z : List Sz} : ∀ n : Nat, xSum k w z n = sumF (xF k w z) n
 | 0 => rfl
 | n + 1 => by
  simp only [xSum, sumF, xSum_eq n]
  congr 1
  unfold xF
  by_cases h : n ≠ k ∧ 1 ≤ (nth z n).most
  ·rw [if_pos h, if_pos ⟨by omega, h.2⟩]
  ·rw [if_neg h, if_neg (fun hh => h ⟨by omega, hh.2⟩)]
theorem zSum_eq {k : Nat} {z : List Sz} : ∀ n : Nat, zSum k z n = sumF (zF k z) n
 | 0 => rfl
 | n + 1 => by
  simp only [zSum, sumF, zSum_eq n]
  congr 1
  unfold zF
  by_cases h : n ≠ k ∧ 1 ≤ (nth z n).most
  ·rw [if_pos h, if_pos ⟨by omega, h.2⟩]
  ·rw [if_neg h, if_neg (fun hh => h ⟨by omega, hh.2⟩)]
/-- the quantum of class i is still to be given before class k's next one -/
def pend (k c : Nat) (b : Bool) (i : Nat) : Bool := if c = k then b else (decide (i ≠ c) || !b) && (if c ≤ k then decide (c ≤ i ∧ i < k) else decide (c ≤ i ∨ i < k))
theorem pend_iff {k c i : Nat} {b : Bool} : pend k c b i = true ↔ (c = k ∧ b = true) ∨ (c ≠ k ∧ (i ≠ c ∨ b = false) ∧ ((c ≤ k ∧ c ≤ i ∧ i < k) ∨ (¬ c ≤ k ∧ (c ≤ i ∨ i < k)))) := by
 unfold pend
 by_cases h1 : c = k
 ·rw [if_pos h1]; simp [h1]
 ·rw [if_neg h1]
  by_cases h2 : c ≤ k
  ·rw [if_pos h2]; cases b <;> simp [h1, h2]
  ·rw [if_neg h2]; cases b <;> simp [h1, h2]
theorem pend_next {k c n i : Nat} (hc : c < n) (hk : k < n) (hn : 2 ≤ n) (hi : i < n) (hik : i ≠ k) : pend k ((c + 1) % n) false i = pend k c true i := by
 rw [mod_succ hc, Bool.eq_iff_iff, pend_iff, pend_iff]
 have e1 : (false = true) = False := by simp
 have e2 : (true = false) = False := by simp
 by_cases hl : c + 1 < n
 ·rw [if_pos hl, e1, e2]
  simp only [and_false, or_false, and_true, or_true, true_and, false_or]
  omega
 ·rw [if_neg hl, e1, e2]
  simp only [and_false, or_false, and_true, or_true, true_and, false_or]
  omega
theorem pend_self {k c : Nat} (h : c ≠ k) : pend k c true c = false := by unfold pend; rw [if_neg h]; simp
theorem pend_self' {k c : Nat} (h : c ≠ k) : pend k c false c = true := by unfold pend; rw [if_neg h]; split <;> simp <;> omega
theorem pend_other {k c i : Nat} {b : Bool} (h : c ≠ k) (hi : i ≠ c) : pend k c b i = pend k c true i := by unfold pend; rw [if_neg h, if_neg h]; simp [hi]
theorem pend_k {k i : Nat} {b : Bool} : pend k k b i = b := by unfold pend; rw [if_pos rfl]
/-- deficits saved, and quanta to come -/
def potF (w : List Int) (z : List Sz) (k c : Nat) (b : Bool) (d : List Int) (i : Nat) : Int := if i ≠ k ∧ 1 ≤ (nth z i).most then nth d i + (if pend k c b i = true then nth w i else 0) else 0
/-- the deficits: what is saved is less than a packet, but of the class that is visited -/
def DD (n : Nat) (z : List Sz) (c : Nat) (b : Bool) (d : List Int) : Prop := c < n ∧ d.length = n ∧ ∀ i, i < n → 0 ≤ nth d i ∧ (¬ (i = c ∧ b = true) → 1 ≤ (nth z i).most → nth d i ≤ (nth z i).most - 1)
def JD (w : List Int) (z : List Sz) (k c : Nat) (b : Bool) (d : List Int) (op own oth : Int) : Prop :=
  DD w.length z c b d ∧ ∃ v : Nat, oth + (if c = k then 0 else op) + sumF (potF w z k c b d) w.length ≤ ((v : Int) + 1) * xSum k w z w.length + zSum k z w.length ∧
    (v : Int) * nth w k ≤ own + (if c = k then op else 0) + nth d k ∧ (c = k → b = true → ((v : Int) - 1) * nth w k - ((nth z k).most - 1) ≤ own)
section
variable {nx sz : Int → Int} {w : List Int} {z : List Sz} {k : Nat}
theorem DD.grant (hw : ∀ x ∈ w, 1 ≤ x) {c : Nat} {b : Bool} {d : List Int} (h : DD w.length z c b d) (h0 : 0 ≤ nx c) : DD w.length z c true (M.grant nx w c b d) := by
 obtain ⟨h1, h2, h3⟩ := h
 refine ⟨h1, by rw [grant_len]; exact h2, fun i hi => ?_⟩
 have a := h3 i hi
 by_cases e : i = c
 ·subst e
  refine ⟨?_, fun hn => absurd ⟨rfl, rfl⟩ hn⟩
  rw [grant_self (by omega)]
  have := hw _ (nth_mem hi)
  split <;> omega
 ·rw [grant_ne e]
  exact ⟨a.1, fun _ hm => a.2 (fun hh => e hh.1) hm⟩
theorem DD.pick {c : Nat} {d : List Int} (h : DD w.length z c true d) {s : Int} (hs : s ≤ nth d c) : DD w.length z c true (d.set c (nth d c - s)) := by
 obtain ⟨h1, h2, h3⟩ := h
 refine ⟨h1, by rw [List.length_set]; exact h2, fun i hi => ?_⟩
 have a := h3 i hi
 by_cases e : i = c
 ·subst e
  rw [nth_set_self (by omega)]
  exact ⟨by omega, fun hn => absurd ⟨rfl, rfl⟩ hn⟩
 ·rw [nth_set_ne (Ne.symm e)]
  exact ⟨a.1, fun _ hm => a.2 (fun hh => e hh.1) hm⟩
theorem DD.next {c : Nat} {b : Bool} {d : List Int} (h : DD w.length z c b d) (hlt : 1 ≤ (nth z c).most → nth d c ≤ (nth z c).most - 1) : DD w.length z ((c + 1) % w.length) false d := by
 obtain ⟨h1, h2, h3⟩ := h
 refine ⟨Nat.mod_lt _ (by omega), h2, fun i hi => ?_⟩
 have a := h3 i hi
 refine ⟨a.1, fun _ hm => ?_⟩
 by_cases e : i = c
 ·subst e; exact hlt hm
 ·exact a.2 (fun hh => e hh.1) hm
theorem potF_nonneg (hw : ∀ x ∈ w, 1 ≤ x) {c : Nat} {b : Bool} {d : List Int} (h : DD w.length z c b d) : ∀ i, i < w.length → 0 ≤ potF w z k c b d i := fun i hi => by
 have a := (h.2.2 i hi).1
 have := hw _ (nth_mem hi)
 unfold potF
 split
 ·split <;> omega
 ·omega
theorem JD.grant (hw : ∀ x ∈ w, 1 ≤ x) (hk : k < w.length) (hL : 1 ≤ (nth z k).most) {c : Nat} {b : Bool} {d : List Int} {own oth : Int} (h : JD w z k c b d 0 own oth) (h0 : 0 ≤ nx c) : JD w z k c true (M.grant nx w c b d) 0 own oth := by
 obtain ⟨hd, v, a1, a2, a3⟩ := h
 refine ⟨hd.grant hw h0, ?_⟩
 have hcl : c < d.length := by rw [hd.2.1]; exact hd.1
 cases b with
 | true =>
  have e : M.grant nx w c true d = d := by unfold M.grant; rw [if_neg (by simp)]
  rw [e]; exact ⟨v, a1, a2, a3⟩
 | false =>
  have eg : nth (M.grant nx w c false d) c = nth d c + nth w c := by rw [grant_self hcl, if_pos ⟨h0, rfl⟩]
  by_cases hck : c = k
  ·subst hck
   rw [if_pos rfl] at a1 a2
   refine ⟨v + 1, ?_, ?_, fun _ _ => ?_⟩
   ·rw [if_pos rfl]
    have e : sumF (potF w z c c true (M.grant nx w c false d)) w.length = sumF (potF w z c c false d) w.length + xSum c w z w.length := by
     rw [xSum_eq, ← sumF_add]
     refine sumF_congr (fun i hi => ?_)
     unfold potF xF
     by_cases hh : i ≠ c ∧ 1 ≤ (nth z i).most
     ·rw [if_pos hh, if_pos hh, if_pos hh, grant_ne hh.1, pend_k, pend_k, if_pos rfl, if_neg (by simp)]; omega
     ·rw [if_neg hh, if_neg hh, if_neg hh]; omega
    rw [e]
    have e2 : (((v + 1 : Nat) : Int) + 1) * xSum c w z w.length = ((v : Int) + 1) * xSum c w z w.length + xSum c w z w.length := by rw [show (((v + 1 : Nat) : Int) + 1) = ((v : Int) + 1) + 1 by omega, Int.add_mul, Int.one_mul]
    rw [e2]; omega
   ·rw [if_pos rfl, eg]
    have e2 : (((v + 1 : Nat) : Int)) * nth w c = (v : Int) * nth w c + nth w c := by rw [show ((v + 1 : Nat) : Int) = (v : Int) + 1 by omega, Int.add_mul, Int.one_mul]
    rw [e2]; omega
   ·have hdk := (hd.2.2 c hk).2 (by simp) hL
    rw [show (((v + 1 : Nat) : Int) - 1) = (v : Int) by omega]
    omega
  ·rw [if_neg hck] at a1 a2
   refine ⟨v, ?_, ?_, fun h => absurd h hck⟩
   ·rw [if_neg hck]
    have e : sumF (potF w z k c true (M.grant nx w c false d)) w.length = sumF (potF w z k c false d) w.length := by
     refine sumF_congr (fun i hi => ?_)
     unfold potF
     by_cases hh : i ≠ k ∧ 1 ≤ (nth z i).most
     ·rw [if_pos hh, if_pos hh]
      by_cases e : i = c
      ·subst e
       rw [eg, pend_self hck, pend_self' hck, if_neg (by simp), if_pos rfl]; omega
      ·rw [grant_ne e, pend_other (b := false) hck e]
     ·rw [if_neg hh, if_neg hh]
    rw [e]; exact a1
   ·rw [if_neg hck, grant_ne (Ne.symm hck)]; exact a2
theorem JD.pick {c : Nat} {d : List Int} {own oth : Int} (h : JD w z k c true d 0 own oth) {s : Int} (hs : s ≤ nth d c) (hm : 1 ≤ (nth z c).most) : JD w z k c true (d.set c (nth d c - s)) s own oth := by
 obtain ⟨hd, v, a1, a2, a3⟩ := h
 have hcl : c < d.length := by rw [hd.2.1]; exact hd.1
 refine ⟨hd.pick hs, v, ?_, ?_, a3⟩
 ·by_cases hck : c = k
  ·subst hck
   rw [if_pos rfl] at a1 ⊢
   have e : sumF (potF w z c c true (d.set c (nth d c - s))) w.length = sumF (potF w z c c true d) w.length := by
    refine sumF_congr (fun i hi => ?_)
    unfold potF
    by_cases hh : i ≠ c ∧ 1 ≤ (nth z i).most
    ·rw [if_pos hh, if_pos hh, nth_set_ne (Ne.symm hh.1)]
    ·rw [if_neg hh, if_neg hh]
   rw [e]; exact a1
  ·rw [if_neg hck] at a1 ⊢
   have e : sumF (potF w z k c true (d.set c (nth d c - s))) w.length = sumF (potF w z k c true d) w.length + (potF w z k c true (d.set c (nth d c - s)) c - potF w z k c true d c) := by
    refine sumF_change hd.1 (fun i hi hne => ?_)
    unfold potF
    rw [nth_set_ne (Ne.symm hne)]
   have e2 : potF w z k c true (d.set c (nth d c - s)) c - potF w z k c true d c = - s := by
    unfold potF
    have hcm : c ≠ k ∧ 1 ≤ (nth z c).most := ⟨hck, hm⟩
    rw [if_pos hcm, if_pos hcm, nth_set_self hcl]; omega
   rw [e, e2]; omega
 ·by_cases hck : c = k
  ·subst hck
   rw [if_pos rfl] at a2 ⊢
   rw [nth_set_self hcl]; omega
  ·rw [if_neg hck] at a2 ⊢
   rw [nth_set_ne hck]; exact a2
theorem JD.next (hw : ∀ x ∈ w, 1 ≤ x) (hk : k < w.length) (hn : 2 ≤ w.length) {c : Nat} {d : List Int} {own oth : Int} (h : JD w z k c true d 0 own oth) (hlt : 1 ≤ (nth z c).most → nth d c ≤ (nth z c).most - 1) : JD w z k ((c + 1) % w.length) false d 0 own oth := by
 obtain ⟨hd, v, a1, a2, a3⟩ := h
 refine ⟨hd.next hlt, v, ?_, ?_, fun _ h => by cases h⟩
 ·have e : sumF (potF w z k ((c + 1) % w.length) false d) w.length = sumF (potF w z k c true d) w.length := by
   refine sumF_congr (fun i hi => ?_)
   unfold potF
   by_cases hh : i ≠ k ∧ 1 ≤ (nth z i).most
   ·rw [if_pos hh, if_pos hh, pend_next hd.1 hk hn hi hh.1]
   ·rw [if_neg hh, if_neg hh]
  rw [e]
  split <;> split at a1 <;> omega
 ·split <;> split at a2 <;> omega
/-- a class without a waiting packet loses its deficit -/
theorem JD.skip (hw : ∀ x ∈ w, 1 ≤ x) (hk : k < w.length) (hn : 2 ≤ w.length) {c : Nat} {b : Bool} {d : List Int} {own oth : Int} (h : JD w z k c b d 0 own oth) (hck : c ≠ k) : JD w z k ((c + 1) % w.length) false (d.set c 0) 0 own oth := by
 obtain ⟨hd, v, a1, a2, a3⟩ := h
 have hcl : c < d.length := by rw [hd.2.1]; exact hd.1
 have hd2 : DD w.length z c b (d.set c 0) := by
  refine ⟨hd.1, by rw [List.length_set]; exact hd.2.1, fun i hi => ?_⟩
  by_cases e : i = c
  ·subst e
   rw [nth_set_self hcl]
   exact ⟨Int.le_refl _, fun _ hm => by omega⟩
  ·rw [nth_set_ne (Ne.symm e)]; exact hd.2.2 i hi
 refine ⟨hd2.next (fun hm => by rw [nth_set_self hcl]; omega), v, ?_, ?_, fun _ h => by cases h⟩
 ·have e : sumF (potF w z k ((c + 1) % w.length) false (d.set c 0)) w.length ≤ sumF (potF w z k c b d) w.length := by
   refine sumF_le (fun i hi => ?_)
   unfold potF
   by_cases hh : i ≠ k ∧ 1 ≤ (nth z i).most
   ·rw [if_pos hh, if_pos hh, pend_next hd.1 hk hn hi hh.1]
    by_cases e : i = c
    ·subst e
     rw [nth_set_self hcl, pend_self hck, if_neg (by simp)]
     have := (hd.2.2 i hi).1
     have := hw _ (nth_mem hi)
     split <;> omega
    ·rw [nth_set_ne (Ne.symm e), pend_other (b := b) hck e]; exact Int.le_refl _
   ·rw [if_neg hh, if_neg hh]; exact Int.le_refl _
  rw [if_neg hck] at a1
  split <;> omega
 ·rw [nth_set_ne hck]
  rw [if_neg hck] at a2
  split <;> omega
/-- what the invariant says in the end -/
theorem JD.end_ (hw : ∀ x ∈ w, 1 ≤ x) (hk : k < w.length) (hL : 1 ≤ (nth z k).most) {c : Nat} {b : Bool} {d : List Int} {op own oth : Int} (h0 : 0 ≤ own) (hop : 0 ≤ op) (hb : b = false → op = 0) (h : JD w z k c b d op own oth) : oth ≤ ((own + (nth z k).most - 1) / nth w k + 1) * xSum k w z w.length + zSum k z w.length := by
 obtain ⟨hd, v, a1, a2, a3⟩ := h
 have hwk := hw _ (nth_mem hk)
 have hX : 0 ≤ xSum k w z w.length := by
  rw [xSum_eq]
  refine sumF_nonneg (fun i hi => ?_)
  have := hw _ (nth_mem hi)
  unfold xF; split <;> omega
 have hA := sumF_nonneg (potF_nonneg (k := k) hw hd)
 have key : ∀ g : Int, g * nth w k ≤ own + (nth z k).most - 1 → (g + 1) * xSum k w z w.length ≤ ((own + (nth z k).most - 1) / nth w k + 1) * xSum k w z w.length := fun g hg => by
  have : g ≤ (own + (nth z k).most - 1) / nth w k := Int.le_ediv_of_mul_le (by omega) hg
  exact Int.mul_le_mul_of_nonneg_right (by omega) hX
 by_cases hck : c = k
 ·subst hck
  cases b with
  | true =>
   have a3 := a3 rfl rfl
   have hAX : xSum c w z w.length ≤ sumF (potF w z c c true d) w.length := by
    rw [xSum_eq]
    refine sumF_le (fun i hi => ?_)
    have := (hd.2.2 i hi).1
    unfold xF potF
    by_cases hh : i ≠ c ∧ 1 ≤ (nth z i).most
    ·rw [if_pos hh, if_pos hh, pend_k, if_pos rfl]; omega
    ·rw [if_neg hh, if_neg hh]; exact Int.le_refl _
   have := key ((v : Int) - 1) (by omega)
   rw [show (v : Int) - 1 + 1 = (v : Int) by omega] at this
   rw [Int.add_mul, Int.one_mul] at a1
   rw [if_pos rfl] at a1
   omega
  | false =>
   have hdk := (hd.2.2 c hk).2 (by simp) hL
   have hop0 := hb rfl
   rw [if_pos rfl] at a1 a2
   have := key v (by omega)
   omega
 ·have hdk := (hd.2.2 k hk).2 (fun hh => hck hh.1.symm) hL
  rw [if_neg hck] at a1 a2
  have := key v (by omega)
  omega
end
def Jdef (ps : List Pkt) (w : List Int) (z : List Sz) (k : Nat) (sg : Nat × Bool × List Int) (cur rest own oth : Int) : Prop := JD w z k sg.1 sg.2.1 sg.2.2 (if 0 ≤ cur then rest else 0) own oth ∧ (0 ≤ cur → (nth ps cur.toNat).flow = sg.1 ∧ sg.2.1 = true)
section
variable {ps : List Pkt} {w : List Int} {z : List Sz} {k : Nat}
theorem nx_facts (hS : SzOf ps z) (hs : ∀ p ∈ ps, 1 ≤ p.size) (hsort : ps.Pairwise fun a b => a.time ≤ b.time) {ms : MS} (c : Nat) (h : 0 ≤ nextW ps ms c) : (nextW ps ms c).toNat < ps.length ∧ (nth ps (nextW ps ms c).toNat).flow = c ∧ 1 ≤ szOf ps (nextW ps ms c) ∧ szOf ps (nextW ps ms c) ≤ (nth z c).most := by
 obtain ⟨a, b, c', e, _⟩ := nextW_some hsort h
 have h1 : (nextW ps ms c).toNat < ps.length := by omega
 have h2 := hS _ h1
 rw [e, Int.toNat_natCast] at h2
 have h3 := hs _ (nth_mem h1)
 exact ⟨h1, e, h3, h2.2⟩
theorem def_go (hw : ∀ x ∈ w, 1 ≤ x) (hk : k < w.length) (hn : 2 ≤ w.length) (hL : 1 ≤ (nth z k).most) {nx : Int → Int} (hnx : ∀ d : Nat, 0 ≤ nx d → (nx d).toNat < ps.length ∧ (nth ps (nx d).toNat).flow = d ∧ 1 ≤ szOf ps (nx d) ∧ szOf ps (nx d) ≤ (nth z d).most) (hwait : 0 ≤ nx k) {own oth : Int} : ∀ (fuel c : Nat) (b : Bool) (d : List Int), JD w z k c b d 0 own oth → 0 ≤ (defGo nx (szOf ps) w fuel c b d).1 →
  JD w z k (defGo nx (szOf ps) w fuel c b d).2.1 (defGo nx (szOf ps) w fuel c b d).2.2.1 (defGo nx (szOf ps) w fuel c b d).2.2.2 (nth ps (defGo nx (szOf ps) w fuel c b d).1.toNat).size own oth ∧ (nth ps (defGo nx (szOf ps) w fuel c b d).1.toNat).flow = (defGo nx (szOf ps) w fuel c b d).2.1 ∧ (defGo nx (szOf ps) w fuel c b d).2.2.1 = true
 | 0, c, b, d, _, h => by simp [defGo] at h
 | fuel + 1, c, b, d, hj, h => by
  simp only [defGo] at h ⊢
  by_cases hy : 0 ≤ nx c ∧ szOf ps (nx c) ≤ nth (M.grant nx w c b d) c
  ·rw [if_pos hy]
   obtain ⟨f1, f2, f3, f4⟩ := hnx c hy.1
   have hg := hj.grant (nx := nx) hw hk hL hy.1
   exact ⟨hg.pick hy.2 (by omega), f2, rfl⟩
  ·rw [if_neg hy] at h ⊢
   by_cases h0 : nx c < 0
   ·have e1 : M.grant nx w c b d = d := by unfold M.grant; rw [if_neg (by omega)]
    have e2 : drop0 nx c d = d.set c 0 := if_pos h0
    rw [e1, e2] at h ⊢
    exact def_go hw hk hn hL hnx hwait fuel _ _ _ (hj.skip hw hk hn (fun e => by subst e; omega)) h
   ·have e2 : drop0 nx c (M.grant nx w c b d) = M.grant nx w c b d := if_neg h0
    rw [e2] at h ⊢
    obtain ⟨f1, f2, f3, f4⟩ := hnx c (by omega)
    have hlt : ¬ szOf ps (nx c) ≤ nth (M.grant nx w c b d) c := fun hh => hy ⟨by omega, hh⟩
    exact def_go hw hk hn hL hnx hwait fuel _ _ _ ((hj.grant (nx := nx) hw hk hL (by omega)).next hw hk hn (fun _ => by omega)) h
theorem def_per (hw : ∀ x ∈ w, 1 ≤ x) (hk : k < w.length) (hn : 2 ≤ w.length) (hL : 1 ≤ (nth z k).most) (hS : SzOf ps z) (hs : ∀ p ∈ ps, 1 ≤ p.size) (hsort : ps.Pairwise fun a b => a.time ≤ b.time) : Per ps (defCh ps w) (goodDf ps w.length) k (Jdef ps w z k) where
 pick := fun ms sg r own oth hg hb hex hJ h0 => by
  have hwait : 0 ≤ nextW ps ms k := by
   apply Classical.byContradiction
   intro hneg
   obtain ⟨i, g1, g2, g3, g4⟩ := hex
   have := nextW_none (ps := ps) (ms := ms) (cls := (k : Int)) (by omega) g1 g4 g3
   rw [this] at g2; cases g2
  unfold defCh at h0 ⊢
  split at h0
  ·simp at h0
  ·rename_i hf
   rw [if_neg hf]
   dsimp only at h0 ⊢
   have hj := hJ.1
   rw [if_neg (by omega)] at hj
   have := def_go hw hk hn hL (nx := nextW ps ms) (fun d hd => nx_facts hS hs hsort d hd) hwait (defF w.length) sg.1 sg.2.1 sg.2.2 hj h0
   unfold Jdef
   rw [if_pos h0]
   exact ⟨this.1, fun _ => this.2⟩
 send := fun sg cur rest own oth n hc hl h1 h2 hJ => by
  obtain ⟨hj, hfl⟩ := hJ
  obtain ⟨hfl, hb⟩ := hfl hc
  rw [if_pos hc] at hj
  have hop : (if 0 ≤ (if rest - n = 0 then (-1 : Int) else cur) then rest - n else 0) = rest - n := by
   by_cases hz : rest - n = 0
   ·rw [if_pos hz, if_neg (by omega), hz]
   ·rw [if_neg hz, if_pos hc]
  refine ⟨?_, fun hh => ⟨?_, hb⟩⟩
  ·rw [hop]
   obtain ⟨hd, v, a1, a2, a3⟩ := hj
   refine ⟨hd, v, ?_, ?_, fun e1 e2 => ?_⟩
   ·by_cases hck : sg.1 = k
    ·rw [if_pos hck] at a1 ⊢
     rw [if_pos (by omega)]; omega
    ·rw [if_neg hck] at a1 ⊢
     rw [if_neg (by omega)]; omega
   ·by_cases hck : sg.1 = k
    ·rw [if_pos hck] at a2 ⊢
     rw [if_pos (by omega)]; omega
    ·rw [if_neg hck] at a2 ⊢
     rw [if_neg (by omega)]; omega
   ·have := a3 e1 e2
    split <;> omega
  ·by_cases hz : rest - n = 0
   ·rw [if_pos hz] at hh; omega
   ·rw [if_neg hz]; exact hfl
 none := fun sg c c' r r' own oth h1 h2 hJ => by
  obtain ⟨hj, _⟩ := hJ
  rw [if_neg (by omega)] at hj
  exact ⟨by rw [if_neg (by omega)]; exact hj, fun h => by omega⟩
/-- where every run stands -/
def V0 (w : List Int) (z : List Sz) (c : Nat) (b : Bool) (d : List Int) (op : Int) : Prop := DD w.length z c b d ∧ (b = true → 1 ≤ (nth z c).most → nth d c + op ≤ (nth z c).most - 1 + nth w c)
def Vdef (ps : List Pkt) (w : List Int) (z : List Sz) (sg : Nat × Bool × List Int) (cur rest : Int) : Prop := V0 w z sg.1 sg.2.1 sg.2.2 (if 0 ≤ cur then rest else 0) ∧ (0 ≤ cur → cur < ps.length ∧ (nth ps cur.toNat).flow = sg.1 ∧ sg.2.1 = true ∧ 0 ≤ rest ∧ 1 ≤ (nth z sg.1).most)
theorem V0.grant (hw : ∀ x ∈ w, 1 ≤ x) {nx : Int → Int} {c : Nat} {b : Bool} {d : List Int} (h : V0 w z c b d 0) (h0 : 0 ≤ nx c) : V0 w z c true (M.grant nx w c b d) 0 := by
 obtain ⟨hd, h1⟩ := h
 have hcl : c < d.length := by rw [hd.2.1]; exact hd.1
 refine ⟨hd.grant hw h0, fun _ hm => ?_⟩
 rw [grant_self hcl]
 cases b with
 | true => rw [if_neg (by simp)]; exact h1 rfl hm
 | false =>
  rw [if_pos ⟨h0, rfl⟩]
  have := (hd.2.2 c hd.1).2 (by simp) hm
  omega
theorem def_vgo (hw : ∀ x ∈ w, 1 ≤ x) {nx : Int → Int} (hnx : ∀ d : Nat, 0 ≤ nx d → (nx d).toNat < ps.length ∧ (nth ps (nx d).toNat).flow = d ∧ 1 ≤ szOf ps (nx d) ∧ szOf ps (nx d) ≤ (nth z d).most) : ∀ (fuel c : Nat) (b : Bool) (d : List Int), V0 w z c b d 0 →
  V0 w z (defGo nx (szOf ps) w fuel c b d).2.1 (defGo nx (szOf ps) w fuel c b d).2.2.1 (defGo nx (szOf ps) w fuel c b d).2.2.2 (if 0 ≤ (defGo nx (szOf ps) w fuel c b d).1 then (nth ps (defGo nx (szOf ps) w fuel c b d).1.toNat).size else 0) ∧
  (0 ≤ (defGo nx (szOf ps) w fuel c b d).1 → (defGo nx (szOf ps) w fuel c b d).1 < ps.length ∧ (nth ps (defGo nx (szOf ps) w fuel c b d).1.toNat).flow = (defGo nx (szOf ps) w fuel c b d).2.1 ∧ (defGo nx (szOf ps) w fuel c b d).2.2.1 = true ∧ 0 ≤ (nth ps (defGo nx (szOf ps) w fuel c b d).1.toNat).size ∧ 1 ≤ (nth z (defGo nx (szOf ps) w fuel c b d).2.1).most)
 | 0, c, b, d, hv => ⟨by simpa [defGo] using hv, fun h => by simp [defGo] at h⟩
 | fuel + 1, c, b, d, hv => by
  by_cases hy : 0 ≤ nx c ∧ szOf ps (nx c) ≤ nth (M.grant nx w c b d) c
  ·have e0 : defGo nx (szOf ps) w (fuel + 1) c b d = (nx c, (c, true, (M.grant nx w c b d).set c (nth (M.grant nx w c b d) c - szOf ps (nx c)))) := by simp only [defGo]; rw [if_pos hy]
   rw [e0]
   obtain ⟨f1, f2, f3, f4⟩ := hnx c hy.1
   obtain ⟨g1, g2⟩ := hv.grant (nx := nx) hw hy.1
   have hcl : c < (M.grant nx w c b d).length := by rw [g1.2.1]; exact g1.1
   dsimp only
   rw [if_pos hy.1]
   refine ⟨⟨g1.pick hy.2, fun _ hm => ?_⟩, fun _ => ⟨by omega, f2, rfl, ?_, by omega⟩⟩
   ·rw [nth_set_self hcl]
    have := g2 rfl hm
    have e : szOf ps (nx c) = (nth ps (nx c).toNat).size := rfl
    omega
   ·have e : szOf ps (nx c) = (nth ps (nx c).toNat).size := rfl
    omega
  ·have e0 : defGo nx (szOf ps) w (fuel + 1) c b d = defGo nx (szOf ps) w fuel ((c + 1) % w.length) false (drop0 nx c (M.grant nx w c b d)) := by simp only [defGo]; rw [if_neg hy]
   rw [e0]
   by_cases h0 : nx c < 0
   ·have e1 : M.grant nx w c b d = d := by unfold M.grant; rw [if_neg (by omega)]
    have e2 : drop0 nx c d = d.set c 0 := if_pos h0
    rw [e1, e2]
    have hcl : c < d.length := by rw [hv.1.2.1]; exact hv.1.1
    have hd2 : DD w.length z c b (d.set c 0) := by
     refine ⟨hv.1.1, by rw [List.length_set]; exact hv.1.2.1, fun i hi => ?_⟩
     by_cases e : i = c
     ·subst e
      rw [nth_set_self hcl]
      exact ⟨Int.le_refl _, fun _ hm => by omega⟩
     ·rw [nth_set_ne (Ne.symm e)]; exact hv.1.2.2 i hi
    exact def_vgo hw hnx fuel _ _ _ ⟨hd2.next (fun hm => by rw [nth_set_self hcl]; omega), fun h => by cases h⟩
   ·have e2 : drop0 nx c (M.grant nx w c b d) = M.grant nx w c b d := if_neg h0
    rw [e2]
    obtain ⟨f1, f2, f3, f4⟩ := hnx c (by omega)
    have hlt : ¬ szOf ps (nx c) ≤ nth (M.grant nx w c b d) c := fun hh => hy ⟨by omega, hh⟩
    exact def_vgo hw hnx fuel _ _ _ ⟨(hv.grant (nx := nx) hw (by omega)).1.next (fun _ => by omega), fun h => by cases h⟩
theorem def_vis (hw : ∀ x ∈ w, 1 ≤ x) (hS : SzOf ps z) (hs : ∀ p ∈ ps, 1 ≤ p.size) (hsort : ps.Pairwise fun a b => a.time ≤ b.time) : Vis ps (defCh ps w) (goodDf ps w.length) (Vdef ps w z) where
 pick := fun ms sg r hg hb hV h0 => by
  have hv := hV.1
  rw [if_neg (by omega)] at hv
  unfold defCh at h0 ⊢
  split at h0
  ·simp at h0
  ·rename_i hf
   rw [if_neg hf]
   dsimp only at h0 ⊢
   exact def_vgo hw (nx := nextW ps ms) (fun d hd => nx_facts hS hs hsort d hd) (defF w.length) sg.1 sg.2.1 sg.2.2 hv
 idle := fun ms sg r r' hg hb hV h0 => by
  have hv := hV.1
  rw [if_neg (by omega)] at hv
  unfold defCh at h0 ⊢
  split
  ·exact ⟨by rw [if_neg (by simp)]; exact hv, fun h => by simp at h⟩
  ·rename_i hf
   rw [if_neg hf] at h0
   dsimp only at h0 ⊢
   have := (def_vgo hw (nx := nextW ps ms) (fun d hd => nx_facts hS hs hsort d hd) (defF w.length) sg.1 sg.2.1 sg.2.2 hv).1
   rw [if_neg (by omega)] at this
   exact ⟨by rw [if_neg (by omega)]; exact this, fun h => by omega⟩
 send := fun sg cur rest n hc hl h1 h2 hV => by
  obtain ⟨⟨hd, hb⟩, hcur⟩ := hV
  obtain ⟨a, b, c, d, e⟩ := hcur hc
  rw [if_pos hc] at hb
  have hop : (if 0 ≤ (if rest - n = 0 then (-1 : Int) else cur) then rest - n else 0) = rest - n := by
   by_cases hz : rest - n = 0
   ·rw [if_pos hz, if_neg (by omega), hz]
   ·rw [if_neg hz, if_pos hc]
  refine ⟨⟨hd, fun hbt hm => ?_⟩, fun hh => ?_⟩
  ·rw [hop]
   have := hb hbt hm
   omega
  ·by_cases hz : rest - n = 0
   ·rw [if_pos hz] at hh; omega
   ·rw [if_neg hz]; exact ⟨a, b, c, by omega, e⟩
 none := fun sg c c' r r' h1 h2 hV => by
  obtain ⟨hv, _⟩ := hV
  rw [if_neg (by omega)] at hv
  exact ⟨by rw [if_neg (by omega)]; exact hv, fun h => by omega⟩
theorem vdef_start (hw : ∀ x ∈ w, 1 ≤ x) (hk : k < w.length) (hL : 1 ≤ (nth z k).most) {sg : Nat × Bool × List Int} {cur rest : Int} (hV : Vdef ps w z sg cur rest) : Jdef ps w z k sg cur rest 0 0 := by
 obtain ⟨⟨hd, hb⟩, hcur⟩ := hV
 have hop : 0 ≤ (if 0 ≤ cur then rest else 0) := by
  split
  ·rename_i h; exact (hcur h).2.2.2.1
  ·omega
 have hop1 : (if 0 ≤ cur then rest else 0) ≠ 0 → sg.2.1 = true ∧ 1 ≤ (nth z sg.1).most := fun h => by
  by_cases hc : 0 ≤ cur
  ·exact ⟨(hcur hc).2.2.1, (hcur hc).2.2.2.2⟩
  ·rw [if_neg hc] at h; exact absurd rfl h
 have hwk := hw _ (nth_mem hk)
 refine ⟨?_, fun h => ⟨(hcur h).2.1, (hcur h).2.2.1⟩⟩
 generalize (if 0 ≤ cur then rest else 0) = op at hb hop hop1 ⊢
 refine ⟨hd, 0, ?_, ?_, fun _ _ => ?_⟩
 ·have key : ∀ i, i < w.length → potF w z k sg.1 sg.2.1 sg.2.2 i + (if i = sg.1 ∧ sg.1 ≠ k then op else 0) ≤ xF k w z i + zF k z i := fun i hi => by
   have hwi := hw _ (nth_mem hi)
   have hdi := hd.2.2 i hi
   unfold potF xF zF
   by_cases hh : i ≠ k ∧ 1 ≤ (nth z i).most
   ·rw [if_pos hh, if_pos hh, if_pos hh]
    by_cases e : i = sg.1 ∧ sg.2.1 = true
    ·obtain ⟨e1, e2⟩ := e
     have := hb e2 (by rw [← e1]; exact hh.2)
     rw [e2, ← e1, pend_self hh.1, if_neg (by simp), if_pos ⟨rfl, hh.1⟩]
     rw [← e1] at this
     omega
    ·have h1 := hdi.2 e hh.2
     have h2 : (if i = sg.1 ∧ sg.1 ≠ k then op else 0) = 0 := by
      by_cases h3 : i = sg.1 ∧ sg.1 ≠ k
      ·rw [if_pos h3]
       apply Classical.byContradiction
       intro hn
       exact e ⟨h3.1, (hop1 hn).1⟩
      ·rw [if_neg h3]
     rw [h2]
     split <;> omega
   ·rw [if_neg hh, if_neg hh, if_neg hh]
    by_cases h3 : i = sg.1 ∧ sg.1 ≠ k
    ·rw [if_pos h3]
     by_cases hn : op = 0
     ·omega
     ·exact absurd ⟨by omega, by rw [h3.1]; exact (hop1 hn).2⟩ hh
    ·rw [if_neg h3]; omega
  have h1 := sumF_le key
  rw [sumF_add, sumF_add, ← xSum_eq, ← zSum_eq] at h1
  have h2 : sumF (fun i => if i = sg.1 ∧ sg.1 ≠ k then op else 0) w.length = (if sg.1 = k then 0 else op) := by
   have h3 : ∀ n, sumF (fun _ => (0 : Int)) n = 0 := fun n => by
    induction n with
    | zero => rfl
    | succ n ih => simp only [sumF, ih]; rfl
   rw [sumF_change (f := fun _ => 0) hd.1 (fun i hi hne => if_neg (fun hh => hne hh.1)), h3]
   by_cases h4 : sg.1 = k
   ·rw [if_pos h4, if_neg (fun hh => hh.2 h4)]; rfl
   ·rw [if_neg h4, if_pos ⟨rfl, h4⟩]; omega
  rw [h2] at h1
  show (0 : Int) + (if sg.1 = k then 0 else op) + _ ≤ (((0 : Nat) : Int) + 1) * _ + _
  simp; omega
 ·have hdk := (hd.2.2 k hk).1
  simp
  split <;> omega
 ·simp; omega
/-- while a class is backlogged, the others are sent at most what is said -/
theorem def_said (hw : ∀ x ∈ w, 1 ≤ x ∧ x ≤ 6000) (hk : k < w.length) (hn : 2 ≤ w.length) (hS : SzOf ps z) (hsort : ps.Pairwise fun a b => a.time ≤ b.time) (hsz : ∀ p ∈ ps, 1 ≤ p.size ∧ p.size ≤ 1500) (hfl : ∀ p ∈ ps, 0 ≤ p.flow ∧ p.flow < w.length) (hL : 1 ≤ (nth z k).most) {cap : Int} (hcap : 0 ≤ cap) {m x y : Nat} (hxy : x ≤ y) (hy : y ≤ m)
  (hback : ∀ u, x < u → u ≤ y → nth (nth (mrun ps (defCh ps w) cap w.length m (def0 w.length)).sent k) u < pbytes k (u : Int) ps) :
  0 ≤ nth (nth (mrun ps (defCh ps w) cap w.length m (def0 w.length)).sent k) y - nth (nth (mrun ps (defCh ps w) cap w.length m (def0 w.length)).sent k) x ∧
  (colSum (mrun ps (defCh ps w) cap w.length m (def0 w.length)).sent y - colSum (mrun ps (defCh ps w) cap w.length m (def0 w.length)).sent x) - (nth (nth (mrun ps (defCh ps w) cap w.length m (def0 w.length)).sent k) y - nth (nth (mrun ps (defCh ps w) cap w.length m (def0 w.length)).sent k) x) ≤
   ((nth (nth (mrun ps (defCh ps w) cap w.length m (def0 w.length)).sent k) y - nth (nth (mrun ps (defCh ps w) cap w.length m (def0 w.length)).sent k) x + (nth z k).most - 1) / nth w k + 1) * xSum k w z w.length + zSum k z w.length := by
 have hs : ∀ p ∈ ps, 1 ≤ p.size := fun p hp => (hsz p hp).1
 have hw1 : ∀ x ∈ w, 1 ≤ x := fun x h => (hw x h).1
 have hn0 : 0 < w.length := by omega
 have hg := def_fair hw hsz hfl hsort
 have hb := def_busy hw hsz hfl hsort
 have hst := def_start (ps := ps) hn0 w.length
 have h0 : Vdef ps w z (def0 w.length) (-1) 0 := by
  refine ⟨⟨⟨hn0, by simp [def0], fun i hi => ?_⟩, fun h => by cases h⟩, fun h => by omega⟩
  unfold def0; dsimp only; rw [nth_replicate hi]
  exact ⟨Int.le_refl _, fun _ _ => by omega⟩
 have hv := vis_run hg (def_vis hw1 hS hs hsort) hs hfl hcap hst h0
 refine shares_at (O := fun own => ((own + (nth z k).most - 1) / nth w k + 1) * xSum k w z w.length + zSum k z w.length) hg hb hs hfl hk hcap hst (fun {x y} hxy hback hown => ?_) hxy hy hback
 have hj := per_run hg hb (def_per hw1 hk hn hL hS hs hsort) hs hfl hk hcap hst (x := x) (vdef_start hw1 hk hL (hv x)) (y - x) (fun u h1 h2 => hback u h1 (by omega))
 rw [show x + (y - x) = y by omega] at hj
 have hvy := (hv y).2
 refine hj.1.end_ hw1 hk hL (by omega) ?_ (fun hbf => ?_)
 ·split
  ·rename_i h; exact (hvy h).2.2.2.1
  ·omega
 ·by_cases hc : 0 ≤ (mrun ps (defCh ps w) cap w.length y (def0 w.length)).cur
  ·have := (hvy hc).2.2.1
   rw [this] at hbf; cases hbf
  ·rw [if_neg hc]
end
end Go.Proofs.YthpblaoehlgpfaaGreat.M

/- Weighted and deficit round robin: the curve of a class is what it is served while it is backlogged, plain. No condition. -/
namespace Go.Proofs.YthpblaoehlgpfaaGreat.M
open Go Go.Proofs.YthpblaoehlgpfaaGreat.K

/-- what a law over a scheduler wants of a class's curve: its form, and that it is less than what is sent where the others take at most O -/
def CurveFor (x : Cv × Int) (cap : Int) (O : Int → Int) (G : Nat → Int) (s p : Nat) (q : Int) : Prop :=
  x = (⟨fvals G (s + p), p, q⟩, 0) ∧ FC G s p q ∧ G 0 = 0 ∧ ∀ (t : Nat) (own : Int), 0 ≤ own → cap * (t : Int) ≤ own + O own → G t ≤ own
theorem leastY_le {H : Nat → Bool} {b y : Nat} (hb : H b = true) (hy : H y = true) : leastY H b ≤ y := by
 obtain ⟨_, _, h3⟩ := leastY_is hb
 apply Classical.byContradiction
 intro hn
 rw [h3 y (by omega)] at hy; cases hy
theorem rob_for {cap k : Int} {w : List Int} {z : List Sz} (h : (robinC cap k w z).2 = 0) : chkW 20 cap k w z = 0 ∧ 1 ≤ (nth z k.toNat).least ∧ ∃ (G : Nat → Int) (s p : Nat) (q : Int), CurveFor (robinC cap k w z) cap (fun own => qSum k w z w.length * (own / (nth w k.toNat * (nth z k.toNat).least) + 1)) G s p q := by
 by_cases h0 : chkW 20 cap k w z = 0
 ·by_cases h1 : (nth z k.toNat).least < 1
  ·have : robinC cap k w z = (zcv, 5) := by unfold robinC; rw [if_neg (fun h => h h0), if_pos h1]
   rw [this] at h; cases h
  ·refine ⟨h0, by omega, ?_⟩
   obtain ⟨cn, kn, m, r, rfl, rfl, c1, k1, zl, hwl, hw, hz, hr, r1, hm, m1, hcase⟩ := rob_cases h0 h1
   rcases hcase with ⟨_, hd⟩ | ⟨s, p, mm, hro, hd⟩
   ·rw [hd] at h; cases h
   ·obtain ⟨hg, hi, hb, _⟩ := hro.facts
    have hp := hro.p1
    have hs1 := hro.s1
    rcases build_fc (by omega) hi.1 hg (fun t => robinF_mono (by omega) (by omega) hs1.1 t) (hb 0 (by omega)).1 (fun t ht => by have := hb t (by omega); unfold INF; omega) with e | ⟨s', p', q', e, hfc⟩
    ·rw [hd, e] at h; cases h
    ·have hq := qSum_bound (k := (kn : Int)) hw hz w.length (Nat.le_refl _) (by omega)
     have hms : m ≤ s := by
      rcases shortN_cases m cn with e1 | ⟨s2, e1, e2, _, _⟩
      ·rw [hro.hs] at e1; omega
      ·rw [hro.hs] at e1; omega
     refine ⟨robinF cn s r, s', p', q', by rw [hd, e], hfc, ?_, fun t own h0 h2 => ?_⟩
     ·have := robinF_bound (cap := (cn : Int)) (s := (s : Int)) (r := r) (by omega) (by omega) hs1.1 0
      simp at this; omega
     ·dsimp only at h2
      rw [Int.toNat_natCast, ← hr] at h2
      obtain ⟨y, rfl⟩ := Int.eq_ofNat_of_zero_le h0
      have hd0 : 0 ≤ (y : Int) / r := Int.ediv_nonneg (by omega) (by omega)
      have hle : qSum kn w z w.length * ((y : Int) / r + 1) ≤ ((s : Int) - r) * ((y : Int) / r + 1) := Int.mul_le_mul_of_nonneg_right (by omega) (by omega)
      have hy : robinH cn s r t y = true := by unfold robinH; exact decide_eq_true (by omega)
      have := leastY_le (robinH_bound (show 0 < r by omega) hs1.1 t (show (0 : Int) ≤ cn by omega)) hy
      show ((leastY (robinH cn s r t) ((cn : Int) * t).toNat : Nat) : Int) ≤ (y : Int)
      omega
 ·have : robinC cap k w z = (zcv, chkW 20 cap k w z) := if_pos h0
  rw [this] at h
  exact absurd h h0
theorem def_for {cap k : Int} {w : List Int} {z : List Sz} (h : (defC cap k w z).2 = 0) : chkW 6000 cap k w z = 0 ∧ 1 ≤ (nth z k.toNat).most ∧ ∃ (G : Nat → Int) (s p : Nat) (q : Int), CurveFor (defC cap k w z) cap (fun own => ((own + (nth z k.toNat).most - 1) / nth w k.toNat + 1) * xSum k w z w.length + zSum k z w.length) G s p q := by
 by_cases h0 : chkW 6000 cap k w z = 0
 ·by_cases h1 : (nth z k.toNat).most < 1
  ·have : defC cap k w z = (zcv, 5) := by unfold defC; rw [if_neg (fun h => h h0), if_pos h1]
   rw [this] at h; cases h
  ·refine ⟨h0, by omega, ?_⟩
   obtain ⟨cn, kn, m, q, l, x, y, rfl, rfl, c1, k1, zl, hwl, hw, hz, hq, hl, q1, l1, hx, hy, x1, y1, hm, m1, hcase⟩ := def_cases h0 h1
   rcases hcase with ⟨_, hd⟩ | ⟨s, p, mm, hro, hd⟩
   ·rw [hd] at h; cases h
   ·have hs1 := hro.s1
    have hsx := hro.sx
    have hp := hro.p1
    by_cases hfr : 400 < fromD (cn : Int) (s : Int) q l y
    ·rw [hd, if_pos hfr] at h; cases h
    ·rw [if_neg hfr] at hd
     obtain ⟨b1, b2, b3⟩ := start_bound (cap := (cn : Int)) (s := (s : Int)) (q := q) (l := l) (z := y) (by omega) (by omega) hs1.1 l1.1 y1.1
     have hbm := def_build (cap := (cn : Int)) (s := (s : Int)) (q := q) (l := l) (z := y) (p := p) (m := mm) (by omega) (by omega) hs1.1 l1.1 y1.1 (by omega) hro.hmm (by omega)
     rw [if_neg hfr, ← hro.hinc] at hbm
     rw [← hbm] at hd
     have hi : 0 ≤ (cn : Int) * p / s * q := by rw [hro.hinc]; exact Int.mul_nonneg (by omega) (by omega)
     have hb : ∀ t : Nat, t ≤ 1000 → 0 ≤ defFn cn s q l y t ∧ defFn cn s q l y t < INF := fun t ht => by
      have h1 := defFn_bound (cap := (cn : Int)) (s := (s : Int)) (q := q) (l := l) (z := y) (by omega) (by omega) hs1.1 l1.1 y1.1 t
      have h2 := mulB (a := (cn : Int)) (b := (t : Int)) (A := 4000) (B := 1000) (by omega) (by omega)
      unfold INF; omega
     have hg := defFn_grows (cap := (cn : Int)) (s := (s : Int)) (q := q) (l := l) (z := y) (S := (startD (cn : Int) (s : Int) q l y).toNat) (by omega) (by omega) hs1.1 l1.1 y1.1 hro.hmm (by omega)
     rw [← hro.hinc] at hg
     rcases build_fc (by omega) hi hg (fun t => defFn_mono (by omega) (by omega) hs1.1 l1.1 y1.1 t) (hb 0 (by omega)).1 (fun t ht => (hb t (by omega)).2) with e | ⟨s', p', q', e, hfc⟩
     ·rw [hd, e] at h; cases h
     ·refine ⟨defFn cn s q l y, s', p', q', by rw [hd, e], hfc, defFn_zero (by omega) (by omega) hs1.1 l1.1 y1.1 (by omega), fun t own h0 h2 => ?_⟩
      dsimp only at h2
      rw [Int.toNat_natCast, ← hl, ← hq, ← hx, ← hy] at h2
      obtain ⟨v, rfl⟩ := Int.eq_ofNat_of_zero_le h0
      have hd0 : 0 ≤ ((v : Int) + l - 1) / q := Int.ediv_nonneg (by omega) (by omega)
      have hle : (((v : Int) + l - 1) / q + 1) * x ≤ (((v : Int) + l - 1) / q + 1) * ((s : Int) - q) := Int.mul_le_mul_of_nonneg_left (by omega) (by omega)
      have hv : defH cn s q l y t v = true := by
       unfold defH allD
       rw [Int.mul_comm ((s : Int) - q)]
       exact decide_eq_true (by omega)
      have := leastY_le (defH_bound (show 0 < q by omega) hs1.1 l1.1 y1.1 t (show (0 : Int) ≤ cn by omega)) hv
      show ((leastY (defH cn s q l y t) ((cn : Int) * t).toNat : Nat) : Int) ≤ (v : Int)
      omega
 ·have : defC cap k w z = (zcv, chkW 6000 cap k w z) := if_pos h0
  rw [this] at h
  exact absurd h h0
section
variable {σ : Type} {ps : List Pkt} {ch : MS → σ → Int × Nat × σ} {good : MS → σ → Prop} {classes k : Nat}
/-- service while a class is backlogged gives service from its arrivals, and its waits -/
theorem serve_from (hg : Fair ps ch good (sameFlow ps)) (hs : ∀ p ∈ ps, 1 ≤ p.size) (hfl : ∀ p ∈ ps, 0 ≤ p.flow ∧ p.flow < classes) (hsort : ps.Pairwise fun a b => a.time ≤ b.time) (h0 : ∀ p ∈ ps, 0 ≤ p.time) (hk : k < classes) {cap : Int} (hcap : 0 ≤ cap) {sg : σ} (hst : good (start ps classes sg).ms sg) {m : Nat} {G : Nat → Int} {s p : Nat} {q : Int} (hfc : FC G s p q) (hG0 : G 0 = 0)
    (hbusy : ∀ a b : Nat, a < b → b ≤ m → (∀ u : Nat, a < u → u ≤ b → nth (nth (mrun ps ch cap classes m sg).sent k) u < pbytes k (u : Int) ps) → G (b - a) ≤ nth (nth (mrun ps ch cap classes m sg).sent k) b - nth (nth (mrun ps ch cap classes m sg).sent k) a) :
    (∀ t : Nat, t ≤ m → ∃ a : Nat, a ≤ t ∧ pbytes k (a : Int) ps + G (t - a) ≤ nth (nth (mrun ps ch cap classes m sg).sent k) t) ∧
    (∀ (F : Nat → Int) (d n T : Nat), (∀ x t : Nat, x ≤ t → pbytes k (t : Int) ps - pbytes k (x : Int) ps ≤ F (t - x)) → (∀ u, F u ≤ G (u + d)) → n < ps.length → (nth ps n).flow = k → (nth ps n).time = T → T + d < m → 0 ≤ nth (mrun ps ch cap classes m sg).done n ∧ nth (mrun ps ch cap classes m sg).done n ≤ (T : Int) + d) := by
  have hsz : ∀ p ∈ ps, 0 ≤ p.size := fun p hp => by have := hs p hp; omega
  have hserv := serves_of (a := fun u => pbytes k (u : Int) ps) (v := fun u => nth (nth (mrun ps ch cap classes m sg).sent k) u) (f := G) (m := m)
    (by have := pbytes_zero (flow := (k : Int)) ps h0
        have h1 := (class_le hg hs hfl hk hcap hst (Nat.zero_le m) h0).2
        show pbytes k ((0 : Nat) : Int) ps ≤ _
        rw [show ((0 : Nat) : Int) = 0 from rfl, this]; exact h1)
    (fun u hu => (class_le hg hs hfl hk hcap hst hu h0).1) (by omega) hbusy
  refine ⟨hserv, fun F d n T hF hd hn hf hT hTm => ?_⟩
  have h1 := wait_bound (a := fun u => pbytes k (u : Int) ps) (v := fun u => nth (nth (mrun ps ch cap classes m sg).sent k) u) (F := F) (G := G) (m := m) (T := T) (d := d) hF (fun x t hxt => pbytes_mono (by omega) ps hsz) hfc.nonneg hserv hd (by omega)
  apply Classical.byContradiction
  intro hn2
  have h2 := late_less hg hs hfl hsort hk hcap hst (m := m) (n := n) (T := T) (t := T + d) hn hf hT hTm (by omega)
  have h3 : pbytes k ((T : Int) + 1) ps ≤ nth (nth (mrun ps ch cap classes m sg).sent k) (T + d + 1) := h1
  omega
/-- all that a law says of a class: service while it is backlogged, from its arrivals, and its waits -/
theorem serve_all (hg : Fair ps ch good (sameFlow ps)) (hb : Busy ps ch good) (hs : ∀ p ∈ ps, 1 ≤ p.size) (hfl : ∀ p ∈ ps, 0 ≤ p.flow ∧ p.flow < classes) (hsort : ps.Pairwise fun a b => a.time ≤ b.time) (h0 : ∀ p ∈ ps, 0 ≤ p.time) (hk : k < classes) {cap : Int} (hcap : 0 ≤ cap) {sg : σ} (hst : good (start ps classes sg).ms sg) {m : Nat} {O : Int → Int} {x : Cv × Int} {G : Nat → Int} {s p : Nat} {q : Int} (hC : CurveFor x cap O G s p q)
  (hO : ∀ {x y : Nat}, x ≤ y → y ≤ m → (∀ u, x < u → u ≤ y → nth (nth (mrun ps ch cap classes m sg).sent k) u < pbytes k (u : Int) ps) →
   0 ≤ nth (nth (mrun ps ch cap classes m sg).sent k) y - nth (nth (mrun ps ch cap classes m sg).sent k) x ∧ (colSum (mrun ps ch cap classes m sg).sent y - colSum (mrun ps ch cap classes m sg).sent x) - (nth (nth (mrun ps ch cap classes m sg).sent k) y - nth (nth (mrun ps ch cap classes m sg).sent k) x) ≤ O (nth (nth (mrun ps ch cap classes m sg).sent k) y - nth (nth (mrun ps ch cap classes m sg).sent k) x)) :
  (∀ a b : Nat, a < b → b ≤ m → (∀ u : Nat, a < u → u ≤ b → nth (nth (mrun ps ch cap classes m sg).sent k) u < pbytes k (u : Int) ps) → G (b - a) ≤ nth (nth (mrun ps ch cap classes m sg).sent k) b - nth (nth (mrun ps ch cap classes m sg).sent k) a) ∧
  (∀ t : Nat, t ≤ m → ∃ a : Nat, a ≤ t ∧ pbytes k (a : Int) ps + G (t - a) ≤ nth (nth (mrun ps ch cap classes m sg).sent k) t) ∧
  (∀ (F : Nat → Int) (d n T : Nat), (∀ x t : Nat, x ≤ t → pbytes k (t : Int) ps - pbytes k (x : Int) ps ≤ F (t - x)) → (∀ u, F u ≤ G (u + d)) → n < ps.length → (nth ps n).flow = k → (nth ps n).time = T → T + d < m → 0 ≤ nth (mrun ps ch cap classes m sg).done n ∧ nth (mrun ps ch cap classes m sg).done n ≤ (T : Int) + d) := by
 obtain ⟨_, hfc, hG0, hle⟩ := hC
 have hbusy : ∀ a b : Nat, a < b → b ≤ m → (∀ u : Nat, a < u → u ≤ b → nth (nth (mrun ps ch cap classes m sg).sent k) u < pbytes k (u : Int) ps) → G (b - a) ≤ nth (nth (mrun ps ch cap classes m sg).sent k) b - nth (nth (mrun ps ch cap classes m sg).sent k) a := fun a b h1 h2 h3 => by
  obtain ⟨o1, o2⟩ := hO (by omega) h2 h3
  have h4 := busy_all hg hb hs hfl hk hcap hst (by omega : a ≤ b) h2 h3
  exact hle (b - a) _ o1 (by omega)
 exact ⟨hbusy, serve_from hg hs hfl hsort h0 hk hcap hst hfc hG0 hbusy⟩
end
end Go.Proofs.YthpblaoehlgpfaaGreat.M

/- Time slots, plain: what every run of such a line keeps. No condition. -/
namespace Go.Proofs.YthpblaoehlgpfaaGreat.M
open Go Go.Proofs.YthpblaoehlgpfaaGreat.K

/-- the rest of a packet has room in the ticks in a row from t on -/
def Fits (tb : List Int) (cap : Int) (t : Nat) (left rest : Int) : Prop := (∀ i, slotT tb i = slotT tb t) ∨ ∃ n : Nat, (∀ j, j ≤ n → slotT tb (t + j) = slotT tb t) ∧ rest ≤ left + cap * n
theorem Fits.next {tb : List Int} {cap : Int} {t : Nat} {rest : Int} (h : Fits tb cap t 0 rest) (hr : 1 ≤ rest) : slotT tb (t + 1) = slotT tb t ∧ Fits tb cap (t + 1) cap rest := by
 rcases h with h | ⟨n, h1, h2⟩
 ·exact ⟨h _, .inl (fun i => by rw [h i, h (t + 1)])⟩
 ·cases n with
  | zero => simp at h2; omega
  | succ n =>
   have e := h1 1 (by omega)
   refine ⟨e, .inr ⟨n, fun j hj => ?_, ?_⟩⟩
   ·rw [show t + 1 + j = t + (j + 1) by omega, h1 (j + 1) (by omega), e]
   ·rw [Int.natCast_add, Int.mul_add] at h2
    simp at h2; omega
structure SlotPost (ps : List Pkt) (cap : Int) (tb : List Int) (classes t : Nat) (s s' : RS Unit) : Prop where
  open_ : 0 ≤ s'.cur → (nth ps s'.cur.toNat).flow = slotT tb t ∧ Fits tb cap t s'.ms.left s'.rest
  left0 : 0 ≤ s'.cur → s'.ms.left = 0
  other : ∀ c : Nat, (c : Int) ≠ slotT tb t → c < classes → nth (nth s'.sent c) (t + 1) = nth (nth s.sent c) (t + 1)
  mine : ∀ c : Nat, (c : Int) = slotT tb t → c < classes → nth (nth s'.sent c) (t + 1) + s'.ms.left = nth (nth s.sent c) (t + 1) + s.ms.left
  done : ∀ i, i < ps.length → nth s'.done i = nth s.done i ∨ (nth s'.done i = t ∧ (nth ps i).flow = slotT tb t)
  beg : ∀ i, (nth ps i).flow ≠ slotT tb t → nth s'.ms.begun i = nth s.ms.begun i
  lft : 0 ≤ s'.ms.left ∧ s'.ms.left ≤ s.ms.left
  idle : 0 < s'.ms.left → s'.cur < 0 ∧ (slotT tb t < 0 ∨ nextW ps s'.ms (slotT tb t) < 0 ∨ ∃ n : Nat, aheadN tb (slotT tb t) t = n + 1 ∧ (nth ps (nextW ps s'.ms (slotT tb t)).toNat).size > s'.ms.left + cap * n)
section
variable {ps : List Pkt} {cap : Int} {tb : List Int} {classes : Nat}
theorem slot_inner (hn : 0 < tb.length) (hsort : ps.Pairwise fun a b => a.time ≤ b.time) (hs : ∀ p ∈ ps, 1 ≤ p.size) (hfl : ∀ p ∈ ps, 0 ≤ p.flow ∧ p.flow < classes) {t : Nat} : ∀ (j : Nat) (s : RS Unit), Wk ps classes (fun ms _ => goodB ps ms) (sameFlow ps) (t + 1) s → s.ms.now = t → 0 ≤ s.ms.left → s.ms.left ≤ j →
  (0 ≤ s.cur → (nth ps s.cur.toNat).flow = slotT tb t ∧ Fits tb cap t s.ms.left s.rest) → SlotPost ps cap tb classes t s (inner ps (slotCh ps cap tb) t j s)
 | 0, s, hw, hnow, h0, hj, ho => ⟨ho, fun _ => by show s.ms.left = 0; omega, fun _ _ _ => rfl, fun _ _ _ => rfl, fun _ _ => .inl rfl, fun _ _ => rfl, ⟨h0, Int.le_refl _⟩, fun h => absurd (show 0 < s.ms.left from h) (by omega)⟩
 | j + 1, s, hw, hnow, h0, hj, ho => by
  have hg := slot_fair (ps := ps) (cap := cap) (tb := tb) hsort
  simp only [M.inner]
  by_cases hl0 : s.ms.left ≤ 0
  ·rw [if_pos hl0]
   exact ⟨ho, fun _ => by omega, fun _ _ _ => rfl, fun _ _ _ => rfl, fun _ _ => .inl rfl, fun _ _ => rfl, ⟨h0, Int.le_refl _⟩, fun h => by omega⟩
  ·rw [if_neg hl0]
   have hw1 := hw.pickup hg hs
   obtain ⟨e1, e2, e3, e4⟩ := pickup_same ps (slotCh ps cap tb) s
   have hT : s.ms.now.toNat = t := by omega
   -- what is open now
   have ho1 : 0 ≤ (M.pickup ps (slotCh ps cap tb) s).cur → (nth ps (M.pickup ps (slotCh ps cap tb) s).cur.toNat).flow = slotT tb t ∧ Fits tb cap t (M.pickup ps (slotCh ps cap tb) s).ms.left (M.pickup ps (slotCh ps cap tb) s).rest := by
    intro hc
    rw [e1]
    unfold M.pickup at hc ⊢
    by_cases hcur : 0 ≤ s.cur
    ·rw [if_pos hcur]; exact ho hcur
    ·rw [if_neg hcur] at hc ⊢
     by_cases hr : (slotCh ps cap tb s.ms s.sg).1 < 0
     ·simp only [hr, if_true] at hc; omega
     ·simp only [hr, if_false] at hc ⊢
      obtain ⟨p1, p2, p3, p4⟩ := slot_pick (ps := ps) (cap := cap) (tb := tb) (ms := s.ms) (by have : s.sg = () := rfl; omega)
      rw [hT] at p1 p2 p3 p4
      have p3 : slotCh ps cap tb s.ms s.sg = _ := p3
      rw [p3]
      obtain ⟨q1, q2, q3, q4, _⟩ := nextW_some hsort p2
      refine ⟨q4, ?_⟩
      rcases ahead_after hn p1 with ⟨a1, _, a3⟩ | ⟨n, a1, _, _, _, a6⟩
      ·exact .inl a3
      ·refine .inr ⟨n, a6, ?_⟩
       apply Classical.byContradiction
       intro hgt
       apply p4
       rw [a1, show (n : Int) + 1 - 1 = (n : Int) by omega, Int.mul_comm]
       exact ⟨by omega, by dsimp only at hgt; omega⟩
   by_cases hcn : (M.pickup ps (slotCh ps cap tb) s).cur < 0
   ·rw [if_pos hcn]
    have hcur : ¬ 0 ≤ s.cur := fun h => by
     unfold M.pickup at hcn
     rw [if_pos h] at hcn; omega
    have hch : (slotCh ps cap tb s.ms s.sg).1 < 0 := by
     unfold M.pickup at hcn
     rw [if_neg hcur] at hcn
     by_cases hr : (slotCh ps cap tb s.ms s.sg).1 < 0
     ·exact hr
     ·simp only [hr, if_false] at hcn
    have hms : (M.pickup ps (slotCh ps cap tb) s).ms.begun = s.ms.begun := by
     unfold M.pickup
     rw [if_neg hcur]; simp only [hch, if_true]
    refine ⟨fun h => by omega, fun h => by omega, fun _ _ _ => by rw [e3], fun _ _ _ => by rw [e3, e1], fun _ _ => by rw [e4]; exact .inl rfl, fun _ _ => by rw [hms], ⟨by rw [e1]; exact h0, by rw [e1]; exact Int.le_refl _⟩, fun _ => ⟨hcn, ?_⟩⟩
    have hnx : nextW ps (M.pickup ps (slotCh ps cap tb) s).ms (slotT tb t) = nextW ps s.ms (slotT tb t) := by
     unfold nextW nextP
     rw [hms, e2]
    rw [hnx, e1]
    unfold slotCh at hch
    rw [hT] at hch
    by_cases c1 : slotT tb t < 0
    ·exact .inl c1
    ·rw [if_neg c1] at hch
     by_cases c2 : nextW ps s.ms (slotT tb t) < 0
     ·exact .inr (.inl c2)
     ·rw [if_neg c2] at hch
      split at hch
      ·rename_i c3
       rcases ahead_after hn (t := t) (by omega) with ⟨a1, _, _⟩ | ⟨n, a1, _⟩
       ·exact absurd a1 c3.1
       ·refine .inr (.inr ⟨n, a1, ?_⟩)
        have := c3.2
        rw [a1, show (n : Int) + 1 - 1 = (n : Int) by omega, Int.mul_comm] at this
        exact this
      ·dsimp only at hch; omega
   ·rw [if_neg hcn]
    obtain ⟨c1, c2, c3⟩ := hw1.cur (by omega)
    obtain ⟨f1, f2⟩ := ho1 (by omega)
    obtain ⟨g1, g2, g3, g4, g5, g6⟩ := hw1.send hfl hg.free (by rw [e2]; exact hnow) (by omega) (by rw [e1]; omega)
    have hfp := hfl _ (nth_mem (xs := ps) (k := (M.pickup ps (slotCh ps cap tb) s).cur.toNat) (by omega))
    -- the packet that is sent
    have hsend : (∀ c : Nat, (c : Int) ≠ slotT tb t → c < classes → nth (nth (M.send ps t (M.pickup ps (slotCh ps cap tb) s)).sent c) (t + 1) = nth (nth s.sent c) (t + 1)) ∧
      (∀ c : Nat, (c : Int) = slotT tb t → c < classes → nth (nth (M.send ps t (M.pickup ps (slotCh ps cap tb) s)).sent c) (t + 1) + (M.send ps t (M.pickup ps (slotCh ps cap tb) s)).ms.left = nth (nth s.sent c) (t + 1) + s.ms.left) ∧
      (∀ i, i < ps.length → nth (M.send ps t (M.pickup ps (slotCh ps cap tb) s)).done i = nth s.done i ∨ (nth (M.send ps t (M.pickup ps (slotCh ps cap tb) s)).done i = t ∧ (nth ps i).flow = slotT tb t)) ∧
      (0 ≤ (M.send ps t (M.pickup ps (slotCh ps cap tb) s)).cur → (nth ps (M.send ps t (M.pickup ps (slotCh ps cap tb) s)).cur.toNat).flow = slotT tb t ∧ Fits tb cap t (M.send ps t (M.pickup ps (slotCh ps cap tb) s)).ms.left (M.send ps t (M.pickup ps (slotCh ps cap tb) s)).rest) := by
     have hlen : ∀ c, c < classes → t + 1 < (nth s.sent c).length := fun c hc => by
      have := hw.rlen _ (nth_mem (xs := s.sent) (k := c) (by rw [hw.slen]; exact hc)); omega
     have hsl := hw.slen
     have hdl := hw.dlen
     unfold M.send
     rw [e3, e4, e1]
     generalize (M.pickup ps (slotCh ps cap tb) s).cur = cur at *
     generalize (M.pickup ps (slotCh ps cap tb) s).rest = rest at *
     dsimp only
     generalize (if s.ms.left < rest then s.ms.left else rest) = m
     refine ⟨fun c hne hc => ?_, fun c he hc => ?_, fun i hi => ?_, fun hh => ?_⟩
     ·rw [nth_set_ne (by omega)]
     ·have e : (nth ps cur.toNat).flow.toNat = c := by omega
      rw [e, nth_set_self (by omega), nth_set_self (hlen c hc)]; omega
     ·by_cases hz : rest - m = 0
      ·rw [if_pos hz]
       by_cases e : cur.toNat = i
       ·subst e
        rw [nth_set_self (by omega)]
        exact .inr ⟨rfl, f1⟩
       ·rw [nth_set_ne e]; exact .inl rfl
      ·rw [if_neg hz]; exact .inl rfl
     ·by_cases hz : rest - m = 0
      ·rw [if_pos hz] at hh; omega
      ·rw [if_neg hz]
       refine ⟨f1, ?_⟩
       rw [e1] at f2
       rcases f2 with f2 | ⟨n, f2, f3⟩
       ·exact .inl f2
       ·exact .inr ⟨n, f2, by omega⟩
    obtain ⟨s1, s2, s3, s4⟩ := hsend
    have ih := slot_inner hn hsort hs hfl j _ g1 (by rw [g5, e2]; exact hnow) g3 (by rw [e1] at g4; omega) s4
    refine ⟨ih.open_, ih.left0, fun c h1 h2 => by rw [ih.other c h1 h2, s1 c h1 h2], fun c h1 h2 => by rw [ih.mine c h1 h2, s2 c h1 h2], fun i hi => ?_, fun i hi => ?_, ⟨ih.lft.1, by have := ih.lft.2; rw [e1] at g4; omega⟩, ih.idle⟩
    rcases ih.done i hi with h | h
    ·rw [h]; exact s3 i hi
    ·exact .inr h
    ·rw [ih.beg i hi]
     have eb : (M.send ps t (M.pickup ps (slotCh ps cap tb) s)).ms.begun = (M.pickup ps (slotCh ps cap tb) s).ms.begun := rfl
     rw [eb]
     unfold M.pickup at hcn f1 ⊢
     by_cases hcur : 0 ≤ s.cur
     ·rw [if_pos hcur]
     ·rw [if_neg hcur] at hcn f1 ⊢
      by_cases hr : (slotCh ps cap tb s.ms s.sg).1 < 0
      ·simp only [hr, if_true] at hcn; exact absurd trivial hcn
      ·simp only [hr, if_false] at f1 ⊢
       rw [nth_set_ne (fun e => hi (by rw [← e]; exact f1))]
/-- a tick of a run -/
theorem slot_run (hn : 0 < tb.length) (hsort : ps.Pairwise fun a b => a.time ≤ b.time) (hs : ∀ p ∈ ps, 1 ≤ p.size) (hfl : ∀ p ∈ ps, 0 ≤ p.flow ∧ p.flow < classes) (hcap : 0 ≤ cap) : ∀ t : Nat,
  (0 ≤ (mrun ps (slotCh ps cap tb) cap classes t ()).cur → (nth ps (mrun ps (slotCh ps cap tb) cap classes t ()).cur.toNat).flow = slotT tb t ∧ Fits tb cap t cap (mrun ps (slotCh ps cap tb) cap classes t ()).rest) ∧
  SlotPost ps cap tb classes t (M.opened cap t (mrun ps (slotCh ps cap tb) cap classes t ())) (mrun ps (slotCh ps cap tb) cap classes (t + 1) ())
 | 0 => by
  have hg := slot_fair (ps := ps) (cap := cap) (tb := tb) hsort
  obtain ⟨h1, h2, _, _⟩ := work_run hg hs hfl hcap (slot_start (ps := ps) classes) 0
  obtain ⟨w1, w2⟩ := h1.opened (cap := cap) hg h2
  have h0 : 0 ≤ (mrun ps (slotCh ps cap tb) cap classes 0 ()).cur → (nth ps (mrun ps (slotCh ps cap tb) cap classes 0 ()).cur.toNat).flow = slotT tb 0 ∧ Fits tb cap 0 cap (mrun ps (slotCh ps cap tb) cap classes 0 ()).rest := fun h => absurd (show (0 : Int) ≤ -1 from h) (by omega)
  refine ⟨h0, ?_⟩
  rw [mrun_succ]
  exact slot_inner hn hsort hs hfl cap.toNat _ w1 rfl hcap (show cap ≤ _ by omega) h0
 | t + 1 => by
  obtain ⟨_, hp⟩ := slot_run hn hsort hs hfl hcap t
  have hg := slot_fair (ps := ps) (cap := cap) (tb := tb) hsort
  obtain ⟨h1, h2, _, _⟩ := work_run hg hs hfl hcap (slot_start (ps := ps) classes) (t + 1)
  obtain ⟨w1, w2⟩ := h1.opened (cap := cap) hg h2
  have h0 : 0 ≤ (mrun ps (slotCh ps cap tb) cap classes (t + 1) ()).cur → (nth ps (mrun ps (slotCh ps cap tb) cap classes (t + 1) ()).cur.toNat).flow = slotT tb (t + 1) ∧ Fits tb cap (t + 1) cap (mrun ps (slotCh ps cap tb) cap classes (t + 1) ()).rest := fun h => by
   obtain ⟨o1, o2⟩ := hp.open_ h
   rw [hp.left0 h] at o2
   obtain ⟨f1, f2⟩ := o2.next (h1.cur h).2.2
   exact ⟨by rw [f1]; exact o1, f2⟩
  refine ⟨h0, ?_⟩
  rw [mrun_succ cap classes (t + 1)]
  exact slot_inner hn hsort hs hfl cap.toNat _ w1 rfl hcap (show cap ≤ _ by omega) h0
/-- what a class is sent in a tick -/
theorem slot_tick (hn : 0 < tb.length) (hsort : ps.Pairwise fun a b => a.time ≤ b.time) (hs : ∀ p ∈ ps, 1 ≤ p.size) (hfl : ∀ p ∈ ps, 0 ≤ p.flow ∧ p.flow < classes) (hcap : 0 ≤ cap) {m t c : Nat} (ht : t < m) (hc : c < classes) :
  ((c : Int) ≠ slotT tb t → nth (nth (mrun ps (slotCh ps cap tb) cap classes m ()).sent c) (t + 1) = nth (nth (mrun ps (slotCh ps cap tb) cap classes m ()).sent c) t) ∧
  ((c : Int) = slotT tb t → nth (nth (mrun ps (slotCh ps cap tb) cap classes m ()).sent c) (t + 1) + (mrun ps (slotCh ps cap tb) cap classes (t + 1) ()).ms.left = nth (nth (mrun ps (slotCh ps cap tb) cap classes m ()).sent c) t + cap) := by
 have hg := slot_fair (ps := ps) (cap := cap) (tb := tb) hsort
 have hst := slot_start (ps := ps) classes
 have hp := (slot_run hn hsort hs hfl hcap t).2
 obtain ⟨h1, h2, _, _⟩ := work_run hg hs hfl hcap hst t
 rw [run_at hg hs hfl hcap hst (show t + 1 ≤ m by omega) hc, run_at hg hs hfl hcap hst (show t ≤ m by omega) hc]
 refine ⟨fun h => ?_, fun h => ?_⟩
 ·rw [hp.other c h hc, opened_nth h1 hc]
 ·rw [hp.mine c h hc, opened_nth h1 hc]; rfl
theorem slot_rate (hn : 0 < tb.length) (hsort : ps.Pairwise fun a b => a.time ≤ b.time) (hs : ∀ p ∈ ps, 1 ≤ p.size) (hfl : ∀ p ∈ ps, 0 ≤ p.flow ∧ p.flow < classes) (hcap : 0 ≤ cap) {m t c : Nat} (ht : t < m) (hc : c < classes) :
  nth (nth (mrun ps (slotCh ps cap tb) cap classes m ()).sent c) t ≤ nth (nth (mrun ps (slotCh ps cap tb) cap classes m ()).sent c) (t + 1) ∧ nth (nth (mrun ps (slotCh ps cap tb) cap classes m ()).sent c) (t + 1) - nth (nth (mrun ps (slotCh ps cap tb) cap classes m ()).sent c) t ≤ cap ∧
  (nth (nth (mrun ps (slotCh ps cap tb) cap classes m ()).sent c) (t + 1) > nth (nth (mrun ps (slotCh ps cap tb) cap classes m ()).sent c) t → slotT tb t = c) := by
 obtain ⟨a1, a2⟩ := slot_tick hn hsort hs hfl hcap ht hc
 have hp := (slot_run hn hsort hs hfl hcap t).2.lft
 have h3 : (M.opened cap t (mrun ps (slotCh ps cap tb) cap classes t ())).ms.left = cap := rfl
 rw [h3] at hp
 by_cases h : (c : Int) = slotT tb t
 ·have := a2 h
  exact ⟨by omega, by omega, fun _ => h.symm⟩
 ·have := a1 h
  exact ⟨by omega, by omega, fun h2 => by omega⟩
end
end Go.Proofs.YthpblaoehlgpfaaGreat.M

/- Time slots, plain: the curve of a class, and that it is what the class is served. No condition. -/
namespace Go.Proofs.YthpblaoehlgpfaaGreat.M
open Go Go.Proofs.YthpblaoehlgpfaaGreat.K

/-- of so many ticks from a tick on: what the parts that have ended count, and the part that goes on -/
def slotS (cap lost : Int) (mine : Nat → Bool) (from_ : Nat) : Nat → Int × Int
  | 0 => (0, 0)
  | d + 1 => if mine (from_ + d) = true then ((slotS cap lost mine from_ d).1, (slotS cap lost mine from_ d).2 + cap) else ((slotS cap lost mine from_ d).1 + max 0 ((slotS cap lost mine from_ d).2 - lost), 0)
def cntS (cap lost : Int) (mine : Nat → Bool) (from_ k : Nat) : Int := (slotS cap lost mine from_ k).1 + max 0 ((slotS cap lost mine from_ k).2 - lost)
/-- the least of so many -/
def minTo (f : Nat → Int) : Nat → Int
  | 0 => 4611686018427387904
  | n + 1 => min (minTo f n) (f n)
def minN (f : Nat → Int) : Nat → Int
  | 0 => f 0
  | n + 1 => min (minN f n) (f n)
def slotF (cap lost : Int) (mine : Nat → Bool) (n : Nat) (k : Nat) : Int := minN (fun a => cntS cap lost mine a k) n
theorem minTo_minN {f : Nat → Int} (h : f 0 ≤ 4611686018427387904) : ∀ {n : Nat}, 0 < n → minTo f n = minN f n
 | 0, h0 => by omega
 | 1, _ => by simp only [minTo, minN]; omega
 | n + 2, _ => by
  have ih := minTo_minN h (n := n + 1) (by omega)
  have e1 : minTo f (n + 2) = min (minTo f (n + 1)) (f (n + 1)) := rfl
  have e2 : minN f (n + 2) = min (minN f (n + 1)) (f (n + 1)) := rfl
  omega
theorem minN_le {f : Nat → Int} : ∀ {n i : Nat}, i < n → minN f n ≤ f i
 | 0, i, h => by omega
 | n + 1, i, h => by
  simp only [minN]
  by_cases e : i = n
  ·subst e; omega
  ·have := minN_le (f := f) (n := n) (i := i) (by omega); omega
theorem minN_ge {f : Nat → Int} {B : Int} (h0 : B ≤ f 0) : ∀ {n : Nat}, (∀ i, i < n → B ≤ f i) → B ≤ minN f n
 | 0, _ => h0
 | n + 1, hf => by
  have a := minN_ge h0 (n := n) (fun i hi => hf i (by omega))
  have b := hf n (by omega)
  simp only [minN]; omega
theorem minN_add {f g : Nat → Int} {W : Int} : ∀ {n : Nat}, 0 < n → (∀ i, i < n → g i = f i + W) → minN g n = minN f n + W
 | 0, h, _ => by omega
 | 1, _, h => by
  have a := h 0 (by omega)
  simp only [minN]; omega
 | n + 2, _, h => by
  have ih := minN_add (f := f) (g := g) (n := n + 1) (by omega) (fun i hi => h i (by omega))
  have a := h (n + 1) (by omega)
  have e1 : minN g (n + 2) = min (minN g (n + 1)) (g (n + 1)) := rfl
  have e2 : minN f (n + 2) = min (minN f (n + 1)) (f (n + 1)) := rfl
  omega
section
variable {cap lost : Int} {mine : Nat → Bool} {a : Nat}
theorem slotS_nonneg (hc : 0 ≤ cap) : ∀ d : Nat, 0 ≤ (slotS cap lost mine a d).1 ∧ 0 ≤ (slotS cap lost mine a d).2 ∧ (slotS cap lost mine a d).1 + (slotS cap lost mine a d).2 ≤ cap * d + max 0 (-lost) * d
 | 0 => by simp [slotS]
 | d + 1 => by
  obtain ⟨h1, h2, h3⟩ := slotS_nonneg hc d
  have e1 : cap * ((d + 1 : Nat) : Int) = cap * (d : Int) + cap := by rw [Int.natCast_add, Int.mul_add]; simp
  have e2 : max 0 (-lost) * ((d + 1 : Nat) : Int) = max 0 (-lost) * (d : Int) + max 0 (-lost) := by rw [Int.natCast_add, Int.mul_add]; simp
  rw [e1, e2]
  simp only [slotS]
  split
  ·dsimp only; omega
  ·dsimp only; omega
theorem cntS_bound (hc : 0 ≤ cap) (hl : 0 ≤ lost) (k : Nat) : 0 ≤ cntS cap lost mine a k ∧ cntS cap lost mine a k ≤ cap * k := by
 obtain ⟨h1, h2, h3⟩ := slotS_nonneg (lost := lost) (mine := mine) (a := a) hc k
 have e : max 0 (-lost) = 0 := by omega
 rw [e, Int.zero_mul] at h3
 unfold cntS
 omega
theorem cntS_mono (hc : 0 ≤ cap) (k : Nat) : cntS cap lost mine a k ≤ cntS cap lost mine a (k + 1) := by
 unfold cntS
 simp only [slotS]
 split
 ·dsimp only; omega
 ·dsimp only; omega
theorem slotS_congr {mine' : Nat → Bool} {b : Nat} : ∀ {d : Nat}, (∀ i, i < d → mine (a + i) = mine' (b + i)) → slotS cap lost mine a d = slotS cap lost mine' b d
 | 0, _ => rfl
 | d + 1, h => by
  have ih := slotS_congr (mine' := mine') (b := b) (d := d) (fun i hi => h i (by omega))
  simp only [slotS]
  rw [ih, h d (by omega)]
/-- behind a tick of others the count begins anew -/
theorem slotS_split {p : Nat} (hp : mine (a + p) = false) : ∀ d : Nat, slotS cap lost mine a (p + 1 + d) = ((slotS cap lost mine a (p + 1)).1 + (slotS cap lost mine (a + (p + 1)) d).1, (slotS cap lost mine (a + (p + 1)) d).2)
 | 0 => by
  have e : (slotS cap lost mine a (p + 1)).2 = 0 := by simp only [slotS]; rw [if_neg (by rw [hp]; simp)]
  have e2 : slotS cap lost mine a (p + 1) = ((slotS cap lost mine a (p + 1)).1, 0) := Prod.ext rfl e
  rw [Nat.add_zero]
  show slotS cap lost mine a (p + 1) = ((slotS cap lost mine a (p + 1)).1 + 0, 0)
  rw [Int.add_zero]; exact e2
 | d + 1 => by
  have ih := slotS_split hp d
  rw [show p + 1 + (d + 1) = (p + 1 + d) + 1 by omega]
  rw [slotS, ih]
  have e : a + (p + 1 + d) = a + (p + 1) + d := by omega
  rw [e]
  have e2 : slotS cap lost mine (a + (p + 1)) (d + 1) = if mine (a + (p + 1) + d) = true then ((slotS cap lost mine (a + (p + 1)) d).1, (slotS cap lost mine (a + (p + 1)) d).2 + cap) else ((slotS cap lost mine (a + (p + 1)) d).1 + max 0 ((slotS cap lost mine (a + (p + 1)) d).2 - lost), 0) := rfl
  rw [e2]
  by_cases hm : mine (a + (p + 1) + d) = true
  ·rw [if_pos hm, if_pos hm]
  ·rw [if_neg hm, if_neg hm]
   dsimp only
   rw [Int.add_assoc]
theorem cntS_split {p : Nat} (hp : mine (a + p) = false) (d : Nat) : cntS cap lost mine a (p + 1 + d) = (slotS cap lost mine a (p + 1)).1 + cntS cap lost mine (a + (p + 1)) d := by
 unfold cntS
 rw [slotS_split hp]
 dsimp only
 omega
/-- it grows by as much in each cycle, once all of a table has been seen -/
theorem cntS_cycle {n : Nat} (hper : ∀ i, mine (i + n) = mine i) (hn : 0 < n) {b : Nat} (hb : mine b = false) {k : Nat} (hk : n ≤ k) : cntS cap lost mine a (k + n) = cntS cap lost mine a k + (slotS cap lost mine (b + 1) n).1 := by
 -- a tick of others within the first n ticks
 have hmod : ∀ i m : Nat, mine (i + m * n) = mine i := fun i m => by
  induction m with
  | zero => simp
  | succ m ih => rw [show i + (m + 1) * n = i + m * n + n by rw [Nat.add_mul]; omega, hper, ih]
 have hres : ∀ i j : Nat, i % n = j % n → mine i = mine j := fun i j h => by
  have e1 := hmod (i % n) (i / n)
  have e2 := hmod (j % n) (j / n)
  rw [show i % n + i / n * n = i by rw [Nat.mul_comm]; exact Nat.mod_add_div i n] at e1
  rw [show j % n + j / n * n = j by rw [Nat.mul_comm]; exact Nat.mod_add_div j n] at e2
  rw [e1, e2, h]
 obtain ⟨p, hp, ep⟩ := mod_off (t := a) (i := b) hn
 have hpf : mine (a + p) = false := by rw [hres _ _ ep]; exact hb
 have hW : (slotS cap lost mine (b + 1) n).1 = (slotS cap lost mine (a + p + 1) n).1 := by
  have : slotS cap lost mine (b + 1) n = slotS cap lost mine (a + p + 1) n := slotS_congr (fun i _ => by
   refine hres _ _ ?_
   rw [show b + 1 + i = b + (1 + i) by omega, show a + p + 1 + i = (a + p) + (1 + i) by omega, Nat.add_mod, ← ep, ← Nat.add_mod])
  rw [this]
 obtain ⟨d, rfl⟩ : ∃ d, k = p + 1 + d := ⟨k - (p + 1), by omega⟩
 rw [show p + 1 + d + n = p + 1 + (d + n) by omega, cntS_split hpf, cntS_split hpf, hW]
 -- behind p a whole cycle goes first
 have hlast : mine (a + (p + 1) + (n - 1)) = false := by
  rw [show a + (p + 1) + (n - 1) = a + p + n by omega, hper]; exact hpf
 have h1 := cntS_split (cap := cap) (lost := lost) hlast d
 rw [show n - 1 + 1 + d = d + n by omega, show n - 1 + 1 = n by omega] at h1
 have h2 : cntS cap lost mine (a + (p + 1) + n) d = cntS cap lost mine (a + (p + 1)) d := by
  unfold cntS
  rw [slotS_congr (mine' := mine) (b := a + (p + 1)) (fun i _ => by rw [show a + (p + 1) + n + i = a + (p + 1) + i + n by omega, hper])]
 rw [h1, h2, show a + (p + 1) = a + p + 1 by omega]
 omega
end
/-- the ticks of a class -/
def mineT (tb : List Int) (k : Int) (t : Nat) : Bool := slotT tb t == k
theorem mineT_per {tb : List Int} {k : Int} (i : Nat) : mineT tb k (i + tb.length) = mineT tb k i := by unfold mineT slotT; rw [Nat.add_mod_right]
section
variable {ps : List Pkt} {cap : Int} {tb : List Int} {classes k : Nat}
/-- while a class is backlogged, it is sent what its ticks count -/
theorem slot_busy (hn : 0 < tb.length) (hsort : ps.Pairwise fun a b => a.time ≤ b.time) (hs : ∀ p ∈ ps, 1 ≤ p.size) (hfl : ∀ p ∈ ps, 0 ≤ p.flow ∧ p.flow < classes) (hk : k < classes) (hcap : 0 ≤ cap) {lost : Int} (hl0 : 0 ≤ lost) (hl : ∀ p ∈ ps, p.flow = k → p.size ≤ lost + 1) {m x : Nat} : ∀ d : Nat, x + d ≤ m →
  (∀ u, x < u → u ≤ x + d → nth (nth (mrun ps (slotCh ps cap tb) cap classes m ()).sent k) u < pbytes k (u : Int) ps) →
  0 ≤ nth (nth (mrun ps (slotCh ps cap tb) cap classes m ()).sent k) (x + d) - nth (nth (mrun ps (slotCh ps cap tb) cap classes m ()).sent k) x - (slotS cap lost (mineT tb k) x d).1 ∧
  ((slotS cap lost (mineT tb k) x d).2 ≤ nth (nth (mrun ps (slotCh ps cap tb) cap classes m ()).sent k) (x + d) - nth (nth (mrun ps (slotCh ps cap tb) cap classes m ()).sent k) x - (slotS cap lost (mineT tb k) x d).1 ∨
   ∃ N : Nat, (∀ j, j < N → slotT tb (x + d + j) = k) ∧ slotT tb (x + d + N) ≠ k ∧ (slotS cap lost (mineT tb k) x d).2 - (nth (nth (mrun ps (slotCh ps cap tb) cap classes m ()).sent k) (x + d) - nth (nth (mrun ps (slotCh ps cap tb) cap classes m ()).sent k) x - (slotS cap lost (mineT tb k) x d).1) + cap * N ≤ lost)
 | 0, _, _ => by simp [slotS]
 | d + 1, hd, hback => by
  obtain ⟨i1, i2⟩ := slot_busy hn hsort hs hfl hk hcap hl0 hl (m := m) (x := x) d (by omega) (fun u h1 h2 => hback u h1 (by omega))
  have hnn := slotS_nonneg (cap := cap) (lost := lost) (mine := mineT tb k) (a := x) hcap d
  obtain ⟨t1, t2⟩ := slot_tick hn hsort hs hfl hcap (m := m) (t := x + d) (c := k) (by omega) hk
  have hrate := slot_rate hn hsort hs hfl hcap (m := m) (t := x + d) (c := k) (by omega) hk
  rw [show x + (d + 1) = x + d + 1 by omega]
  by_cases hT : slotT tb (x + d) = k
  ·have hmine : mineT tb k (x + d) = true := by unfold mineT; rw [hT]; simp
   have e : slotS cap lost (mineT tb k) x (d + 1) = ((slotS cap lost (mineT tb k) x d).1, (slotS cap lost (mineT tb k) x d).2 + cap) := by rw [slotS, if_pos hmine]
   rw [e]
   dsimp only
   have t2 := t2 hT.symm
   obtain ⟨_, hp⟩ := slot_run (cap := cap) hn hsort hs hfl hcap (x + d)
   have hlft := hp.lft
   have hol : (M.opened cap (x + d) (mrun ps (slotCh ps cap tb) cap classes (x + d) ())).ms.left = cap := rfl
   rw [hol] at hlft
   refine ⟨by omega, ?_⟩
   rcases i2 with i2 | ⟨N, n1, n2, n3⟩
   ·by_cases hz : (mrun ps (slotCh ps cap tb) cap classes (x + d + 1) ()).ms.left = 0
    ·left; omega
    ·right
     obtain ⟨j1, j2⟩ := hp.idle (by omega)
     rcases j2 with j2 | j2 | ⟨n, a1, a2⟩
     ·rw [hT] at j2; omega
     ·exfalso
      have hg := slot_fair (ps := ps) (cap := cap) (tb := tb) hsort
      have hw := (work_run hg hs hfl hcap (slot_start (ps := ps) classes) (x + d + 1)).1
      have hnow := run_now hg hs hfl hcap (slot_start (ps := ps) classes) (cap := cap) (x + d)
      have hc := cl_run0 hg hs hfl hk hcap (slot_start (ps := ps) classes) (cap := cap) (x + d + 1)
      have hb := hback (x + d + 1) (by omega) (by omega)
      rw [run_at hg hs hfl hcap (slot_start (ps := ps) classes) (show x + d + 1 ≤ m by omega) hk] at hb
      unfold Cl at hc
      rw [hc, if_neg (fun h => by omega), show ((x + d + 1 : Nat) : Int) = ((x + d : Nat) : Int) + 1 by omega] at hb
      obtain ⟨i, g1, g2, g3, g4⟩ := begK_wait (k := (k : Int)) (t := ((x + d : Nat) : Int)) (by omega) ps _ hw.blen (fun p hp => by have := hs p hp; omega) (by omega)
      rw [hT] at j2
      have := nextW_none j2 g1 (by rw [hnow]; exact g4) g3
      rw [this] at g2; cases g2
     ·rw [hT] at a1 a2
      rcases ahead_after hn (t := x + d) (by rw [hT]; omega) with ⟨b1, _, _⟩ | ⟨n', b1, _, _, b4, b5⟩
      ·rw [hT] at b1; omega
      ·rw [hT] at b1 b4 b5
       obtain rfl : n' = n := by omega
       refine ⟨n', fun j hj => ?_, ?_, ?_⟩
       ·rw [show x + d + 1 + j = x + d + (j + 1) by omega]; exact b5 (j + 1) (by omega)
       ·rw [show x + d + 1 + n' = x + d + (n' + 1) by omega]; exact b4
       ·by_cases hw0 : 0 ≤ nextW ps (mrun ps (slotCh ps cap tb) cap classes (x + d + 1) ()).ms (k : Int)
        ·obtain ⟨w1, _, _, w4, _⟩ := nextW_some hsort hw0
         have hsz := hl _ (nth_mem (xs := ps) (k := (nextW ps (mrun ps (slotCh ps cap tb) cap classes (x + d + 1) ()).ms (k : Int)).toNat) (by omega)) w4
         omega
        ·exfalso
         have hg := slot_fair (ps := ps) (cap := cap) (tb := tb) hsort
         have hw := (work_run hg hs hfl hcap (slot_start (ps := ps) classes) (x + d + 1)).1
         have hnow := run_now hg hs hfl hcap (slot_start (ps := ps) classes) (cap := cap) (x + d)
         have hc := cl_run0 hg hs hfl hk hcap (slot_start (ps := ps) classes) (cap := cap) (x + d + 1)
         have hb := hback (x + d + 1) (by omega) (by omega)
         rw [run_at hg hs hfl hcap (slot_start (ps := ps) classes) (show x + d + 1 ≤ m by omega) hk] at hb
         unfold Cl at hc
         rw [hc, if_neg (fun h => by omega), show ((x + d + 1 : Nat) : Int) = ((x + d : Nat) : Int) + 1 by omega] at hb
         obtain ⟨i, g1, g2, g3, g4⟩ := begK_wait (k := (k : Int)) (t := ((x + d : Nat) : Int)) (by omega) ps _ hw.blen (fun p hp => by have := hs p hp; omega) (by omega)
         have := nextW_none (show nextW ps (mrun ps (slotCh ps cap tb) cap classes (x + d + 1) ()).ms (k : Int) < 0 by omega) g1 (by rw [hnow]; exact g4) g3
         rw [this] at g2; cases g2
   ·right
    cases N with
    | zero => exact absurd hT n2
    | succ N =>
     refine ⟨N, fun j hj => ?_, ?_, ?_⟩
     ·rw [show x + d + 1 + j = x + d + (j + 1) by omega]; exact n1 (j + 1) (by omega)
     ·rw [show x + d + 1 + N = x + d + (N + 1) by omega]; exact n2
     ·have e2 : cap * ((N + 1 : Nat) : Int) = cap * (N : Int) + cap := by rw [Int.natCast_add, Int.mul_add]; simp
      rw [e2] at n3
      omega
  ·have hmine : ¬ mineT tb k (x + d) = true := by unfold mineT; simpa using hT
   have e : slotS cap lost (mineT tb k) x (d + 1) = ((slotS cap lost (mineT tb k) x d).1 + max 0 ((slotS cap lost (mineT tb k) x d).2 - lost), 0) := by rw [slotS, if_neg hmine]
   rw [e]
   dsimp only
   have t1 := t1 (fun h => hT h.symm)
   have key : (slotS cap lost (mineT tb k) x d).2 - lost ≤ nth (nth (mrun ps (slotCh ps cap tb) cap classes m ()).sent k) (x + d) - nth (nth (mrun ps (slotCh ps cap tb) cap classes m ()).sent k) x - (slotS cap lost (mineT tb k) x d).1 := by
    rcases i2 with i2 | ⟨N, _, _, n3⟩
    ·omega
    ·have := Int.mul_nonneg hcap (show (0 : Int) ≤ (N : Int) by omega)
     omega
   exact ⟨by omega, .inl (by omega)⟩
theorem slot_serves (hn : 0 < tb.length) (hsort : ps.Pairwise fun a b => a.time ≤ b.time) (hs : ∀ p ∈ ps, 1 ≤ p.size) (hfl : ∀ p ∈ ps, 0 ≤ p.flow ∧ p.flow < classes) (hk : k < classes) (hcap : 0 ≤ cap) {lost : Int} (hl0 : 0 ≤ lost) (hl : ∀ p ∈ ps, p.flow = k → p.size ≤ lost + 1) {m a b : Nat} (hab : a < b) (hb : b ≤ m)
  (hback : ∀ u : Nat, a < u → u ≤ b → nth (nth (mrun ps (slotCh ps cap tb) cap classes m ()).sent k) u < pbytes k (u : Int) ps) :
  cntS cap lost (mineT tb k) a (b - a) ≤ nth (nth (mrun ps (slotCh ps cap tb) cap classes m ()).sent k) b - nth (nth (mrun ps (slotCh ps cap tb) cap classes m ()).sent k) a := by
 obtain ⟨i1, i2⟩ := slot_busy hn hsort hs hfl hk hcap hl0 hl (m := m) (x := a) (b - a) (by omega) (fun u h1 h2 => hback u h1 (by omega))
 rw [show a + (b - a) = b by omega] at i1 i2
 unfold cntS
 rcases i2 with i2 | ⟨N, _, _, n3⟩
 ·omega
 ·have := Int.mul_nonneg hcap (show (0 : Int) ≤ (N : Int) by omega)
  omega
/-- the least over all beginnings is less than what is counted from any -/
theorem slotF_le (hn : 0 < tb.length) {cap lost : Int} {k : Int} (a d : Nat) : slotF cap lost (mineT tb k) tb.length d ≤ cntS cap lost (mineT tb k) a d := by
 have h1 := minN_le (f := fun a => cntS cap lost (mineT tb k) a d) (n := tb.length) (i := a % tb.length) (Nat.mod_lt _ hn)
 have h2 : cntS cap lost (mineT tb k) (a % tb.length) d = cntS cap lost (mineT tb k) a d := by
  unfold cntS
  rw [slotS_congr (mine' := mineT tb k) (b := a) (fun i _ => by unfold mineT slotT; rw [Nat.mod_add_mod])]
 rw [h2] at h1; exact h1
end
end Go.Proofs.YthpblaoehlgpfaaGreat.M

/- Time slots, plain: the curves of the program and of the reference are the same. No condition. -/
namespace Go.Proofs.YthpblaoehlgpfaaGreat.M
open Go Go.Proofs.YthpblaoehlgpfaaGreat.K

def chkT (cap cls : Int) (tb : List Int) (z : List Sz) : Int := if chk18 cap cls z ≠ 0 then 2 else if okT z.length tb = false then 2 else 0
def someT (cls : Int) (tb : List Int) : Bool := tb.any fun c => c == cls
def allT (cls : Int) (tb : List Int) : Bool := tb.all fun c => c == cls
def lineF (cap lost : Int) (t : Nat) : Int := max 0 (cap * t - lost)
def slotC (cap cls : Int) (tb : List Int) (z : List Sz) : Cv × Int :=
  if chkT cap cls tb z ≠ 0 then (zcv, chkT cap cls tb z)
  else if someT cls tb = false ∨ (nth z cls.toNat).most < 1 then (zcv, 5)
  else if allT cls tb = true then (if 400 * cap < (nth z cls.toNat).most - 1 then (zcv, 3) else madeR ⟨fvals (lineF cap ((nth z cls.toNat).most - 1)) 401, 1, cap⟩)
  else madeR ⟨fvals (slotF cap ((nth z cls.toNat).most - 1) (mineT tb cls) tb.length) (3 * tb.length + tb.length), tb.length,
    slotF cap ((nth z cls.toNat).most - 1) (mineT tb cls) tb.length (4 * tb.length - 1) - slotF cap ((nth z cls.toNat).most - 1) (mineT tb cls) tb.length (3 * tb.length - 1)⟩
theorem chkT_ok {cap cls : Int} {tb : List Int} {z : List Sz} (h : chkT cap cls tb z = 0) : 1 ≤ cap ∧ cap ≤ 4000 ∧ 0 ≤ cls ∧ cls < z.length ∧ z.length ≤ 6 ∧ (1 ≤ tb.length ∧ tb.length ≤ 40 ∧ ∀ c ∈ tb, -1 ≤ c ∧ c < z.length) ∧ ∀ s ∈ z, 0 ≤ s.least ∧ s.least ≤ s.most ∧ s.most ≤ 1500 := by
 unfold chkT at h
 by_cases h1 : chk18 cap cls z ≠ 0
 ·rw [if_pos h1] at h; omega
 ·rw [if_neg h1] at h
  by_cases h2 : okT z.length tb = false
  ·rw [if_pos h2] at h; omega
  ·have hw : chkW 20 cap cls (List.replicate z.length 1) z = 0 := by
    unfold chkW
    rw [if_neg h1, if_neg]
    intro h
    rcases h with h | h
    ·simp at h
    ·have : okW 20 (List.replicate z.length 1) = true := okW_iff.2 (fun x hx => by rw [List.eq_of_mem_replicate hx]; omega)
     rw [this] at h; cases h
   obtain ⟨a1, a2, a3, a4, a5, _, _, a8⟩ := chkW_ok hw
   exact ⟨a1, a2, a3, a4, a5, okT_iff.1 (by simpa using h2), a8⟩
section
variable {cap lost : Int}
theorem lineF_bound (hc : 0 ≤ cap) (hl : 0 ≤ lost) (t : Nat) : 0 ≤ lineF cap lost t ∧ lineF cap lost t ≤ cap * t := by
 have := Int.mul_nonneg hc (show (0 : Int) ≤ (t : Int) by omega)
 unfold lineF; omega
theorem lineF_mono (hc : 0 ≤ cap) (t : Nat) : lineF cap lost t ≤ lineF cap lost (t + 1) := by
 have : cap * ((t + 1 : Nat) : Int) = cap * (t : Int) + cap := by rw [Int.natCast_add, Int.mul_add]; simp
 unfold lineF; omega
theorem lineF_grows (hc : 0 ≤ cap) {S : Nat} (hS : lost ≤ cap * S) : Grows (lineF cap lost) S 1 cap := by
 intro t ht
 have h1 := Int.mul_le_mul_of_nonneg_left (show (S : Int) ≤ (t : Int) by omega) hc
 have : cap * ((t + 1 : Nat) : Int) = cap * (t : Int) + cap := by rw [Int.natCast_add, Int.mul_add]; simp
 unfold lineF; omega
theorem lost_quo (hc : 0 < cap) (hl : 0 ≤ lost) : lost ≤ cap * ((lost / cap + 1).toNat : Int) ∧ 0 ≤ lost / cap ∧ lost / cap ≤ lost := by
 have h0 : 0 ≤ lost / cap := Int.ediv_nonneg hl (by omega)
 have h1 := Int.mul_ediv_add_emod lost cap
 have h2 := Int.emod_lt_of_pos lost hc
 rw [Int.toNat_of_nonneg (by omega), Int.mul_add]
 exact ⟨by omega, h0, Int.ediv_le_self _ hl⟩
theorem line_build (hc : 0 < cap ∧ cap ≤ 4000) (hl : 0 ≤ lost ∧ lost ≤ 1500) :
  mbuild (lineF cap lost) (lost / cap + 1).toNat 1 cap = if 400 * cap < lost then (zcv, 3) else madeR ⟨fvals (lineF cap lost) 401, 1, cap⟩ := by
 obtain ⟨q1, q2, q3⟩ := lost_quo hc.1 hl.1
 have hb : ∀ t : Nat, t ≤ 2000 → lineF cap lost t < INF := fun t ht => by
  have h1 := (lineF_bound (cap := cap) (by omega) hl.1 t).2
  have h2 := (mulB (a := cap) (b := (t : Int)) (A := 4000) (B := 2000) (by omega) (by omega)).2
  unfold INF; omega
 have hg := lineF_grows (cap := cap) (by omega) q1
 have hf : ∀ t, t < (lost / cap + 1).toNat + 1 → lineF cap lost t < INF := fun t ht => hb t (by omega)
 have hne : ∀ t, t < (lost / cap + 1).toNat + 1 → lineF cap lost t ≠ INF := fun t ht => by have := hf t ht; omega
 rw [mbuild_fin hne]
 by_cases hfr : 400 * cap < lost
 ·rw [if_pos hfr]
  obtain ⟨p', s', hnf, _, _, e⟩ := finL_nf (by omega) hg hne
  rw [e]
  have hp1 := hnf.least.1
  obtain rfl : p' = 1 := by omega
  have hgr := hnf.starts.1 s' (Nat.le_refl _)
  have hnn := (lineF_bound (cap := cap) (by omega) hl.1 s').1
  have hlen : 400 < s' + 1 := by
   apply Classical.byContradiction
   intro hn
   have h1 := Int.mul_le_mul_of_nonneg_left (show ((s' + 1 : Nat) : Int) ≤ 400 by omega) (show 0 ≤ cap by omega)
   have : lineF cap lost (s' + 1) = 0 := by unfold lineF; omega
   simp at hgr
   omega
  unfold nfC nfE
  rw [if_pos (if_pos (.inr (.inr (.inl hlen))))]
 ·rw [if_neg hfr]
  have hg' : Grows (lineF cap lost) 400 1 cap := lineF_grows (by omega) (by show lost ≤ cap * 400; omega)
  exact build_made (by omega) (by omega) hg hg' (fun t => lineF_mono (by omega) t) (lineF_bound (by omega) hl.1 0).1 hf (fun t ht => hb t (by omega))
variable {mine : Nat → Bool} {n : Nat}
theorem slotF_bound (hc : 0 ≤ cap) (hl : 0 ≤ lost) (hn : 0 < n) (t : Nat) : 0 ≤ slotF cap lost mine n t ∧ slotF cap lost mine n t ≤ cap * t := by
 have h1 := minN_le (f := fun a => cntS cap lost mine a t) hn
 have h2 := (cntS_bound (mine := mine) (a := 0) hc hl t).2
 refine ⟨minN_ge (cntS_bound hc hl t).1 (fun i _ => (cntS_bound hc hl t).1), ?_⟩
 unfold slotF
 omega
theorem slotF_mono (hc : 0 ≤ cap) (hn : 0 < n) (t : Nat) : slotF cap lost mine n t ≤ slotF cap lost mine n (t + 1) :=
 minN_ge (Int.le_trans (minN_le (f := fun a => cntS cap lost mine a t) hn) (cntS_mono hc t)) (fun i hi => Int.le_trans (minN_le (f := fun a => cntS cap lost mine a t) hi) (cntS_mono hc t))
/-- all of a table seen, it grows by as much in each cycle -/
theorem slotF_grows (hper : ∀ i, mine (i + n) = mine i) (hn : 0 < n) {b : Nat} (hb : mine b = false) : Grows (slotF cap lost mine n) n n (slotS cap lost mine (b + 1) n).1 :=
 fun k hk => minN_add hn (fun i hi => cntS_cycle hper hn hb hk)
theorem slot_build (hc : 0 < cap ∧ cap ≤ 4000) (hl : 0 ≤ lost ∧ lost ≤ 1500) (hper : ∀ i, mine (i + n) = mine i) (hn : 0 < n ∧ n ≤ 40) {b : Nat} (hb : mine b = false) :
  slotF cap lost mine n (2 * n) - slotF cap lost mine n n = slotF cap lost mine n (4 * n - 1) - slotF cap lost mine n (3 * n - 1) ∧ Grows (slotF cap lost mine n) n n (slotF cap lost mine n (2 * n) - slotF cap lost mine n n) ∧
  0 ≤ slotF cap lost mine n (2 * n) - slotF cap lost mine n n ∧
  mbuild (slotF cap lost mine n) n n (slotF cap lost mine n (2 * n) - slotF cap lost mine n n) = madeR ⟨fvals (slotF cap lost mine n) (3 * n + n), n, slotF cap lost mine n (4 * n - 1) - slotF cap lost mine n (3 * n - 1)⟩ := by
 have hg := slotF_grows (cap := cap) (lost := lost) hper hn.1 hb
 have e1 := hg n (Nat.le_refl _)
 have e2 := hg (3 * n - 1) (by omega)
 rw [show n + n = 2 * n by omega] at e1
 rw [show 3 * n - 1 + n = 4 * n - 1 by omega] at e2
 have e3 : slotF cap lost mine n (2 * n) - slotF cap lost mine n n = (slotS cap lost mine (b + 1) n).1 := by omega
 have e4 : slotF cap lost mine n (4 * n - 1) - slotF cap lost mine n (3 * n - 1) = (slotS cap lost mine (b + 1) n).1 := by omega
 have h0 := (slotS_nonneg (cap := cap) (lost := lost) (mine := mine) (a := b + 1) (by omega) n).1
 have hbd : ∀ t : Nat, t ≤ 2000 → slotF cap lost mine n t < INF := fun t ht => by
  have h1 := (slotF_bound (cap := cap) (lost := lost) (mine := mine) (by omega) hl.1 hn.1 t).2
  have h2 := (mulB (a := cap) (b := (t : Int)) (A := 4000) (B := 2000) (by omega) (by omega)).2
  unfold INF; omega
 rw [e3, e4]
 refine ⟨rfl, hg, h0, ?_⟩
 rw [mbuild_fin (fun t ht => by have := hbd t (by omega); omega)]
 exact build_made hn.1 h0 hg (hg.mono (by omega)) (fun t => slotF_mono (by omega) hn.1 t) (slotF_bound (by omega) hl.1 hn.1 0).1 (fun t ht => hbd t (by omega)) (fun t ht => hbd t (by omega))
theorem someT_iff {cls : Int} {tb : List Int} : someT cls tb = true ↔ ∃ i, i < tb.length ∧ nth tb i = cls := by
 unfold someT
 rw [List.any_eq_true]
 constructor
 ·rintro ⟨c, h1, h2⟩
  obtain ⟨i, hi, e⟩ := List.getElem_of_mem h1
  exact ⟨i, hi, by rw [nth_eq hi, e]; simpa using h2⟩
 ·rintro ⟨i, hi, e⟩
  exact ⟨_, nth_mem hi, by simpa using e⟩
theorem allT_iff {cls : Int} {tb : List Int} : allT cls tb = true ↔ ∀ i, i < tb.length → nth tb i = cls := by
 unfold allT
 rw [List.all_eq_true]
 constructor
 ·intro h i hi
  simpa using h _ (nth_mem hi)
 ·intro h c hc
  obtain ⟨i, hi, e⟩ := List.getElem_of_mem hc
  have := h i hi
  rw [nth_eq hi, e] at this
  simpa using this
theorem allT_not {cls : Int} {tb : List Int} (h : ¬ allT cls tb = true) : ∃ b, b < tb.length ∧ mineT tb cls b = false := by
 apply Classical.byContradiction
 intro hn
 refine h (allT_iff.2 (fun i hi => ?_))
 apply Classical.byContradiction
 intro h2
 refine hn ⟨i, hi, ?_⟩
 unfold mineT slotT
 rw [Nat.mod_eq_of_lt hi]
 simpa using h2
end
end Go.Proofs.YthpblaoehlgpfaaGreat.M

/- Lines with any of the schedulers, plain: their curves and delays. No condition. -/
namespace Go.Proofs.YthpblaoehlgpfaaGreat.M
open Go Go.Proofs.YthpblaoehlgpfaaGreat.K
def delayC (a b : Cv) : (Bool × Int × Int) × Int := devN (normR a) (normR b) (gapD (normR a) (normR b))
def waitL (v : Int) : List Int := (List.replicate (v + 2).toNat 0).set (v + 1).toNat INF
def waitC (v : Int) : Cv × Int := if v < 0 then (zcv, 2) else if 398 < v then (zcv, 3) else (⟨waitL v, 1, 0⟩, 0)
def allC (cap : Int) (ls : List Cv) : (Bool × Int × Int) × Int := if (totalC ls).2 ≠ 0 then ((false, 0, 0), (totalC ls).2) else delayC (totalC ls).1 (lineC cap)
def fifoC (cap : Int) (ls : List Cv) : Cv × Int := if (allC cap ls).2 ≠ 0 then (zcv, (allC cap ls).2) else if (allC cap ls).1.1 = true then (zcv, 5) else waitC (allC cap ls).1.2.1
def argE (L : Ln) (cls : Int) (ls : List Cv) (z : List Sz) : Int :=
  if chkL L ≠ 0 then chkL L else if cls < 0 ∨ L.n ≤ cls ∨ (ls.length : Int) ≠ L.n ∨ (z.length : Int) ≠ L.n then 2 else if chk18 L.cap cls z ≠ 0 then chk18 L.cap cls z else if ls.all validB = true then 0 else 1
def schedC (L : Ln) (cls : Int) (ls : List Cv) (z : List Sz) : Cv × Int :=
  if L.kind = 1 then fifoC L.cap ls else if L.kind = 2 then prioC L.cap cls ls z else if L.kind = 3 then robinC L.cap cls L.w z else if L.kind = 4 then defC L.cap cls L.w z else slotC L.cap cls L.tb z
def curveL (L : Ln) (cls : Int) (ls : List Cv) (z : List Sz) : Cv × Int := if argE L cls ls z ≠ 0 then (zcv, argE L cls ls z) else schedC L cls ls z
def devV (x : (Bool × Int × Int) × Int) : Value := .tuple #[.agg #[.bool x.1.1, .int .i64 x.1.2.1, .int .i64 x.1.2.2], .int .i64 x.2]
theorem total_valid {ls : List Cv} (h : ∀ c ∈ ls, validB c = true) (h0 : (totalC ls).2 = 0) : validB (totalC ls).1 = true := by
 rcases total_res ls zeroC zero_nrm.valid zero_nrm h with e | ⟨c, e, h2, _⟩
 ·rw [show totalC ls = (zcv, 3) from e] at h0; cases h0
 ·rw [show totalC ls = (c, 0) from e]; exact h2.valid
end Go.Proofs.YthpblaoehlgpfaaGreat.M

/- Time slots, plain: a class is sent what it is sent alone. No condition. -/
namespace Go.Proofs.YthpblaoehlgpfaaGreat.M
open Go Go.Proofs.YthpblaoehlgpfaaGreat.K

/-- the places of the packets of a class -/
def selI (ps : List Pkt) (k : Int) : List Nat := (List.range ps.length).filter fun i => (nth ps i).flow == k
def selP (ps : List Pkt) (k : Int) : List Pkt := ps.filter fun p => p.flow == k
structure Sel (ps : List Pkt) (k : Int) (qs : List Pkt) (ix : Nat → Nat) : Prop where
  at_ : ∀ j, j < qs.length → ix j < ps.length ∧ (nth ps (ix j)).flow = k ∧ nth qs j = nth ps (ix j)
  mono : ∀ j j', j < j' → j' < qs.length → ix j < ix j'
  onto : ∀ i, i < ps.length → (nth ps i).flow = k → ∃ j, j < qs.length ∧ ix j = i
section
variable {ps qs : List Pkt} {cap : Int} {tb : List Int} {classes k : Nat} {ix : Nat → Nat}
theorem Sel.inj (h : Sel ps k qs ix) {j j' : Nat} (hj : j < qs.length) (hj' : j' < qs.length) (e : ix j = ix j') : j = j' := by
 rcases Nat.lt_trichotomy j j' with h1 | h1 | h1
 ·have := h.mono _ _ h1 hj'; omega
 ·exact h1
 ·have := h.mono _ _ h1 hj; omega
/-- the first packet of the class that waits, here and there -/
theorem Sel.next (h : Sel ps k qs ix) {ms ms' : MS} (hnow : ms'.now = ms.now) (hb : ∀ j, j < qs.length → nth ms'.begun j = nth ms.begun (ix j)) :
  (nextW qs ms' k < 0 ∧ nextW ps ms k < 0) ∨ (0 ≤ nextW qs ms' k ∧ (nextW qs ms' k).toNat < qs.length ∧ nextW ps ms k = ix (nextW qs ms' k).toNat) := by
 have hP : ∀ j, j < qs.length → nextP qs ms' k j = nextP ps ms k (ix j) := fun j hj => by
  obtain ⟨_, h2, h3⟩ := h.at_ j hj
  unfold nextP
  rw [hnow, hb j hj, h3]
 unfold nextW
 rcases findN_cases (nextP qs ms' k) qs.length with ⟨j, j1, j2, j3, j4⟩ | ⟨j1, j2⟩
 ·right
  rw [j2, Int.toNat_natCast]
  refine ⟨by omega, j1, ?_⟩
  refine findN_some (h.at_ j j1).1 (by rw [← hP j j1]; exact j3) (fun i hi => ?_)
  by_cases hf : (nth ps i).flow = k
  ·obtain ⟨j', e1, e2⟩ := h.onto i (by have := (h.at_ j j1).1; omega) hf
   have hlt : j' < j := by
    apply Classical.byContradiction
    intro hn
    by_cases e : j' = j
    ·subst e; omega
    ·have := h.mono j j' (by omega) e1; omega
   have := j4 j' hlt
   rw [hP j' e1, e2] at this; exact this
  ·unfold nextP
   have : ((nth ps i).flow == (k : Int)) = false := by simpa using hf
   rw [this]; simp
 ·left
  refine ⟨by rw [j1]; omega, ?_⟩
  rw [findN_none (fun i hi => ?_)]
  ·omega
  ·by_cases hf : (nth ps i).flow = k
   ·obtain ⟨j', e1, e2⟩ := h.onto i hi hf
    have := j2 j' e1
    rw [hP j' e1, e2] at this; exact this
   ·unfold nextP
    have : ((nth ps i).flow == (k : Int)) = false := by simpa using hf
    rw [this]; simp
/-- the two runs while the class is served -/
structure ApI (ps qs : List Pkt) (k t : Nat) (ix : Nat → Nat) (s a : RS Unit) : Prop where
  left : a.ms.left = s.ms.left
  now : a.ms.now = s.ms.now
  begun : ∀ j, j < qs.length → nth a.ms.begun j = nth s.ms.begun (ix j)
  done : ∀ j, j < qs.length → nth a.done j = nth s.done (ix j)
  col : nth (nth a.sent k) (t + 1) = nth (nth s.sent k) (t + 1)
  cur : (0 ≤ a.cur ∧ s.cur = ix a.cur.toNat ∧ a.rest = s.rest) ∨ (a.cur < 0 ∧ s.cur < 0)
/-- the two runs between ticks -/
structure Ap (ps qs : List Pkt) (k t : Nat) (ix : Nat → Nat) (s a : RS Unit) : Prop where
  begun : ∀ j, j < qs.length → nth a.ms.begun j = nth s.ms.begun (ix j)
  done : ∀ j, j < qs.length → nth a.done j = nth s.done (ix j)
  col : nth (nth a.sent k) t = nth (nth s.sent k) t
  cur : (0 ≤ a.cur ∧ s.cur = ix a.cur.toNat ∧ a.rest = s.rest) ∨ (a.cur < 0 ∧ (s.cur < 0 ∨ (nth ps s.cur.toNat).flow ≠ k))
end
end Go.Proofs.YthpblaoehlgpfaaGreat.M

/- Time slots, plain: packets are sent within ticks in a row that belong to their class; a class that has all ticks is sent what a line in order of arrival sends it. No condition. -/
namespace Go.Proofs.YthpblaoehlgpfaaGreat.M
open Go Go.Proofs.YthpblaoehlgpfaaGreat.K

/-- sums -/
def sumUp (f : Nat → Int) : Nat → Int
  | 0 => 0
  | n + 1 => sumUp f n + f n
theorem sumUp_front (f : Nat → Int) : ∀ n : Nat, sumUp f (n + 1) = f 0 + sumUp (fun i => f (i + 1)) n
 | 0 => by simp [sumUp]
 | n + 1 => by
  have h := sumUp_front f n
  have e1 : sumUp f (n + 1 + 1) = sumUp f (n + 1) + f (n + 1) := rfl
  have e2 : sumUp (fun i => f (i + 1)) (n + 1) = sumUp (fun i => f (i + 1)) n + f (n + 1) := rfl
  omega
theorem sumUp_congr {f g : Nat → Int} : ∀ {n : Nat}, (∀ i, i < n → f i = g i) → sumUp f n = sumUp g n
 | 0, _ => rfl
 | n + 1, h => by
  have a := sumUp_congr (f := f) (g := g) (n := n) (fun i hi => h i (by omega))
  have b := h n (by omega)
  simp only [sumUp]; omega
theorem sumUp_grow {f : Nat → Int} {i : Nat} : ∀ {n : Nat}, i ≤ n → (∀ j, j < n → 0 ≤ f j) → sumUp f i ≤ sumUp f n
  | 0, h, _ => by obtain rfl : i = 0 := by omega
                  exact Int.le_refl _
  | n + 1, h, h0 => by
    by_cases e : i = n + 1
    · subst e; exact Int.le_refl _
    · have a := sumUp_grow (f := f) (i := i) (n := n) (by omega) (fun j hj => h0 j (by omega))
      have b := h0 n (by omega)
      simp only [sumUp]; omega
theorem sumUp_mem {f : Nat → Int} {i c n : Nat} (hic : i ≤ c) (hc : c < n) (h0 : ∀ j, j < n → 0 ≤ f j) : sumUp f i + f c ≤ sumUp f n := by
 have a := sumUp_grow (f := f) hic (fun j hj => h0 j (by omega))
 have b := sumUp_grow (f := f) (show c + 1 ≤ n by omega) h0
 have e : sumUp f (c + 1) = sumUp f c + f c := rfl
 omega
section
variable {σ : Type} {ps : List Pkt} {ch : MS → σ → Int × Nat × σ} {good : MS → σ → Prop} {rel : Nat → Nat → Prop} {classes col k : Nat} {s : RS σ}
/-- the sums of a class, and what is left of the open packet is no more than its size; whatever the choice -/
theorem clr_inner (hg : Fair ps ch good rel) (hs : ∀ p ∈ ps, 1 ≤ p.size) (hfl : ∀ p ∈ ps, 0 ≤ p.flow ∧ p.flow < classes) (hk : k < classes) {t : Nat} : ∀ (j : Nat) (s : RS σ), Wk ps classes good rel (t + 1) s → Cl ps k (t + 1) s → (0 ≤ s.cur → s.rest ≤ (nth ps s.cur.toNat).size) → s.ms.now = t → 0 ≤ s.ms.left →
  Cl ps k (t + 1) (inner ps ch t j s) ∧ (0 ≤ (inner ps ch t j s).cur → (inner ps ch t j s).rest ≤ (nth ps (inner ps ch t j s).cur.toNat).size)
 | 0, s, hw, hc, hr, hn, hl => ⟨hc, hr⟩
 | j + 1, s, hw, hc, hr, hn, hl => by
  simp only [M.inner]
  by_cases hl0 : s.ms.left ≤ 0
  ·rw [if_pos hl0]; exact ⟨hc, hr⟩
  ·rw [if_neg hl0]
   have hw1 := hw.pickup hg hs
   have hc1 := hc.pickup hg hw
   obtain ⟨e1, e2, e3, e4⟩ := pickup_same ps ch s
   have hr1 : 0 ≤ (M.pickup ps ch s).cur → (M.pickup ps ch s).rest ≤ (nth ps (M.pickup ps ch s).cur.toNat).size := by
    unfold M.pickup
    by_cases hcur : 0 ≤ s.cur
    ·rw [if_pos hcur]; exact hr
    ·rw [if_neg hcur]
     dsimp only
     by_cases h0 : (ch s.ms s.sg).1 < 0
     ·rw [if_pos h0]; intro h; dsimp only at h; omega
     ·rw [if_neg h0]; intro _; exact Int.le_refl _
   by_cases hcn : (M.pickup ps ch s).cur < 0
   ·rw [if_pos hcn]; exact ⟨hc1, hr1⟩
   ·rw [if_neg hcn]
    obtain ⟨n, n1, n2, n3, n4, n5, n6, n7, n8, n9⟩ := Cl.send hfl hk hw1 hc1 (by omega) (by rw [e1]; omega)
    obtain ⟨g1, g2, g3, g4, g5, g6⟩ := hw1.send hfl hg.free (by rw [e2]; exact hn) (by omega) (by rw [e1]; omega)
    refine clr_inner hg hs hfl hk j _ g1 n9 ?_ (by rw [g5, e2]; exact hn) g3
    intro h
    have h1 := hr1 (by omega)
    rw [n5] at h ⊢
    by_cases hz : (M.pickup ps ch s).rest - n = 0
    ·rw [if_pos hz] at h; omega
    ·rw [if_neg hz, n4]; omega
theorem clr_each (hg : Fair ps ch good rel) (hs : ∀ p ∈ ps, 1 ≤ p.size) (hfl : ∀ p ∈ ps, 0 ≤ p.flow ∧ p.flow < classes) (hk : k < classes) {cap : Int} (hcap : 0 ≤ cap) {sg : σ} (hst : good (start ps classes sg).ms sg) : ∀ (m : Nat), Cl ps k m (mrun ps ch cap classes m sg) ∧ (0 ≤ (mrun ps ch cap classes m sg).cur → (mrun ps ch cap classes m sg).rest ≤ (nth ps (mrun ps ch cap classes m sg).cur.toNat).size)
 | 0 => by
  constructor
  ·show nth (nth (List.replicate classes [(0 : Int)]) k) 0 = begK k ps (List.replicate ps.length false) - _
   rw [begK_none, nth_replicate hk, if_neg (by simp [mrun, ticksFrom, start])]; rfl
  ·intro h
   exact absurd (show (0 : Int) ≤ -1 from h) (by omega)
 | m + 1 => by
  have ih := clr_each hg hs hfl hk hcap hst m
  obtain ⟨h1, h2, _, _⟩ := work_run hg hs hfl hcap hst m
  obtain ⟨w1, w2⟩ := h1.opened (cap := cap) hg h2
  have hc : Cl ps k (m + 1) (M.opened cap m (mrun ps ch cap classes m sg)) := by
   unfold Cl
   rw [opened_nth h1 hk]; exact ih.1
  rw [mrun_succ]
  exact clr_inner hg hs hfl hk cap.toNat _ w1 hc ih.2 rfl hcap
end
section
variable {ps : List Pkt} {cap : Int} {tb : List Int} {classes : Nat}
/-- the bytes of the first packets of a class -/
def ofK (ps : List Pkt) (k : Int) (i : Nat) : Int := if (nth ps i).flow = k then (nth ps i).size else 0
/-- those that are finished before a tick -/
def overK (ps : List Pkt) (dn : List Int) (k t : Int) (i : Nat) : Int := if (nth ps i).flow = k ∧ 0 ≤ nth dn i ∧ nth dn i < t then (nth ps i).size else 0
/-! ### a class that has all ticks -/
end
end Go.Proofs.YthpblaoehlgpfaaGreat.M

/- Priorities, plain: what a class is served. No condition. -/
namespace Go.Proofs.YthpblaoehlgpfaaGreat.M
open Go Go.Proofs.YthpblaoehlgpfaaGreat.K

theorem sumUp_sub (f g : Nat → Int) : ∀ n : Nat, sumUp (fun i => f i - g i) n = sumUp f n - sumUp g n
 | 0 => rfl
 | n + 1 => by have := sumUp_sub f g n; simp only [sumUp]; omega
theorem sumUp_le {f g : Nat → Int} : ∀ {n : Nat}, (∀ i, i < n → f i ≤ g i) → sumUp f n ≤ sumUp g n
 | 0, _ => Int.le_refl _
 | n + 1, h => by
  have a := sumUp_le (f := f) (g := g) (n := n) (fun i hi => h i (by omega))
  have b := h n (by omega)
  simp only [sumUp]; omega
theorem sumUp_one {x a : Int} : ∀ n : Nat, sumUp (fun c => if x = (c : Int) then a else 0) n = if 0 ≤ x ∧ x < n then a else 0
 | 0 => by simp [sumUp]; omega
 | n + 1 => by
  have ih := sumUp_one (x := x) (a := a) n
  simp only [sumUp]
  rw [ih]
  by_cases h : x = n
  ·rw [if_neg (by omega), if_pos h, if_pos (by omega)]; omega
  ·rw [if_neg h]
   by_cases h2 : 0 ≤ x ∧ x < n
   ·rw [if_pos h2, if_pos (by omega)]; omega
   ·rw [if_neg h2, if_neg (by omega)]; omega
theorem colSum_up {u : Nat} : ∀ (l : List (List Int)), colSum l u = sumUp (fun c => nth (nth l c) u) l.length
 | [] => rfl
 | x :: l => by
  rw [List.length_cons, sumUp_front]
  have := colSum_up (u := u) l
  simp only [colSum]
  rw [this]; rfl
theorem pbytes_up {n : Nat} {t : Int} : ∀ (ps : List Pkt), (∀ p ∈ ps, 0 ≤ p.flow ∧ p.flow < n) → pbytes (-1) t ps = sumUp (fun c => pbytes c t ps) n
 | [], _ => by
  have : ∀ n : Nat, sumUp (fun c => pbytes c t []) n = 0 := by
   intro n
   induction n with
   | zero => rfl
   | succ n ih => simp only [sumUp]; rw [ih]; rfl
  rw [this]; rfl
 | p :: ps, h => by
  have ih := pbytes_up (t := t) ps (fun q hq => h q (by simp [hq]))
  have hp := h p (by simp)
  have e : (fun c : Nat => pbytes c t (p :: ps)) = fun c : Nat => (if p.flow = (c : Int) then (if p.time < t then p.size else 0) else 0) + pbytes c t ps := funext fun c => by
   simp only [pbytes]
   by_cases h1 : p.flow = (c : Int)
   ·by_cases h2 : p.time < t
    ·rw [if_pos (show hit c t p from ⟨h2, by omega, .inr h1⟩), if_pos h1, if_pos h2]
    ·rw [if_neg (fun h : hit c t p => h2 h.1), if_pos h1, if_neg h2]
   ·rw [if_neg (fun h : hit c t p => h.2.2.elim (fun x => by omega) h1), if_neg h1]
  rw [e]
  have e2 : ∀ (f g : Nat → Int) (n : Nat), sumUp (fun c => f c + g c) n = sumUp f n + sumUp g n := by
   intro f g n
   induction n with
   | zero => rfl
   | succ n ih => simp only [sumUp]; omega
  rw [e2, sumUp_one, if_pos hp, ← ih]
  simp only [pbytes]
  by_cases h2 : p.time < t
  ·rw [if_pos (show hit (-1) t p from ⟨h2, by omega, .inl rfl⟩), if_pos h2]
  ·rw [if_neg (fun h : hit (-1) t p => h2 h.1), if_neg h2]
section
variable {ps : List Pkt} {n k : Nat}
/-- in a tick: either no packet of a lesser class is begun, or all that has arrived of the greater ones is sent -/
theorem prio_inner (hsort : ps.Pairwise fun a b => a.time ≤ b.time) (hs : ∀ p ∈ ps, 1 ≤ p.size) (hfl : ∀ p ∈ ps, 0 ≤ p.flow ∧ p.flow < n) (hk : k < n) {t : Nat} : ∀ (j : Nat) (s : RS Unit), Wk ps n (fun ms _ => goodB ps ms) (sameFlow ps) (t + 1) s → (∀ c, c < n → Cl ps c (t + 1) s) → s.ms.now = t → 0 ≤ s.ms.left →
  (∀ c, c < n → nth (nth s.sent c) (t + 1) ≤ nth (nth (inner ps (prioCh ps n) t j s).sent c) (t + 1)) ∧
  ((∀ c, k < c → c < n → begK c ps (inner ps (prioCh ps n) t j s).ms.begun = begK c ps s.ms.begun) ∨ (∀ c : Nat, c ≤ k → pbytes c ((t : Int) + 1) ps ≤ nth (nth (inner ps (prioCh ps n) t j s).sent c) (t + 1)))
 | 0, s, hw, hc, hn, hl => ⟨fun c _ => Int.le_refl _, .inl fun c _ _ => rfl⟩
 | j + 1, s, hw, hc, hn, hl => by
  have hg := prio_fair (ps := ps) (n := n) hsort
  simp only [M.inner]
  by_cases hl0 : s.ms.left ≤ 0
  ·rw [if_pos hl0]; exact ⟨fun c _ => Int.le_refl _, .inl fun c _ _ => rfl⟩
  ·rw [if_neg hl0]
   have hw1 := hw.pickup hg hs
   have hc1 : ∀ c, c < n → Cl ps c (t + 1) (M.pickup ps (prioCh ps n) s) := fun c hcn => (hc c hcn).pickup hg hw
   obtain ⟨e1, e2, e3, e4⟩ := pickup_same ps (prioCh ps n) s
   -- what the choice does
   have hpk : (∀ c, k < c → c < n → begK c ps (M.pickup ps (prioCh ps n) s).ms.begun = begK c ps s.ms.begun) ∨ (∀ c : Nat, c ≤ k → pbytes c ((t : Int) + 1) ps ≤ nth (nth s.sent c) (t + 1)) := by
    unfold M.pickup
    by_cases hcur : 0 ≤ s.cur
    ·rw [if_pos hcur]; exact .inl fun c _ _ => rfl
    ·rw [if_neg hcur]
     dsimp only
     by_cases hr : (prioCh ps n s.ms s.sg).1 < 0
     ·rw [if_pos hr]; exact .inl fun c _ _ => rfl
     ·rw [if_neg hr]
      have hr0 : 0 ≤ prioFrom (nextW ps s.ms) n 0 := by
       have : ¬ prioFrom (nextW ps s.ms) n 0 < 0 := hr
       omega
      obtain ⟨d, _, hd1, hd2, hd3⟩ := prioFrom_some hr0
      have hid := hg.idx _ _ hw.good hw.blen (show 0 ≤ (prioCh ps n s.ms s.sg).1 by omega)
      obtain ⟨w1, w2⟩ := hg.waits _ _ hw.good hw.blen (show 0 ≤ (prioCh ps n s.ms s.sg).1 by omega)
      by_cases hdk : d ≤ k
      ·left
       intro c h1 h2
       dsimp only
       have hb := hw.blen
       rw [begK_set _ _ _ _ (by omega) (by omega) w1]
       have hfd : (nth ps (prioCh ps n s.ms s.sg).1.toNat).flow = d := by
        show (nth ps (prioFrom (nextW ps s.ms) n 0).toNat).flow = d
        rw [hd2] at hr0 ⊢
        exact (nextW_some hsort hr0).2.2.2.1
       rw [if_neg (by rw [hfd]; omega), Int.add_zero]
      ·right
       intro c hck
       have hcl := hc c (by omega)
       unfold Cl at hcl
       rw [if_neg (fun x => hcur x.1), Int.sub_zero] at hcl
       rw [hcl]
       apply Classical.byContradiction
       intro hlt
       obtain ⟨i, g1, g2, g3, g4⟩ := begK_wait (k := (c : Int)) (t := (t : Int)) (by omega) ps s.ms.begun hw.blen (fun p hp => by have := hs p hp; omega) (by omega)
       have := nextW_none (hd3 c (Nat.zero_le _) (by omega)) g1 (by omega) g3
       rw [this] at g2; cases g2
   by_cases hcn : (M.pickup ps (prioCh ps n) s).cur < 0
   ·rw [if_pos hcn]
    refine ⟨fun c _ => by rw [e3]; exact Int.le_refl _, ?_⟩
    rcases hpk with h | h
    ·exact .inl h
    ·right; intro c hck; rw [e3]; exact h c hck
   ·rw [if_neg hcn]
    obtain ⟨g1, g2, g3, g4, g5, g6⟩ := hw1.send hfl hg.free (by rw [e2]; exact hn) (by omega) (by rw [e1]; omega)
    have hsnd : ∀ c, c < n → nth (nth s.sent c) (t + 1) ≤ nth (nth (M.send ps t (M.pickup ps (prioCh ps n) s)).sent c) (t + 1) ∧ Cl ps c (t + 1) (M.send ps t (M.pickup ps (prioCh ps n) s)) ∧ (M.send ps t (M.pickup ps (prioCh ps n) s)).ms.begun = (M.pickup ps (prioCh ps n) s).ms.begun := fun c hcn' => by
     obtain ⟨q, q1, q2, q3, q4, q5, q6, q7, q8, q9⟩ := Cl.send hfl hcn' hw1 (hc1 c hcn') (by omega) (by rw [e1]; omega)
     refine ⟨?_, q9, q7⟩
     rw [q8, e3]
     split <;> omega
    obtain ⟨r1, r2⟩ := prio_inner hsort hs hfl hk j (M.send ps t (M.pickup ps (prioCh ps n) s)) g1 (fun c hcn' => (hsnd c hcn').2.1) (by rw [g5, e2]; exact hn) g3
    refine ⟨fun c hcn' => Int.le_trans (hsnd c hcn').1 (r1 c hcn'), ?_⟩
    rcases hpk with h | h
    ·rcases r2 with r2 | r2
     ·left
      intro c h1 h2
      rw [r2 c h1 h2, (hsnd c h2).2.2]
      exact h c h1 h2
     ·exact .inr r2
    ·right
     intro c hck
     exact Int.le_trans (h c hck) (Int.le_trans (hsnd c (by omega)).1 (r1 c (by omega)))
/-- of the open packet at least one byte has been sent, at the end of a tick -/
theorem part_inner {σ : Type} {ch : MS → σ → Int × Nat × σ} {good : MS → σ → Prop} {rel : Nat → Nat → Prop} {classes : Nat} (hg : Fair ps ch good rel) (hs : ∀ p ∈ ps, 1 ≤ p.size) (hfl : ∀ p ∈ ps, 0 ≤ p.flow ∧ p.flow < classes) {t : Nat} : ∀ (j : Nat) (s : RS σ), Wk ps classes good rel (t + 1) s → (0 ≤ s.cur → s.rest + 1 ≤ (nth ps s.cur.toNat).size) → s.ms.now = t → 0 ≤ s.ms.left →
  (0 ≤ (inner ps ch t j s).cur → (inner ps ch t j s).rest + 1 ≤ (nth ps (inner ps ch t j s).cur.toNat).size)
 | 0, s, hw, hr, hn, hl => hr
 | j + 1, s, hw, hr, hn, hl => by
  simp only [M.inner]
  by_cases hl0 : s.ms.left ≤ 0
  ·rw [if_pos hl0]; exact hr
  ·rw [if_neg hl0]
   have hw1 := hw.pickup hg hs
   obtain ⟨e1, e2, e3, e4⟩ := pickup_same ps ch s
   have hr1 : 0 ≤ (M.pickup ps ch s).cur → (M.pickup ps ch s).rest ≤ (nth ps (M.pickup ps ch s).cur.toNat).size := by
    unfold M.pickup
    by_cases hcur : 0 ≤ s.cur
    ·rw [if_pos hcur]; intro h; have := hr h; omega
    ·rw [if_neg hcur]
     dsimp only
     by_cases h0 : (ch s.ms s.sg).1 < 0
     ·rw [if_pos h0]; intro h; dsimp only at h; omega
     ·rw [if_neg h0]; intro _; exact Int.le_refl _
   by_cases hcn : (M.pickup ps ch s).cur < 0
   ·rw [if_pos hcn]; intro h; omega
   ·rw [if_neg hcn]
    obtain ⟨g1, g2, g3, g4, g5, g6⟩ := hw1.send hfl hg.free (by rw [e2]; exact hn) (by omega) (by rw [e1]; omega)
    refine part_inner hg hs hfl j _ g1 ?_ (by rw [g5, e2]; exact hn) g3
    have h1 := hr1 (by omega)
    have hc := hw1.cur (by omega)
    unfold M.send
    dsimp only
    intro h
    by_cases hz : (M.pickup ps ch s).rest - (if (M.pickup ps ch s).ms.left < (M.pickup ps ch s).rest then (M.pickup ps ch s).ms.left else (M.pickup ps ch s).rest) = 0
    ·rw [if_pos hz] at h; omega
    ·rw [if_neg hz]
     split <;> omega
theorem part_run {σ : Type} {ch : MS → σ → Int × Nat × σ} {good : MS → σ → Prop} {rel : Nat → Nat → Prop} {classes : Nat} (hg : Fair ps ch good rel) (hs : ∀ p ∈ ps, 1 ≤ p.size) (hfl : ∀ p ∈ ps, 0 ≤ p.flow ∧ p.flow < classes) {cap : Int} (hcap : 0 ≤ cap) {sg : σ} (hst : good (start ps classes sg).ms sg) : ∀ (m : Nat), 0 ≤ (mrun ps ch cap classes m sg).cur → (mrun ps ch cap classes m sg).rest + 1 ≤ (nth ps (mrun ps ch cap classes m sg).cur.toNat).size
 | 0 => fun h => absurd (show (0 : Int) ≤ -1 from h) (by omega)
 | m + 1 => by
  obtain ⟨h1, h2, _, _⟩ := work_run hg hs hfl hcap hst m
  obtain ⟨w1, w2⟩ := h1.opened (cap := cap) hg h2
  rw [mrun_succ]
  exact part_inner hg hs hfl cap.toNat _ w1 (part_run hg hs hfl hcap hst m) rfl hcap
theorem last_idle {P : Nat → Prop} (h0 : P 0) : ∀ t : Nat, ∃ x, x ≤ t ∧ P x ∧ ∀ u, x < u → u ≤ t → ¬ P u
 | 0 => ⟨0, Nat.le_refl _, h0, fun u h1 h2 => by omega⟩
 | t + 1 => by
  by_cases h : P (t + 1)
  ·exact ⟨t + 1, Nat.le_refl _, h, fun u h1 h2 => by omega⟩
  ·obtain ⟨x, h1, h2, h3⟩ := last_idle h0 t
   refine ⟨x, by omega, h2, fun u h4 h5 => ?_⟩
   by_cases e : u = t + 1
   ·subst e; exact h
   ·exact h3 u h4 (by omega)
/-- what is open of a lesser class -/
def lowR (ps : List Pkt) (k : Nat) (s : RS Unit) : Int := if 0 ≤ s.cur ∧ (k : Int) < (nth ps s.cur.toNat).flow then s.rest else 0
/-- what has been sent of lesser classes, while a greater one is backlogged -/
theorem prio_low (hsort : ps.Pairwise fun a b => a.time ≤ b.time) (hs : ∀ p ∈ ps, 1 ≤ p.size) (hfl : ∀ p ∈ ps, 0 ≤ p.flow ∧ p.flow < n) (hk : k < n) {cap : Int} (hcap : 0 ≤ cap) {t : Nat} (hb : ∃ c : Nat, c ≤ k ∧ nth (nth (mrun ps (prioCh ps n) cap n (t + 1) ()).sent c) (t + 1) < pbytes c ((t : Int) + 1) ps) :
  (sumUp (fun c => nth (nth (mrun ps (prioCh ps n) cap n (t + 1) ()).sent c) (t + 1)) n - sumUp (fun c => nth (nth (mrun ps (prioCh ps n) cap n (t + 1) ()).sent c) (t + 1)) (k + 1)) + lowR ps k (mrun ps (prioCh ps n) cap n (t + 1) ()) =
  (sumUp (fun c => nth (nth (mrun ps (prioCh ps n) cap n t ()).sent c) t) n - sumUp (fun c => nth (nth (mrun ps (prioCh ps n) cap n t ()).sent c) t) (k + 1)) + lowR ps k (mrun ps (prioCh ps n) cap n t ()) := by
 have hg := prio_fair (ps := ps) (n := n) hsort
 have hst := prio_start (ps := ps) n
 have cl := fun c (hc : c < n) m => (clr_each (k := c) hg hs hfl hc hcap hst m).1
 obtain ⟨h1, h2, _, _⟩ := work_run hg hs hfl hcap hst t
 obtain ⟨w1, w2⟩ := h1.opened (cap := cap) hg h2
 have hop : ∀ c, c < n → Cl ps c (t + 1) (M.opened cap t (mrun ps (prioCh ps n) cap n t ())) := fun c hc => by
  unfold Cl
  rw [opened_nth h1 hc]; exact cl c hc t
 obtain ⟨_, hin⟩ := prio_inner hsort hs hfl hk cap.toNat _ w1 hop rfl hcap
 rw [← mrun_succ] at hin
 have hin := hin.resolve_right (fun h => by
  obtain ⟨c, hc1, hc2⟩ := hb
  have := h c hc1
  omega)
 have hbeg : ∀ c, k < c → c < n → begK c ps (mrun ps (prioCh ps n) cap n (t + 1) ()).ms.begun = begK c ps (mrun ps (prioCh ps n) cap n t ()).ms.begun := hin
 -- the sums of the lesser classes
 have key : ∀ u : Nat, (sumUp (fun c => nth (nth (mrun ps (prioCh ps n) cap n u ()).sent c) u) n - sumUp (fun c => nth (nth (mrun ps (prioCh ps n) cap n u ()).sent c) u) (k + 1)) + lowR ps k (mrun ps (prioCh ps n) cap n u ()) = sumUp (fun c => begK c ps (mrun ps (prioCh ps n) cap n u ()).ms.begun) n - sumUp (fun c => begK c ps (mrun ps (prioCh ps n) cap n u ()).ms.begun) (k + 1) := fun u => by
  have e : ∀ j, j ≤ n → sumUp (fun c => nth (nth (mrun ps (prioCh ps n) cap n u ()).sent c) u) j = sumUp (fun c => begK c ps (mrun ps (prioCh ps n) cap n u ()).ms.begun) j - (if 0 ≤ (mrun ps (prioCh ps n) cap n u ()).cur ∧ (nth ps (mrun ps (prioCh ps n) cap n u ()).cur.toNat).flow < j then (mrun ps (prioCh ps n) cap n u ()).rest else 0) := fun j hj => by
   have w := (work_run hg hs hfl hcap hst u).1
   rw [sumUp_congr (g := fun c => begK c ps (mrun ps (prioCh ps n) cap n u ()).ms.begun - (if 0 ≤ (mrun ps (prioCh ps n) cap n u ()).cur then (if (nth ps (mrun ps (prioCh ps n) cap n u ()).cur.toNat).flow = (c : Int) then (mrun ps (prioCh ps n) cap n u ()).rest else 0) else 0)) (fun c hc => by
    have := cl c (by omega) u
    unfold Cl at this
    rw [this]
    by_cases h0 : 0 ≤ (mrun ps (prioCh ps n) cap n u ()).cur
    ·rw [if_pos h0]
     by_cases h1 : (nth ps (mrun ps (prioCh ps n) cap n u ()).cur.toNat).flow = (c : Int)
     ·rw [if_pos ⟨h0, h1⟩, if_pos h1]
     ·rw [if_neg (fun h => h1 h.2), if_neg h1]
    ·rw [if_neg (fun h => h0 h.1), if_neg h0]), sumUp_sub]
   by_cases h0 : 0 ≤ (mrun ps (prioCh ps n) cap n u ()).cur
   ·have hc := (w.cur h0).1
    have hf := hfl _ (nth_mem (xs := ps) (k := (mrun ps (prioCh ps n) cap n u ()).cur.toNat) (by omega))
    simp only [h0, if_true, true_and]
    rw [sumUp_one]
    simp only [hf.1, true_and]
   ·simp only [h0, if_false, false_and]
    have : ∀ j : Nat, sumUp (fun _ => (0 : Int)) j = 0 := by
     intro j
     induction j with
     | zero => rfl
     | succ j ih => simp only [sumUp]; omega
    rw [this]
  rw [e n (Nat.le_refl _), e (k + 1) (by omega)]
  unfold lowR
  by_cases h0 : 0 ≤ (mrun ps (prioCh ps n) cap n u ()).cur
  ·have hc := ((work_run hg hs hfl hcap hst u).1.cur h0).1
   have hf := hfl _ (nth_mem (xs := ps) (k := (mrun ps (prioCh ps n) cap n u ()).cur.toNat) (by omega))
   simp only [h0, true_and]
   rw [if_pos hf.2]
   by_cases h1 : (k : Int) < (nth ps (mrun ps (prioCh ps n) cap n u ()).cur.toNat).flow
   ·rw [if_neg (by omega), if_pos h1]; omega
   ·rw [if_pos (by omega), if_neg h1]; omega
  ·simp only [h0, false_and, if_false]; omega
 rw [key, key]
 have hsplit : ∀ (f g : Nat → Int), (∀ c, k < c → c < n → f c = g c) → sumUp f n - sumUp f (k + 1) = sumUp g n - sumUp g (k + 1) := fun f g h => by
  have : ∀ j, k + 1 ≤ j → j ≤ n → sumUp f j - sumUp f (k + 1) = sumUp g j - sumUp g (k + 1) := by
   intro j
   induction j with
   | zero => intro h1 _; omega
   | succ j ih =>
    intro h1 h2
    by_cases e : j + 1 = k + 1
    ·rw [e]; omega
    ·have a := ih (by omega) (by omega)
     have b := h j (by omega) (by omega)
     simp only [sumUp] at a ⊢; omega
  exact this n (by omega) (Nat.le_refl _)
 exact hsplit _ _ hbeg
/-- the theorem of priorities -/
theorem prio_serve (hsort : ps.Pairwise fun a b => a.time ≤ b.time) (hs : ∀ p ∈ ps, 1 ≤ p.size) (hfl : ∀ p ∈ ps, 0 ≤ p.flow ∧ p.flow < n) (h0 : ∀ p ∈ ps, 0 ≤ p.time) (hk : k < n) {cap : Int} (hcap : 0 ≤ cap) {Bk : Int} (hB0 : 0 ≤ Bk) (hB : ∀ p ∈ ps, (k : Int) < p.flow → p.size ≤ Bk + 1) {F : Nat → Nat → Int} (hF : ∀ c, c < k → ∀ x t : Nat, x ≤ t → pbytes c (t : Int) ps - pbytes c (x : Int) ps ≤ F c (t - x)) {m : Nat} :
  ∀ t : Nat, t ≤ m → ∃ x : Nat, x ≤ t ∧ pbytes k (x : Int) ps ≤ nth (nth (mrun ps (prioCh ps n) cap n m ()).sent k) t ∧ ∀ v : Nat, 1 ≤ v → v ≤ t - x → pbytes k (x : Int) ps + (cap * (v : Int) - (sumUp (fun c => F c v) k + Bk)) ≤ nth (nth (mrun ps (prioCh ps n) cap n m ()).sent k) t := by
 intro t ht
 have hg := prio_fair (ps := ps) (n := n) hsort
 have hst := prio_start (ps := ps) n
 have hby := prio_busy (ps := ps) hfl
 have hsz : ∀ p ∈ ps, 0 ≤ p.size := fun p hp => by have := hs p hp; omega
 have hle : ∀ u c, c < n → nth (nth (mrun ps (prioCh ps n) cap n u ()).sent c) u ≤ pbytes c (u : Int) ps := fun u c hc => (class_le hg hs hfl hc hcap hst (Nat.le_refl u) h0).1
 have hmono : ∀ c, c < n → ∀ d x : Nat, nth (nth (mrun ps (prioCh ps n) cap n x ()).sent c) x ≤ nth (nth (mrun ps (prioCh ps n) cap n (x + d) ()).sent c) (x + d) := fun c hc d => by
  induction d with
  | zero => intro x; exact Int.le_refl _
  | succ d ih =>
   intro x
   obtain ⟨h1, h2, _, _⟩ := work_run hg hs hfl hcap hst (x + d)
   obtain ⟨w1, w2⟩ := h1.opened (cap := cap) hg h2
   have hop : ∀ c, c < n → Cl ps c (x + d + 1) (M.opened cap (x + d) (mrun ps (prioCh ps n) cap n (x + d) ())) := fun c hc => by
    unfold Cl
    rw [opened_nth h1 hc]; exact (clr_each (k := c) hg hs hfl hc hcap hst (x + d)).1
   have h3 := (prio_inner hsort hs hfl hk cap.toNat _ w1 hop rfl hcap).1 c hc
   rw [← mrun_succ, opened_nth h1 hc] at h3
   exact Int.le_trans (ih x) h3
 -- the last tick at which nothing of the classes waits
 obtain ⟨x, hxt, hx, hlast⟩ := last_idle (P := fun u => ∀ c : Nat, c ≤ k → pbytes c (u : Int) ps ≤ nth (nth (mrun ps (prioCh ps n) cap n u ()).sent c) u) (fun c hc => by
  rw [show ((0 : Nat) : Int) = 0 from rfl, pbytes_zero ps h0]
  exact (class_le hg hs hfl (show c < n by omega) hcap hst (Nat.le_refl 0) h0).2) t
 have hxe : ∀ c, c ≤ k → nth (nth (mrun ps (prioCh ps n) cap n x ()).sent c) x = pbytes c (x : Int) ps := fun c hc => by
  have := hx c hc
  have := hle x c (by omega)
  omega
 have hbk : ∀ u, x < u → u ≤ t → ∃ c : Nat, c ≤ k ∧ nth (nth (mrun ps (prioCh ps n) cap n u ()).sent c) u < pbytes c (u : Int) ps := fun u h1 h2 => by
  apply Classical.byContradiction
  intro hn
  refine hlast u h1 h2 (fun c hc => ?_)
  apply Classical.byContradiction
  intro hlt
  exact hn ⟨c, hc, by omega⟩
 have hcol : ∀ u, colSum (mrun ps (prioCh ps n) cap n u ()).sent u = sumUp (fun c => nth (nth (mrun ps (prioCh ps n) cap n u ()).sent c) u) n := fun u => by
  rw [colSum_up, (work_run hg hs hfl hcap hst u).1.slen]
 -- tick by tick
 have hrun : ∀ d : Nat, x + d ≤ t →
   colSum (mrun ps (prioCh ps n) cap n (x + d) ()).sent (x + d) = colSum (mrun ps (prioCh ps n) cap n x ()).sent x + cap * (d : Int) ∧
   (sumUp (fun c => nth (nth (mrun ps (prioCh ps n) cap n (x + d) ()).sent c) (x + d)) n - sumUp (fun c => nth (nth (mrun ps (prioCh ps n) cap n (x + d) ()).sent c) (x + d)) (k + 1)) + lowR ps k (mrun ps (prioCh ps n) cap n (x + d) ()) =
   (sumUp (fun c => nth (nth (mrun ps (prioCh ps n) cap n x ()).sent c) x) n - sumUp (fun c => nth (nth (mrun ps (prioCh ps n) cap n x ()).sent c) x) (k + 1)) + lowR ps k (mrun ps (prioCh ps n) cap n x ()) := by
  intro d
  induction d with
  | zero => intro _; simp
  | succ d ih =>
   intro hd
   obtain ⟨i1, i2⟩ := ih (by omega)
   obtain ⟨c, hc1, hc2⟩ := hbk (x + d + 1) (by omega) (by omega)
   have e1 : ((x + d + 1 : Nat) : Int) = ((x + d : Nat) : Int) + 1 := by omega
   rw [e1] at hc2
   have hw := (work_run hg hs hfl hcap hst (x + d + 1)).2.2.2 hby (x + d) (by omega)
   have hlt : colSum (mrun ps (prioCh ps n) cap n (x + d + 1) ()).sent (x + d + 1) < pbytes (-1) (((x + d : Nat) : Int) + 1) ps := by
    rw [hcol, pbytes_up ps hfl]
    have h1 : ∀ c, c < n → nth (nth (mrun ps (prioCh ps n) cap n (x + d + 1) ()).sent c) (x + d + 1) ≤ pbytes c (((x + d : Nat) : Int) + 1) ps := fun c hc => by
     have := hle (x + d + 1) c hc
     rwa [e1] at this
    have h2 := sumUp_mem (f := fun c => pbytes c (((x + d : Nat) : Int) + 1) ps - nth (nth (mrun ps (prioCh ps n) cap n (x + d + 1) ()).sent c) (x + d + 1)) (i := 0) (c := c) (n := n) (Nat.zero_le _) (by omega) (fun j hj => by have := h1 j hj; omega)
    rw [sumUp_sub, sumUp_sub] at h2
    simp only [sumUp] at h2
    omega
   refine ⟨?_, ?_⟩
   ·rw [show x + (d + 1) = x + d + 1 by omega, hw, i1]
    have e2 : cap * ((d + 1 : Nat) : Int) = cap * (d : Int) + cap := by rw [Int.natCast_add, Int.mul_add]; simp
    rw [hw, i1] at hlt
    omega
   ·rw [show x + (d + 1) = x + d + 1 by omega, prio_low hsort hs hfl hk hcap ⟨c, hc1, hc2⟩]
    exact i2
 have hlx : lowR ps k (mrun ps (prioCh ps n) cap n x ()) ≤ Bk := by
  unfold lowR
  by_cases h : 0 ≤ (mrun ps (prioCh ps n) cap n x ()).cur ∧ (k : Int) < (nth ps (mrun ps (prioCh ps n) cap n x ()).cur.toNat).flow
  ·rw [if_pos h]
   have hc := ((work_run hg hs hfl hcap hst x).1.cur h.1).1
   have h1 := part_run hg hs hfl hcap hst x h.1
   have h2 := hB _ (nth_mem (xs := ps) (k := (mrun ps (prioCh ps n) cap n x ()).cur.toNat) (by omega)) h.2
   omega
  ·rw [if_neg h]; exact hB0
 have hl0 : ∀ u, 0 ≤ lowR ps k (mrun ps (prioCh ps n) cap n u ()) := fun u => by
  unfold lowR
  split
  ·rename_i h
   have := ((work_run hg hs hfl hcap hst u).1.cur h.1).2.2
   omega
  ·omega
 rw [run_at hg hs hfl hcap hst ht hk]
 have hk0 := hxe k (Nat.le_refl _)
 have hfin := hmono k hk
 refine ⟨x, hxt, ?_, fun v hv1 hv2 => ?_⟩
 ·have := hfin (t - x) x
  rw [show x + (t - x) = t by omega] at this
  omega
 ·have h1 := hfin (t - (x + v)) (x + v)
  rw [show x + v + (t - (x + v)) = t by omega] at h1
  obtain ⟨r1, r2⟩ := hrun v (by omega)
  rw [hcol, hcol] at r1
  have h2 := hl0 (x + v)
  -- the greater classes
  have h3 : sumUp (fun c => nth (nth (mrun ps (prioCh ps n) cap n (x + v) ()).sent c) (x + v)) k ≤ sumUp (fun c => nth (nth (mrun ps (prioCh ps n) cap n x ()).sent c) x) k + sumUp (fun c => F c v) k := by
   have h4 : sumUp (fun c => nth (nth (mrun ps (prioCh ps n) cap n (x + v) ()).sent c) (x + v) - nth (nth (mrun ps (prioCh ps n) cap n x ()).sent c) x) k ≤ sumUp (fun c => F c v) k := sumUp_le (fun c hc => by
    have a1 := hle (x + v) c (by omega)
    have a2 := hxe c (by omega)
    have a3 := hF c hc x (x + v) (by omega)
    rw [show x + v - x = v by omega] at a3
    omega)
   rw [sumUp_sub] at h4
   omega
  have e1 : sumUp (fun c => nth (nth (mrun ps (prioCh ps n) cap n (x + v) ()).sent c) (x + v)) (k + 1) = sumUp (fun c => nth (nth (mrun ps (prioCh ps n) cap n (x + v) ()).sent c) (x + v)) k + nth (nth (mrun ps (prioCh ps n) cap n (x + v) ()).sent k) (x + v) := rfl
  have e2 : sumUp (fun c => nth (nth (mrun ps (prioCh ps n) cap n x ()).sent c) x) (k + 1) = sumUp (fun c => nth (nth (mrun ps (prioCh ps n) cap n x ()).sent c) x) k + nth (nth (mrun ps (prioCh ps n) cap n x ()).sent k) x := rfl
  omega
end
end Go.Proofs.YthpblaoehlgpfaaGreat.M

/- Priorities, plain: the curve of a class is what it is served. No condition. -/
namespace Go.Proofs.YthpblaoehlgpfaaGreat.M
open Go Go.Proofs.YthpblaoehlgpfaaGreat.K

instance instCv : Inhabited Cv := ⟨zcv⟩
theorem total_cv : ∀ (l : List Cv) (s c : Cv), validB s = true → finB s = true → (∀ f ∈ l, validB f = true ∧ finB f = true) → totalGo s l = (c, 0) → finB c = true ∧ ∀ t, cvF c t = cvF s t + sumUp (fun i => cvF (nth l i) t) l.length
 | [], s, c, hv, hf, _, h => by
  simp only [totalGo, Prod.mk.injEq, and_true] at h
  subst h
  exact ⟨hf, fun t => by simp [sumUp]⟩
 | f :: l, s, c, hv, hf, hl, h => by
  have hff := hl f (by simp)
  simp only [totalGo] at h
  rcases sum_res hv hff.1 with e | ⟨c1, e1, e2, e3, e4⟩
  ·rw [e, if_pos (by decide)] at h
   have := congrArg Prod.snd h
   simp at this
  ·rw [e1, if_neg (by simp)] at h
   obtain ⟨i1, i2⟩ := total_cv l c1 c e2.valid (e4 hf hff.2) (fun f hf => hl f (by simp [hf])) h
   refine ⟨i1, fun t => ?_⟩
   rw [i2 t, e3, List.length_cons, sumUp_front]
   obtain ⟨_, n1, _, n2, _⟩ := norm_valid hv
   obtain ⟨_, n3, _, n4, _⟩ := norm_valid hff.1
   have e5 : plusF (normR s) (normR f) t = cvF s t + cvF f t := by
    unfold plusF
    rw [if_neg (fun h => h.elim (isInf_fin (by rw [n2]; exact hf) t) (isInf_fin (by rw [n4]; exact hff.2) t)), n1, n3]
   rw [e5]
   show _ = cvF s t + (cvF f t + sumUp (fun i => cvF (nth l i) t) l.length)
   omega
theorem zero_cv (t : Nat) : cvF zeroC t = 0 := by
 have := (line_facts (cap := 0) (by decide)).2.1
 have e : cvF zeroC = fun t : Nat => (0 : Int) * (t : Int) := this
 rw [e]; simp
/-- what is known of a class's curve, if all contracts are finite -/
theorem prio_case {cap cls : Int} {ls : List Cv} {z : List Sz} (h0 : chk18 cap cls z = 0) (hlen : ls.length = z.length) (hl : ∀ f ∈ ls, validB f = true ∧ finB f = true) :
  prioC cap cls ls z = (zcv, 3) ∨ ∃ (G : Nat → Int) (s p : Nat) (q : Int), prioC cap cls ls z = (⟨fvals G (s + p), p, q⟩, 0) ∧ FC G s p q ∧ ∀ u, G u = mostF (fun t : Nat => if t = 0 then 0 else cap * (t : Int) - (sumUp (fun i => cvF (nth ls i) t) cls.toNat + blkN cls z)) (u + 1) := by
 obtain ⟨p1, p2, p3, p4, p5, hz⟩ := chk18_ok h0
 have hav : allV ls = true := allV_iff.2 (fun c hc => (hl c hc).1)
 have hbk := blk_range (cls := cls) hz (Nat.le_refl _)
 have hp : prioC cap cls ls z = if (midC (totalC (ls.take cls.toNat)) (blkN cls z)).2 ≠ 0 then (zcv, (midC (totalC (ls.take cls.toNat)) (blkN cls z)).2) else restC cap (midC (totalC (ls.take cls.toNat)) (blkN cls z)).1 := by
  unfold prioC
  rw [if_neg (fun h => h h0), if_neg (by omega), if_neg (by rw [hav]; decide)]
 have hlt : ∀ f ∈ ls.take cls.toNat, validB f = true ∧ finB f = true := fun f hf => hl f (List.mem_of_mem_take hf)
 have htl : (ls.take cls.toNat).length = cls.toNat := by rw [List.length_take]; omega
 have hnt : ∀ i, i < cls.toNat → nth (ls.take cls.toNat) i = nth ls i := fun i hi => by
  unfold nth List.getD
  rw [List.getElem?_take, if_pos hi]
 rw [hp]
 rcases total_res (ls.take cls.toNat) zeroC zero_nrm.valid zero_nrm (fun f hf => (hlt f hf).1) with e | ⟨c, e, hn, hfc⟩
 ·have e' : midC (totalC (ls.take cls.toNat)) (blkN cls z) = (zcv, 3) := by unfold midC; rw [show totalC (ls.take cls.toNat) = (zcv, 3) from e, if_neg (by decide)]
  rw [e', if_pos (by decide)]; exact .inl rfl
 ·obtain ⟨hcf, hcv⟩ := total_cv (ls.take cls.toNat) zeroC c zero_nrm.valid rfl hlt e
  have e' : midC (totalC (ls.take cls.toNat)) (blkN cls z) = raiseC c (blkN cls z) := by unfold midC; rw [show totalC (ls.take cls.toNat) = (c, 0) from e, if_pos rfl]
  rw [e']
  rcases raise_res hn.valid (k := blkN cls z) (by unfold MAXV blkN; omega) with e2 | ⟨r, e2, hr, hrc, hrf⟩
  ·rw [e2, if_pos (by decide)]; exact .inl rfl
  ·rw [e2, if_neg (by simp)]
   have hrf := hrf hcf
   rcases rest_res (cap := cap) ⟨by omega, p2⟩ hr.valid with e3 | ⟨d, e3, hd, hdc, hdf⟩
   ·exact .inl e3
   ·right
    rcases valid_cases hd.valid with ⟨S, P, f1, f2, f3, f4, _⟩ | ⟨_, _, _, _, _, _, _, f5⟩
    ·refine ⟨cvF d, S, P, d.inc, by rw [e3]; exact congrArg (fun x => (x, (0 : Int))) f1, f4, fun u => ?_⟩
     rw [hdc, hr.norm]
     unfold restF
     have : rawL cap r = fun t : Nat => if t = 0 then 0 else cap * (t : Int) - (sumUp (fun i => cvF (nth ls i) t) cls.toNat + blkN cls z) := funext fun t => by
      unfold rawL
      rw [if_neg (isInf_fin hrf t), hrc, hn.norm]
      by_cases h : t = 0
      ·subst h
       rw [if_pos rfl, show raiseF c (blkN cls z) 0 = 0 from if_pos rfl]; simp
      ·rw [if_neg h]
       have : raiseF c (blkN cls z) t = cvF c t + blkN cls z := by
        unfold raiseF
        rw [if_neg h, if_neg (isInf_fin hcf t)]
       rw [this, hcv t, zero_cv, htl, sumUp_congr (fun i hi => by rw [hnt i hi])]
       omega
     rw [this]
    ·rw [hdf] at f5; cases f5
/-- and the class is served so much -/
theorem prio_full {ps : List Pkt} {n k : Nat} {cap : Int} {ls : List Cv} {z : List Sz} {G : Nat → Int} {s p : Nat} {q : Int} (hsort : ps.Pairwise fun a b => a.time ≤ b.time) (hs : ∀ p ∈ ps, 1 ≤ p.size) (hfl : ∀ p ∈ ps, 0 ≤ p.flow ∧ p.flow < n) (h0 : ∀ p ∈ ps, 0 ≤ p.time) (hk : k < n) (hcap : 0 ≤ cap) (hzn : z.length = n) (hzb : ∀ s ∈ z, 0 ≤ s.least ∧ s.least ≤ s.most ∧ s.most ≤ 1500) (hS : SzOf ps z)
  (hkeep : ∀ c, c < k → ∀ x t : Nat, x ≤ t → pbytes c (t : Int) ps - pbytes c (x : Int) ps ≤ cvF (nth ls c) (t - x)) (hfc : FC G s p q) (hG : ∀ u, G u = mostF (fun t : Nat => if t = 0 then 0 else cap * (t : Int) - (sumUp (fun i => cvF (nth ls i) t) k + blkN k z)) (u + 1)) {m : Nat} :
  (∀ t : Nat, t ≤ m → ∃ a : Nat, a ≤ t ∧ pbytes k (a : Int) ps + G (t - a) ≤ nth (nth (mrun ps (prioCh ps n) cap n m ()).sent k) t) ∧
  (∀ (F : Nat → Int) (d i T : Nat), (∀ x t : Nat, x ≤ t → pbytes k (t : Int) ps - pbytes k (x : Int) ps ≤ F (t - x)) → (∀ u, F u ≤ G (u + d)) → i < ps.length → (nth ps i).flow = k → (nth ps i).time = T → T + d < m → 0 ≤ nth (mrun ps (prioCh ps n) cap n m ()).done i ∧ nth (mrun ps (prioCh ps n) cap n m ()).done i ≤ (T : Int) + d) := by
 have hsz : ∀ p ∈ ps, 0 ≤ p.size := fun p hp => by have := hs p hp; omega
 have hbk := blk_range (cls := (k : Int)) hzb (Nat.le_refl _)
 have hserv : ∀ t : Nat, t ≤ m → ∃ a : Nat, a ≤ t ∧ pbytes k (a : Int) ps + G (t - a) ≤ nth (nth (mrun ps (prioCh ps n) cap n m ()).sent k) t := fun t ht => by
  obtain ⟨x, h1, h2, h3⟩ := prio_serve hsort hs hfl h0 hk hcap (Bk := blkN k z) hbk.1 (fun p hp hf => by
   obtain ⟨i, hi, e⟩ := List.getElem_of_mem hp
   have h2 := (hS i hi).2
   have hfp := hfl p hp
   rw [nth_eq hi, e] at h2
   have h4 := mostF_ge (f := blkF k z) (u := p.flow.toNat - (k + 1)) (n := z.length - ((k : Int) + 1).toNat) (by omega)
   have h5 : blkF k z (p.flow.toNat - (k + 1)) = (nth z p.flow.toNat).most - 1 := by
    unfold blkF
    have : nth (z.drop ((k : Int) + 1).toNat) (p.flow.toNat - (k + 1)) = nth z p.flow.toNat := by
     unfold nth List.getD
     rw [List.getElem?_drop]
     rw [show ((k : Int) + 1).toNat + (p.flow.toNat - (k + 1)) = p.flow.toNat by omega]
    rw [this]
   unfold blkN
   omega) hkeep t ht
  refine ⟨x, h1, ?_⟩
  rw [hG]
  have : mostF (fun t : Nat => if t = 0 then 0 else cap * (t : Int) - (sumUp (fun i => cvF (nth ls i) t) k + blkN k z)) (t - x + 1) ≤ nth (nth (mrun ps (prioCh ps n) cap n m ()).sent k) t - pbytes k (x : Int) ps := mostF_le (by omega) (fun u hu => by
   by_cases hu0 : u = 0
   ·rw [if_pos hu0]; omega
   ·rw [if_neg hu0]
    have := h3 u (by omega) (by omega)
    omega)
  omega
 refine ⟨hserv, fun F d i T hF hd hi hf hT hTm => ?_⟩
 have hg := prio_fair (ps := ps) (n := n) hsort
 have h1 := wait_bound (a := fun u => pbytes k (u : Int) ps) (v := fun u => nth (nth (mrun ps (prioCh ps n) cap n m ()).sent k) u) (F := F) (G := G) (m := m) (T := T) (d := d) hF (fun x t hxt => pbytes_mono (by omega) ps hsz) hfc.nonneg hserv hd (by omega)
 apply Classical.byContradiction
 intro hn2
 have h2 := late_less hg hs hfl hsort hk hcap (prio_start (ps := ps) n) (m := m) (n := i) (T := T) (t := T + d) hi hf hT hTm (by omega)
 have h3 : pbytes k ((T : Int) + 1) ps ≤ nth (nth (mrun ps (prioCh ps n) cap n m ()).sent k) (T + d + 1) := h1
 omega
end Go.Proofs.YthpblaoehlgpfaaGreat.M

/- Time slots, plain: a class's curve is what it is served, and greater packets have a lesser one. No condition. -/
namespace Go.Proofs.YthpblaoehlgpfaaGreat.M
open Go Go.Proofs.YthpblaoehlgpfaaGreat.K

theorem FC.valid {F : Nat → Int} {S P : Nat} {I : Int} (h : FC F S P I) : validB ⟨fvals F (S + P), P, I⟩ = true := by
 have hP := h.hP
 have hn := h.hn
 have hI := h.hI
 rw [validB_iff]
 dsimp only
 rw [fvals_len]
 refine ⟨⟨by omega, by omega, by omega, by omega, by omega, by omega, by unfold MAXV; omega⟩, fun i hi => ?_, ?_⟩
 ·rw [fvals_nth F hi]
  have a := h.nonneg i
  have b := h.hb i hi
  refine ⟨.inr ⟨a, by unfold MAXV; omega⟩, ?_⟩
  by_cases h0 : i = 0
  ·exact .inl h0
  ·right
   rw [fvals_nth F (by omega)]
   exact h.mono (show i - 1 ≤ i by omega)
 ·rw [fvals_nth F (by omega), if_neg (h.fin (by omega)), Int.toNat_natCast, fvals_nth F (by omega)]
  have h1 := h.hg (S + P - P) (by omega)
  have h2 := h.mono (show S + P - 1 ≤ S + P - P + P by omega)
  omega
theorem slotS_all {cap lost : Int} {mine : Nat → Bool} (h : ∀ i, mine i = true) (a : Nat) : ∀ d : Nat, slotS cap lost mine a d = (0, cap * d)
 | 0 => by simp [slotS]
 | d + 1 => by
  have : cap * ((d + 1 : Nat) : Int) = cap * (d : Int) + cap := by rw [Int.natCast_add, Int.mul_add]; simp
  rw [slotS, slotS_all h a d, if_pos (h _), this]
theorem mineT_all {cls : Int} {tb : List Int} (hn : 0 < tb.length) (h : allT cls tb = true) (i : Nat) : mineT tb cls i = true := by
 unfold mineT slotT
 rw [allT_iff.1 h _ (Nat.mod_lt _ hn)]
 simp
theorem slot_for {cap cls : Int} {tb : List Int} {z : List Sz} (h : (slotC cap cls tb z).2 = 0) : chkT cap cls tb z = 0 ∧ 1 ≤ (nth z cls.toNat).most ∧
  ∃ (G : Nat → Int) (s p : Nat) (q : Int), slotC cap cls tb z = (⟨fvals G (s + p), p, q⟩, 0) ∧ FC G s p q ∧ G 0 = 0 ∧ (∀ a d : Nat, G d ≤ cntS cap ((nth z cls.toNat).most - 1) (mineT tb cls) a d) ∧
   (allT cls tb = true → G = lineF cap ((nth z cls.toNat).most - 1)) ∧ (¬ allT cls tb = true → G = slotF cap ((nth z cls.toNat).most - 1) (mineT tb cls) tb.length) := by
 by_cases h0 : chkT cap cls tb z = 0
 ·by_cases h1 : someT cls tb = false ∨ (nth z cls.toNat).most < 1
  ·have : slotC cap cls tb z = (zcv, 5) := by unfold slotC; rw [if_neg (fun h => h h0), if_pos h1]
   rw [this] at h; cases h
  ·have hm1 : 1 ≤ (nth z cls.toNat).most := by
    apply Classical.byContradiction
    intro hn; exact h1 (.inr (by omega))
   refine ⟨h0, hm1, ?_⟩
   obtain ⟨c1, c2, k1, k2, zl, ⟨t1, t2, _⟩, hz⟩ := chkT_ok h0
   have hzk := hz _ (nth_mem (xs := z) (k := cls.toNat) (by omega))
   by_cases ha : allT cls tb = true
   ·by_cases hf : 400 * cap < (nth z cls.toNat).most - 1
    ·have : slotC cap cls tb z = (zcv, 3) := by unfold slotC; rw [if_neg (fun h => h h0), if_neg h1, if_pos ha, if_pos hf]
     rw [this] at h; cases h
    ·have e0 : slotC cap cls tb z = madeR ⟨fvals (lineF cap ((nth z cls.toNat).most - 1)) 401, 1, cap⟩ := by unfold slotC; rw [if_neg (fun h => h h0), if_neg h1, if_pos ha, if_neg hf]
     have e1 := line_build (cap := cap) (lost := (nth z cls.toNat).most - 1) (by omega) (by omega)
     rw [if_neg hf] at e1
     obtain ⟨q1, q2, q3⟩ := lost_quo (cap := cap) (lost := (nth z cls.toNat).most - 1) (by omega) (by omega)
     have hb : ∀ t : Nat, t ≤ 2000 → lineF cap ((nth z cls.toNat).most - 1) t < INF := fun t ht => by
      have h1 := (lineF_bound (cap := cap) (lost := (nth z cls.toNat).most - 1) (by omega) (by omega) t).2
      have h2 := (mulB (a := cap) (b := (t : Int)) (A := 4000) (B := 2000) (by omega) (by omega)).2
      unfold INF; omega
     rcases build_fc (P := 1) (by omega) (by omega) (lineF_grows (cap := cap) (by omega) q1) (fun t => lineF_mono (by omega) t) (lineF_bound (by omega) (by omega) 0).1 (fun t ht => hb t (by omega)) with e | ⟨s, p, q, e, hfc⟩
     ·rw [e0, ← e1, e] at h; cases h
     ·refine ⟨_, s, p, q, by rw [e0, ← e1, e], hfc, ?_, fun a d => ?_, fun _ => rfl, fun hna => absurd ha hna⟩
      ·unfold lineF; simp; omega
      ·unfold cntS
       rw [slotS_all (mineT_all (by omega) ha)]
       unfold lineF
       dsimp only; omega
   ·obtain ⟨b, _, hb⟩ := allT_not ha
    have e0 : slotC cap cls tb z = madeR ⟨fvals (slotF cap ((nth z cls.toNat).most - 1) (mineT tb cls) tb.length) (3 * tb.length + tb.length), tb.length,
  slotF cap ((nth z cls.toNat).most - 1) (mineT tb cls) tb.length (4 * tb.length - 1) - slotF cap ((nth z cls.toNat).most - 1) (mineT tb cls) tb.length (3 * tb.length - 1)⟩ := by unfold slotC; rw [if_neg (fun h => h h0), if_neg h1, if_neg ha]
    obtain ⟨i1, hg, i2, e1⟩ := slot_build (cap := cap) (lost := (nth z cls.toNat).most - 1) (mine := mineT tb cls) (n := tb.length) (by omega) (by omega) (fun i => mineT_per i) (by omega) hb
    rw [← e1] at e0
    have hbd : ∀ t : Nat, t ≤ 2000 → slotF cap ((nth z cls.toNat).most - 1) (mineT tb cls) tb.length t ≤ 8000000 := fun t ht => by
     have h1 := (slotF_bound (cap := cap) (lost := (nth z cls.toNat).most - 1) (mine := mineT tb cls) (n := tb.length) (by omega) (by omega) (by omega) t).2
     have h2 := (mulB (a := cap) (b := (t : Int)) (A := 4000) (B := 2000) (by omega) (by omega)).2
     omega
    obtain ⟨s, p, q, e, hfc, _, _⟩ := build_ok (by omega) ⟨i2, by have := hbd (2 * tb.length) (by omega); have := (slotF_bound (cap := cap) (lost := (nth z cls.toNat).most - 1) (mine := mineT tb cls) (n := tb.length) (by omega) (by omega) (by omega) tb.length).1; omega⟩ (by omega) hg (fun t => slotF_mono (by omega) (by omega) t) (slotF_bound (by omega) (by omega) (by omega) 0).1 (fun t ht => by have := hbd t (by omega); omega)
    refine ⟨_, s, p, q, by rw [e0, e], hfc, ?_, fun a d => slotF_le (by omega) a d, fun h => absurd h ha, fun _ => rfl⟩
    have := slotF_bound (cap := cap) (lost := (nth z cls.toNat).most - 1) (mine := mineT tb cls) (n := tb.length) (by omega) (by omega) (by omega) 0
    simp at this; omega
 ·have : slotC cap cls tb z = (zcv, chkT cap cls tb z) := if_pos h0
  rw [this] at h
  exact absurd h h0
end Go.Proofs.YthpblaoehlgpfaaGreat.M

/- Lines with any of the schedulers, plain: delays, backlogs, peaks; their curves are valid. No condition. -/
namespace Go.Proofs.YthpblaoehlgpfaaGreat.M
open Go Go.Proofs.YthpblaoehlgpfaaGreat.K
def backC (a b : Cv) : (Bool × Int × Int) × Int := devN (normR a) (normR b) (gapA (normR a) (normR b) 0)
def peakC (a b : Cv) : (Bool × Int × Int) × Int := devN (normR a) (normR b) (gapA (normR a) (normR b) 1)
def measL (D : Cv → Cv → (Bool × Int × Int) × Int) (L : Ln) (cls : Int) (ls : List Cv) (z : List Sz) : (Bool × Int × Int) × Int :=
  if (curveL L cls ls z).2 ≠ 0 then ((false, 0, 0), (curveL L cls ls z).2) else D (nth ls cls.toNat) (curveL L cls ls z).1
def delayL (L : Ln) (cls : Int) (ls : List Cv) (z : List Sz) : (Bool × Int × Int) × Int :=
  if L.kind ≠ 1 then measL delayC L cls ls z else if argE L cls ls z ≠ 0 then ((false, 0, 0), argE L cls ls z) else allC L.cap ls
theorem waitL_len {v : Int} (h : 0 ≤ v) : (waitL v).length = (v + 2).toNat := by simp [waitL]
theorem waitL_nth {v : Int} (h : 0 ≤ v) {i : Nat} (hi : i < (v + 2).toNat) : nth (waitL v) i = if i = (v + 1).toNat then INF else 0 := by
 unfold waitL
 by_cases e : i = (v + 1).toNat
 ·rw [if_pos e, e, nth_set_self (by rw [List.length_replicate]; omega)]
 ·rw [if_neg e, nth_set_ne (fun h => e h.symm), nth_replicate hi]
theorem wait_valid {v : Int} (h : 0 ≤ v ∧ v ≤ 398) : validB ⟨waitL v, 1, 0⟩ = true := by
 unfold validB
 have hl := waitL_len h.1
 dsimp only
 rw [hl]
 have hlast : nth (waitL v) ((v + 2).toNat - 1) = INF := by rw [waitL_nth h.1 (by omega), if_pos (by omega)]
 rw [hlast, if_pos rfl]
 simp only [Bool.and_eq_true, decide_eq_true_eq, List.all_eq_true, List.mem_range, Bool.or_eq_true, beq_iff_eq]
 refine ⟨⟨⟨⟨⟨⟨⟨⟨by omega, by omega⟩, by omega⟩, by omega⟩, by omega⟩, by omega⟩, by decide⟩, fun i hi => ⟨?_, ?_⟩⟩, trivial, trivial⟩
 ·rw [waitL_nth h.1 hi]
  split
  ·exact .inl rfl
  ·exact .inr ⟨by decide, by decide⟩
 ·by_cases h0 : i = 0
  ·exact .inl h0
  ·right
   rw [waitL_nth h.1 hi, waitL_nth h.1 (show i - 1 < _ by omega), if_neg (show ¬ i - 1 = (v + 1).toNat by omega)]
   split <;> decide
theorem waitC_valid {v : Int} (h : (waitC v).2 = 0) : validB (waitC v).1 = true := by
 unfold waitC at h ⊢
 by_cases h1 : v < 0
 ·rw [if_pos h1] at h; cases h
 ·rw [if_neg h1] at h ⊢
  by_cases h2 : 398 < v
  ·rw [if_pos h2] at h; cases h
  ·rw [if_neg h2]; exact wait_valid ⟨by omega, by omega⟩
theorem fifoC_valid {cap : Int} {ls : List Cv} (h : (fifoC cap ls).2 = 0) : validB (fifoC cap ls).1 = true := by
 unfold fifoC at h ⊢
 by_cases h1 : (allC cap ls).2 ≠ 0
 ·rw [if_pos h1] at h; exact absurd h h1
 ·rw [if_neg h1] at h ⊢
  by_cases h2 : (allC cap ls).1.1 = true
  ·rw [if_pos h2] at h; cases h
  ·rw [if_neg h2] at h ⊢; exact waitC_valid h
theorem prioC_valid {cap cls : Int} {ls : List Cv} {z : List Sz} (hl : ∀ c ∈ ls, validB c = true) (h : (prioC cap cls ls z).2 = 0) : validB (prioC cap cls ls z).1 = true := by
 unfold prioC at h ⊢
 by_cases h1 : chk18 cap cls z ≠ 0
 ·rw [if_pos h1] at h; exact absurd h h1
 ·rw [if_neg h1] at h ⊢
  obtain ⟨p1, p2, p3, p4, p5, hz⟩ := chk18_ok (show chk18 cap cls z = 0 by omega)
  by_cases h2 : ls.length ≠ z.length
  ·rw [if_pos h2] at h; cases h
  ·rw [if_neg h2] at h ⊢
   by_cases h3 : allV ls = false
   ·rw [if_pos h3] at h; cases h
   ·rw [if_neg h3] at h ⊢
    have hb : 0 ≤ blkN cls z ∧ blkN cls z ≤ 1499 := blk_range hz (Nat.le_refl _)
    rcases mid_res (l := ls.take cls.toNat) (fun c hc => hl c (List.mem_of_mem_take hc)) (k := blkN cls z) ⟨hb.1, by have : MAXV = 1073741824 := rfl; omega⟩ with e | ⟨c, e, hn⟩
    ·rw [e, if_pos (by decide)] at h; cases h
    ·rw [e, if_neg (fun hh => hh rfl)] at h ⊢
     rcases rest_res (cap := cap) (g := c) ⟨by omega, by omega⟩ hn.valid with e2 | ⟨c2, e2, hn2, _⟩
     ·dsimp only at h; rw [e2] at h; cases h
     ·dsimp only; rw [e2]; exact hn2.valid
theorem sched_valid {L : Ln} {cls : Int} {ls : List Cv} {z : List Sz} (hl : ∀ c ∈ ls, validB c = true) (h : (schedC L cls ls z).2 = 0) : validB (schedC L cls ls z).1 = true := by
 unfold schedC at h ⊢
 by_cases k1 : L.kind = 1
 ·rw [if_pos k1] at h ⊢; exact fifoC_valid h
 ·rw [if_neg k1] at h ⊢
  by_cases k2 : L.kind = 2
  ·rw [if_pos k2] at h ⊢; exact prioC_valid hl h
  ·rw [if_neg k2] at h ⊢
   by_cases k3 : L.kind = 3
   ·rw [if_pos k3] at h ⊢
    obtain ⟨_, _, G, s, p, q, hc⟩ := rob_for h
    rw [hc.1]; exact hc.2.1.valid
   ·rw [if_neg k3] at h ⊢
    by_cases k4 : L.kind = 4
    ·rw [if_pos k4] at h ⊢
     obtain ⟨_, _, G, s, p, q, hc⟩ := def_for h
     rw [hc.1]; exact hc.2.1.valid
    ·rw [if_neg k4] at h ⊢
     obtain ⟨_, _, G, s, p, q, hc, hf, _⟩ := slot_for h
     rw [hc]; exact hf.valid
end Go.Proofs.YthpblaoehlgpfaaGreat.M
