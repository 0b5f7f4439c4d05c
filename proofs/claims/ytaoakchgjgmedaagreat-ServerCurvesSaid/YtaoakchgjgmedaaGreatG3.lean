/- Rules and walks, joined from 34 texts: the first of them says: The curve of deficit round robin, plain: it repeats itself from some tick on, so that the program's and the references' forms are one. No condition. -/
import Derived.Test.YtaoakchgjgmedaaGreatG2
import Derived.WideMake
namespace Go.Proofs.YtaoakchgjgmedaaGreat.M
open Go Go.Proofs.YtaoakchgjgmedaaGreat.K
def xSum (k : Int) (w : List Int) (z : List Sz) : Nat → Int
  | 0 => 0
  | n + 1 => xSum k w z n + (if (n : Int) ≠ k ∧ 1 ≤ (nth z n).most then nth w n else 0)
def zSum (k : Int) (z : List Sz) : Nat → Int
  | 0 => 0
  | n + 1 => zSum k z n + (if (n : Int) ≠ k ∧ 1 ≤ (nth z n).most then (nth z n).most - 1 else 0)
theorem xSum_bound {k : Int} {w : List Int} {z : List Sz} (hw : ∀ x ∈ w, 1 ≤ x ∧ x ≤ 6000) : ∀ n : Nat, n ≤ w.length → 0 ≤ xSum k w z n ∧ xSum k w z n ≤ 6000 * n
 | 0, _ => by simp [xSum]
 | n + 1, h1 => by
  have ih := xSum_bound (k := k) (z := z) hw n (by omega)
  have a := hw _ (nth_mem (xs := w) (k := n) (by omega))
  simp only [xSum]
  split <;> omega
theorem zSum_bound {k : Int} {z : List Sz} (hz : ∀ s ∈ z, 0 ≤ s.least ∧ s.least ≤ s.most ∧ s.most ≤ 1500) : ∀ n : Nat, n ≤ z.length → 0 ≤ zSum k z n ∧ zSum k z n ≤ 1500 * n
 | 0, _ => by simp [zSum]
 | n + 1, h1 => by
  have ih := zSum_bound (k := k) hz n (by omega)
  have a := hz _ (nth_mem (xs := z) (k := n) (by omega))
  simp only [zSum]
  split <;> omega
def allD (s q l z y : Int) : Int := y + (s - q) * ((y + l - 1) / q + 1) + z
def defH (cap s q l z : Int) (t y : Nat) : Bool := decide (allD s q l z (y : Int) ≥ cap * t)
def defFn (cap s q l z : Int) (t : Nat) : Int := leastY (defH cap s q l z t) (cap * t).toNat
def startD (cap s q l z : Int) : Int := if 2 ≤ l then (allD s q l z (-1)).tdiv cap + 1 else if 1 ≤ z then (z - 1) / cap + 1 else 0
def fromD (cap s q l z : Int) : Int := ((s - q) * ((l - 1) / q + 1) + z) / cap + 1
def defC (cap k : Int) (w : List Int) (z : List Sz) : Cv × Int :=
  if chkW 6000 cap k w z ≠ 0 then (zcv, chkW 6000 cap k w z) else if (nth z k.toNat).most < 1 then (zcv, 5) else
    let q := nth w k.toNat
    let l := (nth z k.toNat).most
    let s := shortN (q + xSum k w z w.length).toNat cap.toNat
    let zz := zSum k z w.length
    if s = -1 then (zcv, 3) else
      let p := s.toNat / Nat.gcd s.toNat cap.toNat
      if 400 < fromD cap s q l zz then (zcv, 3)
      else madeR ⟨fvals (defFn cap s q l zz) ((fromD cap s q l zz).toNat + p), p, cap * p / s * q⟩
section
variable {cap s q l z : Int}
theorem allD_mono (hq : 0 < q) (hs : q ≤ s) {y y' : Int} (h : y ≤ y') : allD s q l z y ≤ allD s q l z y' := by
 unfold allD
 have h1 : (y + l - 1) / q ≤ (y' + l - 1) / q := Int.ediv_le_ediv hq (by omega)
 have h2 : (s - q) * ((y + l - 1) / q + 1) ≤ (s - q) * ((y' + l - 1) / q + 1) := Int.mul_le_mul_of_nonneg_left (by omega) (by omega)
 omega
theorem allD_ge (hq : 0 < q) (hs : q ≤ s) (hz : 0 ≤ z) {y : Int} (h : 0 ≤ y + l - 1) : y ≤ allD s q l z y := by
 unfold allD
 have h1 : 0 ≤ (y + l - 1) / q := Int.ediv_nonneg h (by omega)
 have h2 : 0 ≤ (s - q) * ((y + l - 1) / q + 1) := Int.mul_nonneg (by omega) (by omega)
 omega
theorem defH_bound (hq : 0 < q) (hs : q ≤ s) (hl : 1 ≤ l) (hz : 0 ≤ z) (t : Nat) (hc : 0 ≤ cap) : defH cap s q l z t (cap * t).toNat = true := by
 unfold defH
 have h1 : 0 ≤ cap * (t : Int) := Int.mul_nonneg hc (by omega)
 have h2 := allD_ge (l := l) hq hs hz (y := (((cap * t).toNat : Nat) : Int)) (by omega)
 exact decide_eq_true (by omega)
theorem defH_mono (hq : 0 < q) (hs : q ≤ s) {t y y' : Nat} (h : defH cap s q l z t y = true) (hy : y ≤ y') : defH cap s q l z t y' = true := by
 unfold defH at h ⊢
 have h0 := of_decide_eq_true h
 have := allD_mono (l := l) (z := z) hq hs (y := y) (y' := y') (by omega)
 exact decide_eq_true (by omega)
theorem allD_shift (hq : 0 < q) (y : Int) (m : Int) : allD s q l z (y + m * q) = allD s q l z y + m * s := by
 unfold allD
 have e1 : (y + m * q + l - 1) / q = (y + l - 1) / q + m := by
  rw [show y + m * q + l - 1 = y + l - 1 + m * q by omega]
  exact Int.add_mul_ediv_right _ _ (by omega)
 rw [e1]
 have e2 : (s - q) * ((y + l - 1) / q + m + 1) = (s - q) * ((y + l - 1) / q + 1) + (m * s - m * q) := by
  rw [show (y + l - 1) / q + m + 1 = ((y + l - 1) / q + 1) + m by omega, Int.mul_add, Int.sub_mul s q m, Int.mul_comm s, Int.mul_comm q m]
 rw [e2]
 generalize m * s = a
 generalize m * q = b
 omega
theorem capt {p m : Nat} (hm : cap * (p : Int) = (m : Int) * s) (t : Nat) : cap * ((t + p : Nat) : Int) = cap * (t : Int) + (m : Int) * s := by rw [Int.natCast_add, Int.mul_add, hm]
theorem defH_shift {qn p m : Nat} (hq : 0 < qn) (hm : cap * (p : Int) = (m : Int) * s) (t y : Nat) : defH cap s qn l z (t + p) (y + m * qn) = defH cap s qn l z t y := by
 unfold defH
 rw [capt hm, Int.natCast_add, Int.natCast_mul, allD_shift (by omega)]
 apply decide_eq_decide.2
 generalize (m : Int) * s = a
 omega
theorem defH_low {qn p m : Nat} (hq : 0 < qn) (hs : (qn : Int) ≤ s) (hm : cap * (p : Int) = (m : Int) * s) {t y : Nat} (ht : allD s qn l z (-1) < cap * t) (hy : y < m * qn) : defH cap s qn l z (t + p) y = false := by
 unfold defH
 apply decide_eq_false
 rw [capt hm]
 have h1 := allD_mono (l := l) (z := z) (s := s) (q := (qn : Int)) (by omega) hs (y := (y : Int)) (y' := -1 + (m : Int) * (qn : Int)) (by rw [← Int.natCast_mul]; omega)
 rw [allD_shift (by omega)] at h1
 generalize (m : Int) * s = a at *
 omega
theorem start_low (hc : 0 < cap) (hq : 0 < q) (hs : q ≤ s) (hl : 1 ≤ l) (hz : 0 ≤ z) {t : Nat} (ht : startD cap s q l z ≤ t) : allD s q l z (-1) < cap * t := by
 have h0 : 0 ≤ cap * (t : Int) := Int.mul_nonneg (by omega) (by omega)
 unfold startD at ht
 by_cases h2 : 2 ≤ l
 ·rw [if_pos h2] at ht
  by_cases hn : allD s q l z (-1) < 0
  ·omega
  ·rw [Int.tdiv_eq_ediv_of_nonneg (by omega)] at ht
   have h3 := Int.lt_mul_ediv_self_add (x := allD s q l z (-1)) hc
   have h4 : cap * (allD s q l z (-1) / cap) + cap ≤ cap * t := by
    have := Int.mul_le_mul_of_nonneg_left ht (show 0 ≤ cap by omega)
    rw [Int.mul_add, Int.mul_one] at this
    exact this
   omega
 ·rw [if_neg h2] at ht
  have e : allD s q l z (-1) = z - 1 := by
   unfold allD
   have : ((-1 : Int) + l - 1) / q = -1 := by
    rw [show (-1 : Int) + l - 1 = -1 by omega]
    rw [Int.ediv_eq_iff_of_pos hq]
    omega
   rw [this]
   simp; omega
  rw [e]
  by_cases h1 : 1 ≤ z
  ·rw [if_pos h1] at ht
   have h3 := Int.lt_mul_ediv_self_add (x := z - 1) hc
   have h4 : cap * ((z - 1) / cap) + cap ≤ cap * t := by
    have := Int.mul_le_mul_of_nonneg_left ht (show 0 ≤ cap by omega)
    rw [Int.mul_add, Int.mul_one] at this
    exact this
   omega
  ·omega
theorem all0 : allD s q l z 0 = (s - q) * ((l - 1) / q + 1) + z := by unfold allD; rw [Int.zero_add, Int.zero_add]
theorem start_bound (hc : 0 < cap) (hq : 0 < q) (hs : q ≤ s) (hl : 1 ≤ l) (hz : 0 ≤ z) : 0 ≤ startD cap s q l z ∧ startD cap s q l z ≤ fromD cap s q l z ∧ 1 ≤ fromD cap s q l z := by
 have h0 := allD_ge (l := l) hq hs hz (y := 0) (by omega)
 have hf : 0 ≤ allD s q l z 0 / cap := Int.ediv_nonneg h0 (by omega)
 unfold startD fromD
 rw [← all0]
 by_cases h2 : 2 ≤ l
 ·rw [if_pos h2]
  have h1 := allD_ge (l := l) hq hs hz (y := -1) (by omega)
  have hm := allD_mono (l := l) (z := z) hq hs (y := -1) (y' := 0) (by omega)
  by_cases hn : allD s q l z (-1) < 0
  ·have e : allD s q l z (-1) = -1 := by omega
   rw [e]
   have : -1 ≤ (-1 : Int).tdiv cap ∧ (-1 : Int).tdiv cap ≤ 0 := by
    rw [Int.neg_tdiv, Int.tdiv_eq_ediv_of_nonneg (by omega)]
    have a1 : (0 : Int) ≤ 1 / cap := Int.ediv_nonneg (by omega) (by omega)
    have a2 : (1 : Int) / cap ≤ 1 := Int.ediv_le_self _ (by omega)
    omega
   omega
  ·rw [Int.tdiv_eq_ediv_of_nonneg (by omega)]
   have a1 : 0 ≤ allD s q l z (-1) / cap := Int.ediv_nonneg (by omega) (by omega)
   have a2 : allD s q l z (-1) / cap ≤ allD s q l z 0 / cap := Int.ediv_le_ediv hc hm
   omega
 ·rw [if_neg h2]
  by_cases h1 : 1 ≤ z
  ·rw [if_pos h1]
   have hz0 : z - 1 ≤ allD s q l z 0 := by
    unfold allD
    have h1 : 0 ≤ (0 + l - 1) / q := Int.ediv_nonneg (by omega) (by omega)
    have h2 : 0 ≤ (s - q) * ((0 + l - 1) / q + 1) := Int.mul_nonneg (by omega) (by omega)
    omega
   have a1 : 0 ≤ (z - 1) / cap := Int.ediv_nonneg (by omega) (by omega)
   have a2 : (z - 1) / cap ≤ allD s q l z 0 / cap := Int.ediv_le_ediv hc hz0
   omega
  ·rw [if_neg h1]; omega
theorem defFn_grows {p m : Nat} (hc : 0 < cap) (hq : 0 < q) (hs : q ≤ s) (hl : 1 ≤ l) (hz : 0 ≤ z) (hm : cap * (p : Int) = (m : Int) * s) {S : Nat} (hS : startD cap s q l z ≤ S) : Grows (defFn cap s q l z) S p ((m : Int) * q) := by
 intro t ht
 obtain ⟨qn, rfl⟩ := Int.eq_ofNat_of_zero_le (show 0 ≤ q by omega)
 have hqn : 0 < qn := by omega
 have hc0 : 0 ≤ cap := by omega
 obtain ⟨a1, a2, a3⟩ := leastY_is (defH_bound hq hs hl hz t hc0)
 unfold defFn
 rw [leastY_eq (defH_bound hq hs hl hz (t + p) hc0) (lo := leastY (defH cap s qn l z t) (cap * t).toNat + m * qn) (by rw [defH_shift hqn hm]; exact a2) (fun j hj => ?_)]
 ·rw [Int.natCast_add, Int.natCast_mul]
 ·by_cases h : j < m * qn
  ·exact defH_low hqn hs hm (start_low hc hq hs hl hz (by omega)) h
  ·obtain ⟨y, rfl⟩ : ∃ y, j = y + m * qn := ⟨j - m * qn, by omega⟩
   rw [defH_shift hqn hm]
   exact a3 y (by omega)
theorem defH_less (hc : 0 ≤ cap) {t y : Nat} (h : defH cap s q l z (t + 1) y = true) : defH cap s q l z t y = true := by
 unfold defH at h ⊢
 have h0 := of_decide_eq_true h
 have h1 : cap * ((t + 1 : Nat) : Int) = cap * (t : Int) + cap := by rw [Int.natCast_add, Int.mul_add]; simp
 rw [h1] at h0
 exact decide_eq_true (by omega)
theorem defFn_mono (hc : 0 ≤ cap) (hq : 0 < q) (hs : q ≤ s) (hl : 1 ≤ l) (hz : 0 ≤ z) (t : Nat) : defFn cap s q l z t ≤ defFn cap s q l z (t + 1) := by
 obtain ⟨a1, a2, a3⟩ := leastY_is (defH_bound hq hs hl hz t hc)
 obtain ⟨b1, b2, b3⟩ := leastY_is (defH_bound hq hs hl hz (t + 1) hc)
 unfold defFn
 apply Int.ofNat_le.2
 apply Classical.byContradiction
 intro h
 have := a3 _ (Nat.lt_of_not_le h)
 rw [defH_less hc b2] at this
 cases this
theorem defFn_bound (hc : 0 ≤ cap) (hq : 0 < q) (hs : q ≤ s) (hl : 1 ≤ l) (hz : 0 ≤ z) (t : Nat) : 0 ≤ defFn cap s q l z t ∧ defFn cap s q l z t ≤ cap * t := by
 obtain ⟨a1, a2, a3⟩ := leastY_is (defH_bound hq hs hl hz t hc)
 unfold defFn
 have : 0 ≤ cap * (t : Int) := Int.mul_nonneg hc (by omega)
 omega
theorem defFn_zero (hc : 0 < cap) (hq : 0 < q) (hs : q ≤ s) (hl : 1 ≤ l) (hz : 0 ≤ z) {t : Nat} (ht : (t : Int) < fromD cap s q l z) : defFn cap s q l z t = 0 := by
 have h0 : defH cap s q l z t 0 = true := by
  unfold defH
  apply decide_eq_true
  unfold fromD at ht
  rw [← all0] at ht
  have h1 : cap * (t : Int) ≤ cap * (allD s q l z 0 / cap) := Int.mul_le_mul_of_nonneg_left (by omega) (by omega)
  have h2 := Int.mul_ediv_self_le (x := allD s q l z 0) (k := cap) (by omega)
  show allD s q l z ((0 : Nat) : Int) ≥ _
  exact Int.le_trans h1 h2
 unfold defFn
 rw [leastY_eq (defH_bound hq hs hl hz t (by omega)) h0 (fun j hj => by omega)]
 rfl
theorem def_build {p m : Nat} (hc : 0 < cap ∧ cap ≤ 4000) (hq : 0 < q) (hs : q ≤ s) (hl : 1 ≤ l) (hz : 0 ≤ z) (hp : 0 < p ∧ p ≤ 120) (hm : cap * (p : Int) = (m : Int) * s) (hst : startD cap s q l z ≤ 400) :
  mbuild (defFn cap s q l z) (startD cap s q l z).toNat p ((m : Int) * q) = if 400 < fromD cap s q l z then (zcv, 3) else madeR ⟨fvals (defFn cap s q l z) ((fromD cap s q l z).toNat + p), p, (m : Int) * q⟩ := by
 obtain ⟨b1, b2, b3⟩ := start_bound (cap := cap) hc.1 hq hs hl hz
 have hm1 : 0 < (m : Int) := by
  have h1 : 0 < cap * (p : Int) := Int.mul_pos hc.1 (by omega)
  rw [hm] at h1
  by_cases h : (m : Int) = 0
  ·rw [h, Int.zero_mul] at h1; omega
  ·omega
 have hI : 0 < (m : Int) * q := Int.mul_pos hm1 hq
 have hb : ∀ t : Nat, t ≤ 1000 → defFn cap s q l z t < INF := fun t ht => by
  have h1 := (defFn_bound (cap := cap) (by omega) hq hs hl hz t).2
  have h2 := (mulB (a := cap) (b := (t : Int)) (A := 4000) (B := 1000) (by omega) (by omega)).2
  unfold INF; omega
 have hg := defFn_grows (S := (startD cap s q l z).toNat) hc.1 hq hs hl hz hm (by omega)
 have hf : ∀ t, t < (startD cap s q l z).toNat + p → defFn cap s q l z t < INF := fun t ht => hb t (by omega)
 have hne : ∀ t, t < (startD cap s q l z).toNat + p → defFn cap s q l z t ≠ INF := fun t ht => by have := hf t ht; omega
 rw [mbuild_fin hne]
 by_cases hfr : 400 < fromD cap s q l z
 ·rw [if_pos hfr]
  obtain ⟨p', s', hnf, _, _, e⟩ := finL_nf hp.1 hg hne
  rw [e]
  have hp1 := hnf.least.1
  have hq1 : 1 ≤ (m : Int) * q * (p' : Int) / (p : Int) := by
   have h1 : 0 < (m : Int) * q * (p' : Int) := Int.mul_pos hI (by omega)
   have h2 := hnf.least.2.1.2.1
   have h3 := Int.mul_ediv_add_emod ((m : Int) * q * (p' : Int)) p
   rw [h2] at h3
   apply Classical.byContradiction
   intro hn
   have h4 : 0 ≤ (m : Int) * q * (p' : Int) / (p : Int) := Int.ediv_nonneg (by omega) (by omega)
   rw [show (m : Int) * q * (p' : Int) / (p : Int) = 0 by omega, Int.mul_zero] at h3
   omega
  have hgr := hnf.starts.1 s' (Nat.le_refl _)
  have hnn := (defFn_bound (cap := cap) (by omega) hq hs hl hz s').1
  have hlen : 400 < s' + p' := by
   apply Classical.byContradiction
   intro hn
   have := defFn_zero (t := s' + p') hc.1 hq hs hl hz (by omega)
   omega
  unfold nfC nfE
  rw [if_pos (if_pos (.inr (.inr (.inl hlen))))]
 ·rw [if_neg hfr]
  have hg' := defFn_grows (S := (fromD cap s q l z).toNat) hc.1 hq hs hl hz hm (by omega)
  exact build_made hp.1 (by omega) hg hg' (fun t => defFn_mono (by omega) hq hs hl hz t) (defFn_bound (by omega) hq hs hl hz 0).1 hf (fun t ht => hb t (by omega))
end
structure DefOk (cap k : Int) (w : List Int) (z : List Sz) (cn kn m s p mm : Nat) (q l x y : Int) : Prop where
  hs : shortN m cn = s
  s1 : q ≤ s ∧ s ≤ 120 * cn
  sx : q + x ≤ s
  hp : p = s / Nat.gcd s cn
  p1 : 1 ≤ p ∧ p ≤ 120
  hmm : (cn : Int) * p = mm * s
  mm1 : mm ≤ 4000
  hinc : (cn : Int) * p / s * q = mm * q
theorem def_cases {cap k : Int} {w : List Int} {z : List Sz} (h0 : chkW 6000 cap k w z = 0) (h1 : ¬ (nth z k.toNat).most < 1) :
  ∃ (cn kn m : Nat) (q l x y : Int), cap = cn ∧ k = kn ∧ (1 ≤ cn ∧ cn ≤ 4000) ∧ kn < z.length ∧ z.length ≤ 6 ∧ w.length = z.length ∧ (∀ x ∈ w, 1 ≤ x ∧ x ≤ 6000) ∧ (∀ s ∈ z, 0 ≤ s.least ∧ s.least ≤ s.most ∧ s.most ≤ 1500) ∧
   q = nth w kn ∧ l = (nth z kn).most ∧ (1 ≤ q ∧ q ≤ 6000) ∧ (1 ≤ l ∧ l ≤ 1500) ∧ x = xSum kn w z w.length ∧ y = zSum kn z w.length ∧ (0 ≤ x ∧ x ≤ 36000) ∧ (0 ≤ y ∧ y ≤ 9000) ∧ (m : Int) = q + x ∧ m ≤ 42000 ∧
   ((shortN m cn = -1 ∧ defC cap k w z = (zcv, 3)) ∨ ∃ s p mm, DefOk cap k w z cn kn m s p mm q l x y ∧ defC cap k w z = if 400 < fromD cn s q l y then (zcv, 3) else madeR ⟨fvals (defFn cn s q l y) ((fromD cn s q l y).toNat + p), p, (cn : Int) * p / s * q⟩) := by
 obtain ⟨c1, c2, k0, k1, zl, wl, hw, hz⟩ := chkW_ok h0
 obtain ⟨cn, rfl⟩ := Int.eq_ofNat_of_zero_le (show 0 ≤ cap by omega)
 obtain ⟨kn, rfl⟩ := Int.eq_ofNat_of_zero_le k0
 have hkn : kn < z.length := by omega
 rw [Int.toNat_natCast] at h1
 have hwk := hw _ (nth_mem (xs := w) (k := kn) (by omega))
 have hzk := hz _ (nth_mem hkn)
 have hx := xSum_bound (k := (kn : Int)) (z := z) hw w.length (Nat.le_refl _)
 have hy := zSum_bound (k := (kn : Int)) hz w.length (by omega)
 obtain ⟨m, hm⟩ := Int.eq_ofNat_of_zero_le (show 0 ≤ nth w kn + xSum kn w z w.length by omega)
 have hdef : defC cn kn w z = if shortN m cn = -1 then (zcv, 3) else if 400 < fromD cn (shortN m cn) (nth w kn) (nth z kn).most (zSum kn z w.length) then (zcv, 3)
   else madeR ⟨fvals (defFn cn (shortN m cn) (nth w kn) (nth z kn).most (zSum kn z w.length)) ((fromD cn (shortN m cn) (nth w kn) (nth z kn).most (zSum kn z w.length)).toNat + (shortN m cn).toNat / Nat.gcd (shortN m cn).toNat cn), (((shortN m cn).toNat / Nat.gcd (shortN m cn).toNat cn : Nat) : Int), (cn : Int) * (((shortN m cn).toNat / Nat.gcd (shortN m cn).toNat cn : Nat) : Int) / shortN m cn * nth w kn⟩ := by
  unfold defC
  rw [if_neg (fun h => h h0), Int.toNat_natCast, if_neg h1]
  dsimp only
  rw [hm, Int.toNat_natCast, Int.toNat_natCast]
 refine ⟨cn, kn, m, nth w kn, (nth z kn).most, xSum kn w z w.length, zSum kn z w.length, rfl, rfl, by omega, hkn, by omega, wl, hw, hz, rfl, rfl, hwk, by omega, rfl, rfl, by omega, by omega, hm.symm, by omega, ?_⟩
 rcases shortN_cases m cn with h | ⟨s, e, s1, s2, s3⟩
 ·exact .inl ⟨h, by rw [hdef, if_pos h]⟩
 ·right
  have hg : 0 < Nat.gcd s cn := Nat.gcd_pos_of_pos_right _ (by omega)
  have hd1 : Nat.gcd s cn ∣ s := Nat.gcd_dvd_left _ _
  have hd2 : Nat.gcd s cn ∣ cn := Nat.gcd_dvd_right _ _
  have hs0 : 0 < s := by omega
  have e1 : cn * (s / Nat.gcd s cn) = cn / Nat.gcd s cn * s := by
   rw [← Nat.mul_div_assoc _ hd1, Nat.div_mul_right_comm hd2]
  have e2 : (cn : Int) * ((s / Nat.gcd s cn : Nat) : Int) = ((cn / Nat.gcd s cn : Nat) : Int) * (s : Int) := by
   rw [← Int.natCast_mul, e1, Int.natCast_mul]
  have e3 : (cn : Int) * ((s / Nat.gcd s cn : Nat) : Int) / (s : Int) = ((cn / Nat.gcd s cn : Nat) : Int) := by
   rw [e2]; exact Int.mul_ediv_cancel _ (by omega)
  refine ⟨s, s / Nat.gcd s cn, cn / Nat.gcd s cn, ?_, ?_⟩
  ·exact { hs := e, s1 := ⟨by omega, s2⟩, sx := by omega, hp := rfl, p1 := ⟨Nat.div_pos (Nat.le_of_dvd hs0 hd1) hg, s3⟩, hmm := e2, mm1 := Nat.le_trans (Nat.div_le_self _ _) (by omega), hinc := by rw [e3] }
  ·rw [hdef, e, if_neg (by omega), Int.toNat_natCast]
def blkF (cls : Int) (z : List Sz) (i : Nat) : Int := (nth (z.drop (cls + 1).toNat) i).most - 1
def blkN (cls : Int) (z : List Sz) : Int := mostF (blkF cls z) (z.length - (cls + 1).toNat)
def allV (ls : List Cv) : Bool := ls.all fun c => validB c
theorem allV_iff {ls : List Cv} : allV ls = true ↔ ∀ c ∈ ls, validB c = true := by unfold allV; rw [List.all_eq_true]
def midC (tot : Cv × Int) (k : Int) : Cv × Int := if tot.2 = 0 then raiseC tot.1 k else tot
def prioC (cap cls : Int) (ls : List Cv) (z : List Sz) : Cv × Int :=
  if chk18 cap cls z ≠ 0 then (zcv, chk18 cap cls z)
  else if ls.length ≠ z.length then (zcv, 2)
  else if allV ls = false then (zcv, 1)
  else if (midC (totalC (ls.take cls.toNat)) (blkN cls z)).2 ≠ 0 then (zcv, (midC (totalC (ls.take cls.toNat)) (blkN cls z)).2)
  else restC cap (midC (totalC (ls.take cls.toNat)) (blkN cls z)).1
theorem chk18_ok {cap cls : Int} {z : List Sz} (h : chk18 cap cls z = 0) : 1 ≤ cap ∧ cap ≤ 4000 ∧ 0 ≤ cls ∧ cls < z.length ∧ z.length ≤ 6 ∧ ∀ s ∈ z, 0 ≤ s.least ∧ s.least ≤ s.most ∧ s.most ≤ 1500 := by
 unfold chk18 at h
 split at h
 ·omega
 ·rename_i h3
  have a2 : zOk z = true := by
   cases hb : zOk z with
   | true => rfl
   | false => exact absurd (.inr (.inr (.inr (.inr (.inl hb))))) h3
  exact ⟨by omega, by omega, by omega, by omega, by omega, zOk_iff.1 a2⟩
theorem blk_range {cls : Int} {z : List Sz} (hz : ∀ s ∈ z, 0 ≤ s.least ∧ s.least ≤ s.most ∧ s.most ≤ 1500) {n : Nat} (hn : n ≤ z.length - (cls + 1).toNat) : 0 ≤ mostF (blkF cls z) n ∧ mostF (blkF cls z) n ≤ 1499 := by
 refine ⟨mostF_nonneg _, mostF_le (by decide) (fun u hu => ?_)⟩
 have hl : u < (z.drop (cls + 1).toNat).length := by rw [List.length_drop]; omega
 have := hz _ (List.mem_of_mem_drop (nth_mem hl))
 unfold blkF; omega
theorem mid_res {l : List Cv} (hl : ∀ c ∈ l, validB c = true) {k : Int} (hk : 0 ≤ k ∧ k ≤ MAXV) : midC (totalC l) k = (zcv, 3) ∨ ∃ c, midC (totalC l) k = (c, 0) ∧ Nrm c := by
 unfold midC
 rcases total_res l zeroC zero_nrm.valid zero_nrm hl with h | ⟨c, h1, h2, _⟩
 ·rw [show totalC l = (zcv, 3) from h, if_neg (by decide)]; exact .inl rfl
 ·rw [show totalC l = (c, 0) from h1, if_pos rfl]
  rcases raise_res h2.valid hk with h | ⟨c', h3, h4, _⟩
  ·exact .inl h
  ·exact .inr ⟨c', h3, h4⟩
def minF (f : Nat → Int) (s : Nat) : Nat → Int
  | 0 => f s
  | d + 1 => min (minF f s d) (f (s + (d + 1)))
section
variable {f : Nat → Int} {s a : Nat} {D : Int}
end
def rawG (b o : Cv) (th u : Nat) : Int := if isInf o (u - th) then 0 else if isInf b u then INF else cvF b u - cvF o (u - th)
def driftG (b o : Cv) : Int := gainC b (lcmC b o) - gainC o (lcmC b o)
def frG (b o : Cv) (th : Nat) : Nat := max (max (stN b) (stN o + th)) (th + 1)
def hG (b o : Cv) (th u : Nat) : Int := if u ≤ th then 0 else max 0 (minF (rawG b o th) u (max (frG b o th) u - u + (lcmC b o - 1)))
section
variable {b o : Cv} {th : Nat}
theorem lcm_pos (hb : validB b = true) (ho : validB o = true) : 0 < lcmC b o := by
 obtain ⟨_, _, _, q1, _⟩ := valid_range hb
 obtain ⟨_, _, _, q2, _⟩ := valid_range ho
 exact (lcm_mod (by omega) (by omega)).2.2
theorem gain_grows (hb : validB b = true) (fb : finB b = true) {L : Nat} (hL : L % b.per.toNat = 0) : Grows (cvF b) (stN b) L (gainC b L) := by
 rcases valid_cases hb with ⟨S1, P1, _, l1, p1, fc1, _⟩ | ⟨_, _, _, _, _, _, _, f⟩
 ·have hP1 := fc1.hP
  have hs : stN b = S1 := by unfold stN; rw [l1, p1, Int.toNat_natCast]; omega
  rw [p1, Int.toNat_natCast] at hL
  unfold gainC
  rw [hs, p1]
  exact grows_gain (by omega) fc1.hg hL
 ·rw [fb] at f; cases f
def flatB (b o : Cv) (th : Nat) : Prop := finB o = false ∨ (finB b = true ∧ (driftG b o < 0 ∨ (driftG b o = 0 ∧ minF (rawG b o th) (frG b o th) (lcmC b o - 1) ≤ 0)))
instance (b o : Cv) (th : Nat) : Decidable (flatB b o th) := by unfold flatB; infer_instance
def leftG (b o : Cv) (th u : Nat) : Int := if u ≤ th then 0 else max 0 (rawG b o th u)
def bothB (b o : Cv) : Prop := finB b = true ∧ finB o = true
instance (b o : Cv) : Decidable (bothB b o) := by unfold bothB; infer_instance
def flatQ (b o : Cv) (th : Nat) : Prop := (bothB b o ∧ driftG b o < 0) ∨ finB o = false ∨ (bothB b o ∧ driftG b o = 0 ∧ minF (leftG b o th) (th + 400) (lcmC b o - 1) = 0)
instance (b o : Cv) (th : Nat) : Decidable (flatQ b o th) := by unfold flatQ; infer_instance
end
def reachG (c : Cv) (v : Int) : Int × Bool :=
  if findFrom (fun t => decide (cvF c t ≥ v)) c.vals.length 0 ≠ -1 then (findFrom (fun t => decide (cvF c t ≥ v)) c.vals.length 0, true)
  else if v = INF ∨ c.inc = 0 then (0, false)
  else (findFrom (fun t => decide (cvF c t ≥ v)) (c.per.toNat + 1) (c.vals.length + (((v - cvF c (c.vals.length - 1) + c.inc - 1) / c.inc).toNat - 1) * c.per.toNat), true)
structure IsFirst (F : Nat → Int) (v : Int) (r : Int × Bool) : Prop where
  yes : r.2 = true → ∃ t : Nat, r.1 = t ∧ v ≤ F t ∧ ∀ j, j < t → F j < v
  no : r.2 = false → r.1 = 0 ∧ ∀ t, F t < v
theorem IsFirst.eq {F : Nat → Int} {v : Int} {r r' : Int × Bool} (h : IsFirst F v r) (h' : IsFirst F v r') : r = r' := by
 obtain ⟨x, b⟩ := r
 obtain ⟨y, b'⟩ := r'
 cases b with
 | false =>
  obtain ⟨e, hn⟩ := h.no rfl
  cases b' with
  | false => obtain ⟨e', _⟩ := h'.no rfl; simp only at e e'; rw [e, e']
  | true => obtain ⟨t, _, h1, _⟩ := h'.yes rfl; have := hn t; omega
 | true =>
  obtain ⟨t, e, h1, h2⟩ := h.yes rfl
  cases b' with
  | false => obtain ⟨_, hn⟩ := h'.no rfl; have := hn t; omega
  | true =>
   obtain ⟨t', e', h1', h2'⟩ := h'.yes rfl
   have : t = t' := by
    apply Classical.byContradiction
    intro hne
    rcases Nat.lt_or_gt_of_ne hne with hl | hl
    ·have := h2' t hl; omega
    ·have := h2 t' hl; omega
   simp only at e e'
   rw [e, e', this]
theorem reachG_F {c : Cv} {S P : Nat} (hl : c.vals.length = S + P) (hp : c.per = P) {v : Int} (hv : v ≠ INF) : reachG c v = reachF (cvF c) S P c.inc v := by
 have e : (v = INF ∨ c.inc = 0) ↔ c.inc = 0 := ⟨fun h => h.resolve_left hv, .inr⟩
 unfold reachG reachF
 rw [hl, hp, Int.toNat_natCast]
 simp only [e]
theorem reachG_fin {c : Cv} (hv : validB c = true) (hf : finB c = true) {v : Int} (h : v ≠ INF) : IsFirst (cvF c) v (reachG c v) := by
 rcases valid_cases hv with ⟨S, P, _, hl, hp, hfc, _⟩ | ⟨_, _, _, _, _, _, _, f⟩
 ·rw [reachG_F hl hp h]
  have hP := hfc.hP
  unfold reachF
  rcases findFrom_cases (fun t => decide (cvF c t ≥ v)) (S + P) 0 with ⟨i, h1, h2, h3, h4, h5⟩ | ⟨h1, h2⟩
  ·rw [h3, if_pos (by omega)]
   exact ⟨fun _ => ⟨i, rfl, of_decide_eq_true h4, fun j hj => by have := of_decide_eq_false (h5 j (Nat.zero_le _) hj); omega⟩, fun hh => by cases hh⟩
  ·have hlow : ∀ j, j < S + P → cvF c j < v := fun j hj => by have := of_decide_eq_false (h2 j (Nat.zero_le _) (by omega)); omega
   rw [h1, if_neg (fun hh => hh rfl)]
   by_cases hI : c.inc = 0
   ·rw [if_pos hI]
    refine ⟨fun hh => (by cases hh), fun _ => ⟨rfl, fun t => ?_⟩⟩
    induction t using Nat.strongRecOn with
    | _ t ih =>
     by_cases ht : t < S + P
     ·exact hlow t ht
     ·have a := ih (t - P) (by omega)
      have b := hfc.hg (t - P) (by omega)
      rw [show t - P + P = t by omega, hI] at b
      omega
   ·rw [if_neg hI]
    obtain ⟨g1, g2, g3, g4⟩ := reach_facts hfc hI (hlow (S + P - 1) (by omega))
    rcases findFrom_cases (fun t => decide (cvF c t ≥ v)) (P + 1) (S + P + (((v - cvF c (S + P - 1) + c.inc - 1) / c.inc).toNat - 1) * P) with ⟨i, k1, k2, k3, k4, k5⟩ | ⟨k1, k2⟩
    ·rw [k3]
     refine ⟨fun _ => ⟨i, rfl, of_decide_eq_true k4, fun j hj => ?_⟩, fun hh => by cases hh⟩
     obtain ⟨k, hk⟩ := Int.eq_ofNat_of_zero_le (show 0 ≤ (v - cvF c (S + P - 1) + c.inc - 1) / c.inc by omega)
     rw [hk] at g1 g2
     rw [hk, Int.toNat_natCast] at k5
     by_cases hj2 : j < S + P + (k - 1) * P
     ·have a := hfc.mono (show j ≤ S + P - 1 + (k - 1) * P by omega)
      have b := hfc.hg.mul (k - 1) (S + P - 1) (by omega)
      have e : ((k - 1 : Nat) : Int) * c.inc = (k : Int) * c.inc - c.inc := by
       rw [show ((k - 1 : Nat) : Int) = (k : Int) - 1 by omega, Int.sub_mul]; simp
      rw [e] at b
      omega
     ·have := of_decide_eq_false (k5 j (by omega) hj); omega
    ·have := of_decide_eq_false (k2 (S + P + (((v - cvF c (S + P - 1) + c.inc - 1) / c.inc).toNat - 1) * P + (P - 1)) (by omega) (by omega))
     omega
 ·rw [hf] at f; cases f
theorem reachG_inf {c : Cv} (hv : validB c = true) (hf : finB c = false) {v : Int} (h : v ≤ INF) : IsFirst (cvF c) v (reachG c v) ∧ (reachG c v).2 = true ∧ (reachG c v).1 ≤ stN c := by
 obtain ⟨n, h1, h2, h3⟩ := inf_at hv hf
 have hs := stN_lt hv
 unfold reachG
 rcases findFrom_cases (fun t => decide (cvF c t ≥ v)) c.vals.length 0 with ⟨i, k1, k2, k3, k4, k5⟩ | ⟨k1, k2⟩
 ·have hin : i ≤ n := by
   apply Classical.byContradiction
   intro hh
   have := of_decide_eq_false (k5 n (Nat.zero_le _) (by omega))
   rw [h3.hi n (Nat.le_refl _)] at this
   omega
  rw [k3, if_pos (by omega)]
  exact ⟨⟨fun _ => ⟨i, rfl, of_decide_eq_true k4, fun j hj => by have := of_decide_eq_false (k5 j (Nat.zero_le _) hj); omega⟩, fun hh => by cases hh⟩, rfl, by dsimp only; omega⟩
 ·have := of_decide_eq_false (k2 n (Nat.zero_le _) (by omega))
  rw [h3.hi n (Nat.le_refl _)] at this
  omega
theorem reachG_none {c : Cv} (hv : validB c = true) (hf : finB c = true) : reachG c INF = (0, false) := by
 rcases valid_cases hv with ⟨S, P, _, hl, hp, hfc, _⟩ | ⟨_, _, _, _, _, _, _, f⟩
 ·unfold reachG
  rw [show findFrom (fun t => decide (cvF c t ≥ INF)) c.vals.length 0 = -1 from findFrom_none (fun j _ hj => decide_eq_false (by have := hfc.hb j (by omega); unfold INF; omega)), if_neg (fun hh => hh rfl), if_pos (.inl rfl)]
 ·rw [hf] at f; cases f
theorem reachG_bound {c : Cv} (hv : validB c = true) {v : Int} (h : v = INF ∨ (0 ≤ v ∧ v ≤ 1000000000000000)) : -1 ≤ (reachG c v).1 ∧ (reachG c v).1 ≤ 200000000000000000 := by
 cases hf : finB c with
 | false =>
  obtain ⟨h1, h2, h3⟩ := reachG_inf hv hf (v := v) (by unfold INF at *; omega)
  obtain ⟨t, e, _⟩ := h1.yes h2
  have := stN_lt hv
  omega
 | true =>
  rcases h with rfl | h
  ·rw [reachG_none hv hf]; decide
  ·rcases valid_cases hv with ⟨S, P, _, hl, hp, hfc, _⟩ | ⟨_, _, _, _, _, _, _, f⟩
   ·rw [reachG_F hl hp (by unfold INF; omega)]
    exact reach_bound hfc h
   ·rw [hf] at f; cases f
theorem greatW_true {f : Nat → Int × Bool} : ∀ (n t : Nat) (v a : Int), (greatW f n t v a).1 = true → greatW f n t v a = (true, 0, 0)
 | 0, t, v, a, h => by cases h
 | n + 1, t, v, a, h => by
  simp only [greatW] at h ⊢
  by_cases h1 : (f t).2 = false
  ·rw [if_pos h1]
  ·rw [if_neg h1] at h ⊢
   by_cases h2 : (f t).1 > v
   ·rw [if_pos h2] at h ⊢; exact greatW_true n _ _ _ h
   ·rw [if_neg h2] at h ⊢; exact greatW_true n _ _ _ h
theorem greatW_app {f : Nat → Int × Bool} (k : Nat) : ∀ (n t : Nat) (v a : Int), greatW f (n + k) t v a = if (greatW f n t v a).1 = true then (true, 0, 0) else greatW f k (t + n) (greatW f n t v a).2.1 (greatW f n t v a).2.2
 | 0, t, v, a => by
  have e : greatW f 0 t v a = (false, v, a) := rfl
  rw [e, Nat.zero_add, Nat.add_zero]; rfl
 | n + 1, t, v, a => by
  rw [show n + 1 + k = n + k + 1 by omega]
  by_cases h1 : (f t).2 = false
  ·have e1 : greatW f (n + k + 1) t v a = (true, 0, 0) := if_pos h1
   have e2 : greatW f (n + 1) t v a = (true, 0, 0) := if_pos h1
   rw [e1, e2]; rfl
  ·by_cases h2 : (f t).1 > v
   ·have e1 : greatW f (n + k + 1) t v a = greatW f (n + k) (t + 1) (f t).1 t := by simp only [greatW]; rw [if_neg h1, if_pos h2]
    have e2 : greatW f (n + 1) t v a = greatW f n (t + 1) (f t).1 t := by simp only [greatW]; rw [if_neg h1, if_pos h2]
    rw [e1, e2, greatW_app k n, show t + 1 + n = t + (n + 1) by omega]
   ·have e1 : greatW f (n + k + 1) t v a = greatW f (n + k) (t + 1) v a := by simp only [greatW]; rw [if_neg h1, if_neg h2]
    have e2 : greatW f (n + 1) t v a = greatW f n (t + 1) v a := by simp only [greatW]; rw [if_neg h1, if_neg h2]
    rw [e1, e2, greatW_app k n, show t + 1 + n = t + (n + 1) by omega]
theorem greatW_stay {f : Nat → Int × Bool} {v a : Int} : ∀ {k t : Nat}, (∀ u, t ≤ u → u < t + k → (f u).2 = true ∧ (f u).1 ≤ v) → greatW f k t v a = (false, v, a)
 | 0, t, _ => rfl
 | k + 1, t, h => by
  obtain ⟨h1, h2⟩ := h t (Nat.le_refl _) (by omega)
  simp only [greatW]
  rw [if_neg (by rw [h1]; simp), if_neg (by omega)]
  exact greatW_stay (fun u u1 u2 => h u (by omega) (by omega))
theorem greatW_inf {f : Nat → Int × Bool} {u : Nat} (hf : (f u).2 = false) : ∀ (n t : Nat) (v a : Int), t ≤ u → u < t + n → greatW f n t v a = (true, 0, 0)
 | 0, t, v, a, h1, h2 => by omega
 | n + 1, t, v, a, h1, h2 => by
  simp only [greatW]
  by_cases e : t = u
  ·subst e; rw [if_pos hf]
  ·by_cases h3 : (f t).2 = false
   ·rw [if_pos h3]
   ·rw [if_neg h3]
    split
    ·exact greatW_inf hf n _ _ _ (by omega) (by omega)
    ·exact greatW_inf hf n _ _ _ (by omega) (by omega)
theorem greatW_same {f : Nat → Int × Bool} {n1 n2 : Nat} (h : n1 ≤ n2) (hs : ∀ V : Int, 0 ≤ V → (∀ u, u < n1 → (f u).2 = true ∧ (f u).1 ≤ V) → ∀ u, n1 ≤ u → u < n2 → (f u).2 = true ∧ (f u).1 ≤ V) : greatW f n1 0 0 0 = greatW f n2 0 0 0 := by
 obtain ⟨k, rfl⟩ : ∃ k, n2 = n1 + k := ⟨n2 - n1, by omega⟩
 rw [greatW_app]
 cases e : (greatW f n1 0 0 0).1 with
 | true => rw [if_pos rfl]; exact greatW_true _ _ _ _ e
 | false =>
  obtain ⟨h1, h2⟩ := greatW_sound n1 0 0 0 e
  rw [if_neg (by simp), greatW_stay (fun u u1 u2 => hs _ h1 (fun u hu => h2 u (Nat.zero_le _) (by omega)) u (by omega) (by omega))]
  exact Prod.ext e rfl
def loose (a b : Cv) : Prop := finB b = true ∧ (finB a = false ∨ gainC b (lcmC a b) < gainC a (lcmC a b))
instance (a b : Cv) : Decidable (loose a b) := by unfold loose; infer_instance
def fastQ (a b : Cv) : Prop := finB a = true ∧ finB b = true ∧ 0 < gainC a (lcmC a b) - gainC b (lcmC a b)
instance (a b : Cv) : Decidable (fastQ a b) := by unfold fastQ; infer_instance
def gapD (a b : Cv) (t : Nat) : Int × Bool := ((reachG b (cvF a t)).1 - t, (reachG b (cvF a t)).2)
def gapA (a b : Cv) (d t : Nat) : Int × Bool := if isInf b t then (0, true) else (cvF a (t + d) - cvF b t, !decide (isInf a (t + d)))
def devN (a b : Cv) (f : Nat → Int × Bool) : (Bool × Int × Int) × Int :=
  if 120 < lcmC a b then ((false, 0, 0), 3) else if loose a b then ((true, 0, 0), 0) else (greatW f (max (stN a) (stN b) + lcmC a b) 0 0 0, 0)
def devQ (a b : Cv) (f : Nat → Int × Bool) : (Bool × Int × Int) × Int :=
  if 120 < lcmC a b then ((false, 0, 0), 3) else if fastQ a b then ((true, 0, 0), 0) else (greatW f (max a.vals.length b.vals.length + lcmC a b) 0 0 0, 0)
theorem dev_same {a b : Cv} {f : Nat → Int × Bool} (ha : validB a = true) (hb : validB b = true)
  (h1 : finB b = true → finB a = false → ∃ u, u < a.vals.length ∧ (f u).2 = false)
  (h2 : ¬ loose a b → ∀ V : Int, 0 ≤ V → (∀ u, u < max (stN a) (stN b) + lcmC a b → (f u).2 = true ∧ (f u).1 ≤ V) → ∀ u, max (stN a) (stN b) + lcmC a b ≤ u → u < max a.vals.length b.vals.length + lcmC a b → (f u).2 = true ∧ (f u).1 ≤ V) : devN a b f = devQ a b f := by
 have s1 := stN_lt ha
 have s2 := stN_lt hb
 unfold devN devQ
 by_cases hl : 120 < lcmC a b
 ·rw [if_pos hl, if_pos hl]
 rw [if_neg hl, if_neg hl]
 by_cases hlo : loose a b
 ·rw [if_pos hlo]
  obtain ⟨fb, hlo⟩ := hlo
  cases fa : finB a with
  | false =>
   obtain ⟨u, hu, hf⟩ := h1 fb fa
   rw [if_neg (fun h => by unfold fastQ at h; rw [fa] at h; cases h.1), greatW_inf hf _ _ _ _ (Nat.zero_le _) (by omega)]
  | true =>
   rw [fa] at hlo
   rw [if_pos]
   unfold fastQ
   refine ⟨fa, fb, ?_⟩
   rcases hlo with h | h
   ·cases h
   ·omega
 ·rw [if_neg hlo, if_neg, greatW_same (by omega) (h2 hlo)]
  rintro ⟨fa, fb, hd⟩
  exact hlo ⟨fb, .inr (by omega)⟩
section
variable {a b : Cv}
theorem cvF_le (hv : validB a = true) {s t : Nat} (h : s ≤ t) : cvF a s ≤ cvF a t := mono_le (cvF_mono hv) h
theorem gains (ha : validB a = true) (hb : validB b = true) (fa : finB a = true) (fb : finB b = true) : Grows (cvF a) (stN a) (lcmC a b) (gainC a (lcmC a b)) ∧ Grows (cvF b) (stN b) (lcmC a b) (gainC b (lcmC a b)) := by
 obtain ⟨_, _, _, q1, _⟩ := valid_range ha
 obtain ⟨_, _, _, q2, _⟩ := valid_range hb
 obtain ⟨m1, m2, _⟩ := lcm_mod (a := a.per.toNat) (b := b.per.toNat) (by omega) (by omega)
 exact ⟨gain_grows ha fa m1, gain_grows hb fb m2⟩
theorem cvF_low15 (ha : validB a = true) {u : Nat} (hu : u ≤ 100000) : cvF a u = INF ∨ (0 ≤ cvF a u ∧ cvF a u ≤ 1000000000000000) := by
 have := cvF_bound ha u
 rcases this.2 with h | h
 ·exact .inl h
 ·right; omega
theorem fin_ne (ha : validB a = true) (fa : finB a = true) {u : Nat} (hu : u ≤ 100000) : cvF a u ≠ INF := fun h => isInf_fin fa u ((isInf_iff ha (by omega)).2 h)
theorem delay_same (ha : validB a = true) (hb : validB b = true) : devN a b (gapD a b) = devQ a b (gapD a b) := by
 have s1 := stN_lt ha
 have s2 := stN_lt hb
 by_cases hl : 120 < lcmC a b
 ·unfold devN devQ; rw [if_pos hl, if_pos hl]
 refine dev_same ha hb (fun fb fa => ?_) (fun hlo V hV hbase => ?_)
 ·obtain ⟨n, n1, _, n3⟩ := inf_at ha fa
  refine ⟨n, by omega, ?_⟩
  unfold gapD
  rw [n3.hi n (Nat.le_refl _), reachG_none hb fb]
 ·cases fb : finB b with
  | false =>
   intro u u1 u2
   have hle : cvF a u ≤ INF := by rcases cvF_low15 ha (show u ≤ 100000 by omega) with h | h <;> unfold INF at * <;> omega
   obtain ⟨_, r2, r3⟩ := reachG_inf hb fb hle
   exact ⟨r2, by unfold gapD; dsimp only; omega⟩
  | true =>
   have fa : finB a = true := by
    cases fa : finB a with
    | true => rfl
    | false => exact absurd ⟨fb, .inl fa⟩ hlo
   have hg : gainC a (lcmC a b) ≤ gainC b (lcmC a b) := by
    apply Classical.byContradiction
    intro h; exact hlo ⟨fb, .inr (by omega)⟩
   obtain ⟨g1, g2⟩ := gains ha hb fa fb
   have hl0 := lcm_pos ha hb
   have key : ∀ u, u ≤ 100000 → (gapD a b u).2 = true ∧ (gapD a b u).1 ≤ V := by
    intro u
    induction u using Nat.strongRecOn with
    | _ u ih =>
     intro hu
     by_cases h1 : u < max (stN a) (stN b) + lcmC a b
     ·exact hbase u h1
     ·obtain ⟨i1, i2⟩ := ih (u - lcmC a b) (by omega) (by omega)
      unfold gapD at i1 i2 ⊢
      dsimp only at i1 i2 ⊢
      obtain ⟨r, e, r1, _⟩ := (reachG_fin hb fb (fin_ne ha fa (show u - lcmC a b ≤ 100000 by omega))).yes i1
      have a1 := g1 (u - lcmC a b) (by omega)
      rw [show u - lcmC a b + lcmC a b = u by omega] at a1
      have a2 := g2 (max r (stN b)) (by omega)
      have a3 := cvF_le hb (Nat.le_max_left r (stN b))
      have hfi := reachG_fin hb fb (fin_ne ha fa hu)
      cases e2 : (reachG b (cvF a u)).2 with
      | false => have := (hfi.no e2).2 (max r (stN b) + lcmC a b); omega
      | true =>
       obtain ⟨t, k1, k2, k3⟩ := hfi.yes e2
       refine ⟨rfl, ?_⟩
       have : t ≤ max r (stN b) + lcmC a b := by
        apply Classical.byContradiction
        intro hh
        have := k3 (max r (stN b) + lcmC a b) (by omega)
        omega
       omega
   exact fun u _ u2 => key u (by omega)
theorem ahead_same (ha : validB a = true) (hb : validB b = true) {d : Nat} : devN a b (gapA a b d) = devQ a b (gapA a b d) := by
 have s1 := stN_lt ha
 have s2 := stN_lt hb
 refine dev_same ha hb (fun fb fa => ?_) (fun hlo V hV hbase => ?_)
 ·obtain ⟨n, n1, n2, n3⟩ := inf_at ha fa
  refine ⟨n, by omega, ?_⟩
  unfold gapA
  rw [if_neg (isInf_fin fb _)]
  simp [n2]
 ·cases fb : finB b with
  | false =>
   intro u u1 u2
   obtain ⟨n, n1, n2, _⟩ := inf_at hb fb
   unfold gapA
   rw [if_pos ((n2 u).2 (by omega))]
   exact ⟨rfl, hV⟩
  | true =>
   have fa : finB a = true := by
    cases fa : finB a with
    | true => rfl
    | false => exact absurd ⟨fb, .inl fa⟩ hlo
   have hg : gainC a (lcmC a b) ≤ gainC b (lcmC a b) := by
    apply Classical.byContradiction
    intro h; exact hlo ⟨fb, .inr (by omega)⟩
   obtain ⟨g1, g2⟩ := gains ha hb fa fb
   have hl0 := lcm_pos ha hb
   have hgap : ∀ u, gapA a b d u = (cvF a (u + d) - cvF b u, true) := fun u => by
    unfold gapA
    rw [if_neg (isInf_fin fb _)]
    simp [isInf_fin fa]
   have key : ∀ u, (gapA a b d u).2 = true ∧ (gapA a b d u).1 ≤ V := by
    intro u
    induction u using Nat.strongRecOn with
    | _ u ih =>
     by_cases h1 : u < max (stN a) (stN b) + lcmC a b
     ·exact hbase u h1
     ·obtain ⟨i1, i2⟩ := ih (u - lcmC a b) (by omega)
      rw [hgap] at i2 ⊢
      dsimp only at i2 ⊢
      have a1 := g1 (u - lcmC a b + d) (by omega)
      have a2 := g2 (u - lcmC a b) (by omega)
      rw [show u - lcmC a b + d + lcmC a b = u + d by omega] at a1
      rw [show u - lcmC a b + lcmC a b = u by omega] at a2
      exact ⟨rfl, by omega⟩
   exact fun u _ _ => key u
end
def begK (k : Int) : List Pkt → List Bool → Int
  | p :: ps, b :: bs => (if b = true ∧ p.flow = k then p.size else 0) + begK k ps bs
  | _, _ => 0
theorem begK_set (k : Int) : ∀ (ps : List Pkt) (bs : List Bool) (i : Nat), i < ps.length → i < bs.length → nth bs i = false → begK k ps (bs.set i true) = begK k ps bs + (if (nth ps i).flow = k then (nth ps i).size else 0)
 | [], _, i, h, _, _ => by simp at h
 | _ :: _, [], i, _, h, _ => by simp at h
 | p :: ps, b :: bs, 0, _, _, hb => by
  have : b = false := hb
  subst this
  simp only [List.set_cons_zero, begK, show nth (p :: ps) 0 = p from rfl]
  simp; omega
 | p :: ps, b :: bs, i + 1, h1, h2, hb => by
  have := begK_set k ps bs i (by simpa using h1) (by simpa using h2) hb
  simp only [List.set_cons_succ, begK, this]
  rw [show nth (p :: ps) (i + 1) = nth ps i from rfl]; omega
def Cl {σ : Type} (ps : List Pkt) (k : Nat) (col : Nat) (s : RS σ) : Prop :=
  nth (nth s.sent k) col = begK k ps s.ms.begun - (if 0 ≤ s.cur ∧ (nth ps s.cur.toNat).flow = k then s.rest else 0)
section
variable {σ : Type} {ps : List Pkt} {ch : MS → σ → Int × Nat × σ} {good : MS → σ → Prop} {rel : Nat → Nat → Prop} {classes col k : Nat} {s : RS σ} {J : σ → Int → Int → Int → Int → Prop}
theorem Cl.pickup (hg : Fair ps ch good rel) (hw : Wk ps classes good rel col s) (h : Cl ps k col s) : Cl ps k col (pickup ps ch s) := by
 unfold M.pickup
 by_cases hc : 0 ≤ s.cur
 ·rw [if_pos hc]; exact h
 ·rw [if_neg hc]
  unfold Cl at h
  rw [if_neg (by omega)] at h
  by_cases hr : (ch s.ms s.sg).1 < 0
  ·simp only [hr, if_true]
   unfold Cl
   dsimp only
   rw [if_neg (by omega)]; exact h
  ·simp only [hr, if_false]
   have hi := hg.idx _ _ hw.good hw.blen (by omega)
   obtain ⟨w1, w2⟩ := hg.waits _ _ hw.good hw.blen (by omega)
   have hb := hw.blen
   unfold Cl
   dsimp only
   rw [begK_set _ _ _ _ (by omega) (by omega) w1, h]
   by_cases hf : (nth ps (ch s.ms s.sg).1.toNat).flow = k
   ·rw [if_pos hf, if_pos ⟨by omega, hf⟩]; omega
   ·rw [if_neg hf, if_neg (fun h => hf h.2)]; omega
theorem Cl.send (hfl : ∀ p ∈ ps, 0 ≤ p.flow ∧ p.flow < classes) (hk : k < classes) {t : Nat} (hw : Wk ps classes good rel (t + 1) s) (h : Cl ps k (t + 1) s) (hc : 0 ≤ s.cur) (hl : 0 < s.ms.left) :
  ∃ n, 1 ≤ n ∧ n ≤ s.rest ∧ (M.send ps t s).ms.left = s.ms.left - n ∧ (M.send ps t s).rest = s.rest - n ∧ (M.send ps t s).cur = (if s.rest - n = 0 then -1 else s.cur) ∧ (M.send ps t s).sg = s.sg ∧ (M.send ps t s).ms.begun = s.ms.begun ∧
   nth (nth (M.send ps t s).sent k) (t + 1) = nth (nth s.sent k) (t + 1) + (if (nth ps s.cur.toNat).flow = k then n else 0) ∧ Cl ps k (t + 1) (M.send ps t s) := by
 obtain ⟨c1, c2, c3⟩ := hw.cur hc
 have hfl' := hfl _ (nth_mem (show s.cur.toNat < ps.length by omega))
 have hlen := hw.slen
 refine ⟨if s.ms.left < s.rest then s.ms.left else s.rest, by split <;> omega, by split <;> omega, rfl, rfl, rfl, rfl, rfl, ?_⟩
 have hn : (if s.ms.left < s.rest then s.ms.left else s.rest) ≤ s.rest := by split <;> omega
 have hcol : nth (nth (M.send ps t s).sent k) (t + 1) = nth (nth s.sent k) (t + 1) + (if (nth ps s.cur.toNat).flow = k then (if s.ms.left < s.rest then s.ms.left else s.rest) else 0) := by
  unfold M.send
  dsimp only
  by_cases hf : (nth ps s.cur.toNat).flow = k
  ·have e : (nth ps s.cur.toNat).flow.toNat = k := by omega
   rw [if_pos hf, e, nth_set_self (by omega), nth_set_self]
   have := hw.rlen _ (nth_mem (xs := s.sent) (k := k) (by omega))
   omega
  ·rw [if_neg hf, nth_set_ne (by omega)]; omega
 refine ⟨hcol, ?_⟩
 unfold Cl at h ⊢
 rw [hcol, h]
 unfold M.send
 dsimp only
 generalize (if s.ms.left < s.rest then s.ms.left else s.rest) = n at hn ⊢
 by_cases hf : (nth ps s.cur.toNat).flow = k
 ·rw [if_pos ⟨hc, hf⟩, if_pos hf]
  by_cases hz : s.rest - n = 0
  ·simp only [hz, if_true]; rw [if_neg (by omega)]; omega
  ·simp only [hz, if_false]; rw [if_pos ⟨hc, hf⟩]; omega
 ·rw [if_neg (fun h => hf h.2), if_neg hf]
  by_cases hz : s.rest - n = 0
  ·simp only [hz, if_true]; rw [if_neg (by omega)]; omega
  ·simp only [hz, if_false]; rw [if_neg (fun h => hf h.2)]; omega
def opened (cap : Int) (t : Nat) (s : RS σ) : RS σ := { s with ms := { s.ms with now := t, left := cap }, sent := s.sent.map fun l => l ++ [nth l t] }
end
section
variable {w : List Int} {z : List Sz} {k : Nat}
def restR (w : List Int) (z : List Sz) (k c : Nat) : Int := if c ≤ k then qSum k w z k - qSum k w z c else qSum k w z w.length - qSum k w z c + qSum k w z k
def mosts (w : List Int) (z : List Sz) (c : Nat) : Int := nth w c * (nth z c).most
theorem qSum_succ (i : Nat) : qSum k w z (i + 1) = qSum k w z i + (if i ≠ k then mosts w z i else 0) := by
 simp only [qSum, mosts]
 by_cases h : i = k
 ·rw [if_neg (by omega), if_neg (by omega)]
 ·rw [if_pos (by omega), if_pos h]
theorem restR_self : restR w z k k = 0 := by unfold restR; rw [if_pos (Nat.le_refl _)]; omega
theorem restR_next {c : Nat} (hc : c < w.length) (hk : k < w.length) (hne : c ≠ k) : restR w z k ((c + 1) % w.length) = restR w z k c - mosts w z c := by
 have hs := qSum_succ (w := w) (z := z) (k := k) c
 rw [if_pos hne] at hs
 by_cases hl : c + 1 < w.length
 ·rw [Nat.mod_eq_of_lt hl]
  unfold restR
  by_cases h : c ≤ k
  ·rw [if_pos h, if_pos (by omega), hs]; omega
  ·rw [if_neg h, if_neg (by omega), hs]; omega
 ·have e : c + 1 = w.length := by omega
  rw [e, Nat.mod_self]
  unfold restR
  rw [if_pos (Nat.zero_le _), if_neg (by omega), ← e, hs]
  have h0 : qSum k w z 0 = 0 := rfl
  omega
theorem restR_first (hk : k < w.length) : restR w z k ((k + 1) % w.length) = qSum k w z w.length := by
 have hs := qSum_succ (w := w) (z := z) (k := k) k
 rw [if_neg (by omega)] at hs
 by_cases hl : k + 1 < w.length
 ·rw [Nat.mod_eq_of_lt hl]
  unfold restR
  rw [if_neg (by omega), hs]; omega
 ·have e : k + 1 = w.length := by omega
  rw [e, Nat.mod_self]
  unfold restR
  rw [if_pos (Nat.zero_le _), ← e, hs]
  have h0 : qSum k w z 0 = 0 := rfl
  omega
def JR (w : List Int) (z : List Sz) (k c : Nat) (l op own oth : Int) : Prop :=
  c < w.length ∧ 0 ≤ l ∧
  if c = k then ∃ f : Nat, oth ≤ qSum k w z w.length * f ∧ nth w k * (nth z k).least * f ≤ own + op + l * (nth z k).least ∧ nth w k * (nth z k).least * ((f : Int) - 1) ≤ own
  else ∃ f : Nat, oth + op + l * (nth z c).most + (restR w z k c - mosts w z c) ≤ qSum k w z w.length * ((f : Int) + 1) ∧ nth w k * (nth z k).least * f ≤ own
theorem JR.next (hw : ∀ x ∈ w, 1 ≤ x) (hz : ∀ c, c < w.length → 0 ≤ (nth z c).least ∧ (nth z c).least ≤ (nth z c).most) (hk : k < w.length) (hn : 2 ≤ w.length) {c : Nat} {l own oth : Int} (h : JR w z k c l 0 own oth) (hl : c = k → l ≤ 0) :
  JR w z k ((c + 1) % w.length) (nth w ((c + 1) % w.length)) 0 own oth := by
 obtain ⟨h1, h2, h3⟩ := h
 have hlt : (c + 1) % w.length < w.length := Nat.mod_lt _ (by omega)
 have hwc := hw _ (nth_mem hlt)
 refine ⟨hlt, by omega, ?_⟩
 by_cases hck : c = k
 ·subst hck
  rw [if_pos rfl] at h3
  obtain ⟨f, f1, f2, f3⟩ := h3
  have hne : (c + 1) % w.length ≠ c := by
   by_cases hh : c + 1 < w.length
   ·rw [Nat.mod_eq_of_lt hh]; omega
   ·rw [show c + 1 = w.length by omega, Nat.mod_self]; omega
  rw [if_neg hne]
  refine ⟨f, ?_, ?_⟩
  ·rw [restR_first hk]
   show oth + 0 + mosts w z ((c + 1) % w.length) + (_ - mosts w z ((c + 1) % w.length)) ≤ _
   rw [Int.mul_add, Int.mul_one]; omega
  ·have : l = 0 := by have := hl rfl; omega
   rw [this] at f2
   simpa using f2
 ·rw [if_neg hck] at h3
  obtain ⟨f, f1, f2⟩ := h3
  have hr := restR_next (z := z) h1 hk hck
  have hl0 : 0 ≤ l * (nth z c).most := Int.mul_nonneg h2 (by have := hz c h1; omega)
  by_cases hnk : (c + 1) % w.length = k
  ·rw [if_pos hnk, hnk]
   rw [hnk, restR_self] at hr
   refine ⟨f + 1, ?_, ?_, ?_⟩
   ·have : ((f + 1 : Nat) : Int) = (f : Int) + 1 := by omega
    rw [this]; omega
   ·have : ((f + 1 : Nat) : Int) = (f : Int) + 1 := by omega
    rw [this, Int.mul_add, Int.mul_one]; omega
   ·have : ((f + 1 : Nat) : Int) - 1 = (f : Int) := by omega
    rw [this]; exact f2
  ·rw [if_neg hnk]
   refine ⟨f, ?_, f2⟩
   show oth + 0 + mosts w z ((c + 1) % w.length) + (_ - mosts w z ((c + 1) % w.length)) ≤ _
   omega
end
section
variable {σ : Type} {ps : List Pkt} {ch : MS → σ → Int × Nat × σ} {good : MS → σ → Prop} {rel : Nat → Nat → Prop} {classes k : Nat} {V : σ → Int → Int → Prop}
end
section
variable {ps : List Pkt} {w : List Int} {z : List Sz} {k : Nat}
end
section
variable {σ : Type} {ps : List Pkt} {ch : MS → σ → Int × Nat × σ} {good : MS → σ → Prop} {rel : Nat → Nat → Prop} {classes k : Nat}
end
theorem pbytes_congr {flow t t' : Int} : ∀ (ps : List Pkt), (∀ p ∈ ps, p.time < t ↔ p.time < t') → pbytes flow t ps = pbytes flow t' ps
 | [], _ => rfl
 | p :: ps, h => by
  have h1 := h p (by simp)
  have ih := pbytes_congr (flow := flow) ps (fun q hq => h q (by simp [hq]))
  simp only [pbytes]
  rw [ih]
  congr 1
  have e : hit flow t p ↔ hit flow t' p := by unfold hit; rw [h1]
  by_cases hh : hit flow t p
  ·rw [if_pos hh, if_pos (e.1 hh)]
  ·rw [if_neg hh, if_neg (fun h2 => hh (e.2 h2))]
theorem nth_up {vs : List Int} {en : Nat} (hm : ∀ j, j < en → nth vs j ≤ nth vs (j + 1)) {a b : Nat} (hab : a ≤ b) (hb : b ≤ en) : nth vs a ≤ nth vs b := by
  induction b with
  | zero => obtain rfl : a = 0 := by omega
            exact Int.le_refl _
  | succ b ih =>
    by_cases e : a = b + 1
    · subst e; exact Int.le_refl _
    · have h1 := ih (by omega) (by omega)
      have h2 := hm b (by omega)
      omega
theorem keeps {ps : List Pkt} {flow : Int} (hsort : ps.Pairwise fun a b => a.time ≤ b.time) {en : Nat} (hen : ∀ p ∈ ps, 0 ≤ p.time ∧ p.time < en) {vs : List Int} (h0 : ∀ j, j ≤ en → 0 ≤ nth vs j) (hm : ∀ j, j < en → nth vs j ≤ nth vs (j + 1))
  (hP : ∀ i, i < ps.length → ∀ T t : Nat, (nth ps i).time = T → T ≤ t → t ≤ en → pbytes flow (t : Int) ps - pbytes flow (T : Int) ps ≤ nth vs (t - T)) {x t : Nat} (hxt : x ≤ t) : pbytes flow (t : Int) ps - pbytes flow (x : Int) ps ≤ nth vs (min (t - x) en) := by
 have hnn := h0 (min (t - x) en) (by omega)
 by_cases hex : ∃ i, i < ps.length ∧ (x : Int) ≤ (nth ps i).time ∧ (nth ps i).time < t
 ·obtain ⟨i0, i1, i2, i3⟩ := hex
  rcases findFrom_cases (fun i => decide ((x : Int) ≤ (nth ps i).time)) ps.length 0 with ⟨j, j1, j2, _, j4, j5⟩ | ⟨_, h2⟩
  ·have j4 := of_decide_eq_true j4
   have hji : j ≤ i0 := by
    apply Classical.byContradiction
    intro hn
    have := of_decide_eq_false (j5 i0 (Nat.zero_le _) (by omega))
    exact this i2
   have hle : ∀ i, j ≤ i → i < ps.length → (nth ps j).time ≤ (nth ps i).time := fun i h1 h2 => by
    by_cases e : j = i
    ·subst e; exact Int.le_refl _
    ·have := List.pairwise_iff_getElem.1 hsort j i (by omega) h2 (by omega)
     rwa [← nth_eq (show j < ps.length by omega), ← nth_eq h2] at this
   have hj := hen _ (nth_mem (xs := ps) (k := j) (by omega))
   obtain ⟨T, hT⟩ := Int.eq_ofNat_of_zero_le hj.1
   have hTi := hle i0 hji i1
   have e1 : pbytes flow (x : Int) ps = pbytes flow (T : Int) ps := by
    refine pbytes_congr ps (all_of_nth (fun i hi => ?_))
    constructor
    ·intro h; omega
    ·intro h
     apply Classical.byContradiction
     intro hn
     by_cases hij : i < j
     ·have := of_decide_eq_false (j5 i (Nat.zero_le _) hij)
      omega
     ·have := hle i (by omega) hi
      omega
   have e2 : pbytes flow (t : Int) ps = pbytes flow ((min t en : Nat) : Int) ps := by
    refine pbytes_congr ps (fun p hp => ?_)
    have := hen p hp
    omega
   have h3 := hP j (by omega) T (min t en) hT (by omega) (by omega)
   have h4 := nth_up hm (a := min t en - T) (b := min (t - x) en) (by omega) (by omega)
   omega
  ·exact absurd i2 (of_decide_eq_false (h2 i0 (Nat.zero_le _) (by omega)))
 ·have e : pbytes flow (t : Int) ps = pbytes flow (x : Int) ps := by
   refine pbytes_congr ps (all_of_nth (fun i hi => ?_))
   constructor
   ·intro h
    apply Classical.byContradiction
    intro hn
    exact hex ⟨i, hi, by omega, h⟩
   ·intro h; omega
  omega
section
variable {σ : Type} {ps : List Pkt} {ch : MS → σ → Int × Nat × σ} {good : MS → σ → Prop} {rel : Nat → Nat → Prop} {classes col k : Nat} {s : RS σ}
end
def sumF (f : Nat → Int) : Nat → Int
  | 0 => 0
  | n + 1 => sumF f n + f n
theorem sumF_congr {f g : Nat → Int} : ∀ {n : Nat}, (∀ i, i < n → f i = g i) → sumF f n = sumF g n
 | 0, _ => rfl
 | n + 1, h => by simp only [sumF]; rw [sumF_congr (fun i hi => h i (by omega)), h n (by omega)]
theorem sumF_le {f g : Nat → Int} : ∀ {n : Nat}, (∀ i, i < n → f i ≤ g i) → sumF f n ≤ sumF g n
 | 0, _ => Int.le_refl _
 | n + 1, h => by have a := sumF_le (fun i hi => h i (by omega) : ∀ i, i < n → f i ≤ g i); have b := h n (by omega); simp only [sumF]; omega
theorem sumF_change {f g : Nat → Int} {c : Nat} : ∀ {n : Nat}, c < n → (∀ i, i < n → i ≠ c → g i = f i) → sumF g n = sumF f n + (g c - f c)
 | 0, h, _ => by omega
 | n + 1, hc, h => by
  simp only [sumF]
  by_cases e : c = n
  ·subst e
   rw [sumF_congr (fun i hi => h i (by omega) (by omega) : ∀ i, i < c → g i = f i)]; omega
  ·rw [sumF_change (by omega) (fun i hi hne => h i (by omega) hne : ∀ i, i < n → i ≠ c → g i = f i), h n (by omega) (by omega)]; omega
theorem sumF_add {f g : Nat → Int} : ∀ {n : Nat}, sumF (fun i => f i + g i) n = sumF f n + sumF g n
 | 0 => rfl
 | n + 1 => by simp only [sumF]; rw [sumF_add]; omega
def xF (k : Nat) (w : List Int) (z : List Sz) (i : Nat) : Int := if i ≠ k ∧ 1 ≤ (nth z i).most then nth w i else 0
theorem xSum_eq {k : Nat} {w : List Int} {z : List Sz} : ∀ n : Nat, xSum k w z n = sumF (xF k w z) n
 | 0 => rfl
 | n + 1 => by
  simp only [xSum, sumF, xSum_eq n]
  congr 1
  unfold xF
  by_cases h : n ≠ k ∧ 1 ≤ (nth z n).most
  ·rw [if_pos h, if_pos ⟨by omega, h.2⟩]
  ·rw [if_neg h, if_neg (fun hh => h ⟨by omega, hh.2⟩)]
def pend (k c : Nat) (b : Bool) (i : Nat) : Bool := if c = k then b else (decide (i ≠ c) || !b) && (if c ≤ k then decide (c ≤ i ∧ i < k) else decide (c ≤ i ∨ i < k))
theorem pend_iff {k c i : Nat} {b : Bool} : pend k c b i = true ↔ (c = k ∧ b = true) ∨ (c ≠ k ∧ (i ≠ c ∨ b = false) ∧ ((c ≤ k ∧ c ≤ i ∧ i < k) ∨ (¬ c ≤ k ∧ (c ≤ i ∨ i < k)))) := by
 unfold pend
 by_cases h1 : c = k
 ·rw [if_pos h1]; simp [h1]
 ·rw [if_neg h1]
  by_cases h2 : c ≤ k
  ·rw [if_pos h2]; cases b <;> simp [h1, h2]
  ·rw [if_neg h2]; cases b <;> simp [h1, h2]
theorem pend_next {k c n i : Nat} (hc : c < n) (hk : k < n) (hn : 2 ≤ n) (hi : i < n) (hik : i ≠ k) : pend k ((c + 1) % n) false i = pend k c true i := by
 rw [mod_succ hc, Bool.eq_iff_iff, pend_iff, pend_iff]
 have e1 : (false = true) = False := by simp
 have e2 : (true = false) = False := by simp
 by_cases hl : c + 1 < n
 ·rw [if_pos hl, e1, e2]
  simp only [and_false, or_false, and_true, or_true, true_and, false_or]
  omega
 ·rw [if_neg hl, e1, e2]
  simp only [and_false, or_false, and_true, or_true, true_and, false_or]
  omega
theorem pend_self {k c : Nat} (h : c ≠ k) : pend k c true c = false := by unfold pend; rw [if_neg h]; simp
theorem pend_self' {k c : Nat} (h : c ≠ k) : pend k c false c = true := by unfold pend; rw [if_neg h]; split <;> simp <;> omega
theorem pend_other {k c i : Nat} {b : Bool} (h : c ≠ k) (hi : i ≠ c) : pend k c b i = pend k c true i := by unfold pend; rw [if_neg h, if_neg h]; simp [hi]
theorem pend_k {k i : Nat} {b : Bool} : pend k k b i = b := by unfold pend; rw [if_pos rfl]
def potF (w : List Int) (z : List Sz) (k c : Nat) (b : Bool) (d : List Int) (i : Nat) : Int := if i ≠ k ∧ 1 ≤ (nth z i).most then nth d i + (if pend k c b i = true then nth w i else 0) else 0
def DD (n : Nat) (z : List Sz) (c : Nat) (b : Bool) (d : List Int) : Prop := c < n ∧ d.length = n ∧ ∀ i, i < n → 0 ≤ nth d i ∧ (¬ (i = c ∧ b = true) → 1 ≤ (nth z i).most → nth d i ≤ (nth z i).most - 1)
def JD (w : List Int) (z : List Sz) (k c : Nat) (b : Bool) (d : List Int) (op own oth : Int) : Prop :=
  DD w.length z c b d ∧ ∃ v : Nat, oth + (if c = k then 0 else op) + sumF (potF w z k c b d) w.length ≤ ((v : Int) + 1) * xSum k w z w.length + zSum k z w.length ∧
    (v : Int) * nth w k ≤ own + (if c = k then op else 0) + nth d k ∧ (c = k → b = true → ((v : Int) - 1) * nth w k - ((nth z k).most - 1) ≤ own)
section
variable {nx sz : Int → Int} {w : List Int} {z : List Sz} {k : Nat}
theorem DD.grant (hw : ∀ x ∈ w, 1 ≤ x) {c : Nat} {b : Bool} {d : List Int} (h : DD w.length z c b d) (h0 : 0 ≤ nx c) : DD w.length z c true (M.grant nx w c b d) := by
 obtain ⟨h1, h2, h3⟩ := h
 refine ⟨h1, by rw [grant_len]; exact h2, fun i hi => ?_⟩
 have a := h3 i hi
 by_cases e : i = c
 ·subst e
  refine ⟨?_, fun hn => absurd ⟨rfl, rfl⟩ hn⟩
  rw [grant_self (by omega)]
  have := hw _ (nth_mem hi)
  split <;> omega
 ·rw [grant_ne e]
  exact ⟨a.1, fun _ hm => a.2 (fun hh => e hh.1) hm⟩
theorem DD.pick {c : Nat} {d : List Int} (h : DD w.length z c true d) {s : Int} (hs : s ≤ nth d c) : DD w.length z c true (d.set c (nth d c - s)) := by
 obtain ⟨h1, h2, h3⟩ := h
 refine ⟨h1, by rw [List.length_set]; exact h2, fun i hi => ?_⟩
 have a := h3 i hi
 by_cases e : i = c
 ·subst e
  rw [nth_set_self (by omega)]
  exact ⟨by omega, fun hn => absurd ⟨rfl, rfl⟩ hn⟩
 ·rw [nth_set_ne (Ne.symm e)]
  exact ⟨a.1, fun _ hm => a.2 (fun hh => e hh.1) hm⟩
theorem DD.next {c : Nat} {b : Bool} {d : List Int} (h : DD w.length z c b d) (hlt : 1 ≤ (nth z c).most → nth d c ≤ (nth z c).most - 1) : DD w.length z ((c + 1) % w.length) false d := by
 obtain ⟨h1, h2, h3⟩ := h
 refine ⟨Nat.mod_lt _ (by omega), h2, fun i hi => ?_⟩
 have a := h3 i hi
 refine ⟨a.1, fun _ hm => ?_⟩
 by_cases e : i = c
 ·subst e; exact hlt hm
 ·exact a.2 (fun hh => e hh.1) hm
theorem JD.grant (hw : ∀ x ∈ w, 1 ≤ x) (hk : k < w.length) (hL : 1 ≤ (nth z k).most) {c : Nat} {b : Bool} {d : List Int} {own oth : Int} (h : JD w z k c b d 0 own oth) (h0 : 0 ≤ nx c) : JD w z k c true (M.grant nx w c b d) 0 own oth := by
 obtain ⟨hd, v, a1, a2, a3⟩ := h
 refine ⟨hd.grant hw h0, ?_⟩
 have hcl : c < d.length := by rw [hd.2.1]; exact hd.1
 cases b with
 | true =>
  have e : M.grant nx w c true d = d := by unfold M.grant; rw [if_neg (by simp)]
  rw [e]; exact ⟨v, a1, a2, a3⟩
 | false =>
  have eg : nth (M.grant nx w c false d) c = nth d c + nth w c := by rw [grant_self hcl, if_pos ⟨h0, rfl⟩]
  by_cases hck : c = k
  ·subst hck
   rw [if_pos rfl] at a1 a2
   refine ⟨v + 1, ?_, ?_, fun _ _ => ?_⟩
   ·rw [if_pos rfl]
    have e : sumF (potF w z c c true (M.grant nx w c false d)) w.length = sumF (potF w z c c false d) w.length + xSum c w z w.length := by
     rw [xSum_eq, ← sumF_add]
     refine sumF_congr (fun i hi => ?_)
     unfold potF xF
     by_cases hh : i ≠ c ∧ 1 ≤ (nth z i).most
     ·rw [if_pos hh, if_pos hh, if_pos hh, grant_ne hh.1, pend_k, pend_k, if_pos rfl, if_neg (by simp)]; omega
     ·rw [if_neg hh, if_neg hh, if_neg hh]; omega
    rw [e]
    have e2 : (((v + 1 : Nat) : Int) + 1) * xSum c w z w.length = ((v : Int) + 1) * xSum c w z w.length + xSum c w z w.length := by rw [show (((v + 1 : Nat) : Int) + 1) = ((v : Int) + 1) + 1 by omega, Int.add_mul, Int.one_mul]
    rw [e2]; omega
   ·rw [if_pos rfl, eg]
    have e2 : (((v + 1 : Nat) : Int)) * nth w c = (v : Int) * nth w c + nth w c := by rw [show ((v + 1 : Nat) : Int) = (v : Int) + 1 by omega, Int.add_mul, Int.one_mul]
    rw [e2]; omega
   ·have hdk := (hd.2.2 c hk).2 (by simp) hL
    rw [show (((v + 1 : Nat) : Int) - 1) = (v : Int) by omega]
    omega
  ·rw [if_neg hck] at a1 a2
   refine ⟨v, ?_, ?_, fun h => absurd h hck⟩
   ·rw [if_neg hck]
    have e : sumF (potF w z k c true (M.grant nx w c false d)) w.length = sumF (potF w z k c false d) w.length := by
     refine sumF_congr (fun i hi => ?_)
     unfold potF
     by_cases hh : i ≠ k ∧ 1 ≤ (nth z i).most
     ·rw [if_pos hh, if_pos hh]
      by_cases e : i = c
      ·subst e
       rw [eg, pend_self hck, pend_self' hck, if_neg (by simp), if_pos rfl]; omega
      ·rw [grant_ne e, pend_other (b := false) hck e]
     ·rw [if_neg hh, if_neg hh]
    rw [e]; exact a1
   ·rw [if_neg hck, grant_ne (Ne.symm hck)]; exact a2
theorem JD.pick {c : Nat} {d : List Int} {own oth : Int} (h : JD w z k c true d 0 own oth) {s : Int} (hs : s ≤ nth d c) (hm : 1 ≤ (nth z c).most) : JD w z k c true (d.set c (nth d c - s)) s own oth := by
 obtain ⟨hd, v, a1, a2, a3⟩ := h
 have hcl : c < d.length := by rw [hd.2.1]; exact hd.1
 refine ⟨hd.pick hs, v, ?_, ?_, a3⟩
 ·by_cases hck : c = k
  ·subst hck
   rw [if_pos rfl] at a1 ⊢
   have e : sumF (potF w z c c true (d.set c (nth d c - s))) w.length = sumF (potF w z c c true d) w.length := by
    refine sumF_congr (fun i hi => ?_)
    unfold potF
    by_cases hh : i ≠ c ∧ 1 ≤ (nth z i).most
    ·rw [if_pos hh, if_pos hh, nth_set_ne (Ne.symm hh.1)]
    ·rw [if_neg hh, if_neg hh]
   rw [e]; exact a1
  ·rw [if_neg hck] at a1 ⊢
   have e : sumF (potF w z k c true (d.set c (nth d c - s))) w.length = sumF (potF w z k c true d) w.length + (potF w z k c true (d.set c (nth d c - s)) c - potF w z k c true d c) := by
    refine sumF_change hd.1 (fun i hi hne => ?_)
    unfold potF
    rw [nth_set_ne (Ne.symm hne)]
   have e2 : potF w z k c true (d.set c (nth d c - s)) c - potF w z k c true d c = - s := by
    unfold potF
    have hcm : c ≠ k ∧ 1 ≤ (nth z c).most := ⟨hck, hm⟩
    rw [if_pos hcm, if_pos hcm, nth_set_self hcl]; omega
   rw [e, e2]; omega
 ·by_cases hck : c = k
  ·subst hck
   rw [if_pos rfl] at a2 ⊢
   rw [nth_set_self hcl]; omega
  ·rw [if_neg hck] at a2 ⊢
   rw [nth_set_ne hck]; exact a2
theorem JD.next (hw : ∀ x ∈ w, 1 ≤ x) (hk : k < w.length) (hn : 2 ≤ w.length) {c : Nat} {d : List Int} {own oth : Int} (h : JD w z k c true d 0 own oth) (hlt : 1 ≤ (nth z c).most → nth d c ≤ (nth z c).most - 1) : JD w z k ((c + 1) % w.length) false d 0 own oth := by
 obtain ⟨hd, v, a1, a2, a3⟩ := h
 refine ⟨hd.next hlt, v, ?_, ?_, fun _ h => by cases h⟩
 ·have e : sumF (potF w z k ((c + 1) % w.length) false d) w.length = sumF (potF w z k c true d) w.length := by
   refine sumF_congr (fun i hi => ?_)
   unfold potF
   by_cases hh : i ≠ k ∧ 1 ≤ (nth z i).most
   ·rw [if_pos hh, if_pos hh, pend_next hd.1 hk hn hi hh.1]
   ·rw [if_neg hh, if_neg hh]
  rw [e]
  split <;> split at a1 <;> omega
 ·split <;> split at a2 <;> omega
theorem JD.skip (hw : ∀ x ∈ w, 1 ≤ x) (hk : k < w.length) (hn : 2 ≤ w.length) {c : Nat} {b : Bool} {d : List Int} {own oth : Int} (h : JD w z k c b d 0 own oth) (hck : c ≠ k) : JD w z k ((c + 1) % w.length) false (d.set c 0) 0 own oth := by
 obtain ⟨hd, v, a1, a2, a3⟩ := h
 have hcl : c < d.length := by rw [hd.2.1]; exact hd.1
 have hd2 : DD w.length z c b (d.set c 0) := by
  refine ⟨hd.1, by rw [List.length_set]; exact hd.2.1, fun i hi => ?_⟩
  by_cases e : i = c
  ·subst e
   rw [nth_set_self hcl]
   exact ⟨Int.le_refl _, fun _ hm => by omega⟩
  ·rw [nth_set_ne (Ne.symm e)]; exact hd.2.2 i hi
 refine ⟨hd2.next (fun hm => by rw [nth_set_self hcl]; omega), v, ?_, ?_, fun _ h => by cases h⟩
 ·have e : sumF (potF w z k ((c + 1) % w.length) false (d.set c 0)) w.length ≤ sumF (potF w z k c b d) w.length := by
   refine sumF_le (fun i hi => ?_)
   unfold potF
   by_cases hh : i ≠ k ∧ 1 ≤ (nth z i).most
   ·rw [if_pos hh, if_pos hh, pend_next hd.1 hk hn hi hh.1]
    by_cases e : i = c
    ·subst e
     rw [nth_set_self hcl, pend_self hck, if_neg (by simp)]
     have := (hd.2.2 i hi).1
     have := hw _ (nth_mem hi)
     split <;> omega
    ·rw [nth_set_ne (Ne.symm e), pend_other (b := b) hck e]; exact Int.le_refl _
   ·rw [if_neg hh, if_neg hh]; exact Int.le_refl _
  rw [if_neg hck] at a1
  split <;> omega
 ·rw [nth_set_ne hck]
  rw [if_neg hck] at a2
  split <;> omega
end
section
variable {ps : List Pkt} {w : List Int} {z : List Sz} {k : Nat}
def V0 (w : List Int) (z : List Sz) (c : Nat) (b : Bool) (d : List Int) (op : Int) : Prop := DD w.length z c b d ∧ (b = true → 1 ≤ (nth z c).most → nth d c + op ≤ (nth z c).most - 1 + nth w c)
theorem V0.grant (hw : ∀ x ∈ w, 1 ≤ x) {nx : Int → Int} {c : Nat} {b : Bool} {d : List Int} (h : V0 w z c b d 0) (h0 : 0 ≤ nx c) : V0 w z c true (M.grant nx w c b d) 0 := by
 obtain ⟨hd, h1⟩ := h
 have hcl : c < d.length := by rw [hd.2.1]; exact hd.1
 refine ⟨hd.grant hw h0, fun _ hm => ?_⟩
 rw [grant_self hcl]
 cases b with
 | true => rw [if_neg (by simp)]; exact h1 rfl hm
 | false =>
  rw [if_pos ⟨h0, rfl⟩]
  have := (hd.2.2 c hd.1).2 (by simp) hm
  omega
end
def CurveFor (x : Cv × Int) (cap : Int) (O : Int → Int) (G : Nat → Int) (s p : Nat) (q : Int) : Prop :=
  x = (⟨fvals G (s + p), p, q⟩, 0) ∧ FC G s p q ∧ G 0 = 0 ∧ ∀ (t : Nat) (own : Int), 0 ≤ own → cap * (t : Int) ≤ own + O own → G t ≤ own
theorem leastY_le {H : Nat → Bool} {b y : Nat} (hb : H b = true) (hy : H y = true) : leastY H b ≤ y := by
 obtain ⟨_, _, h3⟩ := leastY_is hb
 apply Classical.byContradiction
 intro hn
 rw [h3 y (by omega)] at hy; cases hy
theorem rob_for {cap k : Int} {w : List Int} {z : List Sz} (h : (robinC cap k w z).2 = 0) : chkW 20 cap k w z = 0 ∧ 1 ≤ (nth z k.toNat).least ∧ ∃ (G : Nat → Int) (s p : Nat) (q : Int), CurveFor (robinC cap k w z) cap (fun own => qSum k w z w.length * (own / (nth w k.toNat * (nth z k.toNat).least) + 1)) G s p q := by
 by_cases h0 : chkW 20 cap k w z = 0
 ·by_cases h1 : (nth z k.toNat).least < 1
  ·have : robinC cap k w z = (zcv, 5) := by unfold robinC; rw [if_neg (fun h => h h0), if_pos h1]
   rw [this] at h; cases h
  ·refine ⟨h0, by omega, ?_⟩
   obtain ⟨cn, kn, m, r, rfl, rfl, c1, k1, zl, hwl, hw, hz, hr, r1, hm, m1, hcase⟩ := rob_cases h0 h1
   rcases hcase with ⟨_, hd⟩ | ⟨s, p, mm, hro, hd⟩
   ·rw [hd] at h; cases h
   ·obtain ⟨hg, hi, hb, _⟩ := hro.facts
    have hp := hro.p1
    have hs1 := hro.s1
    rcases build_fc (by omega) hi.1 hg (fun t => robinF_mono (by omega) (by omega) hs1.1 t) (hb 0 (by omega)).1 (fun t ht => by have := hb t (by omega); unfold INF; omega) with e | ⟨s', p', q', e, hfc⟩
    ·rw [hd, e] at h; cases h
    ·have hq := qSum_bound (k := (kn : Int)) hw hz w.length (Nat.le_refl _) (by omega)
     have hms : m ≤ s := by
      rcases shortN_cases m cn with e1 | ⟨s2, e1, e2, _, _⟩
      ·rw [hro.hs] at e1; omega
      ·rw [hro.hs] at e1; omega
     refine ⟨robinF cn s r, s', p', q', by rw [hd, e], hfc, ?_, fun t own h0 h2 => ?_⟩
     ·have := robinF_bound (cap := (cn : Int)) (s := (s : Int)) (r := r) (by omega) (by omega) hs1.1 0
      simp at this; omega
     ·dsimp only at h2
      rw [Int.toNat_natCast, ← hr] at h2
      obtain ⟨y, rfl⟩ := Int.eq_ofNat_of_zero_le h0
      have hd0 : 0 ≤ (y : Int) / r := Int.ediv_nonneg (by omega) (by omega)
      have hle : qSum kn w z w.length * ((y : Int) / r + 1) ≤ ((s : Int) - r) * ((y : Int) / r + 1) := Int.mul_le_mul_of_nonneg_right (by omega) (by omega)
      have hy : robinH cn s r t y = true := by unfold robinH; exact decide_eq_true (by omega)
      have := leastY_le (robinH_bound (show 0 < r by omega) hs1.1 t (show (0 : Int) ≤ cn by omega)) hy
      show ((leastY (robinH cn s r t) ((cn : Int) * t).toNat : Nat) : Int) ≤ (y : Int)
      omega
 ·have : robinC cap k w z = (zcv, chkW 20 cap k w z) := if_pos h0
  rw [this] at h
  exact absurd h h0
theorem def_for {cap k : Int} {w : List Int} {z : List Sz} (h : (defC cap k w z).2 = 0) : chkW 6000 cap k w z = 0 ∧ 1 ≤ (nth z k.toNat).most ∧ ∃ (G : Nat → Int) (s p : Nat) (q : Int), CurveFor (defC cap k w z) cap (fun own => ((own + (nth z k.toNat).most - 1) / nth w k.toNat + 1) * xSum k w z w.length + zSum k z w.length) G s p q := by
 by_cases h0 : chkW 6000 cap k w z = 0
 ·by_cases h1 : (nth z k.toNat).most < 1
  ·have : defC cap k w z = (zcv, 5) := by unfold defC; rw [if_neg (fun h => h h0), if_pos h1]
   rw [this] at h; cases h
  ·refine ⟨h0, by omega, ?_⟩
   obtain ⟨cn, kn, m, q, l, x, y, rfl, rfl, c1, k1, zl, hwl, hw, hz, hq, hl, q1, l1, hx, hy, x1, y1, hm, m1, hcase⟩ := def_cases h0 h1
   rcases hcase with ⟨_, hd⟩ | ⟨s, p, mm, hro, hd⟩
   ·rw [hd] at h; cases h
   ·have hs1 := hro.s1
    have hsx := hro.sx
    have hp := hro.p1
    by_cases hfr : 400 < fromD (cn : Int) (s : Int) q l y
    ·rw [hd, if_pos hfr] at h; cases h
    ·rw [if_neg hfr] at hd
     obtain ⟨b1, b2, b3⟩ := start_bound (cap := (cn : Int)) (s := (s : Int)) (q := q) (l := l) (z := y) (by omega) (by omega) hs1.1 l1.1 y1.1
     have hbm := def_build (cap := (cn : Int)) (s := (s : Int)) (q := q) (l := l) (z := y) (p := p) (m := mm) (by omega) (by omega) hs1.1 l1.1 y1.1 (by omega) hro.hmm (by omega)
     rw [if_neg hfr, ← hro.hinc] at hbm
     rw [← hbm] at hd
     have hi : 0 ≤ (cn : Int) * p / s * q := by rw [hro.hinc]; exact Int.mul_nonneg (by omega) (by omega)
     have hb : ∀ t : Nat, t ≤ 1000 → 0 ≤ defFn cn s q l y t ∧ defFn cn s q l y t < INF := fun t ht => by
      have h1 := defFn_bound (cap := (cn : Int)) (s := (s : Int)) (q := q) (l := l) (z := y) (by omega) (by omega) hs1.1 l1.1 y1.1 t
      have h2 := mulB (a := (cn : Int)) (b := (t : Int)) (A := 4000) (B := 1000) (by omega) (by omega)
      unfold INF; omega
     have hg := defFn_grows (cap := (cn : Int)) (s := (s : Int)) (q := q) (l := l) (z := y) (S := (startD (cn : Int) (s : Int) q l y).toNat) (by omega) (by omega) hs1.1 l1.1 y1.1 hro.hmm (by omega)
     rw [← hro.hinc] at hg
     rcases build_fc (by omega) hi hg (fun t => defFn_mono (by omega) (by omega) hs1.1 l1.1 y1.1 t) (hb 0 (by omega)).1 (fun t ht => (hb t (by omega)).2) with e | ⟨s', p', q', e, hfc⟩
     ·rw [hd, e] at h; cases h
     ·refine ⟨defFn cn s q l y, s', p', q', by rw [hd, e], hfc, defFn_zero (by omega) (by omega) hs1.1 l1.1 y1.1 (by omega), fun t own h0 h2 => ?_⟩
      dsimp only at h2
      rw [Int.toNat_natCast, ← hl, ← hq, ← hx, ← hy] at h2
      obtain ⟨v, rfl⟩ := Int.eq_ofNat_of_zero_le h0
      have hd0 : 0 ≤ ((v : Int) + l - 1) / q := Int.ediv_nonneg (by omega) (by omega)
      have hle : (((v : Int) + l - 1) / q + 1) * x ≤ (((v : Int) + l - 1) / q + 1) * ((s : Int) - q) := Int.mul_le_mul_of_nonneg_left (by omega) (by omega)
      have hv : defH cn s q l y t v = true := by
       unfold defH allD
       rw [Int.mul_comm ((s : Int) - q)]
       exact decide_eq_true (by omega)
      have := leastY_le (defH_bound (show 0 < q by omega) hs1.1 l1.1 y1.1 t (show (0 : Int) ≤ cn by omega)) hv
      show ((leastY (defH cn s q l y t) ((cn : Int) * t).toNat : Nat) : Int) ≤ (v : Int)
      omega
 ·have : defC cap k w z = (zcv, chkW 6000 cap k w z) := if_pos h0
  rw [this] at h
  exact absurd h h0
section
variable {σ : Type} {ps : List Pkt} {ch : MS → σ → Int × Nat × σ} {good : MS → σ → Prop} {classes k : Nat}
end
def Fits (tb : List Int) (cap : Int) (t : Nat) (left rest : Int) : Prop := (∀ i, slotT tb i = slotT tb t) ∨ ∃ n : Nat, (∀ j, j ≤ n → slotT tb (t + j) = slotT tb t) ∧ rest ≤ left + cap * n
theorem Fits.next {tb : List Int} {cap : Int} {t : Nat} {rest : Int} (h : Fits tb cap t 0 rest) (hr : 1 ≤ rest) : slotT tb (t + 1) = slotT tb t ∧ Fits tb cap (t + 1) cap rest := by
 rcases h with h | ⟨n, h1, h2⟩
 ·exact ⟨h _, .inl (fun i => by rw [h i, h (t + 1)])⟩
 ·cases n with
  | zero => simp at h2; omega
  | succ n =>
   have e := h1 1 (by omega)
   refine ⟨e, .inr ⟨n, fun j hj => ?_, ?_⟩⟩
   ·rw [show t + 1 + j = t + (j + 1) by omega, h1 (j + 1) (by omega), e]
   ·rw [Int.natCast_add, Int.mul_add] at h2
    simp at h2; omega
section
variable {ps : List Pkt} {cap : Int} {tb : List Int} {classes : Nat}
end
def slotS (cap lost : Int) (mine : Nat → Bool) (from_ : Nat) : Nat → Int × Int
  | 0 => (0, 0)
  | d + 1 => if mine (from_ + d) = true then ((slotS cap lost mine from_ d).1, (slotS cap lost mine from_ d).2 + cap) else ((slotS cap lost mine from_ d).1 + max 0 ((slotS cap lost mine from_ d).2 - lost), 0)
def cntS (cap lost : Int) (mine : Nat → Bool) (from_ k : Nat) : Int := (slotS cap lost mine from_ k).1 + max 0 ((slotS cap lost mine from_ k).2 - lost)
def minTo (f : Nat → Int) : Nat → Int
  | 0 => 4611686018427387904
  | n + 1 => min (minTo f n) (f n)
def minN (f : Nat → Int) : Nat → Int
  | 0 => f 0
  | n + 1 => min (minN f n) (f n)
def slotF (cap lost : Int) (mine : Nat → Bool) (n : Nat) (k : Nat) : Int := minN (fun a => cntS cap lost mine a k) n
theorem minTo_minN {f : Nat → Int} (h : f 0 ≤ 4611686018427387904) : ∀ {n : Nat}, 0 < n → minTo f n = minN f n
 | 0, h0 => by omega
 | 1, _ => by simp only [minTo, minN]; omega
 | n + 2, _ => by
  have ih := minTo_minN h (n := n + 1) (by omega)
  have e1 : minTo f (n + 2) = min (minTo f (n + 1)) (f (n + 1)) := rfl
  have e2 : minN f (n + 2) = min (minN f (n + 1)) (f (n + 1)) := rfl
  omega
theorem minN_le {f : Nat → Int} : ∀ {n i : Nat}, i < n → minN f n ≤ f i
 | 0, i, h => by omega
 | n + 1, i, h => by
  simp only [minN]
  by_cases e : i = n
  ·subst e; omega
  ·have := minN_le (f := f) (n := n) (i := i) (by omega); omega
theorem minN_ge {f : Nat → Int} {B : Int} (h0 : B ≤ f 0) : ∀ {n : Nat}, (∀ i, i < n → B ≤ f i) → B ≤ minN f n
 | 0, _ => h0
 | n + 1, hf => by
  have a := minN_ge h0 (n := n) (fun i hi => hf i (by omega))
  have b := hf n (by omega)
  simp only [minN]; omega
theorem minN_add {f g : Nat → Int} {W : Int} : ∀ {n : Nat}, 0 < n → (∀ i, i < n → g i = f i + W) → minN g n = minN f n + W
 | 0, h, _ => by omega
 | 1, _, h => by
  have a := h 0 (by omega)
  simp only [minN]; omega
 | n + 2, _, h => by
  have ih := minN_add (f := f) (g := g) (n := n + 1) (by omega) (fun i hi => h i (by omega))
  have a := h (n + 1) (by omega)
  have e1 : minN g (n + 2) = min (minN g (n + 1)) (g (n + 1)) := rfl
  have e2 : minN f (n + 2) = min (minN f (n + 1)) (f (n + 1)) := rfl
  omega
section
variable {cap lost : Int} {mine : Nat → Bool} {a : Nat}
theorem slotS_nonneg (hc : 0 ≤ cap) : ∀ d : Nat, 0 ≤ (slotS cap lost mine a d).1 ∧ 0 ≤ (slotS cap lost mine a d).2 ∧ (slotS cap lost mine a d).1 + (slotS cap lost mine a d).2 ≤ cap * d + max 0 (-lost) * d
 | 0 => by simp [slotS]
 | d + 1 => by
  obtain ⟨h1, h2, h3⟩ := slotS_nonneg hc d
  have e1 : cap * ((d + 1 : Nat) : Int) = cap * (d : Int) + cap := by rw [Int.natCast_add, Int.mul_add]; simp
  have e2 : max 0 (-lost) * ((d + 1 : Nat) : Int) = max 0 (-lost) * (d : Int) + max 0 (-lost) := by rw [Int.natCast_add, Int.mul_add]; simp
  rw [e1, e2]
  simp only [slotS]
  split
  ·dsimp only; omega
  ·dsimp only; omega
theorem cntS_bound (hc : 0 ≤ cap) (hl : 0 ≤ lost) (k : Nat) : 0 ≤ cntS cap lost mine a k ∧ cntS cap lost mine a k ≤ cap * k := by
 obtain ⟨h1, h2, h3⟩ := slotS_nonneg (lost := lost) (mine := mine) (a := a) hc k
 have e : max 0 (-lost) = 0 := by omega
 rw [e, Int.zero_mul] at h3
 unfold cntS
 omega
theorem cntS_mono (hc : 0 ≤ cap) (k : Nat) : cntS cap lost mine a k ≤ cntS cap lost mine a (k + 1) := by
 unfold cntS
 simp only [slotS]
 split
 ·dsimp only; omega
 ·dsimp only; omega
theorem slotS_congr {mine' : Nat → Bool} {b : Nat} : ∀ {d : Nat}, (∀ i, i < d → mine (a + i) = mine' (b + i)) → slotS cap lost mine a d = slotS cap lost mine' b d
 | 0, _ => rfl
 | d + 1, h => by
  have ih := slotS_congr (mine' := mine') (b := b) (d := d) (fun i hi => h i (by omega))
  simp only [slotS]
  rw [ih, h d (by omega)]
theorem slotS_split {p : Nat} (hp : mine (a + p) = false) : ∀ d : Nat, slotS cap lost mine a (p + 1 + d) = ((slotS cap lost mine a (p + 1)).1 + (slotS cap lost mine (a + (p + 1)) d).1, (slotS cap lost mine (a + (p + 1)) d).2)
 | 0 => by
  have e : (slotS cap lost mine a (p + 1)).2 = 0 := by simp only [slotS]; rw [if_neg (by rw [hp]; simp)]
  have e2 : slotS cap lost mine a (p + 1) = ((slotS cap lost mine a (p + 1)).1, 0) := Prod.ext rfl e
  rw [Nat.add_zero]
  show slotS cap lost mine a (p + 1) = ((slotS cap lost mine a (p + 1)).1 + 0, 0)
  rw [Int.add_zero]; exact e2
 | d + 1 => by
  have ih := slotS_split hp d
  rw [show p + 1 + (d + 1) = (p + 1 + d) + 1 by omega]
  rw [slotS, ih]
  have e : a + (p + 1 + d) = a + (p + 1) + d := by omega
  rw [e]
  have e2 : slotS cap lost mine (a + (p + 1)) (d + 1) = if mine (a + (p + 1) + d) = true then ((slotS cap lost mine (a + (p + 1)) d).1, (slotS cap lost mine (a + (p + 1)) d).2 + cap) else ((slotS cap lost mine (a + (p + 1)) d).1 + max 0 ((slotS cap lost mine (a + (p + 1)) d).2 - lost), 0) := rfl
  rw [e2]
  by_cases hm : mine (a + (p + 1) + d) = true
  ·rw [if_pos hm, if_pos hm]
  ·rw [if_neg hm, if_neg hm]
   dsimp only
   rw [Int.add_assoc]
theorem cntS_split {p : Nat} (hp : mine (a + p) = false) (d : Nat) : cntS cap lost mine a (p + 1 + d) = (slotS cap lost mine a (p + 1)).1 + cntS cap lost mine (a + (p + 1)) d := by
 unfold cntS
 rw [slotS_split hp]
 dsimp only
 omega
theorem cntS_cycle {n : Nat} (hper : ∀ i, mine (i + n) = mine i) (hn : 0 < n) {b : Nat} (hb : mine b = false) {k : Nat} (hk : n ≤ k) : cntS cap lost mine a (k + n) = cntS cap lost mine a k + (slotS cap lost mine (b + 1) n).1 := by
 have hmod : ∀ i m : Nat, mine (i + m * n) = mine i := fun i m => by
  induction m with
  | zero => simp
  | succ m ih => rw [show i + (m + 1) * n = i + m * n + n by rw [Nat.add_mul]; omega, hper, ih]
 have hres : ∀ i j : Nat, i % n = j % n → mine i = mine j := fun i j h => by
  have e1 := hmod (i % n) (i / n)
  have e2 := hmod (j % n) (j / n)
  rw [show i % n + i / n * n = i by rw [Nat.mul_comm]; exact Nat.mod_add_div i n] at e1
  rw [show j % n + j / n * n = j by rw [Nat.mul_comm]; exact Nat.mod_add_div j n] at e2
  rw [e1, e2, h]
 obtain ⟨p, hp, ep⟩ := mod_off (t := a) (i := b) hn
 have hpf : mine (a + p) = false := by rw [hres _ _ ep]; exact hb
 have hW : (slotS cap lost mine (b + 1) n).1 = (slotS cap lost mine (a + p + 1) n).1 := by
  have : slotS cap lost mine (b + 1) n = slotS cap lost mine (a + p + 1) n := slotS_congr (fun i _ => by
   refine hres _ _ ?_
   rw [show b + 1 + i = b + (1 + i) by omega, show a + p + 1 + i = (a + p) + (1 + i) by omega, Nat.add_mod, ← ep, ← Nat.add_mod])
  rw [this]
 obtain ⟨d, rfl⟩ : ∃ d, k = p + 1 + d := ⟨k - (p + 1), by omega⟩
 rw [show p + 1 + d + n = p + 1 + (d + n) by omega, cntS_split hpf, cntS_split hpf, hW]
 have hlast : mine (a + (p + 1) + (n - 1)) = false := by
  rw [show a + (p + 1) + (n - 1) = a + p + n by omega, hper]; exact hpf
 have h1 := cntS_split (cap := cap) (lost := lost) hlast d
 rw [show n - 1 + 1 + d = d + n by omega, show n - 1 + 1 = n by omega] at h1
 have h2 : cntS cap lost mine (a + (p + 1) + n) d = cntS cap lost mine (a + (p + 1)) d := by
  unfold cntS
  rw [slotS_congr (mine' := mine) (b := a + (p + 1)) (fun i _ => by rw [show a + (p + 1) + n + i = a + (p + 1) + i + n by omega, hper])]
 rw [h1, h2, show a + (p + 1) = a + p + 1 by omega]
 omega
end
def mineT (tb : List Int) (k : Int) (t : Nat) : Bool := slotT tb t == k
theorem mineT_per {tb : List Int} {k : Int} (i : Nat) : mineT tb k (i + tb.length) = mineT tb k i := by unfold mineT slotT; rw [Nat.add_mod_right]
section
variable {ps : List Pkt} {cap : Int} {tb : List Int} {classes k : Nat}
theorem slotF_le (hn : 0 < tb.length) {cap lost : Int} {k : Int} (a d : Nat) : slotF cap lost (mineT tb k) tb.length d ≤ cntS cap lost (mineT tb k) a d := by
 have h1 := minN_le (f := fun a => cntS cap lost (mineT tb k) a d) (n := tb.length) (i := a % tb.length) (Nat.mod_lt _ hn)
 have h2 : cntS cap lost (mineT tb k) (a % tb.length) d = cntS cap lost (mineT tb k) a d := by
  unfold cntS
  rw [slotS_congr (mine' := mineT tb k) (b := a) (fun i _ => by unfold mineT slotT; rw [Nat.mod_add_mod])]
 rw [h2] at h1; exact h1
end
def chkT (cap cls : Int) (tb : List Int) (z : List Sz) : Int := if chk18 cap cls z ≠ 0 then 2 else if okT z.length tb = false then 2 else 0
def someT (cls : Int) (tb : List Int) : Bool := tb.any fun c => c == cls
def allT (cls : Int) (tb : List Int) : Bool := tb.all fun c => c == cls
def lineF (cap lost : Int) (t : Nat) : Int := max 0 (cap * t - lost)
def slotC (cap cls : Int) (tb : List Int) (z : List Sz) : Cv × Int :=
  if chkT cap cls tb z ≠ 0 then (zcv, chkT cap cls tb z)
  else if someT cls tb = false ∨ (nth z cls.toNat).most < 1 then (zcv, 5)
  else if allT cls tb = true then (if 400 * cap < (nth z cls.toNat).most - 1 then (zcv, 3) else madeR ⟨fvals (lineF cap ((nth z cls.toNat).most - 1)) 401, 1, cap⟩)
  else madeR ⟨fvals (slotF cap ((nth z cls.toNat).most - 1) (mineT tb cls) tb.length) (3 * tb.length + tb.length), tb.length,
    slotF cap ((nth z cls.toNat).most - 1) (mineT tb cls) tb.length (4 * tb.length - 1) - slotF cap ((nth z cls.toNat).most - 1) (mineT tb cls) tb.length (3 * tb.length - 1)⟩
theorem chkT_ok {cap cls : Int} {tb : List Int} {z : List Sz} (h : chkT cap cls tb z = 0) : 1 ≤ cap ∧ cap ≤ 4000 ∧ 0 ≤ cls ∧ cls < z.length ∧ z.length ≤ 6 ∧ (1 ≤ tb.length ∧ tb.length ≤ 40 ∧ ∀ c ∈ tb, -1 ≤ c ∧ c < z.length) ∧ ∀ s ∈ z, 0 ≤ s.least ∧ s.least ≤ s.most ∧ s.most ≤ 1500 := by
 unfold chkT at h
 by_cases h1 : chk18 cap cls z ≠ 0
 ·rw [if_pos h1] at h; omega
 ·rw [if_neg h1] at h
  by_cases h2 : okT z.length tb = false
  ·rw [if_pos h2] at h; omega
  ·have hw : chkW 20 cap cls (List.replicate z.length 1) z = 0 := by
    unfold chkW
    rw [if_neg h1, if_neg]
    intro h
    rcases h with h | h
    ·simp at h
    ·have : okW 20 (List.replicate z.length 1) = true := okW_iff.2 (fun x hx => by rw [List.eq_of_mem_replicate hx]; omega)
     rw [this] at h; cases h
   obtain ⟨a1, a2, a3, a4, a5, _, _, a8⟩ := chkW_ok hw
   exact ⟨a1, a2, a3, a4, a5, okT_iff.1 (by simpa using h2), a8⟩
section
variable {cap lost : Int}
theorem lineF_bound (hc : 0 ≤ cap) (hl : 0 ≤ lost) (t : Nat) : 0 ≤ lineF cap lost t ∧ lineF cap lost t ≤ cap * t := by
 have := Int.mul_nonneg hc (show (0 : Int) ≤ (t : Int) by omega)
 unfold lineF; omega
theorem lineF_mono (hc : 0 ≤ cap) (t : Nat) : lineF cap lost t ≤ lineF cap lost (t + 1) := by
 have : cap * ((t + 1 : Nat) : Int) = cap * (t : Int) + cap := by rw [Int.natCast_add, Int.mul_add]; simp
 unfold lineF; omega
theorem lineF_grows (hc : 0 ≤ cap) {S : Nat} (hS : lost ≤ cap * S) : Grows (lineF cap lost) S 1 cap := by
 intro t ht
 have h1 := Int.mul_le_mul_of_nonneg_left (show (S : Int) ≤ (t : Int) by omega) hc
 have : cap * ((t + 1 : Nat) : Int) = cap * (t : Int) + cap := by rw [Int.natCast_add, Int.mul_add]; simp
 unfold lineF; omega
theorem lost_quo (hc : 0 < cap) (hl : 0 ≤ lost) : lost ≤ cap * ((lost / cap + 1).toNat : Int) ∧ 0 ≤ lost / cap ∧ lost / cap ≤ lost := by
 have h0 : 0 ≤ lost / cap := Int.ediv_nonneg hl (by omega)
 have h1 := Int.mul_ediv_add_emod lost cap
 have h2 := Int.emod_lt_of_pos lost hc
 rw [Int.toNat_of_nonneg (by omega), Int.mul_add]
 exact ⟨by omega, h0, Int.ediv_le_self _ hl⟩
theorem line_build (hc : 0 < cap ∧ cap ≤ 4000) (hl : 0 ≤ lost ∧ lost ≤ 1500) :
  mbuild (lineF cap lost) (lost / cap + 1).toNat 1 cap = if 400 * cap < lost then (zcv, 3) else madeR ⟨fvals (lineF cap lost) 401, 1, cap⟩ := by
 obtain ⟨q1, q2, q3⟩ := lost_quo hc.1 hl.1
 have hb : ∀ t : Nat, t ≤ 2000 → lineF cap lost t < INF := fun t ht => by
  have h1 := (lineF_bound (cap := cap) (by omega) hl.1 t).2
  have h2 := (mulB (a := cap) (b := (t : Int)) (A := 4000) (B := 2000) (by omega) (by omega)).2
  unfold INF; omega
 have hg := lineF_grows (cap := cap) (by omega) q1
 have hf : ∀ t, t < (lost / cap + 1).toNat + 1 → lineF cap lost t < INF := fun t ht => hb t (by omega)
 have hne : ∀ t, t < (lost / cap + 1).toNat + 1 → lineF cap lost t ≠ INF := fun t ht => by have := hf t ht; omega
 rw [mbuild_fin hne]
 by_cases hfr : 400 * cap < lost
 ·rw [if_pos hfr]
  obtain ⟨p', s', hnf, _, _, e⟩ := finL_nf (by omega) hg hne
  rw [e]
  have hp1 := hnf.least.1
  obtain rfl : p' = 1 := by omega
  have hgr := hnf.starts.1 s' (Nat.le_refl _)
  have hnn := (lineF_bound (cap := cap) (by omega) hl.1 s').1
  have hlen : 400 < s' + 1 := by
   apply Classical.byContradiction
   intro hn
   have h1 := Int.mul_le_mul_of_nonneg_left (show ((s' + 1 : Nat) : Int) ≤ 400 by omega) (show 0 ≤ cap by omega)
   have : lineF cap lost (s' + 1) = 0 := by unfold lineF; omega
   simp at hgr
   omega
  unfold nfC nfE
  rw [if_pos (if_pos (.inr (.inr (.inl hlen))))]
 ·rw [if_neg hfr]
  have hg' : Grows (lineF cap lost) 400 1 cap := lineF_grows (by omega) (by show lost ≤ cap * 400; omega)
  exact build_made (by omega) (by omega) hg hg' (fun t => lineF_mono (by omega) t) (lineF_bound (by omega) hl.1 0).1 hf (fun t ht => hb t (by omega))
variable {mine : Nat → Bool} {n : Nat}
theorem slotF_bound (hc : 0 ≤ cap) (hl : 0 ≤ lost) (hn : 0 < n) (t : Nat) : 0 ≤ slotF cap lost mine n t ∧ slotF cap lost mine n t ≤ cap * t := by
 have h1 := minN_le (f := fun a => cntS cap lost mine a t) hn
 have h2 := (cntS_bound (mine := mine) (a := 0) hc hl t).2
 refine ⟨minN_ge (cntS_bound hc hl t).1 (fun i _ => (cntS_bound hc hl t).1), ?_⟩
 unfold slotF
 omega
theorem slotF_mono (hc : 0 ≤ cap) (hn : 0 < n) (t : Nat) : slotF cap lost mine n t ≤ slotF cap lost mine n (t + 1) :=
 minN_ge (Int.le_trans (minN_le (f := fun a => cntS cap lost mine a t) hn) (cntS_mono hc t)) (fun i hi => Int.le_trans (minN_le (f := fun a => cntS cap lost mine a t) hi) (cntS_mono hc t))
theorem slotF_grows (hper : ∀ i, mine (i + n) = mine i) (hn : 0 < n) {b : Nat} (hb : mine b = false) : Grows (slotF cap lost mine n) n n (slotS cap lost mine (b + 1) n).1 :=
 fun k hk => minN_add hn (fun i hi => cntS_cycle hper hn hb hk)
theorem slot_build (hc : 0 < cap ∧ cap ≤ 4000) (hl : 0 ≤ lost ∧ lost ≤ 1500) (hper : ∀ i, mine (i + n) = mine i) (hn : 0 < n ∧ n ≤ 40) {b : Nat} (hb : mine b = false) :
  slotF cap lost mine n (2 * n) - slotF cap lost mine n n = slotF cap lost mine n (4 * n - 1) - slotF cap lost mine n (3 * n - 1) ∧ Grows (slotF cap lost mine n) n n (slotF cap lost mine n (2 * n) - slotF cap lost mine n n) ∧
  0 ≤ slotF cap lost mine n (2 * n) - slotF cap lost mine n n ∧
  mbuild (slotF cap lost mine n) n n (slotF cap lost mine n (2 * n) - slotF cap lost mine n n) = madeR ⟨fvals (slotF cap lost mine n) (3 * n + n), n, slotF cap lost mine n (4 * n - 1) - slotF cap lost mine n (3 * n - 1)⟩ := by
 have hg := slotF_grows (cap := cap) (lost := lost) hper hn.1 hb
 have e1 := hg n (Nat.le_refl _)
 have e2 := hg (3 * n - 1) (by omega)
 rw [show n + n = 2 * n by omega] at e1
 rw [show 3 * n - 1 + n = 4 * n - 1 by omega] at e2
 have e3 : slotF cap lost mine n (2 * n) - slotF cap lost mine n n = (slotS cap lost mine (b + 1) n).1 := by omega
 have e4 : slotF cap lost mine n (4 * n - 1) - slotF cap lost mine n (3 * n - 1) = (slotS cap lost mine (b + 1) n).1 := by omega
 have h0 := (slotS_nonneg (cap := cap) (lost := lost) (mine := mine) (a := b + 1) (by omega) n).1
 have hbd : ∀ t : Nat, t ≤ 2000 → slotF cap lost mine n t < INF := fun t ht => by
  have h1 := (slotF_bound (cap := cap) (lost := lost) (mine := mine) (by omega) hl.1 hn.1 t).2
  have h2 := (mulB (a := cap) (b := (t : Int)) (A := 4000) (B := 2000) (by omega) (by omega)).2
  unfold INF; omega
 rw [e3, e4]
 refine ⟨rfl, hg, h0, ?_⟩
 rw [mbuild_fin (fun t ht => by have := hbd t (by omega); omega)]
 exact build_made hn.1 h0 hg (hg.mono (by omega)) (fun t => slotF_mono (by omega) hn.1 t) (slotF_bound (by omega) hl.1 hn.1 0).1 (fun t ht => hbd t (by omega)) (fun t ht => hbd t (by omega))
theorem someT_iff {cls : Int} {tb : List Int} : someT cls tb = true ↔ ∃ i, i < tb.length ∧ nth tb i = cls := by
 unfold someT
 rw [List.any_eq_true]
 constructor
 ·rintro ⟨c, h1, h2⟩
  obtain ⟨i, hi, e⟩ := List.getElem_of_mem h1
  exact ⟨i, hi, by rw [nth_eq hi, e]; simpa using h2⟩
 ·rintro ⟨i, hi, e⟩
  exact ⟨_, nth_mem hi, by simpa using e⟩
theorem allT_iff {cls : Int} {tb : List Int} : allT cls tb = true ↔ ∀ i, i < tb.length → nth tb i = cls := by
 unfold allT
 rw [List.all_eq_true]
 constructor
 ·intro h i hi
  simpa using h _ (nth_mem hi)
 ·intro h c hc
  obtain ⟨i, hi, e⟩ := List.getElem_of_mem hc
  have := h i hi
  rw [nth_eq hi, e] at this
  simpa using this
theorem allT_not {cls : Int} {tb : List Int} (h : ¬ allT cls tb = true) : ∃ b, b < tb.length ∧ mineT tb cls b = false := by
 apply Classical.byContradiction
 intro hn
 refine h (allT_iff.2 (fun i hi => ?_))
 apply Classical.byContradiction
 intro h2
 refine hn ⟨i, hi, ?_⟩
 unfold mineT slotT
 rw [Nat.mod_eq_of_lt hi]
 simpa using h2
end
def delayC (a b : Cv) : (Bool × Int × Int) × Int := devN (normR a) (normR b) (gapD (normR a) (normR b))
def waitL (v : Int) : List Int := (List.replicate (v + 2).toNat 0).set (v + 1).toNat INF
def waitC (v : Int) : Cv × Int := if v < 0 then (zcv, 2) else if 398 < v then (zcv, 3) else (⟨waitL v, 1, 0⟩, 0)
def allC (cap : Int) (ls : List Cv) : (Bool × Int × Int) × Int := if (totalC ls).2 ≠ 0 then ((false, 0, 0), (totalC ls).2) else delayC (totalC ls).1 (lineC cap)
def fifoC (cap : Int) (ls : List Cv) : Cv × Int := if (allC cap ls).2 ≠ 0 then (zcv, (allC cap ls).2) else if (allC cap ls).1.1 = true then (zcv, 5) else waitC (allC cap ls).1.2.1
def argE (L : Ln) (cls : Int) (ls : List Cv) (z : List Sz) : Int :=
  if chkL L ≠ 0 then chkL L else if cls < 0 ∨ L.n ≤ cls ∨ (ls.length : Int) ≠ L.n ∨ (z.length : Int) ≠ L.n then 2 else if chk18 L.cap cls z ≠ 0 then chk18 L.cap cls z else if ls.all validB = true then 0 else 1
def schedC (L : Ln) (cls : Int) (ls : List Cv) (z : List Sz) : Cv × Int :=
  if L.kind = 1 then fifoC L.cap ls else if L.kind = 2 then prioC L.cap cls ls z else if L.kind = 3 then robinC L.cap cls L.w z else if L.kind = 4 then defC L.cap cls L.w z else slotC L.cap cls L.tb z
def curveL (L : Ln) (cls : Int) (ls : List Cv) (z : List Sz) : Cv × Int := if argE L cls ls z ≠ 0 then (zcv, argE L cls ls z) else schedC L cls ls z
def devV (x : (Bool × Int × Int) × Int) : Value := .tuple #[.agg #[.bool x.1.1, .int .i64 x.1.2.1, .int .i64 x.1.2.2], .int .i64 x.2]
theorem total_valid {ls : List Cv} (h : ∀ c ∈ ls, validB c = true) (h0 : (totalC ls).2 = 0) : validB (totalC ls).1 = true := by
 rcases total_res ls zeroC zero_nrm.valid zero_nrm h with e | ⟨c, e, h2, _⟩
 ·rw [show totalC ls = (zcv, 3) from e] at h0; cases h0
 ·rw [show totalC ls = (c, 0) from e]; exact h2.valid
structure Sel (ps : List Pkt) (k : Int) (qs : List Pkt) (ix : Nat → Nat) : Prop where
  at_ : ∀ j, j < qs.length → ix j < ps.length ∧ (nth ps (ix j)).flow = k ∧ nth qs j = nth ps (ix j)
  mono : ∀ j j', j < j' → j' < qs.length → ix j < ix j'
  onto : ∀ i, i < ps.length → (nth ps i).flow = k → ∃ j, j < qs.length ∧ ix j = i
section
variable {ps qs : List Pkt} {cap : Int} {tb : List Int} {classes k : Nat} {ix : Nat → Nat}
theorem Sel.inj (h : Sel ps k qs ix) {j j' : Nat} (hj : j < qs.length) (hj' : j' < qs.length) (e : ix j = ix j') : j = j' := by
 rcases Nat.lt_trichotomy j j' with h1 | h1 | h1
 ·have := h.mono _ _ h1 hj'; omega
 ·exact h1
 ·have := h.mono _ _ h1 hj; omega
theorem Sel.next (h : Sel ps k qs ix) {ms ms' : MS} (hnow : ms'.now = ms.now) (hb : ∀ j, j < qs.length → nth ms'.begun j = nth ms.begun (ix j)) :
  (nextW qs ms' k < 0 ∧ nextW ps ms k < 0) ∨ (0 ≤ nextW qs ms' k ∧ (nextW qs ms' k).toNat < qs.length ∧ nextW ps ms k = ix (nextW qs ms' k).toNat) := by
 have hP : ∀ j, j < qs.length → nextP qs ms' k j = nextP ps ms k (ix j) := fun j hj => by
  obtain ⟨_, h2, h3⟩ := h.at_ j hj
  unfold nextP
  rw [hnow, hb j hj, h3]
 unfold nextW
 rcases findN_cases (nextP qs ms' k) qs.length with ⟨j, j1, j2, j3, j4⟩ | ⟨j1, j2⟩
 ·right
  rw [j2, Int.toNat_natCast]
  refine ⟨by omega, j1, ?_⟩
  refine findN_some (h.at_ j j1).1 (by rw [← hP j j1]; exact j3) (fun i hi => ?_)
  by_cases hf : (nth ps i).flow = k
  ·obtain ⟨j', e1, e2⟩ := h.onto i (by have := (h.at_ j j1).1; omega) hf
   have hlt : j' < j := by
    apply Classical.byContradiction
    intro hn
    by_cases e : j' = j
    ·subst e; omega
    ·have := h.mono j j' (by omega) e1; omega
   have := j4 j' hlt
   rw [hP j' e1, e2] at this; exact this
  ·unfold nextP
   have : ((nth ps i).flow == (k : Int)) = false := by simpa using hf
   rw [this]; simp
 ·left
  refine ⟨by rw [j1]; omega, ?_⟩
  rw [findN_none (fun i hi => ?_)]
  ·omega
  ·by_cases hf : (nth ps i).flow = k
   ·obtain ⟨j', e1, e2⟩ := h.onto i hi hf
    have := j2 j' e1
    rw [hP j' e1, e2] at this; exact this
   ·unfold nextP
    have : ((nth ps i).flow == (k : Int)) = false := by simpa using hf
    rw [this]; simp
end
section
variable {σ : Type} {ps : List Pkt} {ch : MS → σ → Int × Nat × σ} {good : MS → σ → Prop} {rel : Nat → Nat → Prop} {classes col k : Nat} {s : RS σ}
end
section
variable {ps : List Pkt} {cap : Int} {tb : List Int} {classes : Nat}
end
section
variable {ps : List Pkt} {n k : Nat}
end
instance instCv : Inhabited Cv := ⟨zcv⟩
theorem FC.valid {F : Nat → Int} {S P : Nat} {I : Int} (h : FC F S P I) : validB ⟨fvals F (S + P), P, I⟩ = true := by
 have hP := h.hP
 have hn := h.hn
 have hI := h.hI
 rw [validB_iff]
 dsimp only
 rw [fvals_len]
 refine ⟨⟨by omega, by omega, by omega, by omega, by omega, by omega, by unfold MAXV; omega⟩, fun i hi => ?_, ?_⟩
 ·rw [fvals_nth F hi]
  have a := h.nonneg i
  have b := h.hb i hi
  refine ⟨.inr ⟨a, by unfold MAXV; omega⟩, ?_⟩
  by_cases h0 : i = 0
  ·exact .inl h0
  ·right
   rw [fvals_nth F (by omega)]
   exact h.mono (show i - 1 ≤ i by omega)
 ·rw [fvals_nth F (by omega), if_neg (h.fin (by omega)), Int.toNat_natCast, fvals_nth F (by omega)]
  have h1 := h.hg (S + P - P) (by omega)
  have h2 := h.mono (show S + P - 1 ≤ S + P - P + P by omega)
  omega
theorem slotS_all {cap lost : Int} {mine : Nat → Bool} (h : ∀ i, mine i = true) (a : Nat) : ∀ d : Nat, slotS cap lost mine a d = (0, cap * d)
 | 0 => by simp [slotS]
 | d + 1 => by
  have : cap * ((d + 1 : Nat) : Int) = cap * (d : Int) + cap := by rw [Int.natCast_add, Int.mul_add]; simp
  rw [slotS, slotS_all h a d, if_pos (h _), this]
theorem mineT_all {cls : Int} {tb : List Int} (hn : 0 < tb.length) (h : allT cls tb = true) (i : Nat) : mineT tb cls i = true := by
 unfold mineT slotT
 rw [allT_iff.1 h _ (Nat.mod_lt _ hn)]
 simp
theorem slot_for {cap cls : Int} {tb : List Int} {z : List Sz} (h : (slotC cap cls tb z).2 = 0) : chkT cap cls tb z = 0 ∧ 1 ≤ (nth z cls.toNat).most ∧
  ∃ (G : Nat → Int) (s p : Nat) (q : Int), slotC cap cls tb z = (⟨fvals G (s + p), p, q⟩, 0) ∧ FC G s p q ∧ G 0 = 0 ∧ (∀ a d : Nat, G d ≤ cntS cap ((nth z cls.toNat).most - 1) (mineT tb cls) a d) ∧
   (allT cls tb = true → G = lineF cap ((nth z cls.toNat).most - 1)) ∧ (¬ allT cls tb = true → G = slotF cap ((nth z cls.toNat).most - 1) (mineT tb cls) tb.length) := by
 by_cases h0 : chkT cap cls tb z = 0
 ·by_cases h1 : someT cls tb = false ∨ (nth z cls.toNat).most < 1
  ·have : slotC cap cls tb z = (zcv, 5) := by unfold slotC; rw [if_neg (fun h => h h0), if_pos h1]
   rw [this] at h; cases h
  ·have hm1 : 1 ≤ (nth z cls.toNat).most := by
    apply Classical.byContradiction
    intro hn; exact h1 (.inr (by omega))
   refine ⟨h0, hm1, ?_⟩
   obtain ⟨c1, c2, k1, k2, zl, ⟨t1, t2, _⟩, hz⟩ := chkT_ok h0
   have hzk := hz _ (nth_mem (xs := z) (k := cls.toNat) (by omega))
   by_cases ha : allT cls tb = true
   ·by_cases hf : 400 * cap < (nth z cls.toNat).most - 1
    ·have : slotC cap cls tb z = (zcv, 3) := by unfold slotC; rw [if_neg (fun h => h h0), if_neg h1, if_pos ha, if_pos hf]
     rw [this] at h; cases h
    ·have e0 : slotC cap cls tb z = madeR ⟨fvals (lineF cap ((nth z cls.toNat).most - 1)) 401, 1, cap⟩ := by unfold slotC; rw [if_neg (fun h => h h0), if_neg h1, if_pos ha, if_neg hf]
     have e1 := line_build (cap := cap) (lost := (nth z cls.toNat).most - 1) (by omega) (by omega)
     rw [if_neg hf] at e1
     obtain ⟨q1, q2, q3⟩ := lost_quo (cap := cap) (lost := (nth z cls.toNat).most - 1) (by omega) (by omega)
     have hb : ∀ t : Nat, t ≤ 2000 → lineF cap ((nth z cls.toNat).most - 1) t < INF := fun t ht => by
      have h1 := (lineF_bound (cap := cap) (lost := (nth z cls.toNat).most - 1) (by omega) (by omega) t).2
      have h2 := (mulB (a := cap) (b := (t : Int)) (A := 4000) (B := 2000) (by omega) (by omega)).2
      unfold INF; omega
     rcases build_fc (P := 1) (by omega) (by omega) (lineF_grows (cap := cap) (by omega) q1) (fun t => lineF_mono (by omega) t) (lineF_bound (by omega) (by omega) 0).1 (fun t ht => hb t (by omega)) with e | ⟨s, p, q, e, hfc⟩
     ·rw [e0, ← e1, e] at h; cases h
     ·refine ⟨_, s, p, q, by rw [e0, ← e1, e], hfc, ?_, fun a d => ?_, fun _ => rfl, fun hna => absurd ha hna⟩
      ·unfold lineF; simp; omega
      ·unfold cntS
       rw [slotS_all (mineT_all (by omega) ha)]
       unfold lineF
       dsimp only; omega
   ·obtain ⟨b, _, hb⟩ := allT_not ha
    have e0 : slotC cap cls tb z = madeR ⟨fvals (slotF cap ((nth z cls.toNat).most - 1) (mineT tb cls) tb.length) (3 * tb.length + tb.length), tb.length,
  slotF cap ((nth z cls.toNat).most - 1) (mineT tb cls) tb.length (4 * tb.length - 1) - slotF cap ((nth z cls.toNat).most - 1) (mineT tb cls) tb.length (3 * tb.length - 1)⟩ := by unfold slotC; rw [if_neg (fun h => h h0), if_neg h1, if_neg ha]
    obtain ⟨i1, hg, i2, e1⟩ := slot_build (cap := cap) (lost := (nth z cls.toNat).most - 1) (mine := mineT tb cls) (n := tb.length) (by omega) (by omega) (fun i => mineT_per i) (by omega) hb
    rw [← e1] at e0
    have hbd : ∀ t : Nat, t ≤ 2000 → slotF cap ((nth z cls.toNat).most - 1) (mineT tb cls) tb.length t ≤ 8000000 := fun t ht => by
     have h1 := (slotF_bound (cap := cap) (lost := (nth z cls.toNat).most - 1) (mine := mineT tb cls) (n := tb.length) (by omega) (by omega) (by omega) t).2
     have h2 := (mulB (a := cap) (b := (t : Int)) (A := 4000) (B := 2000) (by omega) (by omega)).2
     omega
    obtain ⟨s, p, q, e, hfc, _, _⟩ := build_ok (by omega) ⟨i2, by have := hbd (2 * tb.length) (by omega); have := (slotF_bound (cap := cap) (lost := (nth z cls.toNat).most - 1) (mine := mineT tb cls) (n := tb.length) (by omega) (by omega) (by omega) tb.length).1; omega⟩ (by omega) hg (fun t => slotF_mono (by omega) (by omega) t) (slotF_bound (by omega) (by omega) (by omega) 0).1 (fun t ht => by have := hbd t (by omega); omega)
    refine ⟨_, s, p, q, by rw [e0, e], hfc, ?_, fun a d => slotF_le (by omega) a d, fun h => absurd h ha, fun _ => rfl⟩
    have := slotF_bound (cap := cap) (lost := (nth z cls.toNat).most - 1) (mine := mineT tb cls) (n := tb.length) (by omega) (by omega) (by omega) 0
    simp at this; omega
 ·have : slotC cap cls tb z = (zcv, chkT cap cls tb z) := if_pos h0
  rw [this] at h
  exact absurd h h0
def backC (a b : Cv) : (Bool × Int × Int) × Int := devN (normR a) (normR b) (gapA (normR a) (normR b) 0)
def peakC (a b : Cv) : (Bool × Int × Int) × Int := devN (normR a) (normR b) (gapA (normR a) (normR b) 1)
def measL (D : Cv → Cv → (Bool × Int × Int) × Int) (L : Ln) (cls : Int) (ls : List Cv) (z : List Sz) : (Bool × Int × Int) × Int :=
  if (curveL L cls ls z).2 ≠ 0 then ((false, 0, 0), (curveL L cls ls z).2) else D (nth ls cls.toNat) (curveL L cls ls z).1
def delayL (L : Ln) (cls : Int) (ls : List Cv) (z : List Sz) : (Bool × Int × Int) × Int :=
  if L.kind ≠ 1 then measL delayC L cls ls z else if argE L cls ls z ≠ 0 then ((false, 0, 0), argE L cls ls z) else allC L.cap ls
theorem waitL_len {v : Int} (h : 0 ≤ v) : (waitL v).length = (v + 2).toNat := by simp [waitL]
theorem waitL_nth {v : Int} (h : 0 ≤ v) {i : Nat} (hi : i < (v + 2).toNat) : nth (waitL v) i = if i = (v + 1).toNat then INF else 0 := by
 unfold waitL
 by_cases e : i = (v + 1).toNat
 ·rw [if_pos e, e, nth_set_self (by rw [List.length_replicate]; omega)]
 ·rw [if_neg e, nth_set_ne (fun h => e h.symm), nth_replicate hi]
theorem wait_valid {v : Int} (h : 0 ≤ v ∧ v ≤ 398) : validB ⟨waitL v, 1, 0⟩ = true := by
 unfold validB
 have hl := waitL_len h.1
 dsimp only
 rw [hl]
 have hlast : nth (waitL v) ((v + 2).toNat - 1) = INF := by rw [waitL_nth h.1 (by omega), if_pos (by omega)]
 rw [hlast, if_pos rfl]
 simp only [Bool.and_eq_true, decide_eq_true_eq, List.all_eq_true, List.mem_range, Bool.or_eq_true, beq_iff_eq]
 refine ⟨⟨⟨⟨⟨⟨⟨⟨by omega, by omega⟩, by omega⟩, by omega⟩, by omega⟩, by omega⟩, by decide⟩, fun i hi => ⟨?_, ?_⟩⟩, trivial, trivial⟩
 ·rw [waitL_nth h.1 hi]
  split
  ·exact .inl rfl
  ·exact .inr ⟨by decide, by decide⟩
 ·by_cases h0 : i = 0
  ·exact .inl h0
  ·right
   rw [waitL_nth h.1 hi, waitL_nth h.1 (show i - 1 < _ by omega), if_neg (show ¬ i - 1 = (v + 1).toNat by omega)]
   split <;> decide
theorem waitC_valid {v : Int} (h : (waitC v).2 = 0) : validB (waitC v).1 = true := by
 unfold waitC at h ⊢
 by_cases h1 : v < 0
 ·rw [if_pos h1] at h; cases h
 ·rw [if_neg h1] at h ⊢
  by_cases h2 : 398 < v
  ·rw [if_pos h2] at h; cases h
  ·rw [if_neg h2]; exact wait_valid ⟨by omega, by omega⟩
theorem fifoC_valid {cap : Int} {ls : List Cv} (h : (fifoC cap ls).2 = 0) : validB (fifoC cap ls).1 = true := by
 unfold fifoC at h ⊢
 by_cases h1 : (allC cap ls).2 ≠ 0
 ·rw [if_pos h1] at h; exact absurd h h1
 ·rw [if_neg h1] at h ⊢
  by_cases h2 : (allC cap ls).1.1 = true
  ·rw [if_pos h2] at h; cases h
  ·rw [if_neg h2] at h ⊢; exact waitC_valid h
theorem prioC_valid {cap cls : Int} {ls : List Cv} {z : List Sz} (hl : ∀ c ∈ ls, validB c = true) (h : (prioC cap cls ls z).2 = 0) : validB (prioC cap cls ls z).1 = true := by
 unfold prioC at h ⊢
 by_cases h1 : chk18 cap cls z ≠ 0
 ·rw [if_pos h1] at h; exact absurd h h1
 ·rw [if_neg h1] at h ⊢
  obtain ⟨p1, p2, p3, p4, p5, hz⟩ := chk18_ok (show chk18 cap cls z = 0 by omega)
  by_cases h2 : ls.length ≠ z.length
  ·rw [if_pos h2] at h; cases h
  ·rw [if_neg h2] at h ⊢
   by_cases h3 : allV ls = false
   ·rw [if_pos h3] at h; cases h
   ·rw [if_neg h3] at h ⊢
    have hb : 0 ≤ blkN cls z ∧ blkN cls z ≤ 1499 := blk_range hz (Nat.le_refl _)
    rcases mid_res (l := ls.take cls.toNat) (fun c hc => hl c (List.mem_of_mem_take hc)) (k := blkN cls z) ⟨hb.1, by have : MAXV = 1073741824 := rfl; omega⟩ with e | ⟨c, e, hn⟩
    ·rw [e, if_pos (by decide)] at h; cases h
    ·rw [e, if_neg (fun hh => hh rfl)] at h ⊢
     rcases rest_res (cap := cap) (g := c) ⟨by omega, by omega⟩ hn.valid with e2 | ⟨c2, e2, hn2, _⟩
     ·dsimp only at h; rw [e2] at h; cases h
     ·dsimp only; rw [e2]; exact hn2.valid
theorem sched_valid {L : Ln} {cls : Int} {ls : List Cv} {z : List Sz} (hl : ∀ c ∈ ls, validB c = true) (h : (schedC L cls ls z).2 = 0) : validB (schedC L cls ls z).1 = true := by
 unfold schedC at h ⊢
 by_cases k1 : L.kind = 1
 ·rw [if_pos k1] at h ⊢; exact fifoC_valid h
 ·rw [if_neg k1] at h ⊢
  by_cases k2 : L.kind = 2
  ·rw [if_pos k2] at h ⊢; exact prioC_valid hl h
  ·rw [if_neg k2] at h ⊢
   by_cases k3 : L.kind = 3
   ·rw [if_pos k3] at h ⊢
    obtain ⟨_, _, G, s, p, q, hc⟩ := rob_for h
    rw [hc.1]; exact hc.2.1.valid
   ·rw [if_neg k3] at h ⊢
    by_cases k4 : L.kind = 4
    ·rw [if_pos k4] at h ⊢
     obtain ⟨_, _, G, s, p, q, hc⟩ := def_for h
     rw [hc.1]; exact hc.2.1.valid
    ·rw [if_neg k4] at h ⊢
     obtain ⟨_, _, G, s, p, q, hc, hf, _⟩ := slot_for h
     rw [hc]; exact hf.valid
def waitF (n : Nat) (t : Nat) : Int := if t < n then 0 else INF
theorem waitF_vals (n : Nat) : fvals (waitF n) (n + 1) = List.replicate n 0 ++ [INF] := by
 rw [fvals_snoc]
 have e1 : waitF n n = INF := if_neg (Nat.lt_irrefl n)
 rw [e1]
 congr 1
 refine nth_ext (by rw [fvals_len, List.length_replicate]) (fun i hi => ?_)
 rw [fvals_len] at hi
 rw [fvals_nth _ hi, nth_replicate hi]
 exact if_pos hi
theorem waitL_app {v : Int} (h : 0 ≤ v) : waitL v = List.replicate (v + 1).toNat 0 ++ [INF] := by
 have hl : (waitL v).length = (v + 2).toNat := waitL_len h
 refine nth_ext (by rw [hl, List.length_append, List.length_replicate]; show _ = _ + 1; omega) (fun i hi => ?_)
 rw [hl] at hi
 rw [waitL_nth h hi, ← waitF_vals, fvals_nth _ (by omega)]
 unfold waitF
 by_cases e : i = (v + 1).toNat
 ·rw [if_pos e, if_neg (by omega)]
 ·rw [if_neg e, if_pos (by omega)]
theorem wait_made {v : Int} (h : 0 ≤ v) (h2 : v < 400) : madeR ⟨List.replicate (v + 1).toNat 0 ++ [INF], 1, 0⟩ = waitC v ∧ MadeOk (List.replicate (v + 1).toNat 0 ++ [INF]) 1 0 := by
 obtain ⟨n, hn⟩ : ∃ n : Nat, (v + 1).toNat = n := ⟨_, rfl⟩
 have h0 : ∀ t, t < n → waitF n t = 0 := fun t ht => if_pos ht
 have h1 : waitF n n = INF := if_neg (Nat.lt_irrefl n)
 have hI : (0 : Int) < INF := by unfold INF; decide
 have hf : ∀ t, t < n → 0 ≤ waitF n t ∧ waitF n t < INF := fun t ht => by rw [h0 t ht]; exact ⟨Int.le_refl _, hI⟩
 have hm : ∀ t, t < n → waitF n t ≤ waitF n (t + 1) := fun t ht => by
  rw [h0 t ht]
  unfold waitF
  split
  ·exact Int.le_refl _
  ·exact Int.le_of_lt hI
 have hnr : normR ⟨fvals (waitF n) (n + 1), 1, 0⟩ = ⟨fvals (waitF n) (n + 1), 1, 0⟩ := normR_inf (Nat.lt_succ_self n) h1 (fun t ht => by have := hf t ht; omega)
 have hv := valid_inf h1 hf hm
 have hMV : (0 : Int) ≤ MAXV := by unfold MAXV; decide
 rw [hn, ← waitF_vals]
 refine ⟨?_, madeOk_inf (n := n) (Nat.lt_succ_self n) (by omega) ⟨by decide, by decide, by omega⟩ (by decide) h1 hf (fun t ht => ?_)⟩
 ·unfold madeR
  rw [hnr]
  have e : waitC v = if 398 < v then (zcv, 3) else (⟨waitL v, 1, 0⟩, 0) := by unfold waitC; rw [if_neg (by omega)]
  rw [e]
  by_cases h3 : 398 < v
  ·rw [if_pos h3, if_neg (fun hh => by have := (hv.1 hh).1; omega)]
  ·rw [if_neg h3, if_pos (hv.2 ⟨by omega, fun t ht => by rw [h0 t ht]; exact hMV⟩), waitF_vals, ← hn, ← waitL_app h]
 ·unfold waitF
  split
  ·exact ⟨Int.le_refl _, Int.le_of_lt hI⟩
  ·exact ⟨Int.le_of_lt hI, Int.le_refl _⟩
theorem arg_ref (L : Ln) (cls : Int) (ls : List Cv) (z : List Sz) :
  argE L cls ls z = if chkL L ≠ 0 then chkL L else if cls < 0 ∨ L.n ≤ cls ∨ (ls.length : Int) ≠ L.n ∨ (z.length : Int) ≠ L.n ∨ zOk z = false then 2 else if allV ls = true then 0 else 1 := by
 unfold argE
 by_cases h0 : chkL L ≠ 0
 ·rw [if_pos h0, if_pos h0]
 ·rw [if_neg h0, if_neg h0]
  have hf := chk_facts (L := L) (by simpa using h0)
  by_cases h1 : cls < 0 ∨ L.n ≤ cls ∨ (ls.length : Int) ≠ L.n ∨ (z.length : Int) ≠ L.n
  ·rw [if_pos h1, if_pos (by rcases h1 with h | h | h | h <;> simp [h])]
  ·rw [if_neg h1]
   have h1' : ¬ cls < 0 ∧ ¬ L.n ≤ cls ∧ (ls.length : Int) = L.n ∧ (z.length : Int) = L.n := by
    refine ⟨fun h => h1 (.inl h), fun h => h1 (.inr (.inl h)), ?_, ?_⟩
    ·apply Classical.byContradiction; intro h; exact h1 (.inr (.inr (.inl h)))
    ·apply Classical.byContradiction; intro h; exact h1 (.inr (.inr (.inr h)))
   by_cases h2 : zOk z = false
   ·have e : chk18 L.cap cls z = 2 := by unfold chk18; rw [if_pos (.inr (.inr (.inr (.inr (.inl h2)))))]
    rw [if_pos (by rw [e]; decide), e, if_pos (.inr (.inr (.inr (.inr h2))))]
   ·have e : chk18 L.cap cls z = 0 := by
     unfold chk18
     rw [if_neg]
     rintro (h | h | h | h | h | h | h)
     ·omega
     ·omega
     ·omega
     ·omega
     ·exact h2 h
     ·omega
     ·omega
    have hn : ¬ (cls < 0 ∨ L.n ≤ cls ∨ (ls.length : Int) ≠ L.n ∨ (z.length : Int) ≠ L.n ∨ zOk z = false) := by
     rintro (h | h | h | h | h)
     ·omega
     ·omega
     ·omega
     ·omega
     ·exact h2 h
    rw [if_neg (by rw [e]; decide), if_neg hn]
    rfl
structure SmallC (c : Cv) : Prop where
  valid : validB c = true
  len : c.vals.length ≤ 40
  per : c.per ≤ 8
  inc : c.inc ≤ 1000
  vals : ∀ x ∈ c.vals, x = INF ∨ x ≤ 1000
theorem longer_grows {F : Nat → Int} {S P : Nat} {I : Int} (h : Grows F S P I) (more times : Nat) : Grows F (S + more) (P * times) (I * (times : Int)) := fun t ht => by
 have := h.mul times t (by omega)
 rw [Nat.mul_comm P times, Int.mul_comm I]
 exact this
def upV (xs : List Int) (c : Nat) (v : Int) : Nat → Int
  | 0 => v
  | i + 1 => upV xs c v i + nth ([0, 0, 1, 2, 5, 9] : List Int) (mod (nth xs (c + i)) ((6 : Nat) : Int)).toNat
theorem nth_in {l : List Int} {k : Nat} {lo hi : Int} (h : ∀ x ∈ l, lo ≤ x ∧ x ≤ hi) (hk : k < l.length) : lo ≤ nth l k ∧ nth l k ≤ hi := h _ (nth_mem hk)
theorem upV_step (xs : List Int) (c : Nat) (v : Int) (i : Nat) : upV xs c v i ≤ upV xs c v (i + 1) ∧ upV xs c v (i + 1) ≤ upV xs c v i + 9 := by
 have hm := mod_range (nth xs (c + i)) (show (1 : Int) ≤ ((6 : Nat) : Int) by decide)
 have := nth_in (l := [0, 0, 1, 2, 5, 9]) (k := (mod (nth xs (c + i)) ((6 : Nat) : Int)).toNat) (lo := 0) (hi := 9) (by decide) (by simp only [List.length_cons, List.length_nil]; omega)
 simp only [upV]
 omega
theorem upV_mono (xs : List Int) (c : Nat) (v : Int) {i j : Nat} (h : i ≤ j) : upV xs c v i ≤ upV xs c v j := mono_le (fun t => (upV_step xs c v t).1) h
theorem upV_bound (xs : List Int) (c : Nat) (v : Int) : ∀ i, v ≤ upV xs c v i ∧ upV xs c v i ≤ v + 9 * (i : Int)
 | 0 => ⟨Int.le_refl _, by simp [upV]⟩
 | i + 1 => by
  have h1 := upV_bound xs c v i
  have h2 := upV_step xs c v i
  omega
theorem upV_gap (xs : List Int) (c : Nat) (v : Int) (i : Nat) : ∀ d, upV xs c v (i + d) ≤ upV xs c v i + 9 * (d : Int)
 | 0 => by simp
 | d + 1 => by
  have h1 := upV_gap xs c v i d
  have h2 := upV_step xs c v (i + d)
  rw [← Nat.add_assoc]
  omega
theorem small_fin {F : Nat → Int} {n : Nat} {P I : Int} (hn : 1 ≤ n ∧ n ≤ 20) (hP : 1 ≤ P ∧ P ≤ 4 ∧ P ≤ n) (hI : I ≤ 400) (h0 : 0 ≤ F 0) (hm : ∀ t, F t ≤ F (t + 1)) (hb : ∀ t, t < n → F t ≤ 200) (hg : F (n - 1) - F (n - P.toNat) ≤ I) : SmallC ⟨fvals F n, P, I⟩ := by
 have hmn : ∀ {i j : Nat}, i ≤ j → F i ≤ F j := fun h => mono_le hm h
 have h2 := hmn (show n - P.toNat ≤ n - 1 by omega)
 have hne : F (n - 1) ≠ INF := by have := hb (n - 1) (by omega); unfold INF; omega
 refine ⟨validB_iff.2 ?_, by dsimp only; rw [fvals_len]; omega, by dsimp only; omega, by dsimp only; omega, all_of_nth (fun j hj => ?_)⟩
 ·dsimp only
  rw [fvals_len]
  refine ⟨⟨by omega, by omega, by omega, by omega, by omega, by omega, by unfold MAXV; omega⟩, fun i hi => ?_, ?_⟩
  ·rw [fvals_nth F hi]
   have a := hb i hi
   have b := hmn (Nat.zero_le i)
   refine ⟨.inr ⟨by omega, by unfold MAXV; omega⟩, ?_⟩
   by_cases hi0 : i = 0
   ·exact .inl hi0
   ·rw [fvals_nth F (by omega)]; exact .inr (hmn (by omega))
  ·rw [fvals_nth F (by omega), if_neg hne, fvals_nth F (by omega)]; omega
 ·rw [fvals_len] at hj
  rw [fvals_nth F hj]
  have := hb j hj
  exact .inr (by omega)
theorem small_inf {F : Nat → Int} {n : Nat} (hn : n ≤ 20) (h0 : 0 ≤ F 0) (hm : ∀ t, F t ≤ F (t + 1)) (hb : ∀ t, t < n → F t ≤ 200) : SmallC ⟨fvals F n ++ [INF], 1, 0⟩ := by
 have hmn : ∀ {i j : Nat}, i ≤ j → F i ≤ F j := fun h => mono_le hm h
 have hl : (fvals F n ++ [INF]).length = n + 1 := by simp [fvals_len]
 have e1 : ∀ i, i < n → nth (fvals F n ++ [INF]) i = F i := fun i hi => by
  unfold nth List.getD
  rw [List.getElem?_append_left (by rw [fvals_len]; exact hi)]
  exact fvals_nth F hi
 have e2 : nth (fvals F n ++ [INF]) n = INF := by
  unfold nth List.getD
  rw [List.getElem?_append_right (by rw [fvals_len]; omega), fvals_len]; simp
 refine ⟨validB_iff.2 ?_, by dsimp only; rw [hl]; omega, by dsimp only; omega, by dsimp only; omega, all_of_nth (fun j hj => ?_)⟩
 ·dsimp only
  rw [hl]
  refine ⟨⟨by omega, by omega, by omega, by omega, by omega, by omega, by unfold MAXV; omega⟩, fun i hi => ?_, ?_⟩
  ·by_cases hi2 : i < n
   ·rw [e1 i hi2]
    have a := hb i hi2
    have b := hmn (Nat.zero_le i)
    refine ⟨.inr ⟨by omega, by unfold MAXV; omega⟩, ?_⟩
    by_cases hi0 : i = 0
    ·exact .inl hi0
    ·rw [e1 (i - 1) (by omega)]; exact .inr (hmn (by omega))
   ·obtain rfl : i = n := by omega
    rw [e2]
    refine ⟨.inl rfl, ?_⟩
    by_cases hi0 : i = 0
    ·exact .inl hi0
    ·rw [e1 (i - 1) (by omega)]
     have := hb (i - 1) (by omega)
     exact .inr (by unfold INF; omega)
  ·rw [show n + 1 - 1 = n by omega, e2, if_pos rfl]; exact ⟨rfl, rfl⟩
 ·rw [hl] at hj
  by_cases hj2 : j < n
  ·rw [e1 j hj2]; have := hb j hj2; exact .inr (by omega)
  ·obtain rfl : j = n := by omega
   exact .inl e2
theorem small_longer {F : Nat → Int} {S P more times : Nat} {I : Int} (h : FC F S P I) (hn : S + P ≤ 20) (hP : P ≤ 4) (hI : I ≤ 50) (hb : ∀ t, t < S + P → F t ≤ 200) (hm : more ≤ 3) (ht : 1 ≤ times ∧ times ≤ 2) : SmallC ⟨fvals F (S + more + P * times), ((P * times : Nat) : Int), I * (times : Int)⟩ := by
 have hP0 := h.hP
 have hI0 := h.hI
 have e1 : P * times ≤ 2 * P := by have := Nat.mul_le_mul_left P ht.2; omega
 have e0 : P ≤ P * times := by have := Nat.mul_le_mul_left P ht.1; omega
 have e2 : I * (times : Int) ≤ 800 ∧ 0 ≤ I * (times : Int) := by
  rcases (show times = 1 ∨ times = 2 by omega) with rfl | rfl <;> omega
 have hb2 : ∀ t, t < S + more + P * times → F t ≤ 1000 := fun t ht2 => by
  by_cases h1 : t < S + P
  ·have := hb t h1; omega
  ·have h3 := h.hg.mul 4 (S + P - 1) (by omega)
   have h5 := hb (S + P - 1) (by omega)
   have h6 : t ≤ S + P - 1 + 4 * P := by omega
   have h7 := h.mono h6
   omega
 have hfc : FC F (S + more) (P * times) (I * (times : Int)) := ⟨by omega, by omega, by omega, longer_grows h.hg more times, h.hm, h.h0, fun t ht => by have := hb2 t ht; omega⟩
 refine ⟨hfc.valid', by dsimp only; rw [fvals_len]; omega, by dsimp only; omega, by dsimp only; omega, all_of_nth (fun j hj => ?_)⟩
 rw [fvals_len] at hj
 rw [fvals_nth F hj]
 exact .inr (hb2 j hj)
theorem small_lit {m k : Int} (hm : 0 ≤ m ∧ m < 5) (hk : 0 ≤ k ∧ k < 2) : SmallC ⟨[0, 4, 4 + m], 1 + k, 8⟩ ∧ finB ⟨[0, 4, 4 + m], 1 + k, 8⟩ = true := by
 have h1 : m = 0 ∨ m = 1 ∨ m = 2 ∨ m = 3 ∨ m = 4 := by omega
 have h2 : k = 0 ∨ k = 1 := by omega
 rcases h1 with rfl | rfl | rfl | rfl | rfl <;> rcases h2 with rfl | rfl <;> exact ⟨⟨by decide, by decide, by decide, by decide, by decide⟩, by decide⟩
theorem small_sub {c : Cv} (h : SmallC c) (hf : finB c = true) {zs : List Int} (hl : zs.length = c.vals.length) (hz : ∀ j, j < c.vals.length → nth zs j = nth c.vals j - nth c.vals 0) : SmallC ⟨zs, c.per, c.inc⟩ ∧ finB ⟨zs, c.per, c.inc⟩ = true ∧ nth zs 0 = 0 := by
 have hv := h.valid
 have hr := valid_range hv
 obtain ⟨⟨q1, q2, q3, q4, q5, q6, q7⟩, q8, q9⟩ := validB_iff.1 hv
 have hlast : nth c.vals (c.vals.length - 1) ≠ INF := by unfold finB at hf; rwa [bne_iff_ne] at hf
 have hle : ∀ j, j < c.vals.length → nth c.vals j ≠ INF := fun j hj => by
  have h1 := valid_mono hv (show j ≤ c.vals.length - 1 by omega) (by omega)
  have h2 := (q8 (c.vals.length - 1) (by omega)).1
  unfold INF MAXV at *
  omega
 have h0 := (q8 0 (by omega)).1.resolve_left (hle 0 (by omega))
 rw [if_neg hlast] at q9
 have hbd : ∀ j, j < c.vals.length → nth c.vals 0 ≤ nth c.vals j ∧ nth c.vals j ≤ 1000 := fun j hj => ⟨valid_mono hv (Nat.zero_le _) hj, (h.vals _ (nth_mem hj)).resolve_left (hle j hj)⟩
 have hfin : finB ⟨zs, c.per, c.inc⟩ = true := by
  unfold finB
  dsimp only
  rw [hl, hz _ (by omega), bne_iff_ne]
  have := hbd (c.vals.length - 1) (by omega)
  unfold INF; omega
 refine ⟨⟨validB_iff.2 ⟨by dsimp only; rw [hl]; exact ⟨q1, q2, q3, q4, q5, q6, q7⟩, fun i hi => ?_, ?_⟩, by dsimp only; rw [hl]; exact h.len, h.per, h.inc, all_of_nth (fun j hj => ?_)⟩, hfin, by rw [hz 0 (by omega)]; omega⟩
 ·dsimp only at hi ⊢
  rw [hl] at hi
  rw [hz i hi]
  have := hbd i hi
  refine ⟨.inr ⟨by omega, by unfold MAXV; omega⟩, ?_⟩
  by_cases hi0 : i = 0
  ·exact .inl hi0
  ·rw [hz (i - 1) (by omega)]
   have := valid_mono hv (show i - 1 ≤ i by omega) hi
   exact .inr (by omega)
 ·dsimp only
  rw [hl, hz _ (by omega), if_neg (by have := hbd (c.vals.length - 1) (by omega); unfold INF; omega), hz _ (by omega)]
  omega
 ·rw [hl] at hj
  rw [hz j hj]
  have := hbd j hj
  exact .inr (by omega)
end Go.Proofs.YtaoakchgjgmedaaGreat.M
namespace Go.Proofs.YtaoakchgjgmedaaGreat.K
open Go Go.RowKit
section
variable {P : Program} {T : Tab} {ops rest : List Oper} {Q : Exit → Act → World → Prop} {n : Nat} {env : Env} {w0 : World} {R : Ro} {E : List Ent} {o : Oper} {pc p q : Bool}
theorem under_map (hT : TabOk P T) {t k e : TypeId} {d : TD} (hd : T.at t = some d) (hk : d.k = .map k e) : P.underlying t = some (.map k e) := by
 have := hT.kind hd
 rw [hk] at this
 unfold kindOf at this
 split at this <;> simp_all
theorem under_int (hT : TabOk P T) {t : TypeId} {k : IntKind} {d : TD} (hd : T.at t = some d) (hk : d.k = .int k) : P.underlying t = some (.int k) := by
 have := hT.kind hd
 rw [hk] at this
 unfold kindOf at this
 split at this <;> simp_all
theorem Ef.makeMap {K : Value → Ro → List Ent → Prop} {t : TypeId} (ho : o.op = .makeMap t none) (hK : ∀ b, K (.map (some b)) R (.obj b (.map #[] 0) :: E)) : Ef P n env w0 R E o K := by
 intro a w hk hm
 refine ⟨_, w.alloc (.map #[] 0), R, _, .inl ?_, hm.newObj _, hK _⟩
 unfold execOp
 simp [ho, run_makeMap_plain]
theorem Ef.insert {K : Value → Ro → List Ent → Prop} {t kt et : TypeId} {x y z : Operand} {b clock : Nat} {es : Array MapEntry} {kk : IntKind} {k : Int} {v : Value} {d d2 : TD} (hT : TabOk P T) (ho : o.op = .insert t x y z) (hd : T.at t = some d) (hkd : d.k = .map kt et) (hd2 : T.at kt = some d2) (hk2 : d2.k = .int kk)
  (hx : ev env x = some (true, .map (some b))) (hy : ev env y = some (true, .int kk k)) (hz : ev env z = some (true, v)) (hf : Instr.findNow (.int kk) (.int kk k) es.toList 0 = some none)
  (hK : K undef R (.obj b (.map (es.push { key := .int kk k, val := v, born := clock }) (clock + 1)) :: E)) : Ef P n env w0 R (.obj b (.map es clock) :: E) o K := by
 intro a w hk hm
 have hb := hm.getObj
 have hm1 := under_map hT hd hkd
 have hu2 := under_int hT hd2 hk2
 have hc : (Instr.checkKey false 10000 kt (.int kk k)).run P w = .ok () w := MapKept.run_checkKey (k := .int kk k) hu2 (by simp [MapKept.IsKey]) false 9999
 refine ⟨undef, w.putObj b (.map (es.push { key := .int kk k, val := v, born := clock }) (clock + 1)), R, _, .inr ⟨?_, rfl⟩, hm.putObj _, hK⟩
 unfold execOp
 simp [ho, hk.ev hx rfl, hk.ev hy rfl, hk.ev hz rfl, Instr.mapUpdate, run_underlying hm1, MapKept.run_getObj_map hb, hc, MapKept.run_findKey hu2 hf, MapKept.run_setObj_map _ hb, Result.andThen, World.putObj]
def foundV (z : Value) : Option (Nat × Value) → Value
  | some (_, u) => .tuple #[u, .bool true]
  | none => .tuple #[z, .bool false]
theorem Yl.lookup {t kt et : TypeId} {x y : Operand} {b clock : Nat} {es : Array MapEntry} {kk : IntKind} {k : Int} {v z : Value} {d d2 : TD} {r : Option (Nat × Value)} (hT : TabOk P T) (ho : o.op = .lookup t x y true) (hd : T.at t = some d) (hkd : d.k = .map kt et) (hd2 : T.at kt = some d2) (hk2 : d2.k = .int kk) (hz : (P.info? et).bind (·.zero) = some z)
  (hx : ev env x = some (p, .map (some b))) (hy : ev env y = some (q, .int kk k)) (hpq : pc = true → (p && q) = true) (hf : Instr.findNow (.int kk) (.int kk k) es.toList 0 = some r)
  (hv : foundV z r = v) : Yl P n env w0 R (.obj b (.map es clock) :: E) o pc v := by
 intro a w hk hm hpc
 obtain ⟨h1, h2⟩ := and_both (hpq hpc)
 have hb := hm.getObj
 have hm1 := under_map hT hd hkd
 have hu2 := under_int hT hd2 hk2
 have hc : (Instr.checkKey es.isEmpty 10000 kt (.int kk k)).run P w = .ok () w := MapKept.run_checkKey (k := .int kk k) hu2 (by simp [MapKept.IsKey]) es.isEmpty 9999
 have hz' : (zeroValue et).run P w = .ok z w := by
  cases hi : P.info? et with
  | none => rw [hi] at hz; cases hz
  | some inf =>
   rw [hi] at hz
   have : inf.zero = some z := hz
   simp [zeroValue, typeInfo, hi, this]
 subst hv
 unfold execOp
 cases r with
 | none => simp [foundV, ho, hk.ev hx h1, hk.ev hy h2, Instr.lookup, run_underlying hm1, MapKept.run_getObj_map hb, hc, MapKept.run_findKey hu2 hf, hz', Result.andThen]
 | some r => simp [foundV, ho, hk.ev hx h1, hk.ev hy h2, Instr.lookup, run_underlying hm1, MapKept.run_getObj_map hb, hc, MapKept.run_findKey hu2 hf, Result.andThen]
theorem Yl.toIface {t : TypeId} {fs : List (Nat × Nat)} {x : Operand} {v : Value} {d : TD} (hT : TabOk P T) (ho : o.op = .makeInterface t x) (hd : T.at t = some d) (hk : d.k = .strct fs) (hx : ev env x = some (p, v)) (hpq : pc = true → p = true) : Yl P n env w0 R E o pc (.iface t v) := by
 intro a w hk2 hm hpc
 obtain ⟨ff, hu, _⟩ := hT.strct hd hk
 unfold execOp
 simp [ho, hk2.ev hx (hpq hpc), Instr.makeInterface, run_underlying hu]
def Meth (P : Program) (t : TypeId) (rv : Value) (name : String) (f : FuncId) (us : List Value) : Prop :=
  ∀ w, (callMethod (.iface t rv) name us.toArray).run P w = .ok (.enter f (rv :: us).toArray) w
theorem run_callI {a : Act} {w : World} (hk : Kn n env a) {x : Operand} {args : List Operand} {ats : Array TypeId} {name : String} {t : TypeId} {rv : Value} {f : FuncId} {us : List Value} (ho : o.op = .call { callee := .invoke x name, args := args.toArray, argTypes := ats })
  (hx : ev env x = some (true, .iface t rv)) (ha : evs env args = some (true, us)) (hm : Meth P t rv name f us) : (execOp a.eval o).run P w = .ok (.enter f (rv :: us).toArray) w := by
 have e1 := hk.ev hx rfl
 have e2 := evs_ok hk ha rfl
 have e3 : args.toArray.map a.eval = us.toArray := by rw [← e2]; simp
 have e4 : (#[Value.iface t rv] ++ us.toArray).extract 1 (#[Value.iface t rv] ++ us.toArray).size = us.toArray := by simp
 have e5 : (#[Value.iface t rv] ++ us.toArray)[0]? = some (.iface t rv) := by simp
 unfold execOp
 rw [ho]
 simp only [resolve, e1, e3, invoke, Sem.run_bind, Sem.run_pure, Result.andThen_ok]
 rw [e5]
 simp only [e4]
 exact hm w
theorem WL.callI {d : Nat} {x : Operand} {args : List Operand} {ats : Array TypeId} {name : String} {t : TypeId} {rv : Value} {f : FuncId} {us : List Value} {Post : Value → Ro → List Ent → Prop} (ho : o.op = .call { callee := .invoke x name, args := args.toArray, argTypes := ats }) (hg : o.guard = none) (hd : o.dst = some d) (hdn : d < n)
  (hx : ev env x = some (true, .iface t rv)) (ha : evs env args = some (true, us)) (hm : Meth P t rv name f us) (hv : Fn P f (rv :: us) w0 R E Post)
  (h : ∀ v R' E', RLe R R' → Post v R' E' → WG false P ops Q rest n ((d, true, v) :: env) w0 R' E') : WG false P ops Q (o :: rest) n env w0 R E := by
 intro a w hk hmm
 refine wpList_plain hg fun K hK => ?_
 unfold Oper.wp
 rw [run_callI hk ho hx ha hm]
 refine (hv w hmm).mono ?_
 rintro e w' ⟨v, R', E', rfl, hR, hm', hp⟩
 simp only [hd]
 exact hK _ _ (h v R' E' hR hp _ _ (hk.putT hdn v) hm')
theorem WA.freezeBlk {ES : List Ent} {R0 : Ro} {fuel : Nat} {listed : Array Bool} {b : Nat} {cs : List Value} (i : Nat) (hE : E[i]? = some (.blk b cs)) (h : ∀ R', RLe R R' → R' b = some cs → WA P ops Q ES R0 w0 fuel listed n env R' (E.eraseIdx i)) : WA P ops Q ES R0 w0 fuel listed n env R E := by
 intro a w hk hm
 obtain ⟨R', hR, hb, hm'⟩ := hm.freezeBlk hE
 exact h R' hR hb a w hk hm'
def RunV (out : List Int × List (List Int)) (E : List Ent) (T : Value → Value) (v : Value) (R' : Ro) (E' : List Ent) : Prop :=
  ∃ (da oa : Option Addr) (dc oc : Nat) (rows : List M.Sl), v = T (.agg #[.slice da out.1.length dc, .slice oa rows.length oc]) ∧ RS R' 1 encI da out.1 ∧ RS R' 1 M.encS oa rows ∧ (∀ r ∈ rows, RS R' 1 encI r.a r.xs) ∧ rows.map M.Sl.xs = out.2 ∧ (∀ r ∈ rows, r.xs.length ≤ r.cap) ∧ E.Sublist E'
end
end Go.Proofs.YtaoakchgjgmedaaGreat.K
namespace Go.Proofs.YtaoakchgjgmedaaGreat.M
open Go Go.Proofs.YtaoakchgjgmedaaGreat.K
def aheadP (tb : List Int) (cls : Int) (t n : Nat) : Bool := decide (cls < 0) || nth tb ((t + n) % tb.length) != cls
theorem aheadP_iff {tb : List Int} {cls : Int} {t n : Nat} : aheadP tb cls t n = true ↔ cls < 0 ∨ nth tb ((t + n) % tb.length) ≠ cls := by unfold aheadP; simp
theorem aheadN_some {tb : List Int} {cls : Int} {t n : Nat} (hn : n < tb.length) (hP : aheadP tb cls t n = true) (h : ∀ j, j < n → aheadP tb cls t j = false) : aheadN tb cls t = n :=
 findFrom_some (P := aheadP tb cls t) (Nat.zero_le _) (by omega) hP (fun j _ hj => h j hj)
theorem aheadN_none {tb : List Int} {cls : Int} {t : Nat} (h : ∀ j, j < tb.length → aheadP tb cls t j = false) : aheadN tb cls t = -1 :=
 findFrom_none (P := aheadP tb cls t) (fun j _ hj => h j (by omega))
def aheadV (tb : List Int) (cls : Int) (t : Nat) : Int × Bool := if aheadN tb cls t = -1 then (0, false) else (aheadN tb cls t, true)
theorem okT_at {n : Int} {tb : List Int} (h1 : 1 ≤ tb.length) (h2 : tb.length ≤ 40) (h : ∀ j, j < tb.length → -1 ≤ nth tb j ∧ nth tb j < n) : okT n tb = true := okT_iff.2 ⟨h1, h2, fun c hc => by
 obtain ⟨i, hi, e⟩ := List.getElem_of_mem hc
 have := h i hi
 rw [nth_eq hi, e] at this; exact this⟩
def someN (tb : List Int) (cls : Int) : Nat → Bool
  | 0 => false
  | k + 1 => someN tb cls k || mineT tb cls k
theorem someN_iff {tb : List Int} {cls : Int} : ∀ {k : Nat}, k ≤ tb.length → (someN tb cls k = true ↔ ∃ i, i < k ∧ nth tb i = cls)
 | 0, _ => by simp [someN]
 | k + 1, h => by
  have ih := someN_iff (tb := tb) (cls := cls) (k := k) (by omega)
  have e : mineT tb cls k = (nth tb k == cls) := by unfold mineT slotT; rw [Nat.mod_eq_of_lt (by omega)]
  simp only [someN, Bool.or_eq_true, ih, e, beq_iff_eq]
  constructor
  ·rintro (⟨i, h1, h2⟩ | h1)
   ·exact ⟨i, by omega, h2⟩
   ·exact ⟨k, by omega, h1⟩
  ·rintro ⟨i, h1, h2⟩
   by_cases e : i = k
   ·subst e; exact .inr h2
   ·exact .inl ⟨i, by omega, h2⟩
theorem someN_all (tb : List Int) (cls : Int) : someN tb cls tb.length = someT cls tb := by
 rw [Bool.eq_iff_iff, someN_iff (Nat.le_refl _), someT_iff]
theorem aheadV_all {tb : List Int} {cls : Int} (hc : 0 ≤ cls) : (aheadV tb cls 0).2 = false ↔ allT cls tb = true := by
 rw [allT_iff]
 unfold aheadV
 constructor
 ·intro h i hi
  by_cases ha : aheadN tb cls 0 = -1
  ·rcases findFrom_cases (aheadP tb cls 0) tb.length 0 with ⟨j, h1, h2, h3, _⟩ | ⟨_, h2⟩
   ·have : aheadN tb cls 0 = j := h3
    omega
   ·have h3 := h2 i (Nat.zero_le _) (by omega)
    rw [← Bool.not_eq_true, aheadP_iff, Nat.zero_add, Nat.mod_eq_of_lt hi] at h3
    apply Classical.byContradiction
    intro hn; exact h3 (.inr hn)
  ·rw [if_neg ha] at h; cases h
 ·intro h
  have ha : aheadN tb cls 0 = -1 := aheadN_none (fun j hj => by
   rw [← Bool.not_eq_true, aheadP_iff, Nat.zero_add, Nat.mod_eq_of_lt hj]
   rintro (h1 | h1)
   ·omega
   ·exact h1 (h j hj))
  rw [if_pos ha]
def fillL (m k : Nat) : List Int := (List.range m).map fun j => if j < k then INF else 0
def tickL (C : Nat → Nat → Int) (m f k : Nat) : List Int := (List.range m).map fun j => if j < k then minTo (fun a => C a j) (f + 1) else minTo (fun a => C a j) f
theorem fillL_len (m k : Nat) : (fillL m k).length = m := by simp [fillL]
theorem tickL_len (C : Nat → Nat → Int) (m f k : Nat) : (tickL C m f k).length = m := by simp [tickL]
theorem fillL_nth {m k j : Nat} (h : j < m) : nth (fillL m k) j = if j < k then INF else 0 := range_map_nth (fun j => if j < k then INF else 0) h
theorem tickL_nth {C : Nat → Nat → Int} {m f k j : Nat} (h : j < m) : nth (tickL C m f k) j = if j < k then minTo (fun a => C a j) (f + 1) else minTo (fun a => C a j) f := range_map_nth (fun j => if j < k then minTo (fun a => C a j) (f + 1) else minTo (fun a => C a j) f) h
theorem fillL_zero (m : Nat) : fillL m 0 = List.replicate m 0 := nth_ext (by rw [fillL_len, List.length_replicate]) (fun i hi => by
 rw [fillL_len] at hi
 rw [fillL_nth hi, if_neg (by omega), nth_replicate hi])
theorem fillL_set {m k : Nat} (h : k < m) : (fillL m k).set k INF = fillL m (k + 1) := nth_ext (by rw [List.length_set, fillL_len, fillL_len]) (fun i hi => by
 rw [List.length_set, fillL_len] at hi
 rw [fillL_nth hi]
 by_cases e : k = i
 ·subst e; rw [nth_set_self (by rw [fillL_len]; exact h), if_pos (by omega)]
 ·rw [nth_set_ne e, fillL_nth hi]
  by_cases h2 : i < k
  ·rw [if_pos h2, if_pos (by omega)]
  ·rw [if_neg h2, if_neg (by omega)])
theorem fillL_all (C : Nat → Nat → Int) (m : Nat) : fillL m m = tickL C m 0 0 := nth_ext (by rw [fillL_len, tickL_len]) (fun i hi => by
 rw [fillL_len] at hi
 rw [fillL_nth hi, tickL_nth hi, if_pos hi, if_neg (by omega)]; rfl)
theorem tickL_next (C : Nat → Nat → Int) (m f : Nat) : tickL C m f m = tickL C m (f + 1) 0 := nth_ext (by rw [tickL_len, tickL_len]) (fun i hi => by
 rw [tickL_len] at hi
 rw [tickL_nth hi, tickL_nth hi, if_pos hi, if_neg (by omega)])
theorem tickL_set {C : Nat → Nat → Int} {m f k : Nat} (h : k < m) {v : Int} (hv : v = min (nth (tickL C m f k) k) (C f k)) : (tickL C m f k).set k v = tickL C m f (k + 1) := nth_ext (by rw [List.length_set, tickL_len, tickL_len]) (fun i hi => by
 rw [List.length_set, tickL_len] at hi
 rw [tickL_nth hi]
 by_cases e : k = i
 ·subst e
  rw [nth_set_self (by rw [tickL_len]; exact h), if_pos (by omega), hv, tickL_nth h, if_neg (by omega)]; rfl
 ·rw [nth_set_ne e, tickL_nth hi]
  by_cases h2 : i < k
  ·rw [if_pos h2, if_pos (by omega)]
  ·rw [if_neg h2, if_neg (by omega)])
theorem tickL_end {C : Nat → Nat → Int} {m n : Nat} (hn : 0 < n) (h : ∀ j, j < m → C 0 j ≤ 4611686018427387904) : tickL C m n 0 = fvals (fun j => minN (fun a => C a j) n) m := nth_ext (by rw [tickL_len, fvals_len]) (fun i hi => by
 rw [tickL_len] at hi
 rw [tickL_nth hi, if_neg (by omega), fvals_nth _ hi]
 exact minTo_minN (f := fun a => C a i) (h i hi) hn)
theorem tickL_bound {C : Nat → Nat → Int} {m f k : Nat} (h : ∀ a j, 0 ≤ C a j) {j : Nat} (hj : j < m) : 0 ≤ nth (tickL C m f k) j ∧ nth (tickL C m f k) j ≤ 4611686018427387904 := by
 rw [tickL_nth hj]
 have key : ∀ n, 0 ≤ minTo (fun a => C a j) n ∧ minTo (fun a => C a j) n ≤ 4611686018427387904 := fun n => by
  induction n with
  | zero => simp [minTo]
  | succ n ih => have := h n j; simp only [minTo]; omega
 split
 ·exact key _
 ·exact key _
def longT (tb : List Int) : List Int := ((tb ++ tb) ++ tb) ++ tb
theorem longT_len (tb : List Int) : (longT tb).length = 4 * tb.length := by simp [longT]; omega
theorem nth_app {l r : List Int} {i : Nat} : nth (l ++ r) i = if i < l.length then nth l i else nth r (i - l.length) := by
 unfold nth List.getD
 split
 ·rename_i h; rw [List.getElem?_append_left h]
 ·rename_i h; rw [List.getElem?_append_right (by omega)]
theorem longT_nth {tb : List Int} {i : Nat} (h : i < 4 * tb.length) : nth (longT tb) i = slotT tb i := by
 unfold longT slotT
 rw [nth_app, nth_app, nth_app]
 simp only [List.length_append]
 by_cases h1 : i < tb.length
 ·rw [if_pos (by omega), if_pos (by omega), if_pos h1, Nat.mod_eq_of_lt h1]
 ·by_cases h2 : i < tb.length + tb.length
  ·rw [if_pos (by omega), if_pos h2, if_neg h1, Nat.mod_eq_sub_mod (by omega), Nat.mod_eq_of_lt (by omega)]
  ·by_cases h3 : i < tb.length + tb.length + tb.length
   ·rw [if_pos h3, if_neg h2, Nat.mod_eq_sub_mod (by omega), Nat.mod_eq_sub_mod (by omega), Nat.mod_eq_of_lt (by omega)]
    congr 1; omega
   ·rw [if_neg h3, Nat.mod_eq_sub_mod (by omega), Nat.mod_eq_sub_mod (by omega), Nat.mod_eq_sub_mod (by omega), Nat.mod_eq_of_lt (by omega)]
    congr 1; omega
end Go.Proofs.YtaoakchgjgmedaaGreat.M
namespace Go.Proofs.YtaoakchgjgmedaaGreat.K
open Go Go.RowKit
section
variable {P : Program} {T : Tab} {n : Nat} {env : Env} {w0 : World} {R : Ro} {E : List Ent} {o : Oper} {K : Value → Ro → List Ent → Prop} {p q pc : Bool}
theorem Yl.sliceHM {t e : TypeId} {x h u : Operand} {a : Option Addr} {m cap : Nat} {i j : Int} {r : Bool} {d : TD} (hT : TabOk P T) (ho : o.op = .slice t x none (some h) (some u)) (hd : T.at t = some d) (hk : d.k = .slice e)
  (hx : ev env x = some (p, .slice a m cap)) (hh : ev env h = some (q, .int .i64 i)) (hu : ev env u = some (r, .int .i64 j)) (hpq : pc = true → (p && (q && r)) = true) (hi : pc = true → 0 ≤ i ∧ i ≤ j ∧ j ≤ cap) {d2 : TD} (hd2 : T.at e = some d2) : Yl P n env w0 R E o pc (.slice a i.toNat j.toNat) := by
 intro ac w hkn hm hpc
 obtain ⟨h1, h2⟩ := and_both (hpq hpc)
 obtain ⟨h2, h3⟩ := and_both h2
 have hi := hi hpc
 have ha : a.map (·.add 0) = a := by cases a <;> simp [Addr.add]
 unfold execOp
 simp [ho, hkn.ev hx h1, hkn.ev hh h2, hkn.ev hu h3, Instr.sliceAt, Instr.slice, Instr.sliceBounds, Instr.sliceBound, asIntOf, underlying, hT.slice hd hk, hi, run_sizeOf hT hd2, ha, show 0 ≤ j by omega, show i ≤ j by omega]
 intro h; omega
theorem Ef.appendF {α : Type} [_i : Inhabited α] {enc : α → List Value} {t e : TypeId} {x y : Operand} {k m0 m c : Nat} {a b : Option Addr} {xs ys : List α} {d d2 : TD} (hT : TabOk P T) (ho : o.op = .call { callee := .builtin .append, args := #[x, y], argTypes := #[t, t] }) (hd : T.at t = some d) (hk : d.k = .slice e) (hd2 : T.at e = some d2)
  (hx : ev env x = some (true, .slice a m0 m0)) (hm0 : m0 = xs.length) (hxs : RS (_i := _i) R k enc a xs) (hx0 : 0 < xs.length) (hks : d2.size = k) (hzl : d2.zero.length = k) (hk0 : 0 < k)
  (hy : ev env y = some (true, .slice b m c)) (hm : m = ys.length) (hys : RS (_i := _i) R k enc b ys) (hy0 : 0 < ys.length)
  (hbytes : (xs.length + ys.length) * d2.bytes ≤ 140737488355328) (hmax : xs.length + ys.length ≤ 9223372036854775807)
  (hK : ∀ (g cap' : Nat), K (.slice (some ⟨g, 0, none⟩) (xs ++ ys).length cap') R (.sl e k (some ⟨g, 0, none⟩) cap' ((xs ++ ys).map enc) :: E)) : Ef P n env w0 R E o K := by
 subst hm hm0
 intro ac w hkn hmm
 obtain ⟨inf, z, hi, hz, hzc, hsz, hby⟩ := hT.info hd2
 have hzs : z.cells.size = k := by rw [← hzl, ← hzc, Array.length_toList]
 have hxl := flatten_len hxs.1
 have hyl := flatten_len hys.1
 rw [List.length_map] at hxl hyl
 have hns : ∀ r ∈ (xs ++ ys).map enc, r.length = k := fun r hr => by
  rw [List.map_append] at hr
  rcases List.mem_append.1 hr with h | h
  ·exact hxs.1 r h
  ·exact hys.1 r h
 have hnz : ∀ {l : List α}, 0 < l.length → (l.map enc).flatten.length = l.length * k → (l.map enc).flatten ≠ [] := fun hl he h => by
  rw [h] at he
  have := Nat.mul_pos hl hk0
  simp at he; omega
 rcases RSl.all (E := E) hxs with h | ⟨ax, rfl, hrx⟩
 ·exact absurd h (hnz hx0 hxl)
 rcases RSl.all (E := E) hys with h | ⟨ay, rfl, hry⟩
 ·exact absurd h (hnz hy0 hyl)
 have hr := run_append_grow (P := P) w t o.type e inf z (hT.slice hd hk) hi hz ax xs.length xs.length (xs.map enc).flatten (by rw [hxl, hsz, hks]) (hrx w0 w hmm) ay ys.length c (ys.map enc).flatten (by rw [hyl, hsz, hks]) (hry w0 w hmm) (by omega) (by omega) (by rw [hby]; exact growslice_fits (by omega) hbytes)
 have hcm := grownCap_le_maxLen w (xs.length + ys.length) xs.length e (by simp only [maxLen]; omega)
 have hge := grownCap_ge w (xs.length + ys.length) xs.length e
 have hnew : Mem w0 (w.drew.alloc (.cells ((xs.map enc).flatten.toArray ++ (ys.map enc).flatten.toArray ++ Builtin.zeroCells z.cells (grownCap w (xs.length + ys.length) xs.length e - (xs.length + ys.length))) e)) R (.sl e k (some ⟨w.heap.size, 0, none⟩) (grownCap w (xs.length + ys.length) xs.length e) ((xs ++ ys).map enc) :: E) := by
  refine hmm.new ⟨rfl, rfl, rfl, by simp, fun j hj _ => heap_alloc_old w.drew _ hj⟩ (ok_sl hns hk0 hmm.below.size (heap_alloc_new w.drew _) (by simpa using hge) hcm ?_ ?_) (fun b hb => by simp [Ent.block] at hb; omega)
  ·simp only [Array.size_append, List.size_toArray, size_zeroCells, hzs, hxl, hyl, ← Nat.add_mul]
   congr 1; omega
  ·simp only [Array.toList_append, List.append_assoc, List.flatten_append, List.length_append, List.map_append, List.length_map]
   rw [← List.append_assoc]
   exact List.take_left' (by rw [List.length_append, hxl, hyl, Nat.add_mul])
 have hKK := hK w.heap.size (grownCap w (xs.length + ys.length) xs.length e)
 rw [List.length_append] at hKK
 refine ⟨_, _, R, _, .inl ?_, hnew, hKK⟩
 unfold execOp
 simp only [ho, resolve, invoke, builtin, Sem.run_bind, Sem.run_pure, Result.andThen_ok, List.map_toArray, List.map_cons, List.map_nil, hkn.ev hx rfl, hkn.ev hy rfl, hr]
end
end Go.Proofs.YtaoakchgjgmedaaGreat.K
namespace Go.Proofs.YtaoakchgjgmedaaGreat.M
open Go Go.Proofs.YtaoakchgjgmedaaGreat.K
theorem gain_bound {c : Cv} (h : validB c = true) {L : Nat} (hL : L ≤ 120) : 0 ≤ gainC c L ∧ gainC c L ≤ 120 * 1073741824 := by
 obtain ⟨_, _, _, p1, p2, p3, p4, p5⟩ := valid_range h
 unfold gainC
 have hd0 : 0 ≤ (L : Int) / c.per := Int.ediv_nonneg (by omega) (by omega)
 have hd1 : (L : Int) / c.per ≤ L := Int.ediv_le_self _ (by omega)
 exact ⟨Int.mul_nonneg hd0 p4, Int.mul_le_mul (by omega) p5 p4 (by omega)⟩
theorem plus_bound {a b : Cv} (ha : validB a = true) (hb : validB b = true) {t : Nat} (ht : t ≤ 100000) : 0 ≤ plusF a b t ∧ (plusF a b t = INF ∨ plusF a b t ≤ 1073741824 * (2 * (t : Int) + 4)) := by
 unfold plusF
 split
 ·exact ⟨by decide, .inl rfl⟩
 ·rename_i h
  have h1 := fin_part ha (t := t) (fun x => h (.inl x)) (by omega)
  have h2 := fin_part hb (t := t) (fun x => h (.inr x)) (by omega)
  omega
theorem sum_ref {a b : Cv} (ha : validB a = true) (hb : validB b = true) (hl : lcmC a b ≤ 120) {n : Nat} (hn : a.vals.length ≤ n ∧ b.vals.length ≤ n) (hn2 : n ≤ 400) :
  mbuild (plusF a b) (max (stN a) (stN b)) (lcmC a b) (gainC a (lcmC a b) + gainC b (lcmC a b)) = madeR ⟨fvals (plusF a b) (n + lcmC a b), (lcmC a b : Int), gainC a (lcmC a b) + gainC b (lcmC a b)⟩
   ∧ MadeOk (fvals (plusF a b) (n + lcmC a b)) (lcmC a b : Int) (gainC a (lcmC a b) + gainC b (lcmC a b)) := by
 have s1 := stN_lt ha
 have s2 := stN_lt hb
 obtain ⟨_, _, _, p1, p2, _⟩ := valid_range ha
 obtain ⟨_, _, _, q1, q2, _⟩ := valid_range hb
 have hL : 0 < lcmC a b := (lcm_mod (show 0 < a.per.toNat by omega) (show 0 < b.per.toNat by omega)).2.2
 have g1 := gain_bound ha hl
 have g2 := gain_bound hb hl
 by_cases h : finB a = true ∧ finB b = true
 ·have r1 := plus_fin ha hb h.1 h.2 (show lcmC a b ≤ 10000 by omega) (S := max (stN a) (stN b)) (by omega) (by omega)
  have r2 := plus_fin ha hb h.1 h.2 (show lcmC a b ≤ 10000 by omega) (S := n) (by omega) (by omega)
  refine ⟨build_made_fin r1.hP r1.hI r1.hg r2.hP r2.hI r2.hg r1.hm r1.h0 r1.hf r2.hf, madeOk_fin (by omega) (by omega) (by omega) r2.hg (fun t ht => ?_)⟩
  have hp := plus_bound ha hb (t := t) (by omega)
  refine ⟨hp.1, ?_⟩
  unfold plusF at hp ⊢
  rw [if_neg (by rintro (x | x) <;> exact isInf_fin (by first | exact h.1 | exact h.2) t x)] at hp ⊢
  have h1 := fin_part ha (isInf_fin h.1 t) (show t ≤ 1000000000 by omega)
  have h2 := fin_part hb (isInf_fin h.2 t) (show t ≤ 1000000000 by omega)
  omega
 ·obtain ⟨m, r⟩ := plus_inf ha hb h (m := max (stN a) (stN b) + lcmC a b) (by omega)
  refine ⟨build_made_inf r.hn (by have := r.hn; omega) (r.hi m (Nat.le_refl _)) r.hf (fun t _ => r.hm t), madeOk_inf (n := m) (by have := r.hn; omega) (by omega) (by omega) (by omega) (r.hi m (Nat.le_refl _)) r.hf (fun t _ => ?_)⟩
  by_cases ht : m ≤ t
  ·rw [r.hi t ht]; exact ⟨by decide, Int.le_refl _⟩
  ·have := r.hf t (by omega); omega
theorem raise_bound {a : Cv} (ha : validB a = true) {k : Int} (hk : 0 ≤ k ∧ k ≤ MAXV) {t : Nat} (ht : t ≤ 100000) : 0 ≤ raiseF a k t ∧ (raiseF a k t = INF ∨ raiseF a k t ≤ 1073741824 * ((t : Int) + 3)) := by
 unfold raiseF
 unfold MAXV at hk
 split
 ·omega
 ·split
  ·exact ⟨by decide, .inl rfl⟩
  ·rename_i h
   have := fin_part ha h (show t ≤ 1000000000 by omega)
   omega
theorem raise_ref {a : Cv} (ha : validB a = true) {k : Int} (hk : 0 ≤ k ∧ k ≤ MAXV) :
  mbuild (raiseF a k) (max 1 (stN a)) a.per.toNat a.inc = madeR ⟨fvals (raiseF a k) (a.vals.length + a.per.toNat + 1), a.per, a.inc⟩ ∧ MadeOk (fvals (raiseF a k) (a.vals.length + a.per.toNat + 1)) a.per a.inc := by
 have s1 := stN_lt ha
 obtain ⟨_, _, _, p1, p2, p3, i1, i2⟩ := valid_range ha
 have hper : ((a.per.toNat : Nat) : Int) = a.per := by omega
 have e1 : a.vals.length + a.per.toNat + 1 = (a.vals.length + 1) + a.per.toNat := by omega
 rw [e1]
 by_cases h : finB a = true
 ·have r1 := raise_fin ha h hk (S := max 1 (stN a)) (by omega) (by omega)
  have r2 := raise_fin ha h hk (S := a.vals.length + 1) (by omega) (by omega)
  have h3 := build_made_fin r1.hP r1.hI r1.hg r2.hP r2.hI r2.hg r1.hm r1.h0 r1.hf r2.hf
  have h4 := madeOk_fin (by omega) (by omega) (by omega) r2.hg (fun t ht => by
   have hb := raise_bound ha hk (t := t) (by omega)
   refine ⟨hb.1, ?_⟩
   rcases hb.2 with h5 | h5
   ·unfold raiseF at h5
    split at h5
    ·exact absurd h5 (by decide)
    ·split at h5
     ·rename_i h6
      exact absurd h6 (isInf_fin h t)
     ·have := fin_part ha (isInf_fin h t) (show t ≤ 1000000000 by omega)
      unfold INF at h5
      unfold MAXV at hk
      omega
   ·omega)
  rw [hper] at h3 h4
  exact ⟨h3, h4⟩
 ·obtain ⟨m, r⟩ := raise_inf ha (by simpa using h) hk (m := max 1 (stN a) + a.per.toNat) (by omega)
  refine ⟨build_made_inf r.hn (by have := r.hn; omega) (r.hi m (Nat.le_refl _)) r.hf (fun t _ => r.hm t), madeOk_inf (n := m) (by have := r.hn; omega) (by omega) (by omega) (by omega) (r.hi m (Nat.le_refl _)) r.hf (fun t _ => ?_)⟩
  by_cases ht : m ≤ t
  ·rw [r.hi t ht]; exact ⟨by decide, Int.le_refl _⟩
  ·have := r.hf t (by omega); omega
theorem rest_madeOk {cap : Int} {b : Cv} (hc : 0 ≤ cap ∧ cap ≤ 4000) (hb : validB b = true) (h2 : ¬ restF cap b (400 + b.per.toNat) ≠ restF cap b 400 + gainL cap b) : MadeOk (fvals (restF cap b) (400 + b.per.toNat)) b.per (gainL cap b) := by
 have hst := stN_lt hb
 obtain ⟨_, _, q0, q1, q2, _, i1, i2⟩ := valid_range hb
 have hper : ((b.per.toNat : Nat) : Int) = b.per := by omega
 have hbd : ∀ t, t ≤ 400 + b.per.toNat + b.per.toNat → 0 ≤ restF cap b t ∧ restF cap b t ≤ 10000000000000 := fun t ht => by
  have h1 := restF_bound hc.1 hb t
  have h3 := mulB (a := cap) (b := (t : Int)) (A := 4000) (B := 10000) (by omega) (by omega)
  omega
 by_cases h : finB b = true ∧ 0 < driftL cap b
 ·have hgn : gainL cap b = driftL cap b := by unfold gainL; rw [if_pos h.1]; have := h.2; omega
  rw [hgn] at h2 ⊢
  have hdb : driftL cap b ≤ 120 * 4000 := by
   unfold driftL
   have := mulB (a := b.per) (b := cap) (A := 120) (B := 4000) (by omega) (by omega)
   omega
  have e1 := most_tail (f := rawL cap b) (s := stN b) (400 - stN b)
  have e2 := most_tail (f := rawL cap b) (s := stN b) (400 - stN b + b.per.toNat)
  rw [show stN b + (400 - stN b) + 1 = 400 + 1 by omega] at e1
  rw [show stN b + (400 - stN b + b.per.toNat) + 1 = 400 + b.per.toNat + 1 by omega] at e2
  have e3 := tail_shift (s := stN b) (P := b.per.toNat) (by omega) (by omega) (raw_shift (cap := cap) hb h.1) (d := 400 - stN b) (by omega)
  have hd := h.2
  have h3 : ¬ tailF (rawL cap b) (stN b) (400 - stN b) < mostF (rawL cap b) (stN b) := fun h3 => by
   apply h2
   unfold restF
   omega
  have hr := rest_rep1 hc hb h.1 h.2 h3
  have := madeOk_fin (by omega) (by omega) (by omega) hr.hg hbd
  rw [hper] at this
  exact this
 ·have hgn : gainL cap b = 0 := by
   unfold gainL
   split
   ·rename_i hf
    have : ¬ 0 < driftL cap b := fun hh => h ⟨hf, hh⟩
    omega
   ·rfl
  rw [hgn]
  have hr := rest_rep2 (cap := cap) hc hb h (S := 400) (by omega) (by omega) (P := b.per.toNat) (by omega)
  have := madeOk_fin (by omega) (by omega) (by omega) hr.hg hbd
  rw [hper] at this
  exact this
def rowR (cap lost : Int) (mine : Nat → Bool) (a : Nat) : Nat → Int × Nat
  | 0 => (0, 0)
  | d + 1 => if mine (a + d) = true then ((rowR cap lost mine a d).1, (rowR cap lost mine a d).2 + 1) else ((rowR cap lost mine a d).1 + max 0 (cap * ((rowR cap lost mine a d).2 : Int) - lost), 0)
theorem slotS_rowR (cap lost : Int) (mine : Nat → Bool) (a : Nat) : ∀ d : Nat, slotS cap lost mine a d = ((rowR cap lost mine a d).1, cap * ((rowR cap lost mine a d).2 : Int))
 | 0 => by simp [slotS, rowR]
 | d + 1 => by
  simp only [slotS, rowR, slotS_rowR cap lost mine a d]
  split
  ·have : cap * (((rowR cap lost mine a d).2 + 1 : Nat) : Int) = cap * ((rowR cap lost mine a d).2 : Int) + cap := by rw [Int.natCast_add, Int.mul_add]; simp
   rw [this]
  ·simp
theorem rowR_le (cap lost : Int) (mine : Nat → Bool) (a : Nat) : ∀ d : Nat, (rowR cap lost mine a d).2 ≤ d
 | 0 => Nat.le_refl _
 | d + 1 => by
  have := rowR_le cap lost mine a d
  simp only [rowR]
  split <;> (dsimp only; omega)
def crow (cap lost : Int) (mine : Nat → Bool) (a k i : Nat) : Int × Nat := if i ≤ k then rowR cap lost mine a i else (cntS cap lost mine a k, 0)
theorem cntS_rowR (cap lost : Int) (mine : Nat → Bool) (a k : Nat) : cntS cap lost mine a k = (rowR cap lost mine a k).1 + max 0 (cap * ((rowR cap lost mine a k).2 : Int) - lost) := by
 unfold cntS
 rw [slotS_rowR]
def allN (tb : List Int) (cls : Int) : Nat → Bool
  | 0 => true
  | k + 1 => allN tb cls k && mineT tb cls k
theorem allN_iff {tb : List Int} {cls : Int} : ∀ {k : Nat}, k ≤ tb.length → (allN tb cls k = true ↔ ∀ i, i < k → nth tb i = cls)
 | 0, _ => by simp [allN]
 | k + 1, h => by
  have ih := allN_iff (tb := tb) (cls := cls) (k := k) (by omega)
  have e : mineT tb cls k = (nth tb k == cls) := by unfold mineT slotT; rw [Nat.mod_eq_of_lt (by omega)]
  simp only [allN, Bool.and_eq_true, ih, e, beq_iff_eq]
  constructor
  ·rintro ⟨h1, h2⟩ i hi
   by_cases hk : i = k
   ·subst hk; exact h2
   ·exact h1 i (by omega)
  ·intro h1
   exact ⟨fun i hi => h1 i (by omega), h1 k (by omega)⟩
theorem allN_all (tb : List Int) (cls : Int) : allN tb cls tb.length = allT cls tb := by
 rw [Bool.eq_iff_iff, allN_iff (Nat.le_refl _), allT_iff]
theorem lower_line {cap lost : Int} (hc : 1 ≤ cap ∧ cap ≤ 4000) (hl : 0 ≤ lost) : validB ⟨[0], 1, cap⟩ = true ∧ lowerR ⟨[0], 1, cap⟩ lost = if 400 * cap < lost then (zcv, 3) else madeR ⟨fvals (lineF cap lost) 401, 1, cap⟩ := by
 have hfc := fc_line (c := cap) (by omega)
 have e0 : fvals (fun t : Nat => cap * (t : Int)) (0 + 1) = [0] := by simp [fvals]
 have hv := hfc.valid'
 rw [e0] at hv
 have hn : normR ⟨[0], 1, cap⟩ = ⟨[0], 1, cap⟩ := by
  obtain ⟨s, p, q, h1, h2, h3, h4, _, h6⟩ := hfc.norm
  have hp := h2.hP
  obtain rfl : s = 0 := by omega
  obtain rfl : p = 1 := by omega
  rw [e0] at h1
  have hq : q = cap := by rw [h6]; simp
  rw [hq] at h1
  exact h1
 have hcv : cvF ⟨[0], 1, cap⟩ = fun t : Nat => cap * (t : Int) := by
  have := cvF_fc hfc
  rw [e0] at this; exact this
 have hfb : finB ⟨[0], 1, cap⟩ = true := rfl
 refine ⟨hv, ?_⟩
 unfold lowerR
 rw [hn, hcv]
 dsimp only
 have ep : (1 : Int).toNat = 1 := rfl
 rw [ep, show 400 + 1 = 401 from rfl]
 have ef : lowF ⟨[0], 1, cap⟩ lost = lineF cap lost := funext fun t => by
  unfold lowF lineF
  rw [if_neg (fun h => by have := h.1; rw [hfb] at this; cases this), hcv]
 rw [ef]
 by_cases h : 400 * cap < lost
 ·rw [if_pos h, if_pos ⟨hfb, by (show 0 < cap); omega, by (show cap * ((400 : Nat) : Int) < lost); omega⟩]
 ·rw [if_neg h, if_neg (fun hh => h (by have h2 : cap * ((400 : Nat) : Int) < lost := hh.2.2; omega))]
end Go.Proofs.YtaoakchgjgmedaaGreat.M
namespace Go.Proofs.YtaoakchgjgmedaaGreat
open Go Go.RowKit Go.Proofs.YtaoakchgjgmedaaGreat.K
theorem qR {P : Prop} (h : P := by first | exact RLe.refl _ | assumption) : P := h
theorem qK {P : Prop} (h : P := by kernel_rfl) : P := h
theorem qD {P : Prop} (h : P := by decide) : P := h
theorem qA {P : Prop} (h : P := by intro _; constructor <;> (try dsimp only) <;> omega) : P := h
theorem qN {P : Prop} (h : P := by intro _; (try dsimp only) <;> omega) : P := h
theorem qP {P : Prop} (h : P := by intro h1 h2; simp_all <;> omega) : P := h
theorem qX {P : Prop} (h : P := by (try dsimp only) <;> omega) : P := h
theorem qU {P : Prop} (h : P := by assumption) : P := h
theorem qO {P : Prop} (h : P := by omega) : P := h
theorem qH {P : Prop} (h : P := by intro _; first | exact fun _ _ _ _ => rfl | exact RS.has (by assumption) | exact fun _ _ _ _ => (by assumption) | exact HasMem.ownD 0 rfl | exact HasMem.ownD 1 rfl | exact HasMem.ownD 2 rfl | exact HasMem.ownD 3 rfl | exact HasMem.ownD 4 rfl | exact HasMem.ownD 5 rfl | exact HasMem.ownD 6 rfl | exact HasMem.ownD 7 rfl | exact HasMem.ownD 8 rfl | exact HasMem.ownD 9 rfl | exact HasMem.ownD 10 rfl | exact HasMem.ownD 11 rfl) : P := h
theorem qI {P : Prop} (h : P := by first | exact fun _ _ _ _ => rfl | exact RS.has (by assumption) | exact fun _ _ _ _ => (by assumption) | exact HasMem.ownD 0 rfl | exact HasMem.ownD 1 rfl | exact HasMem.ownD 2 rfl | exact HasMem.ownD 3 rfl | exact HasMem.ownD 4 rfl | exact HasMem.ownD 5 rfl | exact HasMem.ownD 6 rfl | exact HasMem.ownD 7 rfl | exact HasMem.ownD 8 rfl | exact HasMem.ownD 9 rfl | exact HasMem.ownD 10 rfl | exact HasMem.ownD 11 rfl) : P := h
theorem zk : (∀ (p : Prop) [Decidable p], (decide p = true) = p) ∧ (∀ (p : Prop) [Decidable p], (decide p = false) ↔ ¬ p) ∧ (∀ (α : Type) [BEq α] [LawfulBEq α] (a b : α), (a == b) = true ↔ a = b) ∧ (∀ (α : Type) [BEq α] [LawfulBEq α] (a b : α), (a != b) = true ↔ a ≠ b) ∧ (∀ (α : Type) [BEq α] [LawfulBEq α] (a b : α), (a == b) = false ↔ a ≠ b) ∧ (∀ (α : Type) [BEq α] [LawfulBEq α] (a b : α), (a != b) = false ↔ a = b) ∧ (∀ (α : Type) (a b : α), (a ≠ b) = ¬ (a = b)) ∧ (∀ (a b : Bool), ((a || b) = true) = (a = true ∨ b = true)) ∧ (∀ (a b : Bool), (a || b) = false ↔ a = false ∧ b = false) ∧ (∀ (a b : Bool), ((a && b) = true) = (a = true ∧ b = true)) ∧ (∀ (a b : Bool), (a && b) = false ↔ (a = true → b = false)) ∧ (∀ (b : Bool), (¬ (b = true)) = (b = false)) ∧ (∀ (b : Bool), ((!b) = true) = (b = false)) ∧ (∀ (b : Bool), ((!b) = false) = (b = true)) ∧ (∀ (a : Prop), ¬ ¬ a ↔ a) ∧ (∀ (a b : Int), ¬ (a < b) ↔ b ≤ a) ∧ (∀ (a b : Int), ¬ (a ≤ b) ↔ b < a) ∧ (∀ (α : Type) [LT α] (x y : α), x > y ↔ y < x) ∧ (∀ (α : Type) [LE α] (x y : α), x ≥ y ↔ y ≤ x) := by
 refine ⟨by intros; first | exact decide_eq_true_eq | exact decide_eq_true_eq .. | simp, by intros; first | exact decide_eq_false_iff_not | exact decide_eq_false_iff_not .. | simp, by intros; first | exact beq_iff_eq | exact beq_iff_eq .. | simp, by intros; first | exact bne_iff_ne | exact bne_iff_ne .. | simp, by intros; first | exact beq_eq_false_iff_ne | exact beq_eq_false_iff_ne .. | simp, by intros; first | exact bne_eq_false_iff_eq | exact bne_eq_false_iff_eq .. | simp, by intros; first | exact ne_eq | exact ne_eq .. | simp, by intros; first | exact Bool.or_eq_true | exact Bool.or_eq_true .. | simp, by intros; first | exact Bool.or_eq_false_iff | exact Bool.or_eq_false_iff .. | simp, by intros; first | exact Bool.and_eq_true | exact Bool.and_eq_true .. | simp, by intros; first | exact Bool.and_eq_false_imp | exact Bool.and_eq_false_imp .. | simp, by intros; first | exact Bool.not_eq_true | exact Bool.not_eq_true .. | simp, by intros; first | exact Bool.not_eq_true' | exact Bool.not_eq_true' .. | simp, by intros; first | exact Bool.not_eq_false' | exact Bool.not_eq_false' .. | simp, by intros; first | exact Classical.not_not | exact Classical.not_not .. | simp, by intros; first | exact Int.not_lt | exact Int.not_lt .. | simp, by intros; first | exact Int.not_le | exact Int.not_le .. | simp, by intros; first | exact gt_iff_lt | exact gt_iff_lt .. | simp, by intros; first | exact ge_iff_le | exact ge_iff_le .. | simp⟩
theorem tP {P : Program} {T : Tab} {n : Nat} {env : Env} {w0 : World} {R : Ro} {R0 : Ro} {E : List Ent} {ES : List Ent} {o : Oper} {pc : Bool} {q : Bool} {ops : List Oper} {Q : Exit → Act → World → Prop} {fuel : Nat} {listed : Array Bool} {v : Value} {d : Nat} (i : Nat) (h : WA P ops Q ES R0 w0 fuel (listed.setIfInBounds i true) n ((d, pc, v) :: env) R E) (hT : TabOk P T := by exact tab_ok) (hi : ops.toArray[i]? = some o := by exact rfl) (hs : Region.noSelect ops.toArray = true := by kernel_rfl) (hf : Region.free .any ops.toArray listed i = true := by kernel_rfl) (hr : (Region.ready .any ops.toArray listed).contains i = true := by kernel_rfl) (hg : gpc ops env o = some pc := by exact rfl) (hd : o.dst = some d := by exact rfl) (hdn : d < n := by decide) (hv : pureV T env o.op = some (q, v) := by exact rfl) (hq : pc = true → q = true := by exact fun _ => rfl) (hsub : ES.Sublist E := by (repeat (first | exact List.Sublist.refl _ | exact List.nil_sublist _ | apply List.Sublist.cons_cons | apply List.Sublist.cons)); done) (hR : RLe R0 R := by first | exact RLe.refl _ | assumption) : WA P ops Q ES R0 w0 (fuel + 1) listed n env R E := WA.take i hi hs hf hr hg hd hdn (pureV_ok hT hv hq) hsub hR h
theorem tL {P : Program} {T : Tab} {n : Nat} {env : Env} {w0 : World} {R : Ro} {R0 : Ro} {E : List Ent} {ES : List Ent} {o : Oper} {pc : Bool} {p : Bool} {ops : List Oper} {Q : Exit → Act → World → Prop} {fuel : Nat} {listed : Array Bool} {t : TypeId} {x : Operand} {ad : Addr} {cs : List Value} {dd : TD} {v : Value} {d : Nat} (i : Nat) (hrd : Rd R0 ES ad cs) (h : WA P ops Q ES R0 w0 fuel (listed.setIfInBounds i true) n ((d, pc, v) :: env) R E) (hT : TabOk P T := by exact tab_ok) (hi : ops.toArray[i]? = some o := by exact rfl) (hs : Region.noSelect ops.toArray = true := by kernel_rfl) (hf : Region.free .any ops.toArray listed i = true := by kernel_rfl) (hr : (Region.ready .any ops.toArray listed).contains i = true := by kernel_rfl) (hg : gpc ops env o = some pc := by exact rfl) (hd : o.dst = some d := by exact rfl) (hdn : d < n := by decide) (ho : o.op = .load t x := by exact rfl) (hdt : T.at t = some dd := by exact rfl) (hx : ev env x = some (p, .pointer (some ad)) := by exact rfl) (hp : pc = true → p = true := by exact fun _ => rfl) (hk : dd.k.known = true := by exact rfl) (hv : loadV dd cs = some v := by exact rfl) (hsub : ES.Sublist E := by (repeat (first | exact List.Sublist.refl _ | exact List.nil_sublist _ | apply List.Sublist.cons_cons | apply List.Sublist.cons)); done) (hR : RLe R0 R := by first | exact RLe.refl _ | assumption) : WA P ops Q ES R0 w0 (fuel + 1) listed n env R E := WA.take i hi hs hf hr hg hd hdn (Yl.load1 hT ho hdt hx hp hrd hk hv) hsub hR h
theorem tA {P : Program} {n : Nat} {env : Env} {w0 : World} {R : Ro} {R0 : Ro} {E : List Ent} {ES : List Ent} {o : Oper} {pc : Bool} {p : Bool} {q : Bool} {ops : List Oper} {Q : Exit → Act → World → Prop} {fuel : Nat} {listed : Array Bool} {t t2 : TypeId} {x y : Operand} {a b : Int} {d : Nat} (i : Nat) (h : WA P ops Q ES R0 w0 fuel (listed.setIfInBounds i true) n ((d, pc, .int .i64 (a + b)) :: env) R E) (hi : ops.toArray[i]? = some o := by exact rfl) (hs : Region.noSelect ops.toArray = true := by kernel_rfl) (hf : Region.free .any ops.toArray listed i = true := by kernel_rfl) (hr : (Region.ready .any ops.toArray listed).contains i = true := by kernel_rfl) (hg : gpc ops env o = some pc := by exact rfl) (hd : o.dst = some d := by exact rfl) (hdn : d < n := by decide) (ho : o.op = .binOp .add t x y t2 := by exact rfl) (hx : ev env x = some (p, .int .i64 a) := by exact rfl) (hy : ev env y = some (q, .int .i64 b) := by exact rfl) (hpq : pc = true → (p && q) = true := by exact fun _ => rfl) (hr2 : pc = true → InR (a + b) := by intro _; constructor <;> (try dsimp only) <;> omega) (hsub : ES.Sublist E := by (repeat (first | exact List.Sublist.refl _ | exact List.nil_sublist _ | apply List.Sublist.cons_cons | apply List.Sublist.cons)); done) (hR : RLe R0 R := by first | exact RLe.refl _ | assumption) : WA P ops Q ES R0 w0 (fuel + 1) listed n env R E := WA.take i hi hs hf hr hg hd hdn (Yl.add ho hx hy hpq hr2) hsub hR h
theorem tS {P : Program} {n : Nat} {env : Env} {w0 : World} {R : Ro} {R0 : Ro} {E : List Ent} {ES : List Ent} {o : Oper} {pc : Bool} {p : Bool} {q : Bool} {ops : List Oper} {Q : Exit → Act → World → Prop} {fuel : Nat} {listed : Array Bool} {t t2 : TypeId} {x y : Operand} {a b : Int} {d : Nat} (i : Nat) (h : WA P ops Q ES R0 w0 fuel (listed.setIfInBounds i true) n ((d, pc, .int .i64 (a - b)) :: env) R E) (hi : ops.toArray[i]? = some o := by exact rfl) (hs : Region.noSelect ops.toArray = true := by kernel_rfl) (hf : Region.free .any ops.toArray listed i = true := by kernel_rfl) (hr : (Region.ready .any ops.toArray listed).contains i = true := by kernel_rfl) (hg : gpc ops env o = some pc := by exact rfl) (hd : o.dst = some d := by exact rfl) (hdn : d < n := by decide) (ho : o.op = .binOp .sub t x y t2 := by exact rfl) (hx : ev env x = some (p, .int .i64 a) := by exact rfl) (hy : ev env y = some (q, .int .i64 b) := by exact rfl) (hpq : pc = true → (p && q) = true := by exact fun _ => rfl) (hr2 : pc = true → InR (a - b) := by intro _; constructor <;> (try dsimp only) <;> omega) (hsub : ES.Sublist E := by (repeat (first | exact List.Sublist.refl _ | exact List.nil_sublist _ | apply List.Sublist.cons_cons | apply List.Sublist.cons)); done) (hR : RLe R0 R := by first | exact RLe.refl _ | assumption) : WA P ops Q ES R0 w0 (fuel + 1) listed n env R E := WA.take i hi hs hf hr hg hd hdn (Yl.sub ho hx hy hpq hr2) hsub hR h
theorem yP {P : Program} {T : Tab} {n : Nat} {env : Env} {w0 : World} {R : Ro} {E : List Ent} {o : Oper} {pc : Bool} {q : Bool} {draw : Bool} {ops : List Oper} {rest : List Oper} {Q : Exit → Act → World → Prop} {v : Value} {d : Nat} (h : WG draw P ops Q rest n ((d, pc, v) :: env) w0 R E) (hT : TabOk P T := by exact tab_ok) (hg : gpc ops env o = some pc := by exact rfl) (hd : o.dst = some d := by exact rfl) (hdn : d < n := by decide) (hv : pureV T env o.op = some (q, v) := by exact rfl) (hq : pc = true → q = true := by first | exact fun _ => rfl | exact fun h => h | (intro h; simp_all)) : WG draw P ops Q (o :: rest) n env w0 R E := WG.y hg hd hdn (pureV_ok hT hv hq) h
theorem yL {P : Program} {T : Tab} {n : Nat} {env : Env} {w0 : World} {R : Ro} {E : List Ent} {o : Oper} {pc : Bool} {p : Bool} {draw : Bool} {ops : List Oper} {rest : List Oper} {Q : Exit → Act → World → Prop} {t : TypeId} {x : Operand} {ad : Addr} {cs : List Value} {dd : TD} {v : Value} {d : Nat} (hrd : Rd R E ad cs) (h : WG draw P ops Q rest n ((d, pc, v) :: env) w0 R E) (hT : TabOk P T := by exact tab_ok) (hg : gpc ops env o = some pc := by exact rfl) (hd : o.dst = some d := by exact rfl) (hdn : d < n := by decide) (ho : o.op = .load t x := by exact rfl) (hdt : T.at t = some dd := by exact rfl) (hx : ev env x = some (p, .pointer (some ad)) := by exact rfl) (hp : pc = true → p = true := by exact fun _ => rfl) (hk : dd.k.known = true := by exact rfl) (hv : loadV dd cs = some v := by exact rfl) : WG draw P ops Q (o :: rest) n env w0 R E := WG.y hg hd hdn (Yl.load1 hT ho hdt hx hp hrd hk hv) h
theorem yA {P : Program} {n : Nat} {env : Env} {w0 : World} {R : Ro} {E : List Ent} {o : Oper} {pc : Bool} {p : Bool} {q : Bool} {draw : Bool} {ops : List Oper} {rest : List Oper} {Q : Exit → Act → World → Prop} {t t2 : TypeId} {x y : Operand} {a b : Int} {d : Nat} (h : WG draw P ops Q rest n ((d, pc, .int .i64 (a + b)) :: env) w0 R E) (hg : gpc ops env o = some pc := by exact rfl) (hd : o.dst = some d := by exact rfl) (hdn : d < n := by decide) (ho : o.op = .binOp .add t x y t2 := by exact rfl) (hx : ev env x = some (p, .int .i64 a) := by exact rfl) (hy : ev env y = some (q, .int .i64 b) := by exact rfl) (hpq : pc = true → (p && q) = true := by exact fun _ => rfl) (hr2 : pc = true → InR (a + b) := by intro _; constructor <;> (try dsimp only) <;> omega) : WG draw P ops Q (o :: rest) n env w0 R E := WG.y hg hd hdn (Yl.add ho hx hy hpq hr2) h
theorem yS {P : Program} {n : Nat} {env : Env} {w0 : World} {R : Ro} {E : List Ent} {o : Oper} {pc : Bool} {p : Bool} {q : Bool} {draw : Bool} {ops : List Oper} {rest : List Oper} {Q : Exit → Act → World → Prop} {t t2 : TypeId} {x y : Operand} {a b : Int} {d : Nat} (h : WG draw P ops Q rest n ((d, pc, .int .i64 (a - b)) :: env) w0 R E) (hg : gpc ops env o = some pc := by exact rfl) (hd : o.dst = some d := by exact rfl) (hdn : d < n := by decide) (ho : o.op = .binOp .sub t x y t2 := by exact rfl) (hx : ev env x = some (p, .int .i64 a) := by exact rfl) (hy : ev env y = some (q, .int .i64 b) := by exact rfl) (hpq : pc = true → (p && q) = true := by exact fun _ => rfl) (hr2 : pc = true → InR (a - b) := by intro _; constructor <;> (try dsimp only) <;> omega) : WG draw P ops Q (o :: rest) n env w0 R E := WG.y hg hd hdn (Yl.sub ho hx hy hpq hr2) h
theorem zR {n : Nat} {env : Env} {w0 : World} {R : Ro} {E : List Ent} {draw : Bool} {ops : List Oper} {Q : Exit → Act → World → Prop} {l l' : List Oper} {env' : Env} (m : Nat) (h : runPure tab n m l env = (l', env')) (k : WG draw Tryz.prog ops Q l' n env' w0 R E) : WG draw Tryz.prog ops Q l n env w0 R E := WG.run tab_ok m h k
theorem zE {P : Program} {T : Tab} {n : Nat} {env : Env} {w0 : World} {R : Ro} {E : List Ent} {o : Oper} {ops : List Oper} {rest : List Oper} {Q : Exit → Act → World → Prop} {t : TypeId} {x y : Operand} {b : Nat} {cs : List Value} {v : Value} {dd : TD} (k : Nat) (h : WG false P ops Q rest n env w0 R (E.set k (.blk b (setSeg cs 0 (vcells v))))) (hT : TabOk P T := by exact tab_ok) (hg : o.guard = none := by exact rfl) (hd : o.dst = none := by exact rfl) (ho : o.op = .store t x y := by exact rfl) (hdt : T.at t = some dd := by exact rfl) (hx : ev env x = some (true, .pointer (some ⟨b, 0, none⟩)) := by exact rfl) (hy : ev env y = some (true, v) := by exact rfl) (hE : E[k]? = some (.blk b cs) := by exact rfl) (hl : Nat.beq (vcells v).length dd.size = true := by exact rfl) (hfit : Nat.ble dd.size cs.length = true := by exact rfl) (h1 : cells1 (vcells v) = true := by exact rfl) : WG false P ops Q (o :: rest) n env w0 R E := WL.efN hg hd (Ef.store0 k hT ho hdt hx hy hE hl hfit h1 h)
theorem zCE {P : Program} {T : Tab} {n : Nat} {env : Env} {w0 : World} {R : Ro} {R0 : Ro} {E : List Ent} {ES : List Ent} {o : Oper} {ops : List Oper} {Q : Exit → Act → World → Prop} {fuel : Nat} {listed : Array Bool} {t : TypeId} {x y : Operand} {b : Nat} {cs : List Value} {v : Value} {dd : TD} (i k : Nat) (h : WA P ops Q ES R0 w0 fuel (listed.setIfInBounds i true) n env R (E.set k (.blk b (setSeg cs 0 (vcells v))))) (hT : TabOk P T := by exact tab_ok) (hi : ops.toArray[i]? = some o := by exact rfl) (hr : Region.ready .any ops.toArray listed = [i] := by kernel_rfl) (hg : o.guard = none := by exact rfl) (hd : o.dst = none := by exact rfl) (ho : o.op = .store t x y := by exact rfl) (hdt : T.at t = some dd := by exact rfl) (hx : ev env x = some (true, .pointer (some ⟨b, 0, none⟩)) := by exact rfl) (hy : ev env y = some (true, v) := by exact rfl) (hE : E[k]? = some (.blk b cs) := by exact rfl) (hl : Nat.beq (vcells v).length dd.size = true := by exact rfl) (hfit : Nat.ble dd.size cs.length = true := by exact rfl) (h1 : cells1 (vcells v) = true := by exact rfl) (hR : RLe R0 R := by first | exact RLe.refl _ | assumption) (hsub : ES.Sublist (E.set k (.blk b (setSeg cs 0 (vcells v)))) := by (repeat (first | exact List.Sublist.refl _ | exact List.nil_sublist _ | apply List.Sublist.cons_cons | apply List.Sublist.cons)); done) : WA P ops Q ES R0 w0 (fuel + 1) listed n env R E := WA.effN i hi hr hg hd (Ef.store0 k hT ho hdt hx hy hE hl hfit h1 ⟨hR, hsub, h⟩)
theorem zF {P : Program} {T : Tab} {n : Nat} {env : Env} {w0 : World} {R : Ro} {E : List Ent} {o : Oper} {ops : List Oper} {rest : List Oper} {Q : Exit → Act → World → Prop} {t : TypeId} {x y : Operand} {b off : Nat} {cs : List Value} {v : Value} {dd : TD} (k : Nat) (h : WG false P ops Q rest n env w0 R (E.set k (.blk b (setSeg cs off (vcells v))))) (hT : TabOk P T := by exact tab_ok) (hg : o.guard = none := by exact rfl) (hd : o.dst = none := by exact rfl) (ho : o.op = .store t x y := by exact rfl) (hdt : T.at t = some dd := by exact rfl) (hx : ev env x = some (true, .pointer (some ((⟨b, 0, none⟩ : Addr).add off))) := by exact rfl) (hy : ev env y = some (true, v) := by exact rfl) (hE : E[k]? = some (.blk b cs) := by exact rfl) (hl : Nat.beq (vcells v).length dd.size = true := by exact rfl) (hfit : Nat.ble (off + dd.size) cs.length = true := by exact rfl) (h1 : cells1 (vcells v) = true := by exact rfl) : WG false P ops Q (o :: rest) n env w0 R E := WL.efN hg hd (Ef.store k hT ho hdt hx hy hE hl hfit h1 h)
theorem zCF {P : Program} {T : Tab} {n : Nat} {env : Env} {w0 : World} {R : Ro} {R0 : Ro} {E : List Ent} {ES : List Ent} {o : Oper} {ops : List Oper} {Q : Exit → Act → World → Prop} {fuel : Nat} {listed : Array Bool} {t : TypeId} {x y : Operand} {b off : Nat} {cs : List Value} {v : Value} {dd : TD} (i k : Nat) (h : WA P ops Q ES R0 w0 fuel (listed.setIfInBounds i true) n env R (E.set k (.blk b (setSeg cs off (vcells v))))) (hT : TabOk P T := by exact tab_ok) (hi : ops.toArray[i]? = some o := by exact rfl) (hr : Region.ready .any ops.toArray listed = [i] := by kernel_rfl) (hg : o.guard = none := by exact rfl) (hd : o.dst = none := by exact rfl) (ho : o.op = .store t x y := by exact rfl) (hdt : T.at t = some dd := by exact rfl) (hx : ev env x = some (true, .pointer (some ((⟨b, 0, none⟩ : Addr).add off))) := by exact rfl) (hy : ev env y = some (true, v) := by exact rfl) (hE : E[k]? = some (.blk b cs) := by exact rfl) (hl : Nat.beq (vcells v).length dd.size = true := by exact rfl) (hfit : Nat.ble (off + dd.size) cs.length = true := by exact rfl) (h1 : cells1 (vcells v) = true := by exact rfl) (hR : RLe R0 R := by first | exact RLe.refl _ | assumption) (hsub : ES.Sublist (E.set k (.blk b (setSeg cs off (vcells v)))) := by (repeat (first | exact List.Sublist.refl _ | exact List.nil_sublist _ | apply List.Sublist.cons_cons | apply List.Sublist.cons)); done) : WA P ops Q ES R0 w0 (fuel + 1) listed n env R E := WA.effN i hi hr hg hd (Ef.store k hT ho hdt hx hy hE hl hfit h1 ⟨hR, hsub, h⟩)
theorem lL {P : Program} {T : Tab} {n : Nat} {env : Env} {w0 : World} {R : Ro} {R0 : Ro} {E : List Ent} {ES : List Ent} {o : Oper} {p : Bool} {ops : List Oper} {Q : Exit → Act → World → Prop} {fuel : Nat} {listed : Array Bool} {t : TypeId} {x : Operand} {ad : Addr} {cs : List Value} {dd : TD} {v : Value} {d : Nat} (i : Nat) (hrd : Rd R E ad cs) (h : WA P ops Q ES R0 w0 fuel (listed.setIfInBounds i true) n ((d, true, v) :: env) R E) (hT : TabOk P T := by exact tab_ok) (hi : ops.toArray[i]? = some o := by exact rfl) (hr : Region.ready .any ops.toArray listed = [i] := by kernel_rfl) (hg : o.guard = none := by exact rfl) (hd : o.dst = some d := by exact rfl) (hdn : d < n := by decide) (ho : o.op = .load t x := by exact rfl) (hdt : T.at t = some dd := by exact rfl) (hx : ev env x = some (p, .pointer (some ad)) := by exact rfl) (hp : true = true → p = true := by exact fun _ => rfl) (hk : dd.k.known = true := by exact rfl) (hv : loadV dd cs = some v := by exact rfl) (hsub : ES.Sublist E := by (repeat (first | exact List.Sublist.refl _ | exact List.nil_sublist _ | apply List.Sublist.cons_cons | apply List.Sublist.cons)); done) (hR : RLe R0 R := by first | exact RLe.refl _ | assumption) : WA P ops Q ES R0 w0 (fuel + 1) listed n env R E := WA.yl i hi hr hg hd hdn (Yl.load1 (pc := true) hT ho hdt hx hp hrd hk hv) hsub hR h
theorem sL {P : Program} {T : Tab} {n : Nat} {env : Env} {w0 : World} {R : Ro} {R0 : Ro} {E : List Ent} {ES : List Ent} {o : Oper} {p : Bool} {ops : List Oper} {Q : Exit → Act → World → Prop} {fuel : Nat} {listed : Array Bool} {t : TypeId} {x : Operand} {ad : Addr} {cs : List Value} {dd : TD} {v : Value} {d i : Nat} (hrd : Rd R E ad cs) (h : WA P ops Q ES R0 w0 fuel (listed.setIfInBounds i true) n ((d, true, v) :: env) R E) (hT : TabOk P T := by exact tab_ok) (hi : ops.toArray[i]? = some o := by exact rfl) (hg : o.guard = none := by exact rfl) (hd : o.dst = some d := by exact rfl) (hdn : d < n := by decide) (ho : o.op = .load t x := by exact rfl) (hdt : T.at t = some dd := by exact rfl) (hx : ev env x = some (p, .pointer (some ad)) := by exact rfl) (hp : true = true → p = true := by exact fun _ => rfl) (hk : dd.k.known = true := by exact rfl) (hv : loadV dd cs = some v := by exact rfl) (hsub : ES.Sublist E := by (repeat (first | exact List.Sublist.refl _ | exact List.nil_sublist _ | apply List.Sublist.cons_cons | apply List.Sublist.cons)); done) (hR : RLe R0 R := by first | exact RLe.refl _ | assumption) : WS P ops Q ES R0 w0 fuel listed n env R E i := WS.yl hi hg hd hdn (Yl.load1 (pc := true) hT ho hdt hx hp hrd hk hv) hsub hR h
theorem zQ {P : Program} {n : Nat} {env : Env} {w0 : World} {R : Ro} {E : List Ent} {Q : Exit → Act → World → Prop} {x : Code} {y : Code} (h : W P x (Exit.then (y.wp P Q) Q) n env w0 R E) : W P (.seq x y) Q n env w0 R E := W.seq h
theorem zG {P : Program} {n : Nat} {env : Env} {w0 : World} {R : Ro} {E : List Ent} {Q : Exit → Act → World → Prop}  {id : Nat} {l : List Oper} (h : WG false P l Q l n env w0 R E) : W P (.region id l.toArray false) Q n env w0 R E := W.region id h
theorem zN {P : Program} {n : Nat} {env : Env} {w0 : World} {R : Ro} {E : List Ent} {draw : Bool} {ops : List Oper} {Q : Exit → Act → World → Prop}  (h : WE Q .normal n env w0 R E) : WG draw P ops Q [] n env w0 R E := WG.nil h
theorem zU {P : Program} {n : Nat} {env : Env} {w0 : World} {R : Ro} {E : List Ent} {Q : Exit → Act → World → Prop} {y : Code} (h : W P y Q n env w0 R E) : WE (Exit.then (y.wp P Q) Q) .normal n env w0 R E := WE.nxt h
theorem zB {P : Program} {n : Nat} {env : Env} {w0 : World} {R : Ro} {E : List Ent} {Q : Exit → Act → World → Prop} {x : Code} {id : Nat} (h : W P x (Exit.inBlock id Q) n env w0 R E) : W P (.block id x) Q n env w0 R E := W.block h
theorem zK {P : Program} {n : Nat} {env : Env} {w0 : World} {R : Ro} {E : List Ent} {Q : Exit → Act → World → Prop}  (h : WE Q .normal n env w0 R E) : W P .skip Q n env w0 R E := W.skip h
theorem zT {P : Program} {n : Nat} {env : Env} {w0 : World} {R : Ro} {E : List Ent} {Q : Exit → Act → World → Prop}  (h : WE Q .ret n env w0 R E) : W P .ret Q n env w0 R E := W.ret h
theorem wt {n : Nat} {env : Env} {w0 : World} {R : Ro} {E : List Ent} {Q : Exit → Act → World → Prop} {K : Act → World → Prop} (h : WE Q .ret n env w0 R E) : WE (Exit.then K Q) .ret n env w0 R E := WE.then_ret h
theorem wb {n : Nat} {env : Env} {w0 : World} {R : Ro} {E : List Ent} {Q : Exit → Act → World → Prop}  {id : Nat} (h : WE Q .ret n env w0 R E) : WE (Exit.inBlock id Q) .ret n env w0 R E := WE.blk_ret h
theorem wx {n : Nat} {env : Env} {w0 : World} {R : Ro} {E : List Ent} {Q : Exit → Act → World → Prop} {K : Act → World → Prop} {id : Nat} (h : WE Q (.exit id) n env w0 R E) : WE (Exit.then K Q) (.exit id) n env w0 R E := WE.then_exit h
theorem zY {n : Nat} {env : Env} {w0 : World} {R : Ro} {E : List Ent} {Q : Exit → Act → World → Prop}  {id : Nat} (h : WE Q .normal n env w0 R E) : WE (Exit.inBlock id Q) (.exit id) n env w0 R E := WE.blk_exit h
theorem zX {P : Program} {n : Nat} {env : Env} {w0 : World} {R : Ro} {E : List Ent} {Q : Exit → Act → World → Prop}  {id : Nat} (h : WE Q (.exit id) n env w0 R E) : W P (.exit id) Q n env w0 R E := W.exit h
theorem zL {n : Nat} {env : Env} {w0 : World} {R : Ro} {E : List Ent} {Q : Exit → Act → World → Prop}  {id : Nat} (h : WE Q .normal n env w0 R E) : WE (Exit.inBlock id Q) .normal n env w0 R E := WE.blk id h
theorem fE {P : Program} {f : FuncId} {fn : Func} {c : Code} {args : List Value} {Post : Value → Ro → List Ent → Prop} {w0 : World} {R : Ro} {E : List Ent} (n : Nat) (hf : P.funcs[f]? = some fn) (h : W P c (bodyPost P fn (FnR w0 R Post)) n (argEnv 0 args) w0 R E) (hb : fn.body = some c := by exact rfl) (hn : fn.ntmps = n := by exact rfl) (ha : args.length ≤ n := by exact Nat.le_of_ble_eq_true rfl) (hs : Nat.ble n 99999 = true := by exact rfl) : K.Fn P f args w0 R E Post := Fn.enter hf hb hn ha hs h
theorem zA {P : Program} {T : Tab} {n : Nat} {env : Env} {w0 : World} {R : Ro} {E : List Ent} {o : Oper} {ops : List Oper} {rest : List Oper} {Q : Exit → Act → World → Prop} {d : Nat} {t : TypeId} {dd : TD} (h : ∀ b, WG false P ops Q rest n ((d, true, (.pointer (some ⟨b, 0, none⟩))) :: env) w0 R (.blk b dd.zero :: E)) (hT : TabOk P T := by exact tab_ok) (hg : o.guard = none := by exact rfl) (hd : o.dst = some d := by exact rfl) (hdn : d < n := by decide) (ho : o.op = .alloc t := by exact rfl) (hdt : T.at t = some dd := by exact rfl) : WG false P ops Q (o :: rest) n env w0 R E := WL.ef hg hd hdn (Ef.alloc hT ho hdt h)
theorem zO {P : Program} {n : Nat} {env : Env} {w0 : World} {R : Ro} {E : List Ent} {o : Oper} {ops : List Oper} {rest : List Oper} {Q : Exit → Act → World → Prop} {d : Nat} {t : TypeId} {x : Operand} {v : Value} (h : ∀ b, WG false P ops Q rest n ((d, true, (.pointer (some ⟨b, 0, none⟩))) :: env) w0 R (.blk b (vcells v) :: E)) (hg : o.guard = none := by exact rfl) (hd : o.dst = some d := by exact rfl) (hdn : d < n := by decide) (ho : o.op = .box t x := by exact rfl) (hx : ev env x = some (true, v) := by exact rfl) : WG false P ops Q (o :: rest) n env w0 R E := WL.ef hg hd hdn (Ef.box ho hx h)
theorem yO {P : Program} {n : Nat} {env : Env} {w0 : World} {R : Ro} {E : List Ent} {o : Oper} {pc : Bool} {p : Bool} {q : Bool} {draw : Bool} {ops : List Oper} {rest : List Oper} {Q : Exit → Act → World → Prop} {x y : Operand} {b c : Bool} {d : Nat} (h : WG draw P ops Q rest n ((d, pc, .bool (b || c)) :: env) w0 R E) (hg : gpc ops env o = some pc := by exact rfl) (hd : o.dst = some d := by exact rfl) (hdn : d < n := by decide) (ho : o.op = .pick x (.const (.bool true)) y := by exact rfl) (hx : ev env x = some (p, .bool b) := by exact rfl) (hy : ev env y = some (q, .bool c) := by exact rfl) (hp : pc = true → p = true := by first | exact fun _ => rfl | exact fun h => h | (intro h; simp_all)) (hq : pc = true → b = false → q = true := by intro h1 h2; simp_all <;> omega) : WG draw P ops Q (o :: rest) n env w0 R E := WG.y hg hd hdn (Yl.por ho hx hy hp hq) h
theorem yN {P : Program} {n : Nat} {env : Env} {w0 : World} {R : Ro} {E : List Ent} {o : Oper} {pc : Bool} {p : Bool} {q : Bool} {draw : Bool} {ops : List Oper} {rest : List Oper} {Q : Exit → Act → World → Prop} {x y : Operand} {b c : Bool} {d : Nat} (h : WG draw P ops Q rest n ((d, pc, .bool (b && c)) :: env) w0 R E) (hg : gpc ops env o = some pc := by exact rfl) (hd : o.dst = some d := by exact rfl) (hdn : d < n := by decide) (ho : o.op = .pick x y (.const (.bool false)) := by exact rfl) (hx : ev env x = some (p, .bool b) := by exact rfl) (hy : ev env y = some (q, .bool c) := by exact rfl) (hp : pc = true → p = true := by first | exact fun _ => rfl | exact fun h => h | (intro h; simp_all)) (hq : pc = true → b = true → q = true := by intro h1 h2; simp_all <;> omega) : WG draw P ops Q (o :: rest) n env w0 R E := WG.y hg hd hdn (Yl.pand ho hx hy hp hq) h
theorem yG {P : Program} {T : Tab} {n : Nat} {env : Env} {w0 : World} {R : Ro} {E : List Ent} {o : Oper} {pc : Bool} {p : Bool} {draw : Bool} {ops : List Oper} {rest : List Oper} {Q : Exit → Act → World → Prop} {t : TypeId} {x : Operand} {ad : Addr} {cs : List Value} {dd : TD} {v : Value} {d : Nat} (hrd : True → Rd R E ad cs) (h : WG draw P ops Q rest n ((d, pc, v) :: env) w0 R E) (hT : TabOk P T := by exact tab_ok) (hg : gpc ops env o = some pc := by exact rfl) (hd : o.dst = some d := by exact rfl) (hdn : d < n := by decide) (ho : o.op = .load t x := by exact rfl) (hdt : T.at t = some dd := by exact rfl) (hx : ev env x = some (p, .pointer (some ad)) := by exact rfl) (hp : pc = true → p = true := by first | exact fun _ => rfl | exact fun h => h | (intro h; simp_all)) (hk : dd.k.known = true := by exact rfl) (hv : loadV dd cs = some v := by exact rfl) : WG draw P ops Q (o :: rest) n env w0 R E := WG.y hg hd hdn (Yl.loadG hT ho hdt hx hp hrd hk hv (fun _ => trivial)) h
theorem yR {P : Program} {T : Tab} {n : Nat} {env : Env} {w0 : World} {R : Ro} {E : List Ent} {o : Oper} {pc : Bool} {p : Bool} {draw : Bool} {ops : List Oper} {rest : List Oper} {Q : Exit → Act → World → Prop} {t : TypeId} {x : Operand} {ad : Addr} {cs : List Value} {dd : TD} {v : Value} {d : Nat} (h : WG draw P ops Q rest n ((d, pc, v) :: env) w0 R E) (hT : TabOk P T := by exact tab_ok) (hg : gpc ops env o = some pc := by exact rfl) (hd : o.dst = some d := by exact rfl) (hdn : d < n := by decide) (ho : o.op = .load t x := by exact rfl) (hdt : T.at t = some dd := by exact rfl) (hx : ev env x = some (p, .pointer (some ad)) := by exact rfl) (hp : pc = true → p = true := by exact fun _ => rfl) (hrd : Rd R E ad cs := by (apply RS.rdD; assumption; ((try dsimp only) <;> omega))) (hk : dd.k.known = true := by exact rfl) (hv : loadV dd cs = some v := by exact rfl) : WG draw P ops Q (o :: rest) n env w0 R E := WG.y hg hd hdn (Yl.load1 hT ho hdt hx hp hrd hk hv) h
theorem yD {P : Program} {T : Tab} {n : Nat} {env : Env} {w0 : World} {R : Ro} {E : List Ent} {o : Oper} {pc : Bool} {p : Bool} {draw : Bool} {ops : List Oper} {rest : List Oper} {Q : Exit → Act → World → Prop} {t : TypeId} {x : Operand} {ad : Addr} {cs : List Value} {dd : TD} {v : Value} {d : Nat} (hT : TabOk P T := by exact tab_ok) (hg : gpc ops env o = some pc := by exact rfl) (hd : o.dst = some d := by exact rfl) (hdn : d < n := by decide) (ho : o.op = .load t x := by exact rfl) (hdt : T.at t = some dd := by exact rfl) (hx : ev env x = some (p, .pointer (some ad)) := by exact rfl) (hp : pc = true → p = true := by exact fun _ => rfl) (r : Rd R E ad cs) (hk : dd.k.known = true := by exact rfl) (hv : loadV dd cs = some v := by exact rfl) (k : WG draw P ops Q rest n ((d, pc, v) :: env) w0 R E) : WG draw P ops Q (o :: rest) n env w0 R E := WG.y hg hd hdn (Yl.load1 hT ho hdt hx hp r hk hv) k
theorem tD {P : Program} {T : Tab} {n : Nat} {env : Env} {w0 : World} {R : Ro} {R0 : Ro} {E : List Ent} {ES : List Ent} {o : Oper} {pc : Bool} {p : Bool} {ops : List Oper} {Q : Exit → Act → World → Prop} {fuel : Nat} {listed : Array Bool} {t : TypeId} {x : Operand} {ad : Addr} {cs : List Value} {dd : TD} {v : Value} {d : Nat} (i : Nat) (hT : TabOk P T := by exact tab_ok) (hi : ops.toArray[i]? = some o := by exact rfl) (hs : Region.noSelect ops.toArray = true := by kernel_rfl) (hf : Region.free .any ops.toArray listed i = true := by kernel_rfl) (hr : (Region.ready .any ops.toArray listed).contains i = true := by kernel_rfl) (hg : gpc ops env o = some pc := by exact rfl) (hd : o.dst = some d := by exact rfl) (hdn : d < n := by decide) (ho : o.op = .load t x := by exact rfl) (hdt : T.at t = some dd := by exact rfl) (hx : ev env x = some (p, .pointer (some ad)) := by exact rfl) (hp : pc = true → p = true := by exact fun _ => rfl) (r : Rd R0 ES ad cs) (hk : dd.k.known = true := by exact rfl) (hv : loadV dd cs = some v := by exact rfl) (hsub : ES.Sublist E := by (repeat (first | exact List.Sublist.refl _ | exact List.nil_sublist _ | apply List.Sublist.cons_cons | apply List.Sublist.cons)); done) (hR : RLe R0 R := by first | exact RLe.refl _ | assumption) (k : WA P ops Q ES R0 w0 fuel (listed.setIfInBounds i true) n ((d, pc, v) :: env) R E) : WA P ops Q ES R0 w0 (fuel + 1) listed n env R E := WA.take i hi hs hf hr hg hd hdn (Yl.load1 hT ho hdt hx hp r hk hv) hsub hR k
theorem yJ {P : Program} {T : Tab} {n : Nat} {env : Env} {w0 : World} {R : Ro} {E : List Ent} {o : Oper} {pc : Bool} {p : Bool} {draw : Bool} {ops : List Oper} {rest : List Oper} {Q : Exit → Act → World → Prop} {t : TypeId} {x : Operand} {ad : Addr} {cs : List Value} {dd : TD} {v : Value} {d : Nat} {C : Prop} (hT : TabOk P T := by exact tab_ok) (hg : gpc ops env o = some pc := by exact rfl) (hd : o.dst = some d := by exact rfl) (hdn : d < n := by decide) (ho : o.op = .load t x := by exact rfl) (hdt : T.at t = some dd := by exact rfl) (hx : ev env x = some (p, .pointer (some ad)) := by exact rfl) (hp : pc = true → p = true := by first | exact fun _ => rfl | exact fun h => h | (intro h; simp_all)) (r : C → Rd R E ad cs) (hk : dd.k.known = true := by exact rfl) (hv : loadV dd cs = some v := by exact rfl) (g : pc = true → C := by first | exact fun _ => trivial | (intro hg; (try simp only [zk] at hg); (try dsimp only); omega)) (k : WG draw P ops Q rest n ((d, pc, v) :: env) w0 R E) : WG draw P ops Q (o :: rest) n env w0 R E := WG.y hg hd hdn (Yl.loadG hT ho hdt hx hp r hk hv g) k
theorem yM {P : Program} {T : Tab} {n : Nat} {env : Env} {w0 : World} {R : Ro} {E : List Ent} {o : Oper} {pc : Bool} {p : Bool} {draw : Bool} {ops : List Oper} {rest : List Oper} {Q : Exit → Act → World → Prop} {t : TypeId} {x : Operand} {b off : Nat} {cs : List Value} {dd : TD} {v : Value} {d : Nat} (i : Nat) (h : WG draw P ops Q rest n ((d, pc, v) :: env) w0 R E) (hE : E[i]? = some (.blk b cs) := by exact rfl) (hT : TabOk P T := by exact tab_ok) (hg : gpc ops env o = some pc := by exact rfl) (hd : o.dst = some d := by exact rfl) (hdn : d < n := by decide) (ho : o.op = .load t x := by exact rfl) (hdt : T.at t = some dd := by exact rfl) (hx : ev env x = some (p, .pointer (some ((⟨b, 0, none⟩ : Addr).add off))) := by exact rfl) (hp : pc = true → p = true := by exact fun _ => rfl) (hk : dd.k.known = true := by exact rfl) (hv : loadV dd (cs.drop off) = some v := by exact rfl) : WG draw P ops Q (o :: rest) n env w0 R E := WG.y hg hd hdn (Yl.load1 hT ho hdt hx hp (Rd.add (Rd.blk i hE) off) hk hv) h
theorem yB {P : Program} {T : Tab} {n : Nat} {env : Env} {w0 : World} {R : Ro} {E : List Ent} {o : Oper} {pc : Bool} {p : Bool} {draw : Bool} {ops : List Oper} {rest : List Oper} {Q : Exit → Act → World → Prop} {t : TypeId} {x : Operand} {b : Nat} {cs : List Value} {dd : TD} {v : Value} {d : Nat} (i : Nat) (h : WG draw P ops Q rest n ((d, pc, v) :: env) w0 R E) (hE : E[i]? = some (.blk b cs) := by exact rfl) (hT : TabOk P T := by exact tab_ok) (hg : gpc ops env o = some pc := by exact rfl) (hd : o.dst = some d := by exact rfl) (hdn : d < n := by decide) (ho : o.op = .load t x := by exact rfl) (hdt : T.at t = some dd := by exact rfl) (hx : ev env x = some (p, .pointer (some ⟨b, 0, none⟩)) := by exact rfl) (hp : pc = true → p = true := by exact fun _ => rfl) (hk : dd.k.known = true := by exact rfl) (hv : loadV dd cs = some v := by exact rfl) : WG draw P ops Q (o :: rest) n env w0 R E := WG.y hg hd hdn (Yl.load1 hT ho hdt hx hp (Rd.blk i hE) hk hv) h
theorem yW {P : Program} {T : Tab} {n : Nat} {env : Env} {w0 : World} {R : Ro} {E : List Ent} {o : Oper} {pc : Bool} {q : Bool} {draw : Bool} {ops : List Oper} {rest : List Oper} {Q : Exit → Act → World → Prop} {t : TypeId} {dd : TD} {fs : List (Nat × Nat)} {vs : List (Nat × Value)} {cs : List Value} {d : Nat} (parts : List (Nat × Operand)) (h : WG draw P ops Q rest n ((d, pc, .agg cs.toArray) :: env) w0 R E) (hT : TabOk P T := by exact tab_ok) (hg : gpc ops env o = some pc := by exact rfl) (hd : o.dst = some d := by exact rfl) (hdn : d < n := by decide) (ho : o.op = .build t parts.toArray := by exact rfl) (hdt : T.at t = some dd := by exact rfl) (hk : dd.k = .strct fs := by exact rfl) (hv : evParts env parts = some (q, vs) := by exact rfl) (hq : pc = true → q = true := by exact fun _ => rfl) (hin : fs.all (fun x => Nat.blt 0 x.2) = true := by exact rfl) (hb : buildCells fs dd.zero (vs.map fun x => (x.1, vcells x.2)) = some cs := by exact rfl) : WG draw P ops Q (o :: rest) n env w0 R E := WG.y hg hd hdn (Yl.build hT ho hdt hk hv hq hin hb) h
theorem yI {P : Program} {T : Tab} {n : Nat} {env : Env} {w0 : World} {R : Ro} {E : List Ent} {o : Oper} {pc : Bool} {p : Bool} {q : Bool} {draw : Bool} {ops : List Oper} {rest : List Oper} {Q : Exit → Act → World → Prop} {t e : TypeId} {x y : Operand} {a : Option Addr} {l c : Nat} {i : Nat} {dd d2 : TD} {d : Nat} (h : WG draw P ops Q rest n ((d, pc, .pointer (some (eaddr a d2.size i))) :: env) w0 R E) (hT : TabOk P T := by exact tab_ok) (hg : gpc ops env o = some pc := by exact rfl) (hd : o.dst = some d := by exact rfl) (hdn : d < n := by decide) (ho : o.op = .indexAddr t x y := by exact rfl) (hdt : T.at t = some dd := by exact rfl) (hk : dd.k = .slice e := by exact rfl) (hd2 : T.at e = some d2 := by exact rfl) (hx : ev env x = some (p, .slice a l c) := by exact rfl) (hy : ev env y = some (q, .int .i64 (i : Int)) := by exact rfl) (hpq : pc = true → (p && q) = true := by exact fun _ => rfl) (hii : pc = true → i < l := by intro _; (try dsimp only) <;> omega) (hh : pc = true → HasMem R E a l := by exact qH) : WG draw P ops Q (o :: rest) n env w0 R E := WG.y hg hd hdn (Yl.indexN hT ho hdt hk hd2 hx hy hpq hii hh) h
theorem yX {P : Program} {T : Tab} {n : Nat} {env : Env} {w0 : World} {R : Ro} {E : List Ent} {o : Oper} {pc : Bool} {p : Bool} {q : Bool} {draw : Bool} {ops : List Oper} {rest : List Oper} {Q : Exit → Act → World → Prop} {t e : TypeId} {x y : Operand} {a : Option Addr} {l c : Nat} {i : Int} {dd d2 : TD} {d : Nat} (h : WG draw P ops Q rest n ((d, pc, .pointer (some (eaddr a d2.size i.toNat))) :: env) w0 R E) (hT : TabOk P T := by exact tab_ok) (hg : gpc ops env o = some pc := by exact rfl) (hd : o.dst = some d := by exact rfl) (hdn : d < n := by decide) (ho : o.op = .indexAddr t x y := by exact rfl) (hdt : T.at t = some dd := by exact rfl) (hk : dd.k = .slice e := by exact rfl) (hd2 : T.at e = some d2 := by exact rfl) (hx : ev env x = some (p, .slice a l c) := by exact rfl) (hy : ev env y = some (q, .int .i64 i) := by exact rfl) (hpq : pc = true → (p && q) = true := by exact fun _ => rfl) (hii : pc = true → 0 ≤ i ∧ i < l := by intro _; constructor <;> (try dsimp only) <;> omega) (hh : pc = true → HasMem R E a l := by exact qH) : WG draw P ops Q (o :: rest) n env w0 R E := WG.y hg hd hdn (Yl.index hT ho hdt hk hd2 hx hy hpq hii hh) h
theorem gI {P : Program} {T : Tab} {n : Nat} {env : Env} {w0 : World} {R : Ro} {E : List Ent} {o : Oper} {pc : Bool} {p : Bool} {q : Bool} {draw : Bool} {ops : List Oper} {rest : List Oper} {Q : Exit → Act → World → Prop} {t e : TypeId} {x y : Operand} {a : Option Addr} {l c : Nat} {i : Nat} {dd d2 : TD} {d : Nat} (h : WG draw P ops Q rest n ((d, pc, .pointer (some (eaddr a d2.size i))) :: env) w0 R E) (hT : TabOk P T := by exact tab_ok) (hg : gpc ops env o = some pc := by exact rfl) (hd : o.dst = some d := by exact rfl) (hdn : d < n := by decide) (ho : o.op = .indexAddr t x y := by exact rfl) (hdt : T.at t = some dd := by exact rfl) (hk : dd.k = .slice e := by exact rfl) (hd2 : T.at e = some d2 := by exact rfl) (hx : ev env x = some (p, .slice a l c) := by exact rfl) (hy : ev env y = some (q, .int .i64 (i : Int)) := by exact rfl) (hpq : pc = true → (p && q) = true := by first | exact fun _ => rfl | exact fun h => h | (intro h; simp_all)) (hii : pc = true → i < l := by intro hg; (try simp only [zk] at hg); (try dsimp only) <;> omega) (hh : pc = true → HasMem R E a l := by intro hg; (try simp only [zk] at hg); first | exact qI) : WG draw P ops Q (o :: rest) n env w0 R E := WG.y hg hd hdn (Yl.indexN hT ho hdt hk hd2 hx hy hpq hii hh) h
theorem gX {P : Program} {T : Tab} {n : Nat} {env : Env} {w0 : World} {R : Ro} {E : List Ent} {o : Oper} {pc : Bool} {p : Bool} {q : Bool} {draw : Bool} {ops : List Oper} {rest : List Oper} {Q : Exit → Act → World → Prop} {t e : TypeId} {x y : Operand} {a : Option Addr} {l c : Nat} {i : Int} {dd d2 : TD} {d : Nat} (h : WG draw P ops Q rest n ((d, pc, .pointer (some (eaddr a d2.size i.toNat))) :: env) w0 R E) (hT : TabOk P T := by exact tab_ok) (hg : gpc ops env o = some pc := by exact rfl) (hd : o.dst = some d := by exact rfl) (hdn : d < n := by decide) (ho : o.op = .indexAddr t x y := by exact rfl) (hdt : T.at t = some dd := by exact rfl) (hk : dd.k = .slice e := by exact rfl) (hd2 : T.at e = some d2 := by exact rfl) (hx : ev env x = some (p, .slice a l c) := by exact rfl) (hy : ev env y = some (q, .int .i64 i) := by exact rfl) (hpq : pc = true → (p && q) = true := by first | exact fun _ => rfl | exact fun h => h | (intro h; simp_all)) (hii : pc = true → 0 ≤ i ∧ i < l := by intro hg; (try simp only [zk] at hg); constructor <;> (try dsimp only) <;> omega) (hh : pc = true → HasMem R E a l := by intro hg; (try simp only [zk] at hg); first | exact qI) : WG draw P ops Q (o :: rest) n env w0 R E := WG.y hg hd hdn (Yl.index hT ho hdt hk hd2 hx hy hpq hii hh) h
theorem tI {P : Program} {T : Tab} {n : Nat} {env : Env} {w0 : World} {R : Ro} {R0 : Ro} {E : List Ent} {ES : List Ent} {o : Oper} {pc : Bool} {p : Bool} {q : Bool} {ops : List Oper} {Q : Exit → Act → World → Prop} {fuel : Nat} {listed : Array Bool} {t e : TypeId} {x y : Operand} {a : Option Addr} {l c : Nat} {i : Nat} {dd d2 : TD} {d : Nat} (j : Nat) (h : WA P ops Q ES R0 w0 fuel (listed.setIfInBounds j true) n ((d, pc, .pointer (some (eaddr a d2.size i))) :: env) R E) (hT : TabOk P T := by exact tab_ok) (hi : ops.toArray[j]? = some o := by exact rfl) (hs : Region.noSelect ops.toArray = true := by kernel_rfl) (hf : Region.free .any ops.toArray listed j = true := by kernel_rfl) (hr : (Region.ready .any ops.toArray listed).contains j = true := by kernel_rfl) (hg : gpc ops env o = some pc := by exact rfl) (hd : o.dst = some d := by exact rfl) (hdn : d < n := by decide) (ho : o.op = .indexAddr t x y := by exact rfl) (hdt : T.at t = some dd := by exact rfl) (hk : dd.k = .slice e := by exact rfl) (hd2 : T.at e = some d2 := by exact rfl) (hx : ev env x = some (p, .slice a l c) := by exact rfl) (hy : ev env y = some (q, .int .i64 (i : Int)) := by exact rfl) (hpq : pc = true → (p && q) = true := by exact fun _ => rfl) (hii : pc = true → i < l := by intro _; (try dsimp only) <;> omega) (hh : pc = true → HasMem R0 ES a l := by exact qH) (hsub : ES.Sublist E := by (repeat (first | exact List.Sublist.refl _ | exact List.nil_sublist _ | apply List.Sublist.cons_cons | apply List.Sublist.cons)); done) (hR : RLe R0 R := by first | exact RLe.refl _ | assumption) : WA P ops Q ES R0 w0 (fuel + 1) listed n env R E := WA.take j hi hs hf hr hg hd hdn (Yl.indexN hT ho hdt hk hd2 hx hy hpq hii hh) hsub hR h
theorem tX {P : Program} {T : Tab} {n : Nat} {env : Env} {w0 : World} {R : Ro} {R0 : Ro} {E : List Ent} {ES : List Ent} {o : Oper} {pc : Bool} {p : Bool} {q : Bool} {ops : List Oper} {Q : Exit → Act → World → Prop} {fuel : Nat} {listed : Array Bool} {t e : TypeId} {x y : Operand} {a : Option Addr} {l c : Nat} {i : Int} {dd d2 : TD} {d : Nat} (j : Nat) (h : WA P ops Q ES R0 w0 fuel (listed.setIfInBounds j true) n ((d, pc, .pointer (some (eaddr a d2.size i.toNat))) :: env) R E) (hT : TabOk P T := by exact tab_ok) (hi : ops.toArray[j]? = some o := by exact rfl) (hs : Region.noSelect ops.toArray = true := by kernel_rfl) (hf : Region.free .any ops.toArray listed j = true := by kernel_rfl) (hr : (Region.ready .any ops.toArray listed).contains j = true := by kernel_rfl) (hg : gpc ops env o = some pc := by exact rfl) (hd : o.dst = some d := by exact rfl) (hdn : d < n := by decide) (ho : o.op = .indexAddr t x y := by exact rfl) (hdt : T.at t = some dd := by exact rfl) (hk : dd.k = .slice e := by exact rfl) (hd2 : T.at e = some d2 := by exact rfl) (hx : ev env x = some (p, .slice a l c) := by exact rfl) (hy : ev env y = some (q, .int .i64 i) := by exact rfl) (hpq : pc = true → (p && q) = true := by exact fun _ => rfl) (hii : pc = true → 0 ≤ i ∧ i < l := by intro _; constructor <;> (try dsimp only) <;> omega) (hh : pc = true → HasMem R0 ES a l := by exact qH) (hsub : ES.Sublist E := by (repeat (first | exact List.Sublist.refl _ | exact List.nil_sublist _ | apply List.Sublist.cons_cons | apply List.Sublist.cons)); done) (hR : RLe R0 R := by first | exact RLe.refl _ | assumption) : WA P ops Q ES R0 w0 (fuel + 1) listed n env R E := WA.take j hi hs hf hr hg hd hdn (Yl.index hT ho hdt hk hd2 hx hy hpq hii hh) hsub hR h
theorem yU {P : Program} {n : Nat} {env : Env} {w0 : World} {R : Ro} {E : List Ent} {o : Oper} {pc : Bool} {p : Bool} {q : Bool} {draw : Bool} {ops : List Oper} {rest : List Oper} {Q : Exit → Act → World → Prop} {t t2 : TypeId} {x y : Operand} {a b : Int} {d : Nat} (h : WG draw P ops Q rest n ((d, pc, .int .i64 (a * b)) :: env) w0 R E) (hg : gpc ops env o = some pc := by exact rfl) (hd : o.dst = some d := by exact rfl) (hdn : d < n := by decide) (ho : o.op = .binOp .mul t x y t2 := by exact rfl) (hx : ev env x = some (p, .int .i64 a) := by exact rfl) (hy : ev env y = some (q, .int .i64 b) := by exact rfl) (hpq : pc = true → (p && q) = true := by exact fun _ => rfl) (hr : pc = true → InR (a * b) := by intro _; constructor <;> (try dsimp only) <;> omega) : WG draw P ops Q (o :: rest) n env w0 R E := WG.y hg hd hdn (Yl.mul ho hx hy hpq hr) h
theorem yV {P : Program} {n : Nat} {env : Env} {w0 : World} {R : Ro} {E : List Ent} {o : Oper} {pc : Bool} {p : Bool} {q : Bool} {draw : Bool} {ops : List Oper} {rest : List Oper} {Q : Exit → Act → World → Prop} {t t2 : TypeId} {x y : Operand} {a b : Int} {d : Nat} (h : WG draw P ops Q rest n ((d, pc, .int .i64 (a / b)) :: env) w0 R E) (hg : gpc ops env o = some pc := by exact rfl) (hd : o.dst = some d := by exact rfl) (hdn : d < n := by decide) (ho : o.op = .binOp .quo t x y t2 := by exact rfl) (hx : ev env x = some (p, .int .i64 a) := by exact rfl) (hy : ev env y = some (q, .int .i64 b) := by exact rfl) (hpq : pc = true → (p && q) = true := by exact fun _ => rfl) (hr : pc = true → 0 ≤ a ∧ a ≤ 9223372036854775807 := by intro _; constructor <;> (try dsimp only) <;> omega) (hb0 : pc = true → 0 < b := by intro _; omega) : WG draw P ops Q (o :: rest) n env w0 R E := WG.y hg hd hdn (Yl.quo ho hx hy hpq hr hb0) h
theorem zr1 {P : Program} {T : Tab} {n : Nat} {env : Env} {w0 : World} {R : Ro} {E : List Ent} {fn : Func} {Post : Value → Ro → List Ent → Prop} {rs : List ResultVar} {v : Value} (hp : Post (resVal [v]) R E) (hT : TabOk P T := by exact tab_ok) (hr : fn.results = rs.toArray := by exact rfl) (ha : ResAll T env R E rs [v] := by exact ⟨rfl, trivial⟩) (hds : markOf env = none := by rfl) : WE (bodyPost P fn (FnR w0 R Post)) .ret n env w0 R E := WE.retF hT [v] hr ha (RLe.refl _) hp hds
theorem zq1 {P : Program} {T : Tab} {n : Nat} {env : Env} {w0 : World} {R : Ro} {R0 : Ro} {E : List Ent} {fn : Func} {Post : Value → Ro → List Ent → Prop} {rs : List ResultVar} {v : Value} (hR : RLe R0 R) (hp : Post (resVal [v]) R E) (hT : TabOk P T := by exact tab_ok) (hr : fn.results = rs.toArray := by exact rfl) (ha : ResAll T env R E rs [v] := by exact ⟨rfl, trivial⟩) (hds : markOf env = none := by rfl) : WE (bodyPost P fn (FnR w0 R0 Post)) .ret n env w0 R E := WE.retF hT [v] hr ha hR hp hds
theorem zr2 {P : Program} {T : Tab} {n : Nat} {env : Env} {w0 : World} {R : Ro} {E : List Ent} {fn : Func} {Post : Value → Ro → List Ent → Prop} {rs : List ResultVar} {v u : Value} (hp : Post (resVal [v, u]) R E) (hT : TabOk P T := by exact tab_ok) (hr : fn.results = rs.toArray := by exact rfl) (ha : ResAll T env R E rs [v, u] := by exact ⟨rfl, rfl, trivial⟩) (hds : markOf env = none := by rfl) : WE (bodyPost P fn (FnR w0 R Post)) .ret n env w0 R E := WE.retF hT [v, u] hr ha (RLe.refl _) hp hds
theorem zq2 {P : Program} {T : Tab} {n : Nat} {env : Env} {w0 : World} {R : Ro} {R0 : Ro} {E : List Ent} {fn : Func} {Post : Value → Ro → List Ent → Prop} {rs : List ResultVar} {v u : Value} (hR : RLe R0 R) (hp : Post (resVal [v, u]) R E) (hT : TabOk P T := by exact tab_ok) (hr : fn.results = rs.toArray := by exact rfl) (ha : ResAll T env R E rs [v, u] := by exact ⟨rfl, rfl, trivial⟩) (hds : markOf env = none := by rfl) : WE (bodyPost P fn (FnR w0 R0 Post)) .ret n env w0 R E := WE.retF hT [v, u] hr ha hR hp hds
theorem zr3 {P : Program} {T : Tab} {n : Nat} {env : Env} {w0 : World} {R : Ro} {E : List Ent} {fn : Func} {Post : Value → Ro → List Ent → Prop} {rs : List ResultVar} {v : Value} (hp : Post (resVal [v]) R E) (hT : TabOk P T := by exact tab_ok) (hr : fn.results = rs.toArray := by exact rfl) (ha : ResAll T env R E rs [v] := by exact ⟨⟨_, _, _, rfl, rfl, rfl, qB, rfl⟩, trivial⟩) (hds : markOf env = none := by rfl) : WE (bodyPost P fn (FnR w0 R Post)) .ret n env w0 R E := WE.retF hT [v] hr ha (RLe.refl _) hp hds
theorem zq3 {P : Program} {T : Tab} {n : Nat} {env : Env} {w0 : World} {R : Ro} {R0 : Ro} {E : List Ent} {fn : Func} {Post : Value → Ro → List Ent → Prop} {rs : List ResultVar} {v : Value} (hR : RLe R0 R) (hp : Post (resVal [v]) R E) (hT : TabOk P T := by exact tab_ok) (hr : fn.results = rs.toArray := by exact rfl) (ha : ResAll T env R E rs [v] := by exact ⟨⟨_, _, _, rfl, rfl, rfl, qB, rfl⟩, trivial⟩) (hds : markOf env = none := by rfl) : WE (bodyPost P fn (FnR w0 R0 Post)) .ret n env w0 R E := WE.retF hT [v] hr ha hR hp hds
theorem zr4 {P : Program} {T : Tab} {n : Nat} {env : Env} {w0 : World} {R : Ro} {E : List Ent} {fn : Func} {Post : Value → Ro → List Ent → Prop} {rs : List ResultVar} {v u : Value} (hp : Post (resVal [v, u]) R E) (hT : TabOk P T := by exact tab_ok) (hr : fn.results = rs.toArray := by exact rfl) (ha : ResAll T env R E rs [v, u] := by exact ⟨⟨_, _, _, rfl, rfl, rfl, qB, rfl⟩, rfl, trivial⟩) (hds : markOf env = none := by rfl) : WE (bodyPost P fn (FnR w0 R Post)) .ret n env w0 R E := WE.retF hT [v, u] hr ha (RLe.refl _) hp hds
theorem zq4 {P : Program} {T : Tab} {n : Nat} {env : Env} {w0 : World} {R : Ro} {R0 : Ro} {E : List Ent} {fn : Func} {Post : Value → Ro → List Ent → Prop} {rs : List ResultVar} {v u : Value} (hR : RLe R0 R) (hp : Post (resVal [v, u]) R E) (hT : TabOk P T := by exact tab_ok) (hr : fn.results = rs.toArray := by exact rfl) (ha : ResAll T env R E rs [v, u] := by exact ⟨⟨_, _, _, rfl, rfl, rfl, qB, rfl⟩, rfl, trivial⟩) (hds : markOf env = none := by rfl) : WE (bodyPost P fn (FnR w0 R0 Post)) .ret n env w0 R E := WE.retF hT [v, u] hr ha hR hp hds
theorem cD {P : Program} {n : Nat} {env : Env} {w0 : World} {R : Ro} {E : List Ent} {Q : Exit → Act → World → Prop} {x y : Code} {c : Operand} {b : Prop} [Decidable b] (hc : ev env c = some (true, .bool (decide b))) (ht : b → W P x Q n env w0 R E) (hf : ¬ b → W P y Q n env w0 R E) : W P (.cond c x y) Q n env w0 R E := W.condD hc ht hf
theorem cE {P : Program} {n : Nat} {env : Env} {w0 : World} {R : Ro} {E : List Ent} {Q : Exit → Act → World → Prop} {x y : Code} {c : Operand} {a b : Int} (hc : ev env c = some (true, .bool (a == b))) (ht : a = b → W P x Q n env w0 R E) (hf : a ≠ b → W P y Q n env w0 R E) : W P (.cond c x y) Q n env w0 R E := W.condE hc ht hf
theorem cN {P : Program} {n : Nat} {env : Env} {w0 : World} {R : Ro} {E : List Ent} {Q : Exit → Act → World → Prop} {x y : Code} {c : Operand} {a b : Int} (hc : ev env c = some (true, .bool (a != b))) (ht : a ≠ b → W P x Q n env w0 R E) (hf : a = b → W P y Q n env w0 R E) : W P (.cond c x y) Q n env w0 R E := W.condN hc ht hf
theorem cC {P : Program} {n : Nat} {env : Env} {w0 : World} {R : Ro} {E : List Ent} {Q : Exit → Act → World → Prop} {x y : Code} {c : Operand} {b : Bool} (hc : ev env c = some (true, .bool (b))) (ht : b = true → W P x Q n env w0 R E) (hf : b = false → W P y Q n env w0 R E) : W P (.cond c x y) Q n env w0 R E := W.cond hc ht hf
theorem vP {P : Program} {T : Tab} {n : Nat} {env : Env} {w0 : World} {R : Ro} {R0 : Ro} {E : List Ent} {ES : List Ent} {o : Oper} {pc : Bool} {q : Bool} {ops : List Oper} {Q : Exit → Act → World → Prop} {fuel : Nat} {listed : Array Bool} {ES2 : List Ent} {D : List Nat} {v : Value} {d : Nat} (i : Nat) (h : VA P ops Q ES ES2 D R0 w0 fuel (listed.setIfInBounds i true) n ((d, pc, v) :: env) R E) (hT : TabOk P T := by exact tab_ok) (hi : ops.toArray[i]? = some o := by exact rfl) (hs : Region.noSelect ops.toArray = true := by kernel_rfl) (hf : Region.free .any ops.toArray listed i = true := by kernel_rfl) (hr : (Region.ready .any ops.toArray listed).contains i = true := by kernel_rfl) (hDi : D.contains i = false := by kernel_rfl) (hw : waitsD .any ops.toArray D i = true := by kernel_rfl) (hn : noneD D listed = true := by kernel_rfl) (hg : gpc ops env o = some pc := by exact rfl) (hd : o.dst = some d := by exact rfl) (hdn : d < n := by decide) (hv : pureV T env o.op = some (q, v) := by exact rfl) (hq : pc = true → q = true := by exact fun _ => rfl) (hsub : ES.Sublist E := by (repeat (first | exact List.Sublist.refl _ | exact List.nil_sublist _ | apply List.Sublist.cons_cons | apply List.Sublist.cons)); done) (hR : RLe R0 R := by first | exact RLe.refl _ | assumption) (hs2 : ES2.Sublist E := by (repeat (first | exact List.Sublist.refl _ | exact List.nil_sublist _ | apply List.Sublist.cons_cons | apply List.Sublist.cons)); done) : VA P ops Q ES ES2 D R0 w0 (fuel + 1) listed n env R E := VA.take2 i hi hs hf hr hDi hw hn hg hd hdn (pureV_ok hT hv hq) hsub hR hs2 h
theorem vD {P : Program} {T : Tab} {n : Nat} {env : Env} {w0 : World} {R : Ro} {R0 : Ro} {E : List Ent} {ES : List Ent} {o : Oper} {pc : Bool} {p : Bool} {ops : List Oper} {Q : Exit → Act → World → Prop} {fuel : Nat} {listed : Array Bool} {t : TypeId} {x : Operand} {ad : Addr} {cs : List Value} {dd : TD} {ES2 : List Ent} {D : List Nat} {v : Value} {d : Nat} (i : Nat) (hT : TabOk P T := by exact tab_ok) (hi : ops.toArray[i]? = some o := by exact rfl) (hs : Region.noSelect ops.toArray = true := by kernel_rfl) (hf : Region.free .any ops.toArray listed i = true := by kernel_rfl) (hr : (Region.ready .any ops.toArray listed).contains i = true := by kernel_rfl) (hDi : D.contains i = false := by kernel_rfl) (hw : waitsD .any ops.toArray D i = true := by kernel_rfl) (hn : noneD D listed = true := by kernel_rfl) (hg : gpc ops env o = some pc := by exact rfl) (hd : o.dst = some d := by exact rfl) (hdn : d < n := by decide) (ho : o.op = .load t x := by exact rfl) (hdt : T.at t = some dd := by exact rfl) (hx : ev env x = some (p, .pointer (some ad)) := by exact rfl) (hp : pc = true → p = true := by exact fun _ => rfl) (r : Rd R0 ES2 ad cs) (hk : dd.k.known = true := by exact rfl) (hv : loadV dd cs = some v := by exact rfl) (hsub : ES.Sublist E := by (repeat (first | exact List.Sublist.refl _ | exact List.nil_sublist _ | apply List.Sublist.cons_cons | apply List.Sublist.cons)); done) (hR : RLe R0 R := by first | exact RLe.refl _ | assumption) (hs2 : ES2.Sublist E := by (repeat (first | exact List.Sublist.refl _ | exact List.nil_sublist _ | apply List.Sublist.cons_cons | apply List.Sublist.cons)); done) (k : VA P ops Q ES ES2 D R0 w0 fuel (listed.setIfInBounds i true) n ((d, pc, v) :: env) R E) : VA P ops Q ES ES2 D R0 w0 (fuel + 1) listed n env R E := VA.take2 i hi hs hf hr hDi hw hn hg hd hdn (Yl.load1 hT ho hdt hx hp r hk hv) hsub hR hs2 k
theorem sE {n : Nat} {env : Env} {w0 : World} {R : Ro} {E : List Ent} {ES : List Ent} {Q : Exit → Act → World → Prop} {x : Exit} (h : WE Q x n env w0 R E) (hE : E.Sublist ES := by (repeat (first | exact List.Sublist.refl _ | exact List.nil_sublist _ | apply List.Sublist.cons_cons | apply List.Sublist.cons)); done) : WE Q x n env w0 R ES := WE.subE hE h
theorem qB {P : Prop} (h : P := by first | exact Rd.blk 0 rfl | exact Rd.blk 1 rfl | exact Rd.blk 2 rfl | exact Rd.blk 3 rfl | exact Rd.blk 4 rfl | exact Rd.blk 5 rfl | exact Rd.blk 6 rfl | exact Rd.blk 7 rfl | exact Rd.blk 8 rfl | exact Rd.blk 9 rfl | exact Rd.blk 10 rfl | exact Rd.blk 11 rfl | exact Rd.blk 12 rfl) : P := h
end Go.Proofs.YtaoakchgjgmedaaGreat
set_option maxRecDepth 4000
set_option linter.unusedSimpArgs false
set_option linter.unusedVariables false
namespace Go.Proofs.YtaoakchgjgmedaaGreat
open Go Go.RowKit Go.Proofs.YtaoakchgjgmedaaGreat.K Go.Proofs.YtaoakchgjgmedaaGreat.M
theorem Ints_V {R : Ro} {a b : Option Addr} {ca cb : Nat} {xs ys : List Int} (ha : RS R 1 encI a xs) (hb : RS R 1 encI b ys) :
  FnV Tryz.prog 27 [.slice a xs.length ca, .slice b ys.length cb] R (.bool (decide (xs = ys))) := by
 have hla := ha.len
 have hlb := hb.len
 refine Fn.toV (fun w0 E => ?_)
 refine fE 26 Tryz.func27 ?_
 refine zQ (zG (zR 1 rfl (zN (zU (zQ (zQ (zG (zR 5 rfl (zN (zU ?_))))))))))
 refine cN rfl ?_ ?_ <;> intro hc0
 ·
  refine zQ (zG (zR 1 rfl (zN (zU (zT (wt ?_))))))
  refine zr1 ?_
  exact ⟨congrArg Value.bool (by symm; apply decide_eq_false; rintro rfl; exact hc0 rfl), rfl⟩
 ·
  refine zK (zU (zQ (zQ (zG (zR 1 rfl (zN (zU (zB ?_))))))))
  refine W.loop (β := Nat) (fun k => k ≤ xs.length ∧ ∀ i, i < k → nth xs i = nth ys i) (fun k => [(0, true, .slice a xs.length ca), (1, true, .slice b ys.length cb), (5, true, .int .i64 k)]) (fun _ => R) (fun _ => E) (fun k => xs.length - k) 0 ⟨Nat.zero_le _, fun i hi => absurd hi (Nat.not_lt_zero i)⟩ ⟨rfl, rfl, rfl, rfl⟩ (RLe.refl _) (List.Sublist.refl _) ?_
  intro st hst
  obtain ⟨hk, hpre⟩ := hst
  refine zQ (zQ (zG (zR 4 rfl (zN (zU ?_)))))
  refine cD rfl ?_ ?_ <;> intro hc1
  ·
   refine zK (zU (zQ (zB (zQ ?_))))
   refine W.regionQ _ mixed qK ?_
   refine zR 2 rfl ?_
   refine yI ?_
   refine yD (r := by ((apply RS.rdD; assumption; ((try dsimp only) <;> omega)))) (k := ?_)
   refine zR 2 rfl ?_
   refine yI ?_
   refine yD (r := by ((apply RS.rdD; assumption; ((try dsimp only) <;> omega)))) (k := ?_)
   refine zR 1 rfl (zN (zU ?_))
   refine cN rfl ?_ ?_ <;> intro hc2
   ·
    refine zQ (zG (zR 1 rfl (zN (zU (zT (wb (wt (wt (wb (wt ?_))))))))))
    refine zr1 ?_
    exact ⟨congrArg Value.bool (by symm; apply decide_eq_false; rintro rfl; exact hc2 rfl), rfl⟩
   ·
    refine zK (zL (zU (zG (zR 1 rfl ?_))))
    refine yA ?_
    refine zR 1 rfl (zN ?_)
    refine WE.again (st + 1) ⟨by omega, fun i hi => ?_⟩ qO ⟨rfl, rfl, rfl, rfl⟩ (RLe.refl _) (List.Sublist.refl _)
    rcases Nat.lt_or_ge i st with h | h
    ·exact hpre i h
    ·obtain rfl : i = st := by omega
     exact hc2
  ·
   refine zX ?_
   refine wx (wx (zY (zU (zQ (zG (zR 1 rfl (zN (zU (zT ?_)))))))))
   refine zr1 ?_
   exact ⟨congrArg Value.bool (by symm; apply decide_eq_true; exact nth_ext qO (fun i hi => hpre i qO)), rfl⟩

theorem tmod_gt (x : Int) {n : Int} (h : 0 < n) : -n < x.tmod n := by
 rcases Int.le_total 0 x with h0 | h0
 ·have := Int.tmod_nonneg n h0; omega
 ·have h1 := Int.neg_tmod (a := x) (b := n)
  have h2 := Int.tmod_lt_of_pos (-x) h
  omega
theorem mod_pos {x n : Int} (h : 1 ≤ n) (hc : ¬ x.tmod n < 0) : x.tmod n = x % n := by
 rw [Int.tmod_eq_emod] at hc ⊢
 split at hc
 ·rename_i h1; rw [if_pos h1]; omega
 ·rename_i h1
  rw [if_neg h1]
  have := Int.emod_lt_of_pos x (show 0 < n by omega)
  have h2 : (n.natAbs : Int) = n := by omega
  omega
theorem mod_neg {x n : Int} (h : 1 ≤ n) (hc : x.tmod n < 0) : x.tmod n + n = x % n := by
 rw [Int.tmod_eq_emod] at hc ⊢
 split at hc
 ·rename_i h1
  have := Int.emod_nonneg x (show n ≠ 0 by omega)
  omega
 ·rename_i h1; rw [if_neg h1]
  have h2 : (n.natAbs : Int) = n := by omega
  omega
theorem src_end {b : Nat} {a : Option Addr} {cp : Nat} {xs : List Int} {c : Nat} (h : xs.length ≤ c) : srcE b a cp xs c = srcE b a cp xs (c + 1) := by
 unfold srcE
 rw [show min c xs.length = min (c + 1) xs.length by omega]
theorem src_next {b : Nat} {a : Option Addr} {cp : Nat} {xs : List Int} {c : Nat} (h : c < xs.length) : Ent.blk b [.slice a xs.length cp, .int .i64 (((min c xs.length : Nat) : Int) + 1)] = srcE b a cp xs (c + 1) := by
 unfold srcE
 rw [show ((min c xs.length : Nat) : Int) + 1 = ((min (c + 1) xs.length : Nat) : Int) by omega]
theorem Mod_V {R : Ro} {x n : Int} (hn : InR n) : FnV Tryz.prog 29 [.int .i64 x, .int .i64 n] R (.int .i64 (mod x n)) := by
 refine Fn.toV (fun w0 E => ?_)
 refine fE 16 Tryz.func29 ?_
 refine zQ (zG (zR 1 rfl (zN (zU (zQ (zQ (zG (zR 2 rfl (zN (zU ?_))))))))))
 refine cD rfl ?_ ?_ <;> intro hc0
 ·
  refine zQ (zG (zR 1 rfl (zN (zU (zT (wt ?_))))))
  refine zr1 ?_
  exact ⟨by unfold mod; rw [if_pos hc0]; rfl, rfl⟩
 ·
  refine zK (zU (zQ (zG (zR 2 rfl ?_))))
  refine WG.y rfl rfl qD (Yl.tmod rfl rfl rfl (fun _ => rfl) (by intro _; omega)) ?_
  refine zR 1 rfl (zN (zU (zQ (zQ (zG (zR 2 rfl (zN (zU ?_))))))))
  refine cD rfl ?_ ?_ <;> intro hc1
  ·
   refine zG (zR 2 rfl ?_)
   refine WG.y rfl rfl qD (Yl.add rfl rfl rfl (fun _ => rfl) (by intro _; have h9 := tmod_gt x (show (0 : Int) < n by omega); constructor <;> omega)) ?_
   refine zR 1 rfl (zN (zU (zQ (zG (zR 2 rfl (zN (zU (zT ?_))))))))
   refine zr1 ?_
   refine ⟨congrArg (Value.int .i64) ?_, rfl⟩
   unfold mod; rw [if_neg hc0]; exact mod_neg (by omega) hc1
  ·
   refine zK (zU (zQ (zG (zR 2 rfl (zN (zU (zT ?_)))))))
   refine zr1 ?_
   refine ⟨congrArg (Value.int .i64) ?_, rfl⟩
   unfold mod; rw [if_neg hc0]; exact mod_pos (by omega) hc1
theorem Raw_C {R : Ro} {b : Nat} {a : Option Addr} {cp : Nat} {xs : List Int} {c : Nat} (w0 : World) (ha : RS R 1 encI a xs) : FnAt Tryz.prog 30 [.pointer (some ⟨b, 0, none⟩)] w0 R (srcE b a cp xs c) (RdPost (.int .i64 (nth xs c)) R (srcE b a cp xs (c + 1))) := by
 intro F
 have hla := ha.len
 refine fE 31 Tryz.func30 ?_
 refine zQ (zG (zR 1 rfl (zN (zU (zQ (zQ ?_))))))
 refine W.regionQ _ mixed qK ?_
 refine zR 3 rfl ?_
 refine yM 0 ?_
 refine zR 3 rfl ?_
 refine yM 0 ?_
 refine zR 2 rfl (zN (zU ?_))
 refine cD rfl ?_ ?_ <;> intro hc0
 ·
  refine zQ (zG (zR 1 rfl (zN (zU (zT (wt ?_))))))
  refine zr1 ?_
  exact ⟨_, [], rfl, by rw [nth_out (by omega)]; rfl, rfl, src_end (by omega), rfl⟩
 ·
  refine zK (zU (zQ (zG (zR 3 rfl ?_))))
  refine yM 0 ?_
  refine yA ?_
  refine zR 2 rfl ?_
  refine zF 0 ?_
  refine zN (zU (zQ ?_))
  refine W.regionQ _ mixed qK ?_
  refine zR 3 rfl ?_
  refine yM 0 ?_
  refine zR 3 rfl ?_
  refine yM 0 ?_
  refine yS ?_
  refine yX ?_
  refine yD (r := by ((apply RS.rdD; assumption; ((try dsimp only) <;> omega)))) (k := ?_)
  refine zR 1 rfl (zN (zU (zT ?_)))
  refine zr1 ?_
  exact ⟨_, [], rfl, congrArg (fun i => Value.int .i64 (nth xs i)) (show _ = c by omega), rfl, src_next qO, rfl⟩
theorem N_C {R : Ro} {b : Nat} {a : Option Addr} {cp : Nat} {xs : List Int} {c : Nat} (w0 : World) {n : Int} (ha : RS R 1 encI a xs) (hn : InR n) : FnAt Tryz.prog 13 [.pointer (some ⟨b, 0, none⟩), .int .i64 n] w0 R (srcE b a cp xs c) (RdPost (.int .i64 (mod (nth xs c) n)) R (srcE b a cp xs (c + 1))) := by
 intro F
 refine fE 9 Tryz.func13 ?_
 refine zQ (zG (zR 1 rfl (zN (zU (zQ (zG (zR 1 rfl ?_)))))))
 refine WL.callAt 0 en30 rfl rfl qD (CallOp.mkT rfl rfl rfl rfl) rfl (Raw_C w0 ha _) ?_
 rintro _ _ _ _ - ⟨rfl, rfl, rfl, rfl⟩
 refine zR 1 rfl ?_
 refine WG.callV en29 rfl rfl qD (CallOp.mk' rfl rfl rfl rfl) (fun _ => rfl) (fun hg => Mod_V hn) ?_
 refine zR 1 rfl (zN (zU (zT ?_)))
 refine zr1 ?_
 exact ⟨_, [], rfl, rfl, rfl, rfl, rfl⟩
theorem Pick_C {R : Ro} {b : Nat} {a : Option Addr} {cp : Nat} {xs : List Int} {c : Nat} (w0 : World) {a2 : Option Addr} {c2 : Nat} {ys : List Int} {j : Nat} {F : List Ent} (ha : RS R 1 encI a xs) (hy : F[j]? = some (.sl 3 1 a2 c2 (ys.map encI))) (hne : 0 < ys.length) (hl : ys.length ≤ 1000000) :
  K.Fn Tryz.prog 15 [.pointer (some ⟨b, 0, none⟩), .slice a2 ys.length c2] w0 R (srcE b a cp xs c :: F) (fun v R' E' => ∃ e' N, E' = N ++ e' :: F ∧ RdPost (.int .i64 (nth ys (mod (nth xs c) ys.length).toNat)) R (srcE b a cp xs (c + 1)) v R' e' N) := by
 have hr := mod_range (nth xs c) (show (1 : Int) ≤ ys.length by omega)
 refine fE 12 Tryz.func15 ?_
 refine zQ (zG (zR 1 rfl (zN (zU (zQ (zG (zR 4 rfl ?_)))))))
 refine WL.callAt 0 en13 rfl rfl qD (CallOp.mkT rfl rfl rfl rfl) rfl (N_C w0 ha (by constructor <;> omega) _) ?_
 rintro _ _ _ _ - ⟨rfl, rfl, rfl, rfl⟩
 refine WG.y rfl rfl qD (Yl.index tab_ok rfl rfl rfl rfl rfl rfl (fun _ => rfl) qA (by intro _; first | exact HasMem.ownD (j + 1) hy | exact qI)) ?_
 refine yD (r := by (exact Rd.slD (j + 1) hy qO)) (k := ?_)
 refine zR 1 rfl (zN (zU (zT ?_)))
 refine zr1 ?_
 exact ⟨_, [], rfl, rfl, rfl, rfl, rfl⟩
theorem New_C {R : Ro} {a : Option Addr} {cp : Nat} {l : List Int} (w0 : World) (E : List Ent) (hc : l.length ≤ cp) :
  K.Fn Tryz.prog 6 [.slice a l.length cp] w0 R E (fun v R' E' => ∃ b, v = .pointer (some ⟨b, 0, none⟩) ∧ R = R' ∧ E' = srcE b a cp (l.take 2000) 0 :: E) := by
 refine fE 10 Tryz.func6 ?_
 refine zQ (zG (zR 1 rfl (zN (zU (zQ (zG (zR 4 rfl ?_)))))))
 refine WG.y rfl rfl qD (Yl.sliceH tab_ok rfl rfl rfl rfl rfl (fun _ => rfl) (by intro _; split <;> constructor <;> omega) rfl) ?_
 refine yW [(0, .tmp 7)] ?_
 refine zO fun b9 => ?_
 refine zR 1 rfl (zN (zU (zT ?_)))
 refine zr1 ?_
 refine ⟨_, rfl, rfl, ?_⟩
 unfold srcE
 rw [List.length_take, Nat.min_comm 0, Nat.min_zero]
 have e1 : ((if (2000 : Int) < (l.length : Int) then 2000 else (l.length : Int))).toNat = min 2000 l.length := by split <;> omega
 exact congrArg (fun n => Ent.blk _ [Value.slice a n cp, .int .i64 0] :: E) e1
theorem Pick7_C {R : Ro} {b : Nat} {a : Option Addr} {cp : Nat} {xs : List Int} {c : Nat} (w0 : World) {a2 : Option Addr} {c2 : Nat} {j : Nat} {F : List Ent} (ha : RS R 1 encI a xs) (hy : F[j]? = some (.sl 3 1 a2 c2 ([0, 0, 0, 1, 1, 2, 7].map encI))) :
  K.Fn Tryz.prog 15 [.pointer (some ⟨b, 0, none⟩), .slice a2 7 c2] w0 R (srcE b a cp xs c :: F) (fun v R' E' => ∃ e' N, E' = N ++ e' :: F ∧ RdPost (.int .i64 (pick7 (mod (nth xs c) 7))) R (srcE b a cp xs (c + 1)) v R' e' N) :=
 Pick_C (ys := [0, 0, 0, 1, 1, 2, 7]) w0 ha hy (by decide) (by decide)
theorem Traffic_C {R : Ro} {b : Nat} {a : Option Addr} {cp : Nat} {xs : List Int} {c : Nat} (w0 : World) {n flows most : Int} (ha : RS R 1 encI a xs) (hn : 0 ≤ n ∧ n ≤ 1000) (hf : InR flows) (hm : 1 ≤ most ∧ most ≤ 1000000) (F : List Ent) :
  K.Fn Tryz.prog 10 [.pointer (some ⟨b, 0, none⟩), .int .i64 n, .int .i64 flows, .int .i64 most] w0 R (srcE b a cp xs c :: F) (fun v R' E' => ∃ e' N, E' = N ++ e' :: F ∧
   ∃ a2 c2, v = .slice a2 (traffic xs n flows most c).length c2 ∧ R = R' ∧ e' = srcE b a cp xs (c + 1 + 3 * trafficK xs n c) ∧ N = [.sl 63 3 a2 c2 ((traffic xs n flows most c).map encP)]) := by
 have hr := mod_range (nth xs c) (show (1 : Int) ≤ n + 1 by omega)
 have hK : (trafficK xs n c : Int) = mod (nth xs c) (n + 1) := by unfold trafficK; omega
 refine fE 38 Tryz.func10 ?_
 refine zQ (zG (zR 1 rfl (zN (zU (zQ (zG (zR 1 rfl (zN (zU (zQ (zG (zR 1 rfl (zN (zU (zQ (zQ (zG (zR 2 rfl ?_))))))))))))))))))
 refine yA ?_
 refine WL.callAt 0 en13 rfl rfl qD (CallOp.mkT rfl rfl rfl rfl) rfl (N_C w0 ha (by constructor <;> omega) _) ?_
 rintro _ _ _ _ - ⟨rfl, rfl, rfl, rfl⟩
 refine zR 1 rfl (zN (zU (zB ?_)))
 refine W.nil 63 3 qD ?_
 refine W.loop (β := Nat × Nat × Int × List Pkt × Option Addr × Nat) (fun (k, c1, t, acc, a2, c2) => acc ++ trafficGo xs flows most k c1 t = traffic xs n flows most c ∧ c1 + 3 * k = c + 1 + 3 * trafficK xs n c ∧ 0 ≤ t ∧ t + 7 * k ≤ 7 * trafficK xs n c ∧ acc.length + k = trafficK xs n c) (fun (k, c1, t, acc, a2, c2) => [(0, true, .pointer (some ⟨b, 0, none⟩)), (1, true, .int .i64 n), (2, true, .int .i64 flows), (3, true, .int .i64 most), (9, true, .slice a2 acc.length c2), (10, true, .int .i64 t), (11, true, .int .i64 (k : Int))]) (fun _ => R) (fun (k, c1, t, acc, a2, c2) => .sl 63 3 a2 c2 (acc.map encP) :: srcE b a cp xs c1 :: F) (fun (k, c1, t, acc, a2, c2) => k) ((trafficK xs n c, c + 1, 0, [], none, 0)) (⟨rfl, rfl, Int.le_refl _, by omega, by simp⟩) ⟨rfl, rfl, rfl, rfl, rfl, rfl, vint hK.symm, rfl⟩ (RLe.refl _) qS ?_
 intro st hst
 obtain ⟨k, c1, t, acc, a2, c2⟩ := st
 obtain ⟨h1, h2, h3, h4, h5⟩ := hst
 dsimp only
 refine zQ (zQ (zG (zR 2 rfl (zN (zU ?_)))))
 refine cD rfl ?_ ?_ <;> intro hc0
 ·
  obtain ⟨k, rfl⟩ : ∃ m, k = m + 1 := ⟨k - 1, by omega⟩
  have hr1 := mod_range (nth xs (c1 + 1)) (show (1 : Int) ≤ most by omega)
  have hr2 := pick7_range (mod (nth xs (c1 + 1 + 1)) 7)
  have hr3 := pick7_range (mod (nth xs (c1 + 2)) 7)
  refine zK (zU (zQ (zB (zQ (zG (zR 3 rfl ?_))))))
  refine WL.callAt 1 en13 rfl rfl qD (CallOp.mkT rfl rfl rfl rfl) rfl (N_C w0 ha hf _) ?_
  rintro _ _ _ _ - ⟨rfl, rfl, rfl, rfl⟩
  refine zR 3 rfl ?_
  refine WL.callAt 1 en13 rfl rfl qD (CallOp.mkT rfl rfl rfl rfl) rfl (N_C w0 ha (by constructor <;> omega) _) ?_
  rintro _ _ _ _ - ⟨rfl, rfl, rfl, rfl⟩
  refine yA ?_
  refine yW [(0, .tmp 23), (1, .tmp 24), (2, .tmp 28)] ?_
  refine WL.ef rfl rfl qD (Ef.buildSliceD (enc := encP) (parts := [.tmp 29]) [⟨_, _, _⟩] tab_ok rfl rfl rfl rfl rfl rfl rfl rfl qD qD (fun a30 => ?_))
  refine WL.ef rfl rfl (by decide) (Ef.appendD 1 0 tab_ok rfl rfl rfl rfl rfl rfl rfl rfl rfl rfl rfl (fun _ _ => rfl) (by simp only [List.length_cons, List.length_nil]; omega) (by simp only [List.length_cons, List.length_nil]; omega) (fun a31 c31 ha31 => ?_))
  refine zR 1 rfl (zN (zU (zG (zR 2 rfl ?_))))
  refine WL.ef rfl rfl qD (Ef.buildSliceD (enc := encI) (parts := [.const (.int .i64 0), .const (.int .i64 0), .const (.int .i64 0), .const (.int .i64 1), .const (.int .i64 1), .const (.int .i64 2), .const (.int .i64 7)]) [_, _, _, _, _, _, _] tab_ok rfl rfl rfl rfl rfl rfl rfl rfl qD qD (fun a34 => ?_))
  refine WL.callAt 3 en15 rfl rfl qD (CallOp.mkT rfl rfl rfl rfl) rfl (Pick7_C (j := 0) w0 ha rfl) ?_
  rintro _ _ _ _ - ⟨rfl, rfl, rfl, rfl⟩
  refine yA ?_
  refine zR 1 rfl (zN (zL (zU (zG (zR 1 rfl ?_)))))
  refine yS ?_
  refine zR 1 rfl (zN ?_)
  refine WE.again ((k, c1 + 3, t + pick7 (mod (nth xs (c1 + 2)) 7), acc ++ [⟨mod (nth xs c1) flows, t, 1 + mod (nth xs (c1 + 1)) most⟩], a31, c31)) (⟨by dsimp only; rw [← h1]; simp [trafficGo], by dsimp only; omega, by dsimp only; omega, by dsimp only; omega, by simp; omega⟩) (by (try dsimp only); omega) ⟨rfl, rfl, rfl, rfl, rfl, rfl, vint (by omega), rfl⟩ (RLe.refl _) qS
 ·
  obtain rfl : k = 0 := by omega
  simp only [trafficGo, List.append_nil] at h1
  subst h1
  refine zX ?_
  refine wx (wx (zY (zU (zQ (zG (zR 2 rfl (zN (zU (zT ?_)))))))))
  refine zr1 ?_
  exact ⟨_, [_], rfl, _, _, rfl, rfl, congrArg (srcE b a cp xs) qO, rfl⟩

theorem Validate_V {R : Ro} {a : Option Addr} {c : Nat} {ps : List Pkt} (ha : RS R 3 encP a ps) : FnV Tryz.prog 143 [.slice a ps.length c] R (.int .i64 (validate ps)) := by
 have hla := ha.len
 refine Fn.toV (fun w0 E => ?_)
 refine fE 50 Tryz.func143 ?_
 refine zQ (zG (zR 1 rfl (zN (zU (zQ (zQ (zG (zR 3 rfl (zN (zU ?_))))))))))
 refine cD rfl ?_ ?_ <;> intro hc0
 ·
  refine zQ (zG (zR 1 rfl (zN (zU (zT (wt ?_))))))
  refine sE (E := E) ?_
  refine zr1 ?_
  exact ⟨by unfold validate; rw [if_pos (show 60 < ps.length by omega)]; rfl, rfl⟩
 ·
  refine zK (zU (zQ (zG (zR 1 rfl (zN (zU (zQ (zQ (zG (zR 3 rfl (zN (zU (zB ?_)))))))))))))
  refine W.loop (β := Nat × Int) (fun (k, last) => k ≤ ps.length ∧ valGo last (ps.drop k) = valGo 0 ps) (fun (k, last) => [(0, true, .slice a ps.length c), (3, true, .int .i64 last), (9, true, .slice a ps.length c), (10, true, .int .i64 ps.length), (11, true, .int .i64 (k : Int))]) (fun _ => R) (fun _ => E) (fun (k, last) => ps.length - k) ((0, 0)) (⟨Nat.zero_le _, rfl⟩) ⟨rfl, rfl, rfl, rfl, rfl, rfl⟩ (RLe.refl _) qS ?_
  intro st hst
  obtain ⟨k, last⟩ := st
  obtain ⟨hk, hv⟩ := hst
  dsimp only
  refine zQ (zG (zR 1 rfl (zN (zU (zQ ?_)))))
  refine cD rfl ?_ ?_ <;> intro hc1
  ·
   have hd := drop_nth (xs := ps) (k := k) (by omega)
   rw [hd, valGo] at hv
   refine zK (zU (zQ (zB (zQ (zG ?_)))))
   refine yI ?_
   refine yD (r := by ((apply RS.rdD; assumption; ((try dsimp only) <;> omega)))) (k := ?_)
   refine zA fun b5 => ?_
   refine zE 0 ?_
   refine zN (zU (zQ (zQ (zG (zR 1 rfl ?_)))))
   refine yM 0 ?_
   refine zR 2 rfl ?_
   refine yP ?_
   refine yG (Rd.addC (Rd.blkC 0 rfl) _) ?_
   refine yP ?_
   refine yO ?_
   refine zR 1 rfl ?_
   refine yP ?_
   refine yG (Rd.addC (Rd.blkC 0 rfl) _) ?_
   refine yP ?_
   refine yO ?_
   refine zR 1 rfl ?_
   refine yP ?_
   refine yG (Rd.addC (Rd.blkC 0 rfl) _) ?_
   refine yP ?_
   refine yO ?_
   refine zR 1 rfl ?_
   refine yP ?_
   refine yG (Rd.addC (Rd.blkC 0 rfl) _) ?_
   refine yP ?_
   refine yO ?_
   refine zR 1 rfl ?_
   refine yP ?_
   refine yG (Rd.addC (Rd.blkC 0 rfl) _) ?_
   refine yP ?_
   refine yO ?_
   refine zN (zU ?_)
   refine cC rfl ?_ ?_ <;> intro hc2
   ·try simp only [zk] at hc2
    rw [if_pos (show BadP (nth ps k) by unfold BadP; omega)] at hv
    refine zQ (zG (zR 1 rfl (zN (zU (zT (wt (wb (wt (wt (wb (wt ?_)))))))))))
    refine sE (E := E) ?_
    refine zr1 ?_
    exact ⟨by unfold validate; rw [if_neg (show ¬ 60 < ps.length by omega), ← hv]; rfl, rfl⟩
   ·try simp only [zk] at hc2
    rw [if_neg (show ¬ BadP (nth ps k) by unfold BadP; omega)] at hv
    refine zK (zU (zQ (zQ (zG (zR 1 rfl ?_)))))
    refine yM 0 ?_
    refine zR 2 rfl (zN (zU ?_))
    refine cD rfl ?_ ?_ <;> intro hc3
    ·
     rw [if_pos hc3] at hv
     refine zQ (zG (zR 1 rfl (zN (zU (zT (wt (wb (wt (wt (wb (wt ?_)))))))))))
     refine sE (E := E) ?_
     refine zr1 ?_
     exact ⟨by unfold validate; rw [if_neg (show ¬ 60 < ps.length by omega), ← hv]; rfl, rfl⟩
    ·
     rw [if_neg hc3] at hv
     refine zK (zU (zG (zR 1 rfl ?_)))
     refine yM 0 ?_
     refine zR 1 rfl (zN (zL (zU (zG ?_))))
     refine yA ?_
     refine zR 1 rfl (zN ?_)
     refine WE.again ((k + 1, (nth ps k).time)) (⟨by dsimp only; omega, hv⟩) (by (try dsimp only); omega) ⟨rfl, rfl, rfl, rfl, rfl, rfl⟩ (RLe.refl _) qS
  ·
   obtain rfl : k = ps.length := by omega
   simp only [List.drop_length, valGo] at hv
   refine zX ?_
   refine wx (wx (zY (zU (zQ (zG (zR 1 rfl (zN (zU (zT ?_)))))))))
   refine sE (E := E) ?_
   refine zr1 ?_
   exact ⟨by unfold validate; rw [if_neg (show ¬ 60 < ps.length by omega), ← hv]; rfl, rfl⟩
end Go.Proofs.YtaoakchgjgmedaaGreat