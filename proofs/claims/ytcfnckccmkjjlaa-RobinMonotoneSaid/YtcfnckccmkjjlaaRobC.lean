/- The curve of weighted round robin, plain: it repeats itself, so that the program's and the references' forms are one. No condition. -/
import Derived.Test.YtcfnckccmkjjlaaCurveC
namespace Go.Proofs.Ytcfnckccmkjjlaa.M
open Go Go.Proofs.Ytcfnckccmkjjlaa.K

theorem made_pre {F : Nat → Int} {S P : Nat} {I : Int} (hP : 0 < P ∧ P ≤ 10000) (hS : S ≤ 10000) (hI : 0 ≤ I ∧ I ≤ 2147483648) (hg : Grows F S P I) (hb : ∀ t, t ≤ S + P + P → 0 ≤ F t ∧ F t ≤ 1000000000000) :
    (∀ x ∈ fvals F (S + P), -2305843009213693952 ≤ x ∧ x ≤ 4611686018427387904) ∧
    perR ⟨fvals F (S + P), P, I⟩ (((fvals F (S + P)).length : Int) - P) P = true ∧
    (∀ t : Int, 0 ≤ t → t ≤ ((fvals F (S + P)).length : Int) + P → 0 ≤ atR (fvals F (S + P)) P I t ∧ atR (fvals F (S + P)) P I t ≤ 1000000000000000) ∧
    infL (fvals F (S + P)) = -1 ∧
    ((∀ x ∈ (normR ⟨fvals F (S + P), P, I⟩).vals, -2305843009213693952 ≤ x ∧ x ≤ 4611686018427387904) ∧ InR (normR ⟨fvals F (S + P), P, I⟩).per ∧ InR (normR ⟨fvals F (S + P), P, I⟩).inc) := by
  have hf : ∀ t, t < S + P → F t ≠ INF := fun t ht => by have := hb t (by omega); unfold INF; omega
  have hv : ∀ n, n ≤ S + P → ∀ x ∈ fvals F n, -2305843009213693952 ≤ x ∧ x ≤ 4611686018427387904 := fun n hn => all_of_nth (fun j hj => by
    rw [fvals_len] at hj
    rw [fvals_nth F hj]
    have := hb j (by omega)
    omega)
  refine ⟨hv _ (Nat.le_refl _), (perR_iff hP.1 hI.1 hg hf P).2 (PerOk.self hP.1 hg), fun t h0 h1 => ?_, infL_fvals _ hf, ?_⟩
  · obtain ⟨n, rfl⟩ := Int.eq_ofNat_of_zero_le h0
    rw [fvals_len] at h1
    rw [atR_fvals hP.1 hg hf n]
    have := hb n (by omega)
    omega
  · obtain ⟨p, s, h1, h2, h3, h4⟩ := normR_nf hP.1 hI.1 hg hf
    rw [h4]
    have hp := h1.least.1
    have a1 : 0 ≤ I * (p : Int) := Int.mul_nonneg hI.1 (by omega)
    have a2 : I * (p : Int) ≤ 2147483648 * 10000 := Int.mul_le_mul hI.2 (by omega) (by omega) (by omega)
    have a3 : 0 ≤ I * (p : Int) / (P : Int) := Int.ediv_nonneg a1 (by omega)
    have a4 : I * (p : Int) / (P : Int) ≤ 2147483648 * 10000 := Int.le_trans (Int.ediv_le_self _ a1) a2
    exact ⟨hv _ (by omega), by constructor <;> dsimp only <;> omega, by constructor <;> dsimp only <;> omega⟩

theorem robinH_shift {cap s : Int} {r p m : Nat} (hr : 0 < r) (hm : cap * (p : Int) = (m : Int) * s) (t y : Nat) : robinH cap s r (t + p) (y + m * r) = robinH cap s r t y := by
  unfold robinH
  have e1 : (((y + m * r : Nat) : Int)) / (r : Int) = (y : Int) / (r : Int) + m := by
    rw [Int.natCast_add, Int.natCast_mul]
    exact Int.add_mul_ediv_right _ _ (by omega)
  rw [e1]
  have e2 : (s - (r : Int)) * ((y : Int) / (r : Int) + (m : Int) + 1) = (s - (r : Int)) * ((y : Int) / (r : Int) + 1) + ((m : Int) * s - (m : Int) * (r : Int)) := by
    rw [show (y : Int) / (r : Int) + (m : Int) + 1 = ((y : Int) / (r : Int) + 1) + (m : Int) by omega, Int.mul_add, Int.sub_mul s (r : Int) (m : Int), Int.mul_comm s, Int.mul_comm (r : Int) (m : Int)]
  have e3 : cap * ((t + p : Nat) : Int) = cap * (t : Int) + (m : Int) * s := by rw [Int.natCast_add, Int.mul_add, hm]
  rw [e2, e3, Int.natCast_add, Int.natCast_mul]
  apply decide_eq_decide.2
  generalize (m : Int) * s = a
  generalize (m : Int) * (r : Int) = b
  generalize (s - (r : Int)) * ((y : Int) / (r : Int) + 1) = c
  omega
theorem robinH_low {cap s : Int} {r p m : Nat} (hr : 0 < r) (hs : (r : Int) ≤ s) (hc : 0 ≤ cap) (hm : cap * (p : Int) = (m : Int) * s) {t y : Nat} (hy : y < m * r) : robinH cap s r (t + p) y = false := by
  unfold robinH
  apply decide_eq_false
  have h1 : (y : Int) / (r : Int) + 1 ≤ m := by
    have : y / r < m := Nat.div_lt_of_lt_mul (by rw [Nat.mul_comm]; exact hy)
    have e : (y : Int) / (r : Int) = ((y / r : Nat) : Int) := rfl
    omega
  have h2 : (s - (r : Int)) * ((y : Int) / (r : Int) + 1) ≤ (s - (r : Int)) * (m : Int) := Int.mul_le_mul_of_nonneg_left h1 (by omega)
  have e2 : (s - (r : Int)) * (m : Int) = (m : Int) * s - ((m * r : Nat) : Int) := by rw [Int.sub_mul, Int.mul_comm s, Int.mul_comm (r : Int), Int.natCast_mul]
  have e3 : cap * ((t + p : Nat) : Int) = cap * (t : Int) + (m : Int) * s := by rw [Int.natCast_add, Int.mul_add, hm]
  have h3 : 0 ≤ cap * (t : Int) := Int.mul_nonneg hc (by omega)
  rw [e3]
  rw [e2] at h2
  generalize (m : Int) * s = a at *
  generalize (s - (r : Int)) * ((y : Int) / (r : Int) + 1) = c at *
  omega
theorem robinF_grows {cap s r : Int} {p m : Nat} (hc : 0 ≤ cap) (hr : 0 < r) (hs : r ≤ s) (hm : cap * (p : Int) = (m : Int) * s) : Grows (robinF cap s r) 0 p ((m : Int) * r) := by
  intro t _
  obtain ⟨rn, rfl⟩ := Int.eq_ofNat_of_zero_le (show 0 ≤ r by omega)
  have hrn : 0 < rn := by omega
  obtain ⟨a1, a2, a3⟩ := leastY_is (robinH_bound hr hs t hc)
  unfold robinF
  rw [leastY_eq (robinH_bound hr hs (t + p) hc) (lo := leastY (robinH cap s rn t) (cap * t).toNat + m * rn) (by rw [robinH_shift hrn hm]; exact a2) (fun j hj => ?_)]
  · rw [Int.natCast_add, Int.natCast_mul]
  · by_cases h : j < m * rn
    · exact robinH_low hrn hs hc hm h
    · obtain ⟨y, rfl⟩ : ∃ y, j = y + m * rn := ⟨j - m * rn, by omega⟩
      rw [robinH_shift hrn hm]
      exact a3 y (by omega)
theorem robinH_less {cap s r : Int} (hc : 0 ≤ cap) {t y : Nat} (h : robinH cap s r (t + 1) y = true) : robinH cap s r t y = true := by
  unfold robinH at h ⊢
  have h0 := of_decide_eq_true h
  have h1 : cap * ((t + 1 : Nat) : Int) = cap * (t : Int) + cap := by rw [Int.natCast_add, Int.mul_add]; simp
  rw [h1] at h0
  exact decide_eq_true (by omega)
theorem robinF_mono {cap s r : Int} (hc : 0 ≤ cap) (hr : 0 < r) (hs : r ≤ s) (t : Nat) : robinF cap s r t ≤ robinF cap s r (t + 1) := by
  obtain ⟨a1, a2, a3⟩ := leastY_is (robinH_bound hr hs t hc)
  obtain ⟨b1, b2, b3⟩ := leastY_is (robinH_bound hr hs (t + 1) hc)
  unfold robinF
  apply Int.ofNat_le.2
  apply Classical.byContradiction
  intro h
  have := a3 _ (Nat.lt_of_not_le h)
  rw [robinH_less hc b2] at this
  cases this
theorem robinF_bound {cap s r : Int} (hc : 0 ≤ cap) (hr : 0 < r) (hs : r ≤ s) (t : Nat) : 0 ≤ robinF cap s r t ∧ robinF cap s r t ≤ cap * t := by
  obtain ⟨a1, a2, a3⟩ := leastY_is (robinH_bound hr hs t hc)
  unfold robinF
  have : 0 ≤ cap * (t : Int) := Int.mul_nonneg hc (by omega)
  omega
/-- all of it, for the walks -/
structure RobOk (cap k : Int) (w : List Int) (z : List Sz) (cn kn m s p mm : Nat) (r : Int) : Prop where
  hcap : cap = cn
  hk : k = kn
  c1 : 1 ≤ cn ∧ cn ≤ 4000
  k1 : kn < z.length
  zl : z.length ≤ 6
  wl : w.length = z.length
  hw : ∀ x ∈ w, 1 ≤ x ∧ x ≤ 20
  hz : ∀ s ∈ z, 0 ≤ s.least ∧ s.least ≤ s.most ∧ s.most ≤ 1500
  hr : r = nth w kn * (nth z kn).least
  r1 : 1 ≤ r ∧ r ≤ 30000
  hm : (m : Int) = r + qSum k w z w.length
  m1 : m ≤ 210000
  hs : shortN m cn = s
  s1 : r ≤ s ∧ s ≤ 120 * cn
  hp : p = s / Nat.gcd s cn
  p1 : 1 ≤ p ∧ p ≤ 120
  hmm : (cn : Int) * p = mm * s
  mm1 : mm ≤ 4000
  hinc : (cn : Int) * p / s * r = mm * r
theorem mulB {a b A B : Int} (h1 : 0 ≤ a ∧ a ≤ A) (h2 : 0 ≤ b ∧ b ≤ B) : 0 ≤ a * b ∧ a * b ≤ A * B :=
  ⟨Int.mul_nonneg h1.1 h2.1, Int.mul_le_mul h1.2 h2.2 h2.1 (by omega)⟩
theorem rob_cases {cap k : Int} {w : List Int} {z : List Sz} (h0 : chkW 20 cap k w z = 0) (h1 : ¬ (nth z k.toNat).least < 1) :
    ∃ (cn kn m : Nat) (r : Int), cap = cn ∧ k = kn ∧ (1 ≤ cn ∧ cn ≤ 4000) ∧ kn < z.length ∧ z.length ≤ 6 ∧ w.length = z.length ∧ (∀ x ∈ w, 1 ≤ x ∧ x ≤ 20) ∧ (∀ s ∈ z, 0 ≤ s.least ∧ s.least ≤ s.most ∧ s.most ≤ 1500) ∧
      r = nth w kn * (nth z kn).least ∧ (1 ≤ r ∧ r ≤ 30000) ∧ (m : Int) = r + qSum k w z w.length ∧ m ≤ 210000 ∧
      ((shortN m cn = -1 ∧ robinC cap k w z = (zcv, 3)) ∨ ∃ s p mm, RobOk cap k w z cn kn m s p mm r ∧ robinC cap k w z = mbuild (robinF cap s r) 0 p (cap * p / s * r)) := by
  obtain ⟨c1, c2, k0, k1, zl, wl, hw, hz⟩ := chkW_ok h0
  obtain ⟨cn, rfl⟩ := Int.eq_ofNat_of_zero_le (show 0 ≤ cap by omega)
  obtain ⟨kn, rfl⟩ := Int.eq_ofNat_of_zero_le k0
  have hkn : kn < z.length := by omega
  rw [Int.toNat_natCast] at h1
  have hwk := hw _ (nth_mem (xs := w) (k := kn) (by omega))
  have hzk := hz _ (nth_mem hkn)
  have hr := mulB (a := nth w kn) (b := (nth z kn).least) (A := 20) (B := 1500) (by omega) (by omega)
  have hr1 : 1 ≤ nth w kn * (nth z kn).least := by
    have := Int.mul_le_mul (a := 1) (b := 1) (c := nth w kn) (d := (nth z kn).least) (by omega) (by omega) (by omega) (by omega)
    omega
  have hq := qSum_bound (k := (kn : Int)) hw hz w.length (Nat.le_refl _) (by omega)
  obtain ⟨m, hm⟩ := Int.eq_ofNat_of_zero_le (show 0 ≤ nth w kn * (nth z kn).least + qSum kn w z w.length by omega)
  have hm1 : m ≤ 210000 := by omega
  have hrob : robinC cn kn w z = if shortN m cn = -1 then (zcv, 3) else mbuild (robinF cn (shortN m cn) (nth w kn * (nth z kn).least)) 0 ((shortN m cn).toNat / Nat.gcd (shortN m cn).toNat cn) ((cn : Int) * (((shortN m cn).toNat / Nat.gcd (shortN m cn).toNat cn : Nat) : Int) / shortN m cn * (nth w kn * (nth z kn).least)) := by
    unfold robinC
    rw [if_neg (fun h => h h0), Int.toNat_natCast, if_neg h1]
    dsimp only
    rw [hm, Int.toNat_natCast, Int.toNat_natCast]
  refine ⟨cn, kn, m, nth w kn * (nth z kn).least, rfl, rfl, by omega, hkn, by omega, wl, hw, hz, rfl, ⟨hr1, by omega⟩, hm.symm, hm1, ?_⟩
  rcases shortN_cases m cn with h | ⟨s, e, s1, s2, s3⟩
  · exact .inl ⟨h, by rw [hrob, if_pos h]⟩
  · right
    have hg : 0 < Nat.gcd s cn := Nat.gcd_pos_of_pos_right _ (by omega)
    have hd1 : Nat.gcd s cn ∣ s := Nat.gcd_dvd_left _ _
    have hd2 : Nat.gcd s cn ∣ cn := Nat.gcd_dvd_right _ _
    have hs0 : 0 < s := by omega
    have e1 : cn * (s / Nat.gcd s cn) = cn / Nat.gcd s cn * s := by
      rw [← Nat.mul_div_assoc _ hd1, Nat.div_mul_right_comm hd2]
    have e2 : (cn : Int) * ((s / Nat.gcd s cn : Nat) : Int) = ((cn / Nat.gcd s cn : Nat) : Int) * (s : Int) := by
      rw [← Int.natCast_mul, e1, Int.natCast_mul]
    have e3 : (cn : Int) * ((s / Nat.gcd s cn : Nat) : Int) / (s : Int) = ((cn / Nat.gcd s cn : Nat) : Int) := by
      rw [e2]; exact Int.mul_ediv_cancel _ (by omega)
    refine ⟨s, s / Nat.gcd s cn, cn / Nat.gcd s cn, ?_, ?_⟩
    · exact { hcap := rfl, hk := rfl, c1 := by omega, k1 := hkn, zl := by omega, wl := wl, hw := hw, hz := hz, hr := rfl, r1 := ⟨hr1, by omega⟩, hm := hm.symm, m1 := hm1, hs := e, s1 := ⟨by omega, s2⟩, hp := rfl,
              p1 := ⟨Nat.div_pos (Nat.le_of_dvd hs0 hd1) hg, s3⟩, hmm := e2, mm1 := Nat.le_trans (Nat.div_le_self _ _) (by omega), hinc := by rw [e3] }
    · rw [hrob, e, if_neg (by omega), Int.toNat_natCast]
theorem RobOk.facts {cap k : Int} {w : List Int} {z : List Sz} {cn kn m s p mm : Nat} {r : Int} (h : RobOk cap k w z cn kn m s p mm r) :
    Grows (robinF cap s r) 0 p (cap * p / s * r) ∧ (0 ≤ cap * p / s * r ∧ cap * p / s * r ≤ 120000000) ∧ (∀ t, t ≤ 240 → 0 ≤ robinF cap s r t ∧ robinF cap s r t ≤ 960000) ∧
    mbuild (robinF cap s r) 0 p (cap * p / s * r) = madeR ⟨fvals (robinF cap s r) p, p, cap * p / s * r⟩ := by
  obtain ⟨rfl, rfl, c1, k1, zl, wl, hw, hz, hr, r1, hm, m1, hs, s1, hp, p1, hmm, mm1, hinc⟩ := h
  have hg : Grows (robinF cn s r) 0 p ((cn : Int) * p / s * r) := by rw [hinc]; exact robinF_grows (by omega) (by omega) s1.1 hmm
  have hi : 0 ≤ (cn : Int) * p / s * r ∧ (cn : Int) * p / s * r ≤ 120000000 := by
    rw [hinc]
    have := mulB (a := (mm : Int)) (b := r) (A := 4000) (B := 30000) (by omega) (by omega)
    omega
  have hb : ∀ t : Nat, t ≤ 240 → 0 ≤ robinF cn s r t ∧ robinF cn s r t ≤ 960000 := fun t ht => by
    have h1 := robinF_bound (cap := (cn : Int)) (s := (s : Int)) (r := r) (by omega) (by omega) s1.1 t
    have h2 := mulB (a := (cn : Int)) (b := (t : Int)) (A := 4000) (B := 240) (by omega) (by omega)
    omega
  refine ⟨hg, hi, hb, ?_⟩
  have hf : ∀ t, t < 0 + p → robinF cn s r t < INF := fun t ht => by have := hb t (by omega); unfold INF; omega
  rw [mbuild_fin (fun t ht => by have := hf t ht; omega), build_made (S' := 0) (by omega) hi.1 hg hg (fun t => robinF_mono (by omega) (by omega) s1.1 t) (hb 0 (by omega)).1 hf hf]
  simp only [Nat.zero_add]
end Go.Proofs.Ytcfnckccmkjjlaa.M
