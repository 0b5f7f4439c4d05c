/- Which of two curves grows less, plain. No condition. -/
import Derived.Test.YtcfnckccmkjjlaaRobC
namespace Go.Proofs.Ytcfnckccmkjjlaa.M
open Go Go.Proofs.Ytcfnckccmkjjlaa.K

def lcmN (a b : Nat) : Nat := a / Nat.gcd a b * b
theorem lcmN_facts {a b : Nat} (ha : 0 < a) (hb : 0 < b) : lcmN a b = b / Nat.gcd a b * a ∧ lcmN a b = a / Nat.gcd a b * b ∧ lcmN a b ≤ a * b ∧ 0 < lcmN a b := by
  have hg : 0 < Nat.gcd a b := Nat.gcd_pos_of_pos_right _ hb
  have h1 : Nat.gcd a b ∣ a := Nat.gcd_dvd_left _ _
  have h2 : Nat.gcd a b ∣ b := Nat.gcd_dvd_right _ _
  refine ⟨?_, rfl, Nat.mul_le_mul_right _ (Nat.div_le_self _ _), Nat.mul_pos (Nat.div_pos (Nat.le_of_dvd ha h1) hg) hb⟩
  unfold lcmN
  rw [Nat.div_mul_right_comm h1, Nat.div_mul_right_comm h2, Nat.mul_comm]
theorem grows_le {F G : Nat → Int} {S1 S2 P1 P2 : Nat} {I1 I2 : Int} (hg1 : Grows F S1 P1 I1) (hg2 : Grows G S2 P2 I2) (hle : ∀ t, F t ≤ G t) {l a1 a2 : Nat} (h1 : l = a1 * P1) (h2 : l = a2 * P2) : (a1 : Int) * I1 ≤ (a2 : Int) * I2 := by
  apply Classical.byContradiction
  intro hlt
  have e1 : ∀ x : Nat, F (S1 + S2 + x * l) = F (S1 + S2) + (x : Int) * ((a1 : Int) * I1) := fun x => by
    have := hg1.mul (x * a1) (S1 + S2) (by omega)
    rw [Nat.mul_assoc, ← h1] at this
    rw [this, Int.natCast_mul, Int.mul_assoc]
  have e2 : ∀ x : Nat, G (S1 + S2 + x * l) = G (S1 + S2) + (x : Int) * ((a2 : Int) * I2) := fun x => by
    have := hg2.mul (x * a2) (S1 + S2) (by omega)
    rw [Nat.mul_assoc, ← h2] at this
    rw [this, Int.natCast_mul, Int.mul_assoc]
  have h0 := hle (S1 + S2)
  obtain ⟨x, hx⟩ := Int.eq_ofNat_of_zero_le (show 0 ≤ G (S1 + S2) - F (S1 + S2) + 1 by omega)
  have h3 := hle (S1 + S2 + x * l)
  rw [e1, e2] at h3
  have h4 : (x : Int) * ((a2 : Int) * I2 + 1) ≤ (x : Int) * ((a1 : Int) * I1) := Int.mul_le_mul_of_nonneg_left (by omega) (by omega)
  rw [Int.mul_add] at h4
  omega
theorem grows_lcm {F G : Nat → Int} {S1 S2 P1 P2 : Nat} {I1 I2 : Int} (hP1 : 0 < P1) (hP2 : 0 < P2) (hg1 : Grows F S1 P1 I1) (hg2 : Grows G S2 P2 I2) (hle : ∀ t, F t ≤ G t) :
    I1 * ((lcmN P1 P2 : Int) / (P1 : Int)) ≤ I2 * ((lcmN P1 P2 : Int) / (P2 : Int)) := by
  obtain ⟨h1, h2, _, _⟩ := lcmN_facts hP1 hP2
  have e1 : ((lcmN P1 P2 : Nat) : Int) / (P1 : Int) = ((P2 / Nat.gcd P1 P2 : Nat) : Int) := by
    rw [h1, Int.natCast_mul]; exact Int.mul_ediv_cancel _ (by omega)
  have e2 : ((lcmN P1 P2 : Nat) : Int) / (P2 : Int) = ((P1 / Nat.gcd P1 P2 : Nat) : Int) := by
    rw [h2, Int.natCast_mul]; exact Int.mul_ediv_cancel _ (by omega)
  rw [e1, e2, Int.mul_comm I1, Int.mul_comm I2]
  exact grows_le hg1 hg2 hle h1 h2
theorem valid_facts {F : Nat → Int} {S P : Nat} {I : Int} (hv : validB ⟨fvals F (S + P), P, I⟩ = true) : 1 ≤ P ∧ P ≤ 120 ∧ S + P ≤ 400 ∧ 0 ≤ I ∧ I ≤ 1073741824 := by
  obtain ⟨⟨h1, h2, h3, h4, h5, h6, h7⟩, _⟩ := validB_iff.1 hv
  dsimp only at h1 h2 h3 h4 h5 h6 h7
  rw [fvals_len] at h2
  unfold MAXV at h7
  omega
/-! ### the curve of weighted round robin: greater sums leave less -/
theorem shortN_mono {m m' cn s s' : Nat} (h : m ≤ m') (h1 : shortN m cn = s) (h2 : shortN m' cn = s') : s ≤ s' := by
  rw [shortN_eq] at h1 h2
  rcases findFrom_cases (shortP cn) (120 * cn + 1 - m) m with ⟨i, a1, a2, a3, a4, a5⟩ | ⟨a1, _⟩
  · rcases findFrom_cases (shortP cn) (120 * cn + 1 - m') m' with ⟨j, b1, b2, b3, b4, b5⟩ | ⟨b1, _⟩
    · apply Classical.byContradiction
      intro hh
      have := a5 j (by omega) (by omega)
      rw [this] at b4; cases b4
    · rw [b1] at h2; omega
  · rw [a1] at h1; omega
theorem robinF_less {cap s s' r : Int} (hc : 0 ≤ cap) (hr : 0 < r) (hs : r ≤ s) (hss : s ≤ s') (t : Nat) : robinF cap s' r t ≤ robinF cap s r t := by
  obtain ⟨a1, a2, a3⟩ := leastY_is (robinH_bound hr hs t hc)
  obtain ⟨b1, b2, b3⟩ := leastY_is (robinH_bound hr (show r ≤ s' by omega) t hc)
  unfold robinF
  apply Int.ofNat_le.2
  apply Classical.byContradiction
  intro h
  have h1 := b3 _ (Nat.lt_of_not_le h)
  have h2 : robinH cap s' r t (leastY (robinH cap s r t) (cap * t).toNat) = true := by
    unfold robinH at a2 ⊢
    have h0 := of_decide_eq_true a2
    have hq : 0 ≤ ((leastY (robinH cap s r t) (cap * t).toNat : Nat) : Int) / r + 1 := by
      have := Int.ediv_nonneg (a := ((leastY (robinH cap s r t) (cap * t).toNat : Nat) : Int)) (b := r) (by omega) (by omega)
      omega
    have h3 := Int.mul_le_mul_of_nonneg_right (show s - r ≤ s' - r by omega) hq
    exact decide_eq_true (Int.le_trans h0 (Int.add_le_add_left h3 _))
  rw [h2] at h1; cases h1
/-- the curve that is handed back: values of F, growing as F -/
theorem rob_curve {cap k : Int} {w : List Int} {z : List Sz} (h : (robinC cap k w z).2 = 0) :
    ∃ (cn kn m s p mm : Nat) (r : Int) (p' s' : Nat) (q : Int), RobOk cap k w z cn kn m s p mm r ∧ robinC cap k w z = (⟨fvals (robinF cap s r) (s' + p'), p', q⟩, 0) ∧ Grows (robinF cap s r) s' p' q ∧ validB ⟨fvals (robinF cap s r) (s' + p'), p', q⟩ = true := by
  by_cases h0 : chkW 20 cap k w z = 0
  · by_cases h1 : (nth z k.toNat).least < 1
    · have : robinC cap k w z = (zcv, 5) := by unfold robinC; rw [if_neg (fun h => h h0), if_pos h1]
      rw [this] at h; cases h
    · obtain ⟨cn, kn, m, r, hcap, hk, c1, k1, zl, hwl, hw, hz, hr, r1, hm, m1, hcase⟩ := rob_cases h0 h1
      rcases hcase with ⟨_, hrob⟩ | ⟨s, p, mm, hro, hrob⟩
      · rw [hrob] at h; cases h
      · obtain ⟨hg, hi, hb, hmade⟩ := hro.facts
        have hp := hro.p1
        have hf : ∀ t, t < 0 + p → robinF cap s r t < INF := fun t ht => by have := hb t (by omega); unfold INF; omega
        obtain ⟨p', s', hnf, hp', hs', hm2⟩ := madeR_nf (S := 0) (by omega) hi.1 hg (fun t => robinF_mono (by omega) (by omega) hro.s1.1 t) (hb 0 (by omega)).1 hf
        obtain ⟨p2, s2, hnf2, _, _, hn2⟩ := normR_nf (S := 0) (by omega) hi.1 hg (fun t ht => by have := hf t ht; omega)
        obtain ⟨rfl, rfl⟩ := hnf.unique (by omega) hg hg hnf2
        rw [Nat.zero_add] at hm2 hn2
        have hgr := hnf.starts.1
        have hval : validB (normR ⟨fvals (robinF cap s r) p, p, cap * p / s * r⟩) = true := by
          cases hb : validB (normR ⟨fvals (robinF cap s r) p, p, cap * p / s * r⟩) with
          | true => rfl
          | false =>
            have : madeR ⟨fvals (robinF cap s r) p, p, cap * p / s * r⟩ = (zcv, 3) := if_neg (by simp [hb])
            rw [hrob, hmade, this] at h; cases h
        have hmd : madeR ⟨fvals (robinF cap s r) p, p, cap * p / s * r⟩ = (normR ⟨fvals (robinF cap s r) p, p, cap * p / s * r⟩, 0) := if_pos hval
        refine ⟨cn, kn, m, s, p, mm, r, p', s', _, hro, ?_, hgr, ?_⟩
        · rw [hrob, hmade, hmd, hn2]
        · rw [hn2] at hval; exact hval
  · have : robinC cap k w z = (zcv, chkW 20 cap k w z) := if_pos h0
    rw [this] at h
    exact absurd h h0
theorem rob_mono {cap k : Int} {w w' : List Int} {z z' : List Sz} (h1 : (robinC cap k w z).2 = 0) (h2 : (robinC cap k w' z').2 = 0) (hw0 : nth w k.toNat = nth w' k.toNat) (hz0 : (nth z k.toNat).least = (nth z' k.toNat).least) (hq : qSum k w z w.length ≤ qSum k w' z' w'.length) :
    ∃ (F G : Nat → Int) (S1 P1 S2 P2 : Nat) (I1 I2 : Int), robinC cap k w' z' = (⟨fvals F (S1 + P1), P1, I1⟩, 0) ∧ robinC cap k w z = (⟨fvals G (S2 + P2), P2, I2⟩, 0) ∧ validB ⟨fvals F (S1 + P1), P1, I1⟩ = true ∧ validB ⟨fvals G (S2 + P2), P2, I2⟩ = true ∧ Grows F S1 P1 I1 ∧ Grows G S2 P2 I2 ∧
      (∀ t, t ≤ 20000 → 0 ≤ F t ∧ F t ≤ 1000000000000000) ∧ (∀ t, t ≤ 20000 → 0 ≤ G t ∧ G t ≤ 1000000000000000) ∧ ∀ t, F t ≤ G t := by
  obtain ⟨cn, kn, m, s, p, mm, r, p1, s1, q1, ok, e1, g1, v1⟩ := rob_curve h1
  obtain ⟨cn', kn', m', s', p', mm', r', p2, s2, q2, ok', e2, g2, v2⟩ := rob_curve h2
  have hc := ok.hcap
  have hc' := ok'.hcap
  have hk := ok.hk
  have hk' := ok'.hk
  have hkn : k.toNat = kn := by omega
  have hkn' : k.toNat = kn' := by omega
  have hr : r = r' := by rw [ok.hr, ok'.hr, ← hkn, ← hkn', hw0, hz0]
  subst hr
  obtain rfl : cn = cn' := by omega
  have hmm : m ≤ m' := by have a := ok.hm; have b := ok'.hm; omega
  have hss := shortN_mono hmm ok.hs ok'.hs
  have hr1 := ok.r1
  have hs1 := ok.s1
  have hs1' := ok'.s1
  have hc1 := ok.c1
  have hb : ∀ x : Nat, r ≤ x → ∀ t, t ≤ 20000 → 0 ≤ robinF cap x r t ∧ robinF cap x r t ≤ 1000000000000000 := fun x hx t ht => by
    have a := robinF_bound (cap := cap) (s := (x : Int)) (r := r) (by omega) (by omega) hx t
    have b := mulB (a := cap) (b := (t : Int)) (A := 4000) (B := 20000) (by omega) (by omega)
    omega
  exact ⟨robinF cap s' r, robinF cap s r, s2, p2, s1, p1, q2, q1, e2, e1, v2, v1, g2, g1, hb s' hs1'.1, hb s hs1.1, fun t => robinF_less (by omega) (by omega) hs1.1 (by omega) t⟩
theorem qSum_mono {k : Int} {w w' : List Int} {z z' : List Sz} : ∀ (n : Nat), (∀ i, i < n → (i : Int) ≠ k → nth w i * (nth z i).most ≤ nth w' i * (nth z' i).most) → qSum k w z n ≤ qSum k w' z' n
  | 0, _ => Int.le_refl _
  | n + 1, h => by
    have ih := qSum_mono n (fun i hi => h i (by omega))
    simp only [qSum]
    split
    · rename_i hn; have := h n (by omega) hn; omega
    · omega
end Go.Proofs.Ytcfnckccmkjjlaa.M
