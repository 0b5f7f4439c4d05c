/- Rules and walks, joined from 34 texts: the first of them says: The curve of weighted round robin, plain: it repeats itself, so that the program's and the references' forms are one. No condition. -/
import Derived.Test.YtnaeefefggmomaaG3
import Derived.WalkSpells
/- The curve of weighted round robin, plain: it repeats itself, so that the program's and the references' forms are one. No condition. -/
namespace Go.Proofs.Ytnaeefefggmomaa.M
open Go Go.Proofs.Ytnaeefefggmomaa.K

theorem robinH_shift {cap s : Int} {r p m : Nat} (hr : 0 < r) (hm : cap * (p : Int) = (m : Int) * s) (t y : Nat) : robinH cap s r (t + p) (y + m * r) = robinH cap s r t y := by
  unfold robinH
  have e1 : (((y + m * r : Nat) : Int)) / (r : Int) = (y : Int) / (r : Int) + m := by
    rw [Int.natCast_add, Int.natCast_mul]
    exact Int.add_mul_ediv_right _ _ (by omega)
  rw [e1]
  have e2 : (s - (r : Int)) * ((y : Int) / (r : Int) + (m : Int) + 1) = (s - (r : Int)) * ((y : Int) / (r : Int) + 1) + ((m : Int) * s - (m : Int) * (r : Int)) := by
    rw [show (y : Int) / (r : Int) + (m : Int) + 1 = ((y : Int) / (r : Int) + 1) + (m : Int) by omega, Int.mul_add, Int.sub_mul s (r : Int) (m : Int), Int.mul_comm s, Int.mul_comm (r : Int) (m : Int)]
  have e3 : cap * ((t + p : Nat) : Int) = cap * (t : Int) + (m : Int) * s := by rw [Int.natCast_add, Int.mul_add, hm]
  rw [e2, e3, Int.natCast_add, Int.natCast_mul]
  apply decide_eq_decide.2
  generalize (m : Int) * s = a
  generalize (m : Int) * (r : Int) = b
  generalize (s - (r : Int)) * ((y : Int) / (r : Int) + 1) = c
  omega
theorem robinH_low {cap s : Int} {r p m : Nat} (hr : 0 < r) (hs : (r : Int) ≤ s) (hc : 0 ≤ cap) (hm : cap * (p : Int) = (m : Int) * s) {t y : Nat} (hy : y < m * r) : robinH cap s r (t + p) y = false := by
  unfold robinH
  apply decide_eq_false
  have h1 : (y : Int) / (r : Int) + 1 ≤ m := by
    have : y / r < m := Nat.div_lt_of_lt_mul (by rw [Nat.mul_comm]; exact hy)
    have e : (y : Int) / (r : Int) = ((y / r : Nat) : Int) := rfl
    omega
  have h2 : (s - (r : Int)) * ((y : Int) / (r : Int) + 1) ≤ (s - (r : Int)) * (m : Int) := Int.mul_le_mul_of_nonneg_left h1 (by omega)
  have e2 : (s - (r : Int)) * (m : Int) = (m : Int) * s - ((m * r : Nat) : Int) := by rw [Int.sub_mul, Int.mul_comm s, Int.mul_comm (r : Int), Int.natCast_mul]
  have e3 : cap * ((t + p : Nat) : Int) = cap * (t : Int) + (m : Int) * s := by rw [Int.natCast_add, Int.mul_add, hm]
  have h3 : 0 ≤ cap * (t : Int) := Int.mul_nonneg hc (by omega)
  rw [e3]
  rw [e2] at h2
  generalize (m : Int) * s = a at *
  generalize (s - (r : Int)) * ((y : Int) / (r : Int) + 1) = c at *
  omega
theorem robinF_grows {cap s r : Int} {p m : Nat} (hc : 0 ≤ cap) (hr : 0 < r) (hs : r ≤ s) (hm : cap * (p : Int) = (m : Int) * s) : Grows (robinF cap s r) 0 p ((m : Int) * r) := by
  intro t _
  obtain ⟨rn, rfl⟩ := Int.eq_ofNat_of_zero_le (show 0 ≤ r by omega)
  have hrn : 0 < rn := by omega
  obtain ⟨a1, a2, a3⟩ := leastY_is (robinH_bound hr hs t hc)
  unfold robinF
  rw [leastY_eq (robinH_bound hr hs (t + p) hc) (lo := leastY (robinH cap s rn t) (cap * t).toNat + m * rn) (by rw [robinH_shift hrn hm]; exact a2) (fun j hj => ?_)]
  · rw [Int.natCast_add, Int.natCast_mul]
  · by_cases h : j < m * rn
    · exact robinH_low hrn hs hc hm h
    · obtain ⟨y, rfl⟩ : ∃ y, j = y + m * rn := ⟨j - m * rn, by omega⟩
      rw [robinH_shift hrn hm]
      exact a3 y (by omega)
theorem robinH_less {cap s r : Int} (hc : 0 ≤ cap) {t y : Nat} (h : robinH cap s r (t + 1) y = true) : robinH cap s r t y = true := by
  unfold robinH at h ⊢
  have h0 := of_decide_eq_true h
  have h1 : cap * ((t + 1 : Nat) : Int) = cap * (t : Int) + cap := by rw [Int.natCast_add, Int.mul_add]; simp
  rw [h1] at h0
  exact decide_eq_true (by omega)
theorem robinF_mono {cap s r : Int} (hc : 0 ≤ cap) (hr : 0 < r) (hs : r ≤ s) (t : Nat) : robinF cap s r t ≤ robinF cap s r (t + 1) := by
  obtain ⟨a1, a2, a3⟩ := leastY_is (robinH_bound hr hs t hc)
  obtain ⟨b1, b2, b3⟩ := leastY_is (robinH_bound hr hs (t + 1) hc)
  unfold robinF
  apply Int.ofNat_le.2
  apply Classical.byContradiction
  intro h
  have := a3 _ (Nat.lt_of_not_le h)
  rw [robinH_less hc b2] at this
  cases this
theorem robinF_bound {cap s r : Int} (hc : 0 ≤ cap) (hr : 0 < r) (hs : r ≤ s) (t : Nat) : 0 ≤ robinF cap s r t ∧ robinF cap s r t ≤ cap * t := by
  obtain ⟨a1, a2, a3⟩ := leastY_is (robinH_bound hr hs t hc)
  unfold robinF
  have : 0 ≤ cap * (t : Int) := Int.mul_nonneg hc (by omega)
  omega
/-- all of it, for the walks -/
structure RobOk (cap k : Int) (w : List Int) (z : List Sz) (cn kn m s p mm : Nat) (r : Int) : Prop where
  hcap : cap = cn
  hk : k = kn
  c1 : 1 ≤ cn ∧ cn ≤ 4000
  k1 : kn < z.length
  zl : z.length ≤ 6
  wl : w.length = z.length
  hw : ∀ x ∈ w, 1 ≤ x ∧ x ≤ 20
  hz : ∀ s ∈ z, 0 ≤ s.least ∧ s.least ≤ s.most ∧ s.most ≤ 1500
  hr : r = nth w kn * (nth z kn).least
  r1 : 1 ≤ r ∧ r ≤ 30000
  hm : (m : Int) = r + qSum k w z w.length
  m1 : m ≤ 210000
  hs : shortN m cn = s
  s1 : r ≤ s ∧ s ≤ 120 * cn
  hp : p = s / Nat.gcd s cn
  p1 : 1 ≤ p ∧ p ≤ 120
  hmm : (cn : Int) * p = mm * s
  mm1 : mm ≤ 4000
  hinc : (cn : Int) * p / s * r = mm * r
theorem mulB {a b A B : Int} (h1 : 0 ≤ a ∧ a ≤ A) (h2 : 0 ≤ b ∧ b ≤ B) : 0 ≤ a * b ∧ a * b ≤ A * B :=
  ⟨Int.mul_nonneg h1.1 h2.1, Int.mul_le_mul h1.2 h2.2 h2.1 (by omega)⟩
theorem RobOk.facts {cap k : Int} {w : List Int} {z : List Sz} {cn kn m s p mm : Nat} {r : Int} (h : RobOk cap k w z cn kn m s p mm r) :
    Grows (robinF cap s r) 0 p (cap * p / s * r) ∧ (0 ≤ cap * p / s * r ∧ cap * p / s * r ≤ 120000000) ∧ (∀ t, t ≤ 240 → 0 ≤ robinF cap s r t ∧ robinF cap s r t ≤ 960000) ∧
    mbuild (robinF cap s r) 0 p (cap * p / s * r) = madeR ⟨fvals (robinF cap s r) p, p, cap * p / s * r⟩ := by
  obtain ⟨rfl, rfl, c1, k1, zl, wl, hw, hz, hr, r1, hm, m1, hs, s1, hp, p1, hmm, mm1, hinc⟩ := h
  have hg : Grows (robinF cn s r) 0 p ((cn : Int) * p / s * r) := by rw [hinc]; exact robinF_grows (by omega) (by omega) s1.1 hmm
  have hi : 0 ≤ (cn : Int) * p / s * r ∧ (cn : Int) * p / s * r ≤ 120000000 := by
    rw [hinc]
    have := mulB (a := (mm : Int)) (b := r) (A := 4000) (B := 30000) (by omega) (by omega)
    omega
  have hb : ∀ t : Nat, t ≤ 240 → 0 ≤ robinF cn s r t ∧ robinF cn s r t ≤ 960000 := fun t ht => by
    have h1 := robinF_bound (cap := (cn : Int)) (s := (s : Int)) (r := r) (by omega) (by omega) s1.1 t
    have h2 := mulB (a := (cn : Int)) (b := (t : Int)) (A := 4000) (B := 240) (by omega) (by omega)
    omega
  refine ⟨hg, hi, hb, ?_⟩
  have hf : ∀ t, t < 0 + p → robinF cn s r t < INF := fun t ht => by have := hb t (by omega); unfold INF; omega
  rw [mbuild_fin (fun t ht => by have := hf t ht; omega), build_made (S' := 0) (by omega) hi.1 hg hg (fun t => robinF_mono (by omega) (by omega) s1.1 t) (hb 0 (by omega)).1 hf hf]
  simp only [Nat.zero_add]
end Go.Proofs.Ytnaeefefggmomaa.M

/- Chapter 19: the choice of weighted round robin. No condition. -/
set_option linter.unusedSimpArgs false
set_option linter.unusedVariables false
namespace Go.Proofs.Ytnaeefefggmomaa
open Go Go.RowKit Go.Proofs.Ytnaeefefggmomaa.K Go.Proofs.Ytnaeefefggmomaa.M

theorem Next_C {R : Ro} {sb : Nat} {pa : Option Addr} {pc bg : Nat} {ps : List Pkt} {ms : MS} (w0 : World) (hp : RS R 3 encP pa ps) (hb : ms.begun.length = ps.length) (hgd : goodB ps ms) (hsort : ps.Pairwise fun a b => a.time ≤ b.time) (cls : Int) (F : List Ent) :
    K.Fn Try.prog 94 [.pointer (some ⟨sb, 0, none⟩), .int .i64 cls] w0 R (stE sb pa ps.length pc bg ms :: .sl 4 1 (some ⟨bg, 0, none⟩) ps.length (ms.begun.map encB) :: F) (fun v R' E' => v = .int .i64 (nextW ps ms cls) ∧ R = R' ∧ E' = stE sb pa ps.length pc bg { ms with before := skipTo ms.begun ms.before } :: .sl 4 1 (some ⟨bg, 0, none⟩) ps.length (ms.begun.map encB) :: F) := by
  have hla := hp.len
  have hsk := hgd.skip hb
  have hfl := firstR_lt ps ms
  refine Fn.enter (n := 54) Try.func94 rfl rfl (Nat.le_of_ble_eq_true rfl) rfl ?_
  refine W.seq ?_
  refine W.region _ ?_
  refine WG.run tab_ok 1 rfl ?_
  refine WG.nil ?_
  refine WE.nxt ?_
  refine W.seq ?_
  refine W.seq ?_
  refine W.region _ ?_
  refine WG.run tab_ok 1 rfl ?_
  refine WL.call en111 rfl rfl (by decide) (CallOp.mkT rfl rfl rfl rfl) (First_C w0 hp hb hgd.1 _) ?_
  rintro _ _ _ - ⟨rfl, rfl, rfl⟩
  refine WG.run tab_ok 2 rfl ?_
  refine WG.nil ?_
  refine WE.nxt ?_
  refine W.block ?_
  refine W.loop (β := Nat) (fun i => i ≤ ps.length ∧ ∀ j, j < i → nextP ps ms cls j = false) (fun i => [(0, true, .pointer (some ⟨sb, 0, none⟩)), (1, true, .int .i64 cls), (5, true, .int .i64 (i : Int))]) (fun _ => R) (fun _ => stE sb pa ps.length pc bg { ms with before := skipTo ms.begun ms.before } :: .sl 4 1 (some ⟨bg, 0, none⟩) ps.length (ms.begun.map encB) :: F) (fun i => ps.length - i) ((if 0 < firstR ps ms then firstR ps ms else 0).toNat) (⟨by split <;> omega, fun j hj => by
    have h1 : 0 < firstR ps ms := by
      apply Classical.byContradiction
      intro h; rw [if_neg h] at hj; simp at hj
    rw [if_pos h1] at hj
    have h2 := (firstR_some hgd hb (by omega)).2.2.2 j hj
    unfold nextP; rw [h2]; simp⟩) ⟨rfl, rfl, vint (by split <;> omega), rfl⟩ (RLe.refl _) (by (repeat (first | exact List.Sublist.refl _ | exact List.nil_sublist _ | apply List.Sublist.cons_cons | apply List.Sublist.cons)); done) ?_
  intro i hst
  obtain ⟨hi, hno⟩ := hst
  refine W.seq ?_
  refine W.seq ?_
  refine W.regionQ _ mixed (by kernel_rfl) ?_
  refine WG.run tab_ok 4 rfl ?_
  refine' WG.y rfl rfl (by decide) (Yl.load1 tab_ok rfl rfl rfl (fun _ => rfl) ?r1 rfl ?h1) ?_
  case r1 => apply Rd.add; (first | exact Rd.blk 0 rfl | exact Rd.blk 1 rfl | exact Rd.blk 2 rfl | (apply RS.rdD; assumption; ((try dsimp only) <;> omega)) | exact Rd.slD 0 rfl (by (try dsimp only) <;> omega) | exact Rd.slD 1 rfl (by (try dsimp only) <;> omega) | exact Rd.slD 2 rfl (by (try dsimp only) <;> omega))
  case h1 => rfl
  refine WG.run tab_ok 3 rfl ?_
  refine WG.y rfl rfl (by decide) (pureV_ok tab_ok rfl (by first | exact fun _ => rfl | exact fun h => h | (intro h; simp_all))) ?_
  refine WG.y rfl rfl (by decide) (pureV_ok tab_ok rfl (by first | exact fun _ => rfl | exact fun h => h | (intro h; simp_all))) ?_
  refine WG.y rfl rfl (by decide) (pureV_ok tab_ok rfl (by first | exact fun _ => rfl | exact fun h => h | (intro h; simp_all))) ?_
  refine' WG.y rfl rfl (by decide) (Yl.loadG tab_ok rfl rfl rfl (by first | exact fun _ => rfl | exact fun h => h | (intro h; simp_all)) ?r2 rfl ?h2 ?g2) ?_
  case r2 => apply Rd.addC; (first | exact Rd.blkC 0 rfl | exact Rd.blkC 1 rfl | exact Rd.blkC 2 rfl | (apply RS.rdC; assumption) | exact Rd.slC 0 rfl | exact Rd.slC 1 rfl | exact Rd.slC 2 rfl)
  case h2 => rfl
  case g2 => first | exact fun _ => trivial | (intro hg; (try simp only [decide_eq_true_eq, decide_eq_false_iff_not, beq_iff_eq, bne_iff_ne, beq_eq_false_iff_ne, bne_eq_false_iff_eq, ne_eq, Bool.or_eq_true, Bool.or_eq_false_iff, Bool.and_eq_true, Bool.and_eq_false_imp, Bool.not_eq_true, Bool.not_eq_true', Bool.not_eq_false', Classical.not_not, Int.not_lt, Int.not_le, gt_iff_lt, ge_iff_le] at hg); (try dsimp only); omega)
  refine WG.y rfl rfl (by decide) (pureV_ok tab_ok rfl (by first | exact fun _ => rfl | exact fun h => h | (intro h; simp_all))) ?_
  refine WG.y rfl rfl (by decide) (Yl.indexN tab_ok rfl rfl rfl rfl rfl rfl (by first | exact fun _ => rfl | exact fun h => h | (intro h; simp_all)) (by intro hg; (try simp only [decide_eq_true_eq, decide_eq_false_iff_not, beq_iff_eq, bne_iff_ne, beq_eq_false_iff_ne, bne_eq_false_iff_eq, ne_eq, Bool.or_eq_true, Bool.or_eq_false_iff, Bool.and_eq_true, Bool.and_eq_false_imp, Bool.not_eq_true, Bool.not_eq_true', Bool.not_eq_false', Classical.not_not, Int.not_lt, Int.not_le, gt_iff_lt, ge_iff_le] at hg); (try dsimp only) <;> omega) (by intro hg; (try simp only [decide_eq_true_eq, decide_eq_false_iff_not, beq_iff_eq, bne_iff_ne, beq_eq_false_iff_ne, bne_eq_false_iff_eq, ne_eq, Bool.or_eq_true, Bool.or_eq_false_iff, Bool.and_eq_true, Bool.and_eq_false_imp, Bool.not_eq_true, Bool.not_eq_true', Bool.not_eq_false', Classical.not_not, Int.not_lt, Int.not_le, gt_iff_lt, ge_iff_le] at hg); first | exact fun _ _ _ _ => rfl | exact RS.has (by assumption) | exact fun _ _ _ _ => (by assumption) | exact HasMem.ownD 0 rfl | exact HasMem.ownD 1 rfl | exact HasMem.ownD 2 rfl)) ?_
  refine WG.y rfl rfl (by decide) (pureV_ok tab_ok rfl (by first | exact fun _ => rfl | exact fun h => h | (intro h; simp_all))) ?_
  refine' WG.y rfl rfl (by decide) (Yl.loadG tab_ok rfl rfl rfl (by first | exact fun _ => rfl | exact fun h => h | (intro h; simp_all)) ?r3 rfl ?h3 ?g3) ?_
  case r3 => apply Rd.addC; (first | (apply RS.rdC; assumption) | exact Rd.slC 0 rfl | exact Rd.slC 1 rfl | exact Rd.slC 2 rfl)
  case h3 => rfl
  case g3 => first | exact fun _ => trivial | (intro hg; (try simp only [decide_eq_true_eq, decide_eq_false_iff_not, beq_iff_eq, bne_iff_ne, beq_eq_false_iff_ne, bne_eq_false_iff_eq, ne_eq, Bool.or_eq_true, Bool.or_eq_false_iff, Bool.and_eq_true, Bool.and_eq_false_imp, Bool.not_eq_true, Bool.not_eq_true', Bool.not_eq_false', Classical.not_not, Int.not_lt, Int.not_le, gt_iff_lt, ge_iff_le] at hg); (try dsimp only); omega)
  refine WG.y rfl rfl (by decide) (pureV_ok tab_ok rfl (by first | exact fun _ => rfl | exact fun h => h | (intro h; simp_all))) ?_
  refine WG.y rfl rfl (by decide) (pureV_ok tab_ok rfl (by first | exact fun _ => rfl | exact fun h => h | (intro h; simp_all))) ?_
  refine WG.y rfl rfl (by decide) (pureV_ok tab_ok rfl (by first | exact fun _ => rfl | exact fun h => h | (intro h; simp_all))) ?_
  refine' WG.y rfl rfl (by decide) (Yl.loadG tab_ok rfl rfl rfl (by first | exact fun _ => rfl | exact fun h => h | (intro h; simp_all)) ?r4 rfl ?h4 ?g4) ?_
  case r4 => apply Rd.addC; (first | exact Rd.blkC 0 rfl | exact Rd.blkC 1 rfl | exact Rd.blkC 2 rfl | (apply RS.rdC; assumption) | exact Rd.slC 0 rfl | exact Rd.slC 1 rfl | exact Rd.slC 2 rfl)
  case h4 => rfl
  case g4 => first | exact fun _ => trivial | (intro hg; (try simp only [decide_eq_true_eq, decide_eq_false_iff_not, beq_iff_eq, bne_iff_ne, beq_eq_false_iff_ne, bne_eq_false_iff_eq, ne_eq, Bool.or_eq_true, Bool.or_eq_false_iff, Bool.and_eq_true, Bool.and_eq_false_imp, Bool.not_eq_true, Bool.not_eq_true', Bool.not_eq_false', Classical.not_not, Int.not_lt, Int.not_le, gt_iff_lt, ge_iff_le] at hg); (try dsimp only); omega)
  refine WG.y rfl rfl (by decide) (pureV_ok tab_ok rfl (by first | exact fun _ => rfl | exact fun h => h | (intro h; simp_all))) ?_
  refine WG.y rfl rfl (by decide) (Yl.pand rfl rfl rfl (fun _ => rfl) (by intro h1 h2; simp_all <;> omega)) ?_
  refine WG.nil ?_
  refine WE.nxt ?_
  refine W.cond rfl (fun hc0 => ?_) (fun hc0 => ?_)
  · try simp only [decide_eq_true_eq, decide_eq_false_iff_not, beq_iff_eq, bne_iff_ne, beq_eq_false_iff_ne, bne_eq_false_iff_eq, ne_eq, Bool.or_eq_true, Bool.or_eq_false_iff, Bool.and_eq_true, Bool.and_eq_false_imp, Bool.not_eq_true, Bool.not_eq_true', Bool.not_eq_false', Classical.not_not, Int.not_lt, Int.not_le, gt_iff_lt, ge_iff_le] at hc0
    obtain ⟨hc1, hc2⟩ := hc0
    have hil : i < ps.length := by omega
    refine W.skip ?_
    refine WE.nxt ?_
    refine W.seq ?_
    refine W.block ?_
    refine W.seq ?_
    refine W.region _ ?_
    refine WG.run tab_ok 3 rfl ?_
    refine' WG.y rfl rfl (by decide) (Yl.load1 tab_ok rfl rfl rfl (fun _ => rfl) ?r5 rfl ?h5) ?_
    case r5 => apply Rd.add; (first | exact Rd.blk 0 rfl | exact Rd.blk 1 rfl | exact Rd.blk 2 rfl | (apply RS.rdD; assumption; ((try dsimp only) <;> omega)) | exact Rd.slD 0 rfl (by (try dsimp only) <;> omega) | exact Rd.slD 1 rfl (by (try dsimp only) <;> omega) | exact Rd.slD 2 rfl (by (try dsimp only) <;> omega))
    case h5 => rfl
    refine WG.run tab_ok 1 rfl ?_
    refine WG.y rfl rfl (by decide) (Yl.indexN tab_ok rfl rfl rfl rfl rfl rfl (fun _ => rfl) (by intro _; (try dsimp only) <;> omega) (by intro _; first | exact fun _ _ _ _ => rfl | exact RS.has (by assumption) | exact fun _ _ _ _ => (by assumption) | exact HasMem.ownD 0 rfl | exact HasMem.ownD 1 rfl | exact HasMem.ownD 2 rfl)) ?_
    refine' WG.y rfl rfl (by decide) (Yl.load1 tab_ok rfl rfl rfl (fun _ => rfl) ?r6 rfl ?h6) ?_
    case r6 => (first | (apply RS.rdD; assumption; ((try dsimp only) <;> omega)) | exact Rd.slD 0 rfl (by (try dsimp only) <;> omega) | exact Rd.slD 1 rfl (by (try dsimp only) <;> omega) | exact Rd.slD 2 rfl (by (try dsimp only) <;> omega))
    case h6 => rfl
    refine WG.run tab_ok 2 rfl ?_
    refine WG.y rfl rfl (by decide) (pureV_ok tab_ok rfl (by first | exact fun _ => rfl | exact fun h => h | (intro h; simp_all))) ?_
    refine WG.y rfl rfl (by decide) (pureV_ok tab_ok rfl (by first | exact fun _ => rfl | exact fun h => h | (intro h; simp_all))) ?_
    refine WG.y rfl rfl (by decide) (pureV_ok tab_ok rfl (by first | exact fun _ => rfl | exact fun h => h | (intro h; simp_all))) ?_
    refine' WG.y rfl rfl (by decide) (Yl.loadG tab_ok rfl rfl rfl (by first | exact fun _ => rfl | exact fun h => h | (intro h; simp_all)) ?r7 rfl ?h7 ?g7) ?_
    case r7 => apply Rd.addC; (first | exact Rd.blkC 0 rfl | exact Rd.blkC 1 rfl | exact Rd.blkC 2 rfl | (apply RS.rdC; assumption) | exact Rd.slC 0 rfl | exact Rd.slC 1 rfl | exact Rd.slC 2 rfl)
    case h7 => rfl
    case g7 => first | exact fun _ => trivial | (intro hg; (try simp only [decide_eq_true_eq, decide_eq_false_iff_not, beq_iff_eq, bne_iff_ne, beq_eq_false_iff_ne, bne_eq_false_iff_eq, ne_eq, Bool.or_eq_true, Bool.or_eq_false_iff, Bool.and_eq_true, Bool.and_eq_false_imp, Bool.not_eq_true, Bool.not_eq_true', Bool.not_eq_false', Classical.not_not, Int.not_lt, Int.not_le, gt_iff_lt, ge_iff_le] at hg); (try dsimp only); omega)
    refine WG.y rfl rfl (by decide) (pureV_ok tab_ok rfl (by first | exact fun _ => rfl | exact fun h => h | (intro h; simp_all))) ?_
    refine WG.y rfl rfl (by decide) (Yl.indexN tab_ok rfl rfl rfl rfl rfl rfl (by first | exact fun _ => rfl | exact fun h => h | (intro h; simp_all)) (by intro hg; (try simp only [decide_eq_true_eq, decide_eq_false_iff_not, beq_iff_eq, bne_iff_ne, beq_eq_false_iff_ne, bne_eq_false_iff_eq, ne_eq, Bool.or_eq_true, Bool.or_eq_false_iff, Bool.and_eq_true, Bool.and_eq_false_imp, Bool.not_eq_true, Bool.not_eq_true', Bool.not_eq_false', Classical.not_not, Int.not_lt, Int.not_le, gt_iff_lt, ge_iff_le] at hg); (try dsimp only) <;> omega) (by intro hg; (try simp only [decide_eq_true_eq, decide_eq_false_iff_not, beq_iff_eq, bne_iff_ne, beq_eq_false_iff_ne, bne_eq_false_iff_eq, ne_eq, Bool.or_eq_true, Bool.or_eq_false_iff, Bool.and_eq_true, Bool.and_eq_false_imp, Bool.not_eq_true, Bool.not_eq_true', Bool.not_eq_false', Classical.not_not, Int.not_lt, Int.not_le, gt_iff_lt, ge_iff_le] at hg); first | exact fun _ _ _ _ => rfl | exact RS.has (by assumption) | exact fun _ _ _ _ => (by assumption) | exact HasMem.ownD 0 rfl | exact HasMem.ownD 1 rfl | exact HasMem.ownD 2 rfl)) ?_
    refine WG.y rfl rfl (by decide) (pureV_ok tab_ok rfl (by first | exact fun _ => rfl | exact fun h => h | (intro h; simp_all))) ?_
    refine' WG.y rfl rfl (by decide) (Yl.loadG tab_ok rfl rfl rfl (by first | exact fun _ => rfl | exact fun h => h | (intro h; simp_all)) ?r8 rfl ?h8 ?g8) ?_
    case r8 => apply Rd.addC; (first | (apply RS.rdC; assumption) | exact Rd.slC 0 rfl | exact Rd.slC 1 rfl | exact Rd.slC 2 rfl)
    case h8 => rfl
    case g8 => first | exact fun _ => trivial | (intro hg; (try simp only [decide_eq_true_eq, decide_eq_false_iff_not, beq_iff_eq, bne_iff_ne, beq_eq_false_iff_ne, bne_eq_false_iff_eq, ne_eq, Bool.or_eq_true, Bool.or_eq_false_iff, Bool.and_eq_true, Bool.and_eq_false_imp, Bool.not_eq_true, Bool.not_eq_true', Bool.not_eq_false', Classical.not_not, Int.not_lt, Int.not_le, gt_iff_lt, ge_iff_le] at hg); (try dsimp only); omega)
    refine WG.y rfl rfl (by decide) (pureV_ok tab_ok rfl (by first | exact fun _ => rfl | exact fun h => h | (intro h; simp_all))) ?_
    refine WG.y rfl rfl (by decide) (pureV_ok tab_ok rfl (by first | exact fun _ => rfl | exact fun h => h | (intro h; simp_all))) ?_
    refine WG.y rfl rfl (by decide) (Yl.pand rfl rfl rfl (fun _ => rfl) (by intro h1 h2; simp_all <;> omega)) ?_
    refine WG.nil ?_
    refine WE.nxt ?_
    refine W.cond rfl (fun hc1 => ?_) (fun hc1 => ?_)
    · try simp only [decide_eq_true_eq, decide_eq_false_iff_not, beq_iff_eq, bne_iff_ne, beq_eq_false_iff_ne, bne_eq_false_iff_eq, ne_eq, Bool.or_eq_true, Bool.or_eq_false_iff, Bool.and_eq_true, Bool.and_eq_false_imp, Bool.not_eq_true, Bool.not_eq_true', Bool.not_eq_false', Classical.not_not, Int.not_lt, Int.not_le, gt_iff_lt, ge_iff_le] at hc1
      have hP : nextP ps ms cls i = true := nextP_iff.2 ⟨hc2, by simpa using hc1.1, hc1.2⟩
      refine W.seq ?_
      refine W.region _ ?_
      refine WG.run tab_ok 2 rfl ?_
      refine WG.nil ?_
      refine WE.nxt ?_
      refine W.ret ?_
      refine WE.blk_ret ?_
      refine WE.then_ret ?_
      refine WE.then_ret ?_
      refine WE.blk_ret ?_
      refine WE.then_ret ?_
      refine WE.retF tab_ok [_] rfl ⟨rfl, trivial⟩ (RLe.refl _) ?_
      exact ⟨by rw [show nextW ps ms cls = (i : Int) from findN_some hil hP hno]; rfl, rfl, rfl⟩
    · try simp only [decide_eq_true_eq, decide_eq_false_iff_not, beq_iff_eq, bne_iff_ne, beq_eq_false_iff_ne, bne_eq_false_iff_eq, ne_eq, Bool.or_eq_true, Bool.or_eq_false_iff, Bool.and_eq_true, Bool.and_eq_false_imp, Bool.not_eq_true, Bool.not_eq_true', Bool.not_eq_false', Classical.not_not, Int.not_lt, Int.not_le, gt_iff_lt, ge_iff_le] at hc1
      have hP : nextP ps ms cls i = false := by
        rw [← Bool.not_eq_true]
        intro h
        obtain ⟨h1, h2, h3⟩ := nextP_iff.1 h
        simp [h2, h3] at hc1
      refine W.skip ?_
      refine WE.blk _ ?_
      refine WE.nxt ?_
      refine W.region _ ?_
      refine WG.run tab_ok 1 rfl ?_
      refine WG.y rfl rfl (by decide) (Yl.add rfl rfl rfl (fun _ => rfl) (by intro _; constructor <;> (try dsimp only) <;> omega)) ?_
      refine WG.run tab_ok 1 rfl ?_
      refine WG.nil ?_
      refine WE.again (i + 1) (⟨by omega, fun j hj => by
        by_cases e : j = i
        · subst e; exact hP
        · exact hno j (by omega)⟩) (by (try dsimp only); omega) ⟨rfl, rfl, rfl, rfl⟩ (RLe.refl _) (by (repeat (first | exact List.Sublist.refl _ | exact List.nil_sublist _ | apply List.Sublist.cons_cons | apply List.Sublist.cons)); done)
  · try simp only [decide_eq_true_eq, decide_eq_false_iff_not, beq_iff_eq, bne_iff_ne, beq_eq_false_iff_ne, bne_eq_false_iff_eq, ne_eq, Bool.or_eq_true, Bool.or_eq_false_iff, Bool.and_eq_true, Bool.and_eq_false_imp, Bool.not_eq_true, Bool.not_eq_true', Bool.not_eq_false', Classical.not_not, Int.not_lt, Int.not_le, gt_iff_lt, ge_iff_le] at hc0
    have hnone : nextW ps ms cls = -1 := findN_none (fun j hj => by
      by_cases hji : j < i
      · exact hno j hji
      · by_cases hil : i < ps.length
        · have h1 := hc0 (by omega)
          have h2 : (nth ps i).time ≤ (nth ps j).time := by
            by_cases e : i = j
            · subst e; exact Int.le_refl _
            · have := List.pairwise_iff_getElem.1 hsort i j hil hj (by omega)
              rw [nth_eq hil, nth_eq hj]; exact this
          unfold nextP
          rw [decide_eq_false (by omega)]; simp
        · omega)
    refine W.exit ?_
    refine WE.then_exit ?_
    refine WE.then_exit ?_
    refine WE.blk_exit ?_
    refine WE.nxt ?_
    refine W.seq ?_
    refine W.region _ ?_
    refine WG.run tab_ok 1 rfl ?_
    refine WG.nil ?_
    refine WE.nxt ?_
    refine W.ret ?_
    refine WE.retF tab_ok [_] rfl ⟨rfl, trivial⟩ (RLe.refl _) ?_
    exact ⟨by rw [hnone]; rfl, rfl, rfl⟩

end Go.Proofs.Ytnaeefefggmomaa

/- Chapter 19: runs of weighted round robin. No condition. -/
set_option linter.unusedSimpArgs false
set_option linter.unusedVariables false
namespace Go.Proofs.Ytnaeefefggmomaa
open Go Go.RowKit Go.Proofs.Ytnaeefefggmomaa.K Go.Proofs.Ytnaeefefggmomaa.M

end Go.Proofs.Ytnaeefefggmomaa

/- Curves of schedulers: rounds, the first enough, the least period, values checked. No condition. -/
set_option linter.unusedSimpArgs false
set_option linter.unusedVariables false
namespace Go.Proofs.Ytnaeefefggmomaa
open Go Go.RowKit Go.Proofs.Ytnaeefefggmomaa.K Go.Proofs.Ytnaeefefggmomaa.M

theorem Common_V {R : Ro} {a b : Nat} (ha : a ≤ 1000000000) (hb : 0 < b ∧ b ≤ 1000000) : FnV Try.prog 154 [.int .i64 (a : Int), .int .i64 (b : Int)] R (.int .i64 ((a / Nat.gcd a b * b : Nat) : Int)) := by
  refine Fn.toV (fun w0 E => ?_)
  have hg : 0 < Nat.gcd a b := Nat.gcd_pos_of_pos_right _ hb.1
  have hq : ((a : Int) / (Nat.gcd a b : Int) * (b : Int)) ≤ 1000000000 * 1000000 ∧ 0 ≤ ((a : Int) / (Nat.gcd a b : Int) * (b : Int)) := by
    have h1 : a / Nat.gcd a b * b ≤ 1000000000 * 1000000 := Nat.mul_le_mul (Nat.le_trans (Nat.div_le_self _ _) ha) hb.2
    have e : ((a : Int) / (Nat.gcd a b : Int) * (b : Int)) = ((a / Nat.gcd a b * b : Nat) : Int) := rfl
    omega
  refine Fn.enter (n := 20) Try.func154 rfl rfl (Nat.le_of_ble_eq_true rfl) rfl ?_
  refine W.seq ?_
  refine W.region _ ?_
  refine WG.run tab_ok 1 rfl ?_
  refine WG.nil ?_
  refine WE.nxt ?_
  refine W.seq ?_
  refine W.region _ ?_
  refine WG.run tab_ok 4 rfl ?_
  refine WG.nil ?_
  refine WE.nxt ?_
  refine W.seq ?_
  refine W.block ?_
  refine W.loopK (β := Nat × Nat) (fun (x, y) => Nat.gcd x y = Nat.gcd a b) (fun (x, y) => [(5, true, .int .i64 (x : Int)), (6, true, .int .i64 (y : Int))]) [0, 1] [_, _] [] _ rfl (fun (x, y) => []) (fun (x, y) => y) ((a, b)) (rfl) ⟨rfl, rfl, rfl, rfl, rfl⟩ (by (repeat (first | exact List.Sublist.refl _ | exact List.nil_sublist _ | apply List.Sublist.cons_cons | apply List.Sublist.cons)); done) ?_
  intro st hst
  obtain ⟨x, y⟩ := st
  dsimp only [zipE, setAll, List.cons_append, List.nil_append, List.set_cons_zero, List.set_cons_succ] at hst ⊢
  
  refine W.seq ?_
  refine W.seq ?_
  refine W.region _ ?_
  refine WG.run tab_ok 2 rfl ?_
  refine WG.nil ?_
  refine WE.nxt ?_
  refine W.condN rfl (fun hc0 => ?_) (fun hc0 => ?_)
  · try dsimp only at hc0
    refine W.skip ?_
    refine WE.nxt ?_
    refine W.block ?_
    refine W.regionQ _ mixed (by kernel_rfl) ?_
    refine WG.run tab_ok 3 rfl ?_
    refine WG.y rfl rfl (by decide) (Yl.rem rfl rfl rfl (fun _ => rfl) (by intro _; (try dsimp only) <;> omega) (by intro _; (try dsimp only) <;> omega)) ?_
    refine WG.run tab_ok 2 rfl ?_
    refine WG.nil ?_
    refine WE.blk _ ?_
    refine WE.again ((y, x % y)) ((gcd_step x y).trans hst) (by dsimp only; exact Nat.mod_lt _ (by omega)) ⟨rfl, rfl, rfl, rfl, rfl⟩ (RLe.refl _) (by (repeat (first | exact List.Sublist.refl _ | exact List.nil_sublist _ | apply List.Sublist.cons_cons | apply List.Sublist.cons)); done)
  · try dsimp only at hc0
    obtain rfl : y = 0 := by omega
    rw [Nat.gcd_zero_right] at hst
    subst hst
    refine W.exit ?_
    refine WE.then_exit ?_
    refine WE.then_exit ?_
    refine WE.blk_exit ?_
    refine WE.nxt ?_
    refine W.seq ?_
    refine W.region _ ?_
    refine WG.run tab_ok 2 rfl ?_
    refine WG.y rfl rfl (by decide) (Yl.quo rfl rfl rfl (fun _ => rfl) (by intro _; constructor <;> (try dsimp only) <;> omega) (by intro _; omega)) ?_
    refine WG.run tab_ok 1 rfl ?_
    refine WG.y rfl rfl (by decide) (Yl.mul rfl rfl rfl (fun _ => rfl) (by intro _; constructor <;> (try dsimp only) <;> omega)) ?_
    refine WG.run tab_ok 1 rfl ?_
    refine WG.nil ?_
    refine WE.nxt ?_
    refine W.ret ?_
    refine WE.subE (E' := E) (by (repeat (first | exact List.Sublist.refl _ | exact List.nil_sublist _ | apply List.Sublist.cons_cons | apply List.Sublist.cons)); done) ?_
    refine WE.retF tab_ok [_] rfl ⟨rfl, trivial⟩ (RLe.refl _) ?_
    exact ⟨rfl, rfl⟩

theorem LeastW_V {R : Ro} {a : Option Addr} {c : Nat} {v : List Int} {inc : Int} {l : Nat} (ha : RS R 1 encI a v) (hvl : v.length = l) (hl : 0 < l ∧ l ≤ 100000) (hi : 0 ≤ inc ∧ inc ≤ 1000000000000) (hv : ∀ x ∈ v, 0 ≤ x ∧ x ≤ 1000000000000000) : FnV Try.prog 129 [.slice a l c, .int .i64 inc] R (.int .i64 (leastL v inc : Int)) := by
  subst hvl
  refine Fn.toV (fun w0 E => ?_)
  refine Fn.enter (n := 84) Try.func129 rfl rfl (Nat.le_of_ble_eq_true rfl) rfl ?_
  refine W.seq ?_
  refine W.region _ ?_
  refine WG.run tab_ok 1 rfl ?_
  refine WG.nil ?_
  refine WE.nxt ?_
  refine W.scope ?_
  refine W.seq ?_
  refine W.region _ ?_
  refine WG.run tab_ok 3 rfl ?_
  refine WG.nil ?_
  refine WE.nxt ?_
  refine W.seq ?_
  refine W.label ?_
  refine WE.nxt ?_
  refine W.seq ?_
  refine W.seq ?_
  refine W.region _ ?_
  refine WG.run tab_ok 1 rfl ?_
  refine WG.nil ?_
  refine WE.nxt ?_
  refine W.block ?_
  refine W.loopK (β := Nat) (fun p => 1 ≤ p ∧ p ≤ max 1 v.length ∧ ∀ j, 1 ≤ j → j < p → leastOk v inc j = false) (fun p => [(6, true, .int .i64 (p : Int))]) [0, 1, 5] [_, _, _] [] _ rfl (fun p => []) (fun p => v.length - p) (1) (⟨Nat.le_refl _, by omega, fun j a b => by omega⟩) ⟨rfl, rfl, rfl, rfl, rfl⟩ (by (repeat (first | exact List.Sublist.refl _ | exact List.nil_sublist _ | apply List.Sublist.cons_cons | apply List.Sublist.cons)); done) ?_
  intro p hst
  dsimp only [zipE, setAll, List.cons_append, List.nil_append, List.set_cons_zero, List.set_cons_succ] at hst ⊢
  obtain ⟨h1, h2, h3⟩ := hst
  have hip : 0 ≤ inc * (p : Int) ∧ inc * (p : Int) ≤ 1000000000000 * 100000 := ⟨Int.mul_nonneg hi.1 (by omega), Int.mul_le_mul hi.2 (by omega) (by omega) (by omega)⟩
  have hiq : 0 ≤ inc * (p : Int) / (v.length : Int) ∧ inc * (p : Int) / (v.length : Int) ≤ 1000000000000 * 100000 := ⟨Int.ediv_nonneg hip.1 (by omega), Int.le_trans (Int.ediv_le_self _ hip.1) hip.2⟩
  refine W.seq ?_
  refine W.seq ?_
  refine W.region _ ?_
  refine WG.run tab_ok 3 rfl ?_
  refine WG.nil ?_
  refine WE.nxt ?_
  refine W.condD rfl (fun hc0 => ?_) (fun hc0 => ?_)
  · try dsimp only at hc0
    refine W.skip ?_
    refine WE.nxt ?_
    refine W.seq ?_
    refine W.block ?_
    refine W.seq ?_
    refine W.seq ?_
    refine W.region _ ?_
    refine WG.run tab_ok 2 rfl ?_
    refine WG.y rfl rfl (by decide) (Yl.rem rfl rfl rfl (fun _ => rfl) (by intro _; (try dsimp only) <;> omega) (by intro _; (try dsimp only) <;> omega)) ?_
    refine WG.run tab_ok 2 rfl ?_
    refine WG.y rfl rfl (by decide) (pureV_ok tab_ok rfl (by first | exact fun _ => rfl | exact fun h => h | (intro h; simp_all))) ?_
    refine WG.y rfl rfl (by decide) (pureV_ok tab_ok rfl (by first | exact fun _ => rfl | exact fun h => h | (intro h; simp_all))) ?_
    refine WG.y rfl rfl (by decide) (Yl.mul rfl rfl rfl (by first | exact fun _ => rfl | exact fun h => h | (intro h; simp_all)) (by intro hg; (try simp only [decide_eq_true_eq, decide_eq_false_iff_not, beq_iff_eq, bne_iff_ne, beq_eq_false_iff_ne, bne_eq_false_iff_eq, ne_eq, Bool.or_eq_true, Bool.or_eq_false_iff, Bool.and_eq_true, Bool.and_eq_false_imp, Bool.not_eq_true, Bool.not_eq_true', Bool.not_eq_false', Classical.not_not, Int.not_lt, Int.not_le, gt_iff_lt, ge_iff_le] at hg); constructor <;> (try dsimp only) <;> omega)) ?_
    refine WG.y rfl rfl (by decide) (pureV_ok tab_ok rfl (by first | exact fun _ => rfl | exact fun h => h | (intro h; simp_all))) ?_
    refine WG.y rfl rfl (by decide) (Yl.rem rfl rfl rfl (by first | exact fun _ => rfl | exact fun h => h | (intro h; simp_all)) (by intro hg; (try simp only [decide_eq_true_eq, decide_eq_false_iff_not, beq_iff_eq, bne_iff_ne, beq_eq_false_iff_ne, bne_eq_false_iff_eq, ne_eq, Bool.or_eq_true, Bool.or_eq_false_iff, Bool.and_eq_true, Bool.and_eq_false_imp, Bool.not_eq_true, Bool.not_eq_true', Bool.not_eq_false', Classical.not_not, Int.not_lt, Int.not_le, gt_iff_lt, ge_iff_le] at hg); (try dsimp only) <;> omega) (by intro hg; (try simp only [decide_eq_true_eq, decide_eq_false_iff_not, beq_iff_eq, bne_iff_ne, beq_eq_false_iff_ne, bne_eq_false_iff_eq, ne_eq, Bool.or_eq_true, Bool.or_eq_false_iff, Bool.and_eq_true, Bool.and_eq_false_imp, Bool.not_eq_true, Bool.not_eq_true', Bool.not_eq_false', Classical.not_not, Int.not_lt, Int.not_le, gt_iff_lt, ge_iff_le] at hg); (try dsimp only) <;> omega)) ?_
    refine WG.y rfl rfl (by decide) (pureV_ok tab_ok rfl (by first | exact fun _ => rfl | exact fun h => h | (intro h; simp_all))) ?_
    refine WG.y rfl rfl (by decide) (Yl.por rfl rfl rfl (fun _ => rfl) (by intro h1 h2; simp_all <;> omega)) ?_
    refine WG.nil ?_
    refine WE.nxt ?_
    refine W.cond rfl (fun hc1 => ?_) (fun hc1 => ?_)
    · try simp only [decide_eq_true_eq, decide_eq_false_iff_not, beq_iff_eq, bne_iff_ne, beq_eq_false_iff_ne, bne_eq_false_iff_eq, ne_eq, Bool.or_eq_true, Bool.or_eq_false_iff, Bool.and_eq_true, Bool.and_eq_false_imp, Bool.not_eq_true, Bool.not_eq_true', Bool.not_eq_false', Classical.not_not, Int.not_lt, Int.not_le, gt_iff_lt, ge_iff_le] at hc1
      have hno : leastOk v inc p = false := leastOk_no1 (by rcases hc1 with h | h; exact .inl (by omega); exact .inr h)
      refine W.exit ?_
      refine WE.then_exit ?_
      refine WE.blk_exit ?_
      refine WE.nxt ?_
      refine W.region _ ?_
      refine WG.run tab_ok 1 rfl ?_
      refine WG.y rfl rfl (by decide) (Yl.add rfl rfl rfl (fun _ => rfl) (by intro _; constructor <;> (try dsimp only) <;> omega)) ?_
      refine WG.run tab_ok 1 rfl ?_
      refine WG.nil ?_
      refine WE.again (p + 1) (⟨by omega, by omega, fun j a b => by
        by_cases e : j = p
        · subst e; exact hno
        · exact h3 j a (by omega)⟩) (by (try dsimp only); omega) ⟨rfl, rfl, rfl, rfl, rfl⟩ (RLe.refl _) (by (repeat (first | exact List.Sublist.refl _ | exact List.nil_sublist _ | apply List.Sublist.cons_cons | apply List.Sublist.cons)); done)
    · try simp only [decide_eq_true_eq, decide_eq_false_iff_not, beq_iff_eq, bne_iff_ne, beq_eq_false_iff_ne, bne_eq_false_iff_eq, ne_eq, Bool.or_eq_true, Bool.or_eq_false_iff, Bool.and_eq_true, Bool.and_eq_false_imp, Bool.not_eq_true, Bool.not_eq_true', Bool.not_eq_false', Classical.not_not, Int.not_lt, Int.not_le, gt_iff_lt, ge_iff_le] at hc1
      have hy1 : v.length % p = 0 := by have := hc1.1; omega
      have hy2 : (inc * (p : Int)) % (v.length : Int) = 0 := hc1.2
      refine W.skip ?_
      refine WE.nxt ?_
      refine W.seq ?_
      refine W.region _ ?_
      refine WG.run tab_ok 2 rfl ?_
      refine WG.y rfl rfl (by decide) (Yl.mul rfl rfl rfl (fun _ => rfl) (by intro _; constructor <;> (try dsimp only) <;> omega)) ?_
      refine WG.run tab_ok 1 rfl ?_
      refine WG.y rfl rfl (by decide) (Yl.quo rfl rfl rfl (fun _ => rfl) (by intro _; constructor <;> (try dsimp only) <;> omega) (by intro _; omega)) ?_
      refine WG.run tab_ok 1 rfl ?_
      refine WG.nil ?_
      refine WE.nxt ?_
      refine W.seq ?_
      refine W.seq ?_
      refine W.region _ ?_
      refine WG.run tab_ok 3 rfl ?_
      refine WG.nil ?_
      refine WE.nxt ?_
      refine W.block ?_
      refine W.loopK (β := Nat) (fun i => i ≤ v.length ∧ ∀ j, j < i → leastC v inc p j = true) (fun i => [(36, true, .int .i64 (i : Int))]) [0, 1, 5, 6, 7, 35] [_, _, _, _, _, _] [] _ rfl (fun i => []) (fun i => v.length - i) (0) (⟨Nat.zero_le _, fun j hj => by omega⟩) ⟨rfl, rfl, rfl, rfl, rfl, rfl, rfl, rfl⟩ (by (repeat (first | exact List.Sublist.refl _ | exact List.nil_sublist _ | apply List.Sublist.cons_cons | apply List.Sublist.cons)); done) ?_
      intro i hst
      dsimp only [zipE, setAll, List.cons_append, List.nil_append, List.set_cons_zero, List.set_cons_succ] at hst ⊢
      
      refine W.seq ?_
      refine W.region _ ?_
      refine WG.run tab_ok 1 rfl ?_
      refine WG.nil ?_
      refine WE.nxt ?_
      refine W.seq ?_
      refine W.condD rfl (fun hc2 => ?_) (fun hc2 => ?_)
      · try dsimp only at hc2
        have hil : i < v.length := by omega
        have hvi := hv _ (nth_mem hil)
        have e1 : ((i : Int) + (p : Int)).toNat = i + p := by omega
        have e2 : ((i : Int) + (p : Int) - (v.length : Int)).toNat = i + p - v.length := by omega
        have hvj : i + p < v.length → 0 ≤ nth v (i + p) ∧ nth v (i + p) ≤ 1000000000000000 := fun h => hv _ (nth_mem h)
        have hvk : v.length ≤ i + p → 0 ≤ nth v (i + p - v.length) ∧ nth v (i + p - v.length) ≤ 1000000000000000 := fun h => hv _ (nth_mem (by omega))
        have hvk2 : v.length ≤ i + p → 0 ≤ nth v ((i : Int) + (p : Int) - (v.length : Int)).toNat ∧ nth v ((i : Int) + (p : Int) - (v.length : Int)).toNat ≤ 1000000000000000 := fun h => by rw [e2]; exact hvk h
        refine W.skip ?_
        refine WE.nxt ?_
        refine W.seq ?_
        refine W.block ?_
        refine W.seq ?_
        refine W.region _ ?_
        refine WG.run tab_ok 2 rfl ?_
        refine WG.nil ?_
        refine WE.nxt ?_
        refine W.seq ?_
        refine W.region _ ?_
        refine WG.run tab_ok 2 rfl ?_
        refine WG.y rfl rfl (by decide) (Yl.indexN tab_ok rfl rfl rfl rfl rfl rfl (fun _ => rfl) (by intro _; (try dsimp only) <;> omega) (by intro _; first | exact fun _ _ _ _ => rfl | exact RS.has (by assumption) | exact fun _ _ _ _ => (by assumption) | exact HasMem.ownD 0 rfl)) ?_
        refine' WG.y rfl rfl (by decide) (Yl.load1 tab_ok rfl rfl rfl (fun _ => rfl) ?r1 rfl ?h1) ?_
        case r1 => (first | (apply RS.rdD; assumption; ((try dsimp only) <;> omega)) | exact Rd.slD 0 rfl (by (try dsimp only) <;> omega))
        case h1 => rfl
        refine WG.run tab_ok 1 rfl ?_
        refine WG.y rfl rfl (by decide) (Yl.add rfl rfl rfl (fun _ => rfl) (by intro _; constructor <;> (try dsimp only) <;> omega)) ?_
        refine WG.run tab_ok 1 rfl ?_
        refine WG.nil ?_
        refine WE.nxt ?_
        refine W.seq ?_
        refine W.region _ ?_
        refine WG.run tab_ok 2 rfl ?_
        refine WG.y rfl rfl (by decide) (Yl.add rfl rfl rfl (fun _ => rfl) (by intro _; constructor <;> (try dsimp only) <;> omega)) ?_
        refine WG.run tab_ok 3 rfl ?_
        refine WG.y rfl rfl (by decide) (pureV_ok tab_ok rfl (by first | exact fun _ => rfl | exact fun h => h | (intro h; simp_all))) ?_
        refine WG.y rfl rfl (by decide) (pureV_ok tab_ok rfl (by first | exact fun _ => rfl | exact fun h => h | (intro h; simp_all))) ?_
        refine WG.y rfl rfl (by decide) (pureV_ok tab_ok rfl (by first | exact fun _ => rfl | exact fun h => h | (intro h; simp_all))) ?_
        refine WG.y rfl rfl (by decide) (Yl.add rfl rfl rfl (by first | exact fun _ => rfl | exact fun h => h | (intro h; simp_all)) (by intro hg; (try simp only [decide_eq_true_eq, decide_eq_false_iff_not, beq_iff_eq, bne_iff_ne, beq_eq_false_iff_ne, bne_eq_false_iff_eq, ne_eq, Bool.or_eq_true, Bool.or_eq_false_iff, Bool.and_eq_true, Bool.and_eq_false_imp, Bool.not_eq_true, Bool.not_eq_true', Bool.not_eq_false', Classical.not_not, Int.not_lt, Int.not_le, gt_iff_lt, ge_iff_le] at hg); constructor <;> (try dsimp only) <;> omega)) ?_
        refine WG.y rfl rfl (by decide) (Yl.index tab_ok rfl rfl rfl rfl rfl rfl (by first | exact fun _ => rfl | exact fun h => h | (intro h; simp_all)) (by intro hg; (try simp only [decide_eq_true_eq, decide_eq_false_iff_not, beq_iff_eq, bne_iff_ne, beq_eq_false_iff_ne, bne_eq_false_iff_eq, ne_eq, Bool.or_eq_true, Bool.or_eq_false_iff, Bool.and_eq_true, Bool.and_eq_false_imp, Bool.not_eq_true, Bool.not_eq_true', Bool.not_eq_false', Classical.not_not, Int.not_lt, Int.not_le, gt_iff_lt, ge_iff_le] at hg); constructor <;> (try dsimp only) <;> omega) (by intro hg; (try simp only [decide_eq_true_eq, decide_eq_false_iff_not, beq_iff_eq, bne_iff_ne, beq_eq_false_iff_ne, bne_eq_false_iff_eq, ne_eq, Bool.or_eq_true, Bool.or_eq_false_iff, Bool.and_eq_true, Bool.and_eq_false_imp, Bool.not_eq_true, Bool.not_eq_true', Bool.not_eq_false', Classical.not_not, Int.not_lt, Int.not_le, gt_iff_lt, ge_iff_le] at hg); first | exact fun _ _ _ _ => rfl | exact RS.has (by assumption) | exact fun _ _ _ _ => (by assumption) | exact HasMem.ownD 0 rfl)) ?_
        refine' WG.y rfl rfl (by decide) (Yl.loadG tab_ok rfl rfl rfl (by first | exact fun _ => rfl | exact fun h => h | (intro h; simp_all)) ?r2 rfl ?h2 ?g2) ?_
        case r2 => (first | (apply RS.rdC; assumption) | exact Rd.slC 0 rfl)
        case h2 => rfl
        case g2 => first | exact fun _ => trivial | (intro hg; (try simp only [decide_eq_true_eq, decide_eq_false_iff_not, beq_iff_eq, bne_iff_ne, beq_eq_false_iff_ne, bne_eq_false_iff_eq, ne_eq, Bool.or_eq_true, Bool.or_eq_false_iff, Bool.and_eq_true, Bool.and_eq_false_imp, Bool.not_eq_true, Bool.not_eq_true', Bool.not_eq_false', Classical.not_not, Int.not_lt, Int.not_le, gt_iff_lt, ge_iff_le] at hg); (try dsimp only); omega)
        refine WG.y rfl rfl (by decide) (pureV_ok tab_ok rfl (by first | exact fun _ => rfl | exact fun h => h | (intro h; simp_all))) ?_
        refine WG.y rfl rfl (by decide) (pureV_ok tab_ok rfl (by first | exact fun _ => rfl | exact fun h => h | (intro h; simp_all))) ?_
        refine WG.y rfl rfl (by decide) (Yl.pand rfl rfl rfl (fun _ => rfl) (by intro h1 h2; simp_all <;> omega)) ?_
        refine WG.run tab_ok 1 rfl ?_
        refine WG.y rfl rfl (by decide) (pureV_ok tab_ok rfl (by first | exact fun _ => rfl | exact fun h => h | (intro h; simp_all))) ?_
        refine WG.y rfl rfl (by decide) (pureV_ok tab_ok rfl (by first | exact fun _ => rfl | exact fun h => h | (intro h; simp_all))) ?_
        refine WG.y rfl rfl (by decide) (Yl.add rfl rfl rfl (by first | exact fun _ => rfl | exact fun h => h | (intro h; simp_all)) (by intro hg; (try simp only [decide_eq_true_eq, decide_eq_false_iff_not, beq_iff_eq, bne_iff_ne, beq_eq_false_iff_ne, bne_eq_false_iff_eq, ne_eq, Bool.or_eq_true, Bool.or_eq_false_iff, Bool.and_eq_true, Bool.and_eq_false_imp, Bool.not_eq_true, Bool.not_eq_true', Bool.not_eq_false', Classical.not_not, Int.not_lt, Int.not_le, gt_iff_lt, ge_iff_le] at hg); constructor <;> (try dsimp only) <;> omega)) ?_
        refine WG.y rfl rfl (by decide) (pureV_ok tab_ok rfl (by first | exact fun _ => rfl | exact fun h => h | (intro h; simp_all))) ?_
        refine WG.y rfl rfl (by decide) (pureV_ok tab_ok rfl (by first | exact fun _ => rfl | exact fun h => h | (intro h; simp_all))) ?_
        refine WG.y rfl rfl (by decide) (pureV_ok tab_ok rfl (by first | exact fun _ => rfl | exact fun h => h | (intro h; simp_all))) ?_
        refine WG.y rfl rfl (by decide) (pureV_ok tab_ok rfl (by first | exact fun _ => rfl | exact fun h => h | (intro h; simp_all))) ?_
        refine WG.y rfl rfl (by decide) (pureV_ok tab_ok rfl (by first | exact fun _ => rfl | exact fun h => h | (intro h; simp_all))) ?_
        refine WG.y rfl rfl (by decide) (pureV_ok tab_ok rfl (by first | exact fun _ => rfl | exact fun h => h | (intro h; simp_all))) ?_
        refine WG.y rfl rfl (by decide) (Yl.add rfl rfl rfl (by first | exact fun _ => rfl | exact fun h => h | (intro h; simp_all)) (by intro hg; (try simp only [decide_eq_true_eq, decide_eq_false_iff_not, beq_iff_eq, bne_iff_ne, beq_eq_false_iff_ne, bne_eq_false_iff_eq, ne_eq, Bool.or_eq_true, Bool.or_eq_false_iff, Bool.and_eq_true, Bool.and_eq_false_imp, Bool.not_eq_true, Bool.not_eq_true', Bool.not_eq_false', Classical.not_not, Int.not_lt, Int.not_le, gt_iff_lt, ge_iff_le] at hg); constructor <;> (try dsimp only) <;> omega)) ?_
        refine WG.y rfl rfl (by decide) (pureV_ok tab_ok rfl (by first | exact fun _ => rfl | exact fun h => h | (intro h; simp_all))) ?_
        refine WG.y rfl rfl (by decide) (Yl.sub rfl rfl rfl (by first | exact fun _ => rfl | exact fun h => h | (intro h; simp_all)) (by intro hg; (try simp only [decide_eq_true_eq, decide_eq_false_iff_not, beq_iff_eq, bne_iff_ne, beq_eq_false_iff_ne, bne_eq_false_iff_eq, ne_eq, Bool.or_eq_true, Bool.or_eq_false_iff, Bool.and_eq_true, Bool.and_eq_false_imp, Bool.not_eq_true, Bool.not_eq_true', Bool.not_eq_false', Classical.not_not, Int.not_lt, Int.not_le, gt_iff_lt, ge_iff_le] at hg); constructor <;> (try dsimp only) <;> omega)) ?_
        refine WG.y rfl rfl (by decide) (Yl.index tab_ok rfl rfl rfl rfl rfl rfl (by first | exact fun _ => rfl | exact fun h => h | (intro h; simp_all)) (by intro hg; (try simp only [decide_eq_true_eq, decide_eq_false_iff_not, beq_iff_eq, bne_iff_ne, beq_eq_false_iff_ne, bne_eq_false_iff_eq, ne_eq, Bool.or_eq_true, Bool.or_eq_false_iff, Bool.and_eq_true, Bool.and_eq_false_imp, Bool.not_eq_true, Bool.not_eq_true', Bool.not_eq_false', Classical.not_not, Int.not_lt, Int.not_le, gt_iff_lt, ge_iff_le] at hg); constructor <;> (try dsimp only) <;> omega) (by intro hg; (try simp only [decide_eq_true_eq, decide_eq_false_iff_not, beq_iff_eq, bne_iff_ne, beq_eq_false_iff_ne, bne_eq_false_iff_eq, ne_eq, Bool.or_eq_true, Bool.or_eq_false_iff, Bool.and_eq_true, Bool.and_eq_false_imp, Bool.not_eq_true, Bool.not_eq_true', Bool.not_eq_false', Classical.not_not, Int.not_lt, Int.not_le, gt_iff_lt, ge_iff_le] at hg); first | exact fun _ _ _ _ => rfl | exact RS.has (by assumption) | exact fun _ _ _ _ => (by assumption) | exact HasMem.ownD 0 rfl)) ?_
        refine' WG.y rfl rfl (by decide) (Yl.loadG tab_ok rfl rfl rfl (by first | exact fun _ => rfl | exact fun h => h | (intro h; simp_all)) ?r3 rfl ?h3 ?g3) ?_
        case r3 => (first | (apply RS.rdC; assumption) | exact Rd.slC 0 rfl)
        case h3 => rfl
        case g3 => first | exact fun _ => trivial | (intro hg; (try simp only [decide_eq_true_eq, decide_eq_false_iff_not, beq_iff_eq, bne_iff_ne, beq_eq_false_iff_ne, bne_eq_false_iff_eq, ne_eq, Bool.or_eq_true, Bool.or_eq_false_iff, Bool.and_eq_true, Bool.and_eq_false_imp, Bool.not_eq_true, Bool.not_eq_true', Bool.not_eq_false', Classical.not_not, Int.not_lt, Int.not_le, gt_iff_lt, ge_iff_le] at hg); (try dsimp only); omega)
        refine WG.y rfl rfl (by decide) (pureV_ok tab_ok rfl (by first | exact fun _ => rfl | exact fun h => h | (intro h; simp_all))) ?_
        refine WG.y rfl rfl (by decide) (Yl.add rfl rfl rfl (by first | exact fun _ => rfl | exact fun h => h | (intro h; simp_all)) (by intro hg; (try simp only [decide_eq_true_eq, decide_eq_false_iff_not, beq_iff_eq, bne_iff_ne, beq_eq_false_iff_ne, bne_eq_false_iff_eq, ne_eq, Bool.or_eq_true, Bool.or_eq_false_iff, Bool.and_eq_true, Bool.and_eq_false_imp, Bool.not_eq_true, Bool.not_eq_true', Bool.not_eq_false', Classical.not_not, Int.not_lt, Int.not_le, gt_iff_lt, ge_iff_le] at hg); constructor <;> (try dsimp only) <;> omega)) ?_
        refine WG.y rfl rfl (by decide) (pureV_ok tab_ok rfl (by first | exact fun _ => rfl | exact fun h => h | (intro h; simp_all))) ?_
        refine WG.y rfl rfl (by decide) (pureV_ok tab_ok rfl (by first | exact fun _ => rfl | exact fun h => h | (intro h; simp_all))) ?_
        refine WG.y rfl rfl (by decide) (Yl.pand rfl rfl rfl (by first | exact fun _ => rfl | exact fun h => h | (intro h; simp_all)) (by intro h1 h2; simp_all <;> omega)) ?_
        refine WG.y rfl rfl (by decide) (Yl.por rfl rfl rfl (fun _ => rfl) (by intro h1 h2; simp_all <;> omega)) ?_
        refine WG.nil ?_
        refine WE.nxt ?_
        refine W.cond rfl (fun hc3 => ?_) (fun hc3 => ?_)
        · try simp only [decide_eq_true_eq, decide_eq_false_iff_not, beq_iff_eq, bne_iff_ne, beq_eq_false_iff_ne, bne_eq_false_iff_eq, ne_eq, Bool.or_eq_true, Bool.or_eq_false_iff, Bool.and_eq_true, Bool.and_eq_false_imp, Bool.not_eq_true, Bool.not_eq_true', Bool.not_eq_false', Classical.not_not, Int.not_lt, Int.not_le, gt_iff_lt, ge_iff_le] at hc3
          have hC : leastC v inc p i = false := by
            unfold leastC
            rw [← Bool.not_eq_true]
            intro h
            rw [beq_iff_eq] at h
            rw [e1, e2] at hc3
            rcases hc3 with ⟨x1, x2⟩ | ⟨x1, x2⟩
            · rw [if_pos (by omega)] at h; exact x2 h
            · rw [if_neg (by omega)] at h; exact x2 h
          have hno : leastOk v inc p = false := leastOk_no2 hil hC
          refine W.exit ?_
          refine WE.blk_other rfl ?_
          refine WE.then_exit ?_
          refine WE.then_exit ?_
          refine WE.blk_other rfl ?_
          refine WE.then_exit ?_
          refine WE.blk_exit ?_
          refine WE.nxt ?_
          refine W.region _ ?_
          refine WG.run tab_ok 1 rfl ?_
          refine WG.y rfl rfl (by decide) (Yl.add rfl rfl rfl (fun _ => rfl) (by intro _; constructor <;> (try dsimp only) <;> omega)) ?_
          refine WG.run tab_ok 1 rfl ?_
          refine WG.nil ?_
          refine WE.again (p + 1) (⟨by omega, by omega, fun j a b => by
            by_cases e : j = p
            · subst e; exact hno
            · exact h3 j a (by omega)⟩) (by (try dsimp only); omega) ⟨rfl, rfl, rfl, rfl, rfl⟩ (RLe.refl _) (by (repeat (first | exact List.Sublist.refl _ | exact List.nil_sublist _ | apply List.Sublist.cons_cons | apply List.Sublist.cons)); done)
        · try simp only [decide_eq_true_eq, decide_eq_false_iff_not, beq_iff_eq, bne_iff_ne, beq_eq_false_iff_ne, bne_eq_false_iff_eq, ne_eq, Bool.or_eq_true, Bool.or_eq_false_iff, Bool.and_eq_true, Bool.and_eq_false_imp, Bool.not_eq_true, Bool.not_eq_true', Bool.not_eq_false', Classical.not_not, Int.not_lt, Int.not_le, gt_iff_lt, ge_iff_le] at hc3
          have hC : leastC v inc p i = true := by
            unfold leastC
            rw [beq_iff_eq]
            rw [e1, e2] at hc3
            by_cases h : i + p < v.length
            · rw [if_pos h]; exact hc3.1 (by omega)
            · rw [if_neg h]; exact hc3.2 (by omega)
          refine W.skip ?_
          refine WE.blk _ ?_
          refine WE.nxt ?_
          refine W.region _ ?_
          refine WG.y rfl rfl (by decide) (Yl.add rfl rfl rfl (fun _ => rfl) (by intro _; constructor <;> (try dsimp only) <;> omega)) ?_
          refine WG.run tab_ok 1 rfl ?_
          refine WG.nil ?_
          refine WE.again (i + 1) (⟨by omega, fun j hj => by
            by_cases e : j = i
            · subst e; exact hC
            · exact hst.2 j (by omega)⟩) (by (try dsimp only); omega) ⟨rfl, rfl, rfl, rfl, rfl, rfl, rfl, rfl⟩ (RLe.refl _) (by (repeat (first | exact List.Sublist.refl _ | exact List.nil_sublist _ | apply List.Sublist.cons_cons | apply List.Sublist.cons)); done)
      · try dsimp only at hc2
        obtain rfl : i = v.length := by omega
        have hok : leastOk v inc p = true := leastOk_yes hy1 hy2 hst.2
        refine W.exit ?_
        refine WE.then_exit ?_
        refine WE.then_exit ?_
        refine WE.blk_exit ?_
        refine WE.nxt ?_
        refine W.seq ?_
        refine W.region _ ?_
        refine WG.run tab_ok 2 rfl ?_
        refine WG.nil ?_
        refine WE.nxt ?_
        refine W.ret ?_
        refine WE.blk_ret ?_
        refine WE.then_ret ?_
        refine WE.then_ret ?_
        refine WE.blk_ret ?_
        refine WE.then_ret ?_
        refine WE.scope_ret ?_
        refine WE.subE (E' := E) (by (repeat (first | exact List.Sublist.refl _ | exact List.nil_sublist _ | apply List.Sublist.cons_cons | apply List.Sublist.cons)); done) ?_
        refine WE.retF tab_ok [_] rfl ⟨rfl, trivial⟩ (RLe.refl _) ?_
        exact ⟨by rw [leastL_some h1 (by omega) hok h3]; rfl, rfl⟩
  · try dsimp only at hc0
    refine W.exit ?_
    refine WE.then_exit ?_
    refine WE.then_exit ?_
    refine WE.blk_exit ?_
    refine WE.nxt ?_
    refine W.seq ?_
    refine W.region _ ?_
    refine WG.run tab_ok 2 rfl ?_
    refine WG.nil ?_
    refine WE.nxt ?_
    refine W.ret ?_
    refine WE.scope_ret ?_
    refine WE.subE (E' := E) (by (repeat (first | exact List.Sublist.refl _ | exact List.nil_sublist _ | apply List.Sublist.cons_cons | apply List.Sublist.cons)); done) ?_
    refine WE.retF tab_ok [_] rfl ⟨rfl, trivial⟩ (RLe.refl _) ?_
    exact ⟨by rw [leastL_none (fun j a b => h3 j a (by omega))]; rfl, rfl⟩

theorem Checked_C {R : Ro} {a : Option Addr} {c : Nat} {v : List Int} {p q : Int} {l : Nat} (ha : RS R 1 encI a v) (hvl : v.length = l) (w0 : World) (E : List Ent) : K.Fn Try.prog 130 [.slice a l c, .int .i64 p, .int .i64 q] w0 R E (fun r R' E' => ∃ (f : Option Addr) (fc : Nat), r = cvV f fc (checkedL v p q) ∧ RS R' 1 encI f (checkedL v p q).1.vals ∧ E.Sublist E') := by
  subst hvl
  have hla := ha.len
  refine Fn.enter (n := 33) Try.func130 rfl rfl (Nat.le_of_ble_eq_true rfl) rfl ?_
  refine W.seq ?_
  refine W.region _ ?_
  refine WL.ef rfl rfl (by decide) (Ef.alloc tab_ok rfl rfl (fun b6 => ?_))
  refine WG.run tab_ok 1 rfl ?_
  refine WG.nil ?_
  refine WE.nxt ?_
  refine W.seq ?_
  refine W.seq ?_
  refine W.region _ ?_
  refine WG.run tab_ok 3 rfl ?_
  refine WG.nil ?_
  refine WE.nxt ?_
  refine W.condD rfl (fun hc0 => ?_) (fun hc0 => ?_)
  · try dsimp only at hc0
    have hb : checkedE v = 3 := checkedE_big (by omega)
    refine W.seq ?_
    refine W.region _ ?_
    -- build
    refine WG.y rfl rfl (by decide) (Yl.build (parts := []) tab_ok rfl rfl rfl rfl (fun _ => rfl) rfl rfl) ?_
    first | refine WL.efN rfl rfl (Ef.store0 0 tab_ok rfl rfl rfl rfl rfl rfl rfl rfl ?_) | refine WL.efN rfl rfl (Ef.store0 1 tab_ok rfl rfl rfl rfl rfl rfl rfl rfl ?_) | refine WL.efN rfl rfl (Ef.store0 2 tab_ok rfl rfl rfl rfl rfl rfl rfl rfl ?_)
    refine WG.run tab_ok 1 rfl ?_
    refine WG.nil ?_
    refine WE.nxt ?_
    refine W.ret ?_
    refine WE.then_ret ?_
    refine WE.retF tab_ok [_, _] rfl ⟨⟨_, _, _, rfl, rfl, rfl, ((by first | exact Rd.blk 0 rfl | exact Rd.blk 1 rfl | exact Rd.blk 2 rfl)), rfl⟩, rfl, trivial⟩ ((by first | exact hR1 | exact RLe.refl _)) ?_
    exact ⟨none, 0, by rw [checkedL_bad hb]; rfl, by rw [checkedL_bad hb]; exact rs_nil, (by (repeat (first | exact List.Sublist.refl _ | exact List.nil_sublist _ | apply List.Sublist.cons_cons | apply List.Sublist.cons)); done)⟩
  · try dsimp only at hc0
    refine W.skip ?_
    refine WE.nxt ?_
    refine W.seq ?_
    refine W.seq ?_
    refine W.region _ ?_
    refine WG.run tab_ok 3 rfl ?_
    refine WG.nil ?_
    refine WE.nxt ?_
    refine W.block ?_
    refine W.loopK (β := Nat) (fun i => i ≤ v.length ∧ ∀ j, j < i → nth v j = INF ∨ nth v j ≤ MAXV) (fun i => [(16, true, .int .i64 (i : Int))]) [0, 1, 2, 6, 14, 15] [_, _, _, _, _, _] [] _ rfl (fun i => []) (fun i => v.length - i) (0) (⟨Nat.zero_le _, fun j hj => by omega⟩) ⟨rfl, rfl, rfl, rfl, rfl, rfl, rfl, rfl⟩ (by (repeat (first | exact List.Sublist.refl _ | exact List.nil_sublist _ | apply List.Sublist.cons_cons | apply List.Sublist.cons)); done) ?_
    intro i hst
    dsimp only [zipE, setAll, List.cons_append, List.nil_append, List.set_cons_zero, List.set_cons_succ] at hst ⊢
    
    refine W.seq ?_
    refine W.region _ ?_
    refine WG.run tab_ok 1 rfl ?_
    refine WG.nil ?_
    refine WE.nxt ?_
    refine W.seq ?_
    refine W.condD rfl (fun hc1 => ?_) (fun hc1 => ?_)
    · try dsimp only at hc1
      refine W.skip ?_
      refine WE.nxt ?_
      refine W.seq ?_
      refine W.block ?_
      refine W.seq ?_
      refine W.region _ ?_
      refine WG.y rfl rfl (by decide) (Yl.indexN tab_ok rfl rfl rfl rfl rfl rfl (fun _ => rfl) (by intro _; (try dsimp only) <;> omega) (by intro _; first | exact fun _ _ _ _ => rfl | exact RS.has (by assumption) | exact fun _ _ _ _ => (by assumption) | exact HasMem.ownD 0 rfl | exact HasMem.ownD 1 rfl | exact HasMem.ownD 2 rfl)) ?_
      refine' WG.y rfl rfl (by decide) (Yl.load1 tab_ok rfl rfl rfl (fun _ => rfl) ?r1 rfl ?h1) ?_
      case r1 => (first | (apply RS.rdD; assumption; ((try dsimp only) <;> omega)) | exact Rd.slD 0 rfl (by (try dsimp only) <;> omega) | exact Rd.slD 1 rfl (by (try dsimp only) <;> omega) | exact Rd.slD 2 rfl (by (try dsimp only) <;> omega))
      case h1 => rfl
      refine WG.run tab_ok 1 rfl ?_
      refine WG.nil ?_
      refine WE.nxt ?_
      refine W.seq ?_
      refine W.region _ ?_
      refine WG.run tab_ok 3 rfl ?_
      refine WG.y rfl rfl (by decide) (pureV_ok tab_ok rfl (by first | exact fun _ => rfl | exact fun h => h | (intro h; simp_all))) ?_
      refine WG.y rfl rfl (by decide) (pureV_ok tab_ok rfl (by first | exact fun _ => rfl | exact fun h => h | (intro h; simp_all))) ?_
      refine WG.y rfl rfl (by decide) (Yl.pand rfl rfl rfl (fun _ => rfl) (by intro h1 h2; simp_all <;> omega)) ?_
      refine WG.nil ?_
      refine WE.nxt ?_
      refine W.cond rfl (fun hc2 => ?_) (fun hc2 => ?_)
      · try simp only [decide_eq_true_eq, decide_eq_false_iff_not, beq_iff_eq, bne_iff_ne, beq_eq_false_iff_ne, bne_eq_false_iff_eq, ne_eq, Bool.or_eq_true, Bool.or_eq_false_iff, Bool.and_eq_true, Bool.and_eq_false_imp, Bool.not_eq_true, Bool.not_eq_true', Bool.not_eq_false', Classical.not_not, Int.not_lt, Int.not_le, gt_iff_lt, ge_iff_le] at hc2
        have hb : checkedE v = 3 := checkedE_one (i := i) (by omega) hc2.1 hc2.2
        refine W.seq ?_
        refine W.region _ ?_
        -- build
        refine WG.y rfl rfl (by decide) (Yl.build (parts := []) tab_ok rfl rfl rfl rfl (fun _ => rfl) rfl rfl) ?_
        first | refine WL.efN rfl rfl (Ef.store0 0 tab_ok rfl rfl rfl rfl rfl rfl rfl rfl ?_) | refine WL.efN rfl rfl (Ef.store0 1 tab_ok rfl rfl rfl rfl rfl rfl rfl rfl ?_) | refine WL.efN rfl rfl (Ef.store0 2 tab_ok rfl rfl rfl rfl rfl rfl rfl rfl ?_)
        refine WG.run tab_ok 1 rfl ?_
        refine WG.nil ?_
        refine WE.nxt ?_
        refine W.ret ?_
        refine WE.blk_ret ?_
        refine WE.then_ret ?_
        refine WE.then_ret ?_
        refine WE.blk_ret ?_
        refine WE.then_ret ?_
        refine WE.retF tab_ok [_, _] rfl ⟨⟨_, _, _, rfl, rfl, rfl, ((by first | exact Rd.blk 0 rfl | exact Rd.blk 1 rfl | exact Rd.blk 2 rfl)), rfl⟩, rfl, trivial⟩ ((by first | exact hR1 | exact RLe.refl _)) ?_
        exact ⟨none, 0, by rw [checkedL_bad hb]; rfl, by rw [checkedL_bad hb]; exact rs_nil, (by (repeat (first | exact List.Sublist.refl _ | exact List.nil_sublist _ | apply List.Sublist.cons_cons | apply List.Sublist.cons)); done)⟩
      · try simp only [decide_eq_true_eq, decide_eq_false_iff_not, beq_iff_eq, bne_iff_ne, beq_eq_false_iff_ne, bne_eq_false_iff_eq, ne_eq, Bool.or_eq_true, Bool.or_eq_false_iff, Bool.and_eq_true, Bool.and_eq_false_imp, Bool.not_eq_true, Bool.not_eq_true', Bool.not_eq_false', Classical.not_not, Int.not_lt, Int.not_le, gt_iff_lt, ge_iff_le] at hc2
        have hy : nth v i = INF ∨ nth v i ≤ MAXV := by unfold INF MAXV; omega
        refine W.skip ?_
        refine WE.blk _ ?_
        refine WE.nxt ?_
        refine W.region _ ?_
        refine WG.y rfl rfl (by decide) (Yl.add rfl rfl rfl (fun _ => rfl) (by intro _; constructor <;> (try dsimp only) <;> omega)) ?_
        refine WG.run tab_ok 1 rfl ?_
        refine WG.nil ?_
        refine WE.again (i + 1) (⟨by omega, fun j hj => by
          by_cases e : j = i
          · subst e; exact hy
          · exact hst.2 j (by omega)⟩) (by (try dsimp only); omega) ⟨rfl, rfl, rfl, rfl, rfl, rfl, rfl, rfl⟩ (RLe.refl _) (by (repeat (first | exact List.Sublist.refl _ | exact List.nil_sublist _ | apply List.Sublist.cons_cons | apply List.Sublist.cons)); done)
    · try dsimp only at hc1
      obtain rfl : i = v.length := by omega
      have hg : checkedE v ≠ 3 := checkedE_fine (by omega) hst.2
      refine W.exit ?_
      refine WE.then_exit ?_
      refine WE.then_exit ?_
      refine WE.blk_exit ?_
      refine WE.nxt ?_
      refine W.nil 3 1 (by decide) ?_
      refine W.seq ?_
      refine W.region _ ?_
      refine WG.run tab_ok 1 rfl ?_
      refine WL.ef rfl rfl (by decide) (Ef.cloneR (enc := encI) 0 tab_ok rfl rfl rfl rfl rfl rfl rfl rfl rfl rfl ha (fun _ _ => rfl) (by dsimp only; omega) (by omega) (fun a29 c29 ha29 => ?_))
      refine WG.run tab_ok 2 rfl ?_
      -- build
      refine WG.y rfl rfl (by decide) (Yl.build (parts := [(0, .tmp 29), (1, .tmp 30), (2, .tmp 31)]) tab_ok rfl rfl rfl rfl (fun _ => rfl) rfl rfl) ?_
      first | refine WL.efN rfl rfl (Ef.store0 0 tab_ok rfl rfl rfl rfl rfl rfl rfl rfl ?_) | refine WL.efN rfl rfl (Ef.store0 1 tab_ok rfl rfl rfl rfl rfl rfl rfl rfl ?_) | refine WL.efN rfl rfl (Ef.store0 2 tab_ok rfl rfl rfl rfl rfl rfl rfl rfl ?_)
      refine WG.run tab_ok 1 rfl ?_
      refine WL.freeze (enc := encI) (xs := v) 0 rfl ?_
      intro R1 hR1 hz
      refine WG.nil ?_
      refine WE.nxt ?_
      refine W.ret ?_
      refine WE.retF tab_ok [_, _] rfl ⟨⟨_, _, _, rfl, rfl, rfl, ((by first | exact Rd.blk 0 rfl | exact Rd.blk 1 rfl | exact Rd.blk 2 rfl)), rfl⟩, rfl, trivial⟩ ((by first | exact hR1 | exact RLe.refl _)) ?_
      exact ⟨a29, c29, by rw [checkedL_good hg]; rfl, by rw [checkedL_good hg]; exact hz, (by (repeat (first | exact List.Sublist.refl _ | exact List.nil_sublist _ | apply List.Sublist.cons_cons | apply List.Sublist.cons)); done)⟩

theorem Ending_C {R : Ro} {a : Option Addr} {c : Nat} {v : List Int} {l : Nat} (ha : RS R 1 encI a v) (hvl : v.length = l) (w0 : World) (E : List Ent) : K.Fn Try.prog 128 [.slice a l c] w0 R E (fun r R' E' => ∃ (f : Option Addr) (fc : Nat), r = cvV f fc (checkedL v 1 0) ∧ RS R' 1 encI f (checkedL v 1 0).1.vals ∧ E.Sublist E') := by
  refine Fn.enter (n := 8) Try.func128 rfl rfl (Nat.le_of_ble_eq_true rfl) rfl ?_
  refine W.seq ?_
  refine W.region _ ?_
  refine WL.ef rfl rfl (by decide) (Ef.alloc tab_ok rfl rfl (fun b2 => ?_))
  refine WG.run tab_ok 1 rfl ?_
  refine WG.nil ?_
  refine WE.nxt ?_
  refine W.seq ?_
  refine W.region _ ?_
  refine WG.run tab_ok 1 rfl ?_
  refine WL.call en130 rfl rfl (by decide) (CallOp.mkT rfl rfl rfl rfl) (Checked_C ha hvl w0 _) ?_
  rintro _ R1 E1 hR1 ⟨f, fc, rfl, hf, hsub⟩
  refine WL.subE hsub ?_
  unfold cvV
  refine WG.run tab_ok 2 rfl ?_
  first | refine WL.efN rfl rfl (Ef.store0 0 tab_ok rfl rfl rfl rfl rfl rfl rfl rfl ?_) | refine WL.efN rfl rfl (Ef.store0 1 tab_ok rfl rfl rfl rfl rfl rfl rfl rfl ?_) | refine WL.efN rfl rfl (Ef.store0 2 tab_ok rfl rfl rfl rfl rfl rfl rfl rfl ?_)
  refine WG.run tab_ok 1 rfl ?_
  refine WG.nil ?_
  refine WE.nxt ?_
  refine W.ret ?_
  refine WE.retF tab_ok [_, _] rfl ⟨⟨_, _, _, rfl, rfl, rfl, ((by first | exact Rd.blk 0 rfl | exact Rd.blk 1 rfl | exact Rd.blk 2 rfl)), rfl⟩, rfl, trivial⟩ (hR1) ?_
  exact ⟨f, fc, rfl, hf, (by (repeat (first | exact List.Sublist.refl _ | exact List.nil_sublist _ | apply List.Sublist.cons_cons | apply List.Sublist.cons)); done)⟩

theorem Build_C {R : Ro} {g : FuncId} {fi ca : Array Value} {F : Nat → Int} {S P : Nat} {I : Int} (hE : Enters Try.prog g) (hS : S ≤ 10000) (hP : 0 < P ∧ P ≤ 10000) (hI : 0 ≤ I ∧ I ≤ 1000000000000) (hFb : ∀ t, t < S + P → F t = INF ∨ (0 ≤ F t ∧ F t ≤ 1000000000000000)) (hF : ∀ t : Nat, t < S + P → FnV Try.prog g (fi.toList ++ [.int .i64 (t : Int)] ++ ca.toList) R (.int .i64 (F t))) (w0 : World) (E : List Ent) :
    K.Fn Try.prog 81 [.func (.func g) fi ca, .int .i64 (S : Int), .int .i64 (P : Int), .int .i64 I] w0 R E (fun r R' E' => ∃ (f : Option Addr) (fc : Nat), r = cvV f fc (mbuild F S P I) ∧ RS R' 1 encI f (mbuild F S P I).1.vals ∧ E.Sublist E') := by
  have hsp : ((S : Int) + (P : Int)).toNat = S + P := by omega
  refine Fn.enter (n := 90) Try.func81 rfl rfl (Nat.le_of_ble_eq_true rfl) rfl ?_
  refine W.seq ?_
  refine W.region _ ?_
  refine WL.ef rfl rfl (by decide) (Ef.alloc tab_ok rfl rfl (fun b8 => ?_))
  refine WG.run tab_ok 1 rfl ?_
  refine WG.nil ?_
  refine WE.nxt ?_
  refine W.seq ?_
  refine W.region _ ?_
  refine WG.run tab_ok 2 rfl ?_
  refine WG.y rfl rfl (by decide) (Yl.add rfl rfl rfl (fun _ => rfl) (by intro _; constructor <;> (try dsimp only) <;> omega)) ?_
  refine WL.ef rfl rfl (by decide) (Ef.makeSliceD (enc := encI) 0 tab_ok rfl rfl rfl rfl rfl rfl (by (try dsimp only) <;> omega) (by (try dsimp only) <;> omega) (by (try dsimp only) <;> omega) (by (try dsimp only) <;> omega) (by decide) rfl rfl (fun a17 => ?_))
  refine WG.run tab_ok 1 rfl ?_
  refine WG.nil ?_
  refine WE.nxt ?_
  refine W.seq ?_
  refine W.seq ?_
  refine W.region _ ?_
  refine WG.run tab_ok 3 rfl ?_
  refine WG.nil ?_
  refine WE.nxt ?_
  refine W.block ?_
  refine W.loopK (β := Nat) (fun t => t ≤ S + P ∧ ∀ j, j < t → F j ≠ INF) (fun t => [(20, true, .int .i64 (t : Int))]) [0, 1, 2, 3, 8, 10, 19] [_, _, _, _, _, _, _] [] _ rfl (fun t => [(0, .sl 3 1 (some ⟨a17, 0, none⟩) (S + P) ((partV F t (S + P)).map encI))]) (fun t => S + P - t) (0) (⟨Nat.zero_le _, fun j hj => by omega⟩) ⟨rfl, rfl, rfl, rfl, rfl, rfl, rfl, rfl, rfl⟩ (by (repeat (first | exact List.Sublist.refl _ | exact List.nil_sublist _ | apply List.Sublist.cons_cons | apply List.Sublist.cons)); done) ?_
  intro t hst
  dsimp only [zipE, setAll, List.cons_append, List.nil_append, List.set_cons_zero, List.set_cons_succ] at hst ⊢
  have hpl := partV_len F (t := t) (n := S + P) (by omega)
  obtain ⟨ht, hni⟩ := hst
  refine W.seq ?_
  refine W.region _ ?_
  refine WG.run tab_ok 1 rfl ?_
  refine WG.nil ?_
  refine WE.nxt ?_
  refine W.seq ?_
  refine W.condD rfl (fun hc0 => ?_) (fun hc0 => ?_)
  · try dsimp only at hc0
    have htl : t < S + P := by omega
    have hset := partV_set F htl
    have hnt := partV_nth F (t := t) (k := t + 1) (n := S + P) (by omega)
    have hbt := hFb t htl
    refine W.skip ?_
    refine WE.nxt ?_
    refine W.seq ?_
    refine W.block ?_
    refine W.seq ?_
    refine W.region _ ?_
    refine WG.run tab_ok 2 rfl ?_
    refine WG.nil ?_
    refine WE.nxt ?_
    refine W.seq ?_
    refine W.region _ ?_
    refine WG.run tab_ok 4 rfl ?_
    refine WG.callV hE rfl rfl (by decide) (CallOp.mk' rfl rfl rfl rfl) (fun _ => rfl) (fun hg => hF t (by omega)) ?_
    refine WG.y rfl rfl (by decide) (Yl.indexN tab_ok rfl rfl rfl rfl rfl rfl (fun _ => rfl) (by intro _; (try dsimp only) <;> omega) (by intro _; first | exact fun _ _ _ _ => rfl | exact RS.has (by assumption) | exact fun _ _ _ _ => (by assumption) | exact HasMem.ownD 0 rfl | exact HasMem.ownD 1 rfl | exact HasMem.ownD 2 rfl | exact HasMem.ownD 3 rfl)) ?_
    first | refine WL.efN rfl rfl (Ef.storeD _ 0 tab_ok rfl rfl rfl rfl rfl (by (try dsimp only) <;> omega) rfl rfl rfl rfl ?_) | refine WL.efN rfl rfl (Ef.storeD _ 1 tab_ok rfl rfl rfl rfl rfl (by (try dsimp only) <;> omega) rfl rfl rfl rfl ?_) | refine WL.efN rfl rfl (Ef.storeD _ 2 tab_ok rfl rfl rfl rfl rfl (by (try dsimp only) <;> omega) rfl rfl rfl rfl ?_) | refine WL.efN rfl rfl (Ef.storeD _ 3 tab_ok rfl rfl rfl rfl rfl (by (try dsimp only) <;> omega) rfl rfl rfl rfl ?_)
    refine WG.nil ?_
    refine WE.nxt ?_
    have hnt2 : nth ((partV F t (S + P)).set t (F t)) t = F t := by rw [hset]; exact hnt
    refine W.seq ?_
    refine W.region _ ?_
    refine WG.run tab_ok 2 rfl ?_
    refine WG.y rfl rfl (by decide) (Yl.indexN tab_ok rfl rfl rfl rfl rfl rfl (fun _ => rfl) (by intro _; (try dsimp only) <;> omega) (by intro _; first | exact fun _ _ _ _ => rfl | exact RS.has (by assumption) | exact fun _ _ _ _ => (by assumption) | exact HasMem.ownD 0 rfl | exact HasMem.ownD 1 rfl | exact HasMem.ownD 2 rfl | exact HasMem.ownD 3 rfl)) ?_
    refine' WG.y rfl rfl (by decide) (Yl.load1 tab_ok rfl rfl rfl (fun _ => rfl) ?r1 rfl ?h1) ?_
    case r1 => exact Rd.slD 0 rfl (by rw [List.length_set]; omega)
    case h1 => rfl
    refine WG.run tab_ok 1 rfl ?_
    refine WG.nil ?_
    refine WE.nxt ?_
    refine W.condE rfl (fun hc1 => ?_) (fun hc1 => ?_)
    · try dsimp only at hc1
      have hinf : F t = INF := by rw [← hnt, ← hset]; exact hc1
      have hmb : mbuild F S P I = checkedL (fvals F (t + 1)) 1 0 := by unfold mbuild; rw [infAt_some htl hinf hni, if_neg (by omega), Int.toNat_natCast]
      refine W.freeze (enc := encI) (xs := partV F (t + 1) (S + P)) 0 (by rw [← hset]; rfl) ?_
      intro R1 hR1 hz
      refine W.seq ?_
      refine W.region _ ?_
      refine WG.run tab_ok 2 rfl ?_
      refine WG.y rfl rfl (by decide) (Yl.add rfl rfl rfl (fun _ => rfl) (by intro _; constructor <;> (try dsimp only) <;> omega)) ?_
      refine WG.y rfl rfl (by decide) (Yl.sliceH tab_ok rfl rfl rfl rfl rfl (fun _ => rfl) (by intro _; omega) rfl) ?_
      refine WL.call en128 rfl rfl (by decide) (CallOp.mkT rfl rfl rfl rfl) (Ending_C (by have := hz.take (t + 1); rwa [partV_take] at this) (by rw [fvals_len]; omega) w0 _) ?_
      rintro _ R2 E2 hR2 ⟨f, fc, rfl, hf, hsub⟩
      refine WL.subE hsub ?_
      unfold cvV
      refine WG.run tab_ok 2 rfl ?_
      first | refine WL.efN rfl rfl (Ef.store0 0 tab_ok rfl rfl rfl rfl rfl rfl rfl rfl ?_) | refine WL.efN rfl rfl (Ef.store0 1 tab_ok rfl rfl rfl rfl rfl rfl rfl rfl ?_) | refine WL.efN rfl rfl (Ef.store0 2 tab_ok rfl rfl rfl rfl rfl rfl rfl rfl ?_) | refine WL.efN rfl rfl (Ef.store0 3 tab_ok rfl rfl rfl rfl rfl rfl rfl rfl ?_)
      refine WG.run tab_ok 1 rfl ?_
      refine WG.nil ?_
      refine WE.nxt ?_
      refine W.ret ?_
      refine WE.blk_ret ?_
      refine WE.then_ret ?_
      refine WE.then_ret ?_
      refine WE.blk_ret ?_
      refine WE.then_ret ?_
      refine WE.retF tab_ok [_, _] rfl ⟨⟨_, _, _, rfl, rfl, rfl, ((by first | exact Rd.blk 0 rfl | exact Rd.blk 1 rfl | exact Rd.blk 2 rfl | exact Rd.blk 3 rfl)), rfl⟩, rfl, trivial⟩ ((by first | exact hR1 | exact hR1.trans hR2)) ?_
      exact ⟨f, fc, by rw [hmb]; rfl, by rw [hmb]; exact hf, (by (repeat (first | exact List.Sublist.refl _ | exact List.nil_sublist _ | apply List.Sublist.cons_cons | apply List.Sublist.cons)); done)⟩
    · try dsimp only at hc1
      have hinf : F t ≠ INF := by rw [← hnt, ← hset]; exact hc1
      refine W.skip ?_
      refine WE.blk _ ?_
      refine WE.nxt ?_
      refine W.region _ ?_
      refine WG.y rfl rfl (by decide) (Yl.add rfl rfl rfl (fun _ => rfl) (by intro _; constructor <;> (try dsimp only) <;> omega)) ?_
      refine WG.run tab_ok 1 rfl ?_
      refine WG.nil ?_
      refine WE.again (t + 1) (⟨by omega, fun j hj => by
        by_cases e : j = t
        · subst e; exact hinf
        · exact hni j (by omega)⟩) (by (try dsimp only); omega) ⟨rfl, rfl, rfl, rfl, rfl, rfl, rfl, rfl, rfl⟩ (RLe.refl _) (by dsimp only [setAll, List.set_cons_zero, List.set_cons_succ]; rw [← hset]; exact (by (repeat (first | exact List.Sublist.refl _ | exact List.nil_sublist _ | apply List.Sublist.cons_cons | apply List.Sublist.cons)); done))
  · try dsimp only at hc0
    obtain rfl : t = S + P := by omega
    refine W.exit ?_
    refine WE.then_exit ?_
    refine WE.then_exit ?_
    refine WE.blk_exit ?_
    refine WE.nxt ?_
    rw [partV_all]
    refine W.freeze (enc := encI) (xs := fvals F (S + P)) 0 rfl ?_
    intro R1 hR1 hz
    have hmi := infAt_none (F := F) (n := S + P) hni
    have hlp : 1 ≤ (leastL ((fvals F (S + P)).drop S) I) ∧ (leastL ((fvals F (S + P)).drop S) I) ≤ P := by
      have := leastL_pos (v := (fvals F (S + P)).drop S) (inc := I) (by simp [fvals_len]; omega)
      simp only [List.length_drop, fvals_len] at this
      omega
    have hvb : ∀ x ∈ fvals F (S + P), 0 ≤ x ∧ x ≤ 1000000000000000 := all_of_nth (fun j hj => by
      rw [fvals_len] at hj
      rw [fvals_nth F hj]
      exact (hFb j hj).resolve_left (hni j hj))
    have hvn : ∀ j, j < S + P → 0 ≤ nth (fvals F (S + P)) j ∧ nth (fvals F (S + P)) j ≤ 1000000000000000 := fun j hj => hvb _ (nth_mem (by rw [fvals_len]; exact hj))
    have hIp : 0 ≤ I * ((leastL ((fvals F (S + P)).drop S) I) : Int) ∧ I * ((leastL ((fvals F (S + P)).drop S) I) : Int) ≤ 1000000000000 * 10000 := ⟨Int.mul_nonneg hI.1 (by omega), Int.mul_le_mul hI.2 (by omega) (by omega) (by omega)⟩
    have hIq : 0 ≤ (I * ((leastL ((fvals F (S + P)).drop S) I) : Int) / (P : Int)) ∧ (I * ((leastL ((fvals F (S + P)).drop S) I) : Int) / (P : Int)) ≤ 1000000000000 * 10000 := ⟨Int.ediv_nonneg hIp.1 (by omega), Int.le_trans (Int.ediv_le_self _ hIp.1) hIp.2⟩
    have hfl := fvals_len F (S + P)
    refine W.seq ?_
    refine W.region _ ?_
    refine WG.run tab_ok 2 rfl ?_
    refine WG.y rfl rfl (by decide) (Yl.sliceL tab_ok rfl rfl rfl rfl rfl rfl (fun _ => rfl) (by intro _; omega)) ?_
    refine WG.run tab_ok 1 rfl ?_
    refine WG.callV en129 rfl rfl (by decide) (CallOp.mk' rfl rfl rfl rfl) (fun _ => rfl) (fun hg => LeastW_V (hz.subL (l := S) (cap := S + P) (by rw [fvals_len]; omega) (by rw [fvals_len]; omega)) (by simp [fvals_len]; omega) (by omega) hI (fun x hx => hvb x (List.mem_of_mem_drop hx))) ?_
    refine WG.run tab_ok 1 rfl ?_
    refine WG.nil ?_
    refine WE.nxt ?_
    refine W.seq ?_
    refine W.region _ ?_
    refine WG.run tab_ok 2 rfl ?_
    refine WG.y rfl rfl (by decide) (Yl.mul rfl rfl rfl (fun _ => rfl) (by intro _; constructor <;> (try dsimp only) <;> omega)) ?_
    refine WG.run tab_ok 1 rfl ?_
    refine WG.y rfl rfl (by decide) (Yl.quo rfl rfl rfl (fun _ => rfl) (by intro _; constructor <;> (try dsimp only) <;> omega) (by intro _; omega)) ?_
    refine WG.run tab_ok 1 rfl ?_
    refine WG.nil ?_
    refine WE.nxt ?_
    refine W.seq ?_
    refine W.block ?_
    refine W.loopK (β := Nat) (fun s => s ≤ S ∧ downL (fvals F (S + P)) (leastL ((fvals F (S + P)).drop S) I) (I * (leastL ((fvals F (S + P)).drop S) I : Int) / (P : Int)) s = downL (fvals F (S + P)) (leastL ((fvals F (S + P)).drop S) I) (I * (leastL ((fvals F (S + P)).drop S) I : Int) / (P : Int)) S) (fun s => [(1, true, .int .i64 (s : Int))]) [8, 10, 12, 13] [_, _, _, _] [] _ rfl (fun s => []) (fun s => s) (S) (⟨Nat.le_refl _, rfl⟩) ⟨rfl, rfl, rfl, rfl, rfl, rfl⟩ (by (repeat (first | exact List.Sublist.refl _ | exact List.nil_sublist _ | apply List.Sublist.cons_cons | apply List.Sublist.cons)); done) ?_
    intro s hst
    dsimp only [zipE, setAll, List.cons_append, List.nil_append, List.set_cons_zero, List.set_cons_succ] at hst ⊢
    obtain ⟨hs, hd⟩ := hst
    have hs1 : 0 < s → ((s : Int) - 1).toNat = s - 1 := fun _ => by omega
    have hs2 : 0 < s → ((s : Int) - 1 + ((leastL ((fvals F (S + P)).drop S) I) : Int)).toNat = s - 1 + (leastL ((fvals F (S + P)).drop S) I) := fun _ => by omega
    have hb1 : 0 < s → 0 ≤ nth (fvals F (S + P)) ((s : Int) - 1).toNat ∧ nth (fvals F (S + P)) ((s : Int) - 1).toNat ≤ 1000000000000000 := fun h => hvn _ (by omega)
    refine W.seq ?_
    refine W.seq ?_
    refine W.regionQ _ mixed (by kernel_rfl) ?_
    refine WG.run tab_ok 3 rfl ?_
    refine WG.y rfl rfl (by decide) (pureV_ok tab_ok rfl (by first | exact fun _ => rfl | exact fun h => h | (intro h; simp_all))) ?_
    refine WG.y rfl rfl (by decide) (pureV_ok tab_ok rfl (by first | exact fun _ => rfl | exact fun h => h | (intro h; simp_all))) ?_
    refine WG.y rfl rfl (by decide) (Yl.sub rfl rfl rfl (by first | exact fun _ => rfl | exact fun h => h | (intro h; simp_all)) (by intro hg; (try simp only [decide_eq_true_eq, decide_eq_false_iff_not, beq_iff_eq, bne_iff_ne, beq_eq_false_iff_ne, bne_eq_false_iff_eq, ne_eq, Bool.or_eq_true, Bool.or_eq_false_iff, Bool.and_eq_true, Bool.and_eq_false_imp, Bool.not_eq_true, Bool.not_eq_true', Bool.not_eq_false', Classical.not_not, Int.not_lt, Int.not_le, gt_iff_lt, ge_iff_le] at hg); constructor <;> (try dsimp only) <;> omega)) ?_
    refine WG.y rfl rfl (by decide) (Yl.index tab_ok rfl rfl rfl rfl rfl rfl (by first | exact fun _ => rfl | exact fun h => h | (intro h; simp_all)) (by intro hg; (try simp only [decide_eq_true_eq, decide_eq_false_iff_not, beq_iff_eq, bne_iff_ne, beq_eq_false_iff_ne, bne_eq_false_iff_eq, ne_eq, Bool.or_eq_true, Bool.or_eq_false_iff, Bool.and_eq_true, Bool.and_eq_false_imp, Bool.not_eq_true, Bool.not_eq_true', Bool.not_eq_false', Classical.not_not, Int.not_lt, Int.not_le, gt_iff_lt, ge_iff_le] at hg); constructor <;> (try dsimp only) <;> omega) (by intro hg; (try simp only [decide_eq_true_eq, decide_eq_false_iff_not, beq_iff_eq, bne_iff_ne, beq_eq_false_iff_ne, bne_eq_false_iff_eq, ne_eq, Bool.or_eq_true, Bool.or_eq_false_iff, Bool.and_eq_true, Bool.and_eq_false_imp, Bool.not_eq_true, Bool.not_eq_true', Bool.not_eq_false', Classical.not_not, Int.not_lt, Int.not_le, gt_iff_lt, ge_iff_le] at hg); first | exact fun _ _ _ _ => rfl | exact RS.has (by assumption) | exact fun _ _ _ _ => (by assumption) | exact HasMem.ownD 0 rfl | exact HasMem.ownD 1 rfl | exact HasMem.ownD 2 rfl | exact HasMem.ownD 3 rfl)) ?_
    refine' WG.y rfl rfl (by decide) (Yl.loadG tab_ok rfl rfl rfl (by first | exact fun _ => rfl | exact fun h => h | (intro h; simp_all)) ?r2 rfl ?h2 ?g2) ?_
    case r2 => (first | (apply RS.rdC; assumption) | exact Rd.slC 0 rfl | exact Rd.slC 1 rfl | exact Rd.slC 2 rfl | exact Rd.slC 3 rfl)
    case h2 => rfl
    case g2 => first | exact fun _ => trivial | (intro hg; (try simp only [decide_eq_true_eq, decide_eq_false_iff_not, beq_iff_eq, bne_iff_ne, beq_eq_false_iff_ne, bne_eq_false_iff_eq, ne_eq, Bool.or_eq_true, Bool.or_eq_false_iff, Bool.and_eq_true, Bool.and_eq_false_imp, Bool.not_eq_true, Bool.not_eq_true', Bool.not_eq_false', Classical.not_not, Int.not_lt, Int.not_le, gt_iff_lt, ge_iff_le] at hg); (try dsimp only); omega)
    refine WG.y rfl rfl (by decide) (pureV_ok tab_ok rfl (by first | exact fun _ => rfl | exact fun h => h | (intro h; simp_all))) ?_
    refine WG.y rfl rfl (by decide) (Yl.add rfl rfl rfl (by first | exact fun _ => rfl | exact fun h => h | (intro h; simp_all)) (by intro hg; (try simp only [decide_eq_true_eq, decide_eq_false_iff_not, beq_iff_eq, bne_iff_ne, beq_eq_false_iff_ne, bne_eq_false_iff_eq, ne_eq, Bool.or_eq_true, Bool.or_eq_false_iff, Bool.and_eq_true, Bool.and_eq_false_imp, Bool.not_eq_true, Bool.not_eq_true', Bool.not_eq_false', Classical.not_not, Int.not_lt, Int.not_le, gt_iff_lt, ge_iff_le] at hg); constructor <;> (try dsimp only) <;> omega)) ?_
    refine WG.y rfl rfl (by decide) (pureV_ok tab_ok rfl (by first | exact fun _ => rfl | exact fun h => h | (intro h; simp_all))) ?_
    refine WG.y rfl rfl (by decide) (pureV_ok tab_ok rfl (by first | exact fun _ => rfl | exact fun h => h | (intro h; simp_all))) ?_
    refine WG.y rfl rfl (by decide) (Yl.sub rfl rfl rfl (by first | exact fun _ => rfl | exact fun h => h | (intro h; simp_all)) (by intro hg; (try simp only [decide_eq_true_eq, decide_eq_false_iff_not, beq_iff_eq, bne_iff_ne, beq_eq_false_iff_ne, bne_eq_false_iff_eq, ne_eq, Bool.or_eq_true, Bool.or_eq_false_iff, Bool.and_eq_true, Bool.and_eq_false_imp, Bool.not_eq_true, Bool.not_eq_true', Bool.not_eq_false', Classical.not_not, Int.not_lt, Int.not_le, gt_iff_lt, ge_iff_le] at hg); constructor <;> (try dsimp only) <;> omega)) ?_
    refine WG.y rfl rfl (by decide) (pureV_ok tab_ok rfl (by first | exact fun _ => rfl | exact fun h => h | (intro h; simp_all))) ?_
    refine WG.y rfl rfl (by decide) (Yl.add rfl rfl rfl (by first | exact fun _ => rfl | exact fun h => h | (intro h; simp_all)) (by intro hg; (try simp only [decide_eq_true_eq, decide_eq_false_iff_not, beq_iff_eq, bne_iff_ne, beq_eq_false_iff_ne, bne_eq_false_iff_eq, ne_eq, Bool.or_eq_true, Bool.or_eq_false_iff, Bool.and_eq_true, Bool.and_eq_false_imp, Bool.not_eq_true, Bool.not_eq_true', Bool.not_eq_false', Classical.not_not, Int.not_lt, Int.not_le, gt_iff_lt, ge_iff_le] at hg); constructor <;> (try dsimp only) <;> omega)) ?_
    refine WG.y rfl rfl (by decide) (Yl.index tab_ok rfl rfl rfl rfl rfl rfl (by first | exact fun _ => rfl | exact fun h => h | (intro h; simp_all)) (by intro hg; (try simp only [decide_eq_true_eq, decide_eq_false_iff_not, beq_iff_eq, bne_iff_ne, beq_eq_false_iff_ne, bne_eq_false_iff_eq, ne_eq, Bool.or_eq_true, Bool.or_eq_false_iff, Bool.and_eq_true, Bool.and_eq_false_imp, Bool.not_eq_true, Bool.not_eq_true', Bool.not_eq_false', Classical.not_not, Int.not_lt, Int.not_le, gt_iff_lt, ge_iff_le] at hg); constructor <;> (try dsimp only) <;> omega) (by intro hg; (try simp only [decide_eq_true_eq, decide_eq_false_iff_not, beq_iff_eq, bne_iff_ne, beq_eq_false_iff_ne, bne_eq_false_iff_eq, ne_eq, Bool.or_eq_true, Bool.or_eq_false_iff, Bool.and_eq_true, Bool.and_eq_false_imp, Bool.not_eq_true, Bool.not_eq_true', Bool.not_eq_false', Classical.not_not, Int.not_lt, Int.not_le, gt_iff_lt, ge_iff_le] at hg); first | exact fun _ _ _ _ => rfl | exact RS.has (by assumption) | exact fun _ _ _ _ => (by assumption) | exact HasMem.ownD 0 rfl | exact HasMem.ownD 1 rfl | exact HasMem.ownD 2 rfl | exact HasMem.ownD 3 rfl)) ?_
    refine' WG.y rfl rfl (by decide) (Yl.loadG tab_ok rfl rfl rfl (by first | exact fun _ => rfl | exact fun h => h | (intro h; simp_all)) ?r3 rfl ?h3 ?g3) ?_
    case r3 => (first | (apply RS.rdC; assumption) | exact Rd.slC 0 rfl | exact Rd.slC 1 rfl | exact Rd.slC 2 rfl | exact Rd.slC 3 rfl)
    case h3 => rfl
    case g3 => first | exact fun _ => trivial | (intro hg; (try simp only [decide_eq_true_eq, decide_eq_false_iff_not, beq_iff_eq, bne_iff_ne, beq_eq_false_iff_ne, bne_eq_false_iff_eq, ne_eq, Bool.or_eq_true, Bool.or_eq_false_iff, Bool.and_eq_true, Bool.and_eq_false_imp, Bool.not_eq_true, Bool.not_eq_true', Bool.not_eq_false', Classical.not_not, Int.not_lt, Int.not_le, gt_iff_lt, ge_iff_le] at hg); (try dsimp only); omega)
    refine WG.y rfl rfl (by decide) (pureV_ok tab_ok rfl (by first | exact fun _ => rfl | exact fun h => h | (intro h; simp_all))) ?_
    refine WG.y rfl rfl (by decide) (Yl.pand rfl rfl rfl (fun _ => rfl) (by intro h1 h2; simp_all <;> omega)) ?_
    refine WG.nil ?_
    refine WE.nxt ?_
    refine W.cond rfl (fun hc2 => ?_) (fun hc2 => ?_)
    · try simp only [decide_eq_true_eq, decide_eq_false_iff_not, beq_iff_eq, bne_iff_ne, beq_eq_false_iff_ne, bne_eq_false_iff_eq, ne_eq, Bool.or_eq_true, Bool.or_eq_false_iff, Bool.and_eq_true, Bool.and_eq_false_imp, Bool.not_eq_true, Bool.not_eq_true', Bool.not_eq_false', Classical.not_not, Int.not_lt, Int.not_le, gt_iff_lt, ge_iff_le] at hc2
      obtain ⟨hc3, hc4⟩ := hc2
      rw [hs1 (by omega), hs2 (by omega)] at hc4
      have hdn : downL (fvals F (S + P)) (leastL ((fvals F (S + P)).drop S) I) (I * ((leastL ((fvals F (S + P)).drop S) I) : Int) / (P : Int)) (s - 1) = downL (fvals F (S + P)) (leastL ((fvals F (S + P)).drop S) I) (I * ((leastL ((fvals F (S + P)).drop S) I) : Int) / (P : Int)) s := by
        conv => rhs; rw [show s = (s - 1) + 1 by omega]
        simp only [downL]
        rw [if_pos hc4]
      refine W.skip ?_
      refine WE.nxt ?_
      refine W.block ?_
      refine W.region _ ?_
      refine WG.run tab_ok 1 rfl ?_
      refine WG.y rfl rfl (by decide) (Yl.sub rfl rfl rfl (fun _ => rfl) (by intro _; constructor <;> (try dsimp only) <;> omega)) ?_
      refine WG.run tab_ok 1 rfl ?_
      refine WG.nil ?_
      refine WE.blk _ ?_
      refine WE.again (s - 1) (⟨by omega, by rw [← hd]; exact hdn⟩) (by (try dsimp only); omega) ⟨vint (by omega), rfl, rfl, rfl, rfl, rfl⟩ (RLe.refl _) (by (repeat (first | exact List.Sublist.refl _ | exact List.nil_sublist _ | apply List.Sublist.cons_cons | apply List.Sublist.cons)); done)
    · try simp only [decide_eq_true_eq, decide_eq_false_iff_not, beq_iff_eq, bne_iff_ne, beq_eq_false_iff_ne, bne_eq_false_iff_eq, ne_eq, Bool.or_eq_true, Bool.or_eq_false_iff, Bool.and_eq_true, Bool.and_eq_false_imp, Bool.not_eq_true, Bool.not_eq_true', Bool.not_eq_false', Classical.not_not, Int.not_lt, Int.not_le, gt_iff_lt, ge_iff_le] at hc2
      have hsd : s = downL (fvals F (S + P)) (leastL ((fvals F (S + P)).drop S) I) (I * ((leastL ((fvals F (S + P)).drop S) I) : Int) / (P : Int)) S := by
        rw [← hd]
        by_cases h : 0 < s
        · have h2 := hc2 (by omega)
          rw [hs1 h, hs2 h] at h2
          obtain ⟨s', rfl⟩ : ∃ m, s = m + 1 := ⟨s - 1, by omega⟩
          simp only [downL]
          rw [if_neg (by simpa using h2)]
        · obtain rfl : s = 0 := by omega
          rfl
      refine W.exit ?_
      refine WE.then_exit ?_
      refine WE.then_exit ?_
      refine WE.blk_exit ?_
      refine WE.nxt ?_
      refine W.seq ?_
      refine W.seq ?_
      refine W.region _ ?_
      refine WG.run tab_ok 3 rfl ?_
      refine WG.y rfl rfl (by decide) (pureV_ok tab_ok rfl (by first | exact fun _ => rfl | exact fun h => h | (intro h; simp_all))) ?_
      refine WG.y rfl rfl (by decide) (pureV_ok tab_ok rfl (by first | exact fun _ => rfl | exact fun h => h | (intro h; simp_all))) ?_
      refine WG.y rfl rfl (by decide) (Yl.por rfl rfl rfl (fun _ => rfl) (by intro h1 h2; simp_all <;> omega)) ?_
      refine WG.nil ?_
      refine WE.nxt ?_
      refine W.cond rfl (fun hc3 => ?_) (fun hc3 => ?_)
      · try simp only [decide_eq_true_eq, decide_eq_false_iff_not, beq_iff_eq, bne_iff_ne, beq_eq_false_iff_ne, bne_eq_false_iff_eq, ne_eq, Bool.or_eq_true, Bool.or_eq_false_iff, Bool.and_eq_true, Bool.and_eq_false_imp, Bool.not_eq_true, Bool.not_eq_true', Bool.not_eq_false', Classical.not_not, Int.not_lt, Int.not_le, gt_iff_lt, ge_iff_le] at hc3
        have hmb : mbuild F S P I = (zcv, 3) := by
          unfold mbuild finL; rw [if_pos hmi]; dsimp only
          rw [if_pos (by rcases hc3 with h | h; exact .inl (by omega); exact .inr h)]
        refine W.seq ?_
        refine W.region _ ?_
        -- build
        refine WG.y rfl rfl (by decide) (Yl.build (parts := []) tab_ok rfl rfl rfl rfl (fun _ => rfl) rfl rfl) ?_
        first | refine WL.efN rfl rfl (Ef.store0 0 tab_ok rfl rfl rfl rfl rfl rfl rfl rfl ?_) | refine WL.efN rfl rfl (Ef.store0 1 tab_ok rfl rfl rfl rfl rfl rfl rfl rfl ?_) | refine WL.efN rfl rfl (Ef.store0 2 tab_ok rfl rfl rfl rfl rfl rfl rfl rfl ?_) | refine WL.efN rfl rfl (Ef.store0 3 tab_ok rfl rfl rfl rfl rfl rfl rfl rfl ?_)
        refine WG.run tab_ok 1 rfl ?_
        refine WG.nil ?_
        refine WE.nxt ?_
        refine W.ret ?_
        refine WE.then_ret ?_
        refine WE.retF tab_ok [_, _] rfl ⟨⟨_, _, _, rfl, rfl, rfl, ((by first | exact Rd.blk 0 rfl | exact Rd.blk 1 rfl | exact Rd.blk 2 rfl | exact Rd.blk 3 rfl)), rfl⟩, rfl, trivial⟩ ((by first | exact hR1 | exact hR1.trans hR2)) ?_
        exact ⟨none, 0, by rw [hmb]; rfl, by rw [hmb]; exact rs_nil, (by (repeat (first | exact List.Sublist.refl _ | exact List.nil_sublist _ | apply List.Sublist.cons_cons | apply List.Sublist.cons)); done)⟩
      · try simp only [decide_eq_true_eq, decide_eq_false_iff_not, beq_iff_eq, bne_iff_ne, beq_eq_false_iff_ne, bne_eq_false_iff_eq, ne_eq, Bool.or_eq_true, Bool.or_eq_false_iff, Bool.and_eq_true, Bool.and_eq_false_imp, Bool.not_eq_true, Bool.not_eq_true', Bool.not_eq_false', Classical.not_not, Int.not_lt, Int.not_le, gt_iff_lt, ge_iff_le] at hc3
        have hmb : mbuild F S P I = checkedL ((fvals F (S + P)).take (s + (leastL ((fvals F (S + P)).drop S) I))) (leastL ((fvals F (S + P)).drop S) I) (I * ((leastL ((fvals F (S + P)).drop S) I) : Int) / (P : Int)) := by
          unfold mbuild finL; rw [if_pos hmi]; dsimp only
          rw [if_neg (by rintro (h | h); have := hc3.1; omega; have := hc3.2; unfold MAXV at h; omega), ← hsd]
        refine W.skip ?_
        refine WE.nxt ?_
        refine W.seq ?_
        refine W.region _ ?_
        refine WG.run tab_ok 3 rfl ?_
        refine WG.y rfl rfl (by decide) (Yl.add rfl rfl rfl (fun _ => rfl) (by intro _; constructor <;> (try dsimp only) <;> omega)) ?_
        refine WG.y rfl rfl (by decide) (Yl.sliceH tab_ok rfl rfl rfl rfl rfl (fun _ => rfl) (by intro _; omega) rfl) ?_
        refine WG.run tab_ok 2 rfl ?_
        refine WL.call en130 rfl rfl (by decide) (CallOp.mkT rfl rfl rfl rfl) (Checked_C (by have := hz.take (s + leastL ((fvals F (S + P)).drop S) I); exact this) (by rw [List.length_take, fvals_len]; omega) w0 _) ?_
        rintro _ R2 E2 hR2 ⟨f, fc, rfl, hf, hsub⟩
        refine WL.subE hsub ?_
        unfold cvV
        refine WG.run tab_ok 2 rfl ?_
        first | refine WL.efN rfl rfl (Ef.store0 0 tab_ok rfl rfl rfl rfl rfl rfl rfl rfl ?_) | refine WL.efN rfl rfl (Ef.store0 1 tab_ok rfl rfl rfl rfl rfl rfl rfl rfl ?_) | refine WL.efN rfl rfl (Ef.store0 2 tab_ok rfl rfl rfl rfl rfl rfl rfl rfl ?_) | refine WL.efN rfl rfl (Ef.store0 3 tab_ok rfl rfl rfl rfl rfl rfl rfl rfl ?_)
        refine WG.run tab_ok 1 rfl ?_
        refine WG.nil ?_
        refine WE.nxt ?_
        refine W.ret ?_
        refine WE.retF tab_ok [_, _] rfl ⟨⟨_, _, _, rfl, rfl, rfl, ((by first | exact Rd.blk 0 rfl | exact Rd.blk 1 rfl | exact Rd.blk 2 rfl | exact Rd.blk 3 rfl)), rfl⟩, rfl, trivial⟩ ((by first | exact hR1 | exact hR1.trans hR2)) ?_
        exact ⟨f, fc, by rw [hmb]; rfl, by rw [hmb]; exact hf, (by (repeat (first | exact List.Sublist.refl _ | exact List.nil_sublist _ | apply List.Sublist.cons_cons | apply List.Sublist.cons)); done)⟩

end Go.Proofs.Ytnaeefefggmomaa

/- Reference 02: the least form, validity, Made. No condition. -/
set_option linter.unusedSimpArgs false
set_option linter.unusedVariables false
namespace Go.Proofs.Ytnaeefefggmomaa
open Go Go.RowKit Go.Proofs.Ytnaeefefggmomaa.K Go.Proofs.Ytnaeefefggmomaa.M

theorem Valid_V {R : Ro} {a : Option Addr} {c : Nat} {v : List Int} {per inc : Int} (ha : RS R 1 encI a v) (hper : InR per) (hinc : InR inc) (hv : ∀ x ∈ v, -2305843009213693952 ≤ x ∧ x ≤ 4611686018427387904) : FnV Try.prog 66 [.agg #[.slice a v.length c, .int .i64 per, .int .i64 inc]] R (.bool (validB ⟨v, per, inc⟩)) := by
  have hla := ha.len
  refine Fn.toV (fun w0 E => ?_)
  have hvn : ∀ j, j < v.length → -2305843009213693952 ≤ nth v j ∧ nth v j ≤ 4611686018427387904 := fun j hj => hv _ (nth_mem hj)
  refine Fn.enter (n := 118) Try.func66 rfl rfl (Nat.le_of_ble_eq_true rfl) rfl ?_
  refine W.seq ?_
  refine W.region _ ?_
  refine WL.ef rfl rfl (by decide) (Ef.box rfl rfl (fun b1 => ?_))
  refine WG.run tab_ok 1 rfl ?_
  refine WG.nil ?_
  refine WE.nxt ?_
  refine W.seq ?_
  refine W.region _ ?_
  refine WG.run tab_ok 1 rfl ?_
  refine' WG.y rfl rfl (by decide) (Yl.load1 tab_ok rfl rfl rfl (fun _ => rfl) ?r1 rfl ?h1) ?_
  case r1 => apply Rd.add; (first | exact Rd.blk 0 rfl | exact Rd.blk 1 rfl | exact Rd.blk 2 rfl)
  case h1 => rfl
  refine WG.run tab_ok 2 rfl ?_
  refine WG.nil ?_
  refine WE.nxt ?_
  refine W.seq ?_
  refine W.seq ?_
  refine W.region _ ?_
  refine WG.run tab_ok 3 rfl ?_
  refine WG.y rfl rfl (by decide) (pureV_ok tab_ok rfl (by first | exact fun _ => rfl | exact fun h => h | (intro h; simp_all))) ?_
  refine WG.y rfl rfl (by decide) (pureV_ok tab_ok rfl (by first | exact fun _ => rfl | exact fun h => h | (intro h; simp_all))) ?_
  refine WG.y rfl rfl (by decide) (Yl.por rfl rfl rfl (fun _ => rfl) (by intro h1 h2; simp_all <;> omega)) ?_
  refine WG.run tab_ok 1 rfl ?_
  refine WG.y rfl rfl (by decide) (pureV_ok tab_ok rfl (by first | exact fun _ => rfl | exact fun h => h | (intro h; simp_all))) ?_
  refine' WG.y rfl rfl (by decide) (Yl.loadG tab_ok rfl rfl rfl (by first | exact fun _ => rfl | exact fun h => h | (intro h; simp_all)) ?r2 rfl ?h2 ?g2) ?_
  case r2 => apply Rd.addC; (first | exact Rd.blkC 0 rfl | exact Rd.blkC 1 rfl | exact Rd.blkC 2 rfl)
  case h2 => rfl
  case g2 => first | exact fun _ => trivial | (intro hg; (try simp only [decide_eq_true_eq, decide_eq_false_iff_not, beq_iff_eq, bne_iff_ne, beq_eq_false_iff_ne, bne_eq_false_iff_eq, ne_eq, Bool.or_eq_true, Bool.or_eq_false_iff, Bool.and_eq_true, Bool.and_eq_false_imp, Bool.not_eq_true, Bool.not_eq_true', Bool.not_eq_false', Classical.not_not, Int.not_lt, Int.not_le, gt_iff_lt, ge_iff_le] at hg); (try dsimp only); omega)
  refine WG.y rfl rfl (by decide) (pureV_ok tab_ok rfl (by first | exact fun _ => rfl | exact fun h => h | (intro h; simp_all))) ?_
  refine WG.y rfl rfl (by decide) (Yl.por rfl rfl rfl (fun _ => rfl) (by intro h1 h2; simp_all <;> omega)) ?_
  refine WG.run tab_ok 1 rfl ?_
  refine WG.y rfl rfl (by decide) (pureV_ok tab_ok rfl (by first | exact fun _ => rfl | exact fun h => h | (intro h; simp_all))) ?_
  refine' WG.y rfl rfl (by decide) (Yl.loadG tab_ok rfl rfl rfl (by first | exact fun _ => rfl | exact fun h => h | (intro h; simp_all)) ?r3 rfl ?h3 ?g3) ?_
  case r3 => apply Rd.addC; (first | exact Rd.blkC 0 rfl | exact Rd.blkC 1 rfl | exact Rd.blkC 2 rfl)
  case h3 => rfl
  case g3 => first | exact fun _ => trivial | (intro hg; (try simp only [decide_eq_true_eq, decide_eq_false_iff_not, beq_iff_eq, bne_iff_ne, beq_eq_false_iff_ne, bne_eq_false_iff_eq, ne_eq, Bool.or_eq_true, Bool.or_eq_false_iff, Bool.and_eq_true, Bool.and_eq_false_imp, Bool.not_eq_true, Bool.not_eq_true', Bool.not_eq_false', Classical.not_not, Int.not_lt, Int.not_le, gt_iff_lt, ge_iff_le] at hg); (try dsimp only); omega)
  refine WG.y rfl rfl (by decide) (pureV_ok tab_ok rfl (by first | exact fun _ => rfl | exact fun h => h | (intro h; simp_all))) ?_
  refine WG.y rfl rfl (by decide) (Yl.por rfl rfl rfl (fun _ => rfl) (by intro h1 h2; simp_all <;> omega)) ?_
  refine WG.run tab_ok 1 rfl ?_
  refine WG.y rfl rfl (by decide) (pureV_ok tab_ok rfl (by first | exact fun _ => rfl | exact fun h => h | (intro h; simp_all))) ?_
  refine' WG.y rfl rfl (by decide) (Yl.loadG tab_ok rfl rfl rfl (by first | exact fun _ => rfl | exact fun h => h | (intro h; simp_all)) ?r4 rfl ?h4 ?g4) ?_
  case r4 => apply Rd.addC; (first | exact Rd.blkC 0 rfl | exact Rd.blkC 1 rfl | exact Rd.blkC 2 rfl)
  case h4 => rfl
  case g4 => first | exact fun _ => trivial | (intro hg; (try simp only [decide_eq_true_eq, decide_eq_false_iff_not, beq_iff_eq, bne_iff_ne, beq_eq_false_iff_ne, bne_eq_false_iff_eq, ne_eq, Bool.or_eq_true, Bool.or_eq_false_iff, Bool.and_eq_true, Bool.and_eq_false_imp, Bool.not_eq_true, Bool.not_eq_true', Bool.not_eq_false', Classical.not_not, Int.not_lt, Int.not_le, gt_iff_lt, ge_iff_le] at hg); (try dsimp only); omega)
  refine WG.y rfl rfl (by decide) (pureV_ok tab_ok rfl (by first | exact fun _ => rfl | exact fun h => h | (intro h; simp_all))) ?_
  refine WG.y rfl rfl (by decide) (pureV_ok tab_ok rfl (by first | exact fun _ => rfl | exact fun h => h | (intro h; simp_all))) ?_
  refine WG.y rfl rfl (by decide) (Yl.por rfl rfl rfl (fun _ => rfl) (by intro h1 h2; simp_all <;> omega)) ?_
  refine WG.run tab_ok 1 rfl ?_
  refine WG.y rfl rfl (by decide) (pureV_ok tab_ok rfl (by first | exact fun _ => rfl | exact fun h => h | (intro h; simp_all))) ?_
  refine' WG.y rfl rfl (by decide) (Yl.loadG tab_ok rfl rfl rfl (by first | exact fun _ => rfl | exact fun h => h | (intro h; simp_all)) ?r5 rfl ?h5 ?g5) ?_
  case r5 => apply Rd.addC; (first | exact Rd.blkC 0 rfl | exact Rd.blkC 1 rfl | exact Rd.blkC 2 rfl)
  case h5 => rfl
  case g5 => first | exact fun _ => trivial | (intro hg; (try simp only [decide_eq_true_eq, decide_eq_false_iff_not, beq_iff_eq, bne_iff_ne, beq_eq_false_iff_ne, bne_eq_false_iff_eq, ne_eq, Bool.or_eq_true, Bool.or_eq_false_iff, Bool.and_eq_true, Bool.and_eq_false_imp, Bool.not_eq_true, Bool.not_eq_true', Bool.not_eq_false', Classical.not_not, Int.not_lt, Int.not_le, gt_iff_lt, ge_iff_le] at hg); (try dsimp only); omega)
  refine WG.y rfl rfl (by decide) (pureV_ok tab_ok rfl (by first | exact fun _ => rfl | exact fun h => h | (intro h; simp_all))) ?_
  refine WG.y rfl rfl (by decide) (Yl.por rfl rfl rfl (fun _ => rfl) (by intro h1 h2; simp_all <;> omega)) ?_
  refine WG.run tab_ok 1 rfl ?_
  refine WG.y rfl rfl (by decide) (pureV_ok tab_ok rfl (by first | exact fun _ => rfl | exact fun h => h | (intro h; simp_all))) ?_
  refine' WG.y rfl rfl (by decide) (Yl.loadG tab_ok rfl rfl rfl (by first | exact fun _ => rfl | exact fun h => h | (intro h; simp_all)) ?r6 rfl ?h6 ?g6) ?_
  case r6 => apply Rd.addC; (first | exact Rd.blkC 0 rfl | exact Rd.blkC 1 rfl | exact Rd.blkC 2 rfl)
  case h6 => rfl
  case g6 => first | exact fun _ => trivial | (intro hg; (try simp only [decide_eq_true_eq, decide_eq_false_iff_not, beq_iff_eq, bne_iff_ne, beq_eq_false_iff_ne, bne_eq_false_iff_eq, ne_eq, Bool.or_eq_true, Bool.or_eq_false_iff, Bool.and_eq_true, Bool.and_eq_false_imp, Bool.not_eq_true, Bool.not_eq_true', Bool.not_eq_false', Classical.not_not, Int.not_lt, Int.not_le, gt_iff_lt, ge_iff_le] at hg); (try dsimp only); omega)
  refine WG.y rfl rfl (by decide) (pureV_ok tab_ok rfl (by first | exact fun _ => rfl | exact fun h => h | (intro h; simp_all))) ?_
  refine WG.y rfl rfl (by decide) (Yl.por rfl rfl rfl (fun _ => rfl) (by intro h1 h2; simp_all <;> omega)) ?_
  refine WG.nil ?_
  refine WE.nxt ?_
  refine W.cond rfl (fun hc0 => ?_) (fun hc0 => ?_)
  · try simp only [decide_eq_true_eq, decide_eq_false_iff_not, beq_iff_eq, bne_iff_ne, beq_eq_false_iff_ne, bne_eq_false_iff_eq, ne_eq, Bool.or_eq_true, Bool.or_eq_false_iff, Bool.and_eq_true, Bool.and_eq_false_imp, Bool.not_eq_true, Bool.not_eq_true', Bool.not_eq_false', Classical.not_not, Int.not_lt, Int.not_le, gt_iff_lt, ge_iff_le] at hc0
    have hno : validB ⟨v, per, inc⟩ = false := validB_false (fun h => by obtain ⟨⟨a1, a2, a3, a4, a5, a6, a7⟩, _⟩ := h; dsimp only at a1 a2 a3 a4 a5 a6 a7; unfold MAXV at a7; omega)
    refine W.seq ?_
    refine W.region _ ?_
    refine WG.run tab_ok 1 rfl ?_
    refine WG.nil ?_
    refine WE.nxt ?_
    refine W.ret ?_
    refine WE.then_ret ?_
    refine WE.subE (E' := E) (by (repeat (first | exact List.Sublist.refl _ | exact List.nil_sublist _ | apply List.Sublist.cons_cons | apply List.Sublist.cons)); done) ?_
    refine WE.retF tab_ok [_] rfl ⟨rfl, trivial⟩ (RLe.refl _) ?_
    exact ⟨by rw [hno]; rfl, rfl⟩
  · try simp only [decide_eq_true_eq, decide_eq_false_iff_not, beq_iff_eq, bne_iff_ne, beq_eq_false_iff_ne, bne_eq_false_iff_eq, ne_eq, Bool.or_eq_true, Bool.or_eq_false_iff, Bool.and_eq_true, Bool.and_eq_false_imp, Bool.not_eq_true, Bool.not_eq_true', Bool.not_eq_false', Classical.not_not, Int.not_lt, Int.not_le, gt_iff_lt, ge_iff_le] at hc0
    have hall : 1 ≤ v.length ∧ v.length ≤ 400 ∧ 1 ≤ per ∧ per ≤ 120 ∧ per ≤ v.length ∧ 0 ≤ inc ∧ inc ≤ MAXV := by unfold MAXV; omega
    refine W.skip ?_
    refine WE.nxt ?_
    refine W.seq ?_
    refine W.seq ?_
    refine W.region _ ?_
    refine WG.run tab_ok 1 rfl ?_
    refine WG.nil ?_
    refine WE.nxt ?_
    refine W.block ?_
    refine W.loopK (β := Nat) (fun i => i ≤ v.length ∧ ∀ j, j < i → (nth v j = INF ∨ (0 ≤ nth v j ∧ nth v j ≤ MAXV)) ∧ (j = 0 ∨ nth v (j - 1) ≤ nth v j)) (fun i => [(4, true, .int .i64 (i : Int))]) [1, 3] [_, _] [] _ rfl (fun i => []) (fun i => v.length - i) (0) (⟨Nat.zero_le _, fun j hj => by omega⟩) ⟨rfl, rfl, rfl, rfl⟩ (by (repeat (first | exact List.Sublist.refl _ | exact List.nil_sublist _ | apply List.Sublist.cons_cons | apply List.Sublist.cons)); done) ?_
    intro i hst
    dsimp only [zipE, setAll, List.cons_append, List.nil_append, List.set_cons_zero, List.set_cons_succ] at hst ⊢
    
    refine W.seq ?_
    refine W.seq ?_
    refine W.region _ ?_
    refine WG.run tab_ok 3 rfl ?_
    refine WG.nil ?_
    refine WE.nxt ?_
    refine W.condD rfl (fun hc1 => ?_) (fun hc1 => ?_)
    · try dsimp only at hc1
      have hil : i < v.length := by omega
      have hvi := hvn i hil
      have e1 : 0 < i → ((i : Int) - 1).toNat = i - 1 := fun _ => by omega
      have hv1 : 0 < i → -2305843009213693952 ≤ nth v ((i : Int) - 1).toNat ∧ nth v ((i : Int) - 1).toNat ≤ 4611686018427387904 := fun h => hvn _ (by omega)
      refine W.skip ?_
      refine WE.nxt ?_
      refine W.seq ?_
      refine W.block ?_
      refine W.seq ?_
      refine W.regionQ _ mixed (by kernel_rfl) ?_
      refine WG.run tab_ok 1 rfl ?_
      refine' WG.y rfl rfl (by decide) (Yl.load1 tab_ok rfl rfl rfl (fun _ => rfl) ?r7 rfl ?h7) ?_
      case r7 => apply Rd.add; (first | exact Rd.blk 0 rfl | exact Rd.blk 1 rfl | exact Rd.blk 2 rfl)
      case h7 => rfl
      refine WG.run tab_ok 1 rfl ?_
      refine WG.y rfl rfl (by decide) (Yl.indexN tab_ok rfl rfl rfl rfl rfl rfl (fun _ => rfl) (by intro _; (try dsimp only) <;> omega) (by intro _; first | exact fun _ _ _ _ => rfl | exact RS.has (by assumption) | exact fun _ _ _ _ => (by assumption) | exact HasMem.ownD 0 rfl | exact HasMem.ownD 1 rfl | exact HasMem.ownD 2 rfl)) ?_
      refine' WG.y rfl rfl (by decide) (Yl.load1 tab_ok rfl rfl rfl (fun _ => rfl) ?r8 rfl ?h8) ?_
      case r8 => (first | (apply RS.rdD; assumption; ((try dsimp only) <;> omega)) | exact Rd.slD 0 rfl (by (try dsimp only) <;> omega) | exact Rd.slD 1 rfl (by (try dsimp only) <;> omega) | exact Rd.slD 2 rfl (by (try dsimp only) <;> omega))
      case h8 => rfl
      refine WG.run tab_ok 2 rfl ?_
      refine WG.y rfl rfl (by decide) (pureV_ok tab_ok rfl (by first | exact fun _ => rfl | exact fun h => h | (intro h; simp_all))) ?_
      refine' WG.y rfl rfl (by decide) (Yl.loadG tab_ok rfl rfl rfl (by first | exact fun _ => rfl | exact fun h => h | (intro h; simp_all)) ?r9 rfl ?h9 ?g9) ?_
      case r9 => apply Rd.addC; (first | exact Rd.blkC 0 rfl | exact Rd.blkC 1 rfl | exact Rd.blkC 2 rfl)
      case h9 => rfl
      case g9 => first | exact fun _ => trivial | (intro hg; (try simp only [decide_eq_true_eq, decide_eq_false_iff_not, beq_iff_eq, bne_iff_ne, beq_eq_false_iff_ne, bne_eq_false_iff_eq, ne_eq, Bool.or_eq_true, Bool.or_eq_false_iff, Bool.and_eq_true, Bool.and_eq_false_imp, Bool.not_eq_true, Bool.not_eq_true', Bool.not_eq_false', Classical.not_not, Int.not_lt, Int.not_le, gt_iff_lt, ge_iff_le] at hg); (try dsimp only); omega)
      refine WG.y rfl rfl (by decide) (pureV_ok tab_ok rfl (by first | exact fun _ => rfl | exact fun h => h | (intro h; simp_all))) ?_
      refine WG.y rfl rfl (by decide) (Yl.indexN tab_ok rfl rfl rfl rfl rfl rfl (by first | exact fun _ => rfl | exact fun h => h | (intro h; simp_all)) (by intro hg; (try simp only [decide_eq_true_eq, decide_eq_false_iff_not, beq_iff_eq, bne_iff_ne, beq_eq_false_iff_ne, bne_eq_false_iff_eq, ne_eq, Bool.or_eq_true, Bool.or_eq_false_iff, Bool.and_eq_true, Bool.and_eq_false_imp, Bool.not_eq_true, Bool.not_eq_true', Bool.not_eq_false', Classical.not_not, Int.not_lt, Int.not_le, gt_iff_lt, ge_iff_le] at hg); (try dsimp only) <;> omega) (by intro hg; (try simp only [decide_eq_true_eq, decide_eq_false_iff_not, beq_iff_eq, bne_iff_ne, beq_eq_false_iff_ne, bne_eq_false_iff_eq, ne_eq, Bool.or_eq_true, Bool.or_eq_false_iff, Bool.and_eq_true, Bool.and_eq_false_imp, Bool.not_eq_true, Bool.not_eq_true', Bool.not_eq_false', Classical.not_not, Int.not_lt, Int.not_le, gt_iff_lt, ge_iff_le] at hg); first | exact fun _ _ _ _ => rfl | exact RS.has (by assumption) | exact fun _ _ _ _ => (by assumption) | exact HasMem.ownD 0 rfl | exact HasMem.ownD 1 rfl | exact HasMem.ownD 2 rfl)) ?_
      refine' WG.y rfl rfl (by decide) (Yl.loadG tab_ok rfl rfl rfl (by first | exact fun _ => rfl | exact fun h => h | (intro h; simp_all)) ?r10 rfl ?h10 ?g10) ?_
      case r10 => (first | (apply RS.rdC; assumption) | exact Rd.slC 0 rfl | exact Rd.slC 1 rfl | exact Rd.slC 2 rfl)
      case h10 => rfl
      case g10 => first | exact fun _ => trivial | (intro hg; (try simp only [decide_eq_true_eq, decide_eq_false_iff_not, beq_iff_eq, bne_iff_ne, beq_eq_false_iff_ne, bne_eq_false_iff_eq, ne_eq, Bool.or_eq_true, Bool.or_eq_false_iff, Bool.and_eq_true, Bool.and_eq_false_imp, Bool.not_eq_true, Bool.not_eq_true', Bool.not_eq_false', Classical.not_not, Int.not_lt, Int.not_le, gt_iff_lt, ge_iff_le] at hg); (try dsimp only); omega)
      refine WG.y rfl rfl (by decide) (pureV_ok tab_ok rfl (by first | exact fun _ => rfl | exact fun h => h | (intro h; simp_all))) ?_
      refine WG.y rfl rfl (by decide) (pureV_ok tab_ok rfl (by first | exact fun _ => rfl | exact fun h => h | (intro h; simp_all))) ?_
      refine WG.y rfl rfl (by decide) (pureV_ok tab_ok rfl (by first | exact fun _ => rfl | exact fun h => h | (intro h; simp_all))) ?_
      refine' WG.y rfl rfl (by decide) (Yl.loadG tab_ok rfl rfl rfl (by first | exact fun _ => rfl | exact fun h => h | (intro h; simp_all)) ?r11 rfl ?h11 ?g11) ?_
      case r11 => apply Rd.addC; (first | exact Rd.blkC 0 rfl | exact Rd.blkC 1 rfl | exact Rd.blkC 2 rfl)
      case h11 => rfl
      case g11 => first | exact fun _ => trivial | (intro hg; (try simp only [decide_eq_true_eq, decide_eq_false_iff_not, beq_iff_eq, bne_iff_ne, beq_eq_false_iff_ne, bne_eq_false_iff_eq, ne_eq, Bool.or_eq_true, Bool.or_eq_false_iff, Bool.and_eq_true, Bool.and_eq_false_imp, Bool.not_eq_true, Bool.not_eq_true', Bool.not_eq_false', Classical.not_not, Int.not_lt, Int.not_le, gt_iff_lt, ge_iff_le] at hg); (try dsimp only); omega)
      refine WG.y rfl rfl (by decide) (pureV_ok tab_ok rfl (by first | exact fun _ => rfl | exact fun h => h | (intro h; simp_all))) ?_
      refine WG.y rfl rfl (by decide) (Yl.indexN tab_ok rfl rfl rfl rfl rfl rfl (by first | exact fun _ => rfl | exact fun h => h | (intro h; simp_all)) (by intro hg; (try simp only [decide_eq_true_eq, decide_eq_false_iff_not, beq_iff_eq, bne_iff_ne, beq_eq_false_iff_ne, bne_eq_false_iff_eq, ne_eq, Bool.or_eq_true, Bool.or_eq_false_iff, Bool.and_eq_true, Bool.and_eq_false_imp, Bool.not_eq_true, Bool.not_eq_true', Bool.not_eq_false', Classical.not_not, Int.not_lt, Int.not_le, gt_iff_lt, ge_iff_le] at hg); (try dsimp only) <;> omega) (by intro hg; (try simp only [decide_eq_true_eq, decide_eq_false_iff_not, beq_iff_eq, bne_iff_ne, beq_eq_false_iff_ne, bne_eq_false_iff_eq, ne_eq, Bool.or_eq_true, Bool.or_eq_false_iff, Bool.and_eq_true, Bool.and_eq_false_imp, Bool.not_eq_true, Bool.not_eq_true', Bool.not_eq_false', Classical.not_not, Int.not_lt, Int.not_le, gt_iff_lt, ge_iff_le] at hg); first | exact fun _ _ _ _ => rfl | exact RS.has (by assumption) | exact fun _ _ _ _ => (by assumption) | exact HasMem.ownD 0 rfl | exact HasMem.ownD 1 rfl | exact HasMem.ownD 2 rfl)) ?_
      refine' WG.y rfl rfl (by decide) (Yl.loadG tab_ok rfl rfl rfl (by first | exact fun _ => rfl | exact fun h => h | (intro h; simp_all)) ?r12 rfl ?h12 ?g12) ?_
      case r12 => (first | (apply RS.rdC; assumption) | exact Rd.slC 0 rfl | exact Rd.slC 1 rfl | exact Rd.slC 2 rfl)
      case h12 => rfl
      case g12 => first | exact fun _ => trivial | (intro hg; (try simp only [decide_eq_true_eq, decide_eq_false_iff_not, beq_iff_eq, bne_iff_ne, beq_eq_false_iff_ne, bne_eq_false_iff_eq, ne_eq, Bool.or_eq_true, Bool.or_eq_false_iff, Bool.and_eq_true, Bool.and_eq_false_imp, Bool.not_eq_true, Bool.not_eq_true', Bool.not_eq_false', Classical.not_not, Int.not_lt, Int.not_le, gt_iff_lt, ge_iff_le] at hg); (try dsimp only); omega)
      refine WG.y rfl rfl (by decide) (pureV_ok tab_ok rfl (by first | exact fun _ => rfl | exact fun h => h | (intro h; simp_all))) ?_
      refine WG.y rfl rfl (by decide) (Yl.por rfl rfl rfl (by first | exact fun _ => rfl | exact fun h => h | (intro h; simp_all)) (by intro h1 h2; simp_all <;> omega)) ?_
      refine WG.y rfl rfl (by decide) (Yl.pand rfl rfl rfl (fun _ => rfl) (by intro h1 h2; simp_all <;> omega)) ?_
      refine WG.run tab_ok 1 rfl ?_
      refine WG.y rfl rfl (by decide) (pureV_ok tab_ok rfl (by first | exact fun _ => rfl | exact fun h => h | (intro h; simp_all))) ?_
      refine WG.y rfl rfl (by decide) (pureV_ok tab_ok rfl (by first | exact fun _ => rfl | exact fun h => h | (intro h; simp_all))) ?_
      refine WG.y rfl rfl (by decide) (pureV_ok tab_ok rfl (by first | exact fun _ => rfl | exact fun h => h | (intro h; simp_all))) ?_
      refine WG.y rfl rfl (by decide) (pureV_ok tab_ok rfl (by first | exact fun _ => rfl | exact fun h => h | (intro h; simp_all))) ?_
      refine' WG.y rfl rfl (by decide) (Yl.loadG tab_ok rfl rfl rfl (by first | exact fun _ => rfl | exact fun h => h | (intro h; simp_all)) ?r13 rfl ?h13 ?g13) ?_
      case r13 => apply Rd.addC; (first | exact Rd.blkC 0 rfl | exact Rd.blkC 1 rfl | exact Rd.blkC 2 rfl)
      case h13 => rfl
      case g13 => first | exact fun _ => trivial | (intro hg; (try simp only [decide_eq_true_eq, decide_eq_false_iff_not, beq_iff_eq, bne_iff_ne, beq_eq_false_iff_ne, bne_eq_false_iff_eq, ne_eq, Bool.or_eq_true, Bool.or_eq_false_iff, Bool.and_eq_true, Bool.and_eq_false_imp, Bool.not_eq_true, Bool.not_eq_true', Bool.not_eq_false', Classical.not_not, Int.not_lt, Int.not_le, gt_iff_lt, ge_iff_le] at hg); (try dsimp only); omega)
      refine WG.y rfl rfl (by decide) (pureV_ok tab_ok rfl (by first | exact fun _ => rfl | exact fun h => h | (intro h; simp_all))) ?_
      refine WG.y rfl rfl (by decide) (Yl.indexN tab_ok rfl rfl rfl rfl rfl rfl (by first | exact fun _ => rfl | exact fun h => h | (intro h; simp_all)) (by intro hg; (try simp only [decide_eq_true_eq, decide_eq_false_iff_not, beq_iff_eq, bne_iff_ne, beq_eq_false_iff_ne, bne_eq_false_iff_eq, ne_eq, Bool.or_eq_true, Bool.or_eq_false_iff, Bool.and_eq_true, Bool.and_eq_false_imp, Bool.not_eq_true, Bool.not_eq_true', Bool.not_eq_false', Classical.not_not, Int.not_lt, Int.not_le, gt_iff_lt, ge_iff_le] at hg); (try dsimp only) <;> omega) (by intro hg; (try simp only [decide_eq_true_eq, decide_eq_false_iff_not, beq_iff_eq, bne_iff_ne, beq_eq_false_iff_ne, bne_eq_false_iff_eq, ne_eq, Bool.or_eq_true, Bool.or_eq_false_iff, Bool.and_eq_true, Bool.and_eq_false_imp, Bool.not_eq_true, Bool.not_eq_true', Bool.not_eq_false', Classical.not_not, Int.not_lt, Int.not_le, gt_iff_lt, ge_iff_le] at hg); first | exact fun _ _ _ _ => rfl | exact RS.has (by assumption) | exact fun _ _ _ _ => (by assumption) | exact HasMem.ownD 0 rfl | exact HasMem.ownD 1 rfl | exact HasMem.ownD 2 rfl)) ?_
      refine' WG.y rfl rfl (by decide) (Yl.loadG tab_ok rfl rfl rfl (by first | exact fun _ => rfl | exact fun h => h | (intro h; simp_all)) ?r14 rfl ?h14 ?g14) ?_
      case r14 => (first | (apply RS.rdC; assumption) | exact Rd.slC 0 rfl | exact Rd.slC 1 rfl | exact Rd.slC 2 rfl)
      case h14 => rfl
      case g14 => first | exact fun _ => trivial | (intro hg; (try simp only [decide_eq_true_eq, decide_eq_false_iff_not, beq_iff_eq, bne_iff_ne, beq_eq_false_iff_ne, bne_eq_false_iff_eq, ne_eq, Bool.or_eq_true, Bool.or_eq_false_iff, Bool.and_eq_true, Bool.and_eq_false_imp, Bool.not_eq_true, Bool.not_eq_true', Bool.not_eq_false', Classical.not_not, Int.not_lt, Int.not_le, gt_iff_lt, ge_iff_le] at hg); (try dsimp only); omega)
      refine WG.y rfl rfl (by decide) (pureV_ok tab_ok rfl (by first | exact fun _ => rfl | exact fun h => h | (intro h; simp_all))) ?_
      refine' WG.y rfl rfl (by decide) (Yl.loadG tab_ok rfl rfl rfl (by first | exact fun _ => rfl | exact fun h => h | (intro h; simp_all)) ?r15 rfl ?h15 ?g15) ?_
      case r15 => apply Rd.addC; (first | exact Rd.blkC 0 rfl | exact Rd.blkC 1 rfl | exact Rd.blkC 2 rfl)
      case h15 => rfl
      case g15 => first | exact fun _ => trivial | (intro hg; (try simp only [decide_eq_true_eq, decide_eq_false_iff_not, beq_iff_eq, bne_iff_ne, beq_eq_false_iff_ne, bne_eq_false_iff_eq, ne_eq, Bool.or_eq_true, Bool.or_eq_false_iff, Bool.and_eq_true, Bool.and_eq_false_imp, Bool.not_eq_true, Bool.not_eq_true', Bool.not_eq_false', Classical.not_not, Int.not_lt, Int.not_le, gt_iff_lt, ge_iff_le] at hg); (try dsimp only); omega)
      refine WG.y rfl rfl (by decide) (pureV_ok tab_ok rfl (by first | exact fun _ => rfl | exact fun h => h | (intro h; simp_all))) ?_
      refine WG.y rfl rfl (by decide) (Yl.sub rfl rfl rfl (by first | exact fun _ => rfl | exact fun h => h | (intro h; simp_all)) (by intro hg; (try simp only [decide_eq_true_eq, decide_eq_false_iff_not, beq_iff_eq, bne_iff_ne, beq_eq_false_iff_ne, bne_eq_false_iff_eq, ne_eq, Bool.or_eq_true, Bool.or_eq_false_iff, Bool.and_eq_true, Bool.and_eq_false_imp, Bool.not_eq_true, Bool.not_eq_true', Bool.not_eq_false', Classical.not_not, Int.not_lt, Int.not_le, gt_iff_lt, ge_iff_le] at hg); constructor <;> (try dsimp only) <;> omega)) ?_
      refine WG.y rfl rfl (by decide) (Yl.index tab_ok rfl rfl rfl rfl rfl rfl (by first | exact fun _ => rfl | exact fun h => h | (intro h; simp_all)) (by intro hg; (try simp only [decide_eq_true_eq, decide_eq_false_iff_not, beq_iff_eq, bne_iff_ne, beq_eq_false_iff_ne, bne_eq_false_iff_eq, ne_eq, Bool.or_eq_true, Bool.or_eq_false_iff, Bool.and_eq_true, Bool.and_eq_false_imp, Bool.not_eq_true, Bool.not_eq_true', Bool.not_eq_false', Classical.not_not, Int.not_lt, Int.not_le, gt_iff_lt, ge_iff_le] at hg); constructor <;> (try dsimp only) <;> omega) (by intro hg; (try simp only [decide_eq_true_eq, decide_eq_false_iff_not, beq_iff_eq, bne_iff_ne, beq_eq_false_iff_ne, bne_eq_false_iff_eq, ne_eq, Bool.or_eq_true, Bool.or_eq_false_iff, Bool.and_eq_true, Bool.and_eq_false_imp, Bool.not_eq_true, Bool.not_eq_true', Bool.not_eq_false', Classical.not_not, Int.not_lt, Int.not_le, gt_iff_lt, ge_iff_le] at hg); first | exact fun _ _ _ _ => rfl | exact RS.has (by assumption) | exact fun _ _ _ _ => (by assumption) | exact HasMem.ownD 0 rfl | exact HasMem.ownD 1 rfl | exact HasMem.ownD 2 rfl)) ?_
      refine' WG.y rfl rfl (by decide) (Yl.loadG tab_ok rfl rfl rfl (by first | exact fun _ => rfl | exact fun h => h | (intro h; simp_all)) ?r16 rfl ?h16 ?g16) ?_
      case r16 => (first | (apply RS.rdC; assumption) | exact Rd.slC 0 rfl | exact Rd.slC 1 rfl | exact Rd.slC 2 rfl)
      case h16 => rfl
      case g16 => first | exact fun _ => trivial | (intro hg; (try simp only [decide_eq_true_eq, decide_eq_false_iff_not, beq_iff_eq, bne_iff_ne, beq_eq_false_iff_ne, bne_eq_false_iff_eq, ne_eq, Bool.or_eq_true, Bool.or_eq_false_iff, Bool.and_eq_true, Bool.and_eq_false_imp, Bool.not_eq_true, Bool.not_eq_true', Bool.not_eq_false', Classical.not_not, Int.not_lt, Int.not_le, gt_iff_lt, ge_iff_le] at hg); (try dsimp only); omega)
      refine WG.y rfl rfl (by decide) (pureV_ok tab_ok rfl (by first | exact fun _ => rfl | exact fun h => h | (intro h; simp_all))) ?_
      refine WG.y rfl rfl (by decide) (Yl.pand rfl rfl rfl (by first | exact fun _ => rfl | exact fun h => h | (intro h; simp_all)) (by intro h1 h2; simp_all <;> omega)) ?_
      refine WG.y rfl rfl (by decide) (Yl.por rfl rfl rfl (fun _ => rfl) (by intro h1 h2; simp_all <;> omega)) ?_
      refine WG.nil ?_
      refine WE.nxt ?_
      refine W.cond rfl (fun hc2 => ?_) (fun hc2 => ?_)
      · try simp only [decide_eq_true_eq, decide_eq_false_iff_not, beq_iff_eq, bne_iff_ne, beq_eq_false_iff_ne, bne_eq_false_iff_eq, ne_eq, Bool.or_eq_true, Bool.or_eq_false_iff, Bool.and_eq_true, Bool.and_eq_false_imp, Bool.not_eq_true, Bool.not_eq_true', Bool.not_eq_false', Classical.not_not, Int.not_lt, Int.not_le, gt_iff_lt, ge_iff_le] at hc2
        have hno : validB ⟨v, per, inc⟩ = false := validB_false (fun h => by
          obtain ⟨_, h2, _⟩ := h
          have h2 := h2 i hil
          dsimp only at h2
          unfold INF MAXV at h2
          rcases hc2 with ⟨x1, x2⟩ | ⟨x1, x2⟩
          · omega
          · rw [e1 (by omega)] at x2; omega)
        refine W.seq ?_
        refine W.region _ ?_
        refine WG.run tab_ok 1 rfl ?_
        refine WG.nil ?_
        refine WE.nxt ?_
        refine W.ret ?_
        refine WE.blk_ret ?_
        refine WE.then_ret ?_
        refine WE.then_ret ?_
        refine WE.blk_ret ?_
        refine WE.then_ret ?_
        refine WE.subE (E' := E) (by (repeat (first | exact List.Sublist.refl _ | exact List.nil_sublist _ | apply List.Sublist.cons_cons | apply List.Sublist.cons)); done) ?_
        refine WE.retF tab_ok [_] rfl ⟨rfl, trivial⟩ (RLe.refl _) ?_
        exact ⟨by rw [hno]; rfl, rfl⟩
      · try simp only [decide_eq_true_eq, decide_eq_false_iff_not, beq_iff_eq, bne_iff_ne, beq_eq_false_iff_ne, bne_eq_false_iff_eq, ne_eq, Bool.or_eq_true, Bool.or_eq_false_iff, Bool.and_eq_true, Bool.and_eq_false_imp, Bool.not_eq_true, Bool.not_eq_true', Bool.not_eq_false', Classical.not_not, Int.not_lt, Int.not_le, gt_iff_lt, ge_iff_le] at hc2
        have hy : (nth v i = INF ∨ (0 ≤ nth v i ∧ nth v i ≤ MAXV)) ∧ (i = 0 ∨ nth v (i - 1) ≤ nth v i) := by
          obtain ⟨x1, x2⟩ := hc2
          unfold INF MAXV
          refine ⟨by omega, ?_⟩
          by_cases h : i = 0
          · exact .inl h
          · have := x2 (by omega)
            rw [e1 (by omega)] at this
            right; omega
        refine W.skip ?_
        refine WE.blk _ ?_
        refine WE.nxt ?_
        refine W.region _ ?_
        refine WG.run tab_ok 1 rfl ?_
        refine WG.y rfl rfl (by decide) (Yl.add rfl rfl rfl (fun _ => rfl) (by intro _; constructor <;> (try dsimp only) <;> omega)) ?_
        refine WG.run tab_ok 1 rfl ?_
        refine WG.nil ?_
        refine WE.again (i + 1) (⟨by omega, fun j hj => by
          by_cases e : j = i
          · subst e; exact hy
          · exact hst.2 j (by omega)⟩) (by (try dsimp only); omega) ⟨rfl, rfl, rfl, rfl⟩ (RLe.refl _) (by (repeat (first | exact List.Sublist.refl _ | exact List.nil_sublist _ | apply List.Sublist.cons_cons | apply List.Sublist.cons)); done)
    · try dsimp only at hc1
      obtain rfl : i = v.length := by omega
      have e2 : ((v.length : Int) - 1).toNat = v.length - 1 := by omega
      have e3 : ((v.length : Int) - per).toNat = v.length - per.toNat := by omega
      have hx1 := hvn (((v.length : Int) - 1).toNat) (by omega)
      have hx2 := hvn (((v.length : Int) - per).toNat) (by omega)
      refine W.exit ?_
      refine WE.then_exit ?_
      refine WE.then_exit ?_
      refine WE.blk_exit ?_
      refine WE.nxt ?_
      refine W.seq ?_
      refine W.seq ?_
      refine W.region _ ?_
      refine WG.run tab_ok 1 rfl ?_
      refine' WG.y rfl rfl (by decide) (Yl.load1 tab_ok rfl rfl rfl (fun _ => rfl) ?r17 rfl ?h17) ?_
      case r17 => apply Rd.add; (first | exact Rd.blk 0 rfl | exact Rd.blk 1 rfl | exact Rd.blk 2 rfl)
      case h17 => rfl
      refine WG.run tab_ok 1 rfl ?_
      refine WG.y rfl rfl (by decide) (Yl.sub rfl rfl rfl (fun _ => rfl) (by intro _; constructor <;> (try dsimp only) <;> omega)) ?_
      refine WG.y rfl rfl (by decide) (Yl.index tab_ok rfl rfl rfl rfl rfl rfl (fun _ => rfl) (by intro _; constructor <;> (try dsimp only) <;> omega) (by intro _; first | exact fun _ _ _ _ => rfl | exact RS.has (by assumption) | exact fun _ _ _ _ => (by assumption) | exact HasMem.ownD 0 rfl | exact HasMem.ownD 1 rfl | exact HasMem.ownD 2 rfl)) ?_
      refine' WG.y rfl rfl (by decide) (Yl.load1 tab_ok rfl rfl rfl (fun _ => rfl) ?r18 rfl ?h18) ?_
      case r18 => exact RS.rdD ha (by omega)
      case h18 => rfl
      refine WG.run tab_ok 1 rfl ?_
      refine WG.nil ?_
      refine WE.nxt ?_
      refine W.condE rfl (fun hc3 => ?_) (fun hc3 => ?_)
      · try dsimp only at hc3
        have hif : (if nth v (v.length - 1) = INF then per = 1 ∧ inc = 0 else nth v (v.length - 1) ≤ nth v (v.length - per.toNat) + inc) ↔ (per = 1 ∧ inc = 0) := by rw [if_pos (by rw [← e2]; exact hc3)]
        refine W.seq ?_
        refine W.region _ ?_
        refine WG.run tab_ok 1 rfl ?_
        refine' WG.y rfl rfl (by decide) (Yl.load1 tab_ok rfl rfl rfl (fun _ => rfl) ?r19 rfl ?h19) ?_
        case r19 => apply Rd.add; (first | exact Rd.blk 0 rfl | exact Rd.blk 1 rfl | exact Rd.blk 2 rfl)
        case h19 => rfl
        refine WG.run tab_ok 2 rfl ?_
        refine WG.y rfl rfl (by decide) (pureV_ok tab_ok rfl (by first | exact fun _ => rfl | exact fun h => h | (intro h; simp_all))) ?_
        refine' WG.y rfl rfl (by decide) (Yl.loadG tab_ok rfl rfl rfl (by first | exact fun _ => rfl | exact fun h => h | (intro h; simp_all)) ?r20 rfl ?h20 ?g20) ?_
        case r20 => apply Rd.addC; (first | exact Rd.blkC 0 rfl | exact Rd.blkC 1 rfl | exact Rd.blkC 2 rfl)
        case h20 => rfl
        case g20 => first | exact fun _ => trivial | (intro hg; (try simp only [decide_eq_true_eq, decide_eq_false_iff_not, beq_iff_eq, bne_iff_ne, beq_eq_false_iff_ne, bne_eq_false_iff_eq, ne_eq, Bool.or_eq_true, Bool.or_eq_false_iff, Bool.and_eq_true, Bool.and_eq_false_imp, Bool.not_eq_true, Bool.not_eq_true', Bool.not_eq_false', Classical.not_not, Int.not_lt, Int.not_le, gt_iff_lt, ge_iff_le] at hg); (try dsimp only); omega)
        refine WG.y rfl rfl (by decide) (pureV_ok tab_ok rfl (by first | exact fun _ => rfl | exact fun h => h | (intro h; simp_all))) ?_
        refine WG.y rfl rfl (by decide) (Yl.pand rfl rfl rfl (fun _ => rfl) (by intro h1 h2; simp_all <;> omega)) ?_
        refine WG.run tab_ok 1 rfl ?_
        refine WG.nil ?_
        refine WE.nxt ?_
        refine W.ret ?_
        refine WE.then_ret ?_
        refine WE.subE (E' := E) (by (repeat (first | exact List.Sublist.refl _ | exact List.nil_sublist _ | apply List.Sublist.cons_cons | apply List.Sublist.cons)); done) ?_
        refine WE.retF tab_ok [_] rfl ⟨rfl, trivial⟩ (RLe.refl _) ?_
        refine ⟨congrArg Value.bool ?_, rfl⟩
        rw [Bool.eq_iff_iff, validB_iff]
        dsimp only
        rw [hif]
        simp only [Bool.and_eq_true, beq_iff_eq]
        exact ⟨fun h => ⟨hall, fun j hj => hst.2 j hj, h⟩, fun h => h.2.2⟩
      · try dsimp only at hc3
        have hif : (if nth v (v.length - 1) = INF then per = 1 ∧ inc = 0 else nth v (v.length - 1) ≤ nth v (v.length - per.toNat) + inc) ↔ (nth v (v.length - 1) ≤ nth v (v.length - per.toNat) + inc) := by rw [if_neg (by rw [← e2]; exact hc3)]
        refine W.skip ?_
        refine WE.nxt ?_
        refine W.seq ?_
        refine W.regionQ _ mixed (by kernel_rfl) ?_
        refine WG.run tab_ok 1 rfl ?_
        refine' WG.y rfl rfl (by decide) (Yl.load1 tab_ok rfl rfl rfl (fun _ => rfl) ?r21 rfl ?h21) ?_
        case r21 => apply Rd.add; (first | exact Rd.blk 0 rfl | exact Rd.blk 1 rfl | exact Rd.blk 2 rfl)
        case h21 => rfl
        refine WG.run tab_ok 2 rfl ?_
        refine' WG.y rfl rfl (by decide) (Yl.load1 tab_ok rfl rfl rfl (fun _ => rfl) ?r22 rfl ?h22) ?_
        case r22 => apply Rd.add; (first | exact Rd.blk 0 rfl | exact Rd.blk 1 rfl | exact Rd.blk 2 rfl)
        case h22 => rfl
        refine WG.y rfl rfl (by decide) (Yl.sub rfl rfl rfl (fun _ => rfl) (by intro _; constructor <;> (try dsimp only) <;> omega)) ?_
        refine WG.y rfl rfl (by decide) (Yl.index tab_ok rfl rfl rfl rfl rfl rfl (fun _ => rfl) (by intro _; constructor <;> (try dsimp only) <;> omega) (by intro _; first | exact fun _ _ _ _ => rfl | exact RS.has (by assumption) | exact fun _ _ _ _ => (by assumption) | exact HasMem.ownD 0 rfl | exact HasMem.ownD 1 rfl | exact HasMem.ownD 2 rfl)) ?_
        refine' WG.y rfl rfl (by decide) (Yl.load1 tab_ok rfl rfl rfl (fun _ => rfl) ?r23 rfl ?h23) ?_
        case r23 => exact RS.rdD ha (by omega)
        case h23 => rfl
        refine WG.run tab_ok 1 rfl ?_
        refine' WG.y rfl rfl (by decide) (Yl.load1 tab_ok rfl rfl rfl (fun _ => rfl) ?r24 rfl ?h24) ?_
        case r24 => apply Rd.add; (first | exact Rd.blk 0 rfl | exact Rd.blk 1 rfl | exact Rd.blk 2 rfl)
        case h24 => rfl
        refine WG.y rfl rfl (by decide) (Yl.add rfl rfl rfl (fun _ => rfl) (by intro _; constructor <;> (try dsimp only) <;> omega)) ?_
        refine WG.run tab_ok 1 rfl ?_
        refine' WG.y rfl rfl (by decide) (Yl.load1 tab_ok rfl rfl rfl (fun _ => rfl) ?r25 rfl ?h25) ?_
        case r25 => apply Rd.add; (first | exact Rd.blk 0 rfl | exact Rd.blk 1 rfl | exact Rd.blk 2 rfl)
        case h25 => rfl
        refine WG.run tab_ok 1 rfl ?_
        refine WG.y rfl rfl (by decide) (Yl.sub rfl rfl rfl (fun _ => rfl) (by intro _; constructor <;> (try dsimp only) <;> omega)) ?_
        refine WG.y rfl rfl (by decide) (Yl.index tab_ok rfl rfl rfl rfl rfl rfl (fun _ => rfl) (by intro _; constructor <;> (try dsimp only) <;> omega) (by intro _; first | exact fun _ _ _ _ => rfl | exact RS.has (by assumption) | exact fun _ _ _ _ => (by assumption) | exact HasMem.ownD 0 rfl | exact HasMem.ownD 1 rfl | exact HasMem.ownD 2 rfl)) ?_
        refine' WG.y rfl rfl (by decide) (Yl.load1 tab_ok rfl rfl rfl (fun _ => rfl) ?r26 rfl ?h26) ?_
        case r26 => exact RS.rdD ha (by omega)
        case h26 => rfl
        refine WG.run tab_ok 2 rfl ?_
        refine WG.nil ?_
        refine WE.nxt ?_
        refine W.ret ?_
        refine WE.subE (E' := E) (by (repeat (first | exact List.Sublist.refl _ | exact List.nil_sublist _ | apply List.Sublist.cons_cons | apply List.Sublist.cons)); done) ?_
        refine WE.retF tab_ok [_] rfl ⟨rfl, trivial⟩ (RLe.refl _) ?_
        refine ⟨congrArg Value.bool ?_, rfl⟩
        rw [Bool.eq_iff_iff, validB_iff]
        dsimp only
        rw [hif, e2, e3]
        simp only [decide_eq_true_eq]
        exact ⟨fun h => ⟨hall, fun j hj => hst.2 j hj, h⟩, fun h => h.2.2⟩

end Go.Proofs.Ytnaeefefggmomaa

/- Chapter 19: checks, what others send, the curve. No condition. -/
set_option linter.unusedSimpArgs false
set_option linter.unusedVariables false
namespace Go.Proofs.Ytnaeefefggmomaa
open Go Go.RowKit Go.Proofs.Ytnaeefefggmomaa.K Go.Proofs.Ytnaeefefggmomaa.M

theorem RightP_V {R : Ro} {za : Option Addr} {zc : Nat} {z : List Sz} (hzr : RS R 2 encZ za z) : FnV Try.prog 106 [.slice za z.length zc] R (.bool (zOk z)) := by
  have hla := hzr.len
  refine Fn.toV (fun w0 E => ?_)
  refine Fn.enter (n := 27) Try.func106 rfl rfl (Nat.le_of_ble_eq_true rfl) rfl ?_
  refine W.seq ?_
  refine W.region _ ?_
  refine WG.run tab_ok 1 rfl ?_
  refine WG.nil ?_
  refine WE.nxt ?_
  refine W.seq ?_
  refine W.seq ?_
  refine W.region _ ?_
  refine WG.run tab_ok 3 rfl ?_
  refine WG.nil ?_
  refine WE.nxt ?_
  refine W.block ?_
  refine W.loopK (β := Nat) (fun i => i ≤ z.length ∧ ∀ j, j < i → 0 ≤ (nth z j).least ∧ (nth z j).least ≤ (nth z j).most ∧ (nth z j).most ≤ 1500) (fun i => [(7, true, .int .i64 (i : Int))]) [5, 6] [_, _] [] _ rfl (fun i => []) (fun i => z.length - i) (0) (⟨Nat.zero_le _, fun j hj => by omega⟩) ⟨rfl, rfl, rfl, rfl⟩ (by (repeat (first | exact List.Sublist.refl _ | exact List.nil_sublist _ | apply List.Sublist.cons_cons | apply List.Sublist.cons)); done) ?_
  intro i hst
  dsimp only [zipE, setAll, List.cons_append, List.nil_append, List.set_cons_zero, List.set_cons_succ] at hst ⊢
  
  refine W.seq ?_
  refine W.region _ ?_
  refine WG.run tab_ok 1 rfl ?_
  refine WG.nil ?_
  refine WE.nxt ?_
  refine W.seq ?_
  refine W.condD rfl (fun hc0 => ?_) (fun hc0 => ?_)
  · try dsimp only at hc0
    have hil : i < z.length := by omega
    refine W.skip ?_
    refine WE.nxt ?_
    refine W.seq ?_
    refine W.block ?_
    refine W.seq ?_
    refine W.region _ ?_
    refine WG.y rfl rfl (by decide) (Yl.indexN tab_ok rfl rfl rfl rfl rfl rfl (fun _ => rfl) (by intro _; (try dsimp only) <;> omega) (by intro _; first | exact fun _ _ _ _ => rfl | exact RS.has (by assumption) | exact fun _ _ _ _ => (by assumption) | exact HasMem.ownD 0 rfl | exact HasMem.ownD 1 rfl | exact HasMem.ownD 2 rfl)) ?_
    refine' WG.y rfl rfl (by decide) (Yl.load1 tab_ok rfl rfl rfl (fun _ => rfl) ?r1 rfl ?h1) ?_
    case r1 => (first | (apply RS.rdD; assumption; ((try dsimp only) <;> omega)) | exact Rd.slD 0 rfl (by (try dsimp only) <;> omega) | exact Rd.slD 1 rfl (by (try dsimp only) <;> omega) | exact Rd.slD 2 rfl (by (try dsimp only) <;> omega))
    case h1 => rfl
    refine WL.ef rfl rfl (by decide) (Ef.alloc tab_ok rfl rfl (fun b4 => ?_))
    first | refine WL.efN rfl rfl (Ef.store0 0 tab_ok rfl rfl rfl rfl rfl rfl rfl rfl ?_) | refine WL.efN rfl rfl (Ef.store0 1 tab_ok rfl rfl rfl rfl rfl rfl rfl rfl ?_) | refine WL.efN rfl rfl (Ef.store0 2 tab_ok rfl rfl rfl rfl rfl rfl rfl rfl ?_)
    refine WG.nil ?_
    refine WE.nxt ?_
    refine W.seq ?_
    refine W.region _ ?_
    refine WG.run tab_ok 1 rfl ?_
    refine' WG.y rfl rfl (by decide) (Yl.load1 tab_ok rfl rfl rfl (fun _ => rfl) ?r2 rfl ?h2) ?_
    case r2 => apply Rd.add; (first | exact Rd.blk 0 rfl | exact Rd.blk 1 rfl | exact Rd.blk 2 rfl)
    case h2 => rfl
    refine WG.run tab_ok 2 rfl ?_
    refine WG.y rfl rfl (by decide) (pureV_ok tab_ok rfl (by first | exact fun _ => rfl | exact fun h => h | (intro h; simp_all))) ?_
    refine' WG.y rfl rfl (by decide) (Yl.loadG tab_ok rfl rfl rfl (by first | exact fun _ => rfl | exact fun h => h | (intro h; simp_all)) ?r3 rfl ?h3 ?g3) ?_
    case r3 => apply Rd.addC; (first | exact Rd.blkC 0 rfl | exact Rd.blkC 1 rfl | exact Rd.blkC 2 rfl)
    case h3 => rfl
    case g3 => first | exact fun _ => trivial | (intro hg; (try simp only [decide_eq_true_eq, decide_eq_false_iff_not, beq_iff_eq, bne_iff_ne, beq_eq_false_iff_ne, bne_eq_false_iff_eq, ne_eq, Bool.or_eq_true, Bool.or_eq_false_iff, Bool.and_eq_true, Bool.and_eq_false_imp, Bool.not_eq_true, Bool.not_eq_true', Bool.not_eq_false', Classical.not_not, Int.not_lt, Int.not_le, gt_iff_lt, ge_iff_le] at hg); (try dsimp only); omega)
    refine WG.y rfl rfl (by decide) (pureV_ok tab_ok rfl (by first | exact fun _ => rfl | exact fun h => h | (intro h; simp_all))) ?_
    refine' WG.y rfl rfl (by decide) (Yl.loadG tab_ok rfl rfl rfl (by first | exact fun _ => rfl | exact fun h => h | (intro h; simp_all)) ?r4 rfl ?h4 ?g4) ?_
    case r4 => apply Rd.addC; (first | exact Rd.blkC 0 rfl | exact Rd.blkC 1 rfl | exact Rd.blkC 2 rfl)
    case h4 => rfl
    case g4 => first | exact fun _ => trivial | (intro hg; (try simp only [decide_eq_true_eq, decide_eq_false_iff_not, beq_iff_eq, bne_iff_ne, beq_eq_false_iff_ne, bne_eq_false_iff_eq, ne_eq, Bool.or_eq_true, Bool.or_eq_false_iff, Bool.and_eq_true, Bool.and_eq_false_imp, Bool.not_eq_true, Bool.not_eq_true', Bool.not_eq_false', Classical.not_not, Int.not_lt, Int.not_le, gt_iff_lt, ge_iff_le] at hg); (try dsimp only); omega)
    refine WG.y rfl rfl (by decide) (pureV_ok tab_ok rfl (by first | exact fun _ => rfl | exact fun h => h | (intro h; simp_all))) ?_
    refine WG.y rfl rfl (by decide) (Yl.por rfl rfl rfl (fun _ => rfl) (by intro h1 h2; simp_all <;> omega)) ?_
    refine WG.run tab_ok 1 rfl ?_
    refine WG.y rfl rfl (by decide) (pureV_ok tab_ok rfl (by first | exact fun _ => rfl | exact fun h => h | (intro h; simp_all))) ?_
    refine' WG.y rfl rfl (by decide) (Yl.loadG tab_ok rfl rfl rfl (by first | exact fun _ => rfl | exact fun h => h | (intro h; simp_all)) ?r5 rfl ?h5 ?g5) ?_
    case r5 => apply Rd.addC; (first | exact Rd.blkC 0 rfl | exact Rd.blkC 1 rfl | exact Rd.blkC 2 rfl)
    case h5 => rfl
    case g5 => first | exact fun _ => trivial | (intro hg; (try simp only [decide_eq_true_eq, decide_eq_false_iff_not, beq_iff_eq, bne_iff_ne, beq_eq_false_iff_ne, bne_eq_false_iff_eq, ne_eq, Bool.or_eq_true, Bool.or_eq_false_iff, Bool.and_eq_true, Bool.and_eq_false_imp, Bool.not_eq_true, Bool.not_eq_true', Bool.not_eq_false', Classical.not_not, Int.not_lt, Int.not_le, gt_iff_lt, ge_iff_le] at hg); (try dsimp only); omega)
    refine WG.y rfl rfl (by decide) (pureV_ok tab_ok rfl (by first | exact fun _ => rfl | exact fun h => h | (intro h; simp_all))) ?_
    refine WG.y rfl rfl (by decide) (Yl.por rfl rfl rfl (fun _ => rfl) (by intro h1 h2; simp_all <;> omega)) ?_
    refine WG.nil ?_
    refine WE.nxt ?_
    refine W.cond rfl (fun hc1 => ?_) (fun hc1 => ?_)
    · try simp only [decide_eq_true_eq, decide_eq_false_iff_not, beq_iff_eq, bne_iff_ne, beq_eq_false_iff_ne, bne_eq_false_iff_eq, ne_eq, Bool.or_eq_true, Bool.or_eq_false_iff, Bool.and_eq_true, Bool.and_eq_false_imp, Bool.not_eq_true, Bool.not_eq_true', Bool.not_eq_false', Classical.not_not, Int.not_lt, Int.not_le, gt_iff_lt, ge_iff_le] at hc1
      have hno : zOk z = false := by
        rw [← Bool.not_eq_true]
        intro h
        have := zOk_iff.1 h _ (nth_mem hil)
        omega
      refine W.seq ?_
      refine W.region _ ?_
      refine WG.run tab_ok 1 rfl ?_
      refine WG.nil ?_
      refine WE.nxt ?_
      refine W.ret ?_
      refine WE.blk_ret ?_
      refine WE.then_ret ?_
      refine WE.then_ret ?_
      refine WE.blk_ret ?_
      refine WE.then_ret ?_
      refine WE.subE (E' := E) (by (repeat (first | exact List.Sublist.refl _ | exact List.nil_sublist _ | apply List.Sublist.cons_cons | apply List.Sublist.cons)); done) ?_
      refine WE.retF tab_ok [_] rfl ⟨rfl, trivial⟩ (RLe.refl _) ?_
      exact ⟨by rw [hno]; rfl, rfl⟩
    · try simp only [decide_eq_true_eq, decide_eq_false_iff_not, beq_iff_eq, bne_iff_ne, beq_eq_false_iff_ne, bne_eq_false_iff_eq, ne_eq, Bool.or_eq_true, Bool.or_eq_false_iff, Bool.and_eq_true, Bool.and_eq_false_imp, Bool.not_eq_true, Bool.not_eq_true', Bool.not_eq_false', Classical.not_not, Int.not_lt, Int.not_le, gt_iff_lt, ge_iff_le] at hc1
      have hy : 0 ≤ (nth z i).least ∧ (nth z i).least ≤ (nth z i).most ∧ (nth z i).most ≤ 1500 := by omega
      refine W.skip ?_
      refine WE.blk _ ?_
      refine WE.nxt ?_
      refine W.region _ ?_
      refine WG.y rfl rfl (by decide) (Yl.add rfl rfl rfl (fun _ => rfl) (by intro _; constructor <;> (try dsimp only) <;> omega)) ?_
      refine WG.run tab_ok 1 rfl ?_
      refine WG.nil ?_
      refine WE.again (i + 1) (⟨by omega, fun j hj => by
        by_cases e : j = i
        · subst e; exact hy
        · exact hst.2 j (by omega)⟩) (by (try dsimp only); omega) ⟨rfl, rfl, rfl, rfl⟩ (RLe.refl _) (by (repeat (first | exact List.Sublist.refl _ | exact List.nil_sublist _ | apply List.Sublist.cons_cons | apply List.Sublist.cons)); done)
  · try dsimp only at hc0
    refine W.exit ?_
    refine WE.then_exit ?_
    refine WE.then_exit ?_
    refine WE.blk_exit ?_
    refine WE.nxt ?_
    refine W.seq ?_
    refine W.region _ ?_
    refine WG.run tab_ok 1 rfl ?_
    refine WG.nil ?_
    refine WE.nxt ?_
    refine W.ret ?_
    refine WE.subE (E' := E) (by (repeat (first | exact List.Sublist.refl _ | exact List.nil_sublist _ | apply List.Sublist.cons_cons | apply List.Sublist.cons)); done) ?_
    refine WE.retF tab_ok [_] rfl ⟨rfl, trivial⟩ (RLe.refl _) ?_
    exact ⟨by rw [zOk_iff.2 (all_of_nth (fun j hj => hst.2 j (by omega)))]; rfl, rfl⟩

theorem CheckP_V {R : Ro} {za : Option Addr} {zc : Nat} {z : List Sz} {cap cls : Int} (hzr : RS R 2 encZ za z) : FnV Try.prog 50 [.int .i64 cap, .int .i64 cls, .slice za z.length zc] R (.int .i64 (chk18 cap cls z)) := by
  have hla := hzr.len
  refine Fn.toV (fun w0 E => ?_)
  refine Fn.enter (n := 38) Try.func50 rfl rfl (Nat.le_of_ble_eq_true rfl) rfl ?_
  refine W.seq ?_
  refine W.region _ ?_
  refine WG.run tab_ok 1 rfl ?_
  refine WG.nil ?_
  refine WE.nxt ?_
  refine W.seq ?_
  refine W.seq ?_
  refine W.region _ ?_
  refine WG.run tab_ok 3 rfl ?_
  refine WG.y rfl rfl (by decide) (pureV_ok tab_ok rfl (by first | exact fun _ => rfl | exact fun h => h | (intro h; simp_all))) ?_
  refine WG.y rfl rfl (by decide) (pureV_ok tab_ok rfl (by first | exact fun _ => rfl | exact fun h => h | (intro h; simp_all))) ?_
  refine WG.y rfl rfl (by decide) (Yl.por rfl rfl rfl (fun _ => rfl) (by intro h1 h2; simp_all <;> omega)) ?_
  refine WG.run tab_ok 1 rfl ?_
  refine WG.y rfl rfl (by decide) (pureV_ok tab_ok rfl (by first | exact fun _ => rfl | exact fun h => h | (intro h; simp_all))) ?_
  refine WG.y rfl rfl (by decide) (pureV_ok tab_ok rfl (by first | exact fun _ => rfl | exact fun h => h | (intro h; simp_all))) ?_
  refine WG.y rfl rfl (by decide) (pureV_ok tab_ok rfl (by first | exact fun _ => rfl | exact fun h => h | (intro h; simp_all))) ?_
  refine WG.y rfl rfl (by decide) (Yl.por rfl rfl rfl (fun _ => rfl) (by intro h1 h2; simp_all <;> omega)) ?_
  refine WG.run tab_ok 1 rfl ?_
  refine WG.y rfl rfl (by decide) (pureV_ok tab_ok rfl (by first | exact fun _ => rfl | exact fun h => h | (intro h; simp_all))) ?_
  refine WG.y rfl rfl (by decide) (pureV_ok tab_ok rfl (by first | exact fun _ => rfl | exact fun h => h | (intro h; simp_all))) ?_
  refine WG.y rfl rfl (by decide) (pureV_ok tab_ok rfl (by first | exact fun _ => rfl | exact fun h => h | (intro h; simp_all))) ?_
  refine WG.y rfl rfl (by decide) (Yl.por rfl rfl rfl (fun _ => rfl) (by intro h1 h2; simp_all <;> omega)) ?_
  refine WG.run tab_ok 1 rfl ?_
  refine WG.y rfl rfl (by decide) (pureV_ok tab_ok rfl (by first | exact fun _ => rfl | exact fun h => h | (intro h; simp_all))) ?_
  refine WG.callV en106 rfl rfl (by decide) (CallOp.mk' rfl rfl rfl rfl) (by first | exact fun _ => rfl | exact fun h => h | (intro h; simp_all)) (fun hg => RightP_V hzr) ?_
  refine WG.y rfl rfl (by decide) (pureV_ok tab_ok rfl (by first | exact fun _ => rfl | exact fun h => h | (intro h; simp_all))) ?_
  refine WG.y rfl rfl (by decide) (Yl.por rfl rfl rfl (fun _ => rfl) (by intro h1 h2; simp_all <;> omega)) ?_
  refine WG.run tab_ok 1 rfl ?_
  refine WG.y rfl rfl (by decide) (pureV_ok tab_ok rfl (by first | exact fun _ => rfl | exact fun h => h | (intro h; simp_all))) ?_
  refine WG.y rfl rfl (by decide) (pureV_ok tab_ok rfl (by first | exact fun _ => rfl | exact fun h => h | (intro h; simp_all))) ?_
  refine WG.y rfl rfl (by decide) (Yl.por rfl rfl rfl (fun _ => rfl) (by intro h1 h2; simp_all <;> omega)) ?_
  refine WG.run tab_ok 1 rfl ?_
  refine WG.y rfl rfl (by decide) (pureV_ok tab_ok rfl (by first | exact fun _ => rfl | exact fun h => h | (intro h; simp_all))) ?_
  refine WG.y rfl rfl (by decide) (pureV_ok tab_ok rfl (by first | exact fun _ => rfl | exact fun h => h | (intro h; simp_all))) ?_
  refine WG.y rfl rfl (by decide) (pureV_ok tab_ok rfl (by first | exact fun _ => rfl | exact fun h => h | (intro h; simp_all))) ?_
  refine WG.y rfl rfl (by decide) (pureV_ok tab_ok rfl (by first | exact fun _ => rfl | exact fun h => h | (intro h; simp_all))) ?_
  refine WG.y rfl rfl (by decide) (Yl.por rfl rfl rfl (fun _ => rfl) (by intro h1 h2; simp_all <;> omega)) ?_
  refine WG.nil ?_
  refine WE.nxt ?_
  refine W.cond rfl (fun hc0 => ?_) (fun hc0 => ?_)
  · try simp only [decide_eq_true_eq, decide_eq_false_iff_not, beq_iff_eq, bne_iff_ne, beq_eq_false_iff_ne, bne_eq_false_iff_eq, ne_eq, Bool.or_eq_true, Bool.or_eq_false_iff, Bool.and_eq_true, Bool.and_eq_false_imp, Bool.not_eq_true, Bool.not_eq_true', Bool.not_eq_false', Classical.not_not, Int.not_lt, Int.not_le, gt_iff_lt, ge_iff_le] at hc0
    have e : chk18 cap cls z = 2 := if_pos (by
      rcases hc0 with (((((h|h)|h)|h)|h)|h)|h
      · exact .inl h
      · exact .inr (.inl h)
      · exact .inr (.inr (.inl h))
      · exact .inr (.inr (.inr (.inl h)))
      · exact .inr (.inr (.inr (.inr (.inl h))))
      · exact .inr (.inr (.inr (.inr (.inr (.inl h)))))
      · exact .inr (.inr (.inr (.inr (.inr (.inr h))))))
    refine W.seq ?_
    refine W.region _ ?_
    refine WG.run tab_ok 1 rfl ?_
    refine WG.nil ?_
    refine WE.nxt ?_
    refine W.ret ?_
    refine WE.then_ret ?_
    refine WE.subE (E' := E) (by (repeat (first | exact List.Sublist.refl _ | exact List.nil_sublist _ | apply List.Sublist.cons_cons | apply List.Sublist.cons)); done) ?_
    refine WE.retF tab_ok [_] rfl ⟨rfl, trivial⟩ (RLe.refl _) ?_
    exact ⟨by rw [e]; rfl, rfl⟩
  · try simp only [decide_eq_true_eq, decide_eq_false_iff_not, beq_iff_eq, bne_iff_ne, beq_eq_false_iff_ne, bne_eq_false_iff_eq, ne_eq, Bool.or_eq_true, Bool.or_eq_false_iff, Bool.and_eq_true, Bool.and_eq_false_imp, Bool.not_eq_true, Bool.not_eq_true', Bool.not_eq_false', Classical.not_not, Int.not_lt, Int.not_le, gt_iff_lt, ge_iff_le] at hc0
    have e : chk18 cap cls z = 0 := if_neg (by
      rintro (h|h|h|h|h|h|h) <;> first | omega | (simp_all; done))
    refine W.skip ?_
    refine WE.nxt ?_
    refine W.seq ?_
    refine W.region _ ?_
    refine WG.run tab_ok 1 rfl ?_
    refine WG.nil ?_
    refine WE.nxt ?_
    refine W.ret ?_
    refine WE.subE (E' := E) (by (repeat (first | exact List.Sublist.refl _ | exact List.nil_sublist _ | apply List.Sublist.cons_cons | apply List.Sublist.cons)); done) ?_
    refine WE.retF tab_ok [_] rfl ⟨rfl, trivial⟩ (RLe.refl _) ?_
    exact ⟨by rw [e]; rfl, rfl⟩

end Go.Proofs.Ytnaeefefggmomaa

/- Chapter 19: the curve. No condition. -/
set_option linter.unusedSimpArgs false
set_option linter.unusedVariables false
namespace Go.Proofs.Ytnaeefefggmomaa
open Go Go.RowKit Go.Proofs.Ytnaeefefggmomaa.K Go.Proofs.Ytnaeefefggmomaa.M

end Go.Proofs.Ytnaeefefggmomaa

/- Chapter 19: what its laws use. No condition. -/
set_option linter.unusedSimpArgs false
set_option linter.unusedVariables false
namespace Go.Proofs.Ytnaeefefggmomaa
open Go Go.RowKit Go.Proofs.Ytnaeefefggmomaa.K Go.Proofs.Ytnaeefefggmomaa.M

def wgtF (hi : Int) (xs : List Int) (c : Nat) (i : Nat) : Int := 1 + mod (nth xs (c + i)) hi
end Go.Proofs.Ytnaeefefggmomaa

/- Chapter 19: runs of weighted round robin, the reference. No condition. -/
set_option linter.unusedSimpArgs false
set_option linter.unusedVariables false
namespace Go.Proofs.Ytnaeefefggmomaa
open Go Go.RowKit Go.Proofs.Ytnaeefefggmomaa.K Go.Proofs.Ytnaeefefggmomaa.M

end Go.Proofs.Ytnaeefefggmomaa

/- Chapter 19: never idle. No condition. -/
set_option linter.unusedSimpArgs false
set_option linter.unusedVariables false
namespace Go.Proofs.Ytnaeefefggmomaa
open Go Go.RowKit Go.Proofs.Ytnaeefefggmomaa.K Go.Proofs.Ytnaeefefggmomaa.M

end Go.Proofs.Ytnaeefefggmomaa

/- Time slots, plain: the choice of the program and of the reference. No condition. -/
namespace Go.Proofs.Ytnaeefefggmomaa.M
open Go Go.Proofs.Ytnaeefefggmomaa.K

/-- how many ticks in a row from t on belong to a class; -1 if all do -/
def aheadN (tb : List Int) (cls : Int) (t : Nat) : Int := findFrom (fun n => decide (cls < 0) || nth tb ((t + n) % tb.length) != cls) tb.length 0
def afterN (tb : List Int) (t : Nat) : Nat := if findFrom (fun n => nth tb ((t + 1 + n) % tb.length) != nth tb (t % tb.length)) tb.length 0 = -1 then tb.length else (findFrom (fun n => nth tb ((t + 1 + n) % tb.length) != nth tb (t % tb.length)) tb.length 0).toNat
def roomN (cap : Int) (tb : List Int) (t : Nat) (left : Int) : Int := if afterN tb t = tb.length then 1073741824 else left + cap * (afterN tb t : Int)
def slotT (tb : List Int) (t : Nat) : Int := nth tb (t % tb.length)
def slotCh (ps : List Pkt) (cap : Int) (tb : List Int) (ms : MS) (_ : Unit) : Int × Nat × Unit :=
  if slotT tb ms.now.toNat < 0 then (-1, ms.before, ())
  else if nextW ps ms (slotT tb ms.now.toNat) < 0 then (-1, skipTo ms.begun ms.before, ())
  else if aheadN tb (slotT tb ms.now.toNat) ms.now.toNat ≠ -1 ∧ (nth ps (nextW ps ms (slotT tb ms.now.toNat)).toNat).size > ms.left + (aheadN tb (slotT tb ms.now.toNat) ms.now.toNat - 1) * cap then (-1, skipTo ms.begun ms.before, ())
  else (nextW ps ms (slotT tb ms.now.toNat), skipTo ms.begun ms.before, ())
def slotRc (ps : List Pkt) (cap : Int) (tb : List Int) (left : Int) (st : St) (_ : Unit) : Int × Unit :=
  if 0 ≤ slotT tb st.time ∧ 0 ≤ firstW ps st (slotT tb st.time) ∧ (nth ps (firstW ps st (slotT tb st.time)).toNat).size ≤ roomN cap tb st.time left then (firstW ps st (slotT tb st.time), ()) else (-1, ())
section
variable {ps : List Pkt} {cap : Int} {tb : List Int} {ms : MS} {st : St}
end
/-- tables that are right -/
def okT (classes : Int) (tb : List Int) : Bool := decide (1 ≤ tb.length) && decide (tb.length ≤ 40) && tb.all fun c => decide (-1 ≤ c) && decide (c < classes)
/-- the classes of a table -/
def classesT (tb : List Int) : Int := tb.foldl (fun m c => if m < c + 1 then c + 1 else m) 1
def srunE (cap ticks : Int) (tb : List Int) (ps : List Pkt) : Int := if okT 6 tb = true then lrunE cap (classesT tb) ticks ps else 2
end Go.Proofs.Ytnaeefefggmomaa.M

/- Weighted round robin while a class is backlogged, plain: what the others take. No condition. -/
namespace Go.Proofs.Ytnaeefefggmomaa.M
open Go Go.Proofs.Ytnaeefefggmomaa.K

section
variable {w : List Int} {z : List Sz} {k : Nat}
/-- what the others may still take, from the beginning of class c on until class k -/
def restR (w : List Int) (z : List Sz) (k c : Nat) : Int := if c ≤ k then qSum k w z k - qSum k w z c else qSum k w z w.length - qSum k w z c + qSum k w z k
def mosts (w : List Int) (z : List Sz) (c : Nat) : Int := nth w c * (nth z c).most
theorem qSum_succ (i : Nat) : qSum k w z (i + 1) = qSum k w z i + (if i ≠ k then mosts w z i else 0) := by
  simp only [qSum, mosts]
  by_cases h : i = k
  · rw [if_neg (by omega), if_neg (by omega)]
  · rw [if_pos (by omega), if_pos h]
theorem restR_self : restR w z k k = 0 := by unfold restR; rw [if_pos (Nat.le_refl _)]; omega
theorem restR_next {c : Nat} (hc : c < w.length) (hk : k < w.length) (hne : c ≠ k) : restR w z k ((c + 1) % w.length) = restR w z k c - mosts w z c := by
  have hs := qSum_succ (w := w) (z := z) (k := k) c
  rw [if_pos hne] at hs
  by_cases hl : c + 1 < w.length
  · rw [Nat.mod_eq_of_lt hl]
    unfold restR
    by_cases h : c ≤ k
    · rw [if_pos h, if_pos (by omega), hs]; omega
    · rw [if_neg h, if_neg (by omega), hs]; omega
  · have e : c + 1 = w.length := by omega
    rw [e, Nat.mod_self]
    unfold restR
    rw [if_pos (Nat.zero_le _), if_neg (by omega), ← e, hs]
    have h0 : qSum k w z 0 = 0 := rfl
    omega
theorem restR_first (hk : k < w.length) : restR w z k ((k + 1) % w.length) = qSum k w z w.length := by
  have hs := qSum_succ (w := w) (z := z) (k := k) k
  rw [if_neg (by omega)] at hs
  by_cases hl : k + 1 < w.length
  · rw [Nat.mod_eq_of_lt hl]
    unfold restR
    rw [if_neg (by omega), hs]; omega
  · have e : k + 1 = w.length := by omega
    rw [e, Nat.mod_self]
    unfold restR
    rw [if_pos (Nat.zero_le _), ← e, hs]
    have h0 : qSum k w z 0 = 0 := rfl
    omega
/-- in class c, l packets of whose visit are to come and op bytes of the open one -/
def JR (w : List Int) (z : List Sz) (k c : Nat) (l op own oth : Int) : Prop :=
  c < w.length ∧ 0 ≤ l ∧
  if c = k then ∃ f : Nat, oth ≤ qSum k w z w.length * f ∧ nth w k * (nth z k).least * f ≤ own + op + l * (nth z k).least ∧ nth w k * (nth z k).least * ((f : Int) - 1) ≤ own
  else ∃ f : Nat, oth + op + l * (nth z c).most + (restR w z k c - mosts w z c) ≤ qSum k w z w.length * ((f : Int) + 1) ∧ nth w k * (nth z k).least * f ≤ own
theorem JR.next (hw : ∀ x ∈ w, 1 ≤ x) (hz : ∀ c, c < w.length → 0 ≤ (nth z c).least ∧ (nth z c).least ≤ (nth z c).most) (hk : k < w.length) (hn : 2 ≤ w.length) {c : Nat} {l own oth : Int} (h : JR w z k c l 0 own oth) (hl : c = k → l ≤ 0) :
    JR w z k ((c + 1) % w.length) (nth w ((c + 1) % w.length)) 0 own oth := by
  obtain ⟨h1, h2, h3⟩ := h
  have hlt : (c + 1) % w.length < w.length := Nat.mod_lt _ (by omega)
  have hwc := hw _ (nth_mem hlt)
  refine ⟨hlt, by omega, ?_⟩
  by_cases hck : c = k
  · subst hck
    rw [if_pos rfl] at h3
    obtain ⟨f, f1, f2, f3⟩ := h3
    have hne : (c + 1) % w.length ≠ c := by
      by_cases hh : c + 1 < w.length
      · rw [Nat.mod_eq_of_lt hh]; omega
      · rw [show c + 1 = w.length by omega, Nat.mod_self]; omega
    rw [if_neg hne]
    refine ⟨f, ?_, ?_⟩
    · rw [restR_first hk]
      show oth + 0 + mosts w z ((c + 1) % w.length) + (_ - mosts w z ((c + 1) % w.length)) ≤ _
      rw [Int.mul_add, Int.mul_one]; omega
    · have : l = 0 := by have := hl rfl; omega
      rw [this] at f2
      simpa using f2
  · rw [if_neg hck] at h3
    obtain ⟨f, f1, f2⟩ := h3
    have hr := restR_next (z := z) h1 hk hck
    have hl0 : 0 ≤ l * (nth z c).most := Int.mul_nonneg h2 (by have := hz c h1; omega)
    by_cases hnk : (c + 1) % w.length = k
    · rw [if_pos hnk, hnk]
      rw [hnk, restR_self] at hr
      refine ⟨f + 1, ?_, ?_, ?_⟩
      · have : ((f + 1 : Nat) : Int) = (f : Int) + 1 := by omega
        rw [this]; omega
      · have : ((f + 1 : Nat) : Int) = (f : Int) + 1 := by omega
        rw [this, Int.mul_add, Int.mul_one]; omega
      · have : ((f + 1 : Nat) : Int) - 1 = (f : Int) := by omega
        rw [this]; exact f2
    · rw [if_neg hnk]
      refine ⟨f, ?_, f2⟩
      show oth + 0 + mosts w z ((c + 1) % w.length) + (_ - mosts w z ((c + 1) % w.length)) ≤ _
      omega
end
end Go.Proofs.Ytnaeefefggmomaa.M

/- Weighted round robin: the invariant of the rounds while a class is backlogged, plain. No condition. -/
namespace Go.Proofs.Ytnaeefefggmomaa.M
open Go Go.Proofs.Ytnaeefefggmomaa.K

/-- an invariant of every run: of the choice's state, the open packet and what is left of it -/
structure Vis {σ : Type} (ps : List Pkt) (ch : MS → σ → Int × Nat × σ) (good : MS → σ → Prop) (V : σ → Int → Int → Prop) : Prop where
  pick : ∀ ms sg r, good ms sg → ms.begun.length = ps.length → V sg (-1) r → 0 ≤ (ch ms sg).1 → V (ch ms sg).2.2 (ch ms sg).1 (nth ps (ch ms sg).1.toNat).size
  idle : ∀ ms sg r r', good ms sg → ms.begun.length = ps.length → V sg (-1) r → (ch ms sg).1 < 0 → V (ch ms sg).2.2 (ch ms sg).1 r'
  send : ∀ (sg : σ) (cur rest n : Int), 0 ≤ cur → cur < ps.length → 1 ≤ n → n ≤ rest → V sg cur rest → V sg (if rest - n = 0 then -1 else cur) (rest - n)
  none : ∀ sg c c' r r', c < 0 → c' < 0 → V sg c r → V sg c' r'
section
variable {σ : Type} {ps : List Pkt} {ch : MS → σ → Int × Nat × σ} {good : MS → σ → Prop} {rel : Nat → Nat → Prop} {classes k : Nat} {V : σ → Int → Int → Prop}
theorem Vis.inner (hg : Fair ps ch good rel) (hV : Vis ps ch good V) (hs : ∀ p ∈ ps, 1 ≤ p.size) (hfl : ∀ p ∈ ps, 0 ≤ p.flow ∧ p.flow < classes) {t : Nat} : ∀ (j : Nat) (s : RS σ), Wk ps classes good rel (t + 1) s → s.ms.now = t → 0 ≤ s.ms.left → V s.sg s.cur s.rest →
    V (inner ps ch t j s).sg (inner ps ch t j s).cur (inner ps ch t j s).rest
  | 0, s, hw, hn, hl, h => h
  | j + 1, s, hw, hn, hl, h => by
    simp only [M.inner]
    by_cases hl0 : s.ms.left ≤ 0
    · rw [if_pos hl0]; exact h
    · rw [if_neg hl0]
      have hw1 := hw.pickup hg hs
      obtain ⟨e1, e2, e3, e4⟩ := pickup_same ps ch s
      have h1 : V (M.pickup ps ch s).sg (M.pickup ps ch s).cur (M.pickup ps ch s).rest := by
        unfold M.pickup
        by_cases hcur : 0 ≤ s.cur
        · rw [if_pos hcur]; exact h
        · rw [if_neg hcur]
          have h0 := hV.none s.sg s.cur (-1) s.rest s.rest (by omega) (by omega) h
          by_cases hr : (ch s.ms s.sg).1 < 0
          · simp only [hr, if_true]
            exact hV.idle _ _ _ _ hw.good hw.blen h0 hr
          · simp only [hr, if_false]
            exact hV.pick _ _ _ hw.good hw.blen h0 (by omega)
      by_cases hcn : (M.pickup ps ch s).cur < 0
      · rw [if_pos hcn]; exact h1
      · rw [if_neg hcn]
        obtain ⟨c1, c2, c3⟩ := hw1.cur (by omega)
        obtain ⟨g1, g2, g3, g4, g5, g6⟩ := hw1.send hfl hg.free (by rw [e2]; exact hn) (by omega) (by rw [e1]; omega)
        refine Vis.inner hg hV hs hfl j _ g1 (by rw [g5, e2]; exact hn) g3 ?_
        have hle : (if (M.pickup ps ch s).ms.left < (M.pickup ps ch s).rest then (M.pickup ps ch s).ms.left else (M.pickup ps ch s).rest) ≤ (M.pickup ps ch s).rest := by split <;> omega
        have hge : 1 ≤ (if (M.pickup ps ch s).ms.left < (M.pickup ps ch s).rest then (M.pickup ps ch s).ms.left else (M.pickup ps ch s).rest) := by rw [e1]; split <;> omega
        exact hV.send _ _ _ _ (by omega) c1 hge hle h1
end
/-! ### round robin -/
def Jrob (ps : List Pkt) (w : List Int) (z : List Sz) (k : Nat) (sg : Nat × Int) (cur rest own oth : Int) : Prop := JR w z k sg.1 sg.2 (if 0 ≤ cur then rest else 0) own oth ∧ (0 ≤ cur → (nth ps cur.toNat).flow = sg.1)
/-- sizes of the packets of each class -/
def SzOf (ps : List Pkt) (z : List Sz) : Prop := ∀ i, i < ps.length → (nth z (nth ps i).flow.toNat).least ≤ (nth ps i).size ∧ (nth ps i).size ≤ (nth z (nth ps i).flow.toNat).most
section
variable {ps : List Pkt} {w : List Int} {z : List Sz} {k : Nat}
/-- where every run stands -/
def Vrob (ps : List Pkt) (w : List Int) (sg : Nat × Int) (cur rest : Int) : Prop := sg.1 < w.length ∧ 0 ≤ sg.2 ∧ sg.2 ≤ nth w sg.1 ∧ (0 ≤ cur → cur < ps.length ∧ (nth ps cur.toNat).flow = sg.1 ∧ sg.2 ≤ nth w sg.1 - 1 ∧ 0 ≤ rest ∧ rest ≤ (nth ps cur.toNat).size)
end
end Go.Proofs.Ytnaeefefggmomaa.M

/- Shares over one run: what the others are sent while a class is backlogged, plain. No condition. -/
namespace Go.Proofs.Ytnaeefefggmomaa.M
open Go Go.Proofs.Ytnaeefefggmomaa.K

section
variable {σ : Type} {ps : List Pkt} {ch : MS → σ → Int × Nat × σ} {good : MS → σ → Prop} {rel : Nat → Nat → Prop} {classes k : Nat}
end
end Go.Proofs.Ytnaeefefggmomaa.M

/- Which of two curves grows less, plain. No condition. -/
namespace Go.Proofs.Ytnaeefefggmomaa.M
open Go Go.Proofs.Ytnaeefefggmomaa.K

def lcmN (a b : Nat) : Nat := a / Nat.gcd a b * b
theorem lcmN_facts {a b : Nat} (ha : 0 < a) (hb : 0 < b) : lcmN a b = b / Nat.gcd a b * a ∧ lcmN a b = a / Nat.gcd a b * b ∧ lcmN a b ≤ a * b ∧ 0 < lcmN a b := by
  have hg : 0 < Nat.gcd a b := Nat.gcd_pos_of_pos_right _ hb
  have h1 : Nat.gcd a b ∣ a := Nat.gcd_dvd_left _ _
  have h2 : Nat.gcd a b ∣ b := Nat.gcd_dvd_right _ _
  refine ⟨?_, rfl, Nat.mul_le_mul_right _ (Nat.div_le_self _ _), Nat.mul_pos (Nat.div_pos (Nat.le_of_dvd ha h1) hg) hb⟩
  unfold lcmN
  rw [Nat.div_mul_right_comm h1, Nat.div_mul_right_comm h2, Nat.mul_comm]
/-! ### the curve of weighted round robin: greater sums leave less -/
end Go.Proofs.Ytnaeefefggmomaa.M

/- Finite curves in the program's own form, delays, what a flow keeps, plain. No condition. -/
namespace Go.Proofs.Ytnaeefefggmomaa.M
open Go Go.Proofs.Ytnaeefefggmomaa.K

/-- a finite valid curve: values of F up to S + P, period P, increment I -/
structure FC (F : Nat → Int) (S P : Nat) (I : Int) : Prop where
  hP : 1 ≤ P ∧ P ≤ 120
  hn : S + P ≤ 400
  hI : 0 ≤ I ∧ I ≤ 1073741824
  hg : Grows F S P I
  hm : ∀ t, F t ≤ F (t + 1)
  h0 : 0 ≤ F 0
  hb : ∀ t, t < S + P → F t ≤ 1073741824
section
variable {F G : Nat → Int} {S P S1 P1 S2 P2 : Nat} {I I1 I2 : Int}
theorem FC.nonneg (h : FC F S P I) (t : Nat) : 0 ≤ F t := by have := mono_le h.hm (Nat.zero_le t); have := h.h0; omega
theorem FC.mono (h : FC F S P I) {a b : Nat} (hab : a ≤ b) : F a ≤ F b := mono_le h.hm hab
theorem FC.bound (h : FC F S P I) (t : Nat) : F t ≤ 1073741824 * ((t : Int) + 2) := by
  have hP := h.hP
  have hI := h.hI
  induction t using Nat.strongRecOn with
  | _ t ih =>
    by_cases ht : t < S + P
    · have := h.hb t ht; omega
    · have h1 := ih (t - P) (by omega)
      have h2 := h.hg (t - P) (by omega)
      rw [show t - P + P = t by omega] at h2
      omega
theorem FC.fin (h : FC F S P I) {t : Nat} (ht : t < S + P) : F t ≠ INF := by have := h.hb t ht; unfold INF; omega
theorem FC.atR (h : FC F S P I) (t : Nat) : M.atR (fvals F (S + P)) P I (t : Int) = F t := atR_fvals (by have := h.hP; omega) h.hg (fun t ht => h.fin ht) t
theorem fc_line {c : Int} (h : 0 ≤ c ∧ c ≤ 1073741824) : FC (fun t => c * t) 0 1 c where
  hP := by omega
  hn := by omega
  hI := h
  hg := fun t _ => by dsimp only; rw [Int.natCast_add, Int.mul_add]; simp
  hm := fun t => by show c * (t : Int) ≤ c * ((t + 1 : Nat) : Int); rw [Int.natCast_add, Int.mul_add]; simp; omega
  h0 := by simp
  hb := fun t ht => by obtain rfl : t = 0 := by omega
                       simp
/-- the least tick with so much, and whether there is one -/
def reachF (G : Nat → Int) (S P : Nat) (I v : Int) : Int × Bool :=
  if findFrom (fun t => decide (G t ≥ v)) (S + P) 0 ≠ -1 then (findFrom (fun t => decide (G t ≥ v)) (S + P) 0, true)
  else if I = 0 then (0, false)
  else (findFrom (fun t => decide (G t ≥ v)) (P + 1) (S + P + (((v - G (S + P - 1) + I - 1) / I).toNat - 1) * P), true)
/-- the greatest of the distances -/
def greatW (f : Nat → Int × Bool) : Nat → Nat → Int → Int → Bool × Int × Int
  | 0, _, v, a => (false, v, a)
  | n + 1, t, v, a => if (f t).2 = false then (true, 0, 0) else if (f t).1 > v then greatW f n (t + 1) (f t).1 t else greatW f n (t + 1) v a
end
end Go.Proofs.Ytnaeefefggmomaa.M
namespace Go.Proofs.Ytnaeefefggmomaa.M
open Go Go.Proofs.Ytnaeefefggmomaa.K
end Go.Proofs.Ytnaeefefggmomaa.M

/- What a flow keeps: the least curve of a trace, plain. No condition. -/
namespace Go.Proofs.Ytnaeefefggmomaa.M
open Go Go.Proofs.Ytnaeefefggmomaa.K

theorem pbytes_congr {flow t t' : Int} : ∀ (ps : List Pkt), (∀ p ∈ ps, p.time < t ↔ p.time < t') → pbytes flow t ps = pbytes flow t' ps
  | [], _ => rfl
  | p :: ps, h => by
    have h1 := h p (by simp)
    have ih := pbytes_congr (flow := flow) ps (fun q hq => h q (by simp [hq]))
    simp only [pbytes]
    rw [ih]
    congr 1
    have e : hit flow t p ↔ hit flow t' p := by unfold hit; rw [h1]
    by_cases hh : hit flow t p
    · rw [if_pos hh, if_pos (e.1 hh)]
    · rw [if_neg hh, if_neg (fun h2 => hh (e.2 h2))]
def endN (ps : List Pkt) : Int := if ps.length = 0 then 0 else (nth ps (ps.length - 1)).time + 1
theorem nth_up {vs : List Int} {en : Nat} (hm : ∀ j, j < en → nth vs j ≤ nth vs (j + 1)) {a b : Nat} (hab : a ≤ b) (hb : b ≤ en) : nth vs a ≤ nth vs b := by
  induction b with
  | zero => obtain rfl : a = 0 := by omega
            exact Int.le_refl _
  | succ b ih =>
    by_cases e : a = b + 1
    · subst e; exact Int.le_refl _
    · have h1 := ih (by omega) (by omega)
      have h2 := hm b (by omega)
      omega
theorem keeps {ps : List Pkt} {flow : Int} (hsort : ps.Pairwise fun a b => a.time ≤ b.time) {en : Nat} (hen : ∀ p ∈ ps, 0 ≤ p.time ∧ p.time < en) {vs : List Int} (h0 : ∀ j, j ≤ en → 0 ≤ nth vs j) (hm : ∀ j, j < en → nth vs j ≤ nth vs (j + 1))
    (hP : ∀ i, i < ps.length → ∀ T t : Nat, (nth ps i).time = T → T ≤ t → t ≤ en → pbytes flow (t : Int) ps - pbytes flow (T : Int) ps ≤ nth vs (t - T)) {x t : Nat} (hxt : x ≤ t) : pbytes flow (t : Int) ps - pbytes flow (x : Int) ps ≤ nth vs (min (t - x) en) := by
  have hnn := h0 (min (t - x) en) (by omega)
  by_cases hex : ∃ i, i < ps.length ∧ (x : Int) ≤ (nth ps i).time ∧ (nth ps i).time < t
  · obtain ⟨i0, i1, i2, i3⟩ := hex
    rcases findFrom_cases (fun i => decide ((x : Int) ≤ (nth ps i).time)) ps.length 0 with ⟨j, j1, j2, _, j4, j5⟩ | ⟨_, h2⟩
    · have j4 := of_decide_eq_true j4
      have hji : j ≤ i0 := by
        apply Classical.byContradiction
        intro hn
        have := of_decide_eq_false (j5 i0 (Nat.zero_le _) (by omega))
        exact this i2
      have hle : ∀ i, j ≤ i → i < ps.length → (nth ps j).time ≤ (nth ps i).time := fun i h1 h2 => by
        by_cases e : j = i
        · subst e; exact Int.le_refl _
        · have := List.pairwise_iff_getElem.1 hsort j i (by omega) h2 (by omega)
          rwa [← nth_eq (show j < ps.length by omega), ← nth_eq h2] at this
      have hj := hen _ (nth_mem (xs := ps) (k := j) (by omega))
      obtain ⟨T, hT⟩ := Int.eq_ofNat_of_zero_le hj.1
      have hTi := hle i0 hji i1
      have e1 : pbytes flow (x : Int) ps = pbytes flow (T : Int) ps := by
        refine pbytes_congr ps (all_of_nth (fun i hi => ?_))
        constructor
        · intro h; omega
        · intro h
          apply Classical.byContradiction
          intro hn
          by_cases hij : i < j
          · have := of_decide_eq_false (j5 i (Nat.zero_le _) hij)
            omega
          · have := hle i (by omega) hi
            omega
      have e2 : pbytes flow (t : Int) ps = pbytes flow ((min t en : Nat) : Int) ps := by
        refine pbytes_congr ps (fun p hp => ?_)
        have := hen p hp
        omega
      have h3 := hP j (by omega) T (min t en) hT (by omega) (by omega)
      have h4 := nth_up hm (a := min t en - T) (b := min (t - x) en) (by omega) (by omega)
      omega
    · exact absurd i2 (of_decide_eq_false (h2 i0 (Nat.zero_le _) (by omega)))
  · have e : pbytes flow (t : Int) ps = pbytes flow (x : Int) ps := by
      refine pbytes_congr ps (all_of_nth (fun i hi => ?_))
      constructor
      · intro h
        apply Classical.byContradiction
        intro hn
        exact hex ⟨i, hi, by omega, h⟩
      · intro h; omega
    omega
end Go.Proofs.Ytnaeefefggmomaa.M

/- Any line that is never idle and keeps the order within a class: service and waits of a class, plain. No condition. -/
namespace Go.Proofs.Ytnaeefefggmomaa.M
open Go Go.Proofs.Ytnaeefefggmomaa.K

section
variable {σ : Type} {ps : List Pkt} {ch : MS → σ → Int × Nat × σ} {good : MS → σ → Prop} {rel : Nat → Nat → Prop} {classes col k : Nat} {s : RS σ}
end
end Go.Proofs.Ytnaeefefggmomaa.M
namespace Go.Proofs.Ytnaeefefggmomaa.M
open Go Go.Proofs.Ytnaeefefggmomaa.K
end Go.Proofs.Ytnaeefefggmomaa.M

/- Deficit round robin, plain: the choice, that it ends, and what every run keeps. No condition. -/
namespace Go.Proofs.Ytnaeefefggmomaa.M
open Go Go.Proofs.Ytnaeefefggmomaa.K

def grant (nx : Int → Int) (w : List Int) (c : Nat) (b : Bool) (d : List Int) : List Int := if 0 ≤ nx c ∧ b = false then d.set c (nth d c + nth w c) else d
def drop0 (nx : Int → Int) (c : Nat) (d : List Int) : List Int := if nx c < 0 then d.set c 0 else d
def defGo (nx sz : Int → Int) (w : List Int) : Nat → Nat → Bool → List Int → Int × (Nat × Bool × List Int)
  | 0, c, b, d => (-1, (c, b, d))
  | k + 1, c, b, d =>
    if 0 ≤ nx c ∧ sz (nx c) ≤ nth (grant nx w c b d) c then (nx c, (c, true, (grant nx w c b d).set c (nth (grant nx w c b d) c - sz (nx c))))
    else defGo nx sz w k ((c + 1) % w.length) false (drop0 nx c (grant nx w c b d))
def szOf (ps : List Pkt) (i : Int) : Int := (nth ps i.toNat).size
/-- so many steps are enough -/
def defF (n : Nat) : Nat := 1502 * n
def defCh (ps : List Pkt) (w : List Int) (ms : MS) (s : Nat × Bool × List Int) : Int × Nat × (Nat × Bool × List Int) :=
  if firstR ps ms < 0 then (-1, skipTo ms.begun ms.before, s)
  else ((defGo (nextW ps ms) (szOf ps) w (defF w.length) s.1 s.2.1 s.2.2).1, skipTo ms.begun ms.before, (defGo (nextW ps ms) (szOf ps) w (defF w.length) s.1 s.2.1 s.2.2).2)
def defRc (ps : List Pkt) (w : List Int) (st : St) (g : Nat × Bool × List Int) : Int × (Nat × Bool × List Int) :=
  if 0 ≤ firstW ps st (-1) then defGo (firstW ps st) (szOf ps) w (defF w.length) g.1 g.2.1 g.2.2 else (-1, g)
/-- the deficits' bounds -/
def DOk (n c : Nat) (b : Bool) (d : List Int) : Prop := c < n ∧ d.length = n ∧ ∀ i, i < n → 0 ≤ nth d i ∧ nth d i ≤ (if i = c ∧ b = true then 7499 else 1499)
def dist (n j c : Nat) : Nat := if c ≤ j then j - c else j + n - c
/-- how far a waiting class is -/
def far (n j c : Nat) (b : Bool) (d : List Int) : Nat := n * (1500 - nth d j).toNat + (if c = j ∧ b = true then n else dist n j c)
def DSoon (nx : Int → Int) (n k c : Nat) (b : Bool) (d : List Int) : Prop := ∃ j, j < n ∧ 0 ≤ nx (j : Int) ∧ far n j c b d < k
section
variable {nx sz : Int → Int} {w : List Int}
theorem grant_len (c : Nat) (b : Bool) (d : List Int) : (grant nx w c b d).length = d.length := by unfold grant; split <;> simp
theorem drop0_len (c : Nat) (d : List Int) : (drop0 nx c d).length = d.length := by unfold drop0; split <;> simp
theorem grant_ne {c i : Nat} {b : Bool} {d : List Int} (h : i ≠ c) : nth (grant nx w c b d) i = nth d i := by
  unfold grant; split
  · rw [nth_set_ne (Ne.symm h)]
  · rfl
theorem grant_self {c : Nat} {b : Bool} {d : List Int} (h : c < d.length) : nth (grant nx w c b d) c = (if 0 ≤ nx c ∧ b = false then nth d c + nth w c else nth d c) := by
  unfold grant; split
  · rw [nth_set_self h]
  · rfl
theorem drop0_ne {c i : Nat} {d : List Int} (h : i ≠ c) : nth (drop0 nx c d) i = nth d i := by
  unfold drop0; split
  · rw [nth_set_ne (Ne.symm h)]
  · rfl
theorem drop0_self {c : Nat} {d : List Int} (h : c < d.length) : nth (drop0 nx c d) c = (if nx c < 0 then 0 else nth d c) := by
  unfold drop0; split
  · rw [nth_set_self h]
  · rfl
theorem mod_succ {n c : Nat} (hc : c < n) : (c + 1) % n = if c + 1 < n then c + 1 else 0 := by
  split
  · rename_i h; exact Nat.mod_eq_of_lt h
  · rw [show c + 1 = n by omega, Nat.mod_self]
/-- what is granted stays within its bounds -/
theorem DOk.grant (hw : ∀ x ∈ w, 1 ≤ x ∧ x ≤ 6000) {c : Nat} {b : Bool} {d : List Int} (h : DOk w.length c b d) : ∀ i, i < w.length → 0 ≤ nth (grant nx w c b d) i ∧ nth (M.grant nx w c b d) i ≤ (if i = c then 7499 else 1499) := by
  obtain ⟨h1, h2, h3⟩ := h
  intro i hi
  have a := h3 i hi
  by_cases e : i = c
  · subst e
    rw [grant_self (by omega), if_pos rfl]
    have := hw _ (nth_mem hi)
    split
    · rename_i hh
      rw [if_neg (by rw [hh.2]; simp)] at a
      omega
    · split at a <;> omega
  · rw [grant_ne e, if_neg e]
    rw [if_neg (fun hh => e hh.1)] at a
    exact a
theorem DOk.next (hw : ∀ x ∈ w, 1 ≤ x ∧ x ≤ 6000) {c : Nat} (hsz : 0 ≤ nx c → sz (nx c) ≤ 1500) {b : Bool} {d : List Int} (h : DOk w.length c b d) (hno : ¬ (0 ≤ nx c ∧ sz (nx c) ≤ nth (M.grant nx w c b d) c)) :
    DOk w.length ((c + 1) % w.length) false (drop0 nx c (M.grant nx w c b d)) := by
  have hg := h.grant (nx := nx) hw
  obtain ⟨h1, h2, h3⟩ := h
  refine ⟨Nat.mod_lt _ (by omega), by rw [drop0_len, grant_len]; exact h2, fun i hi => ?_⟩
  rw [if_neg (by simp)]
  have a := hg i hi
  by_cases e : i = c
  · subst e
    rw [drop0_self (by rw [grant_len]; omega)]
    split
    · omega
    · rename_i h0
      have : ¬ sz (nx i) ≤ nth (M.grant nx w i b d) i := fun hh => hno ⟨by omega, hh⟩
      have := hsz (by omega)
      omega
  · rw [drop0_ne e]
    rw [if_neg e] at a; exact a
theorem DOk.pick (hw : ∀ x ∈ w, 1 ≤ x ∧ x ≤ 6000) {c : Nat} (hsz : 1 ≤ sz (nx c)) {b : Bool} {d : List Int} (h : DOk w.length c b d) (hy : sz (nx c) ≤ nth (M.grant nx w c b d) c) :
    DOk w.length c true ((M.grant nx w c b d).set c (nth (M.grant nx w c b d) c - sz (nx c))) := by
  have hg := h.grant (nx := nx) hw
  obtain ⟨h1, h2, h3⟩ := h
  refine ⟨h1, by rw [List.length_set, grant_len]; exact h2, fun i hi => ?_⟩
  have a := hg i hi
  by_cases e : i = c
  · subst e
    rw [nth_set_self (by rw [grant_len]; omega), if_pos ⟨rfl, rfl⟩]
    rw [if_pos rfl] at a
    omega
  · rw [nth_set_ne (Ne.symm e), if_neg (fun hh => e hh.1)]
    rw [if_neg e] at a; exact a
end
def goodDf (ps : List Pkt) (n : Nat) (ms : MS) (s : Nat × Bool × List Int) : Prop := goodB ps ms ∧ DOk n s.1 s.2.1 s.2.2
section
variable {ps : List Pkt} {w : List Int} {ms : MS} {s : Nat × Bool × List Int}
def def0 (n : Nat) : Nat × Bool × List Int := (0, false, List.replicate n 0)
end
end Go.Proofs.Ytnaeefefggmomaa.M

/- The curve of deficit round robin, plain: it repeats itself from some tick on, so that the program's and the references' forms are one. No condition. -/
namespace Go.Proofs.Ytnaeefefggmomaa.M
open Go Go.Proofs.Ytnaeefefggmomaa.K

/-- the quanta of the other classes that have packets, and what they may have saved -/
def xSum (k : Int) (w : List Int) (z : List Sz) : Nat → Int
  | 0 => 0
  | n + 1 => xSum k w z n + (if (n : Int) ≠ k ∧ 1 ≤ (nth z n).most then nth w n else 0)
def zSum (k : Int) (z : List Sz) : Nat → Int
  | 0 => 0
  | n + 1 => zSum k z n + (if (n : Int) ≠ k ∧ 1 ≤ (nth z n).most then (nth z n).most - 1 else 0)
def defOthers (k : Int) (w : List Int) (z : List Sz) (own : Int) : Int :=
  if chkW 6000 1 k w z ≠ 0 ∨ (nth z k.toNat).most < 1 ∨ own < 0 ∨ MAXV < own then 0
  else ((own + (nth z k.toNat).most - 1) / nth w k.toNat + 1) * xSum k w z w.length + zSum k z w.length
def allD (s q l z y : Int) : Int := y + (s - q) * ((y + l - 1) / q + 1) + z
def defH (cap s q l z : Int) (t y : Nat) : Bool := decide (allD s q l z (y : Int) ≥ cap * t)
def defFn (cap s q l z : Int) (t : Nat) : Int := leastY (defH cap s q l z t) (cap * t).toNat
def startD (cap s q l z : Int) : Int := if 2 ≤ l then (allD s q l z (-1)).tdiv cap + 1 else if 1 ≤ z then (z - 1) / cap + 1 else 0
def fromD (cap s q l z : Int) : Int := ((s - q) * ((l - 1) / q + 1) + z) / cap + 1
def defC (cap k : Int) (w : List Int) (z : List Sz) : Cv × Int :=
  if chkW 6000 cap k w z ≠ 0 then (zcv, chkW 6000 cap k w z) else if (nth z k.toNat).most < 1 then (zcv, 5) else
    let q := nth w k.toNat
    let l := (nth z k.toNat).most
    let s := shortN (q + xSum k w z w.length).toNat cap.toNat
    let zz := zSum k z w.length
    if s = -1 then (zcv, 3) else
      let p := s.toNat / Nat.gcd s.toNat cap.toNat
      if 400 < fromD cap s q l zz then (zcv, 3)
      else madeR ⟨fvals (defFn cap s q l zz) ((fromD cap s q l zz).toNat + p), p, cap * p / s * q⟩
section
variable {cap s q l z : Int}
end
/-- all of it, for the walks -/
structure DefOk (cap k : Int) (w : List Int) (z : List Sz) (cn kn m s p mm : Nat) (q l x y : Int) : Prop where
  hs : shortN m cn = s
  s1 : q ≤ s ∧ s ≤ 120 * cn
  sx : q + x ≤ s
  hp : p = s / Nat.gcd s cn
  p1 : 1 ≤ p ∧ p ≤ 120
  hmm : (cn : Int) * p = mm * s
  mm1 : mm ≤ 4000
  hinc : (cn : Int) * p / s * q = mm * q
end Go.Proofs.Ytnaeefefggmomaa.M

/- Deficit round robin while a class is backlogged, plain: what the others take. No condition. -/
namespace Go.Proofs.Ytnaeefefggmomaa.M
open Go Go.Proofs.Ytnaeefefggmomaa.K

def sumF (f : Nat → Int) : Nat → Int
  | 0 => 0
  | n + 1 => sumF f n + f n
theorem sumF_congr {f g : Nat → Int} : ∀ {n : Nat}, (∀ i, i < n → f i = g i) → sumF f n = sumF g n
  | 0, _ => rfl
  | n + 1, h => by simp only [sumF]; rw [sumF_congr (fun i hi => h i (by omega)), h n (by omega)]
theorem sumF_le {f g : Nat → Int} : ∀ {n : Nat}, (∀ i, i < n → f i ≤ g i) → sumF f n ≤ sumF g n
  | 0, _ => Int.le_refl _
  | n + 1, h => by have a := sumF_le (fun i hi => h i (by omega) : ∀ i, i < n → f i ≤ g i); have b := h n (by omega); simp only [sumF]; omega
theorem sumF_change {f g : Nat → Int} {c : Nat} : ∀ {n : Nat}, c < n → (∀ i, i < n → i ≠ c → g i = f i) → sumF g n = sumF f n + (g c - f c)
  | 0, h, _ => by omega
  | n + 1, hc, h => by
    simp only [sumF]
    by_cases e : c = n
    · subst e
      rw [sumF_congr (fun i hi => h i (by omega) (by omega) : ∀ i, i < c → g i = f i)]; omega
    · rw [sumF_change (by omega) (fun i hi hne => h i (by omega) hne : ∀ i, i < n → i ≠ c → g i = f i), h n (by omega) (by omega)]; omega
theorem sumF_add {f g : Nat → Int} : ∀ {n : Nat}, sumF (fun i => f i + g i) n = sumF f n + sumF g n
  | 0 => rfl
  | n + 1 => by simp only [sumF]; rw [sumF_add]; omega
def xF (k : Nat) (w : List Int) (z : List Sz) (i : Nat) : Int := if i ≠ k ∧ 1 ≤ (nth z i).most then nth w i else 0
def zF (k : Nat) (z : List Sz) (i : Nat) : Int := if i ≠ k ∧ 1 ≤ (nth z i).most then (nth z i).most - 1 else 0
theorem xSum_eq {k : Nat} {w : List Int} {z : List Sz} : ∀ n : Nat, xSum k w z n = sumF (xF k w z) n
  | 0 => rfl
  | n + 1 => by
    simp only [xSum, sumF, xSum_eq n]
    congr 1
    unfold xF
    by_cases h : n ≠ k ∧ 1 ≤ (nth z n).most
    · rw [if_pos h, if_pos ⟨by omega, h.2⟩]
    · rw [if_neg h, if_neg (fun hh => h ⟨by omega, hh.2⟩)]
/-- the quantum of class i is still to be given before class k's next one -/
def pend (k c : Nat) (b : Bool) (i : Nat) : Bool := if c = k then b else (decide (i ≠ c) || !b) && (if c ≤ k then decide (c ≤ i ∧ i < k) else decide (c ≤ i ∨ i < k))
theorem pend_iff {k c i : Nat} {b : Bool} : pend k c b i = true ↔ (c = k ∧ b = true) ∨ (c ≠ k ∧ (i ≠ c ∨ b = false) ∧ ((c ≤ k ∧ c ≤ i ∧ i < k) ∨ (¬ c ≤ k ∧ (c ≤ i ∨ i < k)))) := by
  unfold pend
  by_cases h1 : c = k
  · rw [if_pos h1]; simp [h1]
  · rw [if_neg h1]
    by_cases h2 : c ≤ k
    · rw [if_pos h2]; cases b <;> simp [h1, h2]
    · rw [if_neg h2]; cases b <;> simp [h1, h2]
theorem pend_next {k c n i : Nat} (hc : c < n) (hk : k < n) (hn : 2 ≤ n) (hi : i < n) (hik : i ≠ k) : pend k ((c + 1) % n) false i = pend k c true i := by
  rw [mod_succ hc, Bool.eq_iff_iff, pend_iff, pend_iff]
  have e1 : (false = true) = False := by simp
  have e2 : (true = false) = False := by simp
  by_cases hl : c + 1 < n
  · rw [if_pos hl, e1, e2]
    simp only [and_false, or_false, and_true, or_true, true_and, false_or]
    omega
  · rw [if_neg hl, e1, e2]
    simp only [and_false, or_false, and_true, or_true, true_and, false_or]
    omega
theorem pend_self {k c : Nat} (h : c ≠ k) : pend k c true c = false := by unfold pend; rw [if_neg h]; simp
theorem pend_self' {k c : Nat} (h : c ≠ k) : pend k c false c = true := by unfold pend; rw [if_neg h]; split <;> simp <;> omega
theorem pend_other {k c i : Nat} {b : Bool} (h : c ≠ k) (hi : i ≠ c) : pend k c b i = pend k c true i := by unfold pend; rw [if_neg h, if_neg h]; simp [hi]
theorem pend_k {k i : Nat} {b : Bool} : pend k k b i = b := by unfold pend; rw [if_pos rfl]
/-- deficits saved, and quanta to come -/
def potF (w : List Int) (z : List Sz) (k c : Nat) (b : Bool) (d : List Int) (i : Nat) : Int := if i ≠ k ∧ 1 ≤ (nth z i).most then nth d i + (if pend k c b i = true then nth w i else 0) else 0
/-- the deficits: what is saved is less than a packet, but of the class that is visited -/
def DD (n : Nat) (z : List Sz) (c : Nat) (b : Bool) (d : List Int) : Prop := c < n ∧ d.length = n ∧ ∀ i, i < n → 0 ≤ nth d i ∧ (¬ (i = c ∧ b = true) → 1 ≤ (nth z i).most → nth d i ≤ (nth z i).most - 1)
def JD (w : List Int) (z : List Sz) (k c : Nat) (b : Bool) (d : List Int) (op own oth : Int) : Prop :=
  DD w.length z c b d ∧ ∃ v : Nat, oth + (if c = k then 0 else op) + sumF (potF w z k c b d) w.length ≤ ((v : Int) + 1) * xSum k w z w.length + zSum k z w.length ∧
    (v : Int) * nth w k ≤ own + (if c = k then op else 0) + nth d k ∧ (c = k → b = true → ((v : Int) - 1) * nth w k - ((nth z k).most - 1) ≤ own)
section
variable {nx sz : Int → Int} {w : List Int} {z : List Sz} {k : Nat}
theorem DD.grant (hw : ∀ x ∈ w, 1 ≤ x) {c : Nat} {b : Bool} {d : List Int} (h : DD w.length z c b d) (h0 : 0 ≤ nx c) : DD w.length z c true (M.grant nx w c b d) := by
  obtain ⟨h1, h2, h3⟩ := h
  refine ⟨h1, by rw [grant_len]; exact h2, fun i hi => ?_⟩
  have a := h3 i hi
  by_cases e : i = c
  · subst e
    refine ⟨?_, fun hn => absurd ⟨rfl, rfl⟩ hn⟩
    rw [grant_self (by omega)]
    have := hw _ (nth_mem hi)
    split <;> omega
  · rw [grant_ne e]
    exact ⟨a.1, fun _ hm => a.2 (fun hh => e hh.1) hm⟩
theorem DD.pick {c : Nat} {d : List Int} (h : DD w.length z c true d) {s : Int} (hs : s ≤ nth d c) : DD w.length z c true (d.set c (nth d c - s)) := by
  obtain ⟨h1, h2, h3⟩ := h
  refine ⟨h1, by rw [List.length_set]; exact h2, fun i hi => ?_⟩
  have a := h3 i hi
  by_cases e : i = c
  · subst e
    rw [nth_set_self (by omega)]
    exact ⟨by omega, fun hn => absurd ⟨rfl, rfl⟩ hn⟩
  · rw [nth_set_ne (Ne.symm e)]
    exact ⟨a.1, fun _ hm => a.2 (fun hh => e hh.1) hm⟩
theorem DD.next {c : Nat} {b : Bool} {d : List Int} (h : DD w.length z c b d) (hlt : 1 ≤ (nth z c).most → nth d c ≤ (nth z c).most - 1) : DD w.length z ((c + 1) % w.length) false d := by
  obtain ⟨h1, h2, h3⟩ := h
  refine ⟨Nat.mod_lt _ (by omega), h2, fun i hi => ?_⟩
  have a := h3 i hi
  refine ⟨a.1, fun _ hm => ?_⟩
  by_cases e : i = c
  · subst e; exact hlt hm
  · exact a.2 (fun hh => e hh.1) hm
theorem JD.grant (hw : ∀ x ∈ w, 1 ≤ x) (hk : k < w.length) (hL : 1 ≤ (nth z k).most) {c : Nat} {b : Bool} {d : List Int} {own oth : Int} (h : JD w z k c b d 0 own oth) (h0 : 0 ≤ nx c) : JD w z k c true (M.grant nx w c b d) 0 own oth := by
  obtain ⟨hd, v, a1, a2, a3⟩ := h
  refine ⟨hd.grant hw h0, ?_⟩
  have hcl : c < d.length := by rw [hd.2.1]; exact hd.1
  cases b with
  | true =>
    have e : M.grant nx w c true d = d := by unfold M.grant; rw [if_neg (by simp)]
    rw [e]; exact ⟨v, a1, a2, a3⟩
  | false =>
    have eg : nth (M.grant nx w c false d) c = nth d c + nth w c := by rw [grant_self hcl, if_pos ⟨h0, rfl⟩]
    by_cases hck : c = k
    · subst hck
      rw [if_pos rfl] at a1 a2
      refine ⟨v + 1, ?_, ?_, fun _ _ => ?_⟩
      · rw [if_pos rfl]
        have e : sumF (potF w z c c true (M.grant nx w c false d)) w.length = sumF (potF w z c c false d) w.length + xSum c w z w.length := by
          rw [xSum_eq, ← sumF_add]
          refine sumF_congr (fun i hi => ?_)
          unfold potF xF
          by_cases hh : i ≠ c ∧ 1 ≤ (nth z i).most
          · rw [if_pos hh, if_pos hh, if_pos hh, grant_ne hh.1, pend_k, pend_k, if_pos rfl, if_neg (by simp)]; omega
          · rw [if_neg hh, if_neg hh, if_neg hh]; omega
        rw [e]
        have e2 : (((v + 1 : Nat) : Int) + 1) * xSum c w z w.length = ((v : Int) + 1) * xSum c w z w.length + xSum c w z w.length := by rw [show (((v + 1 : Nat) : Int) + 1) = ((v : Int) + 1) + 1 by omega, Int.add_mul, Int.one_mul]
        rw [e2]; omega
      · rw [if_pos rfl, eg]
        have e2 : (((v + 1 : Nat) : Int)) * nth w c = (v : Int) * nth w c + nth w c := by rw [show ((v + 1 : Nat) : Int) = (v : Int) + 1 by omega, Int.add_mul, Int.one_mul]
        rw [e2]; omega
      · have hdk := (hd.2.2 c hk).2 (by simp) hL
        rw [show (((v + 1 : Nat) : Int) - 1) = (v : Int) by omega]
        omega
    · rw [if_neg hck] at a1 a2
      refine ⟨v, ?_, ?_, fun h => absurd h hck⟩
      · rw [if_neg hck]
        have e : sumF (potF w z k c true (M.grant nx w c false d)) w.length = sumF (potF w z k c false d) w.length := by
          refine sumF_congr (fun i hi => ?_)
          unfold potF
          by_cases hh : i ≠ k ∧ 1 ≤ (nth z i).most
          · rw [if_pos hh, if_pos hh]
            by_cases e : i = c
            · subst e
              rw [eg, pend_self hck, pend_self' hck, if_neg (by simp), if_pos rfl]; omega
            · rw [grant_ne e, pend_other (b := false) hck e]
          · rw [if_neg hh, if_neg hh]
        rw [e]; exact a1
      · rw [if_neg hck, grant_ne (Ne.symm hck)]; exact a2
theorem JD.pick {c : Nat} {d : List Int} {own oth : Int} (h : JD w z k c true d 0 own oth) {s : Int} (hs : s ≤ nth d c) (hm : 1 ≤ (nth z c).most) : JD w z k c true (d.set c (nth d c - s)) s own oth := by
  obtain ⟨hd, v, a1, a2, a3⟩ := h
  have hcl : c < d.length := by rw [hd.2.1]; exact hd.1
  refine ⟨hd.pick hs, v, ?_, ?_, a3⟩
  · by_cases hck : c = k
    · subst hck
      rw [if_pos rfl] at a1 ⊢
      have e : sumF (potF w z c c true (d.set c (nth d c - s))) w.length = sumF (potF w z c c true d) w.length := by
        refine sumF_congr (fun i hi => ?_)
        unfold potF
        by_cases hh : i ≠ c ∧ 1 ≤ (nth z i).most
        · rw [if_pos hh, if_pos hh, nth_set_ne (Ne.symm hh.1)]
        · rw [if_neg hh, if_neg hh]
      rw [e]; exact a1
    · rw [if_neg hck] at a1 ⊢
      have e : sumF (potF w z k c true (d.set c (nth d c - s))) w.length = sumF (potF w z k c true d) w.length + (potF w z k c true (d.set c (nth d c - s)) c - potF w z k c true d c) := by
        refine sumF_change hd.1 (fun i hi hne => ?_)
        unfold potF
        rw [nth_set_ne (Ne.symm hne)]
      have e2 : potF w z k c true (d.set c (nth d c - s)) c - potF w z k c true d c = - s := by
        unfold potF
        have hcm : c ≠ k ∧ 1 ≤ (nth z c).most := ⟨hck, hm⟩
        rw [if_pos hcm, if_pos hcm, nth_set_self hcl]; omega
      rw [e, e2]; omega
  · by_cases hck : c = k
    · subst hck
      rw [if_pos rfl] at a2 ⊢
      rw [nth_set_self hcl]; omega
    · rw [if_neg hck] at a2 ⊢
      rw [nth_set_ne hck]; exact a2
theorem JD.next (hw : ∀ x ∈ w, 1 ≤ x) (hk : k < w.length) (hn : 2 ≤ w.length) {c : Nat} {d : List Int} {own oth : Int} (h : JD w z k c true d 0 own oth) (hlt : 1 ≤ (nth z c).most → nth d c ≤ (nth z c).most - 1) : JD w z k ((c + 1) % w.length) false d 0 own oth := by
  obtain ⟨hd, v, a1, a2, a3⟩ := h
  refine ⟨hd.next hlt, v, ?_, ?_, fun _ h => by cases h⟩
  · have e : sumF (potF w z k ((c + 1) % w.length) false d) w.length = sumF (potF w z k c true d) w.length := by
      refine sumF_congr (fun i hi => ?_)
      unfold potF
      by_cases hh : i ≠ k ∧ 1 ≤ (nth z i).most
      · rw [if_pos hh, if_pos hh, pend_next hd.1 hk hn hi hh.1]
      · rw [if_neg hh, if_neg hh]
    rw [e]
    split <;> split at a1 <;> omega
  · split <;> split at a2 <;> omega
/-- a class without a waiting packet loses its deficit -/
theorem JD.skip (hw : ∀ x ∈ w, 1 ≤ x) (hk : k < w.length) (hn : 2 ≤ w.length) {c : Nat} {b : Bool} {d : List Int} {own oth : Int} (h : JD w z k c b d 0 own oth) (hck : c ≠ k) : JD w z k ((c + 1) % w.length) false (d.set c 0) 0 own oth := by
  obtain ⟨hd, v, a1, a2, a3⟩ := h
  have hcl : c < d.length := by rw [hd.2.1]; exact hd.1
  have hd2 : DD w.length z c b (d.set c 0) := by
    refine ⟨hd.1, by rw [List.length_set]; exact hd.2.1, fun i hi => ?_⟩
    by_cases e : i = c
    · subst e
      rw [nth_set_self hcl]
      exact ⟨Int.le_refl _, fun _ hm => by omega⟩
    · rw [nth_set_ne (Ne.symm e)]; exact hd.2.2 i hi
  refine ⟨hd2.next (fun hm => by rw [nth_set_self hcl]; omega), v, ?_, ?_, fun _ h => by cases h⟩
  · have e : sumF (potF w z k ((c + 1) % w.length) false (d.set c 0)) w.length ≤ sumF (potF w z k c b d) w.length := by
      refine sumF_le (fun i hi => ?_)
      unfold potF
      by_cases hh : i ≠ k ∧ 1 ≤ (nth z i).most
      · rw [if_pos hh, if_pos hh, pend_next hd.1 hk hn hi hh.1]
        by_cases e : i = c
        · subst e
          rw [nth_set_self hcl, pend_self hck, if_neg (by simp)]
          have := (hd.2.2 i hi).1
          have := hw _ (nth_mem hi)
          split <;> omega
        · rw [nth_set_ne (Ne.symm e), pend_other (b := b) hck e]; exact Int.le_refl _
      · rw [if_neg hh, if_neg hh]; exact Int.le_refl _
    rw [if_neg hck] at a1
    split <;> omega
  · rw [nth_set_ne hck]
    rw [if_neg hck] at a2
    split <;> omega
end
def Jdef (ps : List Pkt) (w : List Int) (z : List Sz) (k : Nat) (sg : Nat × Bool × List Int) (cur rest own oth : Int) : Prop := JD w z k sg.1 sg.2.1 sg.2.2 (if 0 ≤ cur then rest else 0) own oth ∧ (0 ≤ cur → (nth ps cur.toNat).flow = sg.1 ∧ sg.2.1 = true)
section
variable {ps : List Pkt} {w : List Int} {z : List Sz} {k : Nat}
/-- where every run stands -/
def V0 (w : List Int) (z : List Sz) (c : Nat) (b : Bool) (d : List Int) (op : Int) : Prop := DD w.length z c b d ∧ (b = true → 1 ≤ (nth z c).most → nth d c + op ≤ (nth z c).most - 1 + nth w c)
def Vdef (ps : List Pkt) (w : List Int) (z : List Sz) (sg : Nat × Bool × List Int) (cur rest : Int) : Prop := V0 w z sg.1 sg.2.1 sg.2.2 (if 0 ≤ cur then rest else 0) ∧ (0 ≤ cur → cur < ps.length ∧ (nth ps cur.toNat).flow = sg.1 ∧ sg.2.1 = true ∧ 0 ≤ rest ∧ 1 ≤ (nth z sg.1).most)
theorem V0.grant (hw : ∀ x ∈ w, 1 ≤ x) {nx : Int → Int} {c : Nat} {b : Bool} {d : List Int} (h : V0 w z c b d 0) (h0 : 0 ≤ nx c) : V0 w z c true (M.grant nx w c b d) 0 := by
  obtain ⟨hd, h1⟩ := h
  have hcl : c < d.length := by rw [hd.2.1]; exact hd.1
  refine ⟨hd.grant hw h0, fun _ hm => ?_⟩
  rw [grant_self hcl]
  cases b with
  | true => rw [if_neg (by simp)]; exact h1 rfl hm
  | false =>
    rw [if_pos ⟨h0, rfl⟩]
    have := (hd.2.2 c hd.1).2 (by simp) hm
    omega
end
end Go.Proofs.Ytnaeefefggmomaa.M

/- Weighted and deficit round robin: the curve of a class is what it is served while it is backlogged, plain. No condition. -/
namespace Go.Proofs.Ytnaeefefggmomaa.M
open Go Go.Proofs.Ytnaeefefggmomaa.K

/-- what a law over a scheduler wants of a class's curve: its form, and that it is less than what is sent where the others take at most O -/
def CurveFor (x : Cv × Int) (cap : Int) (O : Int → Int) (G : Nat → Int) (s p : Nat) (q : Int) : Prop :=
  x = (⟨fvals G (s + p), p, q⟩, 0) ∧ FC G s p q ∧ G 0 = 0 ∧ ∀ (t : Nat) (own : Int), 0 ≤ own → cap * (t : Int) ≤ own + O own → G t ≤ own
section
variable {σ : Type} {ps : List Pkt} {ch : MS → σ → Int × Nat × σ} {good : MS → σ → Prop} {classes k : Nat}
end
end Go.Proofs.Ytnaeefefggmomaa.M

/- Time slots, plain: what every run of such a line keeps. No condition. -/
namespace Go.Proofs.Ytnaeefefggmomaa.M
open Go Go.Proofs.Ytnaeefefggmomaa.K

/-- the rest of a packet has room in the ticks in a row from t on -/
def Fits (tb : List Int) (cap : Int) (t : Nat) (left rest : Int) : Prop := (∀ i, slotT tb i = slotT tb t) ∨ ∃ n : Nat, (∀ j, j ≤ n → slotT tb (t + j) = slotT tb t) ∧ rest ≤ left + cap * n
theorem Fits.next {tb : List Int} {cap : Int} {t : Nat} {rest : Int} (h : Fits tb cap t 0 rest) (hr : 1 ≤ rest) : slotT tb (t + 1) = slotT tb t ∧ Fits tb cap (t + 1) cap rest := by
  rcases h with h | ⟨n, h1, h2⟩
  · exact ⟨h _, .inl (fun i => by rw [h i, h (t + 1)])⟩
  · cases n with
    | zero => simp at h2; omega
    | succ n =>
      have e := h1 1 (by omega)
      refine ⟨e, .inr ⟨n, fun j hj => ?_, ?_⟩⟩
      · rw [show t + 1 + j = t + (j + 1) by omega, h1 (j + 1) (by omega), e]
      · rw [Int.natCast_add, Int.mul_add] at h2
        simp at h2; omega
structure SlotPost (ps : List Pkt) (cap : Int) (tb : List Int) (classes t : Nat) (s s' : RS Unit) : Prop where
  open_ : 0 ≤ s'.cur → (nth ps s'.cur.toNat).flow = slotT tb t ∧ Fits tb cap t s'.ms.left s'.rest
  left0 : 0 ≤ s'.cur → s'.ms.left = 0
  other : ∀ c : Nat, (c : Int) ≠ slotT tb t → c < classes → nth (nth s'.sent c) (t + 1) = nth (nth s.sent c) (t + 1)
  mine : ∀ c : Nat, (c : Int) = slotT tb t → c < classes → nth (nth s'.sent c) (t + 1) + s'.ms.left = nth (nth s.sent c) (t + 1) + s.ms.left
  done : ∀ i, i < ps.length → nth s'.done i = nth s.done i ∨ (nth s'.done i = t ∧ (nth ps i).flow = slotT tb t)
  beg : ∀ i, (nth ps i).flow ≠ slotT tb t → nth s'.ms.begun i = nth s.ms.begun i
  lft : 0 ≤ s'.ms.left ∧ s'.ms.left ≤ s.ms.left
  idle : 0 < s'.ms.left → s'.cur < 0 ∧ (slotT tb t < 0 ∨ nextW ps s'.ms (slotT tb t) < 0 ∨ ∃ n : Nat, aheadN tb (slotT tb t) t = n + 1 ∧ (nth ps (nextW ps s'.ms (slotT tb t)).toNat).size > s'.ms.left + cap * n)
section
variable {ps : List Pkt} {cap : Int} {tb : List Int} {classes : Nat}
end
end Go.Proofs.Ytnaeefefggmomaa.M

/- Time slots, plain: the curve of a class, and that it is what the class is served. No condition. -/
namespace Go.Proofs.Ytnaeefefggmomaa.M
open Go Go.Proofs.Ytnaeefefggmomaa.K

/-- of so many ticks from a tick on: what the parts that have ended count, and the part that goes on -/
def slotS (cap lost : Int) (mine : Nat → Bool) (from_ : Nat) : Nat → Int × Int
  | 0 => (0, 0)
  | d + 1 => if mine (from_ + d) = true then ((slotS cap lost mine from_ d).1, (slotS cap lost mine from_ d).2 + cap) else ((slotS cap lost mine from_ d).1 + max 0 ((slotS cap lost mine from_ d).2 - lost), 0)
def cntS (cap lost : Int) (mine : Nat → Bool) (from_ k : Nat) : Int := (slotS cap lost mine from_ k).1 + max 0 ((slotS cap lost mine from_ k).2 - lost)
/-- the least of so many -/
def minTo (f : Nat → Int) : Nat → Int
  | 0 => 4611686018427387904
  | n + 1 => min (minTo f n) (f n)
def minN (f : Nat → Int) : Nat → Int
  | 0 => f 0
  | n + 1 => min (minN f n) (f n)
def slotF (cap lost : Int) (mine : Nat → Bool) (n : Nat) (k : Nat) : Int := minN (fun a => cntS cap lost mine a k) n
section
variable {cap lost : Int} {mine : Nat → Bool} {a : Nat}
end
/-- the ticks of a class -/
def mineT (tb : List Int) (k : Int) (t : Nat) : Bool := slotT tb t == k
section
variable {ps : List Pkt} {cap : Int} {tb : List Int} {classes k : Nat}
end
end Go.Proofs.Ytnaeefefggmomaa.M

/- Deficit round robin, plain: greater quanta and packets of others leave less. No condition. -/
namespace Go.Proofs.Ytnaeefefggmomaa.M
open Go Go.Proofs.Ytnaeefefggmomaa.K

end Go.Proofs.Ytnaeefefggmomaa.M

/- Time slots, plain: the curves of the program and of the reference are the same. No condition. -/
namespace Go.Proofs.Ytnaeefefggmomaa.M
open Go Go.Proofs.Ytnaeefefggmomaa.K

def chkT (cap cls : Int) (tb : List Int) (z : List Sz) : Int := if chk18 cap cls z ≠ 0 then 2 else if okT z.length tb = false then 2 else 0
def someT (cls : Int) (tb : List Int) : Bool := tb.any fun c => c == cls
def allT (cls : Int) (tb : List Int) : Bool := tb.all fun c => c == cls
def lineF (cap lost : Int) (t : Nat) : Int := max 0 (cap * t - lost)
def slotC (cap cls : Int) (tb : List Int) (z : List Sz) : Cv × Int :=
  if chkT cap cls tb z ≠ 0 then (zcv, chkT cap cls tb z)
  else if someT cls tb = false ∨ (nth z cls.toNat).most < 1 then (zcv, 5)
  else if allT cls tb = true then (if 400 * cap < (nth z cls.toNat).most - 1 then (zcv, 3) else madeR ⟨fvals (lineF cap ((nth z cls.toNat).most - 1)) 401, 1, cap⟩)
  else madeR ⟨fvals (slotF cap ((nth z cls.toNat).most - 1) (mineT tb cls) tb.length) (3 * tb.length + tb.length), tb.length,
    slotF cap ((nth z cls.toNat).most - 1) (mineT tb cls) tb.length (4 * tb.length - 1) - slotF cap ((nth z cls.toNat).most - 1) (mineT tb cls) tb.length (3 * tb.length - 1)⟩
section
variable {cap lost : Int}
variable {mine : Nat → Bool} {n : Nat}
end
end Go.Proofs.Ytnaeefefggmomaa.M

/- Time slots: what the walks want. No condition. -/
namespace Go.Proofs.Ytnaeefefggmomaa.M
open Go Go.Proofs.Ytnaeefefggmomaa.K

def aheadP (tb : List Int) (cls : Int) (t n : Nat) : Bool := decide (cls < 0) || nth tb ((t + n) % tb.length) != cls
def aheadV (tb : List Int) (cls : Int) (t : Nat) : Int × Bool := if aheadN tb cls t = -1 then (0, false) else (aheadN tb cls t, true)
def clsN (tb : List Int) (k : Nat) : Int := (tb.take k).foldl (fun m c => if m < c + 1 then c + 1 else m) 1
/-- what room a packet of a class has at the beginning of a tick -/
def roomT (cap : Int) (tb : List Int) (cls t : Int) : Int :=
  if cap < 1 ∨ 4000 < cap ∨ tb.length < 1 ∨ 40 < tb.length ∨ t < 0 ∨ 2000 < t then 0
  else if (aheadV tb cls t.toNat).2 = false then 1073741824 else (aheadV tb cls t.toNat).1 * cap
/-- how many ticks of the part that goes on -/
def rowS (mine : Nat → Bool) (a : Nat) : Nat → Nat
  | 0 => 0
  | d + 1 => if mine (a + d) = true then rowS mine a d + 1 else 0
end Go.Proofs.Ytnaeefefggmomaa.M

/- The rules of the walks, over any program: a call that only reads the memory that is owned. No condition. -/
namespace Go.Proofs.Ytnaeefefggmomaa.K
open Go Go.RowKit

/-- a call that hands back this value and leaves this memory as it is -/
def FnE (P : Program) (f : FuncId) (args : List Value) (w0 : World) (R : Ro) (E : List Ent) (v : Value) : Prop :=
  ∀ w, Mem w0 w R E → Calls P f args.toArray w fun e w' => e = .returned v ∧ Mem w0 w' R E
section
variable {P : Program} {ops : List Oper} {Q : Exit → Act → World → Prop} {rest : List Oper} {n : Nat} {env : Env} {w0 : World} {R : Ro} {E : List Ent} {o : Oper} {pc q draw : Bool}
end
end Go.Proofs.Ytnaeefefggmomaa.K
namespace Go.Proofs.Ytnaeefefggmomaa.K
open Go Go.RowKit
section
variable {P : Program} {n : Nat} {env : Env} {w0 : World} {R : Ro} {E : List Ent} {o : Oper} {pc p q : Bool}
end
end Go.Proofs.Ytnaeefefggmomaa.K
namespace Go.Proofs.Ytnaeefefggmomaa.K
open Go Go.RowKit
section
variable {P : Program} {n : Nat} {env : Env} {w0 : World} {R : Ro} {E : List Ent} {o : Oper} {pc p q : Bool}
/-- a slice against nil -/
theorem Yl.eqNilS {t t' e : TypeId} {x y : Operand} {a : Option Addr} {m c m' c' : Nat} (hu : P.underlying t = some (.slice e)) (ho : o.op = .binOp .eql t x y t') (hx : ev env x = some (p, .slice a m c)) (hy : ev env y = some (q, .slice none m' c'))
    (hpq : pc = true → (p && q) = true) : Yl P n env w0 R E o pc (.bool a.isNone) := by
  intro ac w hk hm hp
  obtain ⟨h1, h2⟩ := and_both (hpq hp)
  have e1 : (binOp .eql t (.slice a m c) (.slice none m' c')).run P w = .ok (.bool a.isNone) w := by
    simp only [binOp]
    simp [Op.equal, Op.maxDepth, Lib.run_equalIn_slice_nil w 9999 t e a m c m' c' hu]
  unfold execOp
  simp [ho, hk.ev hx h1, hk.ev hy h2, eqGuard, e1]
end
theorem RS.some {α : Type} {_i : Inhabited α} {R : Ro} {k : Nat} {enc : α → List Value} {a : Option Addr} {xs : List α} (h : RS (_i := _i) R k enc a xs) (hx : 0 < xs.length) : a.isNone = false := by
  rcases h.2.1 with h1 | ⟨b, off, cs, h1, _⟩
  · rw [List.map_eq_nil_iff] at h1; rw [h1] at hx; simp at hx
  · rw [h1]; rfl
end Go.Proofs.Ytnaeefefggmomaa.K

/- Time slots, plain: a class's curve is what it is served, and greater packets have a lesser one. No condition. -/
namespace Go.Proofs.Ytnaeefefggmomaa.M
open Go Go.Proofs.Ytnaeefefggmomaa.K

theorem FC.valid {F : Nat → Int} {S P : Nat} {I : Int} (h : FC F S P I) : validB ⟨fvals F (S + P), P, I⟩ = true := by
  have hP := h.hP
  have hn := h.hn
  have hI := h.hI
  rw [validB_iff]
  dsimp only
  rw [fvals_len]
  refine ⟨⟨by omega, by omega, by omega, by omega, by omega, by omega, by unfold MAXV; omega⟩, fun i hi => ?_, ?_⟩
  · rw [fvals_nth F hi]
    have a := h.nonneg i
    have b := h.hb i hi
    refine ⟨.inr ⟨a, by unfold MAXV; omega⟩, ?_⟩
    by_cases h0 : i = 0
    · exact .inl h0
    · right
      rw [fvals_nth F (by omega)]
      exact h.mono (show i - 1 ≤ i by omega)
  · rw [fvals_nth F (by omega), if_neg (h.fin (by omega)), Int.toNat_natCast, fvals_nth F (by omega)]
    have h1 := h.hg (S + P - P) (by omega)
    have h2 := h.mono (show S + P - 1 ≤ S + P - P + P by omega)
    omega
end Go.Proofs.Ytnaeefefggmomaa.M

/- Chapter 21: the choice. No condition. -/
set_option linter.unusedSimpArgs false
set_option linter.unusedVariables false
namespace Go.Proofs.Ytnaeefefggmomaa
open Go Go.RowKit Go.Proofs.Ytnaeefefggmomaa.K Go.Proofs.Ytnaeefefggmomaa.M

end Go.Proofs.Ytnaeefefggmomaa

/- Chapter 21: runs of the reference. No condition. -/
set_option linter.unusedSimpArgs false
set_option linter.unusedVariables false
namespace Go.Proofs.Ytnaeefefggmomaa
open Go Go.RowKit Go.Proofs.Ytnaeefefggmomaa.K Go.Proofs.Ytnaeefefggmomaa.M

end Go.Proofs.Ytnaeefefggmomaa

/- Chapter 18: runs. No condition. -/
set_option linter.unusedSimpArgs false
set_option linter.unusedVariables false
namespace Go.Proofs.Ytnaeefefggmomaa
open Go Go.RowKit Go.Proofs.Ytnaeefefggmomaa.K Go.Proofs.Ytnaeefefggmomaa.M

theorem Pri1_C {b5 n : Nat} {R : Ro} {sb : Nat} {pa : Option Addr} {pc bg : Nat} {ps : List Pkt} {ms : MS} (w0 : World) (hp : RS R 3 encP pa ps) (hb : ms.begun.length = ps.length) (hsort : ps.Pairwise fun a b => a.time ≤ b.time) (h5 : R b5 = some [.int .i64 (n : Int)]) (hn : 1 ≤ n ∧ n ≤ 1000) (hgd : goodB ps ms) (F : List Ent) :
    K.Fn Try.prog 93 [.pointer (some ⟨sb, 0, none⟩), .pointer (some ⟨b5, 0, none⟩)] w0 R (stE sb pa ps.length pc bg ms :: .sl 4 1 (some ⟨bg, 0, none⟩) ps.length (ms.begun.map encB) :: F) (fun v R' E' => v = .int .i64 (prioCh ps n ms ()).1 ∧ R = R' ∧ E' = stE sb pa ps.length pc bg { ms with before := (prioCh ps n ms ()).2.1 } :: .sl 4 1 (some ⟨bg, 0, none⟩) ps.length (ms.begun.map encB) :: F) := by
  have hch : prioCh ps n ms () = (prioFrom (nextW ps ms) n 0, skipTo ms.begun ms.before, ()) := rfl
  have hla := hp.len
  refine Fn.enter (n := 17) Try.func93 rfl rfl (Nat.le_of_ble_eq_true rfl) rfl ?_
  refine W.seq ?_
  refine W.region _ ?_
  refine WG.run tab_ok 1 rfl ?_
  refine WG.nil ?_
  refine WE.nxt ?_
  refine W.seq ?_
  refine W.seq ?_
  refine W.region _ ?_
  refine' WG.y rfl rfl (by decide) (Yl.load1 tab_ok rfl rfl rfl (fun _ => rfl) ?r1 rfl ?h1) ?_
  case r1 => exact Rd.ro h5
  case h1 => rfl
  refine WG.run tab_ok 1 rfl ?_
  refine WG.nil ?_
  refine WE.nxt ?_
  refine W.block ?_
  refine W.loopK (β := Nat) (fun c => c ≤ n ∧ prioFrom (nextW ps ms) (n - c) c = prioFrom (nextW ps ms) n 0) (fun c => [(7, true, .int .i64 (c : Int))]) [0, 6] [_, _] [] _ rfl (fun c => [(0, stE sb pa ps.length pc bg { ms with before := bfN ms c })]) (fun c => n - c) (0) (⟨Nat.zero_le _, rfl⟩) ⟨rfl, rfl, rfl, rfl⟩ (by (repeat (first | exact List.Sublist.refl _ | exact List.nil_sublist _ | apply List.Sublist.cons_cons | apply List.Sublist.cons)); done) ?_
  intro c hst
  dsimp only [zipE, setAll, List.cons_append, List.nil_append, List.set_cons_zero, List.set_cons_succ] at hst ⊢
  
  refine W.seq ?_
  refine W.region _ ?_
  refine WG.run tab_ok 1 rfl ?_
  refine WG.nil ?_
  refine WE.nxt ?_
  refine W.seq ?_
  refine W.condD rfl (fun hc0 => ?_) (fun hc0 => ?_)
  · try dsimp only at hc0
    have hcn : c < n := by omega
    have hgo := hst.2
    rw [show n - c = (n - (c + 1)) + 1 by omega] at hgo
    simp only [prioFrom] at hgo
    refine W.skip ?_
    refine WE.nxt ?_
    refine W.seq ?_
    refine W.block ?_
    refine W.seq ?_
    refine W.region _ ?_
    refine WG.run tab_ok 2 rfl ?_
    refine WG.nil ?_
    refine WE.nxt ?_
    refine W.seq ?_
    refine W.region _ ?_
    refine WG.run tab_ok 2 rfl ?_
    refine WL.call en94 rfl rfl (by decide) (CallOp.mkT rfl rfl rfl rfl) (Next_C (ms := { ms with before := bfN ms c }) w0 hp hb (bfN_good hgd hb c) hsort _ _) ?_
    rintro _ _ _ - ⟨rfl, rfl, rfl⟩
    dsimp only
    rw [bfN_skip hgd hb c, show skipTo ms.begun ms.before = bfN ms (c + 1) from (if_neg (by omega)).symm, show nextW ps { ms with before := bfN ms c } (c : Int) = nextW ps ms (c : Int) from rfl]
    have hnl := nextW_lt ps ms (c : Int)
    refine WG.run tab_ok 1 rfl ?_
    refine WG.nil ?_
    refine WE.nxt ?_
    refine W.seq ?_
    refine W.region _ ?_
    refine WG.run tab_ok 2 rfl ?_
    refine WG.nil ?_
    refine WE.nxt ?_
    refine W.condD rfl (fun hc1 => ?_) (fun hc1 => ?_)
    · try dsimp only at hc1
      rw [if_pos hc1] at hgo
      have hbn : bfN ms (c + 1) = skipTo ms.begun ms.before := if_neg (by omega)
      refine W.seq ?_
      refine W.region _ ?_
      refine WG.run tab_ok 2 rfl ?_
      refine WG.nil ?_
      refine WE.nxt ?_
      refine W.ret ?_
      refine WE.blk_ret ?_
      refine WE.then_ret ?_
      refine WE.then_ret ?_
      refine WE.blk_ret ?_
      refine WE.then_ret ?_
      refine WE.retF tab_ok [_] rfl ⟨rfl, trivial⟩ (RLe.refl _) ?_
      exact ⟨by rw [hch]; dsimp only; rw [← hgo]; try rfl, rfl, by rw [hch]; dsimp only; rw [← hbn]⟩
    · try dsimp only at hc1
      rw [if_neg (by omega)] at hgo
      refine W.skip ?_
      refine WE.blk _ ?_
      refine WE.nxt ?_
      refine W.region _ ?_
      refine WG.y rfl rfl (by decide) (Yl.add rfl rfl rfl (fun _ => rfl) (by intro _; constructor <;> (try dsimp only) <;> omega)) ?_
      refine WG.run tab_ok 1 rfl ?_
      refine WG.nil ?_
      refine WE.again (c + 1) (⟨by omega, hgo⟩) (by (try dsimp only); omega) ⟨rfl, rfl, rfl, rfl⟩ (RLe.refl _) (by (repeat (first | exact List.Sublist.refl _ | exact List.nil_sublist _ | apply List.Sublist.cons_cons | apply List.Sublist.cons)); done)
  · try dsimp only at hc0
    obtain rfl : c = n := by omega
    have hgo := hst.2
    rw [Nat.sub_self] at hgo
    have hgo : prioFrom (nextW ps ms) c 0 = -1 := by rw [← hgo]; rfl
    have hbn : bfN ms c = skipTo ms.begun ms.before := if_neg (by omega)
    refine W.exit ?_
    refine WE.then_exit ?_
    refine WE.then_exit ?_
    refine WE.blk_exit ?_
    refine WE.nxt ?_
    refine W.seq ?_
    refine W.region _ ?_
    refine WG.run tab_ok 1 rfl ?_
    refine WG.nil ?_
    refine WE.nxt ?_
    refine W.ret ?_
    refine WE.retF tab_ok [_] rfl ⟨rfl, trivial⟩ (RLe.refl _) ?_
    exact ⟨by rw [hch]; dsimp only; rw [← hgo]; try rfl, rfl, by rw [hch]; dsimp only; rw [← hbn]⟩

theorem PRun_ok {R : Ro} {pa : Option Addr} {pc : Nat} {ps : List Pkt} (hp : RS R 3 encP pa ps) {cap : Int} {ticks nc : Nat} (w0 : World) (hl0 : lrunE cap nc ticks ps = 0) (E : List Ent) :
    K.Fn Try.prog 42 [.int .i64 cap, .int .i64 (nc : Int), .slice pa ps.length pc, .int .i64 (ticks : Int)] w0 R E
      (fun v R' E' => ∃ (rows : List Sl) (gd go : Nat) (s : M.RS Unit), s = mrun ps (prioCh ps nc) cap nc ticks () ∧ v = .tuple #[.agg #[.slice (some ⟨gd, 0, none⟩) ps.length ps.length, .slice (some ⟨go, 0, none⟩) nc nc], .int .i64 0] ∧ rows.map Sl.xs = s.sent ∧ (∀ r ∈ rows, r.a.isSome = true) ∧ Inv ps nc (fun ms _ => goodB ps ms) (ticks + 1) (ticks * cap) s ∧
        (.sl 3 1 (some ⟨gd, 0, none⟩) ps.length (s.done.map encI) :: .sl 23 1 (some ⟨go, 0, none⟩) nc (rows.map encS) :: (rows.map (rowE 3) ++ E)).Sublist E') := by
  obtain ⟨hok, hvv, hck, c1, c2, c3, c4, c5, c6, hs, hf⟩ := lrunE_ok hl0
  have hla := hp.len
  refine Fn.enter (n := 33) Try.func42 rfl rfl (Nat.le_of_ble_eq_true rfl) rfl ?_
  refine W.seq ?_
  refine W.region _ ?_
  refine WL.ef rfl rfl (by decide) (Ef.box rfl rfl (fun b5 => ?_))
  refine WL.ef rfl rfl (by decide) (Ef.alloc tab_ok rfl rfl (fun b8 => ?_))
  refine WG.run tab_ok 1 rfl ?_
  refine WG.nil ?_
  refine WE.nxt ?_
  refine W.seq ?_
  refine W.seq ?_
  refine W.region _ ?_
  refine WG.run tab_ok 1 rfl ?_
  refine WG.callV en70 rfl rfl (by decide) (CallOp.mk' rfl rfl rfl rfl) (fun _ => rfl) (fun hg => hvv ▸ Validate_V hp) ?_
  refine WG.run tab_ok 1 rfl ?_
  refine WG.nil ?_
  refine WE.nxt ?_
  refine W.seq ?_
  refine W.region _ ?_
  refine WG.run tab_ok 2 rfl ?_
  refine WG.nil ?_
  refine WE.nxt ?_
  refine W.condN rfl (fun hc0 => ?_) (fun hc0 => ?_)
  · try dsimp only at hc0
    exact absurd rfl hc0
  · try dsimp only at hc0
    refine W.skip ?_
    refine WE.nxt ?_
    refine W.seq ?_
    refine W.seq ?_
    refine W.region _ ?_
    refine WG.run tab_ok 1 rfl ?_
    refine' WG.y rfl rfl (by decide) (Yl.load1 tab_ok rfl rfl rfl (fun _ => rfl) ?r1 rfl ?h1) ?_
    case r1 => (first | exact Rd.blk 0 rfl | exact Rd.blk 1 rfl | exact Rd.blk 2 rfl | exact Rd.blk 3 rfl | exact Rd.blk 4 rfl | exact Rd.blk 5 rfl)
    case h1 => rfl
    refine WG.run tab_ok 2 rfl ?_
    refine WG.callV en71 rfl rfl (by decide) (CallOp.mk' rfl rfl rfl rfl) (fun _ => rfl) (fun hg => hck ▸ Check_V hp) ?_
    refine WG.run tab_ok 1 rfl ?_
    refine WG.nil ?_
    refine WE.nxt ?_
    refine W.seq ?_
    refine W.region _ ?_
    refine WG.run tab_ok 2 rfl ?_
    refine WG.nil ?_
    refine WE.nxt ?_
    refine W.condN rfl (fun hc1 => ?_) (fun hc1 => ?_)
    · try dsimp only at hc1
      exact absurd rfl hc1
    · try dsimp only at hc1
      refine W.skip ?_
      refine WE.nxt ?_
      refine W.freezeBlk 1 rfl ?_
      intro R1 hR1 h5
      have hp := hp.mono hR1
      refine W.seq ?_
      refine W.region _ ?_
      refine WG.run tab_ok 1 rfl ?_
      refine' WG.y rfl rfl (by decide) (Yl.load1 tab_ok rfl rfl rfl (fun _ => rfl) ?r2 rfl ?h2) ?_
      case r2 => exact Rd.ro h5
      case h2 => rfl
      refine WG.run tab_ok 3 rfl ?_
      have hrun := fun F => MRun_C (pc := pc) (g := 93) (first := #[]) (capd := #[.pointer (some ⟨b5, 0, none⟩)]) (ch := prioCh ps nc) (good := fun ms _ => goodB ps ms) (classes := nc) (cap := cap) (ticks := ticks) (X := fun _ => []) (sg := ()) w0 hp (prio_fair hok.sorted).toGood ⟨by have := hok.len; omega, fun p hp => by have := hs p hp; have := hf p hp; omega⟩ (prio_start _) (by omega) (by omega) (by omega) en93 (fun sb bg ms sg F hgd hbl l1 l2 n1 n2 => Pri1_C w0 hp hbl hok.sorted h5 ⟨by omega, by omega⟩ hgd F) F
      simp only [List.nil_append] at hrun
      refine WL.call en72 rfl rfl (by decide) (CallOp.mkT rfl rfl rfl rfl) (hrun _) ?_
      rintro _ _ E2 - ⟨rows, gd, go, s, hsr, rfl, rfl, h1, h2, h3, hsub⟩
      refine WL.subE hsub ?_
      refine WL.perm (List.perm_middle (l₁ := _ :: _ :: rows.map (rowE 3))) ?_
      first | refine WL.efN rfl rfl (Ef.store0 0 tab_ok rfl rfl rfl rfl rfl rfl rfl rfl ?_) | refine WL.efN rfl rfl (Ef.store0 1 tab_ok rfl rfl rfl rfl rfl rfl rfl rfl ?_) | refine WL.efN rfl rfl (Ef.store0 2 tab_ok rfl rfl rfl rfl rfl rfl rfl rfl ?_) | refine WL.efN rfl rfl (Ef.store0 3 tab_ok rfl rfl rfl rfl rfl rfl rfl rfl ?_) | refine WL.efN rfl rfl (Ef.store0 4 tab_ok rfl rfl rfl rfl rfl rfl rfl rfl ?_) | refine WL.efN rfl rfl (Ef.store0 5 tab_ok rfl rfl rfl rfl rfl rfl rfl rfl ?_)
      refine WG.run tab_ok 1 rfl ?_
      refine WG.nil ?_
      refine WE.nxt ?_
      refine W.ret ?_
      refine WE.retF tab_ok [_, _] rfl ⟨⟨_, _, _, rfl, rfl, rfl, ((by first | exact Rd.blk 0 rfl | exact Rd.blk 1 rfl | exact Rd.blk 2 rfl | exact Rd.blk 3 rfl | exact Rd.blk 4 rfl | exact Rd.blk 5 rfl)), rfl⟩, rfl, trivial⟩ (hR1) ?_
      exact ⟨rows, gd, go, s, hsr, rfl, h1, h2, h3, (by (repeat (first | exact List.Sublist.refl _ | exact List.nil_sublist _ | apply List.Sublist.cons_cons | apply List.Sublist.cons)); done)⟩

end Go.Proofs.Ytnaeefefggmomaa

/- Valid curves, finite or not, plain: what they say, their normal forms, and that two ways to make a curve give the same. No condition. -/
namespace Go.Proofs.Ytnaeefefggmomaa.M
open Go Go.Proofs.Ytnaeefefggmomaa.K

/-! ### normal forms do not depend on the period that one began with -/
theorem grows_mod {F : Nat → Int} {S m n : Nat} {J I : Int} (hm : Grows F S m J) (hn : Grows F S n I) : Grows F S (n % m) (I - ((n / m : Nat) : Int) * J) := fun t ht => by
  have h1 := hm.mul (n / m) (t + n % m) (by omega)
  have h2 := hn t ht
  have e : t + n % m + n / m * m = t + n := by
    have := Nat.mod_add_div n m
    rw [Nat.mul_comm] at this
    omega
  rw [e, h2] at h1
  omega
theorem grows_gcd {F : Nat → Int} {S : Nat} (m n : Nat) : ∀ (J I : Int), Grows F S m J → Grows F S n I → ∃ K : Int, Grows F S (Nat.gcd m n) K := by
  refine Nat.gcd.induction (P := fun m n => ∀ (J I : Int), Grows F S m J → Grows F S n I → ∃ K : Int, Grows F S (Nat.gcd m n) K) m n ?_ ?_
  · intro n J I _ h
    exact ⟨I, by rw [Nat.gcd_zero_left]; exact h⟩
  · intro m n _ ih J I hm hn
    obtain ⟨K, h⟩ := ih _ _ (grows_mod hm hn) hm
    exact ⟨K, by rw [Nat.gcd_rec]; exact h⟩
theorem grows_fac {F : Nat → Int} {S p : Nat} {J I : Int} {k : Nat} (h1 : Grows F S p J) (h2 : Grows F S (k * p) I) : I = k * J := by
  have a := h1.mul k S (Nat.le_refl _)
  have b := h2 S (Nat.le_refl _)
  omega
theorem PerOk.of_late {F : Nat → Int} {S S' P p : Nat} {I J : Int} (hP : 0 < P) (hp : P % p = 0) (hg : Grows F S P I) (h : Grows F S' p J) : PerOk F S P I p := by
  have hl : Grows F (S' + S) P I := hg.mono (by omega)
  have hj : Grows F (S' + S) p J := h.mono (by omega)
  obtain ⟨k, hk⟩ : ∃ k, P = k * p := ⟨P / p, by
    have := Nat.mod_add_div P p
    rw [Nat.mul_comm (P / p) p]
    omega⟩
  have hI : I = k * J := grows_fac hj (by rw [← hk]; exact hl)
  have e : I * (p : Int) = J * (P : Int) := by
    rw [hI, hk]
    rw [Int.natCast_mul, Int.mul_comm (k : Int) J, Int.mul_assoc]
  refine ⟨hp, by rw [e]; exact Int.mul_emod_left J P, fun t ht _ => ?_⟩
  rw [e, Int.mul_ediv_cancel _ (by omega)]
  have a1 := hg.mul S' t ht
  have a2 := hg.mul S' (t + p) (by omega)
  have h1 : S' ≤ S' * P := Nat.le_mul_of_pos_right S' hP
  have a3 := h (t + S' * P) (by omega)
  rw [show t + S' * P + p = t + p + S' * P by omega] at a3
  omega
theorem nf_same {F : Nat → Int} {S S' P P' : Nat} {I I' : Int} {p p' s s' : Nat} (hP : 0 < P) (hP' : 0 < P') (hg : Grows F S P I) (hg' : Grows F S' P' I') (h : NF F S P I p s) (h' : NF F S' P' I' p' s') : p = p' ∧ s = s' ∧ I * p / P = I' * p' / P' := by
  have g1 := h.least.2.1.all hP hg
  have g2 := h'.least.2.1.all hP' hg'
  have p1 := h.least.1
  have p2 := h'.least.1
  obtain ⟨K, hK⟩ := grows_gcd p p' _ _ (g1.mono (show S ≤ S + S' by omega)) (g2.mono (show S' ≤ S + S' by omega))
  have hg0 : 0 < Nat.gcd p p' := Nat.gcd_pos_of_pos_left _ (by omega)
  have d1 : P % Nat.gcd p p' = 0 := Nat.mod_eq_zero_of_dvd (Nat.dvd_trans (Nat.gcd_dvd_left p p') (Nat.dvd_of_mod_eq_zero h.least.2.1.1))
  have d2 : P' % Nat.gcd p p' = 0 := Nat.mod_eq_zero_of_dvd (Nat.dvd_trans (Nat.gcd_dvd_right p p') (Nat.dvd_of_mod_eq_zero h'.least.2.1.1))
  have e1 : p = Nat.gcd p p' := by
    have hle := Nat.gcd_le_left p' (show 0 < p by omega)
    rcases Nat.lt_or_eq_of_le hle with hlt | he
    · exact absurd (PerOk.of_late hP d1 hg hK) (h.least.2.2 _ hg0 hlt)
    · exact he.symm
  have e2 : p' = Nat.gcd p p' := by
    have hle := Nat.gcd_le_right p (show 0 < p' by omega)
    rcases Nat.lt_or_eq_of_le hle with hlt | he
    · exact absurd (PerOk.of_late hP' d2 hg' hK) (h'.least.2.2 _ hg0 hlt)
    · exact he.symm
  have e3 : p = p' := by omega
  subst e3
  have e4 : I * p / P = I' * p / P' := by
    have a := g1 (S + S') (by omega)
    have b := g2 (S + S') (by omega)
    omega
  refine ⟨rfl, ?_, e4⟩
  have hs := h'.starts
  rw [← e4] at hs
  exact h.starts.unique hs
section
variable {F : Nat → Int} {S P S' P' : Nat} {I I' : Int}
/-- what a reference makes of a finite function is what the program makes of it -/
theorem build_made_fin (hP : 0 < P) (hI : 0 ≤ I) (hg : Grows F S P I) (hP' : 0 < P') (hI' : 0 ≤ I') (hg' : Grows F S' P' I') (hm : ∀ t, F t ≤ F (t + 1)) (h0 : 0 ≤ F 0) (hf : ∀ t, t < S + P → F t < INF) (hf' : ∀ t, t < S' + P' → F t < INF) : mbuild F S P I = madeR ⟨fvals F (S' + P'), P', I'⟩ := by
  have hne : ∀ t, t < S + P → F t ≠ INF := fun t ht => by have := hf t ht; omega
  rw [mbuild_fin hne]
  obtain ⟨p, s, h1, _, _, h2⟩ := finL_nf hP hg hne
  obtain ⟨p', s', h3, _, _, h4⟩ := madeR_nf hP' hI' hg' hm h0 hf'
  obtain ⟨e1, e2, e3⟩ := nf_same hP hP' hg hg' h1 h3
  subst e1; subst e2
  rw [h2, h4, e3]
/-- and of one that is infinite from some tick on -/
theorem mbuild_inf {n : Nat} (hn : n < S + P) (hi : F n = INF) (hf : ∀ t, t < n → F t ≠ INF) : mbuild F S P I = checkedL (fvals F (n + 1)) 1 0 := by
  unfold mbuild
  rw [infAt_some hn hi hf, if_neg (by omega), Int.toNat_natCast]
theorem infL_some {n m : Nat} (hn : n < m) (hi : F n = INF) (hf : ∀ t, t < n → F t ≠ INF) : infL (fvals F m) = n := by
  unfold infL
  rw [fvals_len]
  exact findFrom_some (Nat.zero_le _) (by omega) (by rw [fvals_nth F hn, hi]; simp) (fun j _ hj => by rw [fvals_nth F (by omega)]; simp [hf j hj])
theorem normR_inf {n m : Nat} {per inc : Int} (hn : n < m) (hi : F n = INF) (hf : ∀ t, t < n → F t ≠ INF) : normR ⟨fvals F m, per, inc⟩ = ⟨fvals F (n + 1), 1, 0⟩ := by
  unfold normR
  dsimp only
  rw [infL_some hn hi hf, if_neg (by omega), Int.toNat_natCast, fvals_take F (by omega)]
theorem valid_inf {n : Nat} (hi : F n = INF) (hf : ∀ t, t < n → 0 ≤ F t ∧ F t < INF) (hm : ∀ t, t < n → F t ≤ F (t + 1)) : validB ⟨fvals F (n + 1), 1, 0⟩ = true ↔ n + 1 ≤ 400 ∧ ∀ t, t < n → F t ≤ MAXV := by
  rw [validB_iff]
  dsimp only
  rw [fvals_len, fvals_nth F (show n + 1 - 1 < n + 1 by omega), show n + 1 - 1 = n by omega, if_pos hi]
  constructor
  · rintro ⟨⟨_, h2, _⟩, h3, _⟩
    refine ⟨h2, fun t ht => ?_⟩
    have := (h3 t (by omega)).1
    rw [fvals_nth F (by omega)] at this
    have h5 := hf t ht
    rcases this with h | h <;> omega
  · rintro ⟨h1, h2⟩
    refine ⟨⟨by omega, h1, by decide, by decide, by omega, by decide, by unfold MAXV; omega⟩, fun i hi' => ?_, rfl, rfl⟩
    rw [fvals_nth F hi']
    refine ⟨?_, ?_⟩
    · by_cases e : i = n
      · subst e; exact .inl hi
      · exact .inr ⟨(hf i (by omega)).1, h2 i (by omega)⟩
    · by_cases e : i = 0
      · exact .inl e
      · right
        rw [fvals_nth F (by omega)]
        have := hm (i - 1) (by omega)
        rwa [show i - 1 + 1 = i by omega] at this
theorem checked_inf {n : Nat} (hi : F n = INF) (hf : ∀ t, t < n → 0 ≤ F t ∧ F t < INF) : checkedE (fvals F (n + 1)) ≠ 3 ↔ n + 1 ≤ 400 ∧ ∀ t, t < n → F t ≤ MAXV := by
  constructor
  · intro h
    refine ⟨?_, fun t ht => ?_⟩
    · apply Classical.byContradiction
      intro hn
      exact h (checkedE_big (by rw [fvals_len]; omega))
    · apply Classical.byContradiction
      intro hn
      have := hf t ht
      exact h (checkedE_one (i := t) (by rw [fvals_len]; omega) (by rw [fvals_nth F (by omega)]; omega) (by rw [fvals_nth F (by omega)]; omega))
  · rintro ⟨h1, h2⟩
    refine checkedE_fine (by rw [fvals_len]; exact h1) (fun j hj => ?_)
    rw [fvals_len] at hj
    rw [fvals_nth F hj]
    by_cases e : j = n
    · subst e; exact .inl hi
    · exact .inr (h2 j (by omega))
theorem build_made_inf {n m : Nat} {per inc : Int} (hn : n < S + P) (hn' : n < m) (hi : F n = INF) (hf : ∀ t, t < n → 0 ≤ F t ∧ F t < INF) (hm : ∀ t, t < n → F t ≤ F (t + 1)) : mbuild F S P I = madeR ⟨fvals F m, per, inc⟩ := by
  have hne : ∀ t, t < n → F t ≠ INF := fun t ht => by have := hf t ht; omega
  rw [mbuild_inf hn hi hne]
  unfold madeR
  rw [normR_inf hn' hi hne]
  by_cases hv : validB ⟨fvals F (n + 1), 1, 0⟩ = true
  · rw [if_pos hv, checkedL_good ((checked_inf hi hf).2 ((valid_inf hi hf hm).1 hv))]
  · rw [if_neg hv, checkedL_bad]
    rcases checkedE_vals (fvals F (n + 1)) with h | h
    · exact h
    · exact absurd ((valid_inf hi hf hm).2 ((checked_inf hi hf).1 (by omega))) hv
end
/-! ### what valid curves say -/
/-- infinite from n on -/
structure IC (F : Nat → Int) (n : Nat) : Prop where
  hn : n < 400
  hi : ∀ t, n ≤ t → F t = INF
  hb : ∀ t, t < n → 0 ≤ F t ∧ F t ≤ 1073741824
  hm : ∀ t, F t ≤ F (t + 1)
def cvF (c : Cv) (t : Nat) : Int := atR c.vals c.per c.inc (t : Int)
theorem cvF_low {c : Cv} {t : Nat} (ht : t < c.vals.length) : cvF c t = nth c.vals t := by
  unfold cvF atR
  rw [if_neg (by omega), if_pos (by omega), Int.toNat_natCast]
theorem cvF_vals (c : Cv) : c.vals = fvals (cvF c) c.vals.length := fvals_eq (fun i hi => (cvF_low hi).symm)
/-- where the value of a late tick stands -/
def cvJ (n P t : Nat) : Nat := t - ((t - n) / P + 1) * P
theorem cvJ_at {n P t : Nat} (hP : 1 ≤ P ∧ P ≤ n) (ht : n ≤ t) : n - P ≤ cvJ n P t ∧ cvJ n P t < n ∧ cvJ n P t + ((t - n) / P + 1) * P = t := by
  have hd := Nat.mod_add_div (t - n) P
  have hm := Nat.mod_lt (t - n) (show 0 < P by omega)
  have hmul : ((t - n) / P + 1) * P = P * ((t - n) / P) + P := by rw [Nat.add_mul, Nat.mul_comm]; simp
  unfold cvJ
  omega
theorem cvF_high {c : Cv} {P : Nat} (hc : c.per = P) (hP : 1 ≤ P ∧ P ≤ c.vals.length) {t : Nat} (ht : c.vals.length ≤ t) :
    cvF c t = if nth c.vals (cvJ c.vals.length P t) = INF then INF else nth c.vals (cvJ c.vals.length P t) + (((t - c.vals.length) / P + 1 : Nat) : Int) * c.inc := by
  obtain ⟨j1, j2, j3⟩ := cvJ_at hP ht
  unfold cvF atR
  have e1 : ((t : Int) - (c.vals.length : Int)) / c.per + 1 = (((t - c.vals.length) / P + 1 : Nat) : Int) := by
    rw [hc, show (t : Int) - (c.vals.length : Int) = ((t - c.vals.length : Nat) : Int) by omega]
    rfl
  rw [if_neg (by omega), if_neg (by omega), e1, hc]
  have e2 : ((t : Int) - (((t - c.vals.length) / P + 1 : Nat) : Int) * (P : Int)).toNat = cvJ c.vals.length P t := by
    rw [← Int.natCast_mul]
    omega
  rw [e2]
  rfl
section
variable {c : Cv}
theorem valid_each (h : validB c = true) : ∀ i, i < c.vals.length → (nth c.vals i = INF ∨ (0 ≤ nth c.vals i ∧ nth c.vals i ≤ MAXV)) := fun i hi => ((validB_iff.1 h).2.1 i hi).1
theorem valid_mono (h : validB c = true) {i : Nat} : ∀ {j : Nat}, i ≤ j → j < c.vals.length → nth c.vals i ≤ nth c.vals j
  | 0, hij, _ => by obtain rfl : i = 0 := by omega
                    exact Int.le_refl _
  | j + 1, hij, hj => by
    by_cases e : i = j + 1
    · subst e; exact Int.le_refl _
    · have a := valid_mono h (i := i) (j := j) (by omega) (by omega)
      have b := (((validB_iff.1 h).2.1 (j + 1) hj).2).resolve_left (by omega)
      rw [show j + 1 - 1 = j by omega] at b
      omega
/-- a finite valid curve -/
theorem valid_fin (h : validB c = true) (hf : nth c.vals (c.vals.length - 1) ≠ INF) : ∃ S P : Nat, c.per = P ∧ c.vals.length = S + P ∧ FC (cvF c) S P c.inc := by
  obtain ⟨⟨h1, h2, h3, h4, h5, h6, h7⟩, _, h8⟩ := validB_iff.1 h
  rw [if_neg hf] at h8
  obtain ⟨P, hP⟩ := Int.eq_ofNat_of_zero_le (show 0 ≤ c.per by omega)
  have hPn : 1 ≤ P ∧ P ≤ c.vals.length := by omega
  have hlow : ∀ t, t < c.vals.length → 0 ≤ cvF c t ∧ cvF c t ≤ 1073741824 := fun t ht => by
    rw [cvF_low ht]
    have a := valid_mono h (i := t) (j := c.vals.length - 1) (by omega) (by omega)
    have b := valid_each h (c.vals.length - 1) (by omega)
    have d := valid_each h t ht
    unfold INF MAXV at b d
    unfold INF at hf
    omega
  have hfin : ∀ j, j < c.vals.length → nth c.vals j ≠ INF := fun j hj => by
    have := hlow j hj
    rw [cvF_low hj] at this
    unfold INF; omega
  have hg : Grows (cvF c) (c.vals.length - P) P c.inc := fun t ht => by
    obtain ⟨j1, j2, j3⟩ := cvJ_at hPn (show c.vals.length ≤ t + P by omega)
    rw [cvF_high hP hPn (show c.vals.length ≤ t + P by omega), if_neg (hfin _ j2)]
    by_cases hn : t < c.vals.length
    · have e : (t + P - c.vals.length) / P = 0 := Nat.div_eq_of_lt (by omega)
      rw [e] at j3 ⊢
      have ej : cvJ c.vals.length P (t + P) = t := by omega
      rw [ej, cvF_low hn]; simp
    · obtain ⟨i1, i2, i3⟩ := cvJ_at hPn (show c.vals.length ≤ t by omega)
      rw [cvF_high hP hPn (show c.vals.length ≤ t by omega), if_neg (hfin _ i2)]
      have e : (t + P - c.vals.length) / P = (t - c.vals.length) / P + 1 := by
        rw [show t + P - c.vals.length = t - c.vals.length + P by omega, Nat.add_div_right _ (by omega)]
      rw [e] at j3 ⊢
      have ej : cvJ c.vals.length P (t + P) = cvJ c.vals.length P t := by
        have : ((t - c.vals.length) / P + 1 + 1) * P = ((t - c.vals.length) / P + 1) * P + P := by rw [Nat.add_mul _ 1 P]; simp
        omega
      rw [ej]
      have e3 : (((t - c.vals.length) / P + 1 + 1 : Nat) : Int) * c.inc = (((t - c.vals.length) / P + 1 : Nat) : Int) * c.inc + c.inc := by
        rw [Int.natCast_add _ 1, Int.add_mul]; simp
      rw [e3]; omega
  have hstep : ∀ t, t + 1 ≤ c.vals.length → cvF c t ≤ cvF c (t + 1) := fun t ht => by
    by_cases e : t + 1 < c.vals.length
    · rw [cvF_low e, cvF_low (show t < c.vals.length by omega)]
      exact valid_mono h (by omega) e
    · have g := hg (c.vals.length - P) (Nat.le_refl _)
      rw [show c.vals.length - P + P = t + 1 by omega, cvF_low (show c.vals.length - P < c.vals.length by omega)] at g
      rw [g, cvF_low (show t < c.vals.length by omega)]
      rw [hP, Int.toNat_natCast, show c.vals.length - 1 = t by omega] at h8
      exact h8
  refine ⟨c.vals.length - P, P, hP, by omega, by omega, by omega, by unfold MAXV at h7; omega, hg, ?_, (hlow 0 (by omega)).1, fun t ht => (hlow t (by omega)).2⟩
  intro t
  induction t using Nat.strongRecOn with
  | _ t ih =>
    by_cases ht : t + 1 ≤ c.vals.length
    · exact hstep t ht
    · have a := ih (t - P) (by omega)
      have g1 := hg (t - P) (by omega)
      have g2 := hg (t - P + 1) (by omega)
      rw [show t - P + P = t by omega] at g1
      rw [show t - P + 1 + P = t + 1 by omega] at g2
      omega
theorem valid_ic (h : validB c = true) (hf : nth c.vals (c.vals.length - 1) = INF) : c.per = 1 ∧ c.inc = 0 ∧ ∃ n : Nat, n < c.vals.length ∧ infL c.vals = n ∧ IC (cvF c) n := by
  obtain ⟨⟨h1, h2, h3, h4, h5, h6, h7⟩, _, h8⟩ := validB_iff.1 h
  rw [if_pos hf] at h8
  refine ⟨h8.1, h8.2, ?_⟩
  unfold infL
  rcases findFrom_cases (fun i => nth c.vals i == INF) c.vals.length 0 with ⟨n, n1, n2, n3, n4, n5⟩ | ⟨_, n2⟩
  · rw [n3]
    have hnI : nth c.vals n = INF := by simpa using n4
    have hlow : ∀ t, t < n → 0 ≤ nth c.vals t ∧ nth c.vals t ≤ 1073741824 := fun t ht => by
      have a := valid_each h t (by omega)
      have b := n5 t (by omega) ht
      unfold MAXV at a
      rcases a with a | a
      · rw [a] at b; simp at b
      · exact a
    have hhi : ∀ t, n ≤ t → cvF c t = INF := fun t ht => by
      by_cases e : t < c.vals.length
      · rw [cvF_low e]
        have a := valid_mono h ht e
        have b := valid_each h t e
        rw [hnI] at a
        unfold MAXV INF at b
        unfold INF at a ⊢
        omega
      · obtain ⟨j1, j2, j3⟩ := cvJ_at (n := c.vals.length) (P := 1) (t := t) (by omega) (by omega)
        have ej : cvJ c.vals.length 1 t = c.vals.length - 1 := by omega
        rw [cvF_high (P := 1) (by rw [h8.1]; rfl) (by omega) (by omega), ej, if_pos hf]
    refine ⟨n, by omega, rfl, by omega, hhi, fun t ht => by rw [cvF_low (by omega)]; exact hlow t ht, fun t => ?_⟩
    by_cases ht : t + 1 < n
    · rw [cvF_low (show t + 1 < c.vals.length by omega), cvF_low (show t < c.vals.length by omega)]
      exact valid_mono h (by omega) (by omega)
    · rw [hhi (t + 1) (by omega)]
      by_cases e : t < n
      · rw [cvF_low (by omega)]
        have := hlow t e
        unfold INF; omega
      · rw [hhi t (by omega)]; exact Int.le_refl _
  · have := n2 (c.vals.length - 1) (by omega) (by omega)
    rw [hf] at this; simp at this
/-- of a finite curve, of any valid one -/
def finB (c : Cv) : Bool := nth c.vals (c.vals.length - 1) != INF
theorem cv_eq {S P : Nat} (hP : c.per = P) (hn : c.vals.length = S + P) : c = ⟨fvals (cvF c) (S + P), P, c.inc⟩ := by
  have := cvF_vals c
  rw [hn] at this
  cases c
  simp only at *
  subst hP
  rw [← this]
theorem cv_eqI {n : Nat} (hP : c.per = 1) (hI : c.inc = 0) (hn : n < c.vals.length) : c = ⟨fvals (cvF c) c.vals.length, 1, 0⟩ := by
  have := cvF_vals c
  cases c
  simp only at *
  subst hP; subst hI
  rw [← this]
end
theorem cvF_fc {F : Nat → Int} {S P : Nat} {I : Int} (h : FC F S P I) : cvF ⟨fvals F (S + P), P, I⟩ = F := funext fun t => h.atR t
theorem cvF_ic {F : Nat → Int} {n m : Nat} (h : IC F n) (hm : n < m) : cvF ⟨fvals F m, 1, 0⟩ = F := funext fun t => by
  by_cases ht : t < m
  · rw [cvF_low (by rw [fvals_len]; exact ht)]
    exact fvals_nth F ht
  · have hl : (fvals F m).length = m := fvals_len F m
    rw [cvF_high (c := ⟨fvals F m, 1, 0⟩) (P := 1) rfl (by rw [hl]; omega) (by rw [hl]; omega)]
    obtain ⟨j1, j2, j3⟩ := cvJ_at (n := m) (P := 1) (t := t) (by omega) (by omega)
    rw [hl]
    dsimp only
    rw [show cvJ m 1 t = m - 1 by omega, fvals_nth F (by omega), h.hi _ (by omega), if_pos rfl, h.hi t (by omega)]
theorem IC.fin {F : Nat → Int} {n t : Nat} (h : IC F n) (ht : t < n) : F t ≠ INF := by have := h.hb t ht; unfold INF; omega
theorem IC.valid {F : Nat → Int} {n m : Nat} (h : IC F n) (hm : n < m) (hm' : m ≤ 400) : validB ⟨fvals F m, 1, 0⟩ = true := by
  rw [validB_iff]
  dsimp only
  rw [fvals_len, fvals_nth F (show m - 1 < m by omega), if_pos (h.hi _ (by omega))]
  refine ⟨⟨by omega, hm', by decide, by decide, by omega, by decide, by unfold MAXV; omega⟩, fun i hi => ?_, rfl, rfl⟩
  rw [fvals_nth F hi]
  refine ⟨?_, ?_⟩
  · by_cases e : i < n
    · have := h.hb i e
      right; unfold MAXV; exact this
    · exact .inl (h.hi i (by omega))
  · by_cases e : i = 0
    · exact .inl e
    · right
      rw [fvals_nth F (by omega)]
      have := h.hm (i - 1)
      rwa [show i - 1 + 1 = i by omega] at this
theorem FC.valid' {F : Nat → Int} {S P : Nat} {I : Int} (h : FC F S P I) : validB ⟨fvals F (S + P), P, I⟩ = true := by
  have hP := h.hP
  have hn := h.hn
  have hI := h.hI
  rw [validB_iff]
  dsimp only
  rw [fvals_len]
  refine ⟨⟨by omega, by omega, by omega, by omega, by omega, by omega, by unfold MAXV; omega⟩, fun i hi => ?_, ?_⟩
  · rw [fvals_nth F hi]
    have a := h.nonneg i
    have b := h.hb i hi
    refine ⟨.inr ⟨a, by unfold MAXV; omega⟩, ?_⟩
    by_cases h0 : i = 0
    · exact .inl h0
    · right
      rw [fvals_nth F (by omega)]
      exact h.mono (show i - 1 ≤ i by omega)
  · rw [fvals_nth F (by omega), if_neg (h.fin (by omega)), Int.toNat_natCast, fvals_nth F (by omega)]
    have h1 := h.hg (S + P - P) (by omega)
    have h2 := h.mono (show S + P - 1 ≤ S + P - P + P by omega)
    omega
/-- the normal form of a finite curve -/
theorem FC.norm {F : Nat → Int} {S P : Nat} {I : Int} (h : FC F S P I) : ∃ (s p : Nat) (q : Int), normR ⟨fvals F (S + P), P, I⟩ = ⟨fvals F (s + p), p, q⟩ ∧ FC F s p q ∧ s ≤ S ∧ p ≤ P ∧ NF F S P I p s ∧ q = I * p / P := by
  have hP := h.hP
  have hI := h.hI
  obtain ⟨p, s, h1, h2, h3, h4⟩ := normR_nf (by omega) hI.1 h.hg (fun t ht => h.fin ht)
  have hp := h1.least.1
  have hq0 : 0 ≤ I * (p : Int) / P := Int.ediv_nonneg (Int.mul_nonneg hI.1 (by omega)) (by omega)
  have hq : I * (p : Int) / P ≤ I := by
    have h3 : I * (p : Int) ≤ I * (P : Int) := Int.mul_le_mul_of_nonneg_left (by omega) hI.1
    have h4 : I * (p : Int) / P ≤ I * (P : Int) / P := Int.ediv_le_ediv (by omega) h3
    rw [Int.mul_ediv_cancel _ (by omega)] at h4
    exact h4
  have hn := h.hn
  exact ⟨s, p, I * p / P, h4, ⟨by omega, by omega, ⟨hq0, by omega⟩, h1.starts.1, h.hm, h.h0, fun t ht => h.hb t (by omega)⟩, h3, h2, h1, rfl⟩
theorem IC.norm {F : Nat → Int} {n m : Nat} (h : IC F n) (hm : n < m) : normR ⟨fvals F m, 1, 0⟩ = ⟨fvals F (n + 1), 1, 0⟩ :=
  normR_inf hm (h.hi n (Nat.le_refl _)) (fun t ht => h.fin ht)
/-- what is known of a valid curve: finite or not -/
theorem valid_cases {c : Cv} (h : validB c = true) : (∃ S P : Nat, c = ⟨fvals (cvF c) (S + P), P, c.inc⟩ ∧ c.vals.length = S + P ∧ c.per = P ∧ FC (cvF c) S P c.inc ∧ finB c = true) ∨ (∃ n : Nat, c = ⟨fvals (cvF c) c.vals.length, 1, 0⟩ ∧ n < c.vals.length ∧ c.per = 1 ∧ c.inc = 0 ∧ infL c.vals = n ∧ IC (cvF c) n ∧ finB c = false) := by
  by_cases hf : nth c.vals (c.vals.length - 1) = INF
  · obtain ⟨h1, h2, n, h3, h4, h5⟩ := valid_ic h hf
    exact .inr ⟨n, cv_eqI h1 h2 h3, h3, h1, h2, h4, h5, by unfold finB; rw [hf]; simp⟩
  · obtain ⟨S, P, h1, h2, h3⟩ := valid_fin h hf
    exact .inl ⟨S, P, cv_eq h1 h2, h2, h1, h3, by unfold finB; simp [hf]⟩
theorem norm_valid {c : Cv} (h : validB c = true) : validB (normR c) = true ∧ cvF (normR c) = cvF c ∧ (normR c).vals.length ≤ c.vals.length ∧ finB (normR c) = finB c ∧ (∀ S P : Nat, c.vals.length = S + P → c.per = P → ∃ s p : Nat, (normR c).vals.length = s + p ∧ (normR c).per = p ∧ s ≤ S ∧ p ≤ P) := by
  have hfb : ∀ {a b : Cv}, validB a = true → validB b = true → cvF a = cvF b → finB a = finB b := fun {a b} ha hb e => by
    rcases valid_cases ha with ⟨S, P, _, _, _, hfc, f1⟩ | ⟨n, _, _, _, _, _, hic, f1⟩
    · rcases valid_cases hb with ⟨_, _, _, _, _, _, f2⟩ | ⟨n, _, _, _, _, _, hic, f2⟩
      · rw [f1, f2]
      · rw [e] at hfc
        have a1 := hic.hi (n + S + P) (by omega)
        have a2 := hfc.bound n
        have a3 := hic.hi n (Nat.le_refl _)
        have := hic.hn
        unfold INF at a3; omega
    · rcases valid_cases hb with ⟨S, P, _, _, _, hfc, f2⟩ | ⟨_, _, _, _, _, _, _, f2⟩
      · rw [← e] at hfc
        have a2 := hfc.bound n
        have a3 := hic.hi n (Nat.le_refl _)
        have := hic.hn
        unfold INF at a3; omega
      · rw [f1, f2]
  rcases valid_cases h with ⟨S, P, e, hl, hp, hfc, _⟩ | ⟨n, e, hl, hp, hI, _, hic, _⟩
  · obtain ⟨s, p, q, h1, h2, h3, h4, _⟩ := hfc.norm
    have e2 : normR c = ⟨fvals (cvF c) (s + p), p, q⟩ := by rw [← h1, ← e]
    have e3 : cvF (normR c) = cvF c := by rw [e2]; exact cvF_fc h2
    have hv : validB (normR c) = true := by rw [e2]; exact h2.valid'
    have hp1 := h2.hP
    refine ⟨hv, e3, by rw [e2, hl, fvals_len]; omega, hfb hv h e3, fun S' P' hl' hp' => ⟨s, p, by rw [e2]; exact fvals_len _ _, by rw [e2], by omega, by omega⟩⟩
  · have h1 := hic.norm hl
    have e2 : normR c = ⟨fvals (cvF c) (n + 1), 1, 0⟩ := by rw [← h1, ← e]
    have e3 : cvF (normR c) = cvF c := by rw [e2]; exact cvF_ic hic (by omega)
    have hn := hic.hn
    have hv : validB (normR c) = true := by rw [e2]; exact hic.valid (by omega) (by omega)
    refine ⟨hv, e3, by rw [e2, fvals_len]; omega, hfb hv h e3, fun S' P' hl' hp' => ⟨n, 1, by rw [e2]; exact fvals_len _ _, by rw [e2]; rfl, by omega, by omega⟩⟩
end Go.Proofs.Ytnaeefefggmomaa.M

/- What the references' normal form wants of long lists, plain; curves less a number. No condition. -/
namespace Go.Proofs.Ytnaeefefggmomaa.M
open Go Go.Proofs.Ytnaeefefggmomaa.K

/-- what Made wants -/
structure MadeOk (v : List Int) (per inc : Int) : Prop where
  vals : ∀ x ∈ v, -2305843009213693952 ≤ x ∧ x ≤ 4611686018427387904
  hper : 1 ≤ per ∧ per ≤ 10000 ∧ per ≤ v.length
  hinc : 0 ≤ inc ∧ inc ≤ 2147483648
  self : infL v = -1 → perR ⟨v, per, inc⟩ ((v.length : Int) - per) per = true
  at_ : ∀ t : Int, 0 ≤ t → t ≤ (v.length : Int) + per → infL v = -1 → 0 ≤ atR v per inc t ∧ atR v per inc t ≤ 1000000000000000
  nb : (∀ x ∈ (normR ⟨v, per, inc⟩).vals, -2305843009213693952 ≤ x ∧ x ≤ 4611686018427387904) ∧ InR (normR ⟨v, per, inc⟩).per ∧ InR (normR ⟨v, per, inc⟩).inc
theorem cvF_bound {c : Cv} (h : validB c = true) (t : Nat) : 0 ≤ cvF c t ∧ (cvF c t = INF ∨ cvF c t ≤ 1073741824 * ((t : Int) + 2)) := by
  rcases valid_cases h with ⟨S, P, _, _, _, hfc, _⟩ | ⟨n, _, _, _, _, _, hic, _⟩
  · exact ⟨hfc.nonneg t, .inr (hfc.bound t)⟩
  · by_cases ht : t < n
    · have := hic.hb t ht
      exact ⟨this.1, .inr (by omega)⟩
    · have := hic.hi t (by omega)
      exact ⟨by rw [this]; unfold INF; omega, .inl this⟩
theorem cvF_mono {c : Cv} (h : validB c = true) (t : Nat) : cvF c t ≤ cvF c (t + 1) := by
  rcases valid_cases h with ⟨S, P, _, _, _, hfc, _⟩ | ⟨n, _, _, _, _, _, hic, _⟩
  · exact hfc.hm t
  · exact hic.hm t
theorem valid_range {c : Cv} (h : validB c = true) : (∀ x ∈ c.vals, -2305843009213693952 ≤ x ∧ x ≤ 4611686018427387904) ∧ 1 ≤ c.vals.length ∧ c.vals.length ≤ 400 ∧ 1 ≤ c.per ∧ c.per ≤ 120 ∧ c.per ≤ c.vals.length ∧ 0 ≤ c.inc ∧ c.inc ≤ 1073741824 := by
  obtain ⟨⟨h1, h2, h3, h4, h5, h6, h7⟩, _, _⟩ := validB_iff.1 h
  refine ⟨all_of_nth (fun j hj => ?_), h1, h2, h3, h4, h5, h6, by unfold MAXV at h7; omega⟩
  have := valid_each h j hj
  unfold INF MAXV at this
  omega
/-! ### a curve less a number -/
/-- infinite there -/
def isInf (c : Cv) (t : Nat) : Prop := finB c = false ∧ cvF c t = INF
instance (c : Cv) (t : Nat) : Decidable (isInf c t) := by unfold isInf; infer_instance
theorem isInf_iff {c : Cv} (h : validB c = true) {t : Nat} (ht : t ≤ 1000000000) : isInf c t ↔ cvF c t = INF := by
  refine ⟨fun h => h.2, fun h0 => ⟨?_, h0⟩⟩
  rcases valid_cases h with ⟨S, P, _, _, _, hfc, _⟩ | ⟨n, _, _, _, _, _, hic, hf⟩
  · have := hfc.bound t
    unfold INF at h0; omega
  · exact hf
def lowF (c : Cv) (k : Int) (t : Nat) : Int := if isInf c t then INF else max 0 (cvF c t - k)
def lowerR (c : Cv) (k : Int) : Cv × Int :=
  if finB (normR c) = true ∧ 0 < (normR c).inc ∧ cvF (normR c) 400 < k then (zcv, 3)
  else madeR ⟨fvals (lowF (normR c) k) (400 + (normR c).per.toNat), (normR c).per, (normR c).inc⟩
end Go.Proofs.Ytnaeefefggmomaa.M
