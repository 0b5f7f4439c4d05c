/- Rules and walks, joined from 34 texts: the first of them says: Fractions: the reference computes the same. No condition. -/
import Derived.Test.YtjacpnojnoompaaDoorG2
/- Fractions: the reference computes the same. No condition. -/
set_option linter.unusedSimpArgs false
set_option linter.unusedVariables false
namespace Go.Proofs.YtjacpnojnoompaaDoor
open Go Go.RowKit Go.Proofs.YtjacpnojnoompaaDoor.K Go.Proofs.YtjacpnojnoompaaDoor.M

theorem Gcd_V {R : Ro} {a b : Nat} : FnV Tryd.prog 73 [.int .i64 (a : Int), .int .i64 (b : Int)] R (.int .i64 (Nat.gcd a b : Int)) := by
  refine Fn.toV (fun w0 E => ?_)
  refine Fn.enter (n := 12) Tryd.func73 rfl rfl (Nat.le_of_ble_eq_true rfl) rfl ?_
  refine W.seq ?_
  refine W.region _ ?_
  refine WG.run tab_ok 1 rfl ?_
  refine WG.nil ?_
  refine WE.nxt ?_
  refine W.seq ?_
  refine W.block ?_
  refine W.loopK (β := Nat × Nat) (fun (x, y) => Nat.gcd x y = Nat.gcd a b) (fun (x, y) => [(0, true, .int .i64 (x : Int)), (1, true, .int .i64 (y : Int))]) [] [] [] _ rfl (fun (x, y) => []) (fun (x, y) => y) ((a, b)) (rfl) ⟨rfl, rfl, rfl⟩ (by (repeat (first | exact List.Sublist.refl _ | exact List.nil_sublist _ | apply List.Sublist.cons_cons | apply List.Sublist.cons)); done) ?_
  intro st hst
  obtain ⟨x, y⟩ := st
  dsimp only [zipE, setAll, List.cons_append, List.nil_append, List.set_cons_zero, List.set_cons_succ] at hst ⊢
  
  refine W.seq ?_
  refine W.seq ?_
  refine W.region _ ?_
  refine WG.run tab_ok 2 rfl ?_
  refine WG.nil ?_
  refine WE.nxt ?_
  refine W.condN rfl (fun hc0 => ?_) (fun hc0 => ?_)
  · try dsimp only at hc0
    refine W.skip ?_
    refine WE.nxt ?_
    refine W.block ?_
    refine W.regionQ _ mixed (by kernel_rfl) ?_
    refine WG.run tab_ok 3 rfl ?_
    refine WG.y rfl rfl (by decide) (Yl.rem rfl rfl rfl (fun _ => rfl) (by intro _; (try dsimp only) <;> omega) (by intro _; (try dsimp only) <;> omega)) ?_
    refine WG.run tab_ok 2 rfl ?_
    refine WG.nil ?_
    refine WE.blk _ ?_
    refine WE.again ((y, x % y)) ((gcd_step x y).trans hst) (by dsimp only; exact Nat.mod_lt _ (by omega)) ⟨rfl, rfl, rfl⟩ (RLe.refl _) (by (repeat (first | exact List.Sublist.refl _ | exact List.nil_sublist _ | apply List.Sublist.cons_cons | apply List.Sublist.cons)); done)
  · try dsimp only at hc0
    obtain rfl : y = 0 := by omega
    rw [Nat.gcd_zero_right] at hst
    subst hst
    refine W.exit ?_
    refine WE.then_exit ?_
    refine WE.then_exit ?_
    refine WE.blk_exit ?_
    refine WE.nxt ?_
    refine W.seq ?_
    refine W.region _ ?_
    refine WG.run tab_ok 2 rfl ?_
    refine WG.nil ?_
    refine WE.nxt ?_
    refine W.ret ?_
    refine WE.subE (E' := E) (by (repeat (first | exact List.Sublist.refl _ | exact List.nil_sublist _ | apply List.Sublist.cons_cons | apply List.Sublist.cons)); done) ?_
    refine WE.retF tab_ok [_] rfl ⟨rfl, trivial⟩ (RLe.refl _) ?_
    exact ⟨rfl, rfl⟩

theorem RAbs_V {R : Ro} {a : Int} (ha : -9223372036854775807 ≤ a ∧ a ≤ 9223372036854775807) : FnV Tryd.prog 74 [.int .i64 a] R (.int .i64 (a.natAbs : Int)) := by
  refine Fn.toV (fun w0 E => ?_)
  refine Fn.enter (n := 7) Tryd.func74 rfl rfl (Nat.le_of_ble_eq_true rfl) rfl ?_
  refine W.seq ?_
  refine W.region _ ?_
  refine WG.run tab_ok 1 rfl ?_
  refine WG.nil ?_
  refine WE.nxt ?_
  refine W.seq ?_
  refine W.region _ ?_
  refine WG.run tab_ok 2 rfl ?_
  refine WG.y rfl rfl (by decide) (Yl.neg rfl rfl (fun _ => rfl) (by intro _; constructor <;> (try dsimp only) <;> omega)) ?_
  refine WG.run tab_ok 2 rfl ?_
  refine WG.nil ?_
  refine WE.nxt ?_
  refine W.ret ?_
  refine WE.subE (E' := E) (by (repeat (first | exact List.Sublist.refl _ | exact List.nil_sublist _ | apply List.Sublist.cons_cons | apply List.Sublist.cons)); done) ?_
  refine WE.retF tab_ok [_] rfl ⟨rfl, trivial⟩ (RLe.refl _) ?_
  exact ⟨congrArg (Value.int .i64) (by split <;> omega), rfl⟩

theorem RValid_V {R : Ro} {x : Fr} (hx : InR x.1 ∧ InR x.2) : FnV Tryd.prog 48 [.agg #[.int .i64 x.1, .int .i64 x.2]] R (.bool (validF x)) := by
  refine Fn.toV (fun w0 E => ?_)
  refine Fn.enter (n := 30) Tryd.func48 rfl rfl (Nat.le_of_ble_eq_true rfl) rfl ?_
  refine W.seq ?_
  refine W.region _ ?_
  refine WL.ef rfl rfl (by decide) (Ef.box rfl rfl (fun b1 => ?_))
  refine WG.run tab_ok 1 rfl ?_
  refine WG.nil ?_
  refine WE.nxt ?_
  refine W.seq ?_
  refine W.regionQ _ mixed (by kernel_rfl) ?_
  refine WG.run tab_ok 1 rfl ?_
  refine' WG.y rfl rfl (by decide) (Yl.load1 tab_ok rfl rfl rfl (fun _ => rfl) ?r1 rfl ?h1) ?_
  case r1 => apply Rd.add; (first | exact Rd.blk 0 rfl)
  case h1 => rfl
  refine WG.run tab_ok 2 rfl ?_
  refine WG.y rfl rfl (by decide) (pureV_ok tab_ok rfl (by first | exact fun _ => rfl | exact fun h => h | (intro h; simp_all))) ?_
  refine' WG.y rfl rfl (by decide) (Yl.loadG tab_ok rfl rfl rfl (by first | exact fun _ => rfl | exact fun h => h | (intro h; simp_all)) ?r2 rfl ?h2 ?g2) ?_
  case r2 => apply Rd.addC; (first | exact Rd.blkC 0 rfl)
  case h2 => rfl
  case g2 => first | exact fun _ => trivial | (intro hg; (try simp only [decide_eq_true_eq, decide_eq_false_iff_not, beq_iff_eq, bne_iff_ne, beq_eq_false_iff_ne, bne_eq_false_iff_eq, ne_eq, Bool.or_eq_true, Bool.or_eq_false_iff, Bool.and_eq_true, Bool.and_eq_false_imp, Bool.not_eq_true, Bool.not_eq_true', Bool.not_eq_false', Classical.not_not, Int.not_lt, Int.not_le, gt_iff_lt, ge_iff_le] at hg); (try dsimp only); omega)
  refine WG.y rfl rfl (by decide) (pureV_ok tab_ok rfl (by first | exact fun _ => rfl | exact fun h => h | (intro h; simp_all))) ?_
  refine WG.y rfl rfl (by decide) (Yl.pand rfl rfl rfl (fun _ => rfl) (by intro h1 h2; simp_all <;> omega)) ?_
  refine WG.run tab_ok 1 rfl ?_
  refine WG.y rfl rfl (by decide) (pureV_ok tab_ok rfl (by first | exact fun _ => rfl | exact fun h => h | (intro h; simp_all))) ?_
  refine' WG.y rfl rfl (by decide) (Yl.loadG tab_ok rfl rfl rfl (by first | exact fun _ => rfl | exact fun h => h | (intro h; simp_all)) ?r3 rfl ?h3 ?g3) ?_
  case r3 => apply Rd.addC; (first | exact Rd.blkC 0 rfl)
  case h3 => rfl
  case g3 => first | exact fun _ => trivial | (intro hg; (try simp only [decide_eq_true_eq, decide_eq_false_iff_not, beq_iff_eq, bne_iff_ne, beq_eq_false_iff_ne, bne_eq_false_iff_eq, ne_eq, Bool.or_eq_true, Bool.or_eq_false_iff, Bool.and_eq_true, Bool.and_eq_false_imp, Bool.not_eq_true, Bool.not_eq_true', Bool.not_eq_false', Classical.not_not, Int.not_lt, Int.not_le, gt_iff_lt, ge_iff_le] at hg); (try dsimp only); omega)
  refine WG.y rfl rfl (by decide) (pureV_ok tab_ok rfl (by first | exact fun _ => rfl | exact fun h => h | (intro h; simp_all))) ?_
  refine WG.y rfl rfl (by decide) (Yl.pand rfl rfl rfl (fun _ => rfl) (by intro h1 h2; simp_all <;> omega)) ?_
  refine WG.run tab_ok 1 rfl ?_
  refine WG.y rfl rfl (by decide) (pureV_ok tab_ok rfl (by first | exact fun _ => rfl | exact fun h => h | (intro h; simp_all))) ?_
  refine' WG.y rfl rfl (by decide) (Yl.loadG tab_ok rfl rfl rfl (by first | exact fun _ => rfl | exact fun h => h | (intro h; simp_all)) ?r4 rfl ?h4 ?g4) ?_
  case r4 => apply Rd.addC; (first | exact Rd.blkC 0 rfl)
  case h4 => rfl
  case g4 => first | exact fun _ => trivial | (intro hg; (try simp only [decide_eq_true_eq, decide_eq_false_iff_not, beq_iff_eq, bne_iff_ne, beq_eq_false_iff_ne, bne_eq_false_iff_eq, ne_eq, Bool.or_eq_true, Bool.or_eq_false_iff, Bool.and_eq_true, Bool.and_eq_false_imp, Bool.not_eq_true, Bool.not_eq_true', Bool.not_eq_false', Classical.not_not, Int.not_lt, Int.not_le, gt_iff_lt, ge_iff_le] at hg); (try dsimp only); omega)
  refine WG.y rfl rfl (by decide) (pureV_ok tab_ok rfl (by first | exact fun _ => rfl | exact fun h => h | (intro h; simp_all))) ?_
  refine WG.y rfl rfl (by decide) (Yl.pand rfl rfl rfl (fun _ => rfl) (by intro h1 h2; simp_all <;> omega)) ?_
  refine WG.run tab_ok 1 rfl ?_
  refine WG.y rfl rfl (by decide) (pureV_ok tab_ok rfl (by first | exact fun _ => rfl | exact fun h => h | (intro h; simp_all))) ?_
  refine' WG.y rfl rfl (by decide) (Yl.loadG tab_ok rfl rfl rfl (by first | exact fun _ => rfl | exact fun h => h | (intro h; simp_all)) ?r5 rfl ?h5 ?g5) ?_
  case r5 => apply Rd.addC; (first | exact Rd.blkC 0 rfl)
  case h5 => rfl
  case g5 => first | exact fun _ => trivial | (intro hg; (try simp only [decide_eq_true_eq, decide_eq_false_iff_not, beq_iff_eq, bne_iff_ne, beq_eq_false_iff_ne, bne_eq_false_iff_eq, ne_eq, Bool.or_eq_true, Bool.or_eq_false_iff, Bool.and_eq_true, Bool.and_eq_false_imp, Bool.not_eq_true, Bool.not_eq_true', Bool.not_eq_false', Classical.not_not, Int.not_lt, Int.not_le, gt_iff_lt, ge_iff_le] at hg); (try dsimp only); omega)
  refine WG.callV en74 rfl rfl (by decide) (CallOp.mk' rfl rfl rfl rfl) (by first | exact fun _ => rfl | exact fun h => h | (intro h; simp_all)) (fun hg => RAbs_V (by have hd : -1073741824 ≤ x.1 := (by by_cases h9 : x.1 ≥ -1073741824; exact h9; simp [h9] at hg); omega)) ?_
  refine WG.y rfl rfl (by decide) (pureV_ok tab_ok rfl (by first | exact fun _ => rfl | exact fun h => h | (intro h; simp_all))) ?_
  refine' WG.y rfl rfl (by decide) (Yl.loadG tab_ok rfl rfl rfl (by first | exact fun _ => rfl | exact fun h => h | (intro h; simp_all)) ?r6 rfl ?h6 ?g6) ?_
  case r6 => apply Rd.addC; (first | exact Rd.blkC 0 rfl)
  case h6 => rfl
  case g6 => first | exact fun _ => trivial | (intro hg; (try simp only [decide_eq_true_eq, decide_eq_false_iff_not, beq_iff_eq, bne_iff_ne, beq_eq_false_iff_ne, bne_eq_false_iff_eq, ne_eq, Bool.or_eq_true, Bool.or_eq_false_iff, Bool.and_eq_true, Bool.and_eq_false_imp, Bool.not_eq_true, Bool.not_eq_true', Bool.not_eq_false', Classical.not_not, Int.not_lt, Int.not_le, gt_iff_lt, ge_iff_le] at hg); (try dsimp only); omega)
  refine WG.callV (v := .int .i64 (Nat.gcd x.1.natAbs x.2.natAbs : Int)) en73 rfl rfl (by decide) (CallOp.mk' rfl rfl rfl rfl) (by first | exact fun _ => rfl | exact fun h => h | (intro h; simp_all)) (fun hg => by
    have h := Gcd_V (R := R) (a := x.1.natAbs) (b := x.2.natAbs)
    rw [show ((x.2.natAbs : Nat) : Int) = x.2 by (have hd : 1 ≤ x.2 := (by by_cases h9 : x.2 ≥ 1; exact h9; simp [h9] at hg); omega)] at h
    exact h) ?_
  refine WG.y rfl rfl (by decide) (pureV_ok tab_ok rfl (by first | exact fun _ => rfl | exact fun h => h | (intro h; simp_all))) ?_
  refine WG.y rfl rfl (by decide) (Yl.pand rfl rfl rfl (fun _ => rfl) (by intro h1 h2; simp_all <;> omega)) ?_
  refine WG.run tab_ok 1 rfl ?_
  refine WG.nil ?_
  refine WE.nxt ?_
  refine W.ret ?_
  refine WE.subE (E' := E) (by (repeat (first | exact List.Sublist.refl _ | exact List.nil_sublist _ | apply List.Sublist.cons_cons | apply List.Sublist.cons)); done) ?_
  refine WE.retF tab_ok [_] rfl ⟨rfl, trivial⟩ (RLe.refl _) ?_
  exact ⟨congrArg Value.bool (by
    unfold validF MT
    by_cases h1 : 1 ≤ x.2 <;> by_cases h2 : x.2 ≤ 1073741824 <;> by_cases h3 : -1073741824 ≤ x.1 <;> by_cases h4 : x.1 ≤ 1073741824 <;> by_cases h5 : Nat.gcd x.1.natAbs x.2.natAbs = 1 <;> simp [h1, h2, h3, h4, h5] <;> omega), rfl⟩

theorem newF_half (a b : Int) : newF (2 * a) (2 * b) = newF a b := by
  have h1 : (2 * a).natAbs = 2 * a.natAbs := by omega
  have h2 : (2 * b).natAbs = 2 * b.natAbs := by omega
  have h3 : ∀ x g : Nat, ((2 * x : Nat) : Int) / ((2 * g : Nat) : Int) = (x : Int) / (g : Int) := fun x g => by
    rw [← Int.natCast_ediv, ← Int.natCast_ediv, Nat.mul_div_mul_left _ _ (by decide)]
  have e1 : decide (2 * a < 0) = decide (a < 0) := decide_eq_decide.2 (by omega)
  have e2 : decide (2 * b < 0) = decide (b < 0) := decide_eq_decide.2 (by omega)
  have e3 : (2 * b = 0) = (b = 0) := propext (by omega)
  unfold newF
  rw [h1, h2, Nat.gcd_mul_left, h3, h3, e1, e2]
  simp only [e3]
theorem newF_neg (a b : Int) (hb : b ≠ 0) : newF (-a) (-b) = newF a b := by
  by_cases ha : a = 0
  · subst ha
    have e : newF (-0) (-b) = newF 0 (-b) := rfl
    rw [e]
    unfold newF
    have h2 : (-b).natAbs = b.natAbs := Int.natAbs_neg b
    have e3 : (-b = 0) = (b = 0) := propext (by omega)
    have hz : (((0 : Int).natAbs : Nat) : Int) / ((Nat.gcd (0 : Int).natAbs b.natAbs : Nat) : Int) = 0 := by simp
    rw [h2, hz]
    simp only [e3, ite_self, Int.neg_zero]
  · have h1 : (-a).natAbs = a.natAbs := Int.natAbs_neg a
    have h2 : (-b).natAbs = b.natAbs := Int.natAbs_neg b
    have e3 : (-b = 0) = (b = 0) := propext (by omega)
    have e4 : (decide (-a < 0) = decide (-b < 0)) = (decide (a < 0) = decide (b < 0)) := by
      have x1 : decide (-a < 0) = !decide (a < 0) := by by_cases h : a < 0 <;> simp [h] <;> omega
      have x2 : decide (-b < 0) = !decide (b < 0) := by by_cases h : b < 0 <;> simp [h] <;> omega
      rw [x1, x2]; cases decide (a < 0) <;> cases decide (b < 0) <;> simp
    unfold newF
    rw [h1, h2]
    simp only [e3, e4]
/-- a term that stays too great -/
theorem newF_odd {a b : Int} (hb : b ≠ 0) (h : (a = -9223372036854775808 ∧ b % 2 = 1) ∨ (b = -9223372036854775808 ∧ a % 2 = 1)) : newF a b = ((0, 0), 3) := by
  have key : ∀ y : Nat, y % 2 = 1 → Nat.gcd 9223372036854775808 y = 1 := fun y hy => by
    have h2 : Nat.Coprime 2 y := by
      rw [Nat.coprime_iff_gcd_eq_one, Nat.gcd_rec, hy]
      exact Nat.gcd_one_left _
    exact (Nat.Coprime.pow_left 63 h2 : Nat.Coprime (2 ^ 63) y)
  unfold newF MT
  rw [if_neg hb]
  rcases h with ⟨rfl, h⟩ | ⟨rfl, h⟩
  · have hg : Nat.gcd (-9223372036854775808 : Int).natAbs b.natAbs = 1 := key _ (by omega)
    rw [hg, if_pos (by left; decide)]
  · have hg : Nat.gcd a.natAbs (-9223372036854775808 : Int).natAbs = 1 := by rw [Nat.gcd_comm]; exact key _ (by omega)
    rw [hg, if_pos (by right; decide)]
/-- divided by the common divisor -/
theorem newF_pos {a b : Int} (hb : 0 < b) : (validF (a / (Nat.gcd a.natAbs b.natAbs : Int), b / (Nat.gcd a.natAbs b.natAbs : Int)) = true → newF a b = ((a / (Nat.gcd a.natAbs b.natAbs : Int), b / (Nat.gcd a.natAbs b.natAbs : Int)), 0)) ∧ (validF (a / (Nat.gcd a.natAbs b.natAbs : Int), b / (Nat.gcd a.natAbs b.natAbs : Int)) = false → newF a b = ((0, 0), 3)) := by
  have hg0 : 0 < Nat.gcd a.natAbs b.natAbs := Nat.gcd_pos_of_pos_right _ (by omega)
  have d1 : ((Nat.gcd a.natAbs b.natAbs : Nat) : Int) ∣ (a.natAbs : Int) := Int.natCast_dvd_natCast.2 (Nat.gcd_dvd_left _ _)
  have d2 : ((Nat.gcd a.natAbs b.natAbs : Nat) : Int) ∣ (b.natAbs : Int) := Int.natCast_dvd_natCast.2 (Nat.gcd_dvd_right _ _)
  have hcop : Nat.gcd (a.natAbs / Nat.gcd a.natAbs b.natAbs) (b.natAbs / Nat.gcd a.natAbs b.natAbs) = 1 := (Nat.coprime_div_gcd_div_gcd hg0)
  have e2 : b / ((Nat.gcd a.natAbs b.natAbs : Nat) : Int) = ((b.natAbs / Nat.gcd a.natAbs b.natAbs : Nat) : Int) := by rw [Int.natCast_ediv]; congr 1; omega
  have e1 : a / ((Nat.gcd a.natAbs b.natAbs : Nat) : Int) = if a < 0 then -((a.natAbs / Nat.gcd a.natAbs b.natAbs : Nat) : Int) else ((a.natAbs / Nat.gcd a.natAbs b.natAbs : Nat) : Int) := by
    split
    · rw [Int.natCast_ediv, ← Int.neg_ediv_of_dvd d1]; congr 1; omega
    · rw [Int.natCast_ediv]; congr 1; omega
  have eb : decide (b < 0) = false := decide_eq_false (by omega)
  have hbp : 1 ≤ b.natAbs / Nat.gcd a.natAbs b.natAbs := Nat.div_pos (Nat.le_of_dvd (by omega) (Nat.gcd_dvd_right _ _)) hg0
  have hnew : newF a b = if MT < ((a.natAbs / Nat.gcd a.natAbs b.natAbs : Nat) : Int) ∨ MT < ((b.natAbs / Nat.gcd a.natAbs b.natAbs : Nat) : Int) then ((0, 0), 3) else ((a / (Nat.gcd a.natAbs b.natAbs : Int), b / (Nat.gcd a.natAbs b.natAbs : Int)), 0) := by
    unfold newF
    rw [if_neg (by omega), eb, e1, e2]
    simp only [← Int.natCast_ediv]
    by_cases h : a < 0
    · rw [decide_eq_true h, if_pos h]; simp
    · rw [decide_eq_false h, if_neg h]; simp
  generalize hA : a.natAbs / Nat.gcd a.natAbs b.natAbs = A at *
  generalize hB : b.natAbs / Nat.gcd a.natAbs b.natAbs = B at *
  have hval : validF (a / (Nat.gcd a.natAbs b.natAbs : Int), b / (Nat.gcd a.natAbs b.natAbs : Int)) = decide (A ≤ 1073741824 ∧ B ≤ 1073741824) := by
    unfold validF MT
    apply decide_eq_decide.2
    rw [e1, e2]
    have en : (if a < 0 then -(A : Int) else (A : Int)).natAbs = A := by split <;> omega
    dsimp only
    rw [en, show ((B : Nat) : Int).natAbs = B from rfl, hcop]
    split <;> constructor <;> intro h <;> omega
  rw [hval, hnew]
  constructor
  · intro h
    have := of_decide_eq_true h
    rw [if_neg (by unfold MT; omega)]
  · intro h
    have := of_decide_eq_false h
    rw [if_pos (by unfold MT; omega)]

set_option maxHeartbeats 1000000 in
theorem RNew_V {R : Ro} {a b : Int} (ha : InR a) (hb : InR b) : FnV Tryd.prog 45 [.int .i64 a, .int .i64 b] R (frV (newF a b)) := by
  refine Fn.toVS (fun w0 E => ?_)
  refine Fn.enter (n := 60) Tryd.func45 rfl rfl (Nat.le_of_ble_eq_true rfl) rfl ?_
  refine W.seq ?_
  refine W.region _ ?_
  refine WL.ef rfl rfl (by decide) (Ef.alloc tab_ok rfl rfl (fun b4 => ?_))
  refine WG.run tab_ok 1 rfl ?_
  refine WG.nil ?_
  refine WE.nxt ?_
  refine W.seq ?_
  refine W.seq ?_
  refine W.region _ ?_
  refine WG.run tab_ok 2 rfl ?_
  refine WG.nil ?_
  refine WE.nxt ?_
  refine W.condE rfl (fun hc0 => ?_) (fun hc0 => ?_)
  · try dsimp only at hc0
    refine W.seq ?_
    refine W.region _ ?_
    -- build
    refine WG.y rfl rfl (by decide) (Yl.build (parts := []) tab_ok rfl rfl rfl rfl (fun _ => rfl) rfl rfl) ?_
    first | refine WL.efN rfl rfl (Ef.store0 0 tab_ok rfl rfl rfl rfl rfl rfl rfl rfl ?_) | refine WL.efN rfl rfl (Ef.store0 1 tab_ok rfl rfl rfl rfl rfl rfl rfl rfl ?_) | refine WL.efN rfl rfl (Ef.store0 2 tab_ok rfl rfl rfl rfl rfl rfl rfl rfl ?_)
    refine WG.run tab_ok 1 rfl ?_
    refine WG.nil ?_
    refine WE.nxt ?_
    refine W.ret ?_
    refine WE.then_ret ?_
    refine WE.retF tab_ok [_, _] rfl ⟨⟨_, _, _, rfl, rfl, rfl, ((by first | exact Rd.blk 0 rfl | exact Rd.blk 1 rfl | exact Rd.blk 2 rfl)), rfl⟩, rfl, trivial⟩ (RLe.refl _) ?_
    exact ⟨by unfold newF; rw [if_pos (by omega)]; rfl, (by (repeat (first | exact List.Sublist.refl _ | exact List.nil_sublist _ | apply List.Sublist.cons_cons | apply List.Sublist.cons)); done)⟩
  · try dsimp only at hc0
    refine W.skip ?_
    refine WE.nxt ?_
    refine W.seq ?_
    refine W.block ?_
    refine W.loopK (β := Int × Int) (fun (x, y) => InR x ∧ InR y ∧ y ≠ 0 ∧ newF a b = newF x y) (fun (x, y) => [(0, true, .int .i64 x), (1, true, .int .i64 y)]) [4] [_] [] _ rfl (fun (x, y) => []) (fun (x, y) => x.natAbs + y.natAbs) ((a, b)) (⟨ha, hb, by omega, rfl⟩) ⟨rfl, rfl, rfl, rfl⟩ (by (repeat (first | exact List.Sublist.refl _ | exact List.nil_sublist _ | apply List.Sublist.cons_cons | apply List.Sublist.cons)); done) ?_
    intro st hst
    obtain ⟨x, y⟩ := st
    dsimp only [zipE, setAll, List.cons_append, List.nil_append, List.set_cons_zero, List.set_cons_succ] at hst ⊢
    obtain ⟨hxr, hyr, hy0, hxy⟩ := hst
    refine W.seq ?_
    refine W.seq ?_
    refine W.region _ ?_
    refine WG.run tab_ok 3 rfl ?_
    refine WG.y rfl rfl (by decide) (pureV_ok tab_ok rfl (by first | exact fun _ => rfl | exact fun h => h | (intro h; simp_all))) ?_
    refine WG.y rfl rfl (by decide) (pureV_ok tab_ok rfl (by first | exact fun _ => rfl | exact fun h => h | (intro h; simp_all))) ?_
    refine WG.y rfl rfl (by decide) (Yl.por rfl rfl rfl (fun _ => rfl) (by intro h1 h2; simp_all <;> omega)) ?_
    refine WG.run tab_ok 1 rfl ?_
    refine WG.y rfl rfl (by decide) (pureV_ok tab_ok rfl (by first | exact fun _ => rfl | exact fun h => h | (intro h; simp_all))) ?_
    refine WG.y rfl rfl (by decide) (Yl.and1 rfl rfl rfl (by first | exact fun _ => rfl | exact fun h => h | (intro h; simp_all))) ?_
    refine WG.y rfl rfl (by decide) (pureV_ok tab_ok rfl (by first | exact fun _ => rfl | exact fun h => h | (intro h; simp_all))) ?_
    refine WG.y rfl rfl (by decide) (Yl.pand rfl rfl rfl (fun _ => rfl) (by intro h1 h2; simp_all <;> omega)) ?_
    refine WG.run tab_ok 1 rfl ?_
    refine WG.y rfl rfl (by decide) (pureV_ok tab_ok rfl (by first | exact fun _ => rfl | exact fun h => h | (intro h; simp_all))) ?_
    refine WG.y rfl rfl (by decide) (Yl.and1 rfl rfl rfl (by first | exact fun _ => rfl | exact fun h => h | (intro h; simp_all))) ?_
    refine WG.y rfl rfl (by decide) (pureV_ok tab_ok rfl (by first | exact fun _ => rfl | exact fun h => h | (intro h; simp_all))) ?_
    refine WG.y rfl rfl (by decide) (Yl.pand rfl rfl rfl (fun _ => rfl) (by intro h1 h2; simp_all <;> omega)) ?_
    refine WG.nil ?_
    refine WE.nxt ?_
    refine W.cond rfl (fun hc1 => ?_) (fun hc1 => ?_)
    · try simp only [decide_eq_true_eq, decide_eq_false_iff_not, beq_iff_eq, bne_iff_ne, beq_eq_false_iff_ne, bne_eq_false_iff_eq, ne_eq, Bool.or_eq_true, Bool.or_eq_false_iff, Bool.and_eq_true, Bool.and_eq_false_imp, Bool.not_eq_true, Bool.not_eq_true', Bool.not_eq_false', Classical.not_not, Int.not_lt, Int.not_le, gt_iff_lt, ge_iff_le] at hc1
      have hev : x % 2 = 0 ∧ y % 2 = 0 := by omega
      have hx2 : x.tdiv 2 = x / 2 := by exact Int.tdiv_eq_ediv_of_dvd (by omega)
      have hy2 : y.tdiv 2 = y / 2 := by exact Int.tdiv_eq_ediv_of_dvd (by omega)
      refine W.skip ?_
      refine WE.nxt ?_
      refine W.block ?_
      refine W.region _ ?_
      refine WG.run tab_ok 1 rfl ?_
      refine WG.y rfl rfl (by decide) (Yl.tdiv rfl rfl rfl (fun _ => rfl) (by intro _; omega) (by intro _; constructor <;> (rw [hx2]; omega))) ?_
      refine WG.run tab_ok 1 rfl ?_
      refine WG.y rfl rfl (by decide) (Yl.tdiv rfl rfl rfl (fun _ => rfl) (by intro _; omega) (by intro _; constructor <;> (rw [hy2]; omega))) ?_
      refine WG.run tab_ok 2 rfl ?_
      refine WG.nil ?_
      refine WE.blk _ ?_
      refine WE.again ((x.tdiv 2, y.tdiv 2)) (⟨by dsimp only; omega, by dsimp only; omega, by dsimp only; omega, by dsimp only; rw [hxy, hx2, hy2]; have h1 := newF_half (x / 2) (y / 2); rw [show 2 * (x / 2) = x by omega, show 2 * (y / 2) = y by omega] at h1; exact h1⟩) (by dsimp only; omega) ⟨rfl, rfl, rfl, rfl⟩ (RLe.refl _) (by (repeat (first | exact List.Sublist.refl _ | exact List.nil_sublist _ | apply List.Sublist.cons_cons | apply List.Sublist.cons)); done)
    · try simp only [decide_eq_true_eq, decide_eq_false_iff_not, beq_iff_eq, bne_iff_ne, beq_eq_false_iff_ne, bne_eq_false_iff_eq, ne_eq, Bool.or_eq_true, Bool.or_eq_false_iff, Bool.and_eq_true, Bool.and_eq_false_imp, Bool.not_eq_true, Bool.not_eq_true', Bool.not_eq_false', Classical.not_not, Int.not_lt, Int.not_le, gt_iff_lt, ge_iff_le] at hc1
      refine W.exit ?_
      refine WE.then_exit ?_
      refine WE.then_exit ?_
      refine WE.blk_exit ?_
      refine WE.nxt ?_
      refine W.seq ?_
      refine W.seq ?_
      refine W.region _ ?_
      refine WG.run tab_ok 3 rfl ?_
      refine WG.y rfl rfl (by decide) (pureV_ok tab_ok rfl (by first | exact fun _ => rfl | exact fun h => h | (intro h; simp_all))) ?_
      refine WG.y rfl rfl (by decide) (pureV_ok tab_ok rfl (by first | exact fun _ => rfl | exact fun h => h | (intro h; simp_all))) ?_
      refine WG.y rfl rfl (by decide) (Yl.por rfl rfl rfl (fun _ => rfl) (by intro h1 h2; simp_all <;> omega)) ?_
      refine WG.nil ?_
      refine WE.nxt ?_
      refine W.cond rfl (fun hc2 => ?_) (fun hc2 => ?_)
      · try simp only [decide_eq_true_eq, decide_eq_false_iff_not, beq_iff_eq, bne_iff_ne, beq_eq_false_iff_ne, bne_eq_false_iff_eq, ne_eq, Bool.or_eq_true, Bool.or_eq_false_iff, Bool.and_eq_true, Bool.and_eq_false_imp, Bool.not_eq_true, Bool.not_eq_true', Bool.not_eq_false', Classical.not_not, Int.not_lt, Int.not_le, gt_iff_lt, ge_iff_le] at hc2
        have hodd : newF x y = ((0, 0), 3) := newF_odd hy0 (by omega)
        refine W.seq ?_
        refine W.region _ ?_
        -- build
        refine WG.y rfl rfl (by decide) (Yl.build (parts := []) tab_ok rfl rfl rfl rfl (fun _ => rfl) rfl rfl) ?_
        first | refine WL.efN rfl rfl (Ef.store0 0 tab_ok rfl rfl rfl rfl rfl rfl rfl rfl ?_) | refine WL.efN rfl rfl (Ef.store0 1 tab_ok rfl rfl rfl rfl rfl rfl rfl rfl ?_) | refine WL.efN rfl rfl (Ef.store0 2 tab_ok rfl rfl rfl rfl rfl rfl rfl rfl ?_)
        refine WG.run tab_ok 1 rfl ?_
        refine WG.nil ?_
        refine WE.nxt ?_
        refine W.ret ?_
        refine WE.then_ret ?_
        refine WE.retF tab_ok [_, _] rfl ⟨⟨_, _, _, rfl, rfl, rfl, ((by first | exact Rd.blk 0 rfl | exact Rd.blk 1 rfl | exact Rd.blk 2 rfl)), rfl⟩, rfl, trivial⟩ (RLe.refl _) ?_
        exact ⟨by rw [hxy, hodd]; rfl, (by (repeat (first | exact List.Sublist.refl _ | exact List.nil_sublist _ | apply List.Sublist.cons_cons | apply List.Sublist.cons)); done)⟩
      · try simp only [decide_eq_true_eq, decide_eq_false_iff_not, beq_iff_eq, bne_iff_ne, beq_eq_false_iff_ne, bne_eq_false_iff_eq, ne_eq, Bool.or_eq_true, Bool.or_eq_false_iff, Bool.and_eq_true, Bool.and_eq_false_imp, Bool.not_eq_true, Bool.not_eq_true', Bool.not_eq_false', Classical.not_not, Int.not_lt, Int.not_le, gt_iff_lt, ge_iff_le] at hc2
        refine W.skip ?_
        refine WE.nxt ?_
        refine W.seqCut (β := Int × Int) (fun (p, q) => (-9223372036854775807 ≤ p ∧ p ≤ 9223372036854775807) ∧ (0 < q ∧ q ≤ 9223372036854775807) ∧ newF x y = newF p q) (fun (p, q) => [(0, true, .int .i64 p), (1, true, .int .i64 q), (4, true, .pointer (some ⟨b4, 0, none⟩))]) (fun _ => R) (fun _ => .blk b4 [.int .i64 0, .int .i64 0] :: E) ?_ ?_
        ·
          intro zz hst
          obtain ⟨p, q⟩ := zz
          obtain ⟨hpr, hq2, hpq⟩ := hst
          dsimp only at hpr hq2 hpq ⊢
          have hq0 := hq2.1
          have hg0 : 0 < Nat.gcd p.natAbs q.natAbs := Nat.gcd_pos_of_pos_right _ (by omega)
          have hpg : p.tdiv ((Nat.gcd p.natAbs q.natAbs : Nat) : Int) = p / ((Nat.gcd p.natAbs q.natAbs : Nat) : Int) := Int.tdiv_eq_ediv_of_dvd (by have := Int.natCast_dvd_natCast.2 (Nat.gcd_dvd_left p.natAbs q.natAbs); rwa [Int.dvd_natAbs] at this)
          have hqg : q.tdiv ((Nat.gcd p.natAbs q.natAbs : Nat) : Int) = q / ((Nat.gcd p.natAbs q.natAbs : Nat) : Int) := Int.tdiv_eq_ediv_of_dvd (by have := Int.natCast_dvd_natCast.2 (Nat.gcd_dvd_right p.natAbs q.natAbs); rwa [Int.dvd_natAbs] at this)
          have hpi := tdiv_in (a := p) (b := ((Nat.gcd p.natAbs q.natAbs : Nat) : Int)) (by omega)
          have hqi := tdiv_in (a := q) (b := ((Nat.gcd p.natAbs q.natAbs : Nat) : Int)) (by omega)
          refine W.seq ?_
          refine W.region _ ?_
          refine WG.run tab_ok 1 rfl ?_
          refine WG.callV en74 rfl rfl (by decide) (CallOp.mk' rfl rfl rfl rfl) (fun _ => rfl) (fun hg => RAbs_V hpr) ?_
          refine WG.run tab_ok 1 rfl ?_
          refine WG.callV (v := .int .i64 ((Nat.gcd p.natAbs q.natAbs : Nat) : Int)) en73 rfl rfl (by decide) (CallOp.mk' rfl rfl rfl rfl) (fun _ => rfl) (fun hg => by
            have h := Gcd_V (R := R) (a := p.natAbs) (b := q.natAbs)
            rw [show ((q.natAbs : Nat) : Int) = q by omega] at h
            exact h) ?_
          refine WG.run tab_ok 1 rfl ?_
          refine WG.nil ?_
          refine WE.nxt ?_
          refine W.seq ?_
          refine W.regionH _ (ES := []) mixed ?_
          refine WA.take 0 rfl (by kernel_rfl) (by kernel_rfl) (by kernel_rfl) rfl rfl (by decide) (pureV_ok tab_ok rfl (fun _ => rfl)) (by (repeat (first | exact List.Sublist.refl _ | exact List.nil_sublist _ | apply List.Sublist.cons_cons | apply List.Sublist.cons)); done) (by first | exact RLe.refl _ | assumption) ?_
          refine WA.take 1 rfl (by kernel_rfl) (by kernel_rfl) (by kernel_rfl) rfl rfl (by decide) (pureV_ok tab_ok rfl (fun _ => rfl)) (by (repeat (first | exact List.Sublist.refl _ | exact List.nil_sublist _ | apply List.Sublist.cons_cons | apply List.Sublist.cons)); done) (by first | exact RLe.refl _ | assumption) ?_
          refine WA.take 2 rfl (by kernel_rfl) (by kernel_rfl) (by kernel_rfl) rfl rfl (by decide) (Yl.tdiv rfl rfl rfl (fun _ => rfl) (by intro _; omega) (by intro _; constructor <;> (try dsimp only) <;> omega)) (by (repeat (first | exact List.Sublist.refl _ | exact List.nil_sublist _ | apply List.Sublist.cons_cons | apply List.Sublist.cons)); done) (by first | exact RLe.refl _ | assumption) ?_
          refine WA.take 3 rfl (by kernel_rfl) (by kernel_rfl) (by kernel_rfl) rfl rfl (by decide) (pureV_ok tab_ok rfl (fun _ => rfl)) (by (repeat (first | exact List.Sublist.refl _ | exact List.nil_sublist _ | apply List.Sublist.cons_cons | apply List.Sublist.cons)); done) (by first | exact RLe.refl _ | assumption) ?_
          refine WA.take 4 rfl (by kernel_rfl) (by kernel_rfl) (by kernel_rfl) rfl rfl (by decide) (pureV_ok tab_ok rfl (fun _ => rfl)) (by (repeat (first | exact List.Sublist.refl _ | exact List.nil_sublist _ | apply List.Sublist.cons_cons | apply List.Sublist.cons)); done) (by first | exact RLe.refl _ | assumption) ?_
          refine WA.take 5 rfl (by kernel_rfl) (by kernel_rfl) (by kernel_rfl) rfl rfl (by decide) (Yl.tdiv rfl rfl rfl (fun _ => rfl) (by intro _; omega) (by intro _; constructor <;> (try dsimp only) <;> omega)) (by (repeat (first | exact List.Sublist.refl _ | exact List.nil_sublist _ | apply List.Sublist.cons_cons | apply List.Sublist.cons)); done) (by first | exact RLe.refl _ | assumption) ?_
          -- build
          refine WA.take 6 rfl (by kernel_rfl) (by kernel_rfl) (by kernel_rfl) rfl rfl (by decide) (Yl.build (parts := [(0, .tmp 50), (1, .tmp 53)]) tab_ok rfl rfl rfl rfl (fun _ => rfl) rfl rfl) (by (repeat (first | exact List.Sublist.refl _ | exact List.nil_sublist _ | apply List.Sublist.cons_cons | apply List.Sublist.cons)); done) (by first | exact RLe.refl _ | assumption) ?_
          refine WA.eff 7 rfl (by kernel_rfl) rfl rfl (by decide) (Ef.alloc tab_ok rfl rfl (fun b7 => ?_))
          refine ⟨by first | exact RLe.refl _ | assumption, (by (repeat (first | exact List.Sublist.refl _ | exact List.nil_sublist _ | apply List.Sublist.cons_cons | apply List.Sublist.cons)); done), ?_⟩
          first | refine WA.effN 8 rfl (by kernel_rfl) rfl rfl (Ef.store0 0 tab_ok rfl rfl rfl rfl rfl rfl rfl rfl ?_) | refine WA.effN 8 rfl (by kernel_rfl) rfl rfl (Ef.store0 1 tab_ok rfl rfl rfl rfl rfl rfl rfl rfl ?_) | refine WA.effN 8 rfl (by kernel_rfl) rfl rfl (Ef.store0 2 tab_ok rfl rfl rfl rfl rfl rfl rfl rfl ?_)
          refine ⟨by first | exact RLe.refl _ | assumption, (by (repeat (first | exact List.Sublist.refl _ | exact List.nil_sublist _ | apply List.Sublist.cons_cons | apply List.Sublist.cons)); done), ?_⟩
          refine WA.done (by kernel_rfl) ?_
          refine WE.nxt ?_
          refine W.seq ?_
          refine W.seq ?_
          refine W.region _ ?_
          refine' WG.y rfl rfl (by decide) (Yl.load1 tab_ok rfl rfl rfl (fun _ => rfl) ?r1 rfl ?h1) ?_
          case r1 => (first | exact Rd.blk 0 rfl | exact Rd.blk 1 rfl | exact Rd.blk 2 rfl)
          case h1 => rfl
          refine WG.callV en48 rfl rfl (by decide) (CallOp.mk' rfl rfl rfl rfl) (fun _ => rfl) (fun hg => RValid_V (x := (p.tdiv ((Nat.gcd p.natAbs q.natAbs : Nat) : Int), q.tdiv ((Nat.gcd p.natAbs q.natAbs : Nat) : Int))) ⟨by constructor <;> ((try dsimp only); omega), by constructor <;> ((try dsimp only); omega)⟩) ?_
          refine WG.run tab_ok 1 rfl ?_
          refine WG.nil ?_
          refine WE.nxt ?_
          refine W.cond rfl (fun hc3 => ?_) (fun hc3 => ?_)
          · try simp only [decide_eq_true_eq, decide_eq_false_iff_not, beq_iff_eq, bne_iff_ne, beq_eq_false_iff_ne, bne_eq_false_iff_eq, ne_eq, Bool.or_eq_true, Bool.or_eq_false_iff, Bool.and_eq_true, Bool.and_eq_false_imp, Bool.not_eq_true, Bool.not_eq_true', Bool.not_eq_false', Classical.not_not, Int.not_lt, Int.not_le, gt_iff_lt, ge_iff_le] at hc3
            refine W.seq ?_
            refine W.region _ ?_
            -- build
            refine WG.y rfl rfl (by decide) (Yl.build (parts := []) tab_ok rfl rfl rfl rfl (fun _ => rfl) rfl rfl) ?_
            first | refine WL.efN rfl rfl (Ef.store0 0 tab_ok rfl rfl rfl rfl rfl rfl rfl rfl ?_) | refine WL.efN rfl rfl (Ef.store0 1 tab_ok rfl rfl rfl rfl rfl rfl rfl rfl ?_) | refine WL.efN rfl rfl (Ef.store0 2 tab_ok rfl rfl rfl rfl rfl rfl rfl rfl ?_)
            refine WG.run tab_ok 1 rfl ?_
            refine WG.nil ?_
            refine WE.nxt ?_
            refine W.ret ?_
            refine WE.then_ret ?_
            refine WE.retF tab_ok [_, _] rfl ⟨⟨_, _, _, rfl, rfl, rfl, ((by first | exact Rd.blk 0 rfl | exact Rd.blk 1 rfl | exact Rd.blk 2 rfl)), rfl⟩, rfl, trivial⟩ (RLe.refl _) ?_
            exact ⟨by rw [hxy, hpq, (newF_pos hq0).2 (by rw [← hpg, ← hqg]; simpa using hc3)]; rfl, (by (repeat (first | exact List.Sublist.refl _ | exact List.nil_sublist _ | apply List.Sublist.cons_cons | apply List.Sublist.cons)); done)⟩
          · try simp only [decide_eq_true_eq, decide_eq_false_iff_not, beq_iff_eq, bne_iff_ne, beq_eq_false_iff_ne, bne_eq_false_iff_eq, ne_eq, Bool.or_eq_true, Bool.or_eq_false_iff, Bool.and_eq_true, Bool.and_eq_false_imp, Bool.not_eq_true, Bool.not_eq_true', Bool.not_eq_false', Classical.not_not, Int.not_lt, Int.not_le, gt_iff_lt, ge_iff_le] at hc3
            refine W.skip ?_
            refine WE.nxt ?_
            refine W.seq ?_
            refine W.region _ ?_
            refine' WG.y rfl rfl (by decide) (Yl.load1 tab_ok rfl rfl rfl (fun _ => rfl) ?r2 rfl ?h2) ?_
            case r2 => (first | exact Rd.blk 0 rfl | exact Rd.blk 1 rfl | exact Rd.blk 2 rfl)
            case h2 => rfl
            first | refine WL.efN rfl rfl (Ef.store0 0 tab_ok rfl rfl rfl rfl rfl rfl rfl rfl ?_) | refine WL.efN rfl rfl (Ef.store0 1 tab_ok rfl rfl rfl rfl rfl rfl rfl rfl ?_) | refine WL.efN rfl rfl (Ef.store0 2 tab_ok rfl rfl rfl rfl rfl rfl rfl rfl ?_)
            refine WG.run tab_ok 1 rfl ?_
            refine WG.nil ?_
            refine WE.nxt ?_
            refine W.ret ?_
            refine WE.retF tab_ok [_, _] rfl ⟨⟨_, _, _, rfl, rfl, rfl, ((by first | exact Rd.blk 0 rfl | exact Rd.blk 1 rfl | exact Rd.blk 2 rfl)), rfl⟩, rfl, trivial⟩ (RLe.refl _) ?_
            exact ⟨by rw [hxy, hpq, (newF_pos hq0).1 (by rw [← hpg, ← hqg]; simpa using hc3), ← hpg, ← hqg]; rfl, (by (repeat (first | exact List.Sublist.refl _ | exact List.nil_sublist _ | apply List.Sublist.cons_cons | apply List.Sublist.cons)); done)⟩
        ·
          refine W.seq ?_
          refine W.region _ ?_
          refine WG.run tab_ok 2 rfl ?_
          refine WG.nil ?_
          refine WE.nxt ?_
          refine W.condD rfl (fun hc4 => ?_) (fun hc4 => ?_)
          · try dsimp only at hc4
            refine W.region _ ?_
            refine WG.run tab_ok 1 rfl ?_
            refine WG.y rfl rfl (by decide) (Yl.neg rfl rfl (fun _ => rfl) (by intro _; constructor <;> (try dsimp only) <;> omega)) ?_
            refine WG.run tab_ok 1 rfl ?_
            refine WG.y rfl rfl (by decide) (Yl.neg rfl rfl (fun _ => rfl) (by intro _; constructor <;> (try dsimp only) <;> omega)) ?_
            refine WG.run tab_ok 2 rfl ?_
            refine WG.nil ?_
            refine WE.cut (-x, -y) ⟨by (try dsimp only); omega, by (try dsimp only); omega, (newF_neg x y hy0).symm⟩ ⟨rfl, rfl, rfl, rfl⟩ (RLe.refl _) (by (repeat (first | exact List.Sublist.refl _ | exact List.nil_sublist _ | apply List.Sublist.cons_cons | apply List.Sublist.cons)); done)
          · try dsimp only at hc4
            refine W.skip ?_
            refine WE.cut (x, y) ⟨by (try dsimp only); omega, by (try dsimp only); omega, rfl⟩ ⟨rfl, rfl, rfl, rfl⟩ (RLe.refl _) (by (repeat (first | exact List.Sublist.refl _ | exact List.nil_sublist _ | apply List.Sublist.cons_cons | apply List.Sublist.cons)); done)

theorem RAdd_V {R : Ro} {x y : Fr} (hx : InR x.1 ∧ InR x.2) (hy : InR y.1 ∧ InR y.2) : FnV Tryd.prog 51 [.agg #[.int .i64 x.1, .int .i64 x.2], .agg #[.int .i64 y.1, .int .i64 y.2]] R (frV (addF x y)) := by
  refine Fn.toVS (fun w0 E => ?_)
  refine Fn.enter (n := 34) Tryd.func51 rfl rfl (Nat.le_of_ble_eq_true rfl) rfl ?_
  refine W.seq ?_
  refine W.region _ ?_
  refine WL.ef rfl rfl (by decide) (Ef.box rfl rfl (fun b2 => ?_))
  refine WL.ef rfl rfl (by decide) (Ef.box rfl rfl (fun b3 => ?_))
  refine WL.ef rfl rfl (by decide) (Ef.alloc tab_ok rfl rfl (fun b4 => ?_))
  refine WG.run tab_ok 1 rfl ?_
  refine WG.nil ?_
  refine WE.nxt ?_
  refine W.seq ?_
  refine W.seq ?_
  refine W.region _ ?_
  refine' WG.y rfl rfl (by decide) (Yl.load1 tab_ok rfl rfl rfl (fun _ => rfl) ?r1 rfl ?h1) ?_
  case r1 => (first | exact Rd.blk 0 rfl | exact Rd.blk 1 rfl | exact Rd.blk 2 rfl)
  case h1 => rfl
  refine WG.callV en48 rfl rfl (by decide) (CallOp.mk' rfl rfl rfl rfl) (fun _ => rfl) (fun hg => RValid_V hx) ?_
  refine WG.run tab_ok 2 rfl ?_
  refine' WG.y rfl rfl (by decide) (Yl.loadG tab_ok rfl rfl rfl (by first | exact fun _ => rfl | exact fun h => h | (intro h; simp_all)) ?r2 rfl ?h2 ?g2) ?_
  case r2 => (first | exact Rd.blkC 0 rfl | exact Rd.blkC 1 rfl | exact Rd.blkC 2 rfl)
  case h2 => rfl
  case g2 => first | exact fun _ => trivial | (intro hg; (try simp only [decide_eq_true_eq, decide_eq_false_iff_not, beq_iff_eq, bne_iff_ne, beq_eq_false_iff_ne, bne_eq_false_iff_eq, ne_eq, Bool.or_eq_true, Bool.or_eq_false_iff, Bool.and_eq_true, Bool.and_eq_false_imp, Bool.not_eq_true, Bool.not_eq_true', Bool.not_eq_false', Classical.not_not, Int.not_lt, Int.not_le, gt_iff_lt, ge_iff_le] at hg); (try dsimp only); omega)
  refine WG.callV en48 rfl rfl (by decide) (CallOp.mk' rfl rfl rfl rfl) (by first | exact fun _ => rfl | exact fun h => h | (intro h; simp_all)) (fun hg => RValid_V hy) ?_
  refine WG.y rfl rfl (by decide) (pureV_ok tab_ok rfl (by first | exact fun _ => rfl | exact fun h => h | (intro h; simp_all))) ?_
  refine WG.y rfl rfl (by decide) (Yl.por rfl rfl rfl (fun _ => rfl) (by intro h1 h2; simp_all <;> omega)) ?_
  refine WG.nil ?_
  refine WE.nxt ?_
  refine W.cond rfl (fun hc0 => ?_) (fun hc0 => ?_)
  · try simp only [decide_eq_true_eq, decide_eq_false_iff_not, beq_iff_eq, bne_iff_ne, beq_eq_false_iff_ne, bne_eq_false_iff_eq, ne_eq, Bool.or_eq_true, Bool.or_eq_false_iff, Bool.and_eq_true, Bool.and_eq_false_imp, Bool.not_eq_true, Bool.not_eq_true', Bool.not_eq_false', Classical.not_not, Int.not_lt, Int.not_le, gt_iff_lt, ge_iff_le] at hc0
    have hno : ¬ (validF x = true ∧ validF y = true) := by revert hc0; cases validF x <;> cases validF y <;> simp
    refine W.seq ?_
    refine W.region _ ?_
    -- build
    refine WG.y rfl rfl (by decide) (Yl.build (parts := []) tab_ok rfl rfl rfl rfl (fun _ => rfl) rfl rfl) ?_
    first | refine WL.efN rfl rfl (Ef.store0 0 tab_ok rfl rfl rfl rfl rfl rfl rfl rfl ?_) | refine WL.efN rfl rfl (Ef.store0 1 tab_ok rfl rfl rfl rfl rfl rfl rfl rfl ?_) | refine WL.efN rfl rfl (Ef.store0 2 tab_ok rfl rfl rfl rfl rfl rfl rfl rfl ?_)
    refine WG.run tab_ok 1 rfl ?_
    refine WG.nil ?_
    refine WE.nxt ?_
    refine W.ret ?_
    refine WE.then_ret ?_
    refine WE.retF tab_ok [_, _] rfl ⟨⟨_, _, _, rfl, rfl, rfl, (Rd.blk 0 rfl), rfl⟩, rfl, trivial⟩ (RLe.refl _) ?_
    exact ⟨by unfold addF; rw [if_neg hno]; rfl, (by (repeat (first | exact List.Sublist.refl _ | exact List.nil_sublist _ | apply List.Sublist.cons_cons | apply List.Sublist.cons)); done)⟩
  · try simp only [decide_eq_true_eq, decide_eq_false_iff_not, beq_iff_eq, bne_iff_ne, beq_eq_false_iff_ne, bne_eq_false_iff_eq, ne_eq, Bool.or_eq_true, Bool.or_eq_false_iff, Bool.and_eq_true, Bool.and_eq_false_imp, Bool.not_eq_true, Bool.not_eq_true', Bool.not_eq_false', Classical.not_not, Int.not_lt, Int.not_le, gt_iff_lt, ge_iff_le] at hc0
    have hvx : validF x = true := by revert hc0; cases validF x <;> simp
    have hvy : validF y = true := by revert hc0; cases validF x <;> cases validF y <;> simp
    have hv := validF_iff.1 hvx
    have hw := validF_iff.1 hvy
    have p12 := mul_in (a := x.1) (b := y.2) (A := 1073741824) (B := 1073741824) (by omega) (by omega)
    have p21 := mul_in (a := y.1) (b := x.2) (A := 1073741824) (B := 1073741824) (by omega) (by omega)
    have p22 := mul_in (a := x.2) (b := y.2) (A := 1073741824) (B := 1073741824) (by omega) (by omega)
    have p21b := mul_in (a := x.2) (b := y.1) (A := 1073741824) (B := 1073741824) (by omega) (by omega)
    have p11 := mul_in (a := x.1) (b := y.1) (A := 1073741824) (B := 1073741824) (by omega) (by omega)
    refine W.skip ?_
    refine WE.nxt ?_
    refine W.seq ?_
    refine W.region _ ?_
    refine WG.run tab_ok 1 rfl ?_
    refine' WG.y rfl rfl (by decide) (Yl.load1 tab_ok rfl rfl rfl (fun _ => rfl) ?r3 rfl ?h3) ?_
    case r3 => apply Rd.add; (first | exact Rd.blk 0 rfl | exact Rd.blk 1 rfl | exact Rd.blk 2 rfl)
    case h3 => rfl
    refine WG.run tab_ok 1 rfl ?_
    refine' WG.y rfl rfl (by decide) (Yl.load1 tab_ok rfl rfl rfl (fun _ => rfl) ?r4 rfl ?h4) ?_
    case r4 => apply Rd.add; (first | exact Rd.blk 0 rfl | exact Rd.blk 1 rfl | exact Rd.blk 2 rfl)
    case h4 => rfl
    refine WG.y rfl rfl (by decide) (Yl.mul rfl rfl rfl (fun _ => rfl) (by intro _; constructor <;> (try dsimp only) <;> omega)) ?_
    refine WG.run tab_ok 1 rfl ?_
    refine' WG.y rfl rfl (by decide) (Yl.load1 tab_ok rfl rfl rfl (fun _ => rfl) ?r5 rfl ?h5) ?_
    case r5 => apply Rd.add; (first | exact Rd.blk 0 rfl | exact Rd.blk 1 rfl | exact Rd.blk 2 rfl)
    case h5 => rfl
    refine WG.run tab_ok 1 rfl ?_
    refine' WG.y rfl rfl (by decide) (Yl.load1 tab_ok rfl rfl rfl (fun _ => rfl) ?r6 rfl ?h6) ?_
    case r6 => apply Rd.add; (first | exact Rd.blk 0 rfl | exact Rd.blk 1 rfl | exact Rd.blk 2 rfl)
    case h6 => rfl
    refine WG.y rfl rfl (by decide) (Yl.mul rfl rfl rfl (fun _ => rfl) (by intro _; constructor <;> (try dsimp only) <;> omega)) ?_
    refine WG.y rfl rfl (by decide) (Yl.add rfl rfl rfl (fun _ => rfl) (by intro _; constructor <;> (try dsimp only) <;> omega)) ?_
    refine WG.run tab_ok 1 rfl ?_
    refine' WG.y rfl rfl (by decide) (Yl.load1 tab_ok rfl rfl rfl (fun _ => rfl) ?r7 rfl ?h7) ?_
    case r7 => apply Rd.add; (first | exact Rd.blk 0 rfl | exact Rd.blk 1 rfl | exact Rd.blk 2 rfl)
    case h7 => rfl
    refine WG.run tab_ok 1 rfl ?_
    refine' WG.y rfl rfl (by decide) (Yl.load1 tab_ok rfl rfl rfl (fun _ => rfl) ?r8 rfl ?h8) ?_
    case r8 => apply Rd.add; (first | exact Rd.blk 0 rfl | exact Rd.blk 1 rfl | exact Rd.blk 2 rfl)
    case h8 => rfl
    refine WG.y rfl rfl (by decide) (Yl.mul rfl rfl rfl (fun _ => rfl) (by intro _; constructor <;> (try dsimp only) <;> omega)) ?_
    refine WG.callV en45 rfl rfl (by decide) (CallOp.mk' rfl rfl rfl rfl) (fun _ => rfl) (fun hg => RNew_V (a := x.1 * y.2 + y.1 * x.2) (b := x.2 * y.2) (by omega) (by omega)) ?_
    refine WG.run tab_ok 2 rfl ?_
    first | refine WL.efN rfl rfl (Ef.store0 0 tab_ok rfl rfl rfl rfl rfl rfl rfl rfl ?_) | refine WL.efN rfl rfl (Ef.store0 1 tab_ok rfl rfl rfl rfl rfl rfl rfl rfl ?_) | refine WL.efN rfl rfl (Ef.store0 2 tab_ok rfl rfl rfl rfl rfl rfl rfl rfl ?_)
    refine WG.run tab_ok 1 rfl ?_
    refine WG.nil ?_
    refine WE.nxt ?_
    refine W.ret ?_
    refine WE.retF tab_ok [_, _] rfl ⟨⟨_, _, _, rfl, rfl, rfl, (Rd.blk 0 rfl), rfl⟩, rfl, trivial⟩ (RLe.refl _) ?_
    exact ⟨by unfold addF; rw [if_pos ⟨hvx, hvy⟩]; rfl, (by (repeat (first | exact List.Sublist.refl _ | exact List.nil_sublist _ | apply List.Sublist.cons_cons | apply List.Sublist.cons)); done)⟩

theorem RMul_V {R : Ro} {x y : Fr} (hx : InR x.1 ∧ InR x.2) (hy : InR y.1 ∧ InR y.2) : FnV Tryd.prog 54 [.agg #[.int .i64 x.1, .int .i64 x.2], .agg #[.int .i64 y.1, .int .i64 y.2]] R (frV (mulF x y)) := by
  refine Fn.toVS (fun w0 E => ?_)
  refine Fn.enter (n := 28) Tryd.func54 rfl rfl (Nat.le_of_ble_eq_true rfl) rfl ?_
  refine W.seq ?_
  refine W.region _ ?_
  refine WL.ef rfl rfl (by decide) (Ef.box rfl rfl (fun b2 => ?_))
  refine WL.ef rfl rfl (by decide) (Ef.box rfl rfl (fun b3 => ?_))
  refine WL.ef rfl rfl (by decide) (Ef.alloc tab_ok rfl rfl (fun b4 => ?_))
  refine WG.run tab_ok 1 rfl ?_
  refine WG.nil ?_
  refine WE.nxt ?_
  refine W.seq ?_
  refine W.seq ?_
  refine W.region _ ?_
  refine' WG.y rfl rfl (by decide) (Yl.load1 tab_ok rfl rfl rfl (fun _ => rfl) ?r1 rfl ?h1) ?_
  case r1 => (first | exact Rd.blk 0 rfl | exact Rd.blk 1 rfl | exact Rd.blk 2 rfl)
  case h1 => rfl
  refine WG.callV en48 rfl rfl (by decide) (CallOp.mk' rfl rfl rfl rfl) (fun _ => rfl) (fun hg => RValid_V hx) ?_
  refine WG.run tab_ok 2 rfl ?_
  refine' WG.y rfl rfl (by decide) (Yl.loadG tab_ok rfl rfl rfl (by first | exact fun _ => rfl | exact fun h => h | (intro h; simp_all)) ?r2 rfl ?h2 ?g2) ?_
  case r2 => (first | exact Rd.blkC 0 rfl | exact Rd.blkC 1 rfl | exact Rd.blkC 2 rfl)
  case h2 => rfl
  case g2 => first | exact fun _ => trivial | (intro hg; (try simp only [decide_eq_true_eq, decide_eq_false_iff_not, beq_iff_eq, bne_iff_ne, beq_eq_false_iff_ne, bne_eq_false_iff_eq, ne_eq, Bool.or_eq_true, Bool.or_eq_false_iff, Bool.and_eq_true, Bool.and_eq_false_imp, Bool.not_eq_true, Bool.not_eq_true', Bool.not_eq_false', Classical.not_not, Int.not_lt, Int.not_le, gt_iff_lt, ge_iff_le] at hg); (try dsimp only); omega)
  refine WG.callV en48 rfl rfl (by decide) (CallOp.mk' rfl rfl rfl rfl) (by first | exact fun _ => rfl | exact fun h => h | (intro h; simp_all)) (fun hg => RValid_V hy) ?_
  refine WG.y rfl rfl (by decide) (pureV_ok tab_ok rfl (by first | exact fun _ => rfl | exact fun h => h | (intro h; simp_all))) ?_
  refine WG.y rfl rfl (by decide) (Yl.por rfl rfl rfl (fun _ => rfl) (by intro h1 h2; simp_all <;> omega)) ?_
  refine WG.nil ?_
  refine WE.nxt ?_
  refine W.cond rfl (fun hc0 => ?_) (fun hc0 => ?_)
  · try simp only [decide_eq_true_eq, decide_eq_false_iff_not, beq_iff_eq, bne_iff_ne, beq_eq_false_iff_ne, bne_eq_false_iff_eq, ne_eq, Bool.or_eq_true, Bool.or_eq_false_iff, Bool.and_eq_true, Bool.and_eq_false_imp, Bool.not_eq_true, Bool.not_eq_true', Bool.not_eq_false', Classical.not_not, Int.not_lt, Int.not_le, gt_iff_lt, ge_iff_le] at hc0
    have hno : ¬ (validF x = true ∧ validF y = true) := by revert hc0; cases validF x <;> cases validF y <;> simp
    refine W.seq ?_
    refine W.region _ ?_
    -- build
    refine WG.y rfl rfl (by decide) (Yl.build (parts := []) tab_ok rfl rfl rfl rfl (fun _ => rfl) rfl rfl) ?_
    first | refine WL.efN rfl rfl (Ef.store0 0 tab_ok rfl rfl rfl rfl rfl rfl rfl rfl ?_) | refine WL.efN rfl rfl (Ef.store0 1 tab_ok rfl rfl rfl rfl rfl rfl rfl rfl ?_) | refine WL.efN rfl rfl (Ef.store0 2 tab_ok rfl rfl rfl rfl rfl rfl rfl rfl ?_)
    refine WG.run tab_ok 1 rfl ?_
    refine WG.nil ?_
    refine WE.nxt ?_
    refine W.ret ?_
    refine WE.then_ret ?_
    refine WE.retF tab_ok [_, _] rfl ⟨⟨_, _, _, rfl, rfl, rfl, (Rd.blk 0 rfl), rfl⟩, rfl, trivial⟩ (RLe.refl _) ?_
    exact ⟨by unfold mulF; rw [if_neg hno]; rfl, (by (repeat (first | exact List.Sublist.refl _ | exact List.nil_sublist _ | apply List.Sublist.cons_cons | apply List.Sublist.cons)); done)⟩
  · try simp only [decide_eq_true_eq, decide_eq_false_iff_not, beq_iff_eq, bne_iff_ne, beq_eq_false_iff_ne, bne_eq_false_iff_eq, ne_eq, Bool.or_eq_true, Bool.or_eq_false_iff, Bool.and_eq_true, Bool.and_eq_false_imp, Bool.not_eq_true, Bool.not_eq_true', Bool.not_eq_false', Classical.not_not, Int.not_lt, Int.not_le, gt_iff_lt, ge_iff_le] at hc0
    have hvx : validF x = true := by revert hc0; cases validF x <;> simp
    have hvy : validF y = true := by revert hc0; cases validF x <;> cases validF y <;> simp
    have hv := validF_iff.1 hvx
    have hw := validF_iff.1 hvy
    have p12 := mul_in (a := x.1) (b := y.2) (A := 1073741824) (B := 1073741824) (by omega) (by omega)
    have p21 := mul_in (a := y.1) (b := x.2) (A := 1073741824) (B := 1073741824) (by omega) (by omega)
    have p22 := mul_in (a := x.2) (b := y.2) (A := 1073741824) (B := 1073741824) (by omega) (by omega)
    have p21b := mul_in (a := x.2) (b := y.1) (A := 1073741824) (B := 1073741824) (by omega) (by omega)
    have p11 := mul_in (a := x.1) (b := y.1) (A := 1073741824) (B := 1073741824) (by omega) (by omega)
    refine W.skip ?_
    refine WE.nxt ?_
    refine W.seq ?_
    refine W.region _ ?_
    refine WG.run tab_ok 1 rfl ?_
    refine' WG.y rfl rfl (by decide) (Yl.load1 tab_ok rfl rfl rfl (fun _ => rfl) ?r3 rfl ?h3) ?_
    case r3 => apply Rd.add; (first | exact Rd.blk 0 rfl | exact Rd.blk 1 rfl | exact Rd.blk 2 rfl)
    case h3 => rfl
    refine WG.run tab_ok 1 rfl ?_
    refine' WG.y rfl rfl (by decide) (Yl.load1 tab_ok rfl rfl rfl (fun _ => rfl) ?r4 rfl ?h4) ?_
    case r4 => apply Rd.add; (first | exact Rd.blk 0 rfl | exact Rd.blk 1 rfl | exact Rd.blk 2 rfl)
    case h4 => rfl
    refine WG.y rfl rfl (by decide) (Yl.mul rfl rfl rfl (fun _ => rfl) (by intro _; constructor <;> (try dsimp only) <;> omega)) ?_
    refine WG.run tab_ok 1 rfl ?_
    refine' WG.y rfl rfl (by decide) (Yl.load1 tab_ok rfl rfl rfl (fun _ => rfl) ?r5 rfl ?h5) ?_
    case r5 => apply Rd.add; (first | exact Rd.blk 0 rfl | exact Rd.blk 1 rfl | exact Rd.blk 2 rfl)
    case h5 => rfl
    refine WG.run tab_ok 1 rfl ?_
    refine' WG.y rfl rfl (by decide) (Yl.load1 tab_ok rfl rfl rfl (fun _ => rfl) ?r6 rfl ?h6) ?_
    case r6 => apply Rd.add; (first | exact Rd.blk 0 rfl | exact Rd.blk 1 rfl | exact Rd.blk 2 rfl)
    case h6 => rfl
    refine WG.y rfl rfl (by decide) (Yl.mul rfl rfl rfl (fun _ => rfl) (by intro _; constructor <;> (try dsimp only) <;> omega)) ?_
    refine WG.callV en45 rfl rfl (by decide) (CallOp.mk' rfl rfl rfl rfl) (fun _ => rfl) (fun hg => RNew_V (a := x.1 * y.1) (b := x.2 * y.2) (by omega) (by omega)) ?_
    refine WG.run tab_ok 2 rfl ?_
    first | refine WL.efN rfl rfl (Ef.store0 0 tab_ok rfl rfl rfl rfl rfl rfl rfl rfl ?_) | refine WL.efN rfl rfl (Ef.store0 1 tab_ok rfl rfl rfl rfl rfl rfl rfl rfl ?_) | refine WL.efN rfl rfl (Ef.store0 2 tab_ok rfl rfl rfl rfl rfl rfl rfl rfl ?_)
    refine WG.run tab_ok 1 rfl ?_
    refine WG.nil ?_
    refine WE.nxt ?_
    refine W.ret ?_
    refine WE.retF tab_ok [_, _] rfl ⟨⟨_, _, _, rfl, rfl, rfl, (Rd.blk 0 rfl), rfl⟩, rfl, trivial⟩ (RLe.refl _) ?_
    exact ⟨by unfold mulF; rw [if_pos ⟨hvx, hvy⟩]; rfl, (by (repeat (first | exact List.Sublist.refl _ | exact List.nil_sublist _ | apply List.Sublist.cons_cons | apply List.Sublist.cons)); done)⟩

theorem RDiv_V {R : Ro} {x y : Fr} (hx : InR x.1 ∧ InR x.2) (hy : InR y.1 ∧ InR y.2) : FnV Tryd.prog 55 [.agg #[.int .i64 x.1, .int .i64 x.2], .agg #[.int .i64 y.1, .int .i64 y.2]] R (frV (divF x y)) := by
  refine Fn.toVS (fun w0 E => ?_)
  refine Fn.enter (n := 33) Tryd.func55 rfl rfl (Nat.le_of_ble_eq_true rfl) rfl ?_
  refine W.seq ?_
  refine W.region _ ?_
  refine WL.ef rfl rfl (by decide) (Ef.box rfl rfl (fun b2 => ?_))
  refine WL.ef rfl rfl (by decide) (Ef.box rfl rfl (fun b3 => ?_))
  refine WL.ef rfl rfl (by decide) (Ef.alloc tab_ok rfl rfl (fun b4 => ?_))
  refine WG.run tab_ok 1 rfl ?_
  refine WG.nil ?_
  refine WE.nxt ?_
  refine W.seq ?_
  refine W.seq ?_
  refine W.region _ ?_
  refine' WG.y rfl rfl (by decide) (Yl.load1 tab_ok rfl rfl rfl (fun _ => rfl) ?r1 rfl ?h1) ?_
  case r1 => (first | exact Rd.blk 0 rfl | exact Rd.blk 1 rfl | exact Rd.blk 2 rfl)
  case h1 => rfl
  refine WG.callV en48 rfl rfl (by decide) (CallOp.mk' rfl rfl rfl rfl) (fun _ => rfl) (fun hg => RValid_V hx) ?_
  refine WG.run tab_ok 2 rfl ?_
  refine' WG.y rfl rfl (by decide) (Yl.loadG tab_ok rfl rfl rfl (by first | exact fun _ => rfl | exact fun h => h | (intro h; simp_all)) ?r2 rfl ?h2 ?g2) ?_
  case r2 => (first | exact Rd.blkC 0 rfl | exact Rd.blkC 1 rfl | exact Rd.blkC 2 rfl)
  case h2 => rfl
  case g2 => first | exact fun _ => trivial | (intro hg; (try simp only [decide_eq_true_eq, decide_eq_false_iff_not, beq_iff_eq, bne_iff_ne, beq_eq_false_iff_ne, bne_eq_false_iff_eq, ne_eq, Bool.or_eq_true, Bool.or_eq_false_iff, Bool.and_eq_true, Bool.and_eq_false_imp, Bool.not_eq_true, Bool.not_eq_true', Bool.not_eq_false', Classical.not_not, Int.not_lt, Int.not_le, gt_iff_lt, ge_iff_le] at hg); (try dsimp only); omega)
  refine WG.callV en48 rfl rfl (by decide) (CallOp.mk' rfl rfl rfl rfl) (by first | exact fun _ => rfl | exact fun h => h | (intro h; simp_all)) (fun hg => RValid_V hy) ?_
  refine WG.y rfl rfl (by decide) (pureV_ok tab_ok rfl (by first | exact fun _ => rfl | exact fun h => h | (intro h; simp_all))) ?_
  refine WG.y rfl rfl (by decide) (Yl.por rfl rfl rfl (fun _ => rfl) (by intro h1 h2; simp_all <;> omega)) ?_
  refine WG.run tab_ok 1 rfl ?_
  refine WG.y rfl rfl (by decide) (pureV_ok tab_ok rfl (by first | exact fun _ => rfl | exact fun h => h | (intro h; simp_all))) ?_
  refine' WG.y rfl rfl (by decide) (Yl.loadG tab_ok rfl rfl rfl (by first | exact fun _ => rfl | exact fun h => h | (intro h; simp_all)) ?r3 rfl ?h3 ?g3) ?_
  case r3 => apply Rd.addC; (first | exact Rd.blkC 0 rfl | exact Rd.blkC 1 rfl | exact Rd.blkC 2 rfl)
  case h3 => rfl
  case g3 => first | exact fun _ => trivial | (intro hg; (try simp only [decide_eq_true_eq, decide_eq_false_iff_not, beq_iff_eq, bne_iff_ne, beq_eq_false_iff_ne, bne_eq_false_iff_eq, ne_eq, Bool.or_eq_true, Bool.or_eq_false_iff, Bool.and_eq_true, Bool.and_eq_false_imp, Bool.not_eq_true, Bool.not_eq_true', Bool.not_eq_false', Classical.not_not, Int.not_lt, Int.not_le, gt_iff_lt, ge_iff_le] at hg); (try dsimp only); omega)
  refine WG.y rfl rfl (by decide) (pureV_ok tab_ok rfl (by first | exact fun _ => rfl | exact fun h => h | (intro h; simp_all))) ?_
  refine WG.y rfl rfl (by decide) (Yl.por rfl rfl rfl (fun _ => rfl) (by intro h1 h2; simp_all <;> omega)) ?_
  refine WG.nil ?_
  refine WE.nxt ?_
  refine W.cond rfl (fun hc0 => ?_) (fun hc0 => ?_)
  · try simp only [decide_eq_true_eq, decide_eq_false_iff_not, beq_iff_eq, bne_iff_ne, beq_eq_false_iff_ne, bne_eq_false_iff_eq, ne_eq, Bool.or_eq_true, Bool.or_eq_false_iff, Bool.and_eq_true, Bool.and_eq_false_imp, Bool.not_eq_true, Bool.not_eq_true', Bool.not_eq_false', Classical.not_not, Int.not_lt, Int.not_le, gt_iff_lt, ge_iff_le] at hc0
    have hno : ¬ (validF x = true ∧ validF y = true ∧ y.1 ≠ 0) := by
      rintro ⟨h1, h2, h3⟩
      rw [h1, h2] at hc0
      simp [h3] at hc0
    refine W.seq ?_
    refine W.region _ ?_
    -- build
    refine WG.y rfl rfl (by decide) (Yl.build (parts := []) tab_ok rfl rfl rfl rfl (fun _ => rfl) rfl rfl) ?_
    first | refine WL.efN rfl rfl (Ef.store0 0 tab_ok rfl rfl rfl rfl rfl rfl rfl rfl ?_) | refine WL.efN rfl rfl (Ef.store0 1 tab_ok rfl rfl rfl rfl rfl rfl rfl rfl ?_) | refine WL.efN rfl rfl (Ef.store0 2 tab_ok rfl rfl rfl rfl rfl rfl rfl rfl ?_)
    refine WG.run tab_ok 1 rfl ?_
    refine WG.nil ?_
    refine WE.nxt ?_
    refine W.ret ?_
    refine WE.then_ret ?_
    refine WE.retF tab_ok [_, _] rfl ⟨⟨_, _, _, rfl, rfl, rfl, (Rd.blk 0 rfl), rfl⟩, rfl, trivial⟩ (RLe.refl _) ?_
    exact ⟨by unfold divF; rw [if_neg hno]; rfl, (by (repeat (first | exact List.Sublist.refl _ | exact List.nil_sublist _ | apply List.Sublist.cons_cons | apply List.Sublist.cons)); done)⟩
  · try simp only [decide_eq_true_eq, decide_eq_false_iff_not, beq_iff_eq, bne_iff_ne, beq_eq_false_iff_ne, bne_eq_false_iff_eq, ne_eq, Bool.or_eq_true, Bool.or_eq_false_iff, Bool.and_eq_true, Bool.and_eq_false_imp, Bool.not_eq_true, Bool.not_eq_true', Bool.not_eq_false', Classical.not_not, Int.not_lt, Int.not_le, gt_iff_lt, ge_iff_le] at hc0
    have hvx : validF x = true := by revert hc0; cases validF x <;> simp
    have hvy : validF y = true := by revert hc0; cases validF x <;> cases validF y <;> simp
    have hy0 : y.1 ≠ 0 := by rw [hvx, hvy] at hc0; simpa using hc0
    have hv := validF_iff.1 hvx
    have hw := validF_iff.1 hvy
    have p12 := mul_in (a := x.1) (b := y.2) (A := 1073741824) (B := 1073741824) (by omega) (by omega)
    have p21 := mul_in (a := y.1) (b := x.2) (A := 1073741824) (B := 1073741824) (by omega) (by omega)
    have p22 := mul_in (a := x.2) (b := y.2) (A := 1073741824) (B := 1073741824) (by omega) (by omega)
    have p21b := mul_in (a := x.2) (b := y.1) (A := 1073741824) (B := 1073741824) (by omega) (by omega)
    have p11 := mul_in (a := x.1) (b := y.1) (A := 1073741824) (B := 1073741824) (by omega) (by omega)
    refine W.skip ?_
    refine WE.nxt ?_
    refine W.seq ?_
    refine W.region _ ?_
    refine WG.run tab_ok 1 rfl ?_
    refine' WG.y rfl rfl (by decide) (Yl.load1 tab_ok rfl rfl rfl (fun _ => rfl) ?r4 rfl ?h4) ?_
    case r4 => apply Rd.add; (first | exact Rd.blk 0 rfl | exact Rd.blk 1 rfl | exact Rd.blk 2 rfl)
    case h4 => rfl
    refine WG.run tab_ok 1 rfl ?_
    refine' WG.y rfl rfl (by decide) (Yl.load1 tab_ok rfl rfl rfl (fun _ => rfl) ?r5 rfl ?h5) ?_
    case r5 => apply Rd.add; (first | exact Rd.blk 0 rfl | exact Rd.blk 1 rfl | exact Rd.blk 2 rfl)
    case h5 => rfl
    refine WG.y rfl rfl (by decide) (Yl.mul rfl rfl rfl (fun _ => rfl) (by intro _; constructor <;> (try dsimp only) <;> omega)) ?_
    refine WG.run tab_ok 1 rfl ?_
    refine' WG.y rfl rfl (by decide) (Yl.load1 tab_ok rfl rfl rfl (fun _ => rfl) ?r6 rfl ?h6) ?_
    case r6 => apply Rd.add; (first | exact Rd.blk 0 rfl | exact Rd.blk 1 rfl | exact Rd.blk 2 rfl)
    case h6 => rfl
    refine WG.run tab_ok 1 rfl ?_
    refine' WG.y rfl rfl (by decide) (Yl.load1 tab_ok rfl rfl rfl (fun _ => rfl) ?r7 rfl ?h7) ?_
    case r7 => apply Rd.add; (first | exact Rd.blk 0 rfl | exact Rd.blk 1 rfl | exact Rd.blk 2 rfl)
    case h7 => rfl
    refine WG.y rfl rfl (by decide) (Yl.mul rfl rfl rfl (fun _ => rfl) (by intro _; constructor <;> (try dsimp only) <;> omega)) ?_
    refine WG.callV en45 rfl rfl (by decide) (CallOp.mk' rfl rfl rfl rfl) (fun _ => rfl) (fun hg => RNew_V (a := x.1 * y.2) (b := x.2 * y.1) (by omega) (by omega)) ?_
    refine WG.run tab_ok 2 rfl ?_
    first | refine WL.efN rfl rfl (Ef.store0 0 tab_ok rfl rfl rfl rfl rfl rfl rfl rfl ?_) | refine WL.efN rfl rfl (Ef.store0 1 tab_ok rfl rfl rfl rfl rfl rfl rfl rfl ?_) | refine WL.efN rfl rfl (Ef.store0 2 tab_ok rfl rfl rfl rfl rfl rfl rfl rfl ?_)
    refine WG.run tab_ok 1 rfl ?_
    refine WG.nil ?_
    refine WE.nxt ?_
    refine W.ret ?_
    refine WE.retF tab_ok [_, _] rfl ⟨⟨_, _, _, rfl, rfl, rfl, (Rd.blk 0 rfl), rfl⟩, rfl, trivial⟩ (RLe.refl _) ?_
    exact ⟨by unfold divF; rw [if_pos ⟨hvx, hvy, hy0⟩]; rfl, (by (repeat (first | exact List.Sublist.refl _ | exact List.nil_sublist _ | apply List.Sublist.cons_cons | apply List.Sublist.cons)); done)⟩

theorem RCompare_V {R : Ro} {x y : Fr} (hx : InR x.1 ∧ InR x.2) (hy : InR y.1 ∧ InR y.2) : FnV Tryd.prog 53 [.agg #[.int .i64 x.1, .int .i64 x.2], .agg #[.int .i64 y.1, .int .i64 y.2]] R (.int .i64 (cmpF x y)) := by
  refine Fn.toV (fun w0 E => ?_)
  refine Fn.enter (n := 31) Tryd.func53 rfl rfl (Nat.le_of_ble_eq_true rfl) rfl ?_
  refine W.seq ?_
  refine W.region _ ?_
  refine WL.ef rfl rfl (by decide) (Ef.box rfl rfl (fun b2 => ?_))
  refine WL.ef rfl rfl (by decide) (Ef.box rfl rfl (fun b3 => ?_))
  refine WG.run tab_ok 1 rfl ?_
  refine WG.nil ?_
  refine WE.nxt ?_
  refine W.seq ?_
  refine W.seq ?_
  refine W.region _ ?_
  refine' WG.y rfl rfl (by decide) (Yl.load1 tab_ok rfl rfl rfl (fun _ => rfl) ?r1 rfl ?h1) ?_
  case r1 => (first | exact Rd.blk 0 rfl | exact Rd.blk 1 rfl | exact Rd.blk 2 rfl)
  case h1 => rfl
  refine WG.callV en48 rfl rfl (by decide) (CallOp.mk' rfl rfl rfl rfl) (fun _ => rfl) (fun hg => RValid_V hx) ?_
  refine WG.run tab_ok 2 rfl ?_
  refine' WG.y rfl rfl (by decide) (Yl.loadG tab_ok rfl rfl rfl (by first | exact fun _ => rfl | exact fun h => h | (intro h; simp_all)) ?r2 rfl ?h2 ?g2) ?_
  case r2 => (first | exact Rd.blkC 0 rfl | exact Rd.blkC 1 rfl | exact Rd.blkC 2 rfl)
  case h2 => rfl
  case g2 => first | exact fun _ => trivial | (intro hg; (try simp only [decide_eq_true_eq, decide_eq_false_iff_not, beq_iff_eq, bne_iff_ne, beq_eq_false_iff_ne, bne_eq_false_iff_eq, ne_eq, Bool.or_eq_true, Bool.or_eq_false_iff, Bool.and_eq_true, Bool.and_eq_false_imp, Bool.not_eq_true, Bool.not_eq_true', Bool.not_eq_false', Classical.not_not, Int.not_lt, Int.not_le, gt_iff_lt, ge_iff_le] at hg); (try dsimp only); omega)
  refine WG.callV en48 rfl rfl (by decide) (CallOp.mk' rfl rfl rfl rfl) (by first | exact fun _ => rfl | exact fun h => h | (intro h; simp_all)) (fun hg => RValid_V hy) ?_
  refine WG.y rfl rfl (by decide) (pureV_ok tab_ok rfl (by first | exact fun _ => rfl | exact fun h => h | (intro h; simp_all))) ?_
  refine WG.y rfl rfl (by decide) (Yl.por rfl rfl rfl (fun _ => rfl) (by intro h1 h2; simp_all <;> omega)) ?_
  refine WG.nil ?_
  refine WE.nxt ?_
  refine W.cond rfl (fun hc0 => ?_) (fun hc0 => ?_)
  · try simp only [decide_eq_true_eq, decide_eq_false_iff_not, beq_iff_eq, bne_iff_ne, beq_eq_false_iff_ne, bne_eq_false_iff_eq, ne_eq, Bool.or_eq_true, Bool.or_eq_false_iff, Bool.and_eq_true, Bool.and_eq_false_imp, Bool.not_eq_true, Bool.not_eq_true', Bool.not_eq_false', Classical.not_not, Int.not_lt, Int.not_le, gt_iff_lt, ge_iff_le] at hc0
    have hno : ¬ (validF x = true ∧ validF y = true) := by revert hc0; cases validF x <;> cases validF y <;> simp
    refine W.seq ?_
    refine W.region _ ?_
    refine WG.run tab_ok 1 rfl ?_
    refine WG.nil ?_
    refine WE.nxt ?_
    refine W.ret ?_
    refine WE.then_ret ?_
    refine WE.subE (E' := E) (by (repeat (first | exact List.Sublist.refl _ | exact List.nil_sublist _ | apply List.Sublist.cons_cons | apply List.Sublist.cons)); done) ?_
    refine WE.retF tab_ok [_] rfl ⟨rfl, trivial⟩ (RLe.refl _) ?_
    exact ⟨by unfold cmpF; rw [if_neg hno]; rfl, rfl⟩
  · try simp only [decide_eq_true_eq, decide_eq_false_iff_not, beq_iff_eq, bne_iff_ne, beq_eq_false_iff_ne, bne_eq_false_iff_eq, ne_eq, Bool.or_eq_true, Bool.or_eq_false_iff, Bool.and_eq_true, Bool.and_eq_false_imp, Bool.not_eq_true, Bool.not_eq_true', Bool.not_eq_false', Classical.not_not, Int.not_lt, Int.not_le, gt_iff_lt, ge_iff_le] at hc0
    have hvx : validF x = true := by revert hc0; cases validF x <;> simp
    have hvy : validF y = true := by revert hc0; cases validF x <;> cases validF y <;> simp
    have hv := validF_iff.1 hvx
    have hw := validF_iff.1 hvy
    have p12 := mul_in (a := x.1) (b := y.2) (A := 1073741824) (B := 1073741824) (by omega) (by omega)
    have p21 := mul_in (a := y.1) (b := x.2) (A := 1073741824) (B := 1073741824) (by omega) (by omega)
    have p22 := mul_in (a := x.2) (b := y.2) (A := 1073741824) (B := 1073741824) (by omega) (by omega)
    have p21b := mul_in (a := x.2) (b := y.1) (A := 1073741824) (B := 1073741824) (by omega) (by omega)
    have p11 := mul_in (a := x.1) (b := y.1) (A := 1073741824) (B := 1073741824) (by omega) (by omega)
    refine W.skip ?_
    refine WE.nxt ?_
    refine W.seq ?_
    refine W.regionQ _ mixed (by kernel_rfl) ?_
    refine WG.run tab_ok 1 rfl ?_
    refine' WG.y rfl rfl (by decide) (Yl.load1 tab_ok rfl rfl rfl (fun _ => rfl) ?r3 rfl ?h3) ?_
    case r3 => apply Rd.add; (first | exact Rd.blk 0 rfl | exact Rd.blk 1 rfl | exact Rd.blk 2 rfl)
    case h3 => rfl
    refine WG.run tab_ok 1 rfl ?_
    refine' WG.y rfl rfl (by decide) (Yl.load1 tab_ok rfl rfl rfl (fun _ => rfl) ?r4 rfl ?h4) ?_
    case r4 => apply Rd.add; (first | exact Rd.blk 0 rfl | exact Rd.blk 1 rfl | exact Rd.blk 2 rfl)
    case h4 => rfl
    refine WG.y rfl rfl (by decide) (Yl.mul rfl rfl rfl (fun _ => rfl) (by intro _; constructor <;> (try dsimp only) <;> omega)) ?_
    refine WG.run tab_ok 1 rfl ?_
    refine' WG.y rfl rfl (by decide) (Yl.load1 tab_ok rfl rfl rfl (fun _ => rfl) ?r5 rfl ?h5) ?_
    case r5 => apply Rd.add; (first | exact Rd.blk 0 rfl | exact Rd.blk 1 rfl | exact Rd.blk 2 rfl)
    case h5 => rfl
    refine WG.run tab_ok 1 rfl ?_
    refine' WG.y rfl rfl (by decide) (Yl.load1 tab_ok rfl rfl rfl (fun _ => rfl) ?r6 rfl ?h6) ?_
    case r6 => apply Rd.add; (first | exact Rd.blk 0 rfl | exact Rd.blk 1 rfl | exact Rd.blk 2 rfl)
    case h6 => rfl
    refine WG.y rfl rfl (by decide) (Yl.mul rfl rfl rfl (fun _ => rfl) (by intro _; constructor <;> (try dsimp only) <;> omega)) ?_
    refine WG.run tab_ok 2 rfl ?_
    refine WG.nil ?_
    refine WE.nxt ?_
    refine W.seq ?_
    refine W.seq ?_
    refine W.region _ ?_
    refine WG.run tab_ok 3 rfl ?_
    refine WG.nil ?_
    refine WE.nxt ?_
    refine W.condD rfl (fun hc1 => ?_) (fun hc1 => ?_)
    · try dsimp only at hc1
      refine W.seq ?_
      refine W.region _ ?_
      refine WG.run tab_ok 1 rfl ?_
      refine WG.nil ?_
      refine WE.nxt ?_
      refine W.ret ?_
      refine WE.then_ret ?_
      refine WE.subE (E' := E) (by (repeat (first | exact List.Sublist.refl _ | exact List.nil_sublist _ | apply List.Sublist.cons_cons | apply List.Sublist.cons)); done) ?_
      refine WE.retF tab_ok [_] rfl ⟨rfl, trivial⟩ (RLe.refl _) ?_
      exact ⟨by unfold cmpF; rw [if_pos ⟨hvx, hvy⟩, if_pos (by omega)]; rfl, rfl⟩
    · try dsimp only at hc1
      refine W.skip ?_
      refine WE.nxt ?_
      refine W.seq ?_
      refine W.seq ?_
      refine W.region _ ?_
      refine WG.run tab_ok 3 rfl ?_
      refine WG.nil ?_
      refine WE.nxt ?_
      refine W.condD rfl (fun hc2 => ?_) (fun hc2 => ?_)
      · try dsimp only at hc2
        refine W.seq ?_
        refine W.region _ ?_
        refine WG.run tab_ok 1 rfl ?_
        refine WG.nil ?_
        refine WE.nxt ?_
        refine W.ret ?_
        refine WE.then_ret ?_
        refine WE.subE (E' := E) (by (repeat (first | exact List.Sublist.refl _ | exact List.nil_sublist _ | apply List.Sublist.cons_cons | apply List.Sublist.cons)); done) ?_
        refine WE.retF tab_ok [_] rfl ⟨rfl, trivial⟩ (RLe.refl _) ?_
        exact ⟨by unfold cmpF; rw [if_pos ⟨hvx, hvy⟩, if_neg (by omega), if_pos (by omega)]; rfl, rfl⟩
      · try dsimp only at hc2
        refine W.skip ?_
        refine WE.nxt ?_
        refine W.seq ?_
        refine W.region _ ?_
        refine WG.run tab_ok 1 rfl ?_
        refine WG.nil ?_
        refine WE.nxt ?_
        refine W.ret ?_
        refine WE.subE (E' := E) (by (repeat (first | exact List.Sublist.refl _ | exact List.nil_sublist _ | apply List.Sublist.cons_cons | apply List.Sublist.cons)); done) ?_
        refine WE.retF tab_ok [_] rfl ⟨rfl, trivial⟩ (RLe.refl _) ?_
        exact ⟨by unfold cmpF; rw [if_pos ⟨hvx, hvy⟩, if_neg (by omega), if_neg (by omega)]; rfl, rfl⟩

theorem RFloor_V {R : Ro} {x : Fr} (hx : InR x.1 ∧ InR x.2) : FnV Tryd.prog 49 [.agg #[.int .i64 x.1, .int .i64 x.2]] R (.int .i64 (floorF x)) := by
  refine Fn.toV (fun w0 E => ?_)
  refine Fn.enter (n := 22) Tryd.func49 rfl rfl (Nat.le_of_ble_eq_true rfl) rfl ?_
  refine W.seq ?_
  refine W.region _ ?_
  refine WL.ef rfl rfl (by decide) (Ef.box rfl rfl (fun b1 => ?_))
  refine WG.run tab_ok 1 rfl ?_
  refine WG.nil ?_
  refine WE.nxt ?_
  refine W.seq ?_
  refine W.seq ?_
  refine W.region _ ?_
  refine' WG.y rfl rfl (by decide) (Yl.load1 tab_ok rfl rfl rfl (fun _ => rfl) ?r1 rfl ?h1) ?_
  case r1 => (first | exact Rd.blk 0 rfl | exact Rd.blk 1 rfl)
  case h1 => rfl
  refine WG.callV en48 rfl rfl (by decide) (CallOp.mk' rfl rfl rfl rfl) (fun _ => rfl) (fun hg => RValid_V hx) ?_
  refine WG.run tab_ok 1 rfl ?_
  refine WG.nil ?_
  refine WE.nxt ?_
  refine W.cond rfl (fun hc0 => ?_) (fun hc0 => ?_)
  · try simp only [decide_eq_true_eq, decide_eq_false_iff_not, beq_iff_eq, bne_iff_ne, beq_eq_false_iff_ne, bne_eq_false_iff_eq, ne_eq, Bool.or_eq_true, Bool.or_eq_false_iff, Bool.and_eq_true, Bool.and_eq_false_imp, Bool.not_eq_true, Bool.not_eq_true', Bool.not_eq_false', Classical.not_not, Int.not_lt, Int.not_le, gt_iff_lt, ge_iff_le] at hc0
    have hvx : ¬ validF x = true := by simpa using hc0
    refine W.seq ?_
    refine W.region _ ?_
    refine WG.run tab_ok 1 rfl ?_
    refine WG.nil ?_
    refine WE.nxt ?_
    refine W.ret ?_
    refine WE.then_ret ?_
    refine WE.subE (E' := E) (by (repeat (first | exact List.Sublist.refl _ | exact List.nil_sublist _ | apply List.Sublist.cons_cons | apply List.Sublist.cons)); done) ?_
    refine WE.retF tab_ok [_] rfl ⟨rfl, trivial⟩ (RLe.refl _) ?_
    exact ⟨by unfold floorF; rw [if_neg hvx]; rfl, rfl⟩
  · try simp only [decide_eq_true_eq, decide_eq_false_iff_not, beq_iff_eq, bne_iff_ne, beq_eq_false_iff_ne, bne_eq_false_iff_eq, ne_eq, Bool.or_eq_true, Bool.or_eq_false_iff, Bool.and_eq_true, Bool.and_eq_false_imp, Bool.not_eq_true, Bool.not_eq_true', Bool.not_eq_false', Classical.not_not, Int.not_lt, Int.not_le, gt_iff_lt, ge_iff_le] at hc0
    have hvx : validF x = true := by simpa using hc0
    have hv := validF_iff.1 hvx
    have ht := tdiv_in (a := x.1) (b := x.2) (by omega)
    have hp := mul_in (a := x.1.tdiv x.2) (b := x.2) (A := 1073741824) (B := 1073741824) (by omega) (by omega)
    have hl := tdiv_floor (a := x.1) (b := x.2) (by omega)
    refine W.skip ?_
    refine WE.nxt ?_
    refine W.seq ?_
    refine W.region _ ?_
    refine WG.run tab_ok 1 rfl ?_
    refine' WG.y rfl rfl (by decide) (Yl.load1 tab_ok rfl rfl rfl (fun _ => rfl) ?r2 rfl ?h2) ?_
    case r2 => apply Rd.add; (first | exact Rd.blk 0 rfl | exact Rd.blk 1 rfl)
    case h2 => rfl
    refine WG.run tab_ok 1 rfl ?_
    refine' WG.y rfl rfl (by decide) (Yl.load1 tab_ok rfl rfl rfl (fun _ => rfl) ?r3 rfl ?h3) ?_
    case r3 => apply Rd.add; (first | exact Rd.blk 0 rfl | exact Rd.blk 1 rfl)
    case h3 => rfl
    refine WG.y rfl rfl (by decide) (Yl.tdiv rfl rfl rfl (fun _ => rfl) (by intro _; omega) (by intro _; constructor <;> (try dsimp only) <;> omega)) ?_
    refine WG.run tab_ok 1 rfl ?_
    refine WG.nil ?_
    refine WE.nxt ?_
    refine W.seq ?_
    refine W.seq ?_
    refine W.region _ ?_
    refine WG.run tab_ok 2 rfl ?_
    refine' WG.y rfl rfl (by decide) (Yl.load1 tab_ok rfl rfl rfl (fun _ => rfl) ?r4 rfl ?h4) ?_
    case r4 => apply Rd.add; (first | exact Rd.blk 0 rfl | exact Rd.blk 1 rfl)
    case h4 => rfl
    refine WG.y rfl rfl (by decide) (Yl.mul rfl rfl rfl (fun _ => rfl) (by intro _; constructor <;> (try dsimp only) <;> omega)) ?_
    refine WG.run tab_ok 1 rfl ?_
    refine' WG.y rfl rfl (by decide) (Yl.load1 tab_ok rfl rfl rfl (fun _ => rfl) ?r5 rfl ?h5) ?_
    case r5 => apply Rd.add; (first | exact Rd.blk 0 rfl | exact Rd.blk 1 rfl)
    case h5 => rfl
    refine WG.run tab_ok 1 rfl ?_
    refine WG.nil ?_
    refine WE.nxt ?_
    refine W.condD rfl (fun hc1 => ?_) (fun hc1 => ?_)
    · try dsimp only at hc1
      refine W.region _ ?_
      refine WG.run tab_ok 1 rfl ?_
      refine WG.y rfl rfl (by decide) (Yl.sub rfl rfl rfl (fun _ => rfl) (by intro _; constructor <;> (try dsimp only) <;> omega)) ?_
      refine WG.run tab_ok 1 rfl ?_
      refine WG.nil ?_
      refine WE.nxt ?_
      refine W.seq ?_
      refine W.region _ ?_
      refine WG.run tab_ok 2 rfl ?_
      refine WG.nil ?_
      refine WE.nxt ?_
      refine W.ret ?_
      refine WE.subE (E' := E) (by (repeat (first | exact List.Sublist.refl _ | exact List.nil_sublist _ | apply List.Sublist.cons_cons | apply List.Sublist.cons)); done) ?_
      refine WE.retF tab_ok [_] rfl ⟨rfl, trivial⟩ (RLe.refl _) ?_
      exact ⟨by unfold floorF; rw [if_pos hvx, hl, if_pos (by omega)]; rfl, rfl⟩
    · try dsimp only at hc1
      refine W.skip ?_
      refine WE.nxt ?_
      refine W.seq ?_
      refine W.region _ ?_
      refine WG.run tab_ok 2 rfl ?_
      refine WG.nil ?_
      refine WE.nxt ?_
      refine W.ret ?_
      refine WE.subE (E' := E) (by (repeat (first | exact List.Sublist.refl _ | exact List.nil_sublist _ | apply List.Sublist.cons_cons | apply List.Sublist.cons)); done) ?_
      refine WE.retF tab_ok [_] rfl ⟨rfl, trivial⟩ (RLe.refl _) ?_
      exact ⟨by unfold floorF; rw [if_pos hvx, hl, if_neg (by omega)]; rfl, rfl⟩

theorem neg64_in {a : Int} (h : InR a) : InR (neg64 a) := by unfold neg64; constructor <;> (split <;> omega)
theorem addF_neg {x y : Fr} (hy : InR y.1) : addF x (neg64 y.1, y.2) = subF x y := by
  have hv : validF (neg64 y.1, y.2) = validF y := by
    unfold validF MT neg64
    apply decide_eq_decide.2
    split
    · rename_i h
      dsimp only
      rw [h]
    · dsimp only
      rw [Int.natAbs_neg]
      constructor <;> (rintro ⟨a, b, c, d, e⟩; exact ⟨a, b, by omega, by omega, e⟩)
  unfold addF subF
  rw [hv]
  by_cases h : validF x = true ∧ validF y = true
  · rw [if_pos h, if_pos h]
    have := validF_iff.1 h.2
    have e : neg64 y.1 = -y.1 := by unfold neg64; rw [if_neg (by omega)]
    dsimp only
    rw [e, Int.neg_mul, ← Int.sub_eq_add_neg]
  · rw [if_neg h, if_neg h]
theorem ceil_neg {x : Fr} (h : validF x = true) : -(floorF (-x.1, x.2)) = ceilF x := by
  have hv : validF (-x.1, x.2) = true := by
    obtain ⟨a, b, c, d, e⟩ := validF_iff.1 h
    rw [validF_iff]
    dsimp only
    rw [Int.natAbs_neg]
    exact ⟨a, b, by omega, by omega, e⟩
  unfold floorF ceilF
  rw [if_pos hv, if_pos h]

theorem RSub_V {R : Ro} {x y : Fr} (hx : InR x.1 ∧ InR x.2) (hy : InR y.1 ∧ InR y.2) : FnV Tryd.prog 52 [.agg #[.int .i64 x.1, .int .i64 x.2], .agg #[.int .i64 y.1, .int .i64 y.2]] R (frV (subF x y)) := by
  refine Fn.toVS (fun w0 E => ?_)
  have hy1 := hy.1
  refine Fn.enter (n := 16) Tryd.func52 rfl rfl (Nat.le_of_ble_eq_true rfl) rfl ?_
  refine W.seq ?_
  refine W.region _ ?_
  refine WL.ef rfl rfl (by decide) (Ef.box rfl rfl (fun b2 => ?_))
  refine WL.ef rfl rfl (by decide) (Ef.box rfl rfl (fun b3 => ?_))
  refine WL.ef rfl rfl (by decide) (Ef.alloc tab_ok rfl rfl (fun b4 => ?_))
  refine WG.run tab_ok 1 rfl ?_
  refine WG.nil ?_
  refine WE.nxt ?_
  refine W.seq ?_
  refine W.region _ ?_
  refine' WG.y rfl rfl (by decide) (Yl.load1 tab_ok rfl rfl rfl (fun _ => rfl) ?r1 rfl ?h1) ?_
  case r1 => (first | exact Rd.blk 0 rfl | exact Rd.blk 1 rfl | exact Rd.blk 2 rfl)
  case h1 => rfl
  refine WG.run tab_ok 1 rfl ?_
  refine' WG.y rfl rfl (by decide) (Yl.load1 tab_ok rfl rfl rfl (fun _ => rfl) ?r2 rfl ?h2) ?_
  case r2 => apply Rd.add; (first | exact Rd.blk 0 rfl | exact Rd.blk 1 rfl | exact Rd.blk 2 rfl)
  case h2 => rfl
  refine WG.y rfl rfl (by decide) (Yl.negW rfl rfl (fun _ => rfl) (by intro _; exact hy1)) ?_
  refine WG.run tab_ok 1 rfl ?_
  refine' WG.y rfl rfl (by decide) (Yl.load1 tab_ok rfl rfl rfl (fun _ => rfl) ?r3 rfl ?h3) ?_
  case r3 => apply Rd.add; (first | exact Rd.blk 0 rfl | exact Rd.blk 1 rfl | exact Rd.blk 2 rfl)
  case h3 => rfl
  -- build
  refine WG.y rfl rfl (by decide) (Yl.build (parts := [(0, .tmp 9), (1, .tmp 11)]) tab_ok rfl rfl rfl rfl (fun _ => rfl) rfl rfl) ?_
  refine WG.callV (v := .tuple #[.agg #[.int .i64 (subF x y).1.1, .int .i64 (subF x y).1.2], .int .i64 (subF x y).2]) en51 rfl rfl (by decide) (CallOp.mk' rfl rfl rfl rfl) (fun _ => rfl) (fun hg => by
    have h := RAdd_V (R := R) (x := x) (y := (neg64 y.1, y.2)) hx ⟨neg64_in hy.1, hy.2⟩
    rw [addF_neg hy.1] at h
    exact h) ?_
  refine WG.run tab_ok 2 rfl ?_
  first | refine WL.efN rfl rfl (Ef.store0 0 tab_ok rfl rfl rfl rfl rfl rfl rfl rfl ?_) | refine WL.efN rfl rfl (Ef.store0 1 tab_ok rfl rfl rfl rfl rfl rfl rfl rfl ?_) | refine WL.efN rfl rfl (Ef.store0 2 tab_ok rfl rfl rfl rfl rfl rfl rfl rfl ?_)
  refine WG.run tab_ok 1 rfl ?_
  refine WG.nil ?_
  refine WE.nxt ?_
  refine W.ret ?_
  refine WE.retF tab_ok [_, _] rfl ⟨⟨_, _, _, rfl, rfl, rfl, ((by first | exact Rd.blk 0 rfl | exact Rd.blk 1 rfl | exact Rd.blk 2 rfl)), rfl⟩, rfl, trivial⟩ (RLe.refl _) ?_
  exact ⟨rfl, (by (repeat (first | exact List.Sublist.refl _ | exact List.nil_sublist _ | apply List.Sublist.cons_cons | apply List.Sublist.cons)); done)⟩

theorem RCeil_V {R : Ro} {x : Fr} (hx : InR x.1 ∧ InR x.2) : FnV Tryd.prog 50 [.agg #[.int .i64 x.1, .int .i64 x.2]] R (.int .i64 (ceilF x)) := by
  refine Fn.toV (fun w0 E => ?_)
  refine Fn.enter (n := 14) Tryd.func50 rfl rfl (Nat.le_of_ble_eq_true rfl) rfl ?_
  refine W.seq ?_
  refine W.region _ ?_
  refine WL.ef rfl rfl (by decide) (Ef.box rfl rfl (fun b1 => ?_))
  refine WG.run tab_ok 1 rfl ?_
  refine WG.nil ?_
  refine WE.nxt ?_
  refine W.seq ?_
  refine W.seq ?_
  refine W.region _ ?_
  refine' WG.y rfl rfl (by decide) (Yl.load1 tab_ok rfl rfl rfl (fun _ => rfl) ?r1 rfl ?h1) ?_
  case r1 => (first | exact Rd.blk 0 rfl | exact Rd.blk 1 rfl)
  case h1 => rfl
  refine WG.callV en48 rfl rfl (by decide) (CallOp.mk' rfl rfl rfl rfl) (fun _ => rfl) (fun hg => RValid_V hx) ?_
  refine WG.run tab_ok 1 rfl ?_
  refine WG.nil ?_
  refine WE.nxt ?_
  refine W.cond rfl (fun hc0 => ?_) (fun hc0 => ?_)
  · try simp only [decide_eq_true_eq, decide_eq_false_iff_not, beq_iff_eq, bne_iff_ne, beq_eq_false_iff_ne, bne_eq_false_iff_eq, ne_eq, Bool.or_eq_true, Bool.or_eq_false_iff, Bool.and_eq_true, Bool.and_eq_false_imp, Bool.not_eq_true, Bool.not_eq_true', Bool.not_eq_false', Classical.not_not, Int.not_lt, Int.not_le, gt_iff_lt, ge_iff_le] at hc0
    have hvx : ¬ validF x = true := by simpa using hc0
    refine W.seq ?_
    refine W.region _ ?_
    refine WG.run tab_ok 1 rfl ?_
    refine WG.nil ?_
    refine WE.nxt ?_
    refine W.ret ?_
    refine WE.then_ret ?_
    refine WE.subE (E' := E) (by (repeat (first | exact List.Sublist.refl _ | exact List.nil_sublist _ | apply List.Sublist.cons_cons | apply List.Sublist.cons)); done) ?_
    refine WE.retF tab_ok [_] rfl ⟨rfl, trivial⟩ (RLe.refl _) ?_
    exact ⟨by unfold ceilF; rw [if_neg hvx]; rfl, rfl⟩
  · try simp only [decide_eq_true_eq, decide_eq_false_iff_not, beq_iff_eq, bne_iff_ne, beq_eq_false_iff_ne, bne_eq_false_iff_eq, ne_eq, Bool.or_eq_true, Bool.or_eq_false_iff, Bool.and_eq_true, Bool.and_eq_false_imp, Bool.not_eq_true, Bool.not_eq_true', Bool.not_eq_false', Classical.not_not, Int.not_lt, Int.not_le, gt_iff_lt, ge_iff_le] at hc0
    have hvx : validF x = true := by simpa using hc0
    have hv := validF_iff.1 hvx
    have hcn := ceil_neg hvx
    obtain ⟨r, hr, hir⟩ := validF_rat hvx
    have hsm := (small_round hir (by rw [← hr]; exact hvx)).2
    rw [← hr] at hsm
    refine W.skip ?_
    refine WE.nxt ?_
    refine W.seq ?_
    refine W.region _ ?_
    refine WG.run tab_ok 1 rfl ?_
    refine' WG.y rfl rfl (by decide) (Yl.load1 tab_ok rfl rfl rfl (fun _ => rfl) ?r2 rfl ?h2) ?_
    case r2 => apply Rd.add; (first | exact Rd.blk 0 rfl | exact Rd.blk 1 rfl)
    case h2 => rfl
    refine WG.y rfl rfl (by decide) (Yl.neg rfl rfl (fun _ => rfl) (by intro _; constructor <;> (try dsimp only) <;> omega)) ?_
    refine WG.run tab_ok 1 rfl ?_
    refine' WG.y rfl rfl (by decide) (Yl.load1 tab_ok rfl rfl rfl (fun _ => rfl) ?r3 rfl ?h3) ?_
    case r3 => apply Rd.add; (first | exact Rd.blk 0 rfl | exact Rd.blk 1 rfl)
    case h3 => rfl
    -- build
    refine WG.y rfl rfl (by decide) (Yl.build (parts := [(0, .tmp 8), (1, .tmp 10)]) tab_ok rfl rfl rfl rfl (fun _ => rfl) rfl rfl) ?_
    refine WG.callV (v := .int .i64 (floorF (-x.1, x.2))) en49 rfl rfl (by decide) (CallOp.mk' rfl rfl rfl rfl) (fun _ => rfl) (fun hg => by
      have h := RFloor_V (R := R) (x := (-x.1, x.2)) ⟨by constructor <;> (dsimp only; omega), hx.2⟩
      exact h) ?_
    refine WG.y rfl rfl (by decide) (Yl.neg rfl rfl (fun _ => rfl) (by intro _; constructor <;> (try dsimp only) <;> omega)) ?_
    refine WG.run tab_ok 1 rfl ?_
    refine WG.nil ?_
    refine WE.nxt ?_
    refine W.ret ?_
    refine WE.subE (E' := E) (by (repeat (first | exact List.Sublist.refl _ | exact List.nil_sublist _ | apply List.Sublist.cons_cons | apply List.Sublist.cons)); done) ?_
    refine WE.retF tab_ok [_] rfl ⟨rfl, trivial⟩ (RLe.refl _) ?_
    exact ⟨by rw [hcn]; rfl, rfl⟩

end Go.Proofs.YtjacpnojnoompaaDoor

/- Fractions: the texts of the reference. No condition. -/
set_option linter.unusedSimpArgs false
set_option linter.unusedVariables false
namespace Go.Proofs.YtjacpnojnoompaaDoor
open Go Go.RowKit Go.Proofs.YtjacpnojnoompaaDoor.K Go.Proofs.YtjacpnojnoompaaDoor.M

theorem Decimal_V {R : Ro} (u : Nat) : u ≤ 1073741824 → FnV Tryd.prog 75 [.int .i64 (u : Int)] R (.string (str (Lib.decDigits u))) := by
  refine Nat.strongRecOn (motive := fun u => u ≤ 1073741824 → FnV Tryd.prog 75 [.int .i64 (u : Int)] R (.string (str (Lib.decDigits u)))) u (fun u ih hu => ?_)
  refine Fn.toV (fun w0 E => ?_)
  refine Fn.enter (n := 25) Tryd.func75 rfl rfl (Nat.le_of_ble_eq_true rfl) rfl ?_
  refine W.seq ?_
  refine W.region _ ?_
  refine WG.run tab_ok 1 rfl ?_
  refine WG.nil ?_
  refine WE.nxt ?_
  refine W.seq ?_
  refine W.seq ?_
  refine W.region _ ?_
  refine WG.run tab_ok 2 rfl ?_
  refine WG.nil ?_
  refine WE.nxt ?_
  refine W.condD rfl (fun hc0 => ?_) (fun hc0 => ?_)
  · try dsimp only at hc0
    omega
  · try dsimp only at hc0
    refine W.skip ?_
    refine WE.nxt ?_
    refine W.seq ?_
    refine W.seq ?_
    refine W.region _ ?_
    refine WG.run tab_ok 2 rfl ?_
    refine WG.nil ?_
    refine WE.nxt ?_
    refine W.condD rfl (fun hc1 => ?_) (fun hc1 => ?_)
    · try dsimp only at hc1
      refine W.seq ?_
      refine W.region _ ?_
      refine WG.run tab_ok 2 rfl ?_
      refine WG.y rfl rfl (by decide) (Yl.add rfl rfl rfl (fun _ => rfl) (by intro _; constructor <;> (try dsimp only) <;> omega)) ?_
      refine WG.y rfl rfl (by decide) (Yl.sliceSLH tab_ok rfl rfl rfl rfl rfl rfl (fun _ => rfl) (by intro _; (simp only [List.length_cons, List.length_nil]; omega))) ?_
      refine WG.run tab_ok 1 rfl ?_
      refine WG.nil ?_
      refine WE.nxt ?_
      refine W.ret ?_
      refine WE.then_ret ?_
      refine WE.subE (E' := E) (by (repeat (first | exact List.Sublist.refl _ | exact List.nil_sublist _ | apply List.Sublist.cons_cons | apply List.Sublist.cons)); done) ?_
      refine WE.retF tab_ok [_] rfl ⟨rfl, trivial⟩ (RLe.refl _) ?_
      have e : str ((([48, 49, 50, 51, 52, 53, 54, 55, 56, 57] : List UInt8).take ((u : Int) + 1).toNat).drop (u : Int).toNat) = str (Lib.decDigits u) := by
        rw [show ((u : Int) + 1).toNat = u + 1 by omega, show (u : Int).toNat = u by omega, dig_slice (by omega), Lib.decDigits, dif_pos (by omega)]
      exact ⟨congrArg Value.string e, rfl⟩
    · try dsimp only at hc1
      refine W.skip ?_
      refine WE.nxt ?_
      refine W.seq ?_
      refine W.regionQ _ mixed (by kernel_rfl) ?_
      refine WG.run tab_ok 1 rfl ?_
      refine WG.y rfl rfl (by decide) (Yl.quo rfl rfl rfl (fun _ => rfl) (by intro _; constructor <;> (try dsimp only) <;> omega) (by intro _; omega)) ?_
      refine WG.callV (v := .string (str (Lib.decDigits (u / 10)))) en75 rfl rfl (by decide) (CallOp.mk' rfl rfl rfl rfl) (fun _ => rfl) (fun hg => by
        have h := ih (u / 10) (by omega) (by omega)
        exact h) ?_
      refine WG.run tab_ok 1 rfl ?_
      refine WG.y rfl rfl (by decide) (Yl.rem rfl rfl rfl (fun _ => rfl) (by intro _; (try dsimp only) <;> omega) (by intro _; (try dsimp only) <;> omega)) ?_
      refine WG.run tab_ok 1 rfl ?_
      refine WG.y rfl rfl (by decide) (Yl.rem rfl rfl rfl (fun _ => rfl) (by intro _; (try dsimp only) <;> omega) (by intro _; (try dsimp only) <;> omega)) ?_
      refine WG.y rfl rfl (by decide) (Yl.add rfl rfl rfl (fun _ => rfl) (by intro _; constructor <;> (try dsimp only) <;> omega)) ?_
      refine WG.y rfl rfl (by decide) (Yl.sliceSLH tab_ok rfl rfl rfl rfl rfl rfl (fun _ => rfl) (by intro _; (simp only [List.length_cons, List.length_nil]; omega))) ?_
      refine WG.y rfl rfl (by decide) (Yl.cat rfl rfl rfl (fun _ => rfl) (by intro _; (rw [str_size, str_size]; have h1 := decDigits_le (u / 10); simp only [List.length_drop, List.length_take, List.length_cons, List.length_nil]; omega))) ?_
      refine WG.run tab_ok 1 rfl ?_
      refine WG.nil ?_
      refine WE.nxt ?_
      refine W.ret ?_
      refine WE.subE (E' := E) (by (repeat (first | exact List.Sublist.refl _ | exact List.nil_sublist _ | apply List.Sublist.cons_cons | apply List.Sublist.cons)); done) ?_
      refine WE.retF tab_ok [_] rfl ⟨rfl, trivial⟩ (RLe.refl _) ?_
      have e : str (Lib.decDigits (u / 10)) ++ str ((([48, 49, 50, 51, 52, 53, 54, 55, 56, 57] : List UInt8).take ((u : Int) % 10 + 1).toNat).drop ((u : Int) % 10).toNat) = str (Lib.decDigits u) := by
        rw [show ((u : Int) % 10 + 1).toNat = u % 10 + 1 by omega, show ((u : Int) % 10).toNat = u % 10 by omega, dig_slice (by omega), str_append]
        conv => rhs; rw [Lib.decDigits, dif_neg (by omega)]
      exact ⟨congrArg Value.string e, rfl⟩

theorem DecimalZ_V {R : Ro} {n : Int} (hn : -1073741824 ≤ n ∧ n ≤ 1073741824) : FnV Tryd.prog 75 [.int .i64 n] R (.string (str (Lib.itoa n))) := by
  by_cases hneg : 0 ≤ n
  · have h := Decimal_V (R := R) n.toNat (by omega)
    rw [show ((n.toNat : Nat) : Int) = n by omega] at h
    have e : Lib.itoa n = Lib.decDigits n.toNat := by unfold Lib.itoa; rw [if_neg (by omega)]
    rw [e]; exact h
  refine Fn.toV (fun w0 E => ?_)
  have e : Lib.itoa n = 45 :: Lib.decDigits n.natAbs := by unfold Lib.itoa; rw [if_pos (by omega)]
  have hsz := str_size (Lib.decDigits n.natAbs)
  have hdl := decDigits_le n.natAbs
  refine Fn.enter (n := 25) Tryd.func75 rfl rfl (Nat.le_of_ble_eq_true rfl) rfl ?_
  refine W.seq ?_
  refine W.region _ ?_
  refine WG.run tab_ok 1 rfl ?_
  refine WG.nil ?_
  refine WE.nxt ?_
  refine W.seq ?_
  refine W.seq ?_
  refine W.region _ ?_
  refine WG.run tab_ok 2 rfl ?_
  refine WG.nil ?_
  refine WE.nxt ?_
  refine W.condD rfl (fun hc0 => ?_) (fun hc0 => ?_)
  · try dsimp only at hc0
    refine W.seq ?_
    refine W.region _ ?_
    refine WG.run tab_ok 1 rfl ?_
    refine WG.y rfl rfl (by decide) (Yl.neg rfl rfl (fun _ => rfl) (by intro _; constructor <;> (try dsimp only) <;> omega)) ?_
    refine WG.callV (v := .string (str (Lib.decDigits n.natAbs))) en75 rfl rfl (by decide) (CallOp.mk' rfl rfl rfl rfl) (fun _ => rfl) (fun hg => by
      have h := Decimal_V (R := R) n.natAbs (by omega)
      rw [show ((n.natAbs : Nat) : Int) = -n by omega] at h
      exact h) ?_
    refine WG.y rfl rfl (by decide) (Yl.cat rfl rfl rfl (fun _ => rfl) (by intro _; (show (str [45]).size + _ ≤ _; rw [str_size]; simp only [List.length_cons, List.length_nil]; omega))) ?_
    refine WG.run tab_ok 1 rfl ?_
    refine WG.nil ?_
    refine WE.nxt ?_
    refine W.ret ?_
    refine WE.then_ret ?_
    refine WE.subE (E' := E) (by (repeat (first | exact List.Sublist.refl _ | exact List.nil_sublist _ | apply List.Sublist.cons_cons | apply List.Sublist.cons)); done) ?_
    refine WE.retF tab_ok [_] rfl ⟨rfl, trivial⟩ (RLe.refl _) ?_
    exact ⟨by show Value.string (str [45] ++ str (Lib.decDigits n.natAbs)) = _; rw [str_append, e]; rfl, rfl⟩
  · try dsimp only at hc0
    omega

theorem RFormat_V {R : Ro} {x : Fr} (hx : InR x.1 ∧ InR x.2) : FnV Tryd.prog 47 [.agg #[.int .i64 x.1, .int .i64 x.2]] R (.string (str (fmtF x))) := by
  refine Fn.toV (fun w0 E => ?_)
  refine Fn.enter (n := 20) Tryd.func47 rfl rfl (Nat.le_of_ble_eq_true rfl) rfl ?_
  refine W.seq ?_
  refine W.region _ ?_
  refine WL.ef rfl rfl (by decide) (Ef.box rfl rfl (fun b1 => ?_))
  refine WG.run tab_ok 1 rfl ?_
  refine WG.nil ?_
  refine WE.nxt ?_
  refine W.seq ?_
  refine W.seq ?_
  refine W.region _ ?_
  refine' WG.y rfl rfl (by decide) (Yl.load1 tab_ok rfl rfl rfl (fun _ => rfl) ?r1 rfl ?h1) ?_
  case r1 => (first | exact Rd.blk 0 rfl | exact Rd.blk 1 rfl)
  case h1 => rfl
  refine WG.callV en48 rfl rfl (by decide) (CallOp.mk' rfl rfl rfl rfl) (fun _ => rfl) (fun hg => RValid_V hx) ?_
  refine WG.run tab_ok 1 rfl ?_
  refine WG.nil ?_
  refine WE.nxt ?_
  refine W.cond rfl (fun hc0 => ?_) (fun hc0 => ?_)
  · try simp only [decide_eq_true_eq, decide_eq_false_iff_not, beq_iff_eq, bne_iff_ne, beq_eq_false_iff_ne, bne_eq_false_iff_eq, ne_eq, Bool.or_eq_true, Bool.or_eq_false_iff, Bool.and_eq_true, Bool.and_eq_false_imp, Bool.not_eq_true, Bool.not_eq_true', Bool.not_eq_false', Classical.not_not, Int.not_lt, Int.not_le, gt_iff_lt, ge_iff_le] at hc0
    have hvx : ¬ validF x = true := by simpa using hc0
    refine W.seq ?_
    refine W.region _ ?_
    refine WG.run tab_ok 1 rfl ?_
    refine WG.nil ?_
    refine WE.nxt ?_
    refine W.ret ?_
    refine WE.then_ret ?_
    refine WE.subE (E' := E) (by (repeat (first | exact List.Sublist.refl _ | exact List.nil_sublist _ | apply List.Sublist.cons_cons | apply List.Sublist.cons)); done) ?_
    refine WE.retF tab_ok [_] rfl ⟨rfl, trivial⟩ (RLe.refl _) ?_
    exact ⟨by unfold fmtF; rw [if_neg hvx]; rfl, rfl⟩
  · try simp only [decide_eq_true_eq, decide_eq_false_iff_not, beq_iff_eq, bne_iff_ne, beq_eq_false_iff_ne, bne_eq_false_iff_eq, ne_eq, Bool.or_eq_true, Bool.or_eq_false_iff, Bool.and_eq_true, Bool.and_eq_false_imp, Bool.not_eq_true, Bool.not_eq_true', Bool.not_eq_false', Classical.not_not, Int.not_lt, Int.not_le, gt_iff_lt, ge_iff_le] at hc0
    have hvx : validF x = true := by simpa using hc0
    have hv := validF_iff.1 hvx
    have l1 := itoa_le x.1
    have l2 := itoa_le x.2
    have s1 := str_size (Lib.itoa x.1)
    have s2 := str_size (Lib.itoa x.2)
    have s4 : (str (Lib.itoa x.1) ++ (⟨#[47]⟩ : ByteArray)).size = (Lib.itoa x.1).length + 1 := by rw [show (⟨#[47]⟩ : ByteArray) = str [47] from rfl, str_append, str_size]; simp
    have s5 : (⟨#[47]⟩ : ByteArray).size = 1 := rfl
    refine W.skip ?_
    refine WE.nxt ?_
    refine W.seq ?_
    refine W.seq ?_
    refine W.region _ ?_
    refine WG.run tab_ok 1 rfl ?_
    refine' WG.y rfl rfl (by decide) (Yl.load1 tab_ok rfl rfl rfl (fun _ => rfl) ?r2 rfl ?h2) ?_
    case r2 => apply Rd.add; (first | exact Rd.blk 0 rfl | exact Rd.blk 1 rfl)
    case h2 => rfl
    refine WG.run tab_ok 1 rfl ?_
    refine WG.nil ?_
    refine WE.nxt ?_
    refine W.condE rfl (fun hc1 => ?_) (fun hc1 => ?_)
    · try dsimp only at hc1
      refine W.seq ?_
      refine W.region _ ?_
      refine WG.run tab_ok 1 rfl ?_
      refine' WG.y rfl rfl (by decide) (Yl.load1 tab_ok rfl rfl rfl (fun _ => rfl) ?r3 rfl ?h3) ?_
      case r3 => apply Rd.add; (first | exact Rd.blk 0 rfl | exact Rd.blk 1 rfl)
      case h3 => rfl
      refine WG.callV en75 rfl rfl (by decide) (CallOp.mk' rfl rfl rfl rfl) (fun _ => rfl) (fun hg => DecimalZ_V (by omega)) ?_
      refine WG.run tab_ok 1 rfl ?_
      refine WG.nil ?_
      refine WE.nxt ?_
      refine W.ret ?_
      refine WE.then_ret ?_
      refine WE.subE (E' := E) (by (repeat (first | exact List.Sublist.refl _ | exact List.nil_sublist _ | apply List.Sublist.cons_cons | apply List.Sublist.cons)); done) ?_
      refine WE.retF tab_ok [_] rfl ⟨rfl, trivial⟩ (RLe.refl _) ?_
      exact ⟨by unfold fmtF; rw [if_pos hvx, if_pos (by omega), List.append_nil]; rfl, rfl⟩
    · try dsimp only at hc1
      refine W.skip ?_
      refine WE.nxt ?_
      refine W.seq ?_
      refine W.regionQ _ mixed (by kernel_rfl) ?_
      refine WG.run tab_ok 1 rfl ?_
      refine' WG.y rfl rfl (by decide) (Yl.load1 tab_ok rfl rfl rfl (fun _ => rfl) ?r4 rfl ?h4) ?_
      case r4 => apply Rd.add; (first | exact Rd.blk 0 rfl | exact Rd.blk 1 rfl)
      case h4 => rfl
      refine WG.callV en75 rfl rfl (by decide) (CallOp.mk' rfl rfl rfl rfl) (fun _ => rfl) (fun hg => DecimalZ_V (by omega)) ?_
      refine WG.y rfl rfl (by decide) (Yl.cat rfl rfl rfl (fun _ => rfl) (by intro _; omega)) ?_
      refine WG.run tab_ok 1 rfl ?_
      refine' WG.y rfl rfl (by decide) (Yl.load1 tab_ok rfl rfl rfl (fun _ => rfl) ?r5 rfl ?h5) ?_
      case r5 => apply Rd.add; (first | exact Rd.blk 0 rfl | exact Rd.blk 1 rfl)
      case h5 => rfl
      refine WG.callV en75 rfl rfl (by decide) (CallOp.mk' rfl rfl rfl rfl) (fun _ => rfl) (fun hg => DecimalZ_V (by omega)) ?_
      refine WG.y rfl rfl (by decide) (Yl.cat rfl rfl rfl (fun _ => rfl) (by intro _; omega)) ?_
      refine WG.run tab_ok 1 rfl ?_
      refine WG.nil ?_
      refine WE.nxt ?_
      refine W.ret ?_
      refine WE.subE (E' := E) (by (repeat (first | exact List.Sublist.refl _ | exact List.nil_sublist _ | apply List.Sublist.cons_cons | apply List.Sublist.cons)); done) ?_
      refine WE.retF tab_ok [_] rfl ⟨rfl, trivial⟩ (RLe.refl _) ?_
      exact ⟨by unfold fmtF; rw [if_pos hvx, if_neg (by omega)]; show Value.string (str (Lib.itoa x.1) ++ str [47] ++ str (Lib.itoa x.2)) = _; rw [str_append, str_append, List.append_assoc]; rfl, rfl⟩

theorem Digits_V {R : Ro} {l : List UInt8} (hl : l.length ≤ 4000000000) : FnV Tryd.prog 76 [.string (str l)] R (.int .i64 (digF l)) := by
  refine Fn.toV (fun w0 E => ?_)
  have hsz := str_size l
  refine Fn.enter (n := 34) Tryd.func76 rfl rfl (Nat.le_of_ble_eq_true rfl) rfl ?_
  refine W.seq ?_
  refine W.region _ ?_
  refine WG.run tab_ok 1 rfl ?_
  refine WG.nil ?_
  refine WE.nxt ?_
  refine W.seq ?_
  refine W.region _ ?_
  refine WG.run tab_ok 1 rfl ?_
  refine WG.nil ?_
  refine WE.nxt ?_
  refine W.seq ?_
  refine W.seq ?_
  refine W.region _ ?_
  refine WG.run tab_ok 1 rfl ?_
  refine WG.nil ?_
  refine WE.nxt ?_
  refine W.block ?_
  refine W.loopK (β := Nat × Int) (fun (i, acc) => i ≤ l.length ∧ (0 ≤ acc ∧ acc ≤ 10737418250) ∧ digF l = digGo acc (l.drop i)) (fun (i, acc) => [(3, true, .int .i64 acc), (4, true, .int .i64 (i : Int))]) [0] [_] [] _ rfl (fun (i, acc) => []) (fun (i, acc) => l.length - i) ((0, 0)) (⟨Nat.zero_le _, by decide, rfl⟩) ⟨rfl, rfl, rfl, rfl⟩ (by (repeat (first | exact List.Sublist.refl _ | exact List.nil_sublist _ | apply List.Sublist.cons_cons | apply List.Sublist.cons)); done) ?_
  intro st hst
  obtain ⟨i, acc⟩ := st
  dsimp only [zipE, setAll, List.cons_append, List.nil_append, List.set_cons_zero, List.set_cons_succ] at hst ⊢
  obtain ⟨hi, hacc, hdg⟩ := hst
  have hbr := byteAt_range l i
  refine W.seq ?_
  refine W.seq ?_
  refine W.region _ ?_
  refine WG.run tab_ok 4 rfl ?_
  refine WG.nil ?_
  refine WE.nxt ?_
  refine W.condD rfl (fun hc0 => ?_) (fun hc0 => ?_)
  · try dsimp only at hc0
    have hil : i < l.length := by omega
    rw [drop_at hil] at hdg
    have hbt : byteAt l ((i : Int)).toNat = byteAt l i := rfl
    refine W.skip ?_
    refine WE.nxt ?_
    refine W.seq ?_
    refine W.block ?_
    refine W.seq ?_
    refine W.seq ?_
    refine W.region _ ?_
    refine WG.run tab_ok 2 rfl ?_
    refine WG.y rfl rfl (by decide) (Yl.sidx tab_ok rfl rfl rfl rfl rfl (fun _ => rfl) (by intro _; constructor <;> (try dsimp only) <;> omega)) ?_
    refine WG.run tab_ok 2 rfl ?_
    refine WG.y rfl rfl (by decide) (pureV_ok tab_ok rfl (by first | exact fun _ => rfl | exact fun h => h | (intro h; simp_all))) ?_
    refine WG.y rfl rfl (by decide) (pureV_ok tab_ok rfl (by first | exact fun _ => rfl | exact fun h => h | (intro h; simp_all))) ?_
    refine WG.y rfl rfl (by decide) (Yl.sidx tab_ok rfl rfl rfl rfl rfl (by first | exact fun _ => rfl | exact fun h => h | (intro h; simp_all)) (by intro hg; (try simp only [decide_eq_true_eq, decide_eq_false_iff_not, beq_iff_eq, bne_iff_ne, beq_eq_false_iff_ne, bne_eq_false_iff_eq, ne_eq, Bool.or_eq_true, Bool.or_eq_false_iff, Bool.and_eq_true, Bool.and_eq_false_imp, Bool.not_eq_true, Bool.not_eq_true', Bool.not_eq_false', Classical.not_not, Int.not_lt, Int.not_le, gt_iff_lt, ge_iff_le] at hg); constructor <;> (try dsimp only) <;> omega)) ?_
    refine WG.y rfl rfl (by decide) (pureV_ok tab_ok rfl (by first | exact fun _ => rfl | exact fun h => h | (intro h; simp_all))) ?_
    refine WG.y rfl rfl (by decide) (Yl.por rfl rfl rfl (fun _ => rfl) (by intro h1 h2; simp_all <;> omega)) ?_
    refine WG.run tab_ok 1 rfl ?_
    refine WG.y rfl rfl (by decide) (pureV_ok tab_ok rfl (by first | exact fun _ => rfl | exact fun h => h | (intro h; simp_all))) ?_
    refine WG.y rfl rfl (by decide) (pureV_ok tab_ok rfl (by first | exact fun _ => rfl | exact fun h => h | (intro h; simp_all))) ?_
    refine WG.y rfl rfl (by decide) (Yl.por rfl rfl rfl (fun _ => rfl) (by intro h1 h2; simp_all <;> omega)) ?_
    refine WG.nil ?_
    refine WE.nxt ?_
    refine W.cond rfl (fun hc1 => ?_) (fun hc1 => ?_)
    · try simp only [decide_eq_true_eq, decide_eq_false_iff_not, beq_iff_eq, bne_iff_ne, beq_eq_false_iff_ne, bne_eq_false_iff_eq, ne_eq, Bool.or_eq_true, Bool.or_eq_false_iff, Bool.and_eq_true, Bool.and_eq_false_imp, Bool.not_eq_true, Bool.not_eq_true', Bool.not_eq_false', Classical.not_not, Int.not_lt, Int.not_le, gt_iff_lt, ge_iff_le] at hc1
      have hz : digF l = 0 := by rw [hdg]; exact if_pos (by show byteAt l i < 48 ∨ 57 < byteAt l i ∨ _; omega)
      refine W.seq ?_
      refine W.region _ ?_
      refine WG.run tab_ok 1 rfl ?_
      refine WG.nil ?_
      refine WE.nxt ?_
      refine W.ret ?_
      refine WE.then_ret ?_
      refine WE.blk_ret ?_
      refine WE.then_ret ?_
      refine WE.then_ret ?_
      refine WE.blk_ret ?_
      refine WE.then_ret ?_
      refine WE.subE (E' := E) (by (repeat (first | exact List.Sublist.refl _ | exact List.nil_sublist _ | apply List.Sublist.cons_cons | apply List.Sublist.cons)); done) ?_
      refine WE.retF tab_ok [_] rfl ⟨rfl, trivial⟩ (RLe.refl _) ?_
      exact ⟨congrArg (Value.int .i64) hz.symm, rfl⟩
    · try simp only [decide_eq_true_eq, decide_eq_false_iff_not, beq_iff_eq, bne_iff_ne, beq_eq_false_iff_ne, bne_eq_false_iff_eq, ne_eq, Bool.or_eq_true, Bool.or_eq_false_iff, Bool.and_eq_true, Bool.and_eq_false_imp, Bool.not_eq_true, Bool.not_eq_true', Bool.not_eq_false', Classical.not_not, Int.not_lt, Int.not_le, gt_iff_lt, ge_iff_le] at hc1
      have hz : digF l = digGo (10 * acc + (byteAt l i - 48)) (l.drop (i + 1)) := by rw [hdg]; exact if_neg (by show ¬ (byteAt l i < 48 ∨ 57 < byteAt l i ∨ _); omega)
      refine W.skip ?_
      refine WE.nxt ?_
      refine W.region _ ?_
      refine WG.run tab_ok 1 rfl ?_
      refine WG.y rfl rfl (by decide) (Yl.mul rfl rfl rfl (fun _ => rfl) (by intro _; constructor <;> (try dsimp only) <;> omega)) ?_
      refine WG.run tab_ok 2 rfl ?_
      refine WG.y rfl rfl (by decide) (Yl.sidx tab_ok rfl rfl rfl rfl rfl (fun _ => rfl) (by intro _; constructor <;> (try dsimp only) <;> omega)) ?_
      refine WG.y rfl rfl (by decide) (Yl.subB rfl rfl rfl (fun _ => rfl) (by intro _; constructor <;> (try dsimp only) <;> omega)) ?_
      refine WG.y rfl rfl (by decide) (Yl.convId tab_ok rfl rfl rfl rfl rfl rfl (fun _ => rfl) (by intro _; (try dsimp only); first | exact u64_id ⟨by omega, by omega⟩ | exact i64_wrap ⟨by omega, by omega⟩)) ?_
      refine WG.y rfl rfl (by decide) (Yl.add rfl rfl rfl (fun _ => rfl) (by intro _; constructor <;> (try dsimp only) <;> omega)) ?_
      refine WG.run tab_ok 1 rfl ?_
      refine WG.nil ?_
      refine WE.blk _ ?_
      refine WE.nxt ?_
      refine W.region _ ?_
      refine WG.run tab_ok 1 rfl ?_
      refine WG.y rfl rfl (by decide) (Yl.add rfl rfl rfl (fun _ => rfl) (by intro _; constructor <;> (try dsimp only) <;> omega)) ?_
      refine WG.run tab_ok 1 rfl ?_
      refine WG.nil ?_
      refine WE.again ((i + 1, 10 * acc + (byteAt l i - 48))) (⟨by dsimp only; omega, by dsimp only; omega, hz⟩) (by (try dsimp only); omega) ⟨rfl, rfl, rfl, rfl⟩ (RLe.refl _) (by (repeat (first | exact List.Sublist.refl _ | exact List.nil_sublist _ | apply List.Sublist.cons_cons | apply List.Sublist.cons)); done)
  · try dsimp only at hc0
    obtain rfl : i = l.length := by omega
    rw [List.drop_length] at hdg
    refine W.exit ?_
    refine WE.then_exit ?_
    refine WE.then_exit ?_
    refine WE.blk_exit ?_
    refine WE.nxt ?_
    refine W.seq ?_
    refine W.region _ ?_
    refine WG.run tab_ok 2 rfl ?_
    refine WG.nil ?_
    refine WE.nxt ?_
    refine W.ret ?_
    refine WE.subE (E' := E) (by (repeat (first | exact List.Sublist.refl _ | exact List.nil_sublist _ | apply List.Sublist.cons_cons | apply List.Sublist.cons)); done) ?_
    refine WE.retF tab_ok [_] rfl ⟨rfl, trivial⟩ (RLe.refl _) ?_
    exact ⟨congrArg (Value.int .i64) hdg.symm, rfl⟩

end Go.Proofs.YtjacpnojnoompaaDoor

/- Fractions: the reference reads the same. No condition. -/
set_option linter.unusedSimpArgs false
set_option linter.unusedVariables false
namespace Go.Proofs.YtjacpnojnoompaaDoor
open Go Go.RowKit Go.Proofs.YtjacpnojnoompaaDoor.K Go.Proofs.YtjacpnojnoompaaDoor.M

theorem rparse_eq (l : List UInt8) : finF l (rnum (rparts l).1, digF (rparts l).2) = parseF l := by
  by_cases hex : ∃ y, validF y = true ∧ fmtF y = l
  · obtain ⟨y, hy, hl⟩ := hex
    have h1 := parse_fmt hy
    rw [hl] at h1
    rw [h1]
    obtain ⟨v1, v2, v3, v4, _⟩ := validF_iff.1 hy
    have e : l = Lib.itoa y.1 ++ (if y.2 = 1 then [] else 47 :: Lib.itoa y.2) := by rw [← hl]; exact if_pos hy
    have hx : (rnum (rparts l).1, digF (rparts l).2) = y := by
      by_cases h5 : y.2 = 1
      · rw [if_pos h5, List.append_nil] at e
        have hc := cutS_none (itoa_mem y.1)
        rw [← e] at hc
        unfold rparts
        rw [hc]
        dsimp only
        rw [if_neg (by decide)]
        dsimp only
        rw [e, rnum_itoa ⟨v3, v4⟩]
        exact Prod.ext rfl h5.symm
      · rw [if_neg h5] at e
        have hc := cutS_at (itoa_mem y.1) (Lib.itoa y.2)
        rw [← e] at hc
        unfold rparts
        rw [hc]
        dsimp only
        rw [if_pos rfl]
        dsimp only
        rw [rnum_itoa ⟨v3, v4⟩, digF_itoa ⟨by omega, v2⟩]
    rw [hx]
    exact if_pos ⟨hy, hl⟩
  · have hn : ∀ z, finF l z = ((0, 0), 4) := fun z => if_neg (fun h => hex ⟨z, h⟩)
    rw [hn]
    unfold parseF
    split
    · rfl
    · split
      · split
        · rfl
        · exact (hn _).symm
      · exact (hn _).symm

theorem RParse_V {R : Ro} {l : List UInt8} (hl : l.length ≤ 4000000000) : FnV Tryd.prog 56 [.string (str l)] R (frV (parseF l)) := by
  refine Fn.toVS (fun w0 E => ?_)
  have hsz := str_size l
  refine Fn.enter (n := 63) Tryd.func56 rfl rfl (Nat.le_of_ble_eq_true rfl) rfl ?_
  refine W.seq ?_
  refine W.region _ ?_
  refine WL.ef rfl rfl (by decide) (Ef.alloc tab_ok rfl rfl (fun b2 => ?_))
  refine WG.run tab_ok 1 rfl ?_
  refine WG.nil ?_
  refine WE.nxt ?_
  refine W.seq ?_
  refine W.region _ ?_
  refine WG.run tab_ok 4 rfl ?_
  refine WG.nil ?_
  refine WE.nxt ?_
  refine W.seq ?_
  refine W.seq ?_
  refine W.region _ ?_
  refine WG.run tab_ok 1 rfl ?_
  refine WG.nil ?_
  refine WE.nxt ?_
  refine W.block ?_
  refine W.loopK (β := Nat × Int) (fun (i, at1) => i ≤ l.length ∧ at1 = Lib.indexByte (l.take i) 47) (fun (i, at1) => [(6, true, .int .i64 at1), (7, true, .int .i64 (i : Int))]) [0, 2, 4, 5] [_, _, _, _] [] _ rfl (fun (i, at1) => []) (fun (i, at1) => l.length - i) ((0, -1)) (⟨Nat.zero_le _, rfl⟩) ⟨rfl, rfl, rfl, rfl, rfl, rfl, rfl⟩ (by (repeat (first | exact List.Sublist.refl _ | exact List.nil_sublist _ | apply List.Sublist.cons_cons | apply List.Sublist.cons)); done) ?_
  intro st hst
  obtain ⟨i, at1⟩ := st
  dsimp only [zipE, setAll, List.cons_append, List.nil_append, List.set_cons_zero, List.set_cons_succ] at hst ⊢
  obtain ⟨hi, hat⟩ := hst
  have hbr := byteAt_range l i
  refine W.seq ?_
  refine W.seq ?_
  refine W.region _ ?_
  refine WG.run tab_ok 4 rfl ?_
  refine WG.nil ?_
  refine WE.nxt ?_
  refine W.condD rfl (fun hc0 => ?_) (fun hc0 => ?_)
  · try dsimp only at hc0
    have hil : i < l.length := by omega
    have hbt : byteAt l ((i : Int)).toNat = byteAt l i := rfl
    have hsn := indexByte_snoc (l.take i) (l.getD i 0) 47
    rw [← take_at hil, ← hat, List.length_take, Nat.min_eq_left (by omega)] at hsn
    have hb47 : l.getD i 0 = 47 ↔ byteAt l i = 47 := ⟨fun h => by unfold byteAt; rw [h]; rfl, fun h => by unfold byteAt at h; exact UInt8.toNat_inj.1 (by rw [show (47 : UInt8).toNat = 47 from rfl]; omega)⟩
    have hge := indexByte_ge (l.take i) 47
    rw [← hat] at hge
    refine W.skip ?_
    refine WE.nxt ?_
    refine W.seq ?_
    refine W.block ?_
    refine W.seq ?_
    refine W.region _ ?_
    refine WG.run tab_ok 2 rfl ?_
    refine WG.y rfl rfl (by decide) (Yl.sidx tab_ok rfl rfl rfl rfl rfl (fun _ => rfl) (by intro _; constructor <;> (try dsimp only) <;> omega)) ?_
    refine WG.run tab_ok 2 rfl ?_
    refine WG.y rfl rfl (by decide) (pureV_ok tab_ok rfl (by first | exact fun _ => rfl | exact fun h => h | (intro h; simp_all))) ?_
    refine WG.y rfl rfl (by decide) (pureV_ok tab_ok rfl (by first | exact fun _ => rfl | exact fun h => h | (intro h; simp_all))) ?_
    refine WG.y rfl rfl (by decide) (Yl.pand rfl rfl rfl (fun _ => rfl) (by intro h1 h2; simp_all <;> omega)) ?_
    refine WG.nil ?_
    refine WE.nxt ?_
    refine W.cond rfl (fun hc1 => ?_) (fun hc1 => ?_)
    · try simp only [decide_eq_true_eq, decide_eq_false_iff_not, beq_iff_eq, bne_iff_ne, beq_eq_false_iff_ne, bne_eq_false_iff_eq, ne_eq, Bool.or_eq_true, Bool.or_eq_false_iff, Bool.and_eq_true, Bool.and_eq_false_imp, Bool.not_eq_true, Bool.not_eq_true', Bool.not_eq_false', Classical.not_not, Int.not_lt, Int.not_le, gt_iff_lt, ge_iff_le] at hc1
      have hstep : (i : Int) = Lib.indexByte (l.take (i + 1)) 47 := by rw [hsn, if_neg (by omega), if_pos (hb47.2 (by omega))]
      refine W.region _ ?_
      refine WG.run tab_ok 2 rfl ?_
      refine WG.nil ?_
      refine WE.blk _ ?_
      refine WE.nxt ?_
      refine W.region _ ?_
      refine WG.run tab_ok 1 rfl ?_
      refine WG.y rfl rfl (by decide) (Yl.add rfl rfl rfl (fun _ => rfl) (by intro _; constructor <;> (try dsimp only) <;> omega)) ?_
      refine WG.run tab_ok 1 rfl ?_
      refine WG.nil ?_
      refine WE.again ((i + 1, (i : Int))) (⟨by dsimp only; omega, hstep⟩) (by (try dsimp only); omega) ⟨rfl, rfl, rfl, rfl, rfl, rfl, rfl⟩ (RLe.refl _) (by (repeat (first | exact List.Sublist.refl _ | exact List.nil_sublist _ | apply List.Sublist.cons_cons | apply List.Sublist.cons)); done)
    · try simp only [decide_eq_true_eq, decide_eq_false_iff_not, beq_iff_eq, bne_iff_ne, beq_eq_false_iff_ne, bne_eq_false_iff_eq, ne_eq, Bool.or_eq_true, Bool.or_eq_false_iff, Bool.and_eq_true, Bool.and_eq_false_imp, Bool.not_eq_true, Bool.not_eq_true', Bool.not_eq_false', Classical.not_not, Int.not_lt, Int.not_le, gt_iff_lt, ge_iff_le] at hc1
      have hstep : at1 = Lib.indexByte (l.take (i + 1)) 47 := by
        rw [hsn]
        by_cases h0 : 0 ≤ at1
        · rw [if_pos h0]
        · rw [if_neg h0, if_neg (fun h => by have := hb47.1 h; omega)]; omega
      refine W.skip ?_
      refine WE.blk _ ?_
      refine WE.nxt ?_
      refine W.region _ ?_
      refine WG.run tab_ok 1 rfl ?_
      refine WG.y rfl rfl (by decide) (Yl.add rfl rfl rfl (fun _ => rfl) (by intro _; constructor <;> (try dsimp only) <;> omega)) ?_
      refine WG.run tab_ok 1 rfl ?_
      refine WG.nil ?_
      refine WE.again ((i + 1, at1)) (⟨by dsimp only; omega, hstep⟩) (by (try dsimp only); omega) ⟨rfl, rfl, rfl, rfl, rfl, rfl, rfl⟩ (RLe.refl _) (by (repeat (first | exact List.Sublist.refl _ | exact List.nil_sublist _ | apply List.Sublist.cons_cons | apply List.Sublist.cons)); done)
  · try dsimp only at hc0
    obtain rfl : i = l.length := by omega
    rw [List.take_length] at hat
    have hge := indexByte_ge l 47
    rw [← hat] at hge
    have hce := cutS_eq l
    rw [← hat] at hce
    refine W.exit ?_
    refine WE.then_exit ?_
    refine WE.then_exit ?_
    refine WE.blk_exit ?_
    refine WE.nxt ?_
    refine W.seqCut (β := List UInt8 × List UInt8) (fun (nn, dd) => (nn, dd) = rparts l ∧ nn.length ≤ 4000000000 ∧ dd.length ≤ 4000000000) (fun (nn, dd) => [(0, true, .string (str l)), (2, true, .pointer (some ⟨b2, 0, none⟩)), (4, true, .string (str nn)), (5, true, .string (str dd))]) (fun _ => R) (fun _ => .blk b2 [.int .i64 0, .int .i64 0] :: E) ?_ ?_
    ·
      intro zz hst
      obtain ⟨nn, dd⟩ := zz
      obtain ⟨hrp, hnl, hdl⟩ := hst
      dsimp only at hrp hnl hdl ⊢
      have hnsz := str_size nn
      have hdn := digF_range nn
      have hddr := digF_range dd
      refine W.seq ?_
      refine W.region _ ?_
      refine WG.run tab_ok 1 rfl ?_
      refine WG.callV en76 rfl rfl (by decide) (CallOp.mk' rfl rfl rfl rfl) (fun _ => rfl) (fun hg => Digits_V (l := nn) (by omega)) ?_
      refine WG.run tab_ok 1 rfl ?_
      refine WG.callV en76 rfl rfl (by decide) (CallOp.mk' rfl rfl rfl rfl) (fun _ => rfl) (fun hg => Digits_V (l := dd) (by omega)) ?_
      -- build
      refine WG.y rfl rfl (by decide) (Yl.build (parts := [(0, .tmp 35), (1, .tmp 37)]) tab_ok rfl rfl rfl rfl (fun _ => rfl) rfl rfl) ?_
      refine WL.ef rfl rfl (by decide) (Ef.alloc tab_ok rfl rfl (fun b8 => ?_))
      first | refine WL.efN rfl rfl (Ef.store0 0 tab_ok rfl rfl rfl rfl rfl rfl rfl rfl ?_) | refine WL.efN rfl rfl (Ef.store0 1 tab_ok rfl rfl rfl rfl rfl rfl rfl rfl ?_) | refine WL.efN rfl rfl (Ef.store0 2 tab_ok rfl rfl rfl rfl rfl rfl rfl rfl ?_) | refine WL.efN rfl rfl (Ef.store0 3 tab_ok rfl rfl rfl rfl rfl rfl rfl rfl ?_) | refine WL.efN rfl rfl (Ef.store0 4 tab_ok rfl rfl rfl rfl rfl rfl rfl rfl ?_)
      refine WG.nil ?_
      refine WE.nxt ?_
      refine W.seqCut (β := Fr) (fun x => (InR x.1 ∧ InR x.2) ∧ parseF l = finF l x) (fun x => [(0, true, .string (str l)), (2, true, .pointer (some ⟨b2, 0, none⟩)), (8, true, .pointer (some ⟨b8, 0, none⟩))]) (fun _ => R) (fun x => .blk b8 [.int .i64 x.1, .int .i64 x.2] :: .blk b2 [.int .i64 0, .int .i64 0] :: E) ?_ ?_
      ·
        intro x hst
        obtain ⟨hx, hpx⟩ := hst
        refine W.seq ?_
        refine W.seq ?_
        refine W.region _ ?_
        refine' WG.y rfl rfl (by decide) (Yl.load1 tab_ok rfl rfl rfl (fun _ => rfl) ?r1 rfl ?h1) ?_
        case r1 => (first | exact Rd.blk 0 rfl | exact Rd.blk 1 rfl | exact Rd.blk 2 rfl | exact Rd.blk 3 rfl | exact Rd.blk 4 rfl)
        case h1 => rfl
        refine WG.callV en48 rfl rfl (by decide) (CallOp.mk' rfl rfl rfl rfl) (fun _ => rfl) (fun hg => RValid_V hx) ?_
        refine WG.run tab_ok 2 rfl ?_
        refine' WG.y rfl rfl (by decide) (Yl.loadG tab_ok rfl rfl rfl (by first | exact fun _ => rfl | exact fun h => h | (intro h; simp_all)) ?r2 rfl ?h2 ?g2) ?_
        case r2 => (first | exact Rd.blkC 0 rfl | exact Rd.blkC 1 rfl | exact Rd.blkC 2 rfl | exact Rd.blkC 3 rfl | exact Rd.blkC 4 rfl)
        case h2 => rfl
        case g2 => first | exact fun _ => trivial | (intro hg; (try simp only [decide_eq_true_eq, decide_eq_false_iff_not, beq_iff_eq, bne_iff_ne, beq_eq_false_iff_ne, bne_eq_false_iff_eq, ne_eq, Bool.or_eq_true, Bool.or_eq_false_iff, Bool.and_eq_true, Bool.and_eq_false_imp, Bool.not_eq_true, Bool.not_eq_true', Bool.not_eq_false', Classical.not_not, Int.not_lt, Int.not_le, gt_iff_lt, ge_iff_le] at hg); (try dsimp only); omega)
        refine WG.callV en47 rfl rfl (by decide) (CallOp.mk' rfl rfl rfl rfl) (by first | exact fun _ => rfl | exact fun h => h | (intro h; simp_all)) (fun hg => RFormat_V hx) ?_
        refine WG.y rfl rfl (by decide) (pureV_ok tab_ok rfl (by first | exact fun _ => rfl | exact fun h => h | (intro h; simp_all))) ?_
        refine WG.y rfl rfl (by decide) (Yl.neS rfl rfl rfl (by first | exact fun _ => rfl | exact fun h => h | (intro h; simp_all))) ?_
        refine WG.y rfl rfl (by decide) (Yl.por rfl rfl rfl (fun _ => rfl) (by intro h1 h2; simp_all <;> omega)) ?_
        refine WG.nil ?_
        refine WE.nxt ?_
        refine W.cond rfl (fun hc2 => ?_) (fun hc2 => ?_)
        · try simp only [decide_eq_true_eq, decide_eq_false_iff_not, beq_iff_eq, bne_iff_ne, beq_eq_false_iff_ne, bne_eq_false_iff_eq, ne_eq, Bool.or_eq_true, Bool.or_eq_false_iff, Bool.and_eq_true, Bool.and_eq_false_imp, Bool.not_eq_true, Bool.not_eq_true', Bool.not_eq_false', Classical.not_not, Int.not_lt, Int.not_le, gt_iff_lt, ge_iff_le] at hc2
          have hfin : finF l x = ((0, 0), 4) := if_neg (by rintro ⟨h1, h2⟩; rw [h1, h2] at hc2; simp at hc2)
          refine W.seq ?_
          refine W.region _ ?_
          -- build
          refine WG.y rfl rfl (by decide) (Yl.build (parts := []) tab_ok rfl rfl rfl rfl (fun _ => rfl) rfl rfl) ?_
          first | refine WL.efN rfl rfl (Ef.store0 0 tab_ok rfl rfl rfl rfl rfl rfl rfl rfl ?_) | refine WL.efN rfl rfl (Ef.store0 1 tab_ok rfl rfl rfl rfl rfl rfl rfl rfl ?_) | refine WL.efN rfl rfl (Ef.store0 2 tab_ok rfl rfl rfl rfl rfl rfl rfl rfl ?_) | refine WL.efN rfl rfl (Ef.store0 3 tab_ok rfl rfl rfl rfl rfl rfl rfl rfl ?_) | refine WL.efN rfl rfl (Ef.store0 4 tab_ok rfl rfl rfl rfl rfl rfl rfl rfl ?_)
          refine WG.run tab_ok 1 rfl ?_
          refine WG.nil ?_
          refine WE.nxt ?_
          refine W.ret ?_
          refine WE.then_ret ?_
          refine WE.retF tab_ok [_, _] rfl ⟨⟨_, _, _, rfl, rfl, rfl, ((by first | exact Rd.blk 0 rfl | exact Rd.blk 1 rfl | exact Rd.blk 2 rfl | exact Rd.blk 3 rfl | exact Rd.blk 4 rfl)), rfl⟩, rfl, trivial⟩ (RLe.refl _) ?_
          exact ⟨by rw [hpx, hfin]; rfl, (by (repeat (first | exact List.Sublist.refl _ | exact List.nil_sublist _ | apply List.Sublist.cons_cons | apply List.Sublist.cons)); done)⟩
        · try simp only [decide_eq_true_eq, decide_eq_false_iff_not, beq_iff_eq, bne_iff_ne, beq_eq_false_iff_ne, bne_eq_false_iff_eq, ne_eq, Bool.or_eq_true, Bool.or_eq_false_iff, Bool.and_eq_true, Bool.and_eq_false_imp, Bool.not_eq_true, Bool.not_eq_true', Bool.not_eq_false', Classical.not_not, Int.not_lt, Int.not_le, gt_iff_lt, ge_iff_le] at hc2
          have hfin : finF l x = (x, 0) := if_pos (by revert hc2; cases hv : validF x <;> simp; intro h; exact str_inj h)
          refine W.skip ?_
          refine WE.nxt ?_
          refine W.seq ?_
          refine W.region _ ?_
          refine' WG.y rfl rfl (by decide) (Yl.load1 tab_ok rfl rfl rfl (fun _ => rfl) ?r3 rfl ?h3) ?_
          case r3 => (first | exact Rd.blk 0 rfl | exact Rd.blk 1 rfl | exact Rd.blk 2 rfl | exact Rd.blk 3 rfl | exact Rd.blk 4 rfl)
          case h3 => rfl
          first | refine WL.efN rfl rfl (Ef.store0 0 tab_ok rfl rfl rfl rfl rfl rfl rfl rfl ?_) | refine WL.efN rfl rfl (Ef.store0 1 tab_ok rfl rfl rfl rfl rfl rfl rfl rfl ?_) | refine WL.efN rfl rfl (Ef.store0 2 tab_ok rfl rfl rfl rfl rfl rfl rfl rfl ?_) | refine WL.efN rfl rfl (Ef.store0 3 tab_ok rfl rfl rfl rfl rfl rfl rfl rfl ?_) | refine WL.efN rfl rfl (Ef.store0 4 tab_ok rfl rfl rfl rfl rfl rfl rfl rfl ?_)
          refine WG.run tab_ok 1 rfl ?_
          refine WG.nil ?_
          refine WE.nxt ?_
          refine W.ret ?_
          refine WE.retF tab_ok [_, _] rfl ⟨⟨_, _, _, rfl, rfl, rfl, ((by first | exact Rd.blk 0 rfl | exact Rd.blk 1 rfl | exact Rd.blk 2 rfl | exact Rd.blk 3 rfl | exact Rd.blk 4 rfl)), rfl⟩, rfl, trivial⟩ (RLe.refl _) ?_
          exact ⟨by rw [hpx, hfin]; rfl, (by (repeat (first | exact List.Sublist.refl _ | exact List.nil_sublist _ | apply List.Sublist.cons_cons | apply List.Sublist.cons)); done)⟩
      ·
        refine W.seq ?_
        refine W.region _ ?_
        refine WG.run tab_ok 4 rfl ?_
        refine WG.y rfl rfl (by decide) (pureV_ok tab_ok rfl (by first | exact fun _ => rfl | exact fun h => h | (intro h; simp_all))) ?_
        refine WG.y rfl rfl (by decide) (Yl.sidx tab_ok rfl rfl rfl rfl rfl (by first | exact fun _ => rfl | exact fun h => h | (intro h; simp_all)) (by intro hg; (try simp only [decide_eq_true_eq, decide_eq_false_iff_not, beq_iff_eq, bne_iff_ne, beq_eq_false_iff_ne, bne_eq_false_iff_eq, ne_eq, Bool.or_eq_true, Bool.or_eq_false_iff, Bool.and_eq_true, Bool.and_eq_false_imp, Bool.not_eq_true, Bool.not_eq_true', Bool.not_eq_false', Classical.not_not, Int.not_lt, Int.not_le, gt_iff_lt, ge_iff_le] at hg); constructor <;> (try dsimp only) <;> omega)) ?_
        refine WG.y rfl rfl (by decide) (pureV_ok tab_ok rfl (by first | exact fun _ => rfl | exact fun h => h | (intro h; simp_all))) ?_
        refine WG.y rfl rfl (by decide) (Yl.pand rfl rfl rfl (fun _ => rfl) (by intro h1 h2; simp_all <;> omega)) ?_
        refine WG.nil ?_
        refine WE.nxt ?_
        refine W.cond rfl (fun hc3 => ?_) (fun hc3 => ?_)
        · try simp only [decide_eq_true_eq, decide_eq_false_iff_not, beq_iff_eq, bne_iff_ne, beq_eq_false_iff_ne, bne_eq_false_iff_eq, ne_eq, Bool.or_eq_true, Bool.or_eq_false_iff, Bool.and_eq_true, Bool.and_eq_false_imp, Bool.not_eq_true, Bool.not_eq_true', Bool.not_eq_false', Classical.not_not, Int.not_lt, Int.not_le, gt_iff_lt, ge_iff_le] at hc3
          have hb0 : byteAt nn (Int.toNat 0) = byteAt nn 0 := rfl
          have hn0 : 0 < nn.length ∧ byteAt nn 0 = 45 := ⟨by omega, by omega⟩
          have hd1 := digF_range (nn.drop 1)
          have hd2 := digF_range (nn.drop (Int.toNat 1))
          refine W.region _ ?_
          refine WG.run tab_ok 1 rfl ?_
          refine WG.y rfl rfl (by decide) (Yl.sliceSL tab_ok rfl rfl rfl rfl rfl (fun _ => rfl) (by intro _; omega)) ?_
          refine WG.callV en76 rfl rfl (by decide) (CallOp.mk' rfl rfl rfl rfl) (fun _ => rfl) (fun hg => Digits_V (l := nn.drop (Int.toNat 1)) (by rw [List.length_drop]; omega)) ?_
          refine WG.y rfl rfl (by decide) (Yl.neg rfl rfl (fun _ => rfl) (by intro _; constructor <;> (try dsimp only) <;> omega)) ?_
          refine WG.run tab_ok 1 rfl ?_
          first | refine WL.efN rfl rfl (Ef.store 0 tab_ok rfl rfl rfl rfl rfl rfl rfl rfl ?_) | refine WL.efN rfl rfl (Ef.store 1 tab_ok rfl rfl rfl rfl rfl rfl rfl rfl ?_) | refine WL.efN rfl rfl (Ef.store 2 tab_ok rfl rfl rfl rfl rfl rfl rfl rfl ?_) | refine WL.efN rfl rfl (Ef.store 3 tab_ok rfl rfl rfl rfl rfl rfl rfl rfl ?_) | refine WL.efN rfl rfl (Ef.store 4 tab_ok rfl rfl rfl rfl rfl rfl rfl rfl ?_)
          refine WG.nil ?_
          refine WE.cut (-(digF (nn.drop 1)), digF dd) ⟨⟨by show InR (-(digF (nn.drop 1))); constructor <;> omega, by show InR (digF dd); constructor <;> omega⟩, (by have := rparse_eq l; rw [← hrp] at this; rw [← this]; unfold rnum; rw [if_pos hn0])⟩ ⟨rfl, rfl, rfl, rfl⟩ (RLe.refl _) (by (repeat (first | exact List.Sublist.refl _ | exact List.nil_sublist _ | apply List.Sublist.cons_cons | apply List.Sublist.cons)); done)
        · try simp only [decide_eq_true_eq, decide_eq_false_iff_not, beq_iff_eq, bne_iff_ne, beq_eq_false_iff_ne, bne_eq_false_iff_eq, ne_eq, Bool.or_eq_true, Bool.or_eq_false_iff, Bool.and_eq_true, Bool.and_eq_false_imp, Bool.not_eq_true, Bool.not_eq_true', Bool.not_eq_false', Classical.not_not, Int.not_lt, Int.not_le, gt_iff_lt, ge_iff_le] at hc3
          have hn0 : ¬ (0 < nn.length ∧ byteAt nn 0 = 45) := by rintro ⟨h1, h2⟩; revert hc3; simp; omega
          refine W.skip ?_
          refine WE.cut (digF nn, digF dd) ⟨⟨by show InR (digF nn); constructor <;> omega, by show InR (digF dd); constructor <;> omega⟩, (by have := rparse_eq l; rw [← hrp] at this; rw [← this]; unfold rnum; rw [if_neg hn0])⟩ ⟨rfl, rfl, rfl, rfl⟩ (RLe.refl _) (by (repeat (first | exact List.Sublist.refl _ | exact List.nil_sublist _ | apply List.Sublist.cons_cons | apply List.Sublist.cons)); done)
    ·
      refine W.seq ?_
      refine W.region _ ?_
      refine WG.run tab_ok 2 rfl ?_
      refine WG.nil ?_
      refine WE.nxt ?_
      refine W.condD rfl (fun hc4 => ?_) (fun hc4 => ?_)
      · try dsimp only at hc4
        refine W.regionQ _ mixed (by kernel_rfl) ?_
        refine WG.run tab_ok 2 rfl ?_
        refine WG.y rfl rfl (by decide) (Yl.sliceSH tab_ok rfl rfl rfl rfl rfl (fun _ => rfl) (by intro _; omega)) ?_
        refine WG.run tab_ok 2 rfl ?_
        refine WG.y rfl rfl (by decide) (Yl.add rfl rfl rfl (fun _ => rfl) (by intro _; constructor <;> (try dsimp only) <;> omega)) ?_
        refine WG.y rfl rfl (by decide) (Yl.sliceSL tab_ok rfl rfl rfl rfl rfl (fun _ => rfl) (by intro _; omega)) ?_
        refine WG.run tab_ok 2 rfl ?_
        refine WG.nil ?_
        refine WE.cut (l.take at1.toNat, l.drop (at1.toNat + 1)) ⟨by unfold rparts; rw [hce, if_pos (show 0 ≤ at1 by omega)]; rfl, by (try dsimp only); rw [List.length_take]; omega, by (try dsimp only); rw [List.length_drop]; omega⟩ ⟨rfl, rfl, rfl, by rw [show (at1 + 1).toNat = at1.toNat + 1 by omega]; rfl, rfl⟩ (RLe.refl _) (by (repeat (first | exact List.Sublist.refl _ | exact List.nil_sublist _ | apply List.Sublist.cons_cons | apply List.Sublist.cons)); done)
      · try dsimp only at hc4
        refine W.skip ?_
        refine WE.cut (l, [49]) ⟨by unfold rparts; rw [hce, if_neg (show ¬ 0 ≤ at1 by omega)]; rfl, hl, by decide⟩ ⟨rfl, rfl, rfl, rfl, rfl⟩ (RLe.refl _) (by (repeat (first | exact List.Sublist.refl _ | exact List.nil_sublist _ | apply List.Sublist.cons_cons | apply List.Sublist.cons)); done)

end Go.Proofs.YtjacpnojnoompaaDoor

/- What a reference's line does where its choice looks at what is left of a tick, plain. No condition. -/
namespace Go.Proofs.YtjacpnojnoompaaDoor.M
open Go Go.Proofs.YtjacpnojnoompaaDoor.K

section
variable {τ : Type} (ps : List Pkt) (rc : Int → St → τ → Int × τ)
def rpickL (left : Int) (st : St) (g : τ) : Int × τ := if st.now = -1 then rc left st g else (st.now, g)
def rinnerL : Nat → Int → St → τ → St × τ
  | 0, _, st, g => (st, g)
  | k + 1, left, st, g =>
    if left ≤ 0 then (st, g) else
      let r := rpickL rc left st g
      let st1 := { st with now := r.1 }
      if r.1 = -1 then (st1, r.2) else rinnerL k (left - rsendN ps left st1) (rsend ps left st1) r.2
def rtickL (cap : Int) (st : St) (g : τ) : St × τ :=
  let x := rinnerL ps rc cap.toNat cap (rbegin st) g
  ({ x.1 with time := x.1.time + 1 }, x.2)
def rticksL (cap : Int) : Nat → St → τ → St × τ
  | 0, st, g => (st, g)
  | k + 1, st, g => rticksL cap k (rtickL ps rc cap st g).1 (rtickL ps rc cap st g).2
def rrunL (cap : Int) (classes ticks : Nat) (g : τ) : St := (rticksL ps rc cap ticks (rstart ps classes) g).1
end

section
variable {σ τ : Type} {ps : List Pkt} {ch : MS → σ → Int × Nat × σ} {good : MS → σ → Prop} {rel : Nat → Nat → Prop} {classes col : Nat} {s : RS σ} {st : St} {g : τ} {rc : Int → St → τ → Int × τ} {ρ : σ → τ → Prop}
/-- what a reference's choice must do beside that of the program -/
def AlikeL {σ τ : Type} (ps : List Pkt) (ch : MS → σ → Int × Nat × σ) (good : MS → σ → Prop) (rc : Int → St → τ → Int × τ) (ρ : σ → τ → Prop) : Prop :=
  ∀ (ms : MS) (sg : σ) (st : St) (g : τ), good ms sg → ms.begun.length = ps.length → ρ sg g → (st.time : Int) = ms.now → st.now = -1 → (∀ i, i < ps.length → M.waits ps st i = (decide ((nth ps i).time ≤ ms.now) && !nth ms.begun i)) →
    (rc ms.left st g).1 = (if (ch ms sg).1 < 0 then -1 else (ch ms sg).1) ∧ ρ (ch ms sg).2.2 (rc ms.left st g).2
end
section
variable {ps : List Pkt} {classes len : Nat} {B : Int} {st : St}
/-- a choice of what waits -/
def WaitingL {τ : Type} (ps : List Pkt) (rc : Int → St → τ → Int × τ) : Prop := ∀ l st g, (rc l st g).1 = -1 ∨ (0 ≤ (rc l st g).1 ∧ (rc l st g).1 < ps.length ∧ M.waits ps st (rc l st g).1.toNat = true)
end
end Go.Proofs.YtjacpnojnoompaaDoor.M

/- Priorities, plain: the choice of the program and of the reference. No condition. -/
namespace Go.Proofs.YtjacpnojnoompaaDoor.M
open Go Go.Proofs.YtjacpnojnoompaaDoor.K

/-- the first class from c on in which something waits -/
def prioFrom (nx : Int → Int) : Nat → Nat → Int
  | 0, _ => -1
  | k + 1, c => if 0 ≤ nx c then nx c else prioFrom nx k (c + 1)
def prioCh (ps : List Pkt) (n : Nat) (ms : MS) (_ : Unit) : Int × Nat × Unit := (prioFrom (nextW ps ms) n 0, skipTo ms.begun ms.before, ())
def prioRc (ps : List Pkt) (n : Nat) (_ : Int) (st : St) (_ : Unit) : Int × Unit := (prioFrom (firstW ps st) n 0, ())
section
variable {ps : List Pkt} {n : Nat}
/-- before which packet all have been begun, when so many classes have been looked at -/
def bfN (ms : MS) (c : Nat) : Nat := if c = 0 then ms.before else skipTo ms.begun ms.before
end
end Go.Proofs.YtjacpnojnoompaaDoor.M

/- Time slots, plain: the choice of the program and of the reference. No condition. -/
namespace Go.Proofs.YtjacpnojnoompaaDoor.M
open Go Go.Proofs.YtjacpnojnoompaaDoor.K

/-- how many ticks in a row from t on belong to a class; -1 if all do -/
def aheadN (tb : List Int) (cls : Int) (t : Nat) : Int := findFrom (fun n => decide (cls < 0) || nth tb ((t + n) % tb.length) != cls) tb.length 0
def afterN (tb : List Int) (t : Nat) : Nat := if findFrom (fun n => nth tb ((t + 1 + n) % tb.length) != nth tb (t % tb.length)) tb.length 0 = -1 then tb.length else (findFrom (fun n => nth tb ((t + 1 + n) % tb.length) != nth tb (t % tb.length)) tb.length 0).toNat
def roomN (cap : Int) (tb : List Int) (t : Nat) (left : Int) : Int := if afterN tb t = tb.length then 1073741824 else left + cap * (afterN tb t : Int)
def slotT (tb : List Int) (t : Nat) : Int := nth tb (t % tb.length)
def slotCh (ps : List Pkt) (cap : Int) (tb : List Int) (ms : MS) (_ : Unit) : Int × Nat × Unit :=
  if slotT tb ms.now.toNat < 0 then (-1, ms.before, ())
  else if nextW ps ms (slotT tb ms.now.toNat) < 0 then (-1, skipTo ms.begun ms.before, ())
  else if aheadN tb (slotT tb ms.now.toNat) ms.now.toNat ≠ -1 ∧ (nth ps (nextW ps ms (slotT tb ms.now.toNat)).toNat).size > ms.left + (aheadN tb (slotT tb ms.now.toNat) ms.now.toNat - 1) * cap then (-1, skipTo ms.begun ms.before, ())
  else (nextW ps ms (slotT tb ms.now.toNat), skipTo ms.begun ms.before, ())
def slotRc (ps : List Pkt) (cap : Int) (tb : List Int) (left : Int) (st : St) (_ : Unit) : Int × Unit :=
  if 0 ≤ slotT tb st.time ∧ 0 ≤ firstW ps st (slotT tb st.time) ∧ (nth ps (firstW ps st (slotT tb st.time)).toNat).size ≤ roomN cap tb st.time left then (firstW ps st (slotT tb st.time), ()) else (-1, ())
section
variable {ps : List Pkt} {cap : Int} {tb : List Int} {ms : MS} {st : St}
end
/-- tables that are right -/
def okT (classes : Int) (tb : List Int) : Bool := decide (1 ≤ tb.length) && decide (tb.length ≤ 40) && tb.all fun c => decide (-1 ≤ c) && decide (c < classes)
/-- the classes of a table -/
def classesT (tb : List Int) : Int := tb.foldl (fun m c => if m < c + 1 then c + 1 else m) 1
def srunE (cap ticks : Int) (tb : List Int) (ps : List Pkt) : Int := if okT 6 tb = true then lrunE cap (classesT tb) ticks ps else 2
end Go.Proofs.YtjacpnojnoompaaDoor.M

/- What a class is sent while it is backlogged, plain, whatever the choice: an invariant of the rounds is carried from tick to tick. No condition. -/
namespace Go.Proofs.YtjacpnojnoompaaDoor.M
open Go Go.Proofs.YtjacpnojnoompaaDoor.K

/-- the bytes of a class that have been begun -/
def begK (k : Int) : List Pkt → List Bool → Int
  | p :: ps, b :: bs => (if b = true ∧ p.flow = k then p.size else 0) + begK k ps bs
  | _, _ => 0
theorem begK_set (k : Int) : ∀ (ps : List Pkt) (bs : List Bool) (i : Nat), i < ps.length → i < bs.length → nth bs i = false → begK k ps (bs.set i true) = begK k ps bs + (if (nth ps i).flow = k then (nth ps i).size else 0)
  | [], _, i, h, _, _ => by simp at h
  | _ :: _, [], i, _, h, _ => by simp at h
  | p :: ps, b :: bs, 0, _, _, hb => by
    have : b = false := hb
    subst this
    simp only [List.set_cons_zero, begK, show nth (p :: ps) 0 = p from rfl]
    simp; omega
  | p :: ps, b :: bs, i + 1, h1, h2, hb => by
    have := begK_set k ps bs i (by simpa using h1) (by simpa using h2) hb
    simp only [List.set_cons_succ, begK, this]
    rw [show nth (p :: ps) (i + 1) = nth ps i from rfl]; omega
/-- a class of which less has been begun than has arrived waits -/
theorem begK_wait {k t : Int} (hk : 0 ≤ k) : ∀ (ps : List Pkt) (bs : List Bool), bs.length = ps.length → (∀ p ∈ ps, 0 ≤ p.size) → begK k ps bs < pbytes k (t + 1) ps → ∃ i, i < ps.length ∧ nth bs i = false ∧ (nth ps i).flow = k ∧ (nth ps i).time ≤ t
  | [], _, _, _, h => by simp [begK, pbytes] at h
  | _ :: _, [], hl, _, _ => by simp at hl
  | p :: ps, b :: bs, hl, hs, h => by
    have hp := hs p (by simp)
    by_cases h0 : b = false ∧ p.flow = k ∧ p.time ≤ t
    · exact ⟨0, by simp, h0.1, h0.2.1, h0.2.2⟩
    · have h1 : begK k ps bs < pbytes k (t + 1) ps := by
        simp only [begK, pbytes] at h
        by_cases hh : hit k (t + 1) p
        · rw [if_pos hh] at h
          have hb : b = true ∧ p.flow = k := by
            unfold hit at hh
            have hf : p.flow = k := by omega
            refine ⟨?_, hf⟩
            cases b with
            | true => rfl
            | false => exact absurd ⟨rfl, hf, by omega⟩ h0
          rw [if_pos hb] at h
          omega
        · rw [if_neg hh] at h
          split at h <;> omega
      obtain ⟨i, g1, g2, g3, g4⟩ := begK_wait hk ps bs (by simpa using hl) (fun q hq => hs q (by simp [hq])) h1
      exact ⟨i + 1, by simpa using g1, g2, g3, g4⟩

/-- the sums of a class: begun, less what is still to be sent of the open packet -/
def Cl {σ : Type} (ps : List Pkt) (k : Nat) (col : Nat) (s : RS σ) : Prop :=
  nth (nth s.sent k) col = begK k ps s.ms.begun - (if 0 ≤ s.cur ∧ (nth ps s.cur.toNat).flow = k then s.rest else 0)
/-- an invariant of the rounds: of the choice's state, the open packet and what is left of it, what the class and all others have been sent -/
structure Per {σ : Type} (ps : List Pkt) (ch : MS → σ → Int × Nat × σ) (good : MS → σ → Prop) (k : Nat) (J : σ → Int → Int → Int → Int → Prop) : Prop where
  pick : ∀ ms sg r own oth, good ms sg → ms.begun.length = ps.length → (∃ i, i < ps.length ∧ nth ms.begun i = false ∧ (nth ps i).flow = k ∧ (nth ps i).time ≤ ms.now) → J sg (-1) r own oth → 0 ≤ (ch ms sg).1 → J (ch ms sg).2.2 (ch ms sg).1 (nth ps (ch ms sg).1.toNat).size own oth
  send : ∀ (sg : σ) (cur rest own oth n : Int), 0 ≤ cur → cur < ps.length → 1 ≤ n → n ≤ rest → J sg cur rest own oth →
    J sg (if rest - n = 0 then -1 else cur) (rest - n) (own + (if (nth ps cur.toNat).flow = k then n else 0)) (oth + (if (nth ps cur.toNat).flow = k then 0 else n))
  none : ∀ sg c c' r r' own oth, c < 0 → c' < 0 → J sg c r own oth → J sg c' r' own oth
section
variable {σ : Type} {ps : List Pkt} {ch : MS → σ → Int × Nat × σ} {good : MS → σ → Prop} {rel : Nat → Nat → Prop} {classes col k : Nat} {s : RS σ} {J : σ → Int → Int → Int → Int → Prop}
theorem Cl.pickup (hg : Fair ps ch good rel) (hw : Wk ps classes good rel col s) (h : Cl ps k col s) : Cl ps k col (pickup ps ch s) := by
  unfold M.pickup
  by_cases hc : 0 ≤ s.cur
  · rw [if_pos hc]; exact h
  · rw [if_neg hc]
    unfold Cl at h
    rw [if_neg (by omega)] at h
    by_cases hr : (ch s.ms s.sg).1 < 0
    · simp only [hr, if_true]
      unfold Cl
      dsimp only
      rw [if_neg (by omega)]; exact h
    · simp only [hr, if_false]
      have hi := hg.idx _ _ hw.good hw.blen (by omega)
      obtain ⟨w1, w2⟩ := hg.waits _ _ hw.good hw.blen (by omega)
      have hb := hw.blen
      unfold Cl
      dsimp only
      rw [begK_set _ _ _ _ (by omega) (by omega) w1, h]
      by_cases hf : (nth ps (ch s.ms s.sg).1.toNat).flow = k
      · rw [if_pos hf, if_pos ⟨by omega, hf⟩]; omega
      · rw [if_neg hf, if_neg (fun h => hf h.2)]; omega
/-- what is sent of the class: n or nothing -/
theorem Cl.send (hfl : ∀ p ∈ ps, 0 ≤ p.flow ∧ p.flow < classes) (hk : k < classes) {t : Nat} (hw : Wk ps classes good rel (t + 1) s) (h : Cl ps k (t + 1) s) (hc : 0 ≤ s.cur) (hl : 0 < s.ms.left) :
    ∃ n, 1 ≤ n ∧ n ≤ s.rest ∧ (M.send ps t s).ms.left = s.ms.left - n ∧ (M.send ps t s).rest = s.rest - n ∧ (M.send ps t s).cur = (if s.rest - n = 0 then -1 else s.cur) ∧ (M.send ps t s).sg = s.sg ∧ (M.send ps t s).ms.begun = s.ms.begun ∧
      nth (nth (M.send ps t s).sent k) (t + 1) = nth (nth s.sent k) (t + 1) + (if (nth ps s.cur.toNat).flow = k then n else 0) ∧ Cl ps k (t + 1) (M.send ps t s) := by
  obtain ⟨c1, c2, c3⟩ := hw.cur hc
  have hfl' := hfl _ (nth_mem (show s.cur.toNat < ps.length by omega))
  have hlen := hw.slen
  refine ⟨if s.ms.left < s.rest then s.ms.left else s.rest, by split <;> omega, by split <;> omega, rfl, rfl, rfl, rfl, rfl, ?_⟩
  have hn : (if s.ms.left < s.rest then s.ms.left else s.rest) ≤ s.rest := by split <;> omega
  have hcol : nth (nth (M.send ps t s).sent k) (t + 1) = nth (nth s.sent k) (t + 1) + (if (nth ps s.cur.toNat).flow = k then (if s.ms.left < s.rest then s.ms.left else s.rest) else 0) := by
    unfold M.send
    dsimp only
    by_cases hf : (nth ps s.cur.toNat).flow = k
    · have e : (nth ps s.cur.toNat).flow.toNat = k := by omega
      rw [if_pos hf, e, nth_set_self (by omega), nth_set_self]
      have := hw.rlen _ (nth_mem (xs := s.sent) (k := k) (by omega))
      omega
    · rw [if_neg hf, nth_set_ne (by omega)]; omega
  refine ⟨hcol, ?_⟩
  unfold Cl at h ⊢
  rw [hcol, h]
  unfold M.send
  dsimp only
  generalize (if s.ms.left < s.rest then s.ms.left else s.rest) = n at hn ⊢
  by_cases hf : (nth ps s.cur.toNat).flow = k
  · rw [if_pos ⟨hc, hf⟩, if_pos hf]
    by_cases hz : s.rest - n = 0
    · simp only [hz, if_true]; rw [if_neg (by omega)]; omega
    · simp only [hz, if_false]; rw [if_pos ⟨hc, hf⟩]; omega
  · rw [if_neg (fun h => hf h.2), if_neg hf]
    by_cases hz : s.rest - n = 0
    · simp only [hz, if_true]; rw [if_neg (by omega)]; omega
    · simp only [hz, if_false]; rw [if_neg (fun h => hf h.2)]; omega
theorem Per.inner (hg : Fair ps ch good rel) (hb : Busy ps ch good) (hJ : Per ps ch good k J) (hs : ∀ p ∈ ps, 1 ≤ p.size) (hfl : ∀ p ∈ ps, 0 ≤ p.flow ∧ p.flow < classes) (hk : k < classes) {t : Nat} : ∀ (j : Nat) (s : RS σ) (own oth : Int), Wk ps classes good rel (t + 1) s → Cl ps k (t + 1) s → s.ms.now = t → 0 ≤ s.ms.left →
    (J s.sg s.cur s.rest own oth ∨ pbytes k ((t : Int) + 1) ps ≤ nth (nth s.sent k) (t + 1)) →
    Cl ps k (t + 1) (inner ps ch t j s) ∧ nth (nth s.sent k) (t + 1) ≤ nth (nth (inner ps ch t j s).sent k) (t + 1) ∧
      (nth (nth (inner ps ch t j s).sent k) (t + 1) < pbytes k ((t : Int) + 1) ps →
        J (inner ps ch t j s).sg (inner ps ch t j s).cur (inner ps ch t j s).rest (own + (nth (nth (inner ps ch t j s).sent k) (t + 1) - nth (nth s.sent k) (t + 1))) (oth + ((colSum (inner ps ch t j s).sent (t + 1) - colSum s.sent (t + 1)) - (nth (nth (inner ps ch t j s).sent k) (t + 1) - nth (nth s.sent k) (t + 1)))))
  | 0, s, own, oth, hw, hc, hn, hl, h => by
    simp only [M.inner]
    refine ⟨hc, Int.le_refl _, fun hlt => ?_⟩
    rcases h with h | h
    · simpa using h
    · omega
  | j + 1, s, own, oth, hw, hc, hn, hl, h => by
    simp only [M.inner]
    by_cases hl0 : s.ms.left ≤ 0
    · rw [if_pos hl0]
      refine ⟨hc, Int.le_refl _, fun hlt => ?_⟩
      rcases h with h | h
      · simpa using h
      · omega
    · rw [if_neg hl0]
      have hw1 := hw.pickup hg hs
      have hc1 := hc.pickup hg hw
      obtain ⟨e1, e2, e3, e4⟩ := pickup_same ps ch s
      -- the choice
      have hJ1 : nth (nth s.sent k) (t + 1) < pbytes k ((t : Int) + 1) ps → 0 ≤ (M.pickup ps ch s).cur ∧ J (M.pickup ps ch s).sg (M.pickup ps ch s).cur (M.pickup ps ch s).rest own oth := fun hlt => by
        have h := h.resolve_right (by omega)
        by_cases hcur : 0 ≤ s.cur
        · unfold M.pickup; rw [if_pos hcur]; exact ⟨hcur, h⟩
        · unfold Cl at hc
          rw [if_neg (fun x => hcur x.1)] at hc
          obtain ⟨i, g1, g2, g3, g4⟩ := begK_wait (k := (k : Int)) (t := (t : Int)) (by omega) ps s.ms.begun hw.blen (fun p hp => by have := hs p hp; omega) (by omega)
          have hr0 : 0 ≤ (ch s.ms s.sg).1 := by
            apply Classical.byContradiction
            intro hneg
            have := hb _ _ hw.good hw.blen (by omega) i g1 (by omega)
            rw [this] at g2; cases g2
          have hp := hJ.pick s.ms s.sg s.rest own oth hw.good hw.blen ⟨i, g1, g2, g3, by omega⟩ (hJ.none _ s.cur _ s.rest _ own oth (by omega) (by omega) h) hr0
          unfold M.pickup
          rw [if_neg hcur]
          dsimp only
          rw [if_neg (by omega)]
          exact ⟨hr0, hp⟩
      by_cases hcn : (M.pickup ps ch s).cur < 0
      · rw [if_pos hcn]
        refine ⟨hc1, by rw [e3]; exact Int.le_refl _, fun hlt => ?_⟩
        rw [e3] at hlt
        have := (hJ1 hlt).1
        omega
      · rw [if_neg hcn]
        obtain ⟨n, n1, n2, n3, n4, n5, n6, n7, n8, n9⟩ := Cl.send hfl hk hw1 hc1 (by omega) (by rw [e1]; omega)
        obtain ⟨g1, g2, g3, g4, g5, g6⟩ := hw1.send hfl hg.free (by rw [e2]; exact hn) (by omega) (by rw [e1]; omega)
        have hn0 : 0 ≤ (if (nth ps (M.pickup ps ch s).cur.toNat).flow = (k : Int) then n else 0) := by split <;> omega
        have hcc := hw1.cur (by omega)
        obtain ⟨r1, r2, r3⟩ := Per.inner hg hb hJ hs hfl hk j (M.send ps t (M.pickup ps ch s)) (own + (if (nth ps (M.pickup ps ch s).cur.toNat).flow = (k : Int) then n else 0)) (oth + (if (nth ps (M.pickup ps ch s).cur.toNat).flow = (k : Int) then 0 else n)) g1 n9 (by rw [g5, e2]; exact hn) g3 (by
          by_cases hlt : nth (nth s.sent k) (t + 1) < pbytes k ((t : Int) + 1) ps
          · left
            have := hJ.send _ _ _ _ _ n (by omega) hcc.1 n1 n2 (hJ1 hlt).2
            rw [n4, n5, n6]; exact this
          · right; rw [n8, e3]; omega)
        have hcs : colSum (M.send ps t (M.pickup ps ch s)).sent (t + 1) = colSum s.sent (t + 1) + n := by rw [g2, n3, e3]; omega
        refine ⟨r1, by rw [n8, e3] at r2; omega, fun hlt => ?_⟩
        have := r3 hlt
        rw [n8, hcs, e3] at this
        have ea : own + (if (nth ps (M.pickup ps ch s).cur.toNat).flow = (k : Int) then n else 0) + (nth (nth (M.inner ps ch t j (M.send ps t (M.pickup ps ch s))).sent k) (t + 1) - (nth (nth s.sent k) (t + 1) + (if (nth ps (M.pickup ps ch s).cur.toNat).flow = (k : Int) then n else 0))) = own + (nth (nth (M.inner ps ch t j (M.send ps t (M.pickup ps ch s))).sent k) (t + 1) - nth (nth s.sent k) (t + 1)) := by omega
        rw [ea] at this
        have eb : oth + (if (nth ps (M.pickup ps ch s).cur.toNat).flow = (k : Int) then 0 else n) + ((colSum (M.inner ps ch t j (M.send ps t (M.pickup ps ch s))).sent (t + 1) - (colSum s.sent (t + 1) + n)) - (nth (nth (M.inner ps ch t j (M.send ps t (M.pickup ps ch s))).sent k) (t + 1) - (nth (nth s.sent k) (t + 1) + (if (nth ps (M.pickup ps ch s).cur.toNat).flow = (k : Int) then n else 0)))) = oth + ((colSum (M.inner ps ch t j (M.send ps t (M.pickup ps ch s))).sent (t + 1) - colSum s.sent (t + 1)) - (nth (nth (M.inner ps ch t j (M.send ps t (M.pickup ps ch s))).sent k) (t + 1) - nth (nth s.sent k) (t + 1))) := by split <;> omega
        rw [eb] at this
        exact this
/-- the state at the beginning of a tick -/
def opened (cap : Int) (t : Nat) (s : RS σ) : RS σ := { s with ms := { s.ms with now := t, left := cap }, sent := s.sent.map fun l => l ++ [nth l t] }
theorem opened_row {t : Nat} {l : List Int} (h : l.length = t + 1) : nth (l ++ [nth l t]) (t + 1) = nth l t := by
  unfold nth List.getD
  rw [List.getElem?_append_right (by omega), h]; simp
theorem Wk.opened (hg : Fair ps ch good rel) {t : Nat} {cap : Int} (h : Wk ps classes good rel t s) (hnow : s.ms.now ≤ t) : Wk ps classes good rel (t + 1) (M.opened cap t s) ∧ colSum (M.opened cap t s).sent (t + 1) = colSum s.sent t := by
  have hcol : colSum (s.sent.map fun l => l ++ [nth l t]) (t + 1) = colSum s.sent t := colSum_map _ (fun l hl => opened_row (h.rlen l hl))
  refine ⟨⟨hg.free _ _ _ _ h.good, h.dlen, h.blen, by simp [M.opened, h.slen], fun l hl => ?_, h.cur, h.open_, fun i hi hb hne => ?_, fun i hi hb => ?_, h.ord, h.dord, by unfold M.opened; dsimp only; rw [hcol]; exact h.sum⟩, hcol⟩
  · obtain ⟨l', h2, rfl⟩ := List.mem_map.1 hl
    simp [h.rlen l' h2]
  · have := h.shut i hi hb hne
    unfold M.opened; dsimp only; omega
  · have := h.time i hi hb
    unfold M.opened; dsimp only; omega
end
end Go.Proofs.YtjacpnojnoompaaDoor.M

/- The curve of weighted round robin, plain: it repeats itself, so that the program's and the references' forms are one. No condition. -/
namespace Go.Proofs.YtjacpnojnoompaaDoor.M
open Go Go.Proofs.YtjacpnojnoompaaDoor.K

theorem robinH_shift {cap s : Int} {r p m : Nat} (hr : 0 < r) (hm : cap * (p : Int) = (m : Int) * s) (t y : Nat) : robinH cap s r (t + p) (y + m * r) = robinH cap s r t y := by
  unfold robinH
  have e1 : (((y + m * r : Nat) : Int)) / (r : Int) = (y : Int) / (r : Int) + m := by
    rw [Int.natCast_add, Int.natCast_mul]
    exact Int.add_mul_ediv_right _ _ (by omega)
  rw [e1]
  have e2 : (s - (r : Int)) * ((y : Int) / (r : Int) + (m : Int) + 1) = (s - (r : Int)) * ((y : Int) / (r : Int) + 1) + ((m : Int) * s - (m : Int) * (r : Int)) := by
    rw [show (y : Int) / (r : Int) + (m : Int) + 1 = ((y : Int) / (r : Int) + 1) + (m : Int) by omega, Int.mul_add, Int.sub_mul s (r : Int) (m : Int), Int.mul_comm s, Int.mul_comm (r : Int) (m : Int)]
  have e3 : cap * ((t + p : Nat) : Int) = cap * (t : Int) + (m : Int) * s := by rw [Int.natCast_add, Int.mul_add, hm]
  rw [e2, e3, Int.natCast_add, Int.natCast_mul]
  apply decide_eq_decide.2
  generalize (m : Int) * s = a
  generalize (m : Int) * (r : Int) = b
  generalize (s - (r : Int)) * ((y : Int) / (r : Int) + 1) = c
  omega
theorem robinH_low {cap s : Int} {r p m : Nat} (hr : 0 < r) (hs : (r : Int) ≤ s) (hc : 0 ≤ cap) (hm : cap * (p : Int) = (m : Int) * s) {t y : Nat} (hy : y < m * r) : robinH cap s r (t + p) y = false := by
  unfold robinH
  apply decide_eq_false
  have h1 : (y : Int) / (r : Int) + 1 ≤ m := by
    have : y / r < m := Nat.div_lt_of_lt_mul (by rw [Nat.mul_comm]; exact hy)
    have e : (y : Int) / (r : Int) = ((y / r : Nat) : Int) := rfl
    omega
  have h2 : (s - (r : Int)) * ((y : Int) / (r : Int) + 1) ≤ (s - (r : Int)) * (m : Int) := Int.mul_le_mul_of_nonneg_left h1 (by omega)
  have e2 : (s - (r : Int)) * (m : Int) = (m : Int) * s - ((m * r : Nat) : Int) := by rw [Int.sub_mul, Int.mul_comm s, Int.mul_comm (r : Int), Int.natCast_mul]
  have e3 : cap * ((t + p : Nat) : Int) = cap * (t : Int) + (m : Int) * s := by rw [Int.natCast_add, Int.mul_add, hm]
  have h3 : 0 ≤ cap * (t : Int) := Int.mul_nonneg hc (by omega)
  rw [e3]
  rw [e2] at h2
  generalize (m : Int) * s = a at *
  generalize (s - (r : Int)) * ((y : Int) / (r : Int) + 1) = c at *
  omega
theorem robinF_grows {cap s r : Int} {p m : Nat} (hc : 0 ≤ cap) (hr : 0 < r) (hs : r ≤ s) (hm : cap * (p : Int) = (m : Int) * s) : Grows (robinF cap s r) 0 p ((m : Int) * r) := by
  intro t _
  obtain ⟨rn, rfl⟩ := Int.eq_ofNat_of_zero_le (show 0 ≤ r by omega)
  have hrn : 0 < rn := by omega
  obtain ⟨a1, a2, a3⟩ := leastY_is (robinH_bound hr hs t hc)
  unfold robinF
  rw [leastY_eq (robinH_bound hr hs (t + p) hc) (lo := leastY (robinH cap s rn t) (cap * t).toNat + m * rn) (by rw [robinH_shift hrn hm]; exact a2) (fun j hj => ?_)]
  · rw [Int.natCast_add, Int.natCast_mul]
  · by_cases h : j < m * rn
    · exact robinH_low hrn hs hc hm h
    · obtain ⟨y, rfl⟩ : ∃ y, j = y + m * rn := ⟨j - m * rn, by omega⟩
      rw [robinH_shift hrn hm]
      exact a3 y (by omega)
theorem robinH_less {cap s r : Int} (hc : 0 ≤ cap) {t y : Nat} (h : robinH cap s r (t + 1) y = true) : robinH cap s r t y = true := by
  unfold robinH at h ⊢
  have h0 := of_decide_eq_true h
  have h1 : cap * ((t + 1 : Nat) : Int) = cap * (t : Int) + cap := by rw [Int.natCast_add, Int.mul_add]; simp
  rw [h1] at h0
  exact decide_eq_true (by omega)
theorem robinF_mono {cap s r : Int} (hc : 0 ≤ cap) (hr : 0 < r) (hs : r ≤ s) (t : Nat) : robinF cap s r t ≤ robinF cap s r (t + 1) := by
  obtain ⟨a1, a2, a3⟩ := leastY_is (robinH_bound hr hs t hc)
  obtain ⟨b1, b2, b3⟩ := leastY_is (robinH_bound hr hs (t + 1) hc)
  unfold robinF
  apply Int.ofNat_le.2
  apply Classical.byContradiction
  intro h
  have := a3 _ (Nat.lt_of_not_le h)
  rw [robinH_less hc b2] at this
  cases this
theorem robinF_bound {cap s r : Int} (hc : 0 ≤ cap) (hr : 0 < r) (hs : r ≤ s) (t : Nat) : 0 ≤ robinF cap s r t ∧ robinF cap s r t ≤ cap * t := by
  obtain ⟨a1, a2, a3⟩ := leastY_is (robinH_bound hr hs t hc)
  unfold robinF
  have : 0 ≤ cap * (t : Int) := Int.mul_nonneg hc (by omega)
  omega
/-- all of it, for the walks -/
structure RobOk (cap k : Int) (w : List Int) (z : List Sz) (cn kn m s p mm : Nat) (r : Int) : Prop where
  hcap : cap = cn
  hk : k = kn
  c1 : 1 ≤ cn ∧ cn ≤ 4000
  k1 : kn < z.length
  zl : z.length ≤ 6
  wl : w.length = z.length
  hw : ∀ x ∈ w, 1 ≤ x ∧ x ≤ 20
  hz : ∀ s ∈ z, 0 ≤ s.least ∧ s.least ≤ s.most ∧ s.most ≤ 1500
  hr : r = nth w kn * (nth z kn).least
  r1 : 1 ≤ r ∧ r ≤ 30000
  hm : (m : Int) = r + qSum k w z w.length
  m1 : m ≤ 210000
  hs : shortN m cn = s
  s1 : r ≤ s ∧ s ≤ 120 * cn
  hp : p = s / Nat.gcd s cn
  p1 : 1 ≤ p ∧ p ≤ 120
  hmm : (cn : Int) * p = mm * s
  mm1 : mm ≤ 4000
  hinc : (cn : Int) * p / s * r = mm * r
theorem mulB {a b A B : Int} (h1 : 0 ≤ a ∧ a ≤ A) (h2 : 0 ≤ b ∧ b ≤ B) : 0 ≤ a * b ∧ a * b ≤ A * B :=
  ⟨Int.mul_nonneg h1.1 h2.1, Int.mul_le_mul h1.2 h2.2 h2.1 (by omega)⟩
theorem RobOk.facts {cap k : Int} {w : List Int} {z : List Sz} {cn kn m s p mm : Nat} {r : Int} (h : RobOk cap k w z cn kn m s p mm r) :
    Grows (robinF cap s r) 0 p (cap * p / s * r) ∧ (0 ≤ cap * p / s * r ∧ cap * p / s * r ≤ 120000000) ∧ (∀ t, t ≤ 240 → 0 ≤ robinF cap s r t ∧ robinF cap s r t ≤ 960000) ∧
    mbuild (robinF cap s r) 0 p (cap * p / s * r) = madeR ⟨fvals (robinF cap s r) p, p, cap * p / s * r⟩ := by
  obtain ⟨rfl, rfl, c1, k1, zl, wl, hw, hz, hr, r1, hm, m1, hs, s1, hp, p1, hmm, mm1, hinc⟩ := h
  have hg : Grows (robinF cn s r) 0 p ((cn : Int) * p / s * r) := by rw [hinc]; exact robinF_grows (by omega) (by omega) s1.1 hmm
  have hi : 0 ≤ (cn : Int) * p / s * r ∧ (cn : Int) * p / s * r ≤ 120000000 := by
    rw [hinc]
    have := mulB (a := (mm : Int)) (b := r) (A := 4000) (B := 30000) (by omega) (by omega)
    omega
  have hb : ∀ t : Nat, t ≤ 240 → 0 ≤ robinF cn s r t ∧ robinF cn s r t ≤ 960000 := fun t ht => by
    have h1 := robinF_bound (cap := (cn : Int)) (s := (s : Int)) (r := r) (by omega) (by omega) s1.1 t
    have h2 := mulB (a := (cn : Int)) (b := (t : Int)) (A := 4000) (B := 240) (by omega) (by omega)
    omega
  refine ⟨hg, hi, hb, ?_⟩
  have hf : ∀ t, t < 0 + p → robinF cn s r t < INF := fun t ht => by have := hb t (by omega); unfold INF; omega
  rw [mbuild_fin (fun t ht => by have := hf t ht; omega), build_made (S' := 0) (by omega) hi.1 hg hg (fun t => robinF_mono (by omega) (by omega) s1.1 t) (hb 0 (by omega)).1 hf hf]
  simp only [Nat.zero_add]
end Go.Proofs.YtjacpnojnoompaaDoor.M

/- Weighted round robin while a class is backlogged, plain: what the others take. No condition. -/
namespace Go.Proofs.YtjacpnojnoompaaDoor.M
open Go Go.Proofs.YtjacpnojnoompaaDoor.K

section
variable {w : List Int} {z : List Sz} {k : Nat}
/-- what the others may still take, from the beginning of class c on until class k -/
def restR (w : List Int) (z : List Sz) (k c : Nat) : Int := if c ≤ k then qSum k w z k - qSum k w z c else qSum k w z w.length - qSum k w z c + qSum k w z k
def mosts (w : List Int) (z : List Sz) (c : Nat) : Int := nth w c * (nth z c).most
theorem qSum_succ (i : Nat) : qSum k w z (i + 1) = qSum k w z i + (if i ≠ k then mosts w z i else 0) := by
  simp only [qSum, mosts]
  by_cases h : i = k
  · rw [if_neg (by omega), if_neg (by omega)]
  · rw [if_pos (by omega), if_pos h]
theorem restR_self : restR w z k k = 0 := by unfold restR; rw [if_pos (Nat.le_refl _)]; omega
theorem restR_next {c : Nat} (hc : c < w.length) (hk : k < w.length) (hne : c ≠ k) : restR w z k ((c + 1) % w.length) = restR w z k c - mosts w z c := by
  have hs := qSum_succ (w := w) (z := z) (k := k) c
  rw [if_pos hne] at hs
  by_cases hl : c + 1 < w.length
  · rw [Nat.mod_eq_of_lt hl]
    unfold restR
    by_cases h : c ≤ k
    · rw [if_pos h, if_pos (by omega), hs]; omega
    · rw [if_neg h, if_neg (by omega), hs]; omega
  · have e : c + 1 = w.length := by omega
    rw [e, Nat.mod_self]
    unfold restR
    rw [if_pos (Nat.zero_le _), if_neg (by omega), ← e, hs]
    have h0 : qSum k w z 0 = 0 := rfl
    omega
theorem restR_first (hk : k < w.length) : restR w z k ((k + 1) % w.length) = qSum k w z w.length := by
  have hs := qSum_succ (w := w) (z := z) (k := k) k
  rw [if_neg (by omega)] at hs
  by_cases hl : k + 1 < w.length
  · rw [Nat.mod_eq_of_lt hl]
    unfold restR
    rw [if_neg (by omega), hs]; omega
  · have e : k + 1 = w.length := by omega
    rw [e, Nat.mod_self]
    unfold restR
    rw [if_pos (Nat.zero_le _), ← e, hs]
    have h0 : qSum k w z 0 = 0 := rfl
    omega
/-- in class c, l packets of whose visit are to come and op bytes of the open one -/
def JR (w : List Int) (z : List Sz) (k c : Nat) (l op own oth : Int) : Prop :=
  c < w.length ∧ 0 ≤ l ∧
  if c = k then ∃ f : Nat, oth ≤ qSum k w z w.length * f ∧ nth w k * (nth z k).least * f ≤ own + op + l * (nth z k).least ∧ nth w k * (nth z k).least * ((f : Int) - 1) ≤ own
  else ∃ f : Nat, oth + op + l * (nth z c).most + (restR w z k c - mosts w z c) ≤ qSum k w z w.length * ((f : Int) + 1) ∧ nth w k * (nth z k).least * f ≤ own
theorem JR.next (hw : ∀ x ∈ w, 1 ≤ x) (hz : ∀ c, c < w.length → 0 ≤ (nth z c).least ∧ (nth z c).least ≤ (nth z c).most) (hk : k < w.length) (hn : 2 ≤ w.length) {c : Nat} {l own oth : Int} (h : JR w z k c l 0 own oth) (hl : c = k → l ≤ 0) :
    JR w z k ((c + 1) % w.length) (nth w ((c + 1) % w.length)) 0 own oth := by
  obtain ⟨h1, h2, h3⟩ := h
  have hlt : (c + 1) % w.length < w.length := Nat.mod_lt _ (by omega)
  have hwc := hw _ (nth_mem hlt)
  refine ⟨hlt, by omega, ?_⟩
  by_cases hck : c = k
  · subst hck
    rw [if_pos rfl] at h3
    obtain ⟨f, f1, f2, f3⟩ := h3
    have hne : (c + 1) % w.length ≠ c := by
      by_cases hh : c + 1 < w.length
      · rw [Nat.mod_eq_of_lt hh]; omega
      · rw [show c + 1 = w.length by omega, Nat.mod_self]; omega
    rw [if_neg hne]
    refine ⟨f, ?_, ?_⟩
    · rw [restR_first hk]
      show oth + 0 + mosts w z ((c + 1) % w.length) + (_ - mosts w z ((c + 1) % w.length)) ≤ _
      rw [Int.mul_add, Int.mul_one]; omega
    · have : l = 0 := by have := hl rfl; omega
      rw [this] at f2
      simpa using f2
  · rw [if_neg hck] at h3
    obtain ⟨f, f1, f2⟩ := h3
    have hr := restR_next (z := z) h1 hk hck
    have hl0 : 0 ≤ l * (nth z c).most := Int.mul_nonneg h2 (by have := hz c h1; omega)
    by_cases hnk : (c + 1) % w.length = k
    · rw [if_pos hnk, hnk]
      rw [hnk, restR_self] at hr
      refine ⟨f + 1, ?_, ?_, ?_⟩
      · have : ((f + 1 : Nat) : Int) = (f : Int) + 1 := by omega
        rw [this]; omega
      · have : ((f + 1 : Nat) : Int) = (f : Int) + 1 := by omega
        rw [this, Int.mul_add, Int.mul_one]; omega
      · have : ((f + 1 : Nat) : Int) - 1 = (f : Int) := by omega
        rw [this]; exact f2
    · rw [if_neg hnk]
      refine ⟨f, ?_, f2⟩
      show oth + 0 + mosts w z ((c + 1) % w.length) + (_ - mosts w z ((c + 1) % w.length)) ≤ _
      omega
end
end Go.Proofs.YtjacpnojnoompaaDoor.M

/- Weighted round robin: the invariant of the rounds while a class is backlogged, plain. No condition. -/
namespace Go.Proofs.YtjacpnojnoompaaDoor.M
open Go Go.Proofs.YtjacpnojnoompaaDoor.K

/-- an invariant of every run: of the choice's state, the open packet and what is left of it -/
structure Vis {σ : Type} (ps : List Pkt) (ch : MS → σ → Int × Nat × σ) (good : MS → σ → Prop) (V : σ → Int → Int → Prop) : Prop where
  pick : ∀ ms sg r, good ms sg → ms.begun.length = ps.length → V sg (-1) r → 0 ≤ (ch ms sg).1 → V (ch ms sg).2.2 (ch ms sg).1 (nth ps (ch ms sg).1.toNat).size
  idle : ∀ ms sg r r', good ms sg → ms.begun.length = ps.length → V sg (-1) r → (ch ms sg).1 < 0 → V (ch ms sg).2.2 (ch ms sg).1 r'
  send : ∀ (sg : σ) (cur rest n : Int), 0 ≤ cur → cur < ps.length → 1 ≤ n → n ≤ rest → V sg cur rest → V sg (if rest - n = 0 then -1 else cur) (rest - n)
  none : ∀ sg c c' r r', c < 0 → c' < 0 → V sg c r → V sg c' r'
section
variable {σ : Type} {ps : List Pkt} {ch : MS → σ → Int × Nat × σ} {good : MS → σ → Prop} {rel : Nat → Nat → Prop} {classes k : Nat} {V : σ → Int → Int → Prop}
theorem Vis.inner (hg : Fair ps ch good rel) (hV : Vis ps ch good V) (hs : ∀ p ∈ ps, 1 ≤ p.size) (hfl : ∀ p ∈ ps, 0 ≤ p.flow ∧ p.flow < classes) {t : Nat} : ∀ (j : Nat) (s : RS σ), Wk ps classes good rel (t + 1) s → s.ms.now = t → 0 ≤ s.ms.left → V s.sg s.cur s.rest →
    V (inner ps ch t j s).sg (inner ps ch t j s).cur (inner ps ch t j s).rest
  | 0, s, hw, hn, hl, h => h
  | j + 1, s, hw, hn, hl, h => by
    simp only [M.inner]
    by_cases hl0 : s.ms.left ≤ 0
    · rw [if_pos hl0]; exact h
    · rw [if_neg hl0]
      have hw1 := hw.pickup hg hs
      obtain ⟨e1, e2, e3, e4⟩ := pickup_same ps ch s
      have h1 : V (M.pickup ps ch s).sg (M.pickup ps ch s).cur (M.pickup ps ch s).rest := by
        unfold M.pickup
        by_cases hcur : 0 ≤ s.cur
        · rw [if_pos hcur]; exact h
        · rw [if_neg hcur]
          have h0 := hV.none s.sg s.cur (-1) s.rest s.rest (by omega) (by omega) h
          by_cases hr : (ch s.ms s.sg).1 < 0
          · simp only [hr, if_true]
            exact hV.idle _ _ _ _ hw.good hw.blen h0 hr
          · simp only [hr, if_false]
            exact hV.pick _ _ _ hw.good hw.blen h0 (by omega)
      by_cases hcn : (M.pickup ps ch s).cur < 0
      · rw [if_pos hcn]; exact h1
      · rw [if_neg hcn]
        obtain ⟨c1, c2, c3⟩ := hw1.cur (by omega)
        obtain ⟨g1, g2, g3, g4, g5, g6⟩ := hw1.send hfl hg.free (by rw [e2]; exact hn) (by omega) (by rw [e1]; omega)
        refine Vis.inner hg hV hs hfl j _ g1 (by rw [g5, e2]; exact hn) g3 ?_
        have hle : (if (M.pickup ps ch s).ms.left < (M.pickup ps ch s).rest then (M.pickup ps ch s).ms.left else (M.pickup ps ch s).rest) ≤ (M.pickup ps ch s).rest := by split <;> omega
        have hge : 1 ≤ (if (M.pickup ps ch s).ms.left < (M.pickup ps ch s).rest then (M.pickup ps ch s).ms.left else (M.pickup ps ch s).rest) := by rw [e1]; split <;> omega
        exact hV.send _ _ _ _ (by omega) c1 hge hle h1
end
/-! ### round robin -/
def Jrob (ps : List Pkt) (w : List Int) (z : List Sz) (k : Nat) (sg : Nat × Int) (cur rest own oth : Int) : Prop := JR w z k sg.1 sg.2 (if 0 ≤ cur then rest else 0) own oth ∧ (0 ≤ cur → (nth ps cur.toNat).flow = sg.1)
/-- sizes of the packets of each class -/
def SzOf (ps : List Pkt) (z : List Sz) : Prop := ∀ i, i < ps.length → (nth z (nth ps i).flow.toNat).least ≤ (nth ps i).size ∧ (nth ps i).size ≤ (nth z (nth ps i).flow.toNat).most
section
variable {ps : List Pkt} {w : List Int} {z : List Sz} {k : Nat}
/-- where every run stands -/
def Vrob (ps : List Pkt) (w : List Int) (sg : Nat × Int) (cur rest : Int) : Prop := sg.1 < w.length ∧ 0 ≤ sg.2 ∧ sg.2 ≤ nth w sg.1 ∧ (0 ≤ cur → cur < ps.length ∧ (nth ps cur.toNat).flow = sg.1 ∧ sg.2 ≤ nth w sg.1 - 1 ∧ 0 ≤ rest ∧ rest ≤ (nth ps cur.toNat).size)
end
end Go.Proofs.YtjacpnojnoompaaDoor.M

/- Shares over one run: what the others are sent while a class is backlogged, plain. No condition. -/
namespace Go.Proofs.YtjacpnojnoompaaDoor.M
open Go Go.Proofs.YtjacpnojnoompaaDoor.K

section
variable {σ : Type} {ps : List Pkt} {ch : MS → σ → Int × Nat × σ} {good : MS → σ → Prop} {rel : Nat → Nat → Prop} {classes k : Nat}
end
end Go.Proofs.YtjacpnojnoompaaDoor.M

/- Which of two curves grows less, plain. No condition. -/
namespace Go.Proofs.YtjacpnojnoompaaDoor.M
open Go Go.Proofs.YtjacpnojnoompaaDoor.K

def lcmN (a b : Nat) : Nat := a / Nat.gcd a b * b
/-! ### the curve of weighted round robin: greater sums leave less -/
end Go.Proofs.YtjacpnojnoompaaDoor.M

/- Finite curves in the program's own form, delays, what a flow keeps, plain. No condition. -/
namespace Go.Proofs.YtjacpnojnoompaaDoor.M
open Go Go.Proofs.YtjacpnojnoompaaDoor.K

/-- a finite valid curve: values of F up to S + P, period P, increment I -/
structure FC (F : Nat → Int) (S P : Nat) (I : Int) : Prop where
  hP : 1 ≤ P ∧ P ≤ 120
  hn : S + P ≤ 400
  hI : 0 ≤ I ∧ I ≤ 1073741824
  hg : Grows F S P I
  hm : ∀ t, F t ≤ F (t + 1)
  h0 : 0 ≤ F 0
  hb : ∀ t, t < S + P → F t ≤ 1073741824
section
variable {F G : Nat → Int} {S P S1 P1 S2 P2 : Nat} {I I1 I2 : Int}
theorem FC.mono (h : FC F S P I) {a b : Nat} (hab : a ≤ b) : F a ≤ F b := mono_le h.hm hab
theorem FC.bound (h : FC F S P I) (t : Nat) : F t ≤ 1073741824 * ((t : Int) + 2) := by
  have hP := h.hP
  have hI := h.hI
  induction t using Nat.strongRecOn with
  | _ t ih =>
    by_cases ht : t < S + P
    · have := h.hb t ht; omega
    · have h1 := ih (t - P) (by omega)
      have h2 := h.hg (t - P) (by omega)
      rw [show t - P + P = t by omega] at h2
      omega
theorem FC.fin (h : FC F S P I) {t : Nat} (ht : t < S + P) : F t ≠ INF := by have := h.hb t ht; unfold INF; omega
theorem FC.atR (h : FC F S P I) (t : Nat) : M.atR (fvals F (S + P)) P I (t : Int) = F t := atR_fvals (by have := h.hP; omega) h.hg (fun t ht => h.fin ht) t
/-- the least tick with so much, and whether there is one -/
def reachF (G : Nat → Int) (S P : Nat) (I v : Int) : Int × Bool :=
  if findFrom (fun t => decide (G t ≥ v)) (S + P) 0 ≠ -1 then (findFrom (fun t => decide (G t ≥ v)) (S + P) 0, true)
  else if I = 0 then (0, false)
  else (findFrom (fun t => decide (G t ≥ v)) (P + 1) (S + P + (((v - G (S + P - 1) + I - 1) / I).toNat - 1) * P), true)
/-- the greatest of the distances -/
def greatW (f : Nat → Int × Bool) : Nat → Nat → Int → Int → Bool × Int × Int
  | 0, _, v, a => (false, v, a)
  | n + 1, t, v, a => if (f t).2 = false then (true, 0, 0) else if (f t).1 > v then greatW f n (t + 1) (f t).1 t else greatW f n (t + 1) v a
end
end Go.Proofs.YtjacpnojnoompaaDoor.M
namespace Go.Proofs.YtjacpnojnoompaaDoor.M
open Go Go.Proofs.YtjacpnojnoompaaDoor.K
end Go.Proofs.YtjacpnojnoompaaDoor.M

/- What a flow keeps: the least curve of a trace, plain. No condition. -/
namespace Go.Proofs.YtjacpnojnoompaaDoor.M
open Go Go.Proofs.YtjacpnojnoompaaDoor.K

theorem pbytes_congr {flow t t' : Int} : ∀ (ps : List Pkt), (∀ p ∈ ps, p.time < t ↔ p.time < t') → pbytes flow t ps = pbytes flow t' ps
  | [], _ => rfl
  | p :: ps, h => by
    have h1 := h p (by simp)
    have ih := pbytes_congr (flow := flow) ps (fun q hq => h q (by simp [hq]))
    simp only [pbytes]
    rw [ih]
    congr 1
    have e : hit flow t p ↔ hit flow t' p := by unfold hit; rw [h1]
    by_cases hh : hit flow t p
    · rw [if_pos hh, if_pos (e.1 hh)]
    · rw [if_neg hh, if_neg (fun h2 => hh (e.2 h2))]
def endN (ps : List Pkt) : Int := if ps.length = 0 then 0 else (nth ps (ps.length - 1)).time + 1
theorem nth_up {vs : List Int} {en : Nat} (hm : ∀ j, j < en → nth vs j ≤ nth vs (j + 1)) {a b : Nat} (hab : a ≤ b) (hb : b ≤ en) : nth vs a ≤ nth vs b := by
  induction b with
  | zero => obtain rfl : a = 0 := by omega
            exact Int.le_refl _
  | succ b ih =>
    by_cases e : a = b + 1
    · subst e; exact Int.le_refl _
    · have h1 := ih (by omega) (by omega)
      have h2 := hm b (by omega)
      omega
theorem keeps {ps : List Pkt} {flow : Int} (hsort : ps.Pairwise fun a b => a.time ≤ b.time) {en : Nat} (hen : ∀ p ∈ ps, 0 ≤ p.time ∧ p.time < en) {vs : List Int} (h0 : ∀ j, j ≤ en → 0 ≤ nth vs j) (hm : ∀ j, j < en → nth vs j ≤ nth vs (j + 1))
    (hP : ∀ i, i < ps.length → ∀ T t : Nat, (nth ps i).time = T → T ≤ t → t ≤ en → pbytes flow (t : Int) ps - pbytes flow (T : Int) ps ≤ nth vs (t - T)) {x t : Nat} (hxt : x ≤ t) : pbytes flow (t : Int) ps - pbytes flow (x : Int) ps ≤ nth vs (min (t - x) en) := by
  have hnn := h0 (min (t - x) en) (by omega)
  by_cases hex : ∃ i, i < ps.length ∧ (x : Int) ≤ (nth ps i).time ∧ (nth ps i).time < t
  · obtain ⟨i0, i1, i2, i3⟩ := hex
    rcases findFrom_cases (fun i => decide ((x : Int) ≤ (nth ps i).time)) ps.length 0 with ⟨j, j1, j2, _, j4, j5⟩ | ⟨_, h2⟩
    · have j4 := of_decide_eq_true j4
      have hji : j ≤ i0 := by
        apply Classical.byContradiction
        intro hn
        have := of_decide_eq_false (j5 i0 (Nat.zero_le _) (by omega))
        exact this i2
      have hle : ∀ i, j ≤ i → i < ps.length → (nth ps j).time ≤ (nth ps i).time := fun i h1 h2 => by
        by_cases e : j = i
        · subst e; exact Int.le_refl _
        · have := List.pairwise_iff_getElem.1 hsort j i (by omega) h2 (by omega)
          rwa [← nth_eq (show j < ps.length by omega), ← nth_eq h2] at this
      have hj := hen _ (nth_mem (xs := ps) (k := j) (by omega))
      obtain ⟨T, hT⟩ := Int.eq_ofNat_of_zero_le hj.1
      have hTi := hle i0 hji i1
      have e1 : pbytes flow (x : Int) ps = pbytes flow (T : Int) ps := by
        refine pbytes_congr ps (all_of_nth (fun i hi => ?_))
        constructor
        · intro h; omega
        · intro h
          apply Classical.byContradiction
          intro hn
          by_cases hij : i < j
          · have := of_decide_eq_false (j5 i (Nat.zero_le _) hij)
            omega
          · have := hle i (by omega) hi
            omega
      have e2 : pbytes flow (t : Int) ps = pbytes flow ((min t en : Nat) : Int) ps := by
        refine pbytes_congr ps (fun p hp => ?_)
        have := hen p hp
        omega
      have h3 := hP j (by omega) T (min t en) hT (by omega) (by omega)
      have h4 := nth_up hm (a := min t en - T) (b := min (t - x) en) (by omega) (by omega)
      omega
    · exact absurd i2 (of_decide_eq_false (h2 i0 (Nat.zero_le _) (by omega)))
  · have e : pbytes flow (t : Int) ps = pbytes flow (x : Int) ps := by
      refine pbytes_congr ps (all_of_nth (fun i hi => ?_))
      constructor
      · intro h
        apply Classical.byContradiction
        intro hn
        exact hex ⟨i, hi, by omega, h⟩
      · intro h; omega
    omega
end Go.Proofs.YtjacpnojnoompaaDoor.M

/- Any line that is never idle and keeps the order within a class: service and waits of a class, plain. No condition. -/
namespace Go.Proofs.YtjacpnojnoompaaDoor.M
open Go Go.Proofs.YtjacpnojnoompaaDoor.K

section
variable {σ : Type} {ps : List Pkt} {ch : MS → σ → Int × Nat × σ} {good : MS → σ → Prop} {rel : Nat → Nat → Prop} {classes col k : Nat} {s : RS σ}
end
end Go.Proofs.YtjacpnojnoompaaDoor.M
namespace Go.Proofs.YtjacpnojnoompaaDoor.M
open Go Go.Proofs.YtjacpnojnoompaaDoor.K
end Go.Proofs.YtjacpnojnoompaaDoor.M

/- Deficit round robin, plain: the choice, that it ends, and what every run keeps. No condition. -/
namespace Go.Proofs.YtjacpnojnoompaaDoor.M
open Go Go.Proofs.YtjacpnojnoompaaDoor.K

def grant (nx : Int → Int) (w : List Int) (c : Nat) (b : Bool) (d : List Int) : List Int := if 0 ≤ nx c ∧ b = false then d.set c (nth d c + nth w c) else d
def drop0 (nx : Int → Int) (c : Nat) (d : List Int) : List Int := if nx c < 0 then d.set c 0 else d
def defGo (nx sz : Int → Int) (w : List Int) : Nat → Nat → Bool → List Int → Int × (Nat × Bool × List Int)
  | 0, c, b, d => (-1, (c, b, d))
  | k + 1, c, b, d =>
    if 0 ≤ nx c ∧ sz (nx c) ≤ nth (grant nx w c b d) c then (nx c, (c, true, (grant nx w c b d).set c (nth (grant nx w c b d) c - sz (nx c))))
    else defGo nx sz w k ((c + 1) % w.length) false (drop0 nx c (grant nx w c b d))
def szOf (ps : List Pkt) (i : Int) : Int := (nth ps i.toNat).size
/-- so many steps are enough -/
def defF (n : Nat) : Nat := 1502 * n
def defCh (ps : List Pkt) (w : List Int) (ms : MS) (s : Nat × Bool × List Int) : Int × Nat × (Nat × Bool × List Int) :=
  if firstR ps ms < 0 then (-1, skipTo ms.begun ms.before, s)
  else ((defGo (nextW ps ms) (szOf ps) w (defF w.length) s.1 s.2.1 s.2.2).1, skipTo ms.begun ms.before, (defGo (nextW ps ms) (szOf ps) w (defF w.length) s.1 s.2.1 s.2.2).2)
def defRc (ps : List Pkt) (w : List Int) (st : St) (g : Nat × Bool × List Int) : Int × (Nat × Bool × List Int) :=
  if 0 ≤ firstW ps st (-1) then defGo (firstW ps st) (szOf ps) w (defF w.length) g.1 g.2.1 g.2.2 else (-1, g)
/-- the deficits' bounds -/
def DOk (n c : Nat) (b : Bool) (d : List Int) : Prop := c < n ∧ d.length = n ∧ ∀ i, i < n → 0 ≤ nth d i ∧ nth d i ≤ (if i = c ∧ b = true then 7499 else 1499)
def dist (n j c : Nat) : Nat := if c ≤ j then j - c else j + n - c
/-- how far a waiting class is -/
def far (n j c : Nat) (b : Bool) (d : List Int) : Nat := n * (1500 - nth d j).toNat + (if c = j ∧ b = true then n else dist n j c)
def DSoon (nx : Int → Int) (n k c : Nat) (b : Bool) (d : List Int) : Prop := ∃ j, j < n ∧ 0 ≤ nx (j : Int) ∧ far n j c b d < k
section
variable {nx sz : Int → Int} {w : List Int}
theorem grant_len (c : Nat) (b : Bool) (d : List Int) : (grant nx w c b d).length = d.length := by unfold grant; split <;> simp
theorem drop0_len (c : Nat) (d : List Int) : (drop0 nx c d).length = d.length := by unfold drop0; split <;> simp
theorem grant_ne {c i : Nat} {b : Bool} {d : List Int} (h : i ≠ c) : nth (grant nx w c b d) i = nth d i := by
  unfold grant; split
  · rw [nth_set_ne (Ne.symm h)]
  · rfl
theorem grant_self {c : Nat} {b : Bool} {d : List Int} (h : c < d.length) : nth (grant nx w c b d) c = (if 0 ≤ nx c ∧ b = false then nth d c + nth w c else nth d c) := by
  unfold grant; split
  · rw [nth_set_self h]
  · rfl
theorem drop0_ne {c i : Nat} {d : List Int} (h : i ≠ c) : nth (drop0 nx c d) i = nth d i := by
  unfold drop0; split
  · rw [nth_set_ne (Ne.symm h)]
  · rfl
theorem drop0_self {c : Nat} {d : List Int} (h : c < d.length) : nth (drop0 nx c d) c = (if nx c < 0 then 0 else nth d c) := by
  unfold drop0; split
  · rw [nth_set_self h]
  · rfl
theorem mod_succ {n c : Nat} (hc : c < n) : (c + 1) % n = if c + 1 < n then c + 1 else 0 := by
  split
  · rename_i h; exact Nat.mod_eq_of_lt h
  · rw [show c + 1 = n by omega, Nat.mod_self]
/-- what is granted stays within its bounds -/
theorem DOk.grant (hw : ∀ x ∈ w, 1 ≤ x ∧ x ≤ 6000) {c : Nat} {b : Bool} {d : List Int} (h : DOk w.length c b d) : ∀ i, i < w.length → 0 ≤ nth (grant nx w c b d) i ∧ nth (M.grant nx w c b d) i ≤ (if i = c then 7499 else 1499) := by
  obtain ⟨h1, h2, h3⟩ := h
  intro i hi
  have a := h3 i hi
  by_cases e : i = c
  · subst e
    rw [grant_self (by omega), if_pos rfl]
    have := hw _ (nth_mem hi)
    split
    · rename_i hh
      rw [if_neg (by rw [hh.2]; simp)] at a
      omega
    · split at a <;> omega
  · rw [grant_ne e, if_neg e]
    rw [if_neg (fun hh => e hh.1)] at a
    exact a
theorem DOk.next (hw : ∀ x ∈ w, 1 ≤ x ∧ x ≤ 6000) {c : Nat} (hsz : 0 ≤ nx c → sz (nx c) ≤ 1500) {b : Bool} {d : List Int} (h : DOk w.length c b d) (hno : ¬ (0 ≤ nx c ∧ sz (nx c) ≤ nth (M.grant nx w c b d) c)) :
    DOk w.length ((c + 1) % w.length) false (drop0 nx c (M.grant nx w c b d)) := by
  have hg := h.grant (nx := nx) hw
  obtain ⟨h1, h2, h3⟩ := h
  refine ⟨Nat.mod_lt _ (by omega), by rw [drop0_len, grant_len]; exact h2, fun i hi => ?_⟩
  rw [if_neg (by simp)]
  have a := hg i hi
  by_cases e : i = c
  · subst e
    rw [drop0_self (by rw [grant_len]; omega)]
    split
    · omega
    · rename_i h0
      have : ¬ sz (nx i) ≤ nth (M.grant nx w i b d) i := fun hh => hno ⟨by omega, hh⟩
      have := hsz (by omega)
      omega
  · rw [drop0_ne e]
    rw [if_neg e] at a; exact a
theorem DOk.pick (hw : ∀ x ∈ w, 1 ≤ x ∧ x ≤ 6000) {c : Nat} (hsz : 1 ≤ sz (nx c)) {b : Bool} {d : List Int} (h : DOk w.length c b d) (hy : sz (nx c) ≤ nth (M.grant nx w c b d) c) :
    DOk w.length c true ((M.grant nx w c b d).set c (nth (M.grant nx w c b d) c - sz (nx c))) := by
  have hg := h.grant (nx := nx) hw
  obtain ⟨h1, h2, h3⟩ := h
  refine ⟨h1, by rw [List.length_set, grant_len]; exact h2, fun i hi => ?_⟩
  have a := hg i hi
  by_cases e : i = c
  · subst e
    rw [nth_set_self (by rw [grant_len]; omega), if_pos ⟨rfl, rfl⟩]
    rw [if_pos rfl] at a
    omega
  · rw [nth_set_ne (Ne.symm e), if_neg (fun hh => e hh.1)]
    rw [if_neg e] at a; exact a
end
def goodDf (ps : List Pkt) (n : Nat) (ms : MS) (s : Nat × Bool × List Int) : Prop := goodB ps ms ∧ DOk n s.1 s.2.1 s.2.2
section
variable {ps : List Pkt} {w : List Int} {ms : MS} {s : Nat × Bool × List Int}
def def0 (n : Nat) : Nat × Bool × List Int := (0, false, List.replicate n 0)
end
end Go.Proofs.YtjacpnojnoompaaDoor.M

/- The curve of deficit round robin, plain: it repeats itself from some tick on, so that the program's and the references' forms are one. No condition. -/
namespace Go.Proofs.YtjacpnojnoompaaDoor.M
open Go Go.Proofs.YtjacpnojnoompaaDoor.K

/-- the quanta of the other classes that have packets, and what they may have saved -/
def xSum (k : Int) (w : List Int) (z : List Sz) : Nat → Int
  | 0 => 0
  | n + 1 => xSum k w z n + (if (n : Int) ≠ k ∧ 1 ≤ (nth z n).most then nth w n else 0)
def zSum (k : Int) (z : List Sz) : Nat → Int
  | 0 => 0
  | n + 1 => zSum k z n + (if (n : Int) ≠ k ∧ 1 ≤ (nth z n).most then (nth z n).most - 1 else 0)
def defOthers (k : Int) (w : List Int) (z : List Sz) (own : Int) : Int :=
  if chkW 6000 1 k w z ≠ 0 ∨ (nth z k.toNat).most < 1 ∨ own < 0 ∨ MAXV < own then 0
  else ((own + (nth z k.toNat).most - 1) / nth w k.toNat + 1) * xSum k w z w.length + zSum k z w.length
def allD (s q l z y : Int) : Int := y + (s - q) * ((y + l - 1) / q + 1) + z
def defH (cap s q l z : Int) (t y : Nat) : Bool := decide (allD s q l z (y : Int) ≥ cap * t)
def defFn (cap s q l z : Int) (t : Nat) : Int := leastY (defH cap s q l z t) (cap * t).toNat
def startD (cap s q l z : Int) : Int := if 2 ≤ l then (allD s q l z (-1)).tdiv cap + 1 else if 1 ≤ z then (z - 1) / cap + 1 else 0
def fromD (cap s q l z : Int) : Int := ((s - q) * ((l - 1) / q + 1) + z) / cap + 1
def defC (cap k : Int) (w : List Int) (z : List Sz) : Cv × Int :=
  if chkW 6000 cap k w z ≠ 0 then (zcv, chkW 6000 cap k w z) else if (nth z k.toNat).most < 1 then (zcv, 5) else
    let q := nth w k.toNat
    let l := (nth z k.toNat).most
    let s := shortN (q + xSum k w z w.length).toNat cap.toNat
    let zz := zSum k z w.length
    if s = -1 then (zcv, 3) else
      let p := s.toNat / Nat.gcd s.toNat cap.toNat
      if 400 < fromD cap s q l zz then (zcv, 3)
      else madeR ⟨fvals (defFn cap s q l zz) ((fromD cap s q l zz).toNat + p), p, cap * p / s * q⟩
section
variable {cap s q l z : Int}
end
/-- all of it, for the walks -/
structure DefOk (cap k : Int) (w : List Int) (z : List Sz) (cn kn m s p mm : Nat) (q l x y : Int) : Prop where
  hs : shortN m cn = s
  s1 : q ≤ s ∧ s ≤ 120 * cn
  sx : q + x ≤ s
  hp : p = s / Nat.gcd s cn
  p1 : 1 ≤ p ∧ p ≤ 120
  hmm : (cn : Int) * p = mm * s
  mm1 : mm ≤ 4000
  hinc : (cn : Int) * p / s * q = mm * q
end Go.Proofs.YtjacpnojnoompaaDoor.M

/- Deficit round robin while a class is backlogged, plain: what the others take. No condition. -/
namespace Go.Proofs.YtjacpnojnoompaaDoor.M
open Go Go.Proofs.YtjacpnojnoompaaDoor.K

def sumF (f : Nat → Int) : Nat → Int
  | 0 => 0
  | n + 1 => sumF f n + f n
theorem sumF_congr {f g : Nat → Int} : ∀ {n : Nat}, (∀ i, i < n → f i = g i) → sumF f n = sumF g n
  | 0, _ => rfl
  | n + 1, h => by simp only [sumF]; rw [sumF_congr (fun i hi => h i (by omega)), h n (by omega)]
theorem sumF_le {f g : Nat → Int} : ∀ {n : Nat}, (∀ i, i < n → f i ≤ g i) → sumF f n ≤ sumF g n
  | 0, _ => Int.le_refl _
  | n + 1, h => by have a := sumF_le (fun i hi => h i (by omega) : ∀ i, i < n → f i ≤ g i); have b := h n (by omega); simp only [sumF]; omega
theorem sumF_change {f g : Nat → Int} {c : Nat} : ∀ {n : Nat}, c < n → (∀ i, i < n → i ≠ c → g i = f i) → sumF g n = sumF f n + (g c - f c)
  | 0, h, _ => by omega
  | n + 1, hc, h => by
    simp only [sumF]
    by_cases e : c = n
    · subst e
      rw [sumF_congr (fun i hi => h i (by omega) (by omega) : ∀ i, i < c → g i = f i)]; omega
    · rw [sumF_change (by omega) (fun i hi hne => h i (by omega) hne : ∀ i, i < n → i ≠ c → g i = f i), h n (by omega) (by omega)]; omega
theorem sumF_add {f g : Nat → Int} : ∀ {n : Nat}, sumF (fun i => f i + g i) n = sumF f n + sumF g n
  | 0 => rfl
  | n + 1 => by simp only [sumF]; rw [sumF_add]; omega
def xF (k : Nat) (w : List Int) (z : List Sz) (i : Nat) : Int := if i ≠ k ∧ 1 ≤ (nth z i).most then nth w i else 0
def zF (k : Nat) (z : List Sz) (i : Nat) : Int := if i ≠ k ∧ 1 ≤ (nth z i).most then (nth z i).most - 1 else 0
theorem xSum_eq {k : Nat} {w : List Int} {z : List Sz} : ∀ n : Nat, xSum k w z n = sumF (xF k w z) n
  | 0 => rfl
  | n + 1 => by
    simp only [xSum, sumF, xSum_eq n]
    congr 1
    unfold xF
    by_cases h : n ≠ k ∧ 1 ≤ (nth z n).most
    · rw [if_pos h, if_pos ⟨by omega, h.2⟩]
    · rw [if_neg h, if_neg (fun hh => h ⟨by omega, hh.2⟩)]
/-- the quantum of class i is still to be given before class k's next one -/
def pend (k c : Nat) (b : Bool) (i : Nat) : Bool := if c = k then b else (decide (i ≠ c) || !b) && (if c ≤ k then decide (c ≤ i ∧ i < k) else decide (c ≤ i ∨ i < k))
theorem pend_iff {k c i : Nat} {b : Bool} : pend k c b i = true ↔ (c = k ∧ b = true) ∨ (c ≠ k ∧ (i ≠ c ∨ b = false) ∧ ((c ≤ k ∧ c ≤ i ∧ i < k) ∨ (¬ c ≤ k ∧ (c ≤ i ∨ i < k)))) := by
  unfold pend
  by_cases h1 : c = k
  · rw [if_pos h1]; simp [h1]
  · rw [if_neg h1]
    by_cases h2 : c ≤ k
    · rw [if_pos h2]; cases b <;> simp [h1, h2]
    · rw [if_neg h2]; cases b <;> simp [h1, h2]
theorem pend_next {k c n i : Nat} (hc : c < n) (hk : k < n) (hn : 2 ≤ n) (hi : i < n) (hik : i ≠ k) : pend k ((c + 1) % n) false i = pend k c true i := by
  rw [mod_succ hc, Bool.eq_iff_iff, pend_iff, pend_iff]
  have e1 : (false = true) = False := by simp
  have e2 : (true = false) = False := by simp
  by_cases hl : c + 1 < n
  · rw [if_pos hl, e1, e2]
    simp only [and_false, or_false, and_true, or_true, true_and, false_or]
    omega
  · rw [if_neg hl, e1, e2]
    simp only [and_false, or_false, and_true, or_true, true_and, false_or]
    omega
theorem pend_self {k c : Nat} (h : c ≠ k) : pend k c true c = false := by unfold pend; rw [if_neg h]; simp
theorem pend_self' {k c : Nat} (h : c ≠ k) : pend k c false c = true := by unfold pend; rw [if_neg h]; split <;> simp <;> omega
theorem pend_other {k c i : Nat} {b : Bool} (h : c ≠ k) (hi : i ≠ c) : pend k c b i = pend k c true i := by unfold pend; rw [if_neg h, if_neg h]; simp [hi]
theorem pend_k {k i : Nat} {b : Bool} : pend k k b i = b := by unfold pend; rw [if_pos rfl]
/-- deficits saved, and quanta to come -/
def potF (w : List Int) (z : List Sz) (k c : Nat) (b : Bool) (d : List Int) (i : Nat) : Int := if i ≠ k ∧ 1 ≤ (nth z i).most then nth d i + (if pend k c b i = true then nth w i else 0) else 0
/-- the deficits: what is saved is less than a packet, but of the class that is visited -/
def DD (n : Nat) (z : List Sz) (c : Nat) (b : Bool) (d : List Int) : Prop := c < n ∧ d.length = n ∧ ∀ i, i < n → 0 ≤ nth d i ∧ (¬ (i = c ∧ b = true) → 1 ≤ (nth z i).most → nth d i ≤ (nth z i).most - 1)
def JD (w : List Int) (z : List Sz) (k c : Nat) (b : Bool) (d : List Int) (op own oth : Int) : Prop :=
  DD w.length z c b d ∧ ∃ v : Nat, oth + (if c = k then 0 else op) + sumF (potF w z k c b d) w.length ≤ ((v : Int) + 1) * xSum k w z w.length + zSum k z w.length ∧
    (v : Int) * nth w k ≤ own + (if c = k then op else 0) + nth d k ∧ (c = k → b = true → ((v : Int) - 1) * nth w k - ((nth z k).most - 1) ≤ own)
section
variable {nx sz : Int → Int} {w : List Int} {z : List Sz} {k : Nat}
theorem DD.grant (hw : ∀ x ∈ w, 1 ≤ x) {c : Nat} {b : Bool} {d : List Int} (h : DD w.length z c b d) (h0 : 0 ≤ nx c) : DD w.length z c true (M.grant nx w c b d) := by
  obtain ⟨h1, h2, h3⟩ := h
  refine ⟨h1, by rw [grant_len]; exact h2, fun i hi => ?_⟩
  have a := h3 i hi
  by_cases e : i = c
  · subst e
    refine ⟨?_, fun hn => absurd ⟨rfl, rfl⟩ hn⟩
    rw [grant_self (by omega)]
    have := hw _ (nth_mem hi)
    split <;> omega
  · rw [grant_ne e]
    exact ⟨a.1, fun _ hm => a.2 (fun hh => e hh.1) hm⟩
theorem DD.pick {c : Nat} {d : List Int} (h : DD w.length z c true d) {s : Int} (hs : s ≤ nth d c) : DD w.length z c true (d.set c (nth d c - s)) := by
  obtain ⟨h1, h2, h3⟩ := h
  refine ⟨h1, by rw [List.length_set]; exact h2, fun i hi => ?_⟩
  have a := h3 i hi
  by_cases e : i = c
  · subst e
    rw [nth_set_self (by omega)]
    exact ⟨by omega, fun hn => absurd ⟨rfl, rfl⟩ hn⟩
  · rw [nth_set_ne (Ne.symm e)]
    exact ⟨a.1, fun _ hm => a.2 (fun hh => e hh.1) hm⟩
theorem DD.next {c : Nat} {b : Bool} {d : List Int} (h : DD w.length z c b d) (hlt : 1 ≤ (nth z c).most → nth d c ≤ (nth z c).most - 1) : DD w.length z ((c + 1) % w.length) false d := by
  obtain ⟨h1, h2, h3⟩ := h
  refine ⟨Nat.mod_lt _ (by omega), h2, fun i hi => ?_⟩
  have a := h3 i hi
  refine ⟨a.1, fun _ hm => ?_⟩
  by_cases e : i = c
  · subst e; exact hlt hm
  · exact a.2 (fun hh => e hh.1) hm
theorem JD.grant (hw : ∀ x ∈ w, 1 ≤ x) (hk : k < w.length) (hL : 1 ≤ (nth z k).most) {c : Nat} {b : Bool} {d : List Int} {own oth : Int} (h : JD w z k c b d 0 own oth) (h0 : 0 ≤ nx c) : JD w z k c true (M.grant nx w c b d) 0 own oth := by
  obtain ⟨hd, v, a1, a2, a3⟩ := h
  refine ⟨hd.grant hw h0, ?_⟩
  have hcl : c < d.length := by rw [hd.2.1]; exact hd.1
  cases b with
  | true =>
    have e : M.grant nx w c true d = d := by unfold M.grant; rw [if_neg (by simp)]
    rw [e]; exact ⟨v, a1, a2, a3⟩
  | false =>
    have eg : nth (M.grant nx w c false d) c = nth d c + nth w c := by rw [grant_self hcl, if_pos ⟨h0, rfl⟩]
    by_cases hck : c = k
    · subst hck
      rw [if_pos rfl] at a1 a2
      refine ⟨v + 1, ?_, ?_, fun _ _ => ?_⟩
      · rw [if_pos rfl]
        have e : sumF (potF w z c c true (M.grant nx w c false d)) w.length = sumF (potF w z c c false d) w.length + xSum c w z w.length := by
          rw [xSum_eq, ← sumF_add]
          refine sumF_congr (fun i hi => ?_)
          unfold potF xF
          by_cases hh : i ≠ c ∧ 1 ≤ (nth z i).most
          · rw [if_pos hh, if_pos hh, if_pos hh, grant_ne hh.1, pend_k, pend_k, if_pos rfl, if_neg (by simp)]; omega
          · rw [if_neg hh, if_neg hh, if_neg hh]; omega
        rw [e]
        have e2 : (((v + 1 : Nat) : Int) + 1) * xSum c w z w.length = ((v : Int) + 1) * xSum c w z w.length + xSum c w z w.length := by rw [show (((v + 1 : Nat) : Int) + 1) = ((v : Int) + 1) + 1 by omega, Int.add_mul, Int.one_mul]
        rw [e2]; omega
      · rw [if_pos rfl, eg]
        have e2 : (((v + 1 : Nat) : Int)) * nth w c = (v : Int) * nth w c + nth w c := by rw [show ((v + 1 : Nat) : Int) = (v : Int) + 1 by omega, Int.add_mul, Int.one_mul]
        rw [e2]; omega
      · have hdk := (hd.2.2 c hk).2 (by simp) hL
        rw [show (((v + 1 : Nat) : Int) - 1) = (v : Int) by omega]
        omega
    · rw [if_neg hck] at a1 a2
      refine ⟨v, ?_, ?_, fun h => absurd h hck⟩
      · rw [if_neg hck]
        have e : sumF (potF w z k c true (M.grant nx w c false d)) w.length = sumF (potF w z k c false d) w.length := by
          refine sumF_congr (fun i hi => ?_)
          unfold potF
          by_cases hh : i ≠ k ∧ 1 ≤ (nth z i).most
          · rw [if_pos hh, if_pos hh]
            by_cases e : i = c
            · subst e
              rw [eg, pend_self hck, pend_self' hck, if_neg (by simp), if_pos rfl]; omega
            · rw [grant_ne e, pend_other (b := false) hck e]
          · rw [if_neg hh, if_neg hh]
        rw [e]; exact a1
      · rw [if_neg hck, grant_ne (Ne.symm hck)]; exact a2
theorem JD.pick {c : Nat} {d : List Int} {own oth : Int} (h : JD w z k c true d 0 own oth) {s : Int} (hs : s ≤ nth d c) (hm : 1 ≤ (nth z c).most) : JD w z k c true (d.set c (nth d c - s)) s own oth := by
  obtain ⟨hd, v, a1, a2, a3⟩ := h
  have hcl : c < d.length := by rw [hd.2.1]; exact hd.1
  refine ⟨hd.pick hs, v, ?_, ?_, a3⟩
  · by_cases hck : c = k
    · subst hck
      rw [if_pos rfl] at a1 ⊢
      have e : sumF (potF w z c c true (d.set c (nth d c - s))) w.length = sumF (potF w z c c true d) w.length := by
        refine sumF_congr (fun i hi => ?_)
        unfold potF
        by_cases hh : i ≠ c ∧ 1 ≤ (nth z i).most
        · rw [if_pos hh, if_pos hh, nth_set_ne (Ne.symm hh.1)]
        · rw [if_neg hh, if_neg hh]
      rw [e]; exact a1
    · rw [if_neg hck] at a1 ⊢
      have e : sumF (potF w z k c true (d.set c (nth d c - s))) w.length = sumF (potF w z k c true d) w.length + (potF w z k c true (d.set c (nth d c - s)) c - potF w z k c true d c) := by
        refine sumF_change hd.1 (fun i hi hne => ?_)
        unfold potF
        rw [nth_set_ne (Ne.symm hne)]
      have e2 : potF w z k c true (d.set c (nth d c - s)) c - potF w z k c true d c = - s := by
        unfold potF
        have hcm : c ≠ k ∧ 1 ≤ (nth z c).most := ⟨hck, hm⟩
        rw [if_pos hcm, if_pos hcm, nth_set_self hcl]; omega
      rw [e, e2]; omega
  · by_cases hck : c = k
    · subst hck
      rw [if_pos rfl] at a2 ⊢
      rw [nth_set_self hcl]; omega
    · rw [if_neg hck] at a2 ⊢
      rw [nth_set_ne hck]; exact a2
theorem JD.next (hw : ∀ x ∈ w, 1 ≤ x) (hk : k < w.length) (hn : 2 ≤ w.length) {c : Nat} {d : List Int} {own oth : Int} (h : JD w z k c true d 0 own oth) (hlt : 1 ≤ (nth z c).most → nth d c ≤ (nth z c).most - 1) : JD w z k ((c + 1) % w.length) false d 0 own oth := by
  obtain ⟨hd, v, a1, a2, a3⟩ := h
  refine ⟨hd.next hlt, v, ?_, ?_, fun _ h => by cases h⟩
  · have e : sumF (potF w z k ((c + 1) % w.length) false d) w.length = sumF (potF w z k c true d) w.length := by
      refine sumF_congr (fun i hi => ?_)
      unfold potF
      by_cases hh : i ≠ k ∧ 1 ≤ (nth z i).most
      · rw [if_pos hh, if_pos hh, pend_next hd.1 hk hn hi hh.1]
      · rw [if_neg hh, if_neg hh]
    rw [e]
    split <;> split at a1 <;> omega
  · split <;> split at a2 <;> omega
/-- a class without a waiting packet loses its deficit -/
theorem JD.skip (hw : ∀ x ∈ w, 1 ≤ x) (hk : k < w.length) (hn : 2 ≤ w.length) {c : Nat} {b : Bool} {d : List Int} {own oth : Int} (h : JD w z k c b d 0 own oth) (hck : c ≠ k) : JD w z k ((c + 1) % w.length) false (d.set c 0) 0 own oth := by
  obtain ⟨hd, v, a1, a2, a3⟩ := h
  have hcl : c < d.length := by rw [hd.2.1]; exact hd.1
  have hd2 : DD w.length z c b (d.set c 0) := by
    refine ⟨hd.1, by rw [List.length_set]; exact hd.2.1, fun i hi => ?_⟩
    by_cases e : i = c
    · subst e
      rw [nth_set_self hcl]
      exact ⟨Int.le_refl _, fun _ hm => by omega⟩
    · rw [nth_set_ne (Ne.symm e)]; exact hd.2.2 i hi
  refine ⟨hd2.next (fun hm => by rw [nth_set_self hcl]; omega), v, ?_, ?_, fun _ h => by cases h⟩
  · have e : sumF (potF w z k ((c + 1) % w.length) false (d.set c 0)) w.length ≤ sumF (potF w z k c b d) w.length := by
      refine sumF_le (fun i hi => ?_)
      unfold potF
      by_cases hh : i ≠ k ∧ 1 ≤ (nth z i).most
      · rw [if_pos hh, if_pos hh, pend_next hd.1 hk hn hi hh.1]
        by_cases e : i = c
        · subst e
          rw [nth_set_self hcl, pend_self hck, if_neg (by simp)]
          have := (hd.2.2 i hi).1
          have := hw _ (nth_mem hi)
          split <;> omega
        · rw [nth_set_ne (Ne.symm e), pend_other (b := b) hck e]; exact Int.le_refl _
      · rw [if_neg hh, if_neg hh]; exact Int.le_refl _
    rw [if_neg hck] at a1
    split <;> omega
  · rw [nth_set_ne hck]
    rw [if_neg hck] at a2
    split <;> omega
end
def Jdef (ps : List Pkt) (w : List Int) (z : List Sz) (k : Nat) (sg : Nat × Bool × List Int) (cur rest own oth : Int) : Prop := JD w z k sg.1 sg.2.1 sg.2.2 (if 0 ≤ cur then rest else 0) own oth ∧ (0 ≤ cur → (nth ps cur.toNat).flow = sg.1 ∧ sg.2.1 = true)
section
variable {ps : List Pkt} {w : List Int} {z : List Sz} {k : Nat}
/-- where every run stands -/
def V0 (w : List Int) (z : List Sz) (c : Nat) (b : Bool) (d : List Int) (op : Int) : Prop := DD w.length z c b d ∧ (b = true → 1 ≤ (nth z c).most → nth d c + op ≤ (nth z c).most - 1 + nth w c)
def Vdef (ps : List Pkt) (w : List Int) (z : List Sz) (sg : Nat × Bool × List Int) (cur rest : Int) : Prop := V0 w z sg.1 sg.2.1 sg.2.2 (if 0 ≤ cur then rest else 0) ∧ (0 ≤ cur → cur < ps.length ∧ (nth ps cur.toNat).flow = sg.1 ∧ sg.2.1 = true ∧ 0 ≤ rest ∧ 1 ≤ (nth z sg.1).most)
theorem V0.grant (hw : ∀ x ∈ w, 1 ≤ x) {nx : Int → Int} {c : Nat} {b : Bool} {d : List Int} (h : V0 w z c b d 0) (h0 : 0 ≤ nx c) : V0 w z c true (M.grant nx w c b d) 0 := by
  obtain ⟨hd, h1⟩ := h
  have hcl : c < d.length := by rw [hd.2.1]; exact hd.1
  refine ⟨hd.grant hw h0, fun _ hm => ?_⟩
  rw [grant_self hcl]
  cases b with
  | true => rw [if_neg (by simp)]; exact h1 rfl hm
  | false =>
    rw [if_pos ⟨h0, rfl⟩]
    have := (hd.2.2 c hd.1).2 (by simp) hm
    omega
end
end Go.Proofs.YtjacpnojnoompaaDoor.M

/- Weighted and deficit round robin: the curve of a class is what it is served while it is backlogged, plain. No condition. -/
namespace Go.Proofs.YtjacpnojnoompaaDoor.M
open Go Go.Proofs.YtjacpnojnoompaaDoor.K

/-- what a law over a scheduler wants of a class's curve: its form, and that it is less than what is sent where the others take at most O -/
def CurveFor (x : Cv × Int) (cap : Int) (O : Int → Int) (G : Nat → Int) (s p : Nat) (q : Int) : Prop :=
  x = (⟨fvals G (s + p), p, q⟩, 0) ∧ FC G s p q ∧ G 0 = 0 ∧ ∀ (t : Nat) (own : Int), 0 ≤ own → cap * (t : Int) ≤ own + O own → G t ≤ own
section
variable {σ : Type} {ps : List Pkt} {ch : MS → σ → Int × Nat × σ} {good : MS → σ → Prop} {classes k : Nat}
end
end Go.Proofs.YtjacpnojnoompaaDoor.M

/- Time slots, plain: what every run of such a line keeps. No condition. -/
namespace Go.Proofs.YtjacpnojnoompaaDoor.M
open Go Go.Proofs.YtjacpnojnoompaaDoor.K

/-- the rest of a packet has room in the ticks in a row from t on -/
def Fits (tb : List Int) (cap : Int) (t : Nat) (left rest : Int) : Prop := (∀ i, slotT tb i = slotT tb t) ∨ ∃ n : Nat, (∀ j, j ≤ n → slotT tb (t + j) = slotT tb t) ∧ rest ≤ left + cap * n
theorem Fits.next {tb : List Int} {cap : Int} {t : Nat} {rest : Int} (h : Fits tb cap t 0 rest) (hr : 1 ≤ rest) : slotT tb (t + 1) = slotT tb t ∧ Fits tb cap (t + 1) cap rest := by
  rcases h with h | ⟨n, h1, h2⟩
  · exact ⟨h _, .inl (fun i => by rw [h i, h (t + 1)])⟩
  · cases n with
    | zero => simp at h2; omega
    | succ n =>
      have e := h1 1 (by omega)
      refine ⟨e, .inr ⟨n, fun j hj => ?_, ?_⟩⟩
      · rw [show t + 1 + j = t + (j + 1) by omega, h1 (j + 1) (by omega), e]
      · rw [Int.natCast_add, Int.mul_add] at h2
        simp at h2; omega
structure SlotPost (ps : List Pkt) (cap : Int) (tb : List Int) (classes t : Nat) (s s' : RS Unit) : Prop where
  open_ : 0 ≤ s'.cur → (nth ps s'.cur.toNat).flow = slotT tb t ∧ Fits tb cap t s'.ms.left s'.rest
  left0 : 0 ≤ s'.cur → s'.ms.left = 0
  other : ∀ c : Nat, (c : Int) ≠ slotT tb t → c < classes → nth (nth s'.sent c) (t + 1) = nth (nth s.sent c) (t + 1)
  mine : ∀ c : Nat, (c : Int) = slotT tb t → c < classes → nth (nth s'.sent c) (t + 1) + s'.ms.left = nth (nth s.sent c) (t + 1) + s.ms.left
  done : ∀ i, i < ps.length → nth s'.done i = nth s.done i ∨ (nth s'.done i = t ∧ (nth ps i).flow = slotT tb t)
  beg : ∀ i, (nth ps i).flow ≠ slotT tb t → nth s'.ms.begun i = nth s.ms.begun i
  lft : 0 ≤ s'.ms.left ∧ s'.ms.left ≤ s.ms.left
  idle : 0 < s'.ms.left → s'.cur < 0 ∧ (slotT tb t < 0 ∨ nextW ps s'.ms (slotT tb t) < 0 ∨ ∃ n : Nat, aheadN tb (slotT tb t) t = n + 1 ∧ (nth ps (nextW ps s'.ms (slotT tb t)).toNat).size > s'.ms.left + cap * n)
section
variable {ps : List Pkt} {cap : Int} {tb : List Int} {classes : Nat}
end
end Go.Proofs.YtjacpnojnoompaaDoor.M

/- Time slots, plain: a class is sent what it is sent alone. No condition. -/
namespace Go.Proofs.YtjacpnojnoompaaDoor.M
open Go Go.Proofs.YtjacpnojnoompaaDoor.K

/-- the places of the packets of a class -/
def selI (ps : List Pkt) (k : Int) : List Nat := (List.range ps.length).filter fun i => (nth ps i).flow == k
def selP (ps : List Pkt) (k : Int) : List Pkt := ps.filter fun p => p.flow == k
structure Sel (ps : List Pkt) (k : Int) (qs : List Pkt) (ix : Nat → Nat) : Prop where
  at_ : ∀ j, j < qs.length → ix j < ps.length ∧ (nth ps (ix j)).flow = k ∧ nth qs j = nth ps (ix j)
  mono : ∀ j j', j < j' → j' < qs.length → ix j < ix j'
  onto : ∀ i, i < ps.length → (nth ps i).flow = k → ∃ j, j < qs.length ∧ ix j = i
section
variable {ps qs : List Pkt} {cap : Int} {tb : List Int} {classes k : Nat} {ix : Nat → Nat}
theorem Sel.inj (h : Sel ps k qs ix) {j j' : Nat} (hj : j < qs.length) (hj' : j' < qs.length) (e : ix j = ix j') : j = j' := by
  rcases Nat.lt_trichotomy j j' with h1 | h1 | h1
  · have := h.mono _ _ h1 hj'; omega
  · exact h1
  · have := h.mono _ _ h1 hj; omega
/-- the first packet of the class that waits, here and there -/
theorem Sel.next (h : Sel ps k qs ix) {ms ms' : MS} (hnow : ms'.now = ms.now) (hb : ∀ j, j < qs.length → nth ms'.begun j = nth ms.begun (ix j)) :
    (nextW qs ms' k < 0 ∧ nextW ps ms k < 0) ∨ (0 ≤ nextW qs ms' k ∧ (nextW qs ms' k).toNat < qs.length ∧ nextW ps ms k = ix (nextW qs ms' k).toNat) := by
  have hP : ∀ j, j < qs.length → nextP qs ms' k j = nextP ps ms k (ix j) := fun j hj => by
    obtain ⟨_, h2, h3⟩ := h.at_ j hj
    unfold nextP
    rw [hnow, hb j hj, h3]
  unfold nextW
  rcases findN_cases (nextP qs ms' k) qs.length with ⟨j, j1, j2, j3, j4⟩ | ⟨j1, j2⟩
  · right
    rw [j2, Int.toNat_natCast]
    refine ⟨by omega, j1, ?_⟩
    refine findN_some (h.at_ j j1).1 (by rw [← hP j j1]; exact j3) (fun i hi => ?_)
    by_cases hf : (nth ps i).flow = k
    · obtain ⟨j', e1, e2⟩ := h.onto i (by have := (h.at_ j j1).1; omega) hf
      have hlt : j' < j := by
        apply Classical.byContradiction
        intro hn
        by_cases e : j' = j
        · subst e; omega
        · have := h.mono j j' (by omega) e1; omega
      have := j4 j' hlt
      rw [hP j' e1, e2] at this; exact this
    · unfold nextP
      have : ((nth ps i).flow == (k : Int)) = false := by simpa using hf
      rw [this]; simp
  · left
    refine ⟨by rw [j1]; omega, ?_⟩
    rw [findN_none (fun i hi => ?_)]
    · omega
    · by_cases hf : (nth ps i).flow = k
      · obtain ⟨j', e1, e2⟩ := h.onto i hi hf
        have := j2 j' e1
        rw [hP j' e1, e2] at this; exact this
      · unfold nextP
        have : ((nth ps i).flow == (k : Int)) = false := by simpa using hf
        rw [this]; simp
/-- the two runs while the class is served -/
structure ApI (ps qs : List Pkt) (k t : Nat) (ix : Nat → Nat) (s a : RS Unit) : Prop where
  left : a.ms.left = s.ms.left
  now : a.ms.now = s.ms.now
  begun : ∀ j, j < qs.length → nth a.ms.begun j = nth s.ms.begun (ix j)
  done : ∀ j, j < qs.length → nth a.done j = nth s.done (ix j)
  col : nth (nth a.sent k) (t + 1) = nth (nth s.sent k) (t + 1)
  cur : (0 ≤ a.cur ∧ s.cur = ix a.cur.toNat ∧ a.rest = s.rest) ∨ (a.cur < 0 ∧ s.cur < 0)
/-- the two runs between ticks -/
structure Ap (ps qs : List Pkt) (k t : Nat) (ix : Nat → Nat) (s a : RS Unit) : Prop where
  begun : ∀ j, j < qs.length → nth a.ms.begun j = nth s.ms.begun (ix j)
  done : ∀ j, j < qs.length → nth a.done j = nth s.done (ix j)
  col : nth (nth a.sent k) t = nth (nth s.sent k) t
  cur : (0 ≤ a.cur ∧ s.cur = ix a.cur.toNat ∧ a.rest = s.rest) ∨ (a.cur < 0 ∧ (s.cur < 0 ∨ (nth ps s.cur.toNat).flow ≠ k))
end
end Go.Proofs.YtjacpnojnoompaaDoor.M

/- Time slots, plain: the curve of a class, and that it is what the class is served. No condition. -/
namespace Go.Proofs.YtjacpnojnoompaaDoor.M
open Go Go.Proofs.YtjacpnojnoompaaDoor.K

/-- of so many ticks from a tick on: what the parts that have ended count, and the part that goes on -/
def slotS (cap lost : Int) (mine : Nat → Bool) (from_ : Nat) : Nat → Int × Int
  | 0 => (0, 0)
  | d + 1 => if mine (from_ + d) = true then ((slotS cap lost mine from_ d).1, (slotS cap lost mine from_ d).2 + cap) else ((slotS cap lost mine from_ d).1 + max 0 ((slotS cap lost mine from_ d).2 - lost), 0)
def cntS (cap lost : Int) (mine : Nat → Bool) (from_ k : Nat) : Int := (slotS cap lost mine from_ k).1 + max 0 ((slotS cap lost mine from_ k).2 - lost)
/-- the least of so many -/
def minTo (f : Nat → Int) : Nat → Int
  | 0 => 4611686018427387904
  | n + 1 => min (minTo f n) (f n)
def minN (f : Nat → Int) : Nat → Int
  | 0 => f 0
  | n + 1 => min (minN f n) (f n)
def slotF (cap lost : Int) (mine : Nat → Bool) (n : Nat) (k : Nat) : Int := minN (fun a => cntS cap lost mine a k) n
section
variable {cap lost : Int} {mine : Nat → Bool} {a : Nat}
end
/-- the ticks of a class -/
def mineT (tb : List Int) (k : Int) (t : Nat) : Bool := slotT tb t == k
section
variable {ps : List Pkt} {cap : Int} {tb : List Int} {classes k : Nat}
end
end Go.Proofs.YtjacpnojnoompaaDoor.M

/- Time slots, plain: packets are sent within ticks in a row that belong to their class; a class that has all ticks is sent what a line in order of arrival sends it. No condition. -/
namespace Go.Proofs.YtjacpnojnoompaaDoor.M
open Go Go.Proofs.YtjacpnojnoompaaDoor.K

/-- sums -/
def sumUp (f : Nat → Int) : Nat → Int
  | 0 => 0
  | n + 1 => sumUp f n + f n
section
variable {σ : Type} {ps : List Pkt} {ch : MS → σ → Int × Nat × σ} {good : MS → σ → Prop} {rel : Nat → Nat → Prop} {classes col k : Nat} {s : RS σ}
end
section
variable {ps : List Pkt} {cap : Int} {tb : List Int} {classes : Nat}
/-- the bytes of the first packets of a class -/
def ofK (ps : List Pkt) (k : Int) (i : Nat) : Int := if (nth ps i).flow = k then (nth ps i).size else 0
/-- those that are finished before a tick -/
def overK (ps : List Pkt) (dn : List Int) (k t : Int) (i : Nat) : Int := if (nth ps i).flow = k ∧ 0 ≤ nth dn i ∧ nth dn i < t then (nth ps i).size else 0
/-! ### a class that has all ticks -/
end
end Go.Proofs.YtjacpnojnoompaaDoor.M

/- Priorities, plain: what a class is served. No condition. -/
namespace Go.Proofs.YtjacpnojnoompaaDoor.M
open Go Go.Proofs.YtjacpnojnoompaaDoor.K

section
variable {ps : List Pkt} {n k : Nat}
/-- what is open of a lesser class -/
def lowR (ps : List Pkt) (k : Nat) (s : RS Unit) : Int := if 0 ≤ s.cur ∧ (k : Int) < (nth ps s.cur.toNat).flow then s.rest else 0
end
end Go.Proofs.YtjacpnojnoompaaDoor.M

/- Valid curves, finite or not, plain: what they say, their normal forms, and that two ways to make a curve give the same. No condition. -/
namespace Go.Proofs.YtjacpnojnoompaaDoor.M
open Go Go.Proofs.YtjacpnojnoompaaDoor.K

/-! ### normal forms do not depend on the period that one began with -/
section
variable {F : Nat → Int} {S P S' P' : Nat} {I I' : Int}
theorem infL_some {n m : Nat} (hn : n < m) (hi : F n = INF) (hf : ∀ t, t < n → F t ≠ INF) : infL (fvals F m) = n := by
  unfold infL
  rw [fvals_len]
  exact findFrom_some (Nat.zero_le _) (by omega) (by rw [fvals_nth F hn, hi]; simp) (fun j _ hj => by rw [fvals_nth F (by omega)]; simp [hf j hj])
theorem normR_inf {n m : Nat} {per inc : Int} (hn : n < m) (hi : F n = INF) (hf : ∀ t, t < n → F t ≠ INF) : normR ⟨fvals F m, per, inc⟩ = ⟨fvals F (n + 1), 1, 0⟩ := by
  unfold normR
  dsimp only
  rw [infL_some hn hi hf, if_neg (by omega), Int.toNat_natCast, fvals_take F (by omega)]
end
/-! ### what valid curves say -/
/-- infinite from n on -/
structure IC (F : Nat → Int) (n : Nat) : Prop where
  hn : n < 400
  hi : ∀ t, n ≤ t → F t = INF
  hb : ∀ t, t < n → 0 ≤ F t ∧ F t ≤ 1073741824
  hm : ∀ t, F t ≤ F (t + 1)
def cvF (c : Cv) (t : Nat) : Int := atR c.vals c.per c.inc (t : Int)
/-- where the value of a late tick stands -/
def cvJ (n P t : Nat) : Nat := t - ((t - n) / P + 1) * P
section
variable {c : Cv}
/-- of a finite curve, of any valid one -/
def finB (c : Cv) : Bool := nth c.vals (c.vals.length - 1) != INF
end
theorem IC.fin {F : Nat → Int} {n t : Nat} (h : IC F n) (ht : t < n) : F t ≠ INF := by have := h.hb t ht; unfold INF; omega
theorem IC.valid {F : Nat → Int} {n m : Nat} (h : IC F n) (hm : n < m) (hm' : m ≤ 400) : validB ⟨fvals F m, 1, 0⟩ = true := by
  rw [validB_iff]
  dsimp only
  rw [fvals_len, fvals_nth F (show m - 1 < m by omega), if_pos (h.hi _ (by omega))]
  refine ⟨⟨by omega, hm', by decide, by decide, by omega, by decide, by unfold MAXV; omega⟩, fun i hi => ?_, rfl, rfl⟩
  rw [fvals_nth F hi]
  refine ⟨?_, ?_⟩
  · by_cases e : i < n
    · have := h.hb i e
      right; unfold MAXV; exact this
    · exact .inl (h.hi i (by omega))
  · by_cases e : i = 0
    · exact .inl e
    · right
      rw [fvals_nth F (by omega)]
      have := h.hm (i - 1)
      rwa [show i - 1 + 1 = i by omega] at this
/-- the normal form of a finite curve -/
theorem FC.norm {F : Nat → Int} {S P : Nat} {I : Int} (h : FC F S P I) : ∃ (s p : Nat) (q : Int), normR ⟨fvals F (S + P), P, I⟩ = ⟨fvals F (s + p), p, q⟩ ∧ FC F s p q ∧ s ≤ S ∧ p ≤ P ∧ NF F S P I p s ∧ q = I * p / P := by
  have hP := h.hP
  have hI := h.hI
  obtain ⟨p, s, h1, h2, h3, h4⟩ := normR_nf (by omega) hI.1 h.hg (fun t ht => h.fin ht)
  have hp := h1.least.1
  have hq0 : 0 ≤ I * (p : Int) / P := Int.ediv_nonneg (Int.mul_nonneg hI.1 (by omega)) (by omega)
  have hq : I * (p : Int) / P ≤ I := by
    have h3 : I * (p : Int) ≤ I * (P : Int) := Int.mul_le_mul_of_nonneg_left (by omega) hI.1
    have h4 : I * (p : Int) / P ≤ I * (P : Int) / P := Int.ediv_le_ediv (by omega) h3
    rw [Int.mul_ediv_cancel _ (by omega)] at h4
    exact h4
  have hn := h.hn
  exact ⟨s, p, I * p / P, h4, ⟨by omega, by omega, ⟨hq0, by omega⟩, h1.starts.1, h.hm, h.h0, fun t ht => h.hb t (by omega)⟩, h3, h2, h1, rfl⟩
theorem IC.norm {F : Nat → Int} {n m : Nat} (h : IC F n) (hm : n < m) : normR ⟨fvals F m, 1, 0⟩ = ⟨fvals F (n + 1), 1, 0⟩ :=
  normR_inf hm (h.hi n (Nat.le_refl _)) (fun t ht => h.fin ht)
end Go.Proofs.YtjacpnojnoompaaDoor.M

/- What the references' normal form wants of long lists, plain; curves less a number. No condition. -/
namespace Go.Proofs.YtjacpnojnoompaaDoor.M
open Go Go.Proofs.YtjacpnojnoompaaDoor.K

/-- what Made wants -/
structure MadeOk (v : List Int) (per inc : Int) : Prop where
  vals : ∀ x ∈ v, -2305843009213693952 ≤ x ∧ x ≤ 4611686018427387904
  hper : 1 ≤ per ∧ per ≤ 10000 ∧ per ≤ v.length
  hinc : 0 ≤ inc ∧ inc ≤ 2147483648
  self : infL v = -1 → perR ⟨v, per, inc⟩ ((v.length : Int) - per) per = true
  at_ : ∀ t : Int, 0 ≤ t → t ≤ (v.length : Int) + per → infL v = -1 → 0 ≤ atR v per inc t ∧ atR v per inc t ≤ 1000000000000000
  nb : (∀ x ∈ (normR ⟨v, per, inc⟩).vals, -2305843009213693952 ≤ x ∧ x ≤ 4611686018427387904) ∧ InR (normR ⟨v, per, inc⟩).per ∧ InR (normR ⟨v, per, inc⟩).inc
/-! ### a curve less a number -/
/-- infinite there -/
def isInf (c : Cv) (t : Nat) : Prop := finB c = false ∧ cvF c t = INF
instance (c : Cv) (t : Nat) : Decidable (isInf c t) := by unfold isInf; infer_instance
def lowF (c : Cv) (k : Int) (t : Nat) : Int := if isInf c t then INF else max 0 (cvF c t - k)
def lowerR (c : Cv) (k : Int) : Cv × Int :=
  if finB (normR c) = true ∧ 0 < (normR c).inc ∧ cvF (normR c) 400 < k then (zcv, 3)
  else madeR ⟨fvals (lowF (normR c) k) (400 + (normR c).per.toNat), (normR c).per, (normR c).inc⟩
end Go.Proofs.YtjacpnojnoompaaDoor.M

/- Sums of curves, curves raised, what is left of a line, plain: the program and the reference make the same. No condition. -/
namespace Go.Proofs.YtjacpnojnoompaaDoor.M
open Go Go.Proofs.YtjacpnojnoompaaDoor.K

/-! ### functions that repeat, or are infinite from some tick on -/
structure RepF (F : Nat → Int) (S P : Nat) (I : Int) : Prop where
  hP : 0 < P
  hI : 0 ≤ I
  hg : Grows F S P I
  hm : ∀ t, F t ≤ F (t + 1)
  h0 : 0 ≤ F 0
  hf : ∀ t, t < S + P → F t < INF
structure RepI (F : Nat → Int) (n m : Nat) : Prop where
  hn : n < m
  hi : ∀ t, n ≤ t → F t = INF
  hf : ∀ t, t < n → 0 ≤ F t ∧ F t < INF
  hm : ∀ t, F t ≤ F (t + 1)
/-- a curve in normal form -/
structure Nrm (c : Cv) : Prop where
  valid : validB c = true
  norm : normR c = c
def stN (c : Cv) : Nat := c.vals.length - c.per.toNat
/-- a curve, if it is one, in normal form -/
def normC (c : Cv) : Cv × Int := if validB c = true then (normR c, 0) else (zcv, 1)
/-! ### sums -/
def lcmC (a b : Cv) : Nat := lcmN a.per.toNat b.per.toNat
def gainC (c : Cv) (L : Nat) : Int := (L : Int) / c.per * c.inc
def plusF (a b : Cv) (t : Nat) : Int := if isInf a t ∨ isInf b t then INF else cvF a t + cvF b t
section
variable {a b : Cv}
end
def sumC (f g : Cv) : Cv × Int :=
  if validB f = false ∨ validB g = false then (zcv, 1)
  else if 120 < lcmC (normR f) (normR g) then (zcv, 3)
  else mbuild (plusF (normR f) (normR g)) (max (stN (normR f)) (stN (normR g))) (lcmC (normR f) (normR g)) (gainC (normR f) (lcmC (normR f) (normR g)) + gainC (normR g) (lcmC (normR f) (normR g)))
/-! ### raised -/
def raiseF (a : Cv) (k : Int) (t : Nat) : Int := if t = 0 then 0 else if isInf a t then INF else cvF a t + k
def raiseC (f : Cv) (k : Int) : Cv × Int :=
  if validB f = false then (zcv, 1) else if k < 0 ∨ MAXV < k then (zcv, 2)
  else mbuild (raiseF (normR f) k) (max 1 (stN (normR f))) (normR f).per.toNat (normR f).inc
/-! ### totals -/
def zeroC : Cv := ⟨[0], 1, 0⟩
def totalGo (s : Cv) : List Cv → Cv × Int
  | [] => (s, 0)
  | f :: l => if (sumC s f).2 ≠ 0 then (zcv, (sumC s f).2) else totalGo (sumC s f).1 l
def totalC (l : List Cv) : Cv × Int := totalGo zeroC l
/-- a flat one -/
def flatF (k : Int) (t : Nat) : Int := if t = 0 then 0 else k
def flatC (k : Int) : Cv × Int := mbuild (flatF k) 1 1 0
/-- curves in memory -/
structure CvS where
  a : Option Addr
  cap : Nat
  cv : Cv
instance instCvS : Inhabited CvS := ⟨⟨none, 0, zcv⟩⟩
def encC (s : CvS) : List Value := [.slice s.a s.cv.vals.length s.cap, .int .i64 s.cv.per, .int .i64 s.cv.inc]
/-- the last value that was looked at -/
def lastV (v : List Int) (t : Nat) : Int := if t = 0 then 0 else nth v (t - 1)
end Go.Proofs.YtjacpnojnoompaaDoor.M

/- What a curve leaves of a line, plain: the program and the reference make the same. No condition. -/
namespace Go.Proofs.YtjacpnojnoompaaDoor.M
open Go Go.Proofs.YtjacpnojnoompaaDoor.K

/-- the greatest of the first so many, and 0 -/
def mostF (f : Nat → Int) : Nat → Int
  | 0 => 0
  | n + 1 => max (mostF f n) (f n)
/-- the greatest from s on -/
def tailF (f : Nat → Int) (s : Nat) : Nat → Int
  | 0 => f s
  | d + 1 => max (tailF f s d) (f (s + (d + 1)))
section
variable {f : Nat → Int} {s P : Nat} {D : Int}
end
/-- the difference -/
def rawL (cap : Int) (b : Cv) (t : Nat) : Int := if isInf b t then 0 else cap * (t : Int) - cvF b t
def restF (cap : Int) (b : Cv) (t : Nat) : Int := mostF (rawL cap b) (t + 1)
def driftL (cap : Int) (b : Cv) : Int := b.per * cap - b.inc
def restC (cap : Int) (g : Cv) : Cv × Int :=
  if validB g = false then (zcv, 1)
  else if finB (normR g) = true ∧ 0 < driftL cap (normR g) then
    (if tailF (rawL cap (normR g)) (stN (normR g)) (400 - stN (normR g)) < mostF (rawL cap (normR g)) (stN (normR g)) then (zcv, 3) else mbuild (restF cap (normR g)) 400 (normR g).per.toNat (driftL cap (normR g)))
  else mbuild (restF cap (normR g)) (stN (normR g) + (normR g).per.toNat) 1 0
/-- what the reference adds in a period -/
def gainL (cap : Int) (b : Cv) : Int := if finB b = true then max 0 (driftL cap b) else 0
def restQ (cap : Int) (g : Cv) : Cv × Int :=
  if restF cap (normR g) (400 + (normR g).per.toNat) ≠ restF cap (normR g) 400 + gainL cap (normR g) then (zcv, 3)
  else madeR ⟨fvals (restF cap (normR g)) (400 + (normR g).per.toNat), (normR g).per, gainL cap (normR g)⟩
section
variable {cap : Int} {b : Cv}
end
/-! ### the line itself; what the walk of Rest keeps -/
def lineC (cap : Int) : Cv := ⟨[0], 1, cap⟩
def tailV (f : Nat → Int) (s t : Nat) : Int := if t ≤ s then -INF else tailF f s (t - 1 - s)
def mostV (f : Nat → Int) (s t : Nat) : Int := mostF f (min t s)
end Go.Proofs.YtjacpnojnoompaaDoor.M

/- Deficit round robin, plain: greater quanta and packets of others leave less. No condition. -/
namespace Go.Proofs.YtjacpnojnoompaaDoor.M
open Go Go.Proofs.YtjacpnojnoompaaDoor.K

end Go.Proofs.YtjacpnojnoompaaDoor.M

/- Priorities, plain: the curve of a class. No condition. -/
namespace Go.Proofs.YtjacpnojnoompaaDoor.M
open Go Go.Proofs.YtjacpnojnoompaaDoor.K

/-- what may block a class -/
def blkF (cls : Int) (z : List Sz) (i : Nat) : Int := (nth (z.drop (cls + 1).toNat) i).most - 1
def blkN (cls : Int) (z : List Sz) : Int := mostF (blkF cls z) (z.length - (cls + 1).toNat)
def allV (ls : List Cv) : Bool := ls.all fun c => validB c
def midC (tot : Cv × Int) (k : Int) : Cv × Int := if tot.2 = 0 then raiseC tot.1 k else tot
def prioC (cap cls : Int) (ls : List Cv) (z : List Sz) : Cv × Int :=
  if chk18 cap cls z ≠ 0 then (zcv, chk18 cap cls z)
  else if ls.length ≠ z.length then (zcv, 2)
  else if allV ls = false then (zcv, 1)
  else if (midC (totalC (ls.take cls.toNat)) (blkN cls z)).2 ≠ 0 then (zcv, (midC (totalC (ls.take cls.toNat)) (blkN cls z)).2)
  else restC cap (midC (totalC (ls.take cls.toNat)) (blkN cls z)).1
end Go.Proofs.YtjacpnojnoompaaDoor.M

/- Priorities, plain: the curve of a class is what it is served. No condition. -/
namespace Go.Proofs.YtjacpnojnoompaaDoor.M
open Go Go.Proofs.YtjacpnojnoompaaDoor.K

instance instCv : Inhabited Cv := ⟨zcv⟩
end Go.Proofs.YtjacpnojnoompaaDoor.M

/- Small curves that the statements make, plain. No condition. -/
namespace Go.Proofs.YtjacpnojnoompaaDoor.M
open Go Go.Proofs.YtjacpnojnoompaaDoor.K

/-- small -/
structure SmallC (c : Cv) : Prop where
  valid : validB c = true
  len : c.vals.length ≤ 40
  per : c.per ≤ 8
  inc : c.inc ≤ 1000
  vals : ∀ x ∈ c.vals, x = INF ∨ x ≤ 1000
/-- values that are made one by one -/
def upV (xs : List Int) (c : Nat) (v : Int) : Nat → Int
  | 0 => v
  | i + 1 => upV xs c v i + nth ([0, 0, 1, 2, 5, 9] : List Int) (mod (nth xs (c + i)) ((6 : Nat) : Int)).toNat
theorem nth_in {l : List Int} {k : Nat} {lo hi : Int} (h : ∀ x ∈ l, lo ≤ x ∧ x ≤ hi) (hk : k < l.length) : lo ≤ nth l k ∧ nth l k ≤ hi := h _ (nth_mem hk)
end Go.Proofs.YtjacpnojnoompaaDoor.M

/- A trial. No condition. -/
set_option linter.unusedSimpArgs false
set_option linter.unusedVariables false
namespace Go.Proofs.YtjacpnojnoompaaDoor
open Go Go.RowKit Go.Proofs.YtjacpnojnoompaaDoor.K Go.Proofs.YtjacpnojnoompaaDoor.M

theorem tmod_gt (x : Int) {n : Int} (h : 0 < n) : -n < x.tmod n := by
  rcases Int.le_total 0 x with h0 | h0
  · have := Int.tmod_nonneg n h0; omega
  · have h1 := Int.neg_tmod (a := x) (b := n)
    have h2 := Int.tmod_lt_of_pos (-x) h
    omega
theorem mod_pos {x n : Int} (h : 1 ≤ n) (hc : ¬ x.tmod n < 0) : x.tmod n = x % n := by
  rw [Int.tmod_eq_emod] at hc ⊢
  split at hc
  · rename_i h1; rw [if_pos h1]; omega
  · rename_i h1
    rw [if_neg h1]
    have := Int.emod_lt_of_pos x (show 0 < n by omega)
    have h2 : (n.natAbs : Int) = n := by omega
    omega
theorem mod_neg {x n : Int} (h : 1 ≤ n) (hc : x.tmod n < 0) : x.tmod n + n = x % n := by
  rw [Int.tmod_eq_emod] at hc ⊢
  split at hc
  · rename_i h1
    have := Int.emod_nonneg x (show n ≠ 0 by omega)
    omega
  · rename_i h1; rw [if_neg h1]
    have h2 : (n.natAbs : Int) = n := by omega
    omega
theorem src_end {b : Nat} {a : Option Addr} {cp : Nat} {xs : List Int} {c : Nat} (h : xs.length ≤ c) : srcE b a cp xs c = srcE b a cp xs (c + 1) := by
  unfold srcE
  rw [show min c xs.length = min (c + 1) xs.length by omega]
theorem src_next {b : Nat} {a : Option Addr} {cp : Nat} {xs : List Int} {c : Nat} (h : c < xs.length) : Ent.blk b [.slice a xs.length cp, .int .i64 (((min c xs.length : Nat) : Int) + 1)] = srcE b a cp xs (c + 1) := by
  unfold srcE
  rw [show ((min c xs.length : Nat) : Int) + 1 = ((min (c + 1) xs.length : Nat) : Int) by omega]

theorem Mod_V {R : Ro} {x n : Int} (hn : InR n) : FnV Tryd.prog 59 [.int .i64 x, .int .i64 n] R (.int .i64 (mod x n)) := by
  refine Fn.toV (fun w0 E => ?_)
  refine Fn.enter (n := 16) Tryd.func59 rfl rfl (Nat.le_of_ble_eq_true rfl) rfl ?_
  refine W.seq ?_
  refine W.region _ ?_
  refine WG.run tab_ok 1 rfl ?_
  refine WG.nil ?_
  refine WE.nxt ?_
  refine W.seq ?_
  refine W.seq ?_
  refine W.region _ ?_
  refine WG.run tab_ok 2 rfl ?_
  refine WG.nil ?_
  refine WE.nxt ?_
  refine W.condD rfl (fun hc0 => ?_) (fun hc0 => ?_)
  · try dsimp only at hc0
    refine W.seq ?_
    refine W.region _ ?_
    refine WG.run tab_ok 1 rfl ?_
    refine WG.nil ?_
    refine WE.nxt ?_
    refine W.ret ?_
    refine WE.then_ret ?_
    refine WE.retF tab_ok [_] rfl ⟨rfl, trivial⟩ (RLe.refl _) ?_
    exact ⟨by unfold mod; rw [if_pos hc0]; rfl, rfl⟩
  · try dsimp only at hc0
    refine W.skip ?_
    refine WE.nxt ?_
    refine W.seq ?_
    refine W.region _ ?_
    refine WG.run tab_ok 2 rfl ?_
    refine WG.y rfl rfl (by decide) (Yl.tmod rfl rfl rfl (fun _ => rfl) (by intro _; omega)) ?_
    refine WG.run tab_ok 1 rfl ?_
    refine WG.nil ?_
    refine WE.nxt ?_
    refine W.seq ?_
    refine W.seq ?_
    refine W.region _ ?_
    refine WG.run tab_ok 2 rfl ?_
    refine WG.nil ?_
    refine WE.nxt ?_
    refine W.condD rfl (fun hc1 => ?_) (fun hc1 => ?_)
    · try dsimp only at hc1
      refine W.region _ ?_
      refine WG.run tab_ok 2 rfl ?_
      refine WG.y rfl rfl (by decide) (Yl.add rfl rfl rfl (fun _ => rfl) (by intro _; have h9 := tmod_gt x (show (0 : Int) < n by omega); constructor <;> omega)) ?_
      refine WG.run tab_ok 1 rfl ?_
      refine WG.nil ?_
      refine WE.nxt ?_
      refine W.seq ?_
      refine W.region _ ?_
      refine WG.run tab_ok 2 rfl ?_
      refine WG.nil ?_
      refine WE.nxt ?_
      refine W.ret ?_
      refine WE.retF tab_ok [_] rfl ⟨rfl, trivial⟩ (RLe.refl _) ?_
      refine ⟨congrArg (Value.int .i64) ?_, rfl⟩
      unfold mod; rw [if_neg hc0]; exact mod_neg (by omega) hc1
    · try dsimp only at hc1
      refine W.skip ?_
      refine WE.nxt ?_
      refine W.seq ?_
      refine W.region _ ?_
      refine WG.run tab_ok 2 rfl ?_
      refine WG.nil ?_
      refine WE.nxt ?_
      refine W.ret ?_
      refine WE.retF tab_ok [_] rfl ⟨rfl, trivial⟩ (RLe.refl _) ?_
      refine ⟨congrArg (Value.int .i64) ?_, rfl⟩
      unfold mod; rw [if_neg hc0]; exact mod_pos (by omega) hc1

theorem Raw_C {R : Ro} {b : Nat} {a : Option Addr} {cp : Nat} {xs : List Int} {c : Nat} (w0 : World) (ha : RS R 1 encI a xs) : FnAt Tryd.prog 60 [.pointer (some ⟨b, 0, none⟩)] w0 R (srcE b a cp xs c) (RdPost (.int .i64 (nth xs c)) R (srcE b a cp xs (c + 1))) := by
  intro F
  have hla := ha.len
  refine Fn.enter (n := 31) Tryd.func60 rfl rfl (Nat.le_of_ble_eq_true rfl) rfl ?_
  refine W.seq ?_
  refine W.region _ ?_
  refine WG.run tab_ok 1 rfl ?_
  refine WG.nil ?_
  refine WE.nxt ?_
  refine W.seq ?_
  refine W.seq ?_
  refine W.regionQ _ mixed (by kernel_rfl) ?_
  refine WG.run tab_ok 3 rfl ?_
  refine' WG.y rfl rfl (by decide) (Yl.load1 tab_ok rfl rfl rfl (fun _ => rfl) ?r1 rfl ?h1) ?_
  case r1 => apply Rd.add; (first | exact Rd.blk 0 rfl | exact Rd.blk 1 rfl | exact Rd.blk 2 rfl | exact Rd.blk 3 rfl | exact Rd.blk 4 rfl | exact Rd.blk 5 rfl | exact Rd.blk 6 rfl | exact Rd.blk 7 rfl | (apply RS.rdD; assumption; ((try dsimp only) <;> omega)) | exact Rd.slD 0 rfl (by (try dsimp only) <;> omega) | exact Rd.slD 1 rfl (by (try dsimp only) <;> omega) | exact Rd.slD 2 rfl (by (try dsimp only) <;> omega) | exact Rd.slD 3 rfl (by (try dsimp only) <;> omega) | exact Rd.slD 4 rfl (by (try dsimp only) <;> omega) | exact Rd.slD 5 rfl (by (try dsimp only) <;> omega) | exact Rd.slD 6 rfl (by (try dsimp only) <;> omega) | exact Rd.slD 7 rfl (by (try dsimp only) <;> omega))
  case h1 => rfl
  refine WG.run tab_ok 3 rfl ?_
  refine' WG.y rfl rfl (by decide) (Yl.load1 tab_ok rfl rfl rfl (fun _ => rfl) ?r2 rfl ?h2) ?_
  case r2 => apply Rd.add; (first | exact Rd.blk 0 rfl | exact Rd.blk 1 rfl | exact Rd.blk 2 rfl | exact Rd.blk 3 rfl | exact Rd.blk 4 rfl | exact Rd.blk 5 rfl | exact Rd.blk 6 rfl | exact Rd.blk 7 rfl | (apply RS.rdD; assumption; ((try dsimp only) <;> omega)) | exact Rd.slD 0 rfl (by (try dsimp only) <;> omega) | exact Rd.slD 1 rfl (by (try dsimp only) <;> omega) | exact Rd.slD 2 rfl (by (try dsimp only) <;> omega) | exact Rd.slD 3 rfl (by (try dsimp only) <;> omega) | exact Rd.slD 4 rfl (by (try dsimp only) <;> omega) | exact Rd.slD 5 rfl (by (try dsimp only) <;> omega) | exact Rd.slD 6 rfl (by (try dsimp only) <;> omega) | exact Rd.slD 7 rfl (by (try dsimp only) <;> omega))
  case h2 => rfl
  refine WG.run tab_ok 2 rfl ?_
  refine WG.nil ?_
  refine WE.nxt ?_
  refine W.condD rfl (fun hc0 => ?_) (fun hc0 => ?_)
  · try dsimp only at hc0
    refine W.seq ?_
    refine W.region _ ?_
    refine WG.run tab_ok 1 rfl ?_
    refine WG.nil ?_
    refine WE.nxt ?_
    refine W.ret ?_
    refine WE.then_ret ?_
    refine WE.retF tab_ok [_] rfl ⟨rfl, trivial⟩ (RLe.refl _) ?_
    exact ⟨_, [], rfl, by rw [nth_out (by omega)]; rfl, rfl, src_end (by omega), rfl⟩
  · try dsimp only at hc0
    refine W.skip ?_
    refine WE.nxt ?_
    refine W.seq ?_
    refine W.region _ ?_
    refine WG.run tab_ok 3 rfl ?_
    refine' WG.y rfl rfl (by decide) (Yl.load1 tab_ok rfl rfl rfl (fun _ => rfl) ?r3 rfl ?h3) ?_
    case r3 => apply Rd.add; (first | exact Rd.blk 0 rfl | exact Rd.blk 1 rfl | exact Rd.blk 2 rfl | exact Rd.blk 3 rfl | exact Rd.blk 4 rfl | exact Rd.blk 5 rfl | exact Rd.blk 6 rfl | exact Rd.blk 7 rfl | (apply RS.rdD; assumption; ((try dsimp only) <;> omega)) | exact Rd.slD 0 rfl (by (try dsimp only) <;> omega) | exact Rd.slD 1 rfl (by (try dsimp only) <;> omega) | exact Rd.slD 2 rfl (by (try dsimp only) <;> omega) | exact Rd.slD 3 rfl (by (try dsimp only) <;> omega) | exact Rd.slD 4 rfl (by (try dsimp only) <;> omega) | exact Rd.slD 5 rfl (by (try dsimp only) <;> omega) | exact Rd.slD 6 rfl (by (try dsimp only) <;> omega) | exact Rd.slD 7 rfl (by (try dsimp only) <;> omega))
    case h3 => rfl
    refine WG.y rfl rfl (by decide) (Yl.add rfl rfl rfl (fun _ => rfl) (by intro _; constructor <;> (try dsimp only) <;> omega)) ?_
    refine WG.run tab_ok 2 rfl ?_
    first | refine WL.efN rfl rfl (Ef.store 0 tab_ok rfl rfl rfl rfl rfl rfl rfl rfl ?_) | refine WL.efN rfl rfl (Ef.store 1 tab_ok rfl rfl rfl rfl rfl rfl rfl rfl ?_) | refine WL.efN rfl rfl (Ef.store 2 tab_ok rfl rfl rfl rfl rfl rfl rfl rfl ?_) | refine WL.efN rfl rfl (Ef.store 3 tab_ok rfl rfl rfl rfl rfl rfl rfl rfl ?_) | refine WL.efN rfl rfl (Ef.store 4 tab_ok rfl rfl rfl rfl rfl rfl rfl rfl ?_) | refine WL.efN rfl rfl (Ef.store 5 tab_ok rfl rfl rfl rfl rfl rfl rfl rfl ?_) | refine WL.efN rfl rfl (Ef.store 6 tab_ok rfl rfl rfl rfl rfl rfl rfl rfl ?_) | refine WL.efN rfl rfl (Ef.store 7 tab_ok rfl rfl rfl rfl rfl rfl rfl rfl ?_)
    refine WG.nil ?_
    refine WE.nxt ?_
    refine W.seq ?_
    refine W.regionQ _ mixed (by kernel_rfl) ?_
    refine WG.run tab_ok 3 rfl ?_
    refine' WG.y rfl rfl (by decide) (Yl.load1 tab_ok rfl rfl rfl (fun _ => rfl) ?r4 rfl ?h4) ?_
    case r4 => apply Rd.add; (first | exact Rd.blk 0 rfl | exact Rd.blk 1 rfl | exact Rd.blk 2 rfl | exact Rd.blk 3 rfl | exact Rd.blk 4 rfl | exact Rd.blk 5 rfl | exact Rd.blk 6 rfl | exact Rd.blk 7 rfl | (apply RS.rdD; assumption; ((try dsimp only) <;> omega)) | exact Rd.slD 0 rfl (by (try dsimp only) <;> omega) | exact Rd.slD 1 rfl (by (try dsimp only) <;> omega) | exact Rd.slD 2 rfl (by (try dsimp only) <;> omega) | exact Rd.slD 3 rfl (by (try dsimp only) <;> omega) | exact Rd.slD 4 rfl (by (try dsimp only) <;> omega) | exact Rd.slD 5 rfl (by (try dsimp only) <;> omega) | exact Rd.slD 6 rfl (by (try dsimp only) <;> omega) | exact Rd.slD 7 rfl (by (try dsimp only) <;> omega))
    case h4 => rfl
    refine WG.run tab_ok 3 rfl ?_
    refine' WG.y rfl rfl (by decide) (Yl.load1 tab_ok rfl rfl rfl (fun _ => rfl) ?r5 rfl ?h5) ?_
    case r5 => apply Rd.add; (first | exact Rd.blk 0 rfl | exact Rd.blk 1 rfl | exact Rd.blk 2 rfl | exact Rd.blk 3 rfl | exact Rd.blk 4 rfl | exact Rd.blk 5 rfl | exact Rd.blk 6 rfl | exact Rd.blk 7 rfl | (apply RS.rdD; assumption; ((try dsimp only) <;> omega)) | exact Rd.slD 0 rfl (by (try dsimp only) <;> omega) | exact Rd.slD 1 rfl (by (try dsimp only) <;> omega) | exact Rd.slD 2 rfl (by (try dsimp only) <;> omega) | exact Rd.slD 3 rfl (by (try dsimp only) <;> omega) | exact Rd.slD 4 rfl (by (try dsimp only) <;> omega) | exact Rd.slD 5 rfl (by (try dsimp only) <;> omega) | exact Rd.slD 6 rfl (by (try dsimp only) <;> omega) | exact Rd.slD 7 rfl (by (try dsimp only) <;> omega))
    case h5 => rfl
    refine WG.y rfl rfl (by decide) (Yl.sub rfl rfl rfl (fun _ => rfl) (by intro _; constructor <;> (try dsimp only) <;> omega)) ?_
    refine WG.y rfl rfl (by decide) (Yl.index tab_ok rfl rfl rfl rfl rfl rfl (fun _ => rfl) (by intro _; constructor <;> (try dsimp only) <;> omega) (by intro _; first | exact fun _ _ _ _ => rfl | exact RS.has (by assumption) | exact fun _ _ _ _ => (by assumption) | exact HasMem.ownD 0 rfl | exact HasMem.ownD 1 rfl | exact HasMem.ownD 2 rfl | exact HasMem.ownD 3 rfl | exact HasMem.ownD 4 rfl | exact HasMem.ownD 5 rfl | exact HasMem.ownD 6 rfl | exact HasMem.ownD 7 rfl)) ?_
    refine' WG.y rfl rfl (by decide) (Yl.load1 tab_ok rfl rfl rfl (fun _ => rfl) ?r6 rfl ?h6) ?_
    case r6 => (first | (apply RS.rdD; assumption; ((try dsimp only) <;> omega)) | exact Rd.slD 0 rfl (by (try dsimp only) <;> omega) | exact Rd.slD 1 rfl (by (try dsimp only) <;> omega) | exact Rd.slD 2 rfl (by (try dsimp only) <;> omega) | exact Rd.slD 3 rfl (by (try dsimp only) <;> omega) | exact Rd.slD 4 rfl (by (try dsimp only) <;> omega) | exact Rd.slD 5 rfl (by (try dsimp only) <;> omega) | exact Rd.slD 6 rfl (by (try dsimp only) <;> omega) | exact Rd.slD 7 rfl (by (try dsimp only) <;> omega))
    case h6 => rfl
    refine WG.run tab_ok 1 rfl ?_
    refine WG.nil ?_
    refine WE.nxt ?_
    refine W.ret ?_
    refine WE.retF tab_ok [_] rfl ⟨rfl, trivial⟩ (RLe.refl _) ?_
    exact ⟨_, [], rfl, congrArg (fun i => Value.int .i64 (nth xs i)) (show _ = c by omega), rfl, src_next (by omega), rfl⟩

theorem N_C {R : Ro} {b : Nat} {a : Option Addr} {cp : Nat} {xs : List Int} {c : Nat} (w0 : World) {n : Int} (ha : RS R 1 encI a xs) (hn : InR n) : FnAt Tryd.prog 19 [.pointer (some ⟨b, 0, none⟩), .int .i64 n] w0 R (srcE b a cp xs c) (RdPost (.int .i64 (mod (nth xs c) n)) R (srcE b a cp xs (c + 1))) := by
  intro F
  refine Fn.enter (n := 9) Tryd.func19 rfl rfl (Nat.le_of_ble_eq_true rfl) rfl ?_
  refine W.seq ?_
  refine W.region _ ?_
  refine WG.run tab_ok 1 rfl ?_
  refine WG.nil ?_
  refine WE.nxt ?_
  refine W.seq ?_
  refine W.region _ ?_
  refine WG.run tab_ok 1 rfl ?_
  refine WL.callAt 0 en60 rfl rfl (by decide) (CallOp.mkT rfl rfl rfl rfl) rfl (Raw_C w0 ha _) ?_
  rintro _ _ _ _ - ⟨rfl, rfl, rfl, rfl⟩
  refine WG.run tab_ok 1 rfl ?_
  refine WG.callV en59 rfl rfl (by decide) (CallOp.mk' rfl rfl rfl rfl) (fun _ => rfl) (fun hg => Mod_V hn) ?_
  refine WG.run tab_ok 1 rfl ?_
  refine WG.nil ?_
  refine WE.nxt ?_
  refine W.ret ?_
  refine WE.retF tab_ok [_] rfl ⟨rfl, trivial⟩ (RLe.refl _) ?_
  exact ⟨_, [], rfl, rfl, rfl, rfl, rfl⟩

theorem Pick_C {R : Ro} {b : Nat} {a : Option Addr} {cp : Nat} {xs : List Int} {c : Nat} (w0 : World) {a2 : Option Addr} {c2 : Nat} {ys : List Int} {j : Nat} {F : List Ent} (ha : RS R 1 encI a xs) (hy : F[j]? = some (.sl 3 1 a2 c2 (ys.map encI))) (hne : 0 < ys.length) (hl : ys.length ≤ 1000000) :
    K.Fn Tryd.prog 72 [.pointer (some ⟨b, 0, none⟩), .slice a2 ys.length c2] w0 R (srcE b a cp xs c :: F) (fun v R' E' => ∃ e' N, E' = N ++ e' :: F ∧ RdPost (.int .i64 (nth ys (mod (nth xs c) ys.length).toNat)) R (srcE b a cp xs (c + 1)) v R' e' N) := by
  have hr := mod_range (nth xs c) (show (1 : Int) ≤ ys.length by omega)
  refine Fn.enter (n := 12) Tryd.func72 rfl rfl (Nat.le_of_ble_eq_true rfl) rfl ?_
  refine W.seq ?_
  refine W.region _ ?_
  refine WG.run tab_ok 1 rfl ?_
  refine WG.nil ?_
  refine WE.nxt ?_
  refine W.seq ?_
  refine W.region _ ?_
  refine WG.run tab_ok 4 rfl ?_
  refine WL.callAt 0 en19 rfl rfl (by decide) (CallOp.mkT rfl rfl rfl rfl) rfl (N_C w0 ha (by constructor <;> omega) _) ?_
  rintro _ _ _ _ - ⟨rfl, rfl, rfl, rfl⟩
  refine WG.y rfl rfl (by decide) (Yl.index tab_ok rfl rfl rfl rfl rfl rfl (fun _ => rfl) (by intro _; constructor <;> (try dsimp only) <;> omega) (by intro _; first | exact HasMem.ownD (j + 1) hy | exact fun _ _ _ _ => rfl | exact RS.has (by assumption) | exact fun _ _ _ _ => (by assumption) | exact HasMem.ownD 0 rfl | exact HasMem.ownD 1 rfl | exact HasMem.ownD 2 rfl | exact HasMem.ownD 3 rfl | exact HasMem.ownD 4 rfl | exact HasMem.ownD 5 rfl | exact HasMem.ownD 6 rfl | exact HasMem.ownD 7 rfl)) ?_
  refine' WG.y rfl rfl (by decide) (Yl.load1 tab_ok rfl rfl rfl (fun _ => rfl) ?r1 rfl ?h1) ?_
  case r1 => (first | exact Rd.slD (j + 1) hy (by omega) | (apply RS.rdD; assumption; ((try dsimp only) <;> omega)) | exact Rd.slD 0 rfl (by (try dsimp only) <;> omega) | exact Rd.slD 1 rfl (by (try dsimp only) <;> omega) | exact Rd.slD 2 rfl (by (try dsimp only) <;> omega) | exact Rd.slD 3 rfl (by (try dsimp only) <;> omega) | exact Rd.slD 4 rfl (by (try dsimp only) <;> omega) | exact Rd.slD 5 rfl (by (try dsimp only) <;> omega) | exact Rd.slD 6 rfl (by (try dsimp only) <;> omega) | exact Rd.slD 7 rfl (by (try dsimp only) <;> omega))
  case h1 => rfl
  refine WG.run tab_ok 1 rfl ?_
  refine WG.nil ?_
  refine WE.nxt ?_
  refine W.ret ?_
  refine WE.retF tab_ok [_] rfl ⟨rfl, trivial⟩ (RLe.refl _) ?_
  exact ⟨_, [], rfl, rfl, rfl, rfl, rfl⟩

theorem New_C {R : Ro} {a : Option Addr} {cp : Nat} {l : List Int} (w0 : World) (E : List Ent) (hc : l.length ≤ cp) :
    K.Fn Tryd.prog 15 [.slice a l.length cp] w0 R E (fun v R' E' => ∃ b, v = .pointer (some ⟨b, 0, none⟩) ∧ R = R' ∧ E' = srcE b a cp (l.take 2000) 0 :: E) := by
  refine Fn.enter (n := 10) Tryd.func15 rfl rfl (Nat.le_of_ble_eq_true rfl) rfl ?_
  refine W.seq ?_
  refine W.region _ ?_
  refine WG.run tab_ok 1 rfl ?_
  refine WG.nil ?_
  refine WE.nxt ?_
  refine W.seq ?_
  refine W.region _ ?_
  refine WG.run tab_ok 4 rfl ?_
  refine WG.y rfl rfl (by decide) (Yl.sliceH tab_ok rfl rfl rfl rfl rfl (fun _ => rfl) (by intro _; split <;> constructor <;> omega) rfl) ?_
  -- build
  refine WG.y rfl rfl (by decide) (Yl.build (parts := [(0, .tmp 7)]) tab_ok rfl rfl rfl rfl (fun _ => rfl) rfl rfl) ?_
  refine WL.ef rfl rfl (by decide) (Ef.box rfl rfl (fun b9 => ?_))
  refine WG.run tab_ok 1 rfl ?_
  refine WG.nil ?_
  refine WE.nxt ?_
  refine W.ret ?_
  refine WE.retF tab_ok [_] rfl ⟨rfl, trivial⟩ (RLe.refl _) ?_
  refine ⟨_, rfl, rfl, ?_⟩
  unfold srcE
  rw [List.length_take, Nat.min_comm 0, Nat.min_zero]
  have e1 : ((if (2000 : Int) < (l.length : Int) then 2000 else (l.length : Int))).toNat = min 2000 l.length := by split <;> omega
  exact congrArg (fun n => Ent.blk _ [Value.slice a n cp, .int .i64 0] :: E) e1

end Go.Proofs.YtjacpnojnoompaaDoor

/- Fractions: one that is drawn; and what the functions do, told by rational numbers. No condition. -/
set_option linter.unusedSimpArgs false
set_option linter.unusedVariables false
namespace Go.Proofs.YtjacpnojnoompaaDoor
open Go Go.RowKit Go.Proofs.YtjacpnojnoompaaDoor.K Go.Proofs.YtjacpnojnoompaaDoor.M

theorem Fraction_C {R : Ro} {b : Nat} {a : Option Addr} {cp : Nat} {xs : List Int} {c : Nat} (w0 : World) (ha : RS R 1 encI a xs) {top most : Int} (ht : 0 ≤ top * most ∧ top * most ≤ 1073741824) (hmo : 1 ≤ most ∧ most ≤ 1000) : FnAt Tryd.prog 32 [.pointer (some ⟨b, 0, none⟩), .int .i64 top, .int .i64 most] w0 R (srcE b a cp xs c) (RdPost (frC (ratS top most xs c)) R (srcE b a cp xs (c + 1 + 1))) := by
  intro F
  refine Fn.enter (n := 36) Tryd.func32 rfl rfl (Nat.le_of_ble_eq_true rfl) rfl ?_
  refine W.seq ?_
  refine W.region _ ?_
  refine WL.ef rfl rfl (by decide) (Ef.alloc tab_ok rfl rfl (fun b6 => ?_))
  refine WG.nil ?_
  refine WE.nxt ?_
  refine W.seq ?_
  refine W.region _ ?_
  refine WG.run tab_ok 3 rfl ?_
  refine WG.y rfl rfl (by decide) (Yl.mul rfl rfl rfl (fun _ => rfl) (by intro _; constructor <;> (try dsimp only) <;> omega)) ?_
  refine WG.y rfl rfl (by decide) (Yl.add rfl rfl rfl (fun _ => rfl) (by intro _; constructor <;> (try dsimp only) <;> omega)) ?_
  refine WL.callAt 1 en19 rfl rfl (by decide) (CallOp.mkT rfl rfl rfl rfl) rfl (N_C w0 ha (by constructor <;> omega) _) ?_
  rintro _ _ _ _ - ⟨rfl, rfl, rfl, rfl⟩
  have hm1 := mod_range (nth xs c) (show (1 : Int) ≤ top * most + 1 by omega)
  refine WG.run tab_ok 2 rfl ?_
  refine WL.callAt 1 en19 rfl rfl (by decide) (CallOp.mkT rfl rfl rfl rfl) rfl (N_C w0 ha (by constructor <;> omega) _) ?_
  rintro _ _ _ _ - ⟨rfl, rfl, rfl, rfl⟩
  have hm2 := mod_range (nth xs (c + 1)) (show (1 : Int) ≤ most by omega)
  obtain ⟨A, hA⟩ := Int.eq_ofNat_of_zero_le hm1.1
  rw [hA]
  refine WG.y rfl rfl (by decide) (Yl.add rfl rfl rfl (fun _ => rfl) (by intro _; constructor <;> (try dsimp only) <;> omega)) ?_
  obtain ⟨B, hB⟩ := Int.eq_ofNat_of_zero_le (show 0 ≤ 1 + mod (nth xs (c + 1)) most by omega)
  rw [hB]
  refine WG.run tab_ok 2 rfl ?_
  refine WG.nil ?_
  refine WE.nxt ?_
  refine W.seq ?_
  refine W.region _ ?_
  refine WG.run tab_ok 4 rfl ?_
  refine WG.nil ?_
  refine WE.nxt ?_
  refine W.seq ?_
  refine W.block ?_
  refine W.loopK (β := Nat × Nat) (fun (x, y) => Nat.gcd x y = Nat.gcd A B) (fun (x, y) => [(9, true, .int .i64 (x : Int)), (10, true, .int .i64 (y : Int))]) [6, 7, 8] [_, _, _] [] _ rfl (fun (x, y) => []) (fun (x, y) => y) ((A, B)) (rfl) ⟨rfl, rfl, rfl, rfl, rfl, rfl⟩ (by (repeat (first | exact List.Sublist.refl _ | exact List.nil_sublist _ | apply List.Sublist.cons_cons | apply List.Sublist.cons)); done) ?_
  intro st hst
  obtain ⟨x, y⟩ := st
  dsimp only [zipE, setAll, List.cons_append, List.nil_append, List.set_cons_zero, List.set_cons_succ] at hst ⊢
  
  refine W.seq ?_
  refine W.seq ?_
  refine W.region _ ?_
  refine WG.run tab_ok 2 rfl ?_
  refine WG.nil ?_
  refine WE.nxt ?_
  refine W.condN rfl (fun hc0 => ?_) (fun hc0 => ?_)
  · try dsimp only at hc0
    refine W.skip ?_
    refine WE.nxt ?_
    refine W.block ?_
    refine W.regionQ _ mixed (by kernel_rfl) ?_
    refine WG.run tab_ok 3 rfl ?_
    refine WG.y rfl rfl (by decide) (Yl.rem rfl rfl rfl (fun _ => rfl) (by intro _; (try dsimp only) <;> omega) (by intro _; (try dsimp only) <;> omega)) ?_
    refine WG.run tab_ok 2 rfl ?_
    refine WG.nil ?_
    refine WE.blk _ ?_
    refine WE.again ((y, x % y)) ((gcd_step x y).trans hst) (by dsimp only; exact Nat.mod_lt _ (by omega)) ⟨rfl, rfl, rfl, rfl, rfl, rfl⟩ (RLe.refl _) (by (repeat (first | exact List.Sublist.refl _ | exact List.nil_sublist _ | apply List.Sublist.cons_cons | apply List.Sublist.cons)); done)
  · try dsimp only at hc0
    obtain rfl : y = 0 := by omega
    rw [Nat.gcd_zero_right] at hst
    have hx0 : 0 < x := by rw [hst]; exact Nat.gcd_pos_of_pos_right _ (by omega)
    refine W.exit ?_
    refine WE.then_exit ?_
    refine WE.then_exit ?_
    refine WE.blk_exit ?_
    refine WE.nxt ?_
    refine W.seq ?_
    refine W.regionH _ (ES := []) mixed ?_
    refine WA.take 0 rfl (by kernel_rfl) (by kernel_rfl) (by kernel_rfl) rfl rfl (by decide) (pureV_ok tab_ok rfl (fun _ => rfl)) (by (repeat (first | exact List.Sublist.refl _ | exact List.nil_sublist _ | apply List.Sublist.cons_cons | apply List.Sublist.cons)); done) (by first | exact RLe.refl _ | assumption) ?_
    refine WA.take 1 rfl (by kernel_rfl) (by kernel_rfl) (by kernel_rfl) rfl rfl (by decide) (pureV_ok tab_ok rfl (fun _ => rfl)) (by (repeat (first | exact List.Sublist.refl _ | exact List.nil_sublist _ | apply List.Sublist.cons_cons | apply List.Sublist.cons)); done) (by first | exact RLe.refl _ | assumption) ?_
    refine WA.take 2 rfl (by kernel_rfl) (by kernel_rfl) (by kernel_rfl) rfl rfl (by decide) (Yl.quo rfl rfl rfl (fun _ => rfl) (by intro _; constructor <;> (try dsimp only) <;> omega) (by intro _; omega)) (by (repeat (first | exact List.Sublist.refl _ | exact List.nil_sublist _ | apply List.Sublist.cons_cons | apply List.Sublist.cons)); done) (by first | exact RLe.refl _ | assumption) ?_
    refine WA.take 3 rfl (by kernel_rfl) (by kernel_rfl) (by kernel_rfl) rfl rfl (by decide) (pureV_ok tab_ok rfl (fun _ => rfl)) (by (repeat (first | exact List.Sublist.refl _ | exact List.nil_sublist _ | apply List.Sublist.cons_cons | apply List.Sublist.cons)); done) (by first | exact RLe.refl _ | assumption) ?_
    refine WA.take 4 rfl (by kernel_rfl) (by kernel_rfl) (by kernel_rfl) rfl rfl (by decide) (pureV_ok tab_ok rfl (fun _ => rfl)) (by (repeat (first | exact List.Sublist.refl _ | exact List.nil_sublist _ | apply List.Sublist.cons_cons | apply List.Sublist.cons)); done) (by first | exact RLe.refl _ | assumption) ?_
    refine WA.take 5 rfl (by kernel_rfl) (by kernel_rfl) (by kernel_rfl) rfl rfl (by decide) (Yl.quo rfl rfl rfl (fun _ => rfl) (by intro _; constructor <;> (try dsimp only) <;> omega) (by intro _; omega)) (by (repeat (first | exact List.Sublist.refl _ | exact List.nil_sublist _ | apply List.Sublist.cons_cons | apply List.Sublist.cons)); done) (by first | exact RLe.refl _ | assumption) ?_
    -- build
    refine WA.take 6 rfl (by kernel_rfl) (by kernel_rfl) (by kernel_rfl) rfl rfl (by decide) (Yl.build (parts := [(0, .tmp 31), (1, .tmp 34)]) tab_ok rfl rfl rfl rfl (fun _ => rfl) rfl rfl) (by (repeat (first | exact List.Sublist.refl _ | exact List.nil_sublist _ | apply List.Sublist.cons_cons | apply List.Sublist.cons)); done) (by first | exact RLe.refl _ | assumption) ?_
    first | refine WA.effN 7 rfl (by kernel_rfl) rfl rfl (Ef.store0 0 tab_ok rfl rfl rfl rfl rfl rfl rfl rfl ?_) | refine WA.effN 7 rfl (by kernel_rfl) rfl rfl (Ef.store0 1 tab_ok rfl rfl rfl rfl rfl rfl rfl rfl ?_) | refine WA.effN 7 rfl (by kernel_rfl) rfl rfl (Ef.store0 2 tab_ok rfl rfl rfl rfl rfl rfl rfl rfl ?_)
    refine ⟨by first | exact RLe.refl _ | assumption, (by (repeat (first | exact List.Sublist.refl _ | exact List.nil_sublist _ | apply List.Sublist.cons_cons | apply List.Sublist.cons)); done), ?_⟩
    refine WA.done (by kernel_rfl) ?_
    refine WE.nxt ?_
    refine W.ret ?_
    refine WE.retFS (E' := (srcE b a cp xs (c + 1 + 1) :: F)) (by (repeat (first | exact List.Sublist.refl _ | exact List.nil_sublist _ | apply List.Sublist.cons_cons | apply List.Sublist.cons)); done) tab_ok [_] rfl ⟨⟨_, _, _, rfl, rfl, rfl, ((by first | exact Rd.blk 0 rfl | exact Rd.blk 1 rfl | exact Rd.blk 2 rfl)), rfl⟩, trivial⟩ (RLe.refl _) ?_
    exact ⟨_, [], rfl, by unfold ratS frC; rw [hA, hB, hst]; rfl, rfl, rfl, rfl⟩

theorem inr_frQ {r : Rat} {N D : Nat} (h : InQ r N D) (hN : N ≤ 1073741824) (hD : D ≤ 1073741824) : InR (frQ r).1 ∧ InR (frQ r).2 := by
  obtain ⟨h1, h2⟩ := h
  exact ⟨⟨by show _ ≤ r.num; omega, by show r.num ≤ _; omega⟩, ⟨by show _ ≤ (r.den : Int); omega, by show (r.den : Int) ≤ _; omega⟩⟩
end Go.Proofs.YtjacpnojnoompaaDoor
