/- Reference 04: a curve that is never above another. No condition. -/
import Derived.Test.YtcfnckccmkjjlaaTab
import Derived.Test.YtcfnckccmkjjlaaLoop
import Derived.Test.YtcfnckccmkjjlaaAtMost
import Derived.Test.YtcfnckccmkjjlaaT14
import Derived.Test.YtcfnckccmkjjlaaT26
import Derived.Test.YtcfnckccmkjjlaaT27
set_option linter.unusedSimpArgs false
set_option linter.unusedVariables false
namespace Go.Proofs.Ytcfnckccmkjjlaa
open Go Go.RowKit Go.Proofs.Ytcfnckccmkjjlaa.K Go.Proofs.Ytcfnckccmkjjlaa.M

theorem Above_V {R : Ro} {a1 a2 : Option Addr} {c1 c2 : Nat} {F G : Nat → Int} {S1 P1 S2 P2 : Nat} {I1 I2 : Int} (ha1 : RS R 1 encI a1 (fvals F (S1 + P1))) (ha2 : RS R 1 encI a2 (fvals G (S2 + P2))) (hv1 : validB ⟨fvals F (S1 + P1), P1, I1⟩ = true) (hv2 : validB ⟨fvals G (S2 + P2), P2, I2⟩ = true) (hg1 : Grows F S1 P1 I1) (hg2 : Grows G S2 P2 I2) (hb1 : ∀ t, t ≤ 20000 → 0 ≤ F t ∧ F t ≤ 1000000000000000) (hb2 : ∀ t, t ≤ 20000 → 0 ≤ G t ∧ G t ≤ 1000000000000000) {t : Nat} (ht : t ≤ 20000) : FnV Try.prog 116 [.agg #[.slice a1 (fvals F (S1 + P1)).length c1, .int .i64 (P1 : Int), .int .i64 I1], .agg #[.slice a2 (fvals G (S2 + P2)).length c2, .int .i64 (P2 : Int), .int .i64 I2], .int .i64 (t : Int)] R (.int .i64 (F t - G t)) := by
  refine Fn.toV (fun w0 E => ?_)
  obtain ⟨p1, q1, l1, i1, j1⟩ := valid_facts hv1
  obtain ⟨p2, q2, l2, i2, j2⟩ := valid_facts hv2
  have hf1 : ∀ t, t < S1 + P1 → F t ≠ INF := fun t ht => by have := hb1 t (by omega); unfold INF; omega
  have hf2 : ∀ t, t < S2 + P2 → G t ≠ INF := fun t ht => by have := hb2 t (by omega); unfold INF; omega
  have hx1 : ∀ x ∈ fvals F (S1 + P1), -2305843009213693952 ≤ x ∧ x ≤ 4611686018427387904 := all_of_nth (fun j hj => by rw [fvals_len] at hj; rw [fvals_nth F hj]; have := hb1 j (by omega); omega)
  have hx2 : ∀ x ∈ fvals G (S2 + P2), -2305843009213693952 ≤ x ∧ x ≤ 4611686018427387904 := all_of_nth (fun j hj => by rw [fvals_len] at hj; rw [fvals_nth G hj]; have := hb2 j (by omega); omega)
  have hn1 := fvals_len F (S1 + P1)
  have hn2 := fvals_len G (S2 + P2)
  have ht1 := hb1 t ht
  have ht2 := hb2 t ht
  refine Fn.enter (n := 26) Try.func116 rfl rfl (Nat.le_of_ble_eq_true rfl) rfl ?_
  refine W.seq ?_
  refine W.region _ ?_
  refine WL.ef rfl rfl (by decide) (Ef.box rfl rfl (fun b3 => ?_))
  refine WL.ef rfl rfl (by decide) (Ef.box rfl rfl (fun b4 => ?_))
  refine WG.run tab_ok 1 rfl ?_
  refine WG.nil ?_
  refine WE.nxt ?_
  refine W.seq ?_
  refine W.regionQ _ mixed (by kernel_rfl) ?_
  refine' WG.y rfl rfl (by decide) (Yl.load1 tab_ok rfl rfl rfl (fun _ => rfl) ?r1 rfl ?h1) ?_
  case r1 => (first | exact Rd.blk 0 rfl | exact Rd.blk 1 rfl | exact Rd.blk 2 rfl)
  case h1 => rfl
  refine WG.run tab_ok 1 rfl ?_
  refine WG.callV (v := .int .i64 (F t)) en57 rfl rfl (by decide) (CallOp.mk' rfl rfl rfl rfl) (fun _ => rfl) (fun hg => by rw [← atR_fvals (S := S1) (by omega) hg1 hf1 t]; exact At_V ha1 (by constructor <;> omega) ⟨by constructor <;> omega, by omega⟩ (by omega) hx1) ?_
  refine' WG.y rfl rfl (by decide) (Yl.load1 tab_ok rfl rfl rfl (fun _ => rfl) ?r2 rfl ?h2) ?_
  case r2 => (first | exact Rd.blk 0 rfl | exact Rd.blk 1 rfl | exact Rd.blk 2 rfl)
  case h2 => rfl
  refine WG.run tab_ok 1 rfl ?_
  refine WG.callV (v := .int .i64 (G t)) en57 rfl rfl (by decide) (CallOp.mk' rfl rfl rfl rfl) (fun _ => rfl) (fun hg => by rw [← atR_fvals (S := S2) (by omega) hg2 hf2 t]; exact At_V ha2 (by constructor <;> omega) ⟨by constructor <;> omega, by omega⟩ (by omega) hx2) ?_
  refine WG.run tab_ok 2 rfl ?_
  refine WG.nil ?_
  refine WE.nxt ?_
  refine W.seq ?_
  refine W.seq ?_
  refine W.region _ ?_
  refine WG.run tab_ok 3 rfl ?_
  refine WG.y rfl rfl (by decide) (pureV_ok tab_ok rfl (by first | exact fun _ => rfl | exact fun h => h | (intro h; simp_all))) ?_
  refine WG.y rfl rfl (by decide) (pureV_ok tab_ok rfl (by first | exact fun _ => rfl | exact fun h => h | (intro h; simp_all))) ?_
  refine WG.y rfl rfl (by decide) (Yl.por rfl rfl rfl (fun _ => rfl) (by intro h1 h2; simp_all <;> omega)) ?_
  refine WG.nil ?_
  refine WE.nxt ?_
  refine W.cond rfl (fun hc0 => ?_) (fun hc0 => ?_)
  · try simp only [decide_eq_true_eq, decide_eq_false_iff_not, beq_iff_eq, bne_iff_ne, beq_eq_false_iff_ne, bne_eq_false_iff_eq, ne_eq, Bool.or_eq_true, Bool.or_eq_false_iff, Bool.and_eq_true, Bool.and_eq_false_imp, Bool.not_eq_true, Bool.not_eq_true', Bool.not_eq_false', Classical.not_not, Int.not_lt, Int.not_le, gt_iff_lt, ge_iff_le] at hc0
    omega
  · try simp only [decide_eq_true_eq, decide_eq_false_iff_not, beq_iff_eq, bne_iff_ne, beq_eq_false_iff_ne, bne_eq_false_iff_eq, ne_eq, Bool.or_eq_true, Bool.or_eq_false_iff, Bool.and_eq_true, Bool.and_eq_false_imp, Bool.not_eq_true, Bool.not_eq_true', Bool.not_eq_false', Classical.not_not, Int.not_lt, Int.not_le, gt_iff_lt, ge_iff_le] at hc0
    refine W.skip ?_
    refine WE.nxt ?_
    refine W.seq ?_
    refine W.region _ ?_
    refine WG.run tab_ok 2 rfl ?_
    refine WG.y rfl rfl (by decide) (Yl.sub rfl rfl rfl (fun _ => rfl) (by intro _; constructor <;> (try dsimp only) <;> omega)) ?_
    refine WG.run tab_ok 1 rfl ?_
    refine WG.nil ?_
    refine WE.nxt ?_
    refine W.ret ?_
    refine WE.subE (E' := E) (by (repeat (first | exact List.Sublist.refl _ | exact List.nil_sublist _ | apply List.Sublist.cons_cons | apply List.Sublist.cons)); done) ?_
    refine WE.retF tab_ok [_] rfl ⟨rfl, trivial⟩ (RLe.refl _) ?_
    exact ⟨rfl, rfl⟩

theorem Lcm_V {R : Ro} {a b : Nat} (ha : 0 < a ∧ a ≤ 1000000) (hb : 0 < b ∧ b ≤ 1000000) : FnV Try.prog 126 [.int .i64 (a : Int), .int .i64 (b : Int)] R (.int .i64 (lcmN a b : Int)) := by
  refine Fn.toV (fun w0 E => ?_)
  have hg : 0 < Nat.gcd a b := Nat.gcd_pos_of_pos_right _ hb.1
  have hq : ((a : Int) / (Nat.gcd a b : Int) * (b : Int)) ≤ 1000000 * 1000000 ∧ 0 ≤ ((a : Int) / (Nat.gcd a b : Int) * (b : Int)) := by
    have h1 : a / Nat.gcd a b * b ≤ 1000000 * 1000000 := Nat.mul_le_mul (Nat.le_trans (Nat.div_le_self _ _) ha.2) hb.2
    have e : ((a : Int) / (Nat.gcd a b : Int) * (b : Int)) = ((a / Nat.gcd a b * b : Nat) : Int) := rfl
    omega
  refine Fn.enter (n := 12) Try.func126 rfl rfl (Nat.le_of_ble_eq_true rfl) rfl ?_
  refine W.seq ?_
  refine W.region _ ?_
  refine WG.run tab_ok 1 rfl ?_
  refine WG.nil ?_
  refine WE.nxt ?_
  refine W.seq ?_
  refine W.region _ ?_
  refine WG.run tab_ok 3 rfl ?_
  refine WG.callV en83 rfl rfl (by decide) (CallOp.mk' rfl rfl rfl rfl) (fun _ => rfl) (fun hg => Gcd_V) ?_
  refine WG.y rfl rfl (by decide) (Yl.quo rfl rfl rfl (fun _ => rfl) (by intro _; constructor <;> (try dsimp only) <;> omega) (by intro _; omega)) ?_
  refine WG.run tab_ok 1 rfl ?_
  refine WG.y rfl rfl (by decide) (Yl.mul rfl rfl rfl (fun _ => rfl) (by intro _; constructor <;> (try dsimp only) <;> omega)) ?_
  refine WG.run tab_ok 1 rfl ?_
  refine WG.nil ?_
  refine WE.nxt ?_
  refine W.ret ?_
  refine WE.subE (E' := E) (by (repeat (first | exact List.Sublist.refl _ | exact List.nil_sublist _ | apply List.Sublist.cons_cons | apply List.Sublist.cons)); done) ?_
  refine WE.retF tab_ok [_] rfl ⟨rfl, trivial⟩ (RLe.refl _) ?_
  exact ⟨rfl, rfl⟩

theorem Finite_V {R : Ro} {a : Option Addr} {c : Nat} {F : Nat → Int} {S P : Nat} {I : Int} (ha : RS R 1 encI a (fvals F (S + P))) (hv : validB ⟨fvals F (S + P), P, I⟩ = true) (hx : ∀ x ∈ fvals F (S + P), -2305843009213693952 ≤ x ∧ x ≤ 4611686018427387904) (hf : ∀ t, t < S + P → F t ≠ INF) : FnV Try.prog 117 [.agg #[.slice a (fvals F (S + P)).length c, .int .i64 (P : Int), .int .i64 I]] R (.bool true) := by
  refine Fn.toV (fun w0 E => ?_)
  obtain ⟨p1, q1, l1, i1, j1⟩ := valid_facts hv
  have hn1 := fvals_len F (S + P)
  have hlast : nth (fvals F (S + P)) (((fvals F (S + P)).length : Int) - 1).toNat ≠ 4611686018427387904 := by rw [fvals_nth F (by omega)]; exact hf _ (by omega)
  refine Fn.enter (n := 16) Try.func117 rfl rfl (Nat.le_of_ble_eq_true rfl) rfl ?_
  refine W.seq ?_
  refine W.region _ ?_
  refine WL.ef rfl rfl (by decide) (Ef.box rfl rfl (fun b1 => ?_))
  refine WG.run tab_ok 1 rfl ?_
  refine WG.nil ?_
  refine WE.nxt ?_
  refine W.seq ?_
  refine W.region _ ?_
  refine' WG.y rfl rfl (by decide) (Yl.load1 tab_ok rfl rfl rfl (fun _ => rfl) ?r1 rfl ?h1) ?_
  case r1 => (first | exact Rd.blk 0 rfl | exact Rd.blk 1 rfl)
  case h1 => rfl
  refine WG.callV (v := .bool true) en56 rfl rfl (by decide) (CallOp.mk' rfl rfl rfl rfl) (fun _ => rfl) (fun hg => by have h := Valid_V (c := c) (per := (P : Int)) (inc := I) ha (by constructor <;> omega) (by constructor <;> omega) hx; rw [hv] at h; exact h) ?_
  refine WG.run tab_ok 1 rfl ?_
  refine WL.guardT rfl (by rfl) ?_
  refine WG.y rfl rfl (by decide) (pureV_ok tab_ok rfl (fun _ => rfl)) ?_
  refine WL.guardT rfl (by rfl) ?_
  refine' WG.y rfl rfl (by decide) (Yl.load1 tab_ok rfl rfl rfl (fun _ => rfl) ?r2 rfl ?h2) ?_
  case r2 => apply Rd.add; (first | exact Rd.blk 0 rfl | exact Rd.blk 1 rfl)
  case h2 => rfl
  refine WL.guardT rfl (by rfl) ?_
  refine WG.y rfl rfl (by decide) (pureV_ok tab_ok rfl (fun _ => rfl)) ?_
  refine WL.guardT rfl (by rfl) ?_
  refine' WG.y rfl rfl (by decide) (Yl.load1 tab_ok rfl rfl rfl (fun _ => rfl) ?r3 rfl ?h3) ?_
  case r3 => apply Rd.add; (first | exact Rd.blk 0 rfl | exact Rd.blk 1 rfl)
  case h3 => rfl
  refine WL.guardT rfl (by rfl) ?_
  refine WG.y rfl rfl (by decide) (pureV_ok tab_ok rfl (fun _ => rfl)) ?_
  refine WL.guardT rfl (by rfl) ?_
  refine WG.y rfl rfl (by decide) (Yl.sub rfl rfl rfl (fun _ => rfl) (by intro _; constructor <;> (try dsimp only) <;> omega)) ?_
  refine WL.guardT rfl (by rfl) ?_
  refine WG.y rfl rfl (by decide) (Yl.index tab_ok rfl rfl rfl rfl rfl rfl (fun _ => rfl) (by intro _; constructor <;> (try dsimp only) <;> omega) (by intro _; first | exact fun _ _ _ _ => rfl | exact RS.has (by assumption) | exact fun _ _ _ _ => (by assumption) | exact HasMem.ownD 0 rfl | exact HasMem.ownD 1 rfl)) ?_
  refine WL.guardT rfl (by rfl) ?_
  refine' WG.y rfl rfl (by decide) (Yl.load1 tab_ok rfl rfl rfl (fun _ => rfl) ?r4 rfl ?h4) ?_
  case r4 => (first | (apply RS.rdD; assumption; ((try dsimp only) <;> omega)) | exact Rd.slD 0 rfl (by (try dsimp only) <;> omega) | exact Rd.slD 1 rfl (by (try dsimp only) <;> omega))
  case h4 => rfl
  refine WL.guardT rfl (by rfl) ?_
  refine WG.y rfl rfl (by decide) (pureV_ok tab_ok rfl (fun _ => rfl)) ?_
  refine WG.y rfl rfl (by decide) (Yl.pand rfl rfl rfl (fun _ => rfl) (by intro h1 h2; simp_all <;> omega)) ?_
  refine WG.run tab_ok 1 rfl ?_
  refine WG.nil ?_
  refine WE.nxt ?_
  refine W.ret ?_
  refine WE.subE (E' := E) (by (repeat (first | exact List.Sublist.refl _ | exact List.nil_sublist _ | apply List.Sublist.cons_cons | apply List.Sublist.cons)); done) ?_
  refine WE.retF tab_ok [_] rfl ⟨rfl, trivial⟩ (RLe.refl _) ?_
  refine ⟨?_, rfl⟩
  rw [show (nth (fvals F (S + P)) (((fvals F (S + P)).length : Int) - 1).toNat != 4611686018427387904) = true from bne_iff_ne.2 hlast]
  rfl

theorem Window_V {R : Ro} {a1 a2 : Option Addr} {c1 c2 : Nat} {F G : Nat → Int} {S1 P1 S2 P2 : Nat} {I1 I2 : Int} (ha1 : RS R 1 encI a1 (fvals F (S1 + P1))) (ha2 : RS R 1 encI a2 (fvals G (S2 + P2))) (hv1 : validB ⟨fvals F (S1 + P1), P1, I1⟩ = true) (hv2 : validB ⟨fvals G (S2 + P2), P2, I2⟩ = true) (hg1 : Grows F S1 P1 I1) (hg2 : Grows G S2 P2 I2) (hb1 : ∀ t, t ≤ 20000 → 0 ≤ F t ∧ F t ≤ 1000000000000000) (hb2 : ∀ t, t ≤ 20000 → 0 ≤ G t ∧ G t ≤ 1000000000000000) : ∃ m : Nat, m ≤ 400 ∧ FnV Try.prog 115 [.agg #[.slice a1 (fvals F (S1 + P1)).length c1, .int .i64 (P1 : Int), .int .i64 I1], .agg #[.slice a2 (fvals G (S2 + P2)).length c2, .int .i64 (P2 : Int), .int .i64 I2]] R (.tuple #[.int .i64 (m : Int), .int .i64 (lcmN P1 P2 : Int), .int .i64 (I1 * ((lcmN P1 P2 : Int) / (P1 : Int)) - I2 * ((lcmN P1 P2 : Int) / (P2 : Int)))]) := by
  obtain ⟨p1, q1, l1, i1, j1⟩ := valid_facts hv1
  obtain ⟨p2, q2, l2, i2, j2⟩ := valid_facts hv2
  have hf1 : ∀ t, t < S1 + P1 → F t ≠ INF := fun t ht => by have := hb1 t (by omega); unfold INF; omega
  have hf2 : ∀ t, t < S2 + P2 → G t ≠ INF := fun t ht => by have := hb2 t (by omega); unfold INF; omega
  have hx1 : ∀ x ∈ fvals F (S1 + P1), -2305843009213693952 ≤ x ∧ x ≤ 4611686018427387904 := all_of_nth (fun j hj => by rw [fvals_len] at hj; rw [fvals_nth F hj]; have := hb1 j (by omega); omega)
  have hx2 : ∀ x ∈ fvals G (S2 + P2), -2305843009213693952 ≤ x ∧ x ≤ 4611686018427387904 := all_of_nth (fun j hj => by rw [fvals_len] at hj; rw [fvals_nth G hj]; have := hb2 j (by omega); omega)
  have hn1 := fvals_len F (S1 + P1)
  have hn2 := fvals_len G (S2 + P2)
  have hl := lcmN_facts (a := P1) (b := P2) (by omega) (by omega)
  have hl2 : P1 * P2 ≤ 120 * 120 := Nat.mul_le_mul q1 q2
  have hd1 : 0 ≤ (lcmN P1 P2 : Int) / (P1 : Int) := Int.ediv_nonneg (by omega) (by omega)
  have hd2 : 0 ≤ (lcmN P1 P2 : Int) / (P2 : Int) := Int.ediv_nonneg (by omega) (by omega)
  have he1 : (lcmN P1 P2 : Int) / (P1 : Int) ≤ lcmN P1 P2 := Int.ediv_le_self _ (by omega)
  have he2 : (lcmN P1 P2 : Int) / (P2 : Int) ≤ lcmN P1 P2 := Int.ediv_le_self _ (by omega)
  have hm1 := mulB (a := I1) (b := (lcmN P1 P2 : Int) / (P1 : Int)) (A := 1073741824) (B := 14400) (by omega) (by omega)
  have hm2 := mulB (a := I2) (b := (lcmN P1 P2 : Int) / (P2 : Int)) (A := 1073741824) (B := 14400) (by omega) (by omega)
  refine ⟨if (fvals F (S1 + P1)).length < (fvals G (S2 + P2)).length then (fvals G (S2 + P2)).length else (fvals F (S1 + P1)).length, by split <;> omega, ?_⟩
  refine Fn.toV (fun w0 E => ?_)
  refine Fn.enter (n := 38) Try.func115 rfl rfl (Nat.le_of_ble_eq_true rfl) rfl ?_
  refine W.seq ?_
  refine W.region _ ?_
  refine WL.ef rfl rfl (by decide) (Ef.box rfl rfl (fun b2 => ?_))
  refine WL.ef rfl rfl (by decide) (Ef.box rfl rfl (fun b3 => ?_))
  refine WG.run tab_ok 3 rfl ?_
  refine WG.nil ?_
  refine WE.nxt ?_
  refine W.seq ?_
  refine W.regionQ _ mixed (by kernel_rfl) ?_
  refine WG.run tab_ok 1 rfl ?_
  refine' WG.y rfl rfl (by decide) (Yl.load1 tab_ok rfl rfl rfl (fun _ => rfl) ?r1 rfl ?h1) ?_
  case r1 => apply Rd.add; (first | exact Rd.blk 0 rfl | exact Rd.blk 1 rfl | exact Rd.blk 2 rfl)
  case h1 => rfl
  refine WG.run tab_ok 2 rfl ?_
  refine' WG.y rfl rfl (by decide) (Yl.load1 tab_ok rfl rfl rfl (fun _ => rfl) ?r2 rfl ?h2) ?_
  case r2 => apply Rd.add; (first | exact Rd.blk 0 rfl | exact Rd.blk 1 rfl | exact Rd.blk 2 rfl)
  case h2 => rfl
  refine WG.run tab_ok 3 rfl ?_
  refine' WG.y rfl rfl (by decide) (Yl.load1 tab_ok rfl rfl rfl (fun _ => rfl) ?r3 rfl ?h3) ?_
  case r3 => apply Rd.add; (first | exact Rd.blk 0 rfl | exact Rd.blk 1 rfl | exact Rd.blk 2 rfl)
  case h3 => rfl
  refine WG.run tab_ok 1 rfl ?_
  refine' WG.y rfl rfl (by decide) (Yl.load1 tab_ok rfl rfl rfl (fun _ => rfl) ?r4 rfl ?h4) ?_
  case r4 => apply Rd.add; (first | exact Rd.blk 0 rfl | exact Rd.blk 1 rfl | exact Rd.blk 2 rfl)
  case h4 => rfl
  refine WG.callV en126 rfl rfl (by decide) (CallOp.mk' rfl rfl rfl rfl) (fun _ => rfl) (fun hg => Lcm_V (by omega) (by omega)) ?_
  refine WG.run tab_ok 2 rfl ?_
  refine WG.nil ?_
  refine WE.nxt ?_
  refine W.seq ?_
  refine W.regionQ _ mixed (by kernel_rfl) ?_
  refine WG.run tab_ok 3 rfl ?_
  refine' WG.y rfl rfl (by decide) (Yl.load1 tab_ok rfl rfl rfl (fun _ => rfl) ?r5 rfl ?h5) ?_
  case r5 => apply Rd.add; (first | exact Rd.blk 0 rfl | exact Rd.blk 1 rfl | exact Rd.blk 2 rfl)
  case h5 => rfl
  refine WG.run tab_ok 2 rfl ?_
  refine' WG.y rfl rfl (by decide) (Yl.load1 tab_ok rfl rfl rfl (fun _ => rfl) ?r6 rfl ?h6) ?_
  case r6 => apply Rd.add; (first | exact Rd.blk 0 rfl | exact Rd.blk 1 rfl | exact Rd.blk 2 rfl)
  case h6 => rfl
  refine WG.y rfl rfl (by decide) (Yl.quo rfl rfl rfl (fun _ => rfl) (by intro _; constructor <;> (try dsimp only) <;> omega) (by intro _; omega)) ?_
  refine WG.y rfl rfl (by decide) (Yl.mul rfl rfl rfl (fun _ => rfl) (by intro _; constructor <;> (try dsimp only) <;> omega)) ?_
  refine WG.run tab_ok 1 rfl ?_
  refine' WG.y rfl rfl (by decide) (Yl.load1 tab_ok rfl rfl rfl (fun _ => rfl) ?r7 rfl ?h7) ?_
  case r7 => apply Rd.add; (first | exact Rd.blk 0 rfl | exact Rd.blk 1 rfl | exact Rd.blk 2 rfl)
  case h7 => rfl
  refine WG.run tab_ok 2 rfl ?_
  refine' WG.y rfl rfl (by decide) (Yl.load1 tab_ok rfl rfl rfl (fun _ => rfl) ?r8 rfl ?h8) ?_
  case r8 => apply Rd.add; (first | exact Rd.blk 0 rfl | exact Rd.blk 1 rfl | exact Rd.blk 2 rfl)
  case h8 => rfl
  refine WG.y rfl rfl (by decide) (Yl.quo rfl rfl rfl (fun _ => rfl) (by intro _; constructor <;> (try dsimp only) <;> omega) (by intro _; omega)) ?_
  refine WG.y rfl rfl (by decide) (Yl.mul rfl rfl rfl (fun _ => rfl) (by intro _; constructor <;> (try dsimp only) <;> omega)) ?_
  refine WG.y rfl rfl (by decide) (Yl.sub rfl rfl rfl (fun _ => rfl) (by intro _; constructor <;> (try dsimp only) <;> omega)) ?_
  refine WG.run tab_ok 3 rfl ?_
  refine WG.nil ?_
  refine WE.nxt ?_
  refine W.ret ?_
  refine WE.subE (E' := E) (by (repeat (first | exact List.Sublist.refl _ | exact List.nil_sublist _ | apply List.Sublist.cons_cons | apply List.Sublist.cons)); done) ?_
  refine WE.retF tab_ok [_, _, _] rfl ⟨rfl, rfl, rfl, trivial⟩ (RLe.refl _) ?_
  refine ⟨?_, rfl⟩
  have e : (((if (fvals F (S1 + P1)).length < (fvals G (S2 + P2)).length then (fvals G (S2 + P2)).length else (fvals F (S1 + P1)).length : Nat)) : Int) = (if ((fvals F (S1 + P1)).length : Int) < ((fvals G (S2 + P2)).length : Int) then ((fvals G (S2 + P2)).length : Int) else ((fvals F (S1 + P1)).length : Int)) := by split <;> split <;> omega
  rw [e]; rfl

theorem Exceeds_V {R : Ro} {a1 a2 : Option Addr} {c1 c2 : Nat} {F G : Nat → Int} {S1 P1 S2 P2 : Nat} {I1 I2 : Int} (ha1 : RS R 1 encI a1 (fvals F (S1 + P1))) (ha2 : RS R 1 encI a2 (fvals G (S2 + P2))) (hv1 : validB ⟨fvals F (S1 + P1), P1, I1⟩ = true) (hv2 : validB ⟨fvals G (S2 + P2), P2, I2⟩ = true) (hg1 : Grows F S1 P1 I1) (hg2 : Grows G S2 P2 I2) (hb1 : ∀ t, t ≤ 20000 → 0 ≤ F t ∧ F t ≤ 1000000000000000) (hb2 : ∀ t, t ≤ 20000 → 0 ≤ G t ∧ G t ≤ 1000000000000000) (hle : ∀ t, F t ≤ G t) : FnV Try.prog 89 [.agg #[.slice a1 (fvals F (S1 + P1)).length c1, .int .i64 (P1 : Int), .int .i64 I1], .agg #[.slice a2 (fvals G (S2 + P2)).length c2, .int .i64 (P2 : Int), .int .i64 I2]] R (.tuple #[.int .i64 0, .bool false, .int .i64 0]) := by
  refine Fn.toV (fun w0 E => ?_)
  obtain ⟨p1, q1, l1, i1, j1⟩ := valid_facts hv1
  obtain ⟨p2, q2, l2, i2, j2⟩ := valid_facts hv2
  have hf1 : ∀ t, t < S1 + P1 → F t ≠ INF := fun t ht => by have := hb1 t (by omega); unfold INF; omega
  have hf2 : ∀ t, t < S2 + P2 → G t ≠ INF := fun t ht => by have := hb2 t (by omega); unfold INF; omega
  have hx1 : ∀ x ∈ fvals F (S1 + P1), -2305843009213693952 ≤ x ∧ x ≤ 4611686018427387904 := all_of_nth (fun j hj => by rw [fvals_len] at hj; rw [fvals_nth F hj]; have := hb1 j (by omega); omega)
  have hx2 : ∀ x ∈ fvals G (S2 + P2), -2305843009213693952 ≤ x ∧ x ≤ 4611686018427387904 := all_of_nth (fun j hj => by rw [fvals_len] at hj; rw [fvals_nth G hj]; have := hb2 j (by omega); omega)
  have hn1 := fvals_len F (S1 + P1)
  have hn2 := fvals_len G (S2 + P2)
  have hl := lcmN_facts (a := P1) (b := P2) (by omega) (by omega)
  have hl2 : P1 * P2 ≤ 120 * 120 := Nat.mul_le_mul q1 q2
  have hd1 : 0 ≤ (lcmN P1 P2 : Int) / (P1 : Int) := Int.ediv_nonneg (by omega) (by omega)
  have hd2 : 0 ≤ (lcmN P1 P2 : Int) / (P2 : Int) := Int.ediv_nonneg (by omega) (by omega)
  have he1 : (lcmN P1 P2 : Int) / (P1 : Int) ≤ lcmN P1 P2 := Int.ediv_le_self _ (by omega)
  have he2 : (lcmN P1 P2 : Int) / (P2 : Int) ≤ lcmN P1 P2 := Int.ediv_le_self _ (by omega)
  have hm1 := mulB (a := I1) (b := (lcmN P1 P2 : Int) / (P1 : Int)) (A := 1073741824) (B := 14400) (by omega) (by omega)
  have hm2 := mulB (a := I2) (b := (lcmN P1 P2 : Int) / (P2 : Int)) (A := 1073741824) (B := 14400) (by omega) (by omega)
  obtain ⟨m, hm, hw⟩ := Window_V (c1 := c1) (c2 := c2) ha1 ha2 hv1 hv2 hg1 hg2 hb1 hb2
  have hgr := grows_lcm (by omega) (by omega) hg1 hg2 hle
  generalize hGR : (I1 * ((lcmN P1 P2 : Int) / (P1 : Int)) - I2 * ((lcmN P1 P2 : Int) / (P2 : Int))) = gr at hw
  have hgr0 : gr ≤ 0 := by omega
  refine Fn.enter (n := 87) Try.func89 rfl rfl (Nat.le_of_ble_eq_true rfl) rfl ?_
  refine W.seq ?_
  refine W.region _ ?_
  refine WL.ef rfl rfl (by decide) (Ef.box rfl rfl (fun b2 => ?_))
  refine WL.ef rfl rfl (by decide) (Ef.box rfl rfl (fun b3 => ?_))
  refine WG.run tab_ok 3 rfl ?_
  refine WG.nil ?_
  refine WE.nxt ?_
  refine W.seq ?_
  refine W.seq ?_
  refine W.region _ ?_
  refine' WG.y rfl rfl (by decide) (Yl.load1 tab_ok rfl rfl rfl (fun _ => rfl) ?r1 rfl ?h1) ?_
  case r1 => (first | exact Rd.blk 0 rfl | exact Rd.blk 1 rfl | exact Rd.blk 2 rfl)
  case h1 => rfl
  refine WG.callV (v := .bool true) en56 rfl rfl (by decide) (CallOp.mk' rfl rfl rfl rfl) (fun _ => rfl) (fun hg => by have h := Valid_V (c := c1) (per := (P1 : Int)) (inc := I1) ha1 (by constructor <;> omega) (by constructor <;> omega) hx1; rw [hv1] at h; exact h) ?_
  refine WG.run tab_ok 2 rfl ?_
  refine' WG.y rfl rfl (by decide) (Yl.loadG tab_ok rfl rfl rfl (by first | exact fun _ => rfl | exact fun h => h | (intro h; simp_all)) ?r2 rfl ?h2 ?g2) ?_
  case r2 => (first | exact Rd.blkC 0 rfl | exact Rd.blkC 1 rfl | exact Rd.blkC 2 rfl)
  case h2 => rfl
  case g2 => first | exact fun _ => trivial | (intro hg; (try simp only [decide_eq_true_eq, decide_eq_false_iff_not, beq_iff_eq, bne_iff_ne, beq_eq_false_iff_ne, bne_eq_false_iff_eq, ne_eq, Bool.or_eq_true, Bool.or_eq_false_iff, Bool.and_eq_true, Bool.and_eq_false_imp, Bool.not_eq_true, Bool.not_eq_true', Bool.not_eq_false', Classical.not_not, Int.not_lt, Int.not_le, gt_iff_lt, ge_iff_le] at hg); (try dsimp only); omega)
  refine WG.callV (v := .bool true) en56 rfl rfl (by decide) (CallOp.mk' rfl rfl rfl rfl) (by first | exact fun _ => rfl | exact fun h => h | (intro h; simp_all)) (fun hg => by have h := Valid_V (c := c2) (per := (P2 : Int)) (inc := I2) ha2 (by constructor <;> omega) (by constructor <;> omega) hx2; rw [hv2] at h; exact h) ?_
  refine WG.y rfl rfl (by decide) (pureV_ok tab_ok rfl (by first | exact fun _ => rfl | exact fun h => h | (intro h; simp_all))) ?_
  refine WG.y rfl rfl (by decide) (Yl.por rfl rfl rfl (fun _ => rfl) (by intro h1 h2; simp_all <;> omega)) ?_
  refine WG.nil ?_
  refine WE.nxt ?_
  refine W.cond rfl (fun hc0 => ?_) (fun hc0 => ?_)
  · try simp only [decide_eq_true_eq, decide_eq_false_iff_not, beq_iff_eq, bne_iff_ne, beq_eq_false_iff_ne, bne_eq_false_iff_eq, ne_eq, Bool.or_eq_true, Bool.or_eq_false_iff, Bool.and_eq_true, Bool.and_eq_false_imp, Bool.not_eq_true, Bool.not_eq_true', Bool.not_eq_false', Classical.not_not, Int.not_lt, Int.not_le, gt_iff_lt, ge_iff_le] at hc0
    first | done | (simp at hc0; done)
  · try simp only [decide_eq_true_eq, decide_eq_false_iff_not, beq_iff_eq, bne_iff_ne, beq_eq_false_iff_ne, bne_eq_false_iff_eq, ne_eq, Bool.or_eq_true, Bool.or_eq_false_iff, Bool.and_eq_true, Bool.and_eq_false_imp, Bool.not_eq_true, Bool.not_eq_true', Bool.not_eq_false', Classical.not_not, Int.not_lt, Int.not_le, gt_iff_lt, ge_iff_le] at hc0
    refine W.skip ?_
    refine WE.nxt ?_
    refine W.seq ?_
    refine W.region _ ?_
    refine' WG.y rfl rfl (by decide) (Yl.load1 tab_ok rfl rfl rfl (fun _ => rfl) ?r3 rfl ?h3) ?_
    case r3 => (first | exact Rd.blk 0 rfl | exact Rd.blk 1 rfl | exact Rd.blk 2 rfl)
    case h3 => rfl
    refine' WG.y rfl rfl (by decide) (Yl.load1 tab_ok rfl rfl rfl (fun _ => rfl) ?r4 rfl ?h4) ?_
    case r4 => (first | exact Rd.blk 0 rfl | exact Rd.blk 1 rfl | exact Rd.blk 2 rfl)
    case h4 => rfl
    refine WG.callV en115 rfl rfl (by decide) (CallOp.mk' rfl rfl rfl rfl) (fun _ => rfl) (fun hg => hw) ?_
    refine WG.run tab_ok 7 rfl ?_
    refine WG.nil ?_
    refine WE.nxt ?_
    refine W.seq ?_
    refine W.seq ?_
    refine W.region _ ?_
    refine WG.run tab_ok 1 rfl ?_
    refine WG.nil ?_
    refine WE.nxt ?_
    refine W.block ?_
    refine W.loopK (β := Nat) (fun t => t ≤ m + lcmN P1 P2) (fun t => [(10, true, .int .i64 (t : Int))]) [2, 3, 7, 8, 9] [_, _, _, _, _] [] _ rfl (fun t => []) (fun t => m + lcmN P1 P2 - t) (0) (Nat.zero_le _) ⟨rfl, rfl, rfl, rfl, rfl, rfl, rfl⟩ (by (repeat (first | exact List.Sublist.refl _ | exact List.nil_sublist _ | apply List.Sublist.cons_cons | apply List.Sublist.cons)); done) ?_
    intro t hst
    dsimp only [zipE, setAll, List.cons_append, List.nil_append, List.set_cons_zero, List.set_cons_succ] at hst ⊢
    
    refine W.seq ?_
    refine W.seq ?_
    refine W.region _ ?_
    refine WG.run tab_ok 3 rfl ?_
    refine WG.y rfl rfl (by decide) (Yl.add rfl rfl rfl (fun _ => rfl) (by intro _; constructor <;> (try dsimp only) <;> omega)) ?_
    refine WG.run tab_ok 1 rfl ?_
    refine WG.nil ?_
    refine WE.nxt ?_
    refine W.condD rfl (fun hc1 => ?_) (fun hc1 => ?_)
    · try dsimp only at hc1
      have hlt := hle t
      refine W.skip ?_
      refine WE.nxt ?_
      refine W.seq ?_
      refine W.block ?_
      refine W.seq ?_
      refine W.region _ ?_
      refine' WG.y rfl rfl (by decide) (Yl.load1 tab_ok rfl rfl rfl (fun _ => rfl) ?r5 rfl ?h5) ?_
      case r5 => (first | exact Rd.blk 0 rfl | exact Rd.blk 1 rfl | exact Rd.blk 2 rfl)
      case h5 => rfl
      refine' WG.y rfl rfl (by decide) (Yl.load1 tab_ok rfl rfl rfl (fun _ => rfl) ?r6 rfl ?h6) ?_
      case r6 => (first | exact Rd.blk 0 rfl | exact Rd.blk 1 rfl | exact Rd.blk 2 rfl)
      case h6 => rfl
      refine WG.run tab_ok 1 rfl ?_
      refine WG.callV en116 rfl rfl (by decide) (CallOp.mk' rfl rfl rfl rfl) (fun _ => rfl) (fun hg => Above_V ha1 ha2 hv1 hv2 hg1 hg2 hb1 hb2 (t := t) (by omega)) ?_
      refine WG.run tab_ok 1 rfl ?_
      refine WG.nil ?_
      refine WE.nxt ?_
      refine W.condD rfl (fun hc2 => ?_) (fun hc2 => ?_)
      · try dsimp only at hc2
        omega
      · try dsimp only at hc2
        refine W.skip ?_
        refine WE.blk _ ?_
        refine WE.nxt ?_
        refine W.region _ ?_
        refine WG.run tab_ok 1 rfl ?_
        refine WG.y rfl rfl (by decide) (Yl.add rfl rfl rfl (fun _ => rfl) (by intro _; constructor <;> (try dsimp only) <;> omega)) ?_
        refine WG.run tab_ok 1 rfl ?_
        refine WG.nil ?_
        refine WE.again (t + 1) (by omega) (by (try dsimp only); omega) ⟨rfl, rfl, rfl, rfl, rfl, rfl, rfl⟩ (RLe.refl _) (by (repeat (first | exact List.Sublist.refl _ | exact List.nil_sublist _ | apply List.Sublist.cons_cons | apply List.Sublist.cons)); done)
    · try dsimp only at hc1
      refine W.exit ?_
      refine WE.then_exit ?_
      refine WE.then_exit ?_
      refine WE.blk_exit ?_
      refine WE.nxt ?_
      refine W.seq ?_
      refine W.seq ?_
      refine W.region _ ?_
      refine' WG.y rfl rfl (by decide) (Yl.load1 tab_ok rfl rfl rfl (fun _ => rfl) ?r7 rfl ?h7) ?_
      case r7 => (first | exact Rd.blk 0 rfl | exact Rd.blk 1 rfl | exact Rd.blk 2 rfl)
      case h7 => rfl
      refine WG.callV en117 rfl rfl (by decide) (CallOp.mk' rfl rfl rfl rfl) (fun _ => rfl) (fun hg => Finite_V ha1 hv1 hx1 hf1) ?_
      refine WG.run tab_ok 2 rfl ?_
      refine' WG.y rfl rfl (by decide) (Yl.loadG tab_ok rfl rfl rfl (by first | exact fun _ => rfl | exact fun h => h | (intro h; simp_all)) ?r8 rfl ?h8 ?g8) ?_
      case r8 => (first | exact Rd.blkC 0 rfl | exact Rd.blkC 1 rfl | exact Rd.blkC 2 rfl)
      case h8 => rfl
      case g8 => first | exact fun _ => trivial | (intro hg; (try simp only [decide_eq_true_eq, decide_eq_false_iff_not, beq_iff_eq, bne_iff_ne, beq_eq_false_iff_ne, bne_eq_false_iff_eq, ne_eq, Bool.or_eq_true, Bool.or_eq_false_iff, Bool.and_eq_true, Bool.and_eq_false_imp, Bool.not_eq_true, Bool.not_eq_true', Bool.not_eq_false', Classical.not_not, Int.not_lt, Int.not_le, gt_iff_lt, ge_iff_le] at hg); (try dsimp only); omega)
      refine WG.callV en117 rfl rfl (by decide) (CallOp.mk' rfl rfl rfl rfl) (by first | exact fun _ => rfl | exact fun h => h | (intro h; simp_all)) (fun hg => Finite_V ha2 hv2 hx2 hf2) ?_
      refine WG.y rfl rfl (by decide) (pureV_ok tab_ok rfl (by first | exact fun _ => rfl | exact fun h => h | (intro h; simp_all))) ?_
      refine WG.y rfl rfl (by decide) (Yl.por rfl rfl rfl (fun _ => rfl) (by intro h1 h2; simp_all <;> omega)) ?_
      refine WG.run tab_ok 1 rfl ?_
      refine WG.y rfl rfl (by decide) (pureV_ok tab_ok rfl (by first | exact fun _ => rfl | exact fun h => h | (intro h; simp_all))) ?_
      refine WG.y rfl rfl (by decide) (pureV_ok tab_ok rfl (by first | exact fun _ => rfl | exact fun h => h | (intro h; simp_all))) ?_
      refine WG.y rfl rfl (by decide) (Yl.por rfl rfl rfl (fun _ => rfl) (by intro h1 h2; simp_all <;> omega)) ?_
      refine WG.nil ?_
      refine WE.nxt ?_
      refine W.cond rfl (fun hc3 => ?_) (fun hc3 => ?_)
      · try simp only [decide_eq_true_eq, decide_eq_false_iff_not, beq_iff_eq, bne_iff_ne, beq_eq_false_iff_ne, bne_eq_false_iff_eq, ne_eq, Bool.or_eq_true, Bool.or_eq_false_iff, Bool.and_eq_true, Bool.and_eq_false_imp, Bool.not_eq_true, Bool.not_eq_true', Bool.not_eq_false', Classical.not_not, Int.not_lt, Int.not_le, gt_iff_lt, ge_iff_le] at hc3
        refine W.seq ?_
        refine W.region _ ?_
        refine WG.run tab_ok 3 rfl ?_
        refine WG.nil ?_
        refine WE.nxt ?_
        refine W.ret ?_
        refine WE.then_ret ?_
        refine WE.subE (E' := E) (by (repeat (first | exact List.Sublist.refl _ | exact List.nil_sublist _ | apply List.Sublist.cons_cons | apply List.Sublist.cons)); done) ?_
        refine WE.retF tab_ok [_, _, _] rfl ⟨rfl, rfl, rfl, trivial⟩ (RLe.refl _) ?_
        exact ⟨rfl, rfl⟩
      · try simp only [decide_eq_true_eq, decide_eq_false_iff_not, beq_iff_eq, bne_iff_ne, beq_eq_false_iff_ne, bne_eq_false_iff_eq, ne_eq, Bool.or_eq_true, Bool.or_eq_false_iff, Bool.and_eq_true, Bool.and_eq_false_imp, Bool.not_eq_true, Bool.not_eq_true', Bool.not_eq_false', Classical.not_not, Int.not_lt, Int.not_le, gt_iff_lt, ge_iff_le] at hc3
        first | omega | (simp at hc3; omega)

theorem AtMost_V {R : Ro} {a1 a2 : Option Addr} {c1 c2 : Nat} {F G : Nat → Int} {S1 P1 S2 P2 : Nat} {I1 I2 : Int} (ha1 : RS R 1 encI a1 (fvals F (S1 + P1))) (ha2 : RS R 1 encI a2 (fvals G (S2 + P2))) (hv1 : validB ⟨fvals F (S1 + P1), P1, I1⟩ = true) (hv2 : validB ⟨fvals G (S2 + P2), P2, I2⟩ = true) (hg1 : Grows F S1 P1 I1) (hg2 : Grows G S2 P2 I2) (hb1 : ∀ t, t ≤ 20000 → 0 ≤ F t ∧ F t ≤ 1000000000000000) (hb2 : ∀ t, t ≤ 20000 → 0 ≤ G t ∧ G t ≤ 1000000000000000) (hle : ∀ t, F t ≤ G t) : FnV Try.prog 38 [.agg #[.slice a1 (fvals F (S1 + P1)).length c1, .int .i64 (P1 : Int), .int .i64 I1], .agg #[.slice a2 (fvals G (S2 + P2)).length c2, .int .i64 (P2 : Int), .int .i64 I2]] R (.bool true) := by
  refine Fn.toV (fun w0 E => ?_)
  refine Fn.enter (n := 21) Try.func38 rfl rfl (Nat.le_of_ble_eq_true rfl) rfl ?_
  refine W.seq ?_
  refine W.region _ ?_
  refine WL.ef rfl rfl (by decide) (Ef.box rfl rfl (fun b2 => ?_))
  refine WL.ef rfl rfl (by decide) (Ef.box rfl rfl (fun b3 => ?_))
  refine WG.run tab_ok 1 rfl ?_
  refine WG.nil ?_
  refine WE.nxt ?_
  refine W.seq ?_
  refine W.region _ ?_
  refine' WG.y rfl rfl (by decide) (Yl.load1 tab_ok rfl rfl rfl (fun _ => rfl) ?r1 rfl ?h1) ?_
  case r1 => (first | exact Rd.blk 0 rfl | exact Rd.blk 1 rfl | exact Rd.blk 2 rfl)
  case h1 => rfl
  refine' WG.y rfl rfl (by decide) (Yl.load1 tab_ok rfl rfl rfl (fun _ => rfl) ?r2 rfl ?h2) ?_
  case r2 => (first | exact Rd.blk 0 rfl | exact Rd.blk 1 rfl | exact Rd.blk 2 rfl)
  case h2 => rfl
  refine WG.callV en89 rfl rfl (by decide) (CallOp.mk' rfl rfl rfl rfl) (fun _ => rfl) (fun hg => Exceeds_V ha1 ha2 hv1 hv2 hg1 hg2 hb1 hb2 hle) ?_
  refine WG.run tab_ok 7 rfl ?_
  refine WG.nil ?_
  refine WE.nxt ?_
  refine W.seq ?_
  refine W.region _ ?_
  refine WG.run tab_ok 3 rfl ?_
  refine WG.y rfl rfl (by decide) (pureV_ok tab_ok rfl (by first | exact fun _ => rfl | exact fun h => h | (intro h; simp_all))) ?_
  refine WG.y rfl rfl (by decide) (pureV_ok tab_ok rfl (by first | exact fun _ => rfl | exact fun h => h | (intro h; simp_all))) ?_
  refine WG.y rfl rfl (by decide) (Yl.pand rfl rfl rfl (fun _ => rfl) (by intro h1 h2; simp_all <;> omega)) ?_
  refine WG.run tab_ok 1 rfl ?_
  refine WG.nil ?_
  refine WE.nxt ?_
  refine W.ret ?_
  refine WE.subE (E' := E) (by (repeat (first | exact List.Sublist.refl _ | exact List.nil_sublist _ | apply List.Sublist.cons_cons | apply List.Sublist.cons)); done) ?_
  refine WE.retF tab_ok [_] rfl ⟨rfl, trivial⟩ (RLe.refl _) ?_
  exact ⟨rfl, rfl⟩

end Go.Proofs.Ytcfnckccmkjjlaa
