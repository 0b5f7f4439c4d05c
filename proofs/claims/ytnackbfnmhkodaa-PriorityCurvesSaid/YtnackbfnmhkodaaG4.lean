/- Rules and walks, joined from 34 texts: the first of them says: Any valid curve in the program. No condition. -/
import Derived.Test.YtnackbfnmhkodaaG3
/- Any valid curve in the program. No condition. -/
set_option maxRecDepth 4000
set_option linter.unusedSimpArgs false
set_option linter.unusedVariables false
namespace Go.Proofs.Ytnackbfnmhkodaa
open Go Go.RowKit Go.Proofs.Ytnackbfnmhkodaa.K Go.Proofs.Ytnackbfnmhkodaa.M

theorem WAtG_V {R : Ro} {fa : Option Addr} {fc : Nat} {c : Cv} (hv : validB c = true) (ha : RS R 1 encI fa c.vals) {t : Nat} (ht : t ≤ 1000000000) : FnV Try.prog 68 [.agg #[.slice fa c.vals.length fc, .int .i64 c.per, .int .i64 c.inc], .int .i64 (t : Int)] R (.int .i64 (cvF c t)) := by
 refine Fn.toV (fun w0 E => ?_)
 obtain ⟨hr1, hr2, hr3, hr4, hr5, hr6, hr7, hr8⟩ := valid_range hv
 refine Fn.enter (n := 45) Try.func68 rfl rfl (Nat.le_of_ble_eq_true rfl) rfl ?_
 refine W.seq (W.region _ ?_)
 refine WL.ef rfl rfl qD (Ef.box rfl rfl (fun b2 => ?_))
 refine WG.run tab_ok 1 rfl (WG.nil (WE.nxt (W.seq (W.region _ (WG.run tab_ok 1 rfl ?_)))))
 refine' WG.y rfl rfl qD (Yl.load1 tab_ok rfl rfl rfl (fun _ => rfl) ?r1 rfl ?h1) ?_
 case r1 => apply Rd.add; (exact Rd.blk 0 rfl)
 case h1 => rfl
 refine WG.run tab_ok 2 rfl (WG.nil (WE.nxt (W.seq (W.seq (W.region _ (WG.run tab_ok 3 rfl (WG.nil (WE.nxt ?_))))))))
 refine W.condD rfl (fun hc0 => ?_) (fun hc0 => ?_)
 ·try dsimp only at hc0
  have htl : t < c.vals.length := by omega
  refine W.seq (W.region _ (WG.run tab_ok 1 rfl ?_))
  refine' WG.y rfl rfl qD (Yl.load1 tab_ok rfl rfl rfl (fun _ => rfl) ?r2 rfl ?h2) ?_
  case r2 => apply Rd.add; (exact Rd.blk 0 rfl)
  case h2 => rfl
  refine WG.run tab_ok 1 rfl ?_
  refine WG.y rfl rfl qD (Yl.indexN tab_ok rfl rfl rfl rfl rfl rfl (fun _ => rfl) qN qH) ?_
  refine' WG.y rfl rfl qD (Yl.load1 tab_ok rfl rfl rfl (fun _ => rfl) ?r3 rfl ?h3) ?_
  case r3 => ((apply RS.rdD; assumption; ((try dsimp only) <;> omega)))
  case h3 => rfl
  refine WG.run tab_ok 1 rfl (WG.nil (WE.nxt (W.ret (WE.then_ret ?_))))
  refine WE.subE (E' := E) qS ?_
  refine WE.retF tab_ok [_] rfl ⟨rfl, trivial⟩ (RLe.refl _) ?_
  exact ⟨by rw [cvF_low htl]; rfl, rfl⟩
 ·try dsimp only at hc0
  obtain ⟨P, hP⟩ := Int.eq_ofNat_of_zero_le (show 0 ≤ c.per by omega)
  have hPn : 1 ≤ P ∧ P ≤ c.vals.length := by omega
  obtain ⟨j1, j2, j3⟩ := cvJ_at hPn (show c.vals.length ≤ t by omega)
  have hcv := cvF_high hP hPn (show c.vals.length ≤ t by omega)
  generalize hq : (t - c.vals.length) / P = q at j3 hcv
  have hq1 : ((t : Int) - (c.vals.length : Int)) / c.per = (q : Int) := by rw [hP, show (t : Int) - (c.vals.length : Int) = ((t - c.vals.length : Nat) : Int) by omega, ← hq]; rfl
  have hq5 : ((q : Int) + 1) * c.per = (((q + 1) * P : Nat) : Int) := by rw [hP, Int.natCast_mul]; rfl
  have hj : (t : Int) - (((q + 1) * P : Nat) : Int) = (cvJ c.vals.length P t : Int) := by omega
  have hqt : q + 1 ≤ t := Nat.le_trans (Nat.le_mul_of_pos_right (q + 1) (show 0 < P by omega)) (by omega)
  have hve := valid_each hv _ j2
  have hqI := mulB (a := (q : Int) + 1) (b := c.inc) (A := 1000000000) (B := 1073741824) (by omega) (by omega)
  refine W.skip (WE.nxt (W.seq (W.region _ (WG.run tab_ok 2 rfl ?_))))
  refine WG.y rfl rfl qD (Yl.sub rfl rfl rfl (fun _ => rfl) qA) ?_
  refine WG.run tab_ok 1 rfl ?_
  refine' WG.y rfl rfl qD (Yl.load1 tab_ok rfl rfl rfl (fun _ => rfl) ?r4 rfl ?h4) ?_
  case r4 => apply Rd.add; (exact Rd.blk 0 rfl)
  case h4 => rfl
  refine WG.y rfl rfl qD (Yl.quo rfl rfl rfl (fun _ => rfl) qA (by intro _; omega)) ?_
  refine WG.y rfl rfl qD (Yl.add rfl rfl rfl (fun _ => rfl) qA) ?_
  refine WG.run tab_ok 1 rfl (WG.nil (WE.nxt ?_))
  rw [hq1]
  refine W.seq (W.region _ (WG.run tab_ok 1 rfl ?_))
  refine' WG.y rfl rfl qD (Yl.load1 tab_ok rfl rfl rfl (fun _ => rfl) ?r5 rfl ?h5) ?_
  case r5 => apply Rd.add; (exact Rd.blk 0 rfl)
  case h5 => rfl
  refine WG.run tab_ok 3 rfl ?_
  refine' WG.y rfl rfl qD (Yl.load1 tab_ok rfl rfl rfl (fun _ => rfl) ?r6 rfl ?h6) ?_
  case r6 => apply Rd.add; (exact Rd.blk 0 rfl)
  case h6 => rfl
  refine WG.y rfl rfl qD (Yl.mul rfl rfl rfl (fun _ => rfl) qA) ?_
  refine WG.y rfl rfl qD (Yl.sub rfl rfl rfl (fun _ => rfl) qA) ?_
  rw [hq5, hj]
  refine WG.y rfl rfl qD (Yl.indexN tab_ok rfl rfl rfl rfl rfl rfl (fun _ => rfl) qN qH) ?_
  refine' WG.y rfl rfl qD (Yl.load1 tab_ok rfl rfl rfl (fun _ => rfl) ?r7 rfl ?h7) ?_
  case r7 => ((apply RS.rdD; assumption; ((try dsimp only) <;> omega)))
  case h7 => rfl
  refine WG.run tab_ok 1 rfl (WG.nil (WE.nxt (W.seq (W.seq (W.region _ (WG.run tab_ok 2 rfl (WG.nil (WE.nxt ?_))))))))
  refine W.condE rfl (fun hc1 => ?_) (fun hc1 => ?_)
  ·try dsimp only at hc1
   have hcv : cvF c t = 4611686018427387904 := by rw [hcv, if_pos (show _ = INF from hc1)]; rfl
   refine W.seq (W.region _ (WG.run tab_ok 2 rfl (WG.nil (WE.nxt (W.ret (WE.then_ret ?_))))))
   refine WE.subE (E' := E) qS ?_
   refine WE.retF tab_ok [_] rfl ⟨rfl, trivial⟩ (RLe.refl _) ?_
   exact ⟨by rw [hcv, hc1]; rfl, rfl⟩
  ·try dsimp only at hc1
   have hvm := hve.resolve_left hc1
   unfold MAXV at hvm
   rw [if_neg (show ¬ _ = INF from hc1), show ((q + 1 : Nat) : Int) = (q : Int) + 1 from rfl] at hcv
   refine W.skip (WE.nxt (W.seq (W.region _ (WG.run tab_ok 3 rfl ?_))))
   refine' WG.y rfl rfl qD (Yl.load1 tab_ok rfl rfl rfl (fun _ => rfl) ?r8 rfl ?h8) ?_
   case r8 => apply Rd.add; (exact Rd.blk 0 rfl)
   case h8 => rfl
   refine WG.y rfl rfl qD (Yl.mul rfl rfl rfl (fun _ => rfl) qA) ?_
   refine WG.y rfl rfl qD (Yl.add rfl rfl rfl (fun _ => rfl) qA) ?_
   refine WG.run tab_ok 1 rfl (WG.nil (WE.nxt (W.ret ?_)))
   refine WE.subE (E' := E) qS ?_
   refine WE.retF tab_ok [_] rfl ⟨rfl, trivial⟩ (RLe.refl _) ?_
   exact ⟨by rw [hcv]; rfl, rfl⟩

theorem WFiniteG_V {R : Ro} {fa : Option Addr} {fc : Nat} {c : Cv} (hv : validB c = true) (ha : RS R 1 encI fa c.vals) : FnV Try.prog 37 [.agg #[.slice fa c.vals.length fc, .int .i64 c.per, .int .i64 c.inc]] R (.bool (finB c)) := by
 refine Fn.toV (fun w0 E => ?_)
 obtain ⟨hr1, hr2, hr3, hr4, hr5, hr6, hr7, hr8⟩ := valid_range hv
 have hl : ((c.vals.length : Int) - 1).toNat = c.vals.length - 1 := by omega
 refine Fn.enter (n := 12) Try.func37 rfl rfl (Nat.le_of_ble_eq_true rfl) rfl ?_
 refine W.seq (W.region _ ?_)
 refine WL.ef rfl rfl qD (Ef.box rfl rfl (fun b1 => ?_))
 refine WG.run tab_ok 1 rfl (WG.nil (WE.nxt (W.seq (W.region _ (WG.run tab_ok 1 rfl ?_)))))
 refine' WG.y rfl rfl qD (Yl.load1 tab_ok rfl rfl rfl (fun _ => rfl) ?r1 rfl ?h1) ?_
 case r1 => apply Rd.add; (exact Rd.blk 0 rfl)
 case h1 => rfl
 refine WG.run tab_ok 1 rfl ?_
 refine' WG.y rfl rfl qD (Yl.load1 tab_ok rfl rfl rfl (fun _ => rfl) ?r2 rfl ?h2) ?_
 case r2 => apply Rd.add; (exact Rd.blk 0 rfl)
 case h2 => rfl
 refine WG.run tab_ok 1 rfl ?_
 refine WG.y rfl rfl qD (Yl.sub rfl rfl rfl (fun _ => rfl) qA) ?_
 refine WG.y rfl rfl qD (Yl.index tab_ok rfl rfl rfl rfl rfl rfl (fun _ => rfl) qA qH) ?_
 refine' WG.y rfl rfl qD (Yl.load1 tab_ok rfl rfl rfl (fun _ => rfl) ?r3 rfl ?h3) ?_
 case r3 => ((apply RS.rdD; assumption; ((try dsimp only) <;> omega)))
 case h3 => rfl
 refine WG.run tab_ok 2 rfl (WG.nil (WE.nxt (W.ret ?_)))
 refine WE.subE (E' := E) qS ?_
 refine WE.retF tab_ok [_] rfl ⟨rfl, trivial⟩ (RLe.refl _) ?_
 exact ⟨by rw [hl]; rfl, rfl⟩

theorem WStartG_V {R : Ro} {fa : Option Addr} {fc : Nat} {c : Cv} (hv : validB c = true) (ha : RS R 1 encI fa c.vals) : FnV Try.prog 35 [.agg #[.slice fa c.vals.length fc, .int .i64 c.per, .int .i64 c.inc]] R (.int .i64 (stN c : Int)) := by
 refine Fn.toV (fun w0 E => ?_)
 obtain ⟨hr1, hr2, hr3, hr4, hr5, hr6, hr7, hr8⟩ := valid_range hv
 have hl : (c.vals.length : Int) - c.per = (stN c : Int) := by unfold stN; omega
 refine Fn.enter (n := 9) Try.func35 rfl rfl (Nat.le_of_ble_eq_true rfl) rfl ?_
 refine W.seq (W.region _ ?_)
 refine WL.ef rfl rfl qD (Ef.box rfl rfl (fun b1 => ?_))
 refine WG.run tab_ok 1 rfl (WG.nil (WE.nxt (W.seq (W.region _ (WG.run tab_ok 1 rfl ?_)))))
 refine' WG.y rfl rfl qD (Yl.load1 tab_ok rfl rfl rfl (fun _ => rfl) ?r1 rfl ?h1) ?_
 case r1 => apply Rd.add; (exact Rd.blk 0 rfl)
 case h1 => rfl
 refine WG.run tab_ok 2 rfl ?_
 refine' WG.y rfl rfl qD (Yl.load1 tab_ok rfl rfl rfl (fun _ => rfl) ?r2 rfl ?h2) ?_
 case r2 => apply Rd.add; (exact Rd.blk 0 rfl)
 case h2 => rfl
 refine WG.y rfl rfl qD (Yl.sub rfl rfl rfl (fun _ => rfl) qA) ?_
 refine WG.run tab_ok 1 rfl (WG.nil (WE.nxt (W.ret ?_)))
 refine WE.subE (E' := E) qS ?_
 refine WE.retF tab_ok [_] rfl ⟨rfl, trivial⟩ (RLe.refl _) ?_
 exact ⟨by rw [hl]; rfl, rfl⟩

theorem PGainG_V {R : Ro} {fa : Option Addr} {fc : Nat} {c : Cv} (hv : validB c = true) (ha : RS R 1 encI fa c.vals) {L : Nat} (hL : L ≤ 100000) : FnV Try.prog 104 [.agg #[.slice fa c.vals.length fc, .int .i64 c.per, .int .i64 c.inc], .int .i64 (L : Int)] R (.int .i64 (gainC c L)) := by
 refine Fn.toV (fun w0 E => ?_)
 obtain ⟨hr1, hr2, hr3, hr4, hr5, hr6, hr7, hr8⟩ := valid_range hv
 have hd0 : 0 ≤ (L : Int) / c.per := Int.ediv_nonneg (by omega) (by omega)
 have hd1 : (L : Int) / c.per ≤ L := Int.ediv_le_self _ (by omega)
 have hd2 := mulB (a := (L : Int) / c.per) (b := c.inc) (A := 100000) (B := 1073741824) (by omega) (by omega)
 refine Fn.enter (n := 12) Try.func104 rfl rfl (Nat.le_of_ble_eq_true rfl) rfl ?_
 refine W.seq (W.region _ ?_)
 refine WL.ef rfl rfl qD (Ef.box rfl rfl (fun b2 => ?_))
 refine WG.run tab_ok 1 rfl (WG.nil (WE.nxt (W.seq ?_)))
 refine W.regionQ _ mixed qK ?_
 refine WG.run tab_ok 2 rfl ?_
 refine' WG.y rfl rfl qD (Yl.load1 tab_ok rfl rfl rfl (fun _ => rfl) ?r1 rfl ?h1) ?_
 case r1 => apply Rd.add; (exact Rd.blk 0 rfl)
 case h1 => rfl
 refine WG.y rfl rfl qD (Yl.quo rfl rfl rfl (fun _ => rfl) qA (by intro _; omega)) ?_
 refine WG.run tab_ok 1 rfl ?_
 refine' WG.y rfl rfl qD (Yl.load1 tab_ok rfl rfl rfl (fun _ => rfl) ?r2 rfl ?h2) ?_
 case r2 => apply Rd.add; (exact Rd.blk 0 rfl)
 case h2 => rfl
 refine WG.y rfl rfl qD (Yl.mul rfl rfl rfl (fun _ => rfl) qA) ?_
 refine WG.run tab_ok 1 rfl (WG.nil (WE.nxt (W.ret ?_)))
 refine WE.subE (E' := E) qS ?_
 refine WE.retF tab_ok [_] rfl ⟨rfl, trivial⟩ (RLe.refl _) ?_
 exact ⟨rfl, rfl⟩

theorem WPlus_V {R : Ro} {x y : Int} (hx : x = 4611686018427387904 ∨ (-1000000000000000000 ≤ x ∧ x ≤ 1000000000000000000)) (hy : y = 4611686018427387904 ∨ (-1000000000000000000 ≤ y ∧ y ≤ 1000000000000000000)) : FnV Try.prog 91 [.int .i64 x, .int .i64 y] R (.int .i64 (if x = 4611686018427387904 ∨ y = 4611686018427387904 then 4611686018427387904 else x + y)) := by
 refine Fn.toV (fun w0 E => ?_)
 refine Fn.enter (n := 14) Try.func91 rfl rfl (Nat.le_of_ble_eq_true rfl) rfl ?_
 refine W.seq (W.region _ (WG.run tab_ok 1 rfl (WG.nil (WE.nxt (W.seq (W.seq (W.region _ (WG.run tab_ok 3 rfl ?_))))))))
 refine WG.y rfl rfl qD (pureV_ok tab_ok rfl qE) ?_
 refine WG.y rfl rfl qD (pureV_ok tab_ok rfl qE) ?_
 refine WG.y rfl rfl (by decide) (Yl.por rfl rfl rfl (fun _ => rfl) (by intro h1 h2; simp_all <;> omega)) ?_
 refine WG.nil (WE.nxt ?_)
 refine W.cond rfl (fun hc0 => ?_) (fun hc0 => ?_)
 ·try simp only [kk] at hc0
  rw [if_pos hc0]
  refine W.seq (W.region _ (WG.run tab_ok 1 rfl (WG.nil (WE.nxt (W.ret (WE.then_ret ?_))))))
  refine WE.subE (E' := E) qS ?_
  refine WE.retF tab_ok [_] rfl ⟨rfl, trivial⟩ (RLe.refl _) ?_
  exact ⟨rfl, rfl⟩
 ·try simp only [kk] at hc0
  have hno : ¬ (x = 4611686018427387904 ∨ y = 4611686018427387904) := by omega
  rw [if_neg hno]
  refine W.skip (WE.nxt (W.seq (W.region _ (WG.run tab_ok 2 rfl ?_))))
  refine WG.y rfl rfl qD (Yl.add rfl rfl rfl (fun _ => rfl) qA) ?_
  refine WG.run tab_ok 1 rfl (WG.nil (WE.nxt (W.ret ?_)))
  refine WE.subE (E' := E) qS ?_
  refine WE.retF tab_ok [_] rfl ⟨rfl, trivial⟩ (RLe.refl _) ?_
  exact ⟨rfl, rfl⟩

theorem CValidG_V {R : Ro} {fa : Option Addr} {fc : Nat} {c : Cv} (ha : RS R 1 encI fa c.vals) (hl : c.vals.length ≤ 100000) : FnV Try.prog 48 [.agg #[.slice fa c.vals.length fc, .int .i64 c.per, .int .i64 c.inc]] R (.bool (validB c)) := by
 refine Fn.toV (fun w0 E => ?_)
 refine Fn.enter (n := 85) Try.func48 rfl rfl (Nat.le_of_ble_eq_true rfl) rfl ?_
 refine W.seq (W.region _ ?_)
 refine WL.ef rfl rfl qD (Ef.box rfl rfl (fun b1 => ?_))
 refine WG.run tab_ok 1 rfl (WG.nil (WE.nxt (W.seq (W.region _ (WG.run tab_ok 1 rfl ?_)))))
 refine' WG.y rfl rfl qD (Yl.load1 tab_ok rfl rfl rfl (fun _ => rfl) ?r1 rfl ?h1) ?_
 case r1 => apply Rd.add; (exact Rd.blk 0 rfl)
 case h1 => rfl
 refine WG.run tab_ok 2 rfl (WG.nil (WE.nxt (W.seq (W.seq (W.region _ (WG.run tab_ok 3 rfl ?_))))))
 refine WG.y rfl rfl qD (pureV_ok tab_ok rfl qE) ?_
 refine WG.y rfl rfl qD (pureV_ok tab_ok rfl qE) ?_
 refine WG.y rfl rfl (by decide) (Yl.por rfl rfl rfl (fun _ => rfl) (by intro h1 h2; simp_all <;> omega)) ?_
 refine WG.run tab_ok 1 rfl ?_
 refine WG.y rfl rfl qD (pureV_ok tab_ok rfl qE) ?_
 refine' WG.y rfl rfl qD (Yl.loadG tab_ok rfl rfl rfl qE ?r2 rfl ?h2 ?g2) ?_
 case r2 => apply Rd.addC; (exact Rd.blkC 0 rfl)
 case h2 => rfl
 case g2 => exact fun _ => trivial
 refine WG.y rfl rfl qD (pureV_ok tab_ok rfl qE) ?_
 refine WG.y rfl rfl (by decide) (Yl.por rfl rfl rfl (fun _ => rfl) (by intro h1 h2; simp_all <;> omega)) ?_
 refine WG.run tab_ok 1 rfl ?_
 refine WG.y rfl rfl qD (pureV_ok tab_ok rfl qE) ?_
 refine' WG.y rfl rfl qD (Yl.loadG tab_ok rfl rfl rfl qE ?r3 rfl ?h3 ?g3) ?_
 case r3 => apply Rd.addC; (exact Rd.blkC 0 rfl)
 case h3 => rfl
 case g3 => exact fun _ => trivial
 refine WG.y rfl rfl qD (pureV_ok tab_ok rfl qE) ?_
 refine WG.y rfl rfl (by decide) (Yl.por rfl rfl rfl (fun _ => rfl) (by intro h1 h2; simp_all <;> omega)) ?_
 refine WG.run tab_ok 1 rfl ?_
 refine WG.y rfl rfl qD (pureV_ok tab_ok rfl qE) ?_
 refine' WG.y rfl rfl qD (Yl.loadG tab_ok rfl rfl rfl qE ?r4 rfl ?h4 ?g4) ?_
 case r4 => apply Rd.addC; (exact Rd.blkC 0 rfl)
 case h4 => rfl
 case g4 => exact fun _ => trivial
 refine WG.y rfl rfl qD (pureV_ok tab_ok rfl qE) ?_
 refine WG.y rfl rfl qD (pureV_ok tab_ok rfl qE) ?_
 refine WG.y rfl rfl (by decide) (Yl.por rfl rfl rfl (fun _ => rfl) (by intro h1 h2; simp_all <;> omega)) ?_
 refine WG.run tab_ok 1 rfl ?_
 refine WG.y rfl rfl qD (pureV_ok tab_ok rfl qE) ?_
 refine' WG.y rfl rfl qD (Yl.loadG tab_ok rfl rfl rfl qE ?r5 rfl ?h5 ?g5) ?_
 case r5 => apply Rd.addC; (exact Rd.blkC 0 rfl)
 case h5 => rfl
 case g5 => exact fun _ => trivial
 refine WG.y rfl rfl qD (pureV_ok tab_ok rfl qE) ?_
 refine WG.y rfl rfl (by decide) (Yl.por rfl rfl rfl (fun _ => rfl) (by intro h1 h2; simp_all <;> omega)) ?_
 refine WG.run tab_ok 1 rfl ?_
 refine WG.y rfl rfl qD (pureV_ok tab_ok rfl qE) ?_
 refine' WG.y rfl rfl qD (Yl.loadG tab_ok rfl rfl rfl qE ?r6 rfl ?h6 ?g6) ?_
 case r6 => apply Rd.addC; (exact Rd.blkC 0 rfl)
 case h6 => rfl
 case g6 => exact fun _ => trivial
 refine WG.y rfl rfl qD (pureV_ok tab_ok rfl qE) ?_
 refine WG.y rfl rfl (by decide) (Yl.por rfl rfl rfl (fun _ => rfl) (by intro h1 h2; simp_all <;> omega)) ?_
 refine WG.nil (WE.nxt ?_)
 refine W.cond rfl (fun hc0 => ?_) (fun hc0 => ?_)
 ·try simp only [kk] at hc0
  have hno : validB c = false := validB_false (fun h => by obtain ⟨⟨a1, a2, a3, a4, a5, a6, a7⟩, _⟩ := h; unfold MAXV at a7; omega)
  refine W.seq (W.region _ (WG.run tab_ok 1 rfl (WG.nil (WE.nxt (W.ret (WE.then_ret ?_))))))
  refine WE.subE (E' := E) qS ?_
  refine WE.retF tab_ok [_] rfl ⟨rfl, trivial⟩ (RLe.refl _) ?_
  exact ⟨by rw [hno]; rfl, rfl⟩
 ·try simp only [kk] at hc0
  have hall : 1 ≤ c.vals.length ∧ c.vals.length ≤ 400 ∧ 1 ≤ c.per ∧ c.per ≤ 120 ∧ c.per ≤ c.vals.length ∧ 0 ≤ c.inc ∧ c.inc ≤ MAXV := by unfold MAXV; omega
  refine W.skip (WE.nxt (W.seq (W.region _ (WG.run tab_ok 1 rfl (WG.nil (WE.nxt (W.seq (W.seq (W.region _ (WG.run tab_ok 1 rfl ?_))))))))))
  refine' WG.y rfl rfl qD (Yl.load1 tab_ok rfl rfl rfl (fun _ => rfl) ?r7 rfl ?h7) ?_
  case r7 => apply Rd.add; (exact Rd.blk 0 rfl)
  case h7 => rfl
  refine WG.run tab_ok 2 rfl (WG.nil (WE.nxt (W.block ?_)))
  refine W.loopK (β := Nat) (fun t => t ≤ c.vals.length ∧ ∀ i, i < t → (nth c.vals i = INF ∨ (0 ≤ nth c.vals i ∧ nth c.vals i ≤ MAXV)) ∧ (i = 0 ∨ nth c.vals (i - 1) ≤ nth c.vals i)) (fun t => [(4, true, .int .i64 (lastV c.vals t)), (45, true, .int .i64 (t : Int))]) [1, 3, 43, 44] [_, _, _, _] [] _ rfl (fun t => []) (fun t => c.vals.length - t) (0) (⟨Nat.zero_le _, fun i hi => by omega⟩) ⟨rfl, rfl, rfl, rfl, rfl, rfl, rfl⟩ qS ?_
  intro t hst
  dsimp only [zipE, setAll, List.cons_append, List.nil_append, List.set_cons_zero, List.set_cons_succ] at hst ⊢
  have hlast : 0 ≤ lastV c.vals t ∧ (lastV c.vals t = INF ∨ lastV c.vals t ≤ MAXV) := by
   unfold lastV
   by_cases h : t = 0
   ·rw [if_pos h]; exact ⟨Int.le_refl _, .inr (by decide)⟩
   ·rw [if_neg h]
    have := (hst.2 (t - 1) (by omega)).1
    unfold INF MAXV at this ⊢
    omega
  refine W.seq (W.region _ (WG.run tab_ok 1 rfl (WG.nil (WE.nxt (W.seq ?_)))))
  refine W.condD rfl (fun hc1 => ?_) (fun hc1 => ?_)
  ·try dsimp only at hc1
   have htl : t < c.vals.length := by omega
   refine W.skip (WE.nxt (W.seq (W.block (W.seq (W.region _ ?_)))))
   refine WG.y rfl rfl qD (Yl.indexN tab_ok rfl rfl rfl rfl rfl rfl (fun _ => rfl) qN qH) ?_
   refine' WG.y rfl rfl qD (Yl.load1 tab_ok rfl rfl rfl (fun _ => rfl) ?r8 rfl ?h8) ?_
   case r8 => ((apply RS.rdD; assumption; ((try dsimp only) <;> omega)))
   case h8 => rfl
   refine WG.run tab_ok 1 rfl (WG.nil (WE.nxt (W.seq (W.seq (W.region _ (WG.run tab_ok 4 rfl ?_))))))
   refine WG.y rfl rfl qD (pureV_ok tab_ok rfl qE) ?_
   refine WG.y rfl rfl qD (pureV_ok tab_ok rfl qE) ?_
   refine WG.y rfl rfl qD (pureV_ok tab_ok rfl qE) ?_
   refine WG.y rfl rfl qD (pureV_ok tab_ok rfl qE) ?_
   refine WG.y rfl rfl qD (pureV_ok tab_ok rfl qE) ?_
   refine WG.y rfl rfl (by decide) (Yl.pand rfl rfl rfl qE (by intro h1 h2; simp_all <;> omega)) ?_
   refine WG.y rfl rfl (by decide) (Yl.por rfl rfl rfl (fun _ => rfl) (by intro h1 h2; simp_all <;> omega)) ?_
   refine WG.nil (WE.nxt ?_)
   refine W.cond rfl (fun hc2 => ?_) (fun hc2 => ?_)
   ·try simp only [kk] at hc2
    have hno : validB c = false := validB_false (fun h => by
     have h2 := h.2.1 t htl
     unfold lastV at hc2
     unfold INF MAXV at h2
     rcases hc2 with x | x
     ·split at x
      ·omega
      ·have := h2.2.resolve_left (by omega)
       omega
     ·omega)
    refine W.seq (W.region _ (WG.run tab_ok 1 rfl (WG.nil (WE.nxt (W.ret (WE.then_ret (WE.blk_ret (WE.then_ret (WE.then_ret (WE.blk_ret (WE.then_ret ?_)))))))))))
    refine WE.subE (E' := E) qS ?_
    refine WE.retF tab_ok [_] rfl ⟨rfl, trivial⟩ (RLe.refl _) ?_
    exact ⟨by rw [hno]; rfl, rfl⟩
   ·try simp only [kk] at hc2
    have hy : (nth c.vals t = INF ∨ (0 ≤ nth c.vals t ∧ nth c.vals t ≤ MAXV)) ∧ (t = 0 ∨ nth c.vals (t - 1) ≤ nth c.vals t) := by
     unfold INF MAXV
     have hle : lastV c.vals t ≤ nth c.vals t := by omega
     refine ⟨by omega, ?_⟩
     unfold lastV at hle
     by_cases h : t = 0
     ·exact .inl h
     ·rw [if_neg h] at hle; exact .inr hle
    refine W.skip (WE.nxt (W.region _ (WG.run tab_ok 2 rfl (WG.nil (WE.blk _ (WE.nxt (W.region _ ?_)))))))
    refine WG.y rfl rfl qD (Yl.add rfl rfl rfl (fun _ => rfl) qA) ?_
    refine WG.run tab_ok 1 rfl (WG.nil ?_)
    refine WE.again (t + 1) (⟨by omega, fun i hi => by
     by_cases e : i = t
     ·subst e; exact hy
     ·exact hst.2 i (by omega)⟩) (by (try dsimp only); omega) ⟨vint (lastV_succ _ _), rfl, rfl, rfl, rfl, rfl, rfl⟩ (RLe.refl _) qS
  ·try dsimp only at hc1
   obtain rfl : t = c.vals.length := by omega
   obtain ⟨P, hP⟩ := Int.eq_ofNat_of_zero_le (show 0 ≤ c.per by omega)
   have hlv : lastV c.vals c.vals.length = nth c.vals (c.vals.length - 1) := if_neg (by omega)
   have e3 : ((c.vals.length : Int) - c.per).toNat = c.vals.length - c.per.toNat := by omega
   refine W.exit ?_
   refine WE.then_exit (WE.then_exit (WE.blk_exit (WE.nxt (W.seq (W.seq (W.region _ (WG.run tab_ok 2 rfl (WG.nil (WE.nxt ?_)))))))))
   refine W.condE rfl (fun hc3 => ?_) (fun hc3 => ?_)
   ·try dsimp only at hc3
    have hif : (if nth c.vals (c.vals.length - 1) = INF then c.per = 1 ∧ c.inc = 0 else nth c.vals (c.vals.length - 1) ≤ nth c.vals (c.vals.length - c.per.toNat) + c.inc) ↔ (c.per = 1 ∧ c.inc = 0) := by rw [if_pos (by rw [← hlv]; exact hc3)]
    refine W.seq (W.region _ (WG.run tab_ok 1 rfl ?_))
    refine' WG.y rfl rfl qD (Yl.load1 tab_ok rfl rfl rfl (fun _ => rfl) ?r9 rfl ?h9) ?_
    case r9 => apply Rd.add; (exact Rd.blk 0 rfl)
    case h9 => rfl
    refine WG.run tab_ok 2 rfl ?_
    refine WG.y rfl rfl qD (pureV_ok tab_ok rfl qE) ?_
    refine' WG.y rfl rfl qD (Yl.loadG tab_ok rfl rfl rfl qE ?r10 rfl ?h10 ?g10) ?_
    case r10 => apply Rd.addC; (exact Rd.blkC 0 rfl)
    case h10 => rfl
    case g10 => exact fun _ => trivial
    refine WG.y rfl rfl qD (pureV_ok tab_ok rfl qE) ?_
    refine WG.y rfl rfl (by decide) (Yl.pand rfl rfl rfl (fun _ => rfl) (by intro h1 h2; simp_all <;> omega)) ?_
    refine WG.run tab_ok 1 rfl (WG.nil (WE.nxt (W.ret (WE.then_ret ?_))))
    refine WE.subE (E' := E) qS ?_
    refine WE.retF tab_ok [_] rfl ⟨rfl, trivial⟩ (RLe.refl _) ?_
    refine ⟨congrArg Value.bool ?_, rfl⟩
    rw [Bool.eq_iff_iff, validB_iff, hif]
    simp only [Bool.and_eq_true, beq_iff_eq]
    exact ⟨fun h => ⟨hall, fun j hj => hst.2 j hj, h⟩, fun h => h.2.2⟩
   ·try dsimp only at hc3
    have hif : (if nth c.vals (c.vals.length - 1) = INF then c.per = 1 ∧ c.inc = 0 else nth c.vals (c.vals.length - 1) ≤ nth c.vals (c.vals.length - c.per.toNat) + c.inc) ↔ (nth c.vals (c.vals.length - 1) ≤ nth c.vals (c.vals.length - c.per.toNat) + c.inc) := by rw [if_neg (by rw [← hlv]; exact hc3)]
    have hx2 := (hst.2 (c.vals.length - c.per.toNat) (by omega)).1
    rw [← e3] at hx2
    unfold INF MAXV at hx2 hall
    refine W.skip (WE.nxt (W.seq ?_))
    refine W.regionQ _ mixed qK ?_
    refine WG.run tab_ok 1 rfl ?_
    refine' WG.y rfl rfl qD (Yl.load1 tab_ok rfl rfl rfl (fun _ => rfl) ?r11 rfl ?h11) ?_
    case r11 => apply Rd.add; (exact Rd.blk 0 rfl)
    case h11 => rfl
    refine WG.run tab_ok 2 rfl ?_
    refine' WG.y rfl rfl qD (Yl.load1 tab_ok rfl rfl rfl (fun _ => rfl) ?r12 rfl ?h12) ?_
    case r12 => apply Rd.add; (exact Rd.blk 0 rfl)
    case h12 => rfl
    refine WG.y rfl rfl qD (Yl.sub rfl rfl rfl (fun _ => rfl) qA) ?_
    refine WG.y rfl rfl qD (Yl.index tab_ok rfl rfl rfl rfl rfl rfl (fun _ => rfl) qA qH) ?_
    refine' WG.y rfl rfl qD (Yl.load1 tab_ok rfl rfl rfl (fun _ => rfl) ?r13 rfl ?h13) ?_
    case r13 => ((apply RS.rdD; assumption; ((try dsimp only) <;> omega)))
    case h13 => rfl
    refine WG.run tab_ok 1 rfl ?_
    refine' WG.y rfl rfl qD (Yl.load1 tab_ok rfl rfl rfl (fun _ => rfl) ?r14 rfl ?h14) ?_
    case r14 => apply Rd.add; (exact Rd.blk 0 rfl)
    case h14 => rfl
    refine WG.y rfl rfl qD (Yl.add rfl rfl rfl (fun _ => rfl) qA) ?_
    refine WG.run tab_ok 3 rfl (WG.nil (WE.nxt (W.ret ?_)))
    refine WE.subE (E' := E) qS ?_
    refine WE.retF tab_ok [_] rfl ⟨rfl, trivial⟩ (RLe.refl _) ?_
    refine ⟨congrArg Value.bool ?_, rfl⟩
    rw [Bool.eq_iff_iff, validB_iff, hif, e3, hlv]
    simp only [decide_eq_true_eq]
    exact ⟨fun h => ⟨by unfold MAXV; omega, fun j hj => hst.2 j hj, by omega⟩, fun h => by have := h.2.2; omega⟩

theorem NormG_V {R : Ro} {fa : Option Addr} {fc : Nat} {c : Cv} (hv : validB c = true) (ha : RS R 1 encI fa c.vals) {b1 : Nat} (h1 : R b1 = some [.slice fa c.vals.length fc, .int .i64 c.per, .int .i64 c.inc]) {t : Nat} (ht : t ≤ 1000000) : FnV Try.prog 67 [.int .i64 (t : Int), .pointer (some ⟨b1, 0, none⟩)] R (.int .i64 (cvF c t)) := by
 refine Fn.toV (fun w0 E => ?_)
 refine Fn.enter (n := 7) Try.func67 rfl rfl (Nat.le_of_ble_eq_true rfl) rfl ?_
 refine W.seq (W.region _ (WG.run tab_ok 1 rfl (WG.nil (WE.nxt (W.seq (W.region _ ?_))))))
 refine' WG.y rfl rfl qD (Yl.load1 tab_ok rfl rfl rfl (fun _ => rfl) ?r1 rfl ?h1) ?_
 case r1 => (exact Rd.ro qU)
 case h1 => rfl
 refine WG.run tab_ok 1 rfl ?_
 refine WG.callV en68 rfl rfl qD (CallOp.mk' rfl rfl rfl rfl) (fun _ => rfl) (fun hg => WAtG_V hv ha qO) ?_
 refine WG.run tab_ok 1 rfl (WG.nil (WE.nxt (W.ret ?_)))
 refine WE.subE (E' := E) qS ?_
 refine WE.retF tab_ok [_] rfl ⟨rfl, trivial⟩ (RLe.refl _) ?_
 exact ⟨rfl, rfl⟩

theorem CNormalG_C {R : Ro} {fa : Option Addr} {fc : Nat} {c : Cv} (ha : RS R 1 encI fa c.vals) (hl : c.vals.length ≤ 100000) (w0 : World) (E : List Ent) : K.Fn Try.prog 32 [.agg #[.slice fa c.vals.length fc, .int .i64 c.per, .int .i64 c.inc]] w0 R E (fun r R' E' => ∃ (f : Option Addr) (fc : Nat), r = cvV f fc (normC c) ∧ RS R' 1 encI f (normC c).1.vals ∧ E.Sublist E') := by
 refine Fn.enter (n := 22) Try.func32 rfl rfl (Nat.le_of_ble_eq_true rfl) rfl ?_
 refine W.seq (W.region _ ?_)
 refine WL.ef rfl rfl qD (Ef.box rfl rfl (fun b1 => ?_))
 refine WL.ef rfl rfl qD (Ef.alloc tab_ok rfl rfl (fun b2 => ?_))
 refine WG.run tab_ok 1 rfl (WG.nil (WE.nxt (W.seq (W.seq (W.region _ ?_)))))
 refine' WG.y rfl rfl qD (Yl.load1 tab_ok rfl rfl rfl (fun _ => rfl) ?r1 rfl ?h1) ?_
 case r1 => (exact Rd.blk 1 rfl)
 case h1 => rfl
 refine WG.callV en48 rfl rfl qD (CallOp.mk' rfl rfl rfl rfl) (fun _ => rfl) (fun hg => CValidG_V ha hl) ?_
 refine WG.run tab_ok 1 rfl (WG.nil (WE.nxt ?_))
 refine W.cond rfl (fun hc0 => ?_) (fun hc0 => ?_)
 ·try simp only [kk] at hc0
  have hn : normC c = (zcv, 1) := if_neg (by simp [hc0])
  refine W.seq (W.region _ ?_)
  -- build
  refine WG.y rfl rfl qD (Yl.build (parts := []) tab_ok rfl rfl rfl rfl (fun _ => rfl) rfl rfl) ?_
  refine WL.efN rfl rfl (Ef.store0 0 tab_ok rfl rfl rfl rfl rfl rfl rfl rfl ?_)
  refine WG.run tab_ok 1 rfl (WG.nil (WE.nxt (W.ret (WE.then_ret ?_))))
  refine WE.retF tab_ok [_, _] rfl ⟨⟨_, _, _, rfl, rfl, rfl, ((by first | exact Rd.blk 0 rfl | exact Rd.blk 1 rfl | exact Rd.blk 2 rfl | exact Rd.blk 3 rfl)), rfl⟩, rfl, trivial⟩ ((by first | exact hR1.trans (hR2.trans hR4) | exact RLe.refl _)) ?_
  exact ⟨none, 0, by rw [hn]; rfl, by rw [hn]; exact rs_nil, qS⟩
 ·try simp only [kk] at hc0
  have hv : validB c = true := by simpa using hc0
  have hn : normC c = (normR c, 0) := if_pos hv
  obtain ⟨hr1, hr2, hr3, hr4, hr5, hr6, hr7, hr8⟩ := valid_range hv
  have hst := stN_lt hv
  refine W.skip (WE.nxt (W.seq (W.region _ (WG.run tab_ok 1 rfl ?_))))
  refine' WG.y rfl rfl qD (Yl.load1 tab_ok rfl rfl rfl (fun _ => rfl) ?r2 rfl ?h2) ?_
  case r2 => apply Rd.add; (exact Rd.blk 1 rfl)
  case h2 => rfl
  refine WL.call en66 rfl rfl qD (CallOp.mkT rfl rfl rfl rfl) (CloneI_C ha qO qO w0 _) ?_
  rintro _ _ E2 - ⟨a2, c2, rfl, rfl, hsub⟩
  refine WL.subE hsub ?_
  refine WG.run tab_ok 1 rfl ?_
  refine WL.efN rfl rfl (Ef.store 2 tab_ok rfl rfl rfl rfl rfl rfl rfl rfl ?_)
  refine WG.nil (WE.nxt ?_)
  refine W.freeze (enc := encI) (xs := c.vals) 0 rfl ?_
  intro R1 hR1 ha1
  refine W.freezeBlk 1 rfl ?_
  intro R2 hR2 hb1
  have ha2 := ha1.mono hR2
  have hperI : ((c.per.toNat : Nat) : Int) = c.per := by omega
  have hF : ∀ t : Nat, t < stN c + c.per.toNat → FnV Try.prog 67 ((#[] : Array Value).toList ++ [.int .i64 (t : Int)] ++ (#[.pointer (some ⟨b1, 0, none⟩)] : Array Value).toList) R2 (.int .i64 (cvF c t)) := fun t ht => NormG_V hv ha2 hb1 (by omega)
  refine W.seq ?_
  refine W.regionH _ (ES := []) mixed ?_
  refine WA.take 0 rfl qK qK qK rfl rfl qD (Yl.makeFunc (fi := []) (ca := [.tmp 1]) rfl rfl rfl (fun _ => rfl)) qS qR ?_
  refine' WA.take 1 rfl qK qK qK rfl rfl qD (Yl.load1 tab_ok rfl rfl rfl (fun _ => rfl) ?r3 rfl ?h3) qS qR ?_
  case r3 => (exact Rd.ro qU)
  case h3 => rfl
  refine WA.take 3 rfl qK qK qK rfl rfl qD (pureV_ok tab_ok rfl (fun _ => rfl)) qS qR ?_
  refine' WA.take 4 rfl qK qK qK rfl rfl qD (Yl.load1 tab_ok rfl rfl rfl (fun _ => rfl) ?r4 rfl ?h4) qS qR ?_
  case r4 => apply Rd.add; (exact Rd.ro qU)
  case h4 => rfl
  refine WA.take 5 rfl qK qK qK rfl rfl qD (pureV_ok tab_ok rfl (fun _ => rfl)) qS qR ?_
  refine' WA.take 6 rfl qK qK qK rfl rfl qD (Yl.load1 tab_ok rfl rfl rfl (fun _ => rfl) ?r5 rfl ?h5) qS qR ?_
  case r5 => apply Rd.add; (exact Rd.ro qU)
  case h5 => rfl
  refine WA.callG 2 rfl qK en35 rfl (by first | rfl | decide) rfl qD (CallOp.mkT rfl rfl rfl rfl) ((WStartG_V hv ha2).toFn) ?_
  rintro _ _ _ - ⟨rfl, rfl, rfl⟩
  refine ⟨by first | exact RLe.refl _ | assumption, qS, ?_⟩
  refine WA.callG 7 rfl qK en40 rfl (by first | rfl | decide) rfl qD (CallOp.mkT rfl rfl rfl rfl) (hperI ▸ Build_C (S := stN c) (P := c.per.toNat) (F := cvF c) en67 qO qO qO (fun t ht => (cvF_bound hv t).2.imp id (fun h => ⟨(cvF_bound hv t).1, by omega⟩)) hF w0 _) ?_
  rintro _ R4 E4 hR4 ⟨f, fc', rfl, hff, hsub⟩
  refine ⟨hR4, List.nil_sublist _, ?_⟩
  refine WA.subE hsub ?_
  rw [norm_build hv] at hff ⊢
  unfold cvV
  refine WA.take 8 rfl qK qK qK rfl rfl qD (pureV_ok tab_ok rfl (fun _ => rfl)) qS qR ?_
  refine WA.take 9 rfl qK qK qK rfl rfl qD (pureV_ok tab_ok rfl (fun _ => rfl)) qS qR ?_
  refine WA.effN 10 rfl qK rfl rfl (Ef.store0 0 tab_ok rfl rfl rfl rfl rfl rfl rfl rfl ?_)
  refine ⟨by first | exact RLe.refl _ | assumption, qS, ?_⟩
  refine WA.take 11 rfl qK qK qK rfl rfl qD (pureV_ok tab_ok rfl (fun _ => rfl)) qS qR ?_
  refine WA.done qK ?_
  refine WE.nxt (W.ret ?_)
  refine WE.retF tab_ok [_, _] rfl ⟨⟨_, _, _, rfl, rfl, rfl, ((by first | exact Rd.blk 0 rfl | exact Rd.blk 1 rfl | exact Rd.blk 2 rfl | exact Rd.blk 3 rfl)), rfl⟩, rfl, trivial⟩ ((by first | exact hR1.trans (hR2.trans hR4) | exact RLe.refl _)) ?_
  exact ⟨f, fc', by rw [hn]; rfl, by rw [hn]; exact hff, qS⟩

theorem CNormalV_C {R : Ro} {fa : Option Addr} {fc : Nat} {c : Cv} (hv : validB c = true) (ha : RS R 1 encI fa c.vals) (w0 : World) (E : List Ent) : K.Fn Try.prog 32 [.agg #[.slice fa c.vals.length fc, .int .i64 c.per, .int .i64 c.inc]] w0 R E (fun r R' E' => ∃ (f : Option Addr) (fc : Nat), r = cvV f fc (normR c, 0) ∧ RS R' 1 encI f ((normR c, (0 : Int))).1.vals ∧ E.Sublist E') := by
 have h := CNormalG_C (fc := fc) ha (by have := valid_range hv; omega) w0 E
 rw [show normC c = (normR c, 0) from if_pos hv] at h
 exact h

end Go.Proofs.Ytnackbfnmhkodaa

/- Sums of curves. No condition. -/
set_option maxRecDepth 4000
set_option linter.unusedSimpArgs false
set_option linter.unusedVariables false
namespace Go.Proofs.Ytnackbfnmhkodaa
open Go Go.RowKit Go.Proofs.Ytnackbfnmhkodaa.K Go.Proofs.Ytnackbfnmhkodaa.M

theorem PBoth_lim {R : Ro} {fa : Option Addr} {fc : Nat} {cf : Cv} (hvf : validB cf = true) (ha : RS R 1 encI fa cf.vals) {ga : Option Addr} {gc : Nat} {cg : Cv} (hvg : validB cg = true) (hb : RS R 1 encI ga cg.vals) (hl : 120 < lcmC (normR cf) (normR cg)) (w0 : World) (E : List Ent) : K.Fn Try.prog 102 [.agg #[.slice fa cf.vals.length fc, .int .i64 cf.per, .int .i64 cf.inc], .agg #[.slice ga cg.vals.length gc, .int .i64 cg.per, .int .i64 cg.inc]] w0 R E (fun v R' E' => v = .tuple #[.agg #[.slice none 0 0, .int .i64 0, .int .i64 0], .agg #[.slice none 0 0, .int .i64 0, .int .i64 0], .int .i64 0, .int .i64 3] ∧ E.Sublist E') := by
 have hnf := norm_nrm hvf
 have hng := norm_nrm hvg
 obtain ⟨_, f1, f2, f3, f4, f5, f6, f7⟩ := valid_range hnf.valid
 obtain ⟨_, g1, g2, g3, g4, g5, g6, g7⟩ := valid_range hng.valid
 obtain ⟨P1, hP1⟩ := Int.eq_ofNat_of_zero_le (show 0 ≤ (normR cf).per by omega)
 obtain ⟨P2, hP2⟩ := Int.eq_ofNat_of_zero_le (show 0 ≤ (normR cg).per by omega)
 have hlc : lcmC (normR cf) (normR cg) = lcmN P1 P2 := by unfold lcmC; rw [hP1, hP2]; rfl
 have hlb : lcmN P1 P2 ≤ 14400 := Nat.le_trans (lcmN_facts (by omega) (by omega)).2.2.1 (Nat.mul_le_mul (show P1 ≤ 120 by omega) (show P2 ≤ 120 by omega))
 have hlp := (lcmN_facts (a := P1) (b := P2) (by omega) (by omega)).2.2.2
 rw [hlc] at hl
 refine Fn.enter (n := 40) Try.func102 rfl rfl (Nat.le_of_ble_eq_true rfl) rfl ?_
 refine W.seq (W.region _ ?_)
 refine WL.ef rfl rfl qD (Ef.box rfl rfl (fun b2 => ?_))
 refine WL.ef rfl rfl qD (Ef.box rfl rfl (fun b3 => ?_))
 refine WL.ef rfl rfl qD (Ef.alloc tab_ok rfl rfl (fun b4 => ?_))
 refine WL.ef rfl rfl qD (Ef.alloc tab_ok rfl rfl (fun b5 => ?_))
 refine WG.run tab_ok 2 rfl (WG.nil (WE.nxt (W.seq (W.seq (W.region _ ?_)))))
 refine' WG.y rfl rfl qD (Yl.load1 tab_ok rfl rfl rfl (fun _ => rfl) ?r1 rfl ?h1) ?_
 case r1 => (exact Rd.blk 3 rfl)
 case h1 => rfl
 refine WL.call en32 rfl rfl qD (CallOp.mkT rfl rfl rfl rfl) (CNormalV_C hvf ha w0 _) ?_
 rintro _ R1 _ hR1 ⟨fa1x, ca1x, rfl, ha1x, hsub⟩
 refine WL.subE hsub ?_
 unfold cvV
 dsimp only at ha1x ⊢
 have hb := hb.mono hR1
 refine WG.run tab_ok 3 rfl ?_
 refine WL.efN rfl rfl (Ef.store0 1 tab_ok rfl rfl rfl rfl rfl rfl rfl rfl ?_)
 refine WG.run tab_ok 1 rfl (WG.nil (WE.nxt (W.seq (W.region _ (WG.run tab_ok 2 rfl (WG.nil (WE.nxt ?_)))))))
 refine W.condN rfl (fun hc0 => ?_) (fun hc0 => ?_)
 ·try dsimp only at hc0
  exact absurd rfl hc0
 ·try dsimp only at hc0
  refine W.skip (WE.nxt (W.seq (W.seq (W.region _ ?_))))
  refine' WG.y rfl rfl qD (Yl.load1 tab_ok rfl rfl rfl (fun _ => rfl) ?r2 rfl ?h2) ?_
  case r2 => (exact Rd.blk 2 rfl)
  case h2 => rfl
  refine WL.call en32 rfl rfl qD (CallOp.mkT rfl rfl rfl rfl) (CNormalV_C hvg hb w0 _) ?_
  rintro _ R2 _ hR2 ⟨fa2x, ca2x, rfl, ha2x, hsub⟩
  refine WL.subE hsub ?_
  unfold cvV
  dsimp only at ha2x ⊢
  have ha1x := ha1x.mono hR2
  refine WG.run tab_ok 3 rfl ?_
  refine WL.efN rfl rfl (Ef.store0 0 tab_ok rfl rfl rfl rfl rfl rfl rfl rfl ?_)
  refine WG.run tab_ok 1 rfl (WG.nil (WE.nxt (W.seq (W.region _ (WG.run tab_ok 2 rfl (WG.nil (WE.nxt ?_)))))))
  refine W.condN rfl (fun hc1 => ?_) (fun hc1 => ?_)
  ·try dsimp only at hc1
   exact absurd rfl hc1
  ·try dsimp only at hc1
   refine W.skip (WE.nxt (W.seq (W.seq (W.region _ (WG.run tab_ok 1 rfl ?_)))))
   refine' WG.y rfl rfl qD (Yl.load1 tab_ok rfl rfl rfl (fun _ => rfl) ?r3 rfl ?h3) ?_
   case r3 => apply Rd.add; (exact Rd.blk 1 rfl)
   case h3 => rfl
   refine WG.run tab_ok 1 rfl ?_
   refine' WG.y rfl rfl qD (Yl.load1 tab_ok rfl rfl rfl (fun _ => rfl) ?r4 rfl ?h4) ?_
   case r4 => apply Rd.add; (exact Rd.blk 0 rfl)
   case h4 => rfl
   refine WG.callV (v := .int .i64 (lcmN P1 P2 : Int)) en33 rfl rfl (by decide) (CallOp.mk' rfl rfl rfl rfl) (fun _ => rfl) (fun hg => by rw [hP1, hP2]; exact Common_V (by omega) (by omega)) ?_
   refine WG.run tab_ok 1 rfl (WG.nil (WE.nxt (W.seq (W.region _ (WG.run tab_ok 2 rfl (WG.nil (WE.nxt ?_)))))))
   refine W.condD rfl (fun hc2 => ?_) (fun hc2 => ?_)
   ·try dsimp only at hc2
    refine W.seq (W.region _ ?_)
    -- build
    refine WG.y rfl rfl qD (Yl.build (parts := []) tab_ok rfl rfl rfl rfl (fun _ => rfl) rfl rfl) ?_
    -- build
    refine WG.y rfl rfl qD (Yl.build (parts := []) tab_ok rfl rfl rfl rfl (fun _ => rfl) rfl rfl) ?_
    refine WL.efN rfl rfl (Ef.store0 1 tab_ok rfl rfl rfl rfl rfl rfl rfl rfl ?_)
    refine WL.efN rfl rfl (Ef.store0 0 tab_ok rfl rfl rfl rfl rfl rfl rfl rfl ?_)
    refine WG.run tab_ok 2 rfl (WG.nil (WE.nxt (W.ret (WE.then_ret ?_))))
    refine WE.retF tab_ok [_, _, _, _] rfl ⟨⟨_, _, _, rfl, rfl, rfl, ((by first | exact Rd.blk 0 rfl | exact Rd.blk 1 rfl | exact Rd.blk 2 rfl | exact Rd.blk 3 rfl | exact Rd.blk 4 rfl | exact Rd.blk 5 rfl)), rfl⟩, ⟨_, _, _, rfl, rfl, rfl, ((by first | exact Rd.blk 0 rfl | exact Rd.blk 1 rfl | exact Rd.blk 2 rfl | exact Rd.blk 3 rfl | exact Rd.blk 4 rfl | exact Rd.blk 5 rfl)), rfl⟩, rfl, rfl, trivial⟩ (hR1.trans hR2) ?_
    exact ⟨rfl, qS⟩
   ·try dsimp only at hc2
    omega

theorem PBoth_ok {R : Ro} {fa : Option Addr} {fc : Nat} {cf : Cv} (hvf : validB cf = true) (ha : RS R 1 encI fa cf.vals) {ga : Option Addr} {gc : Nat} {cg : Cv} (hvg : validB cg = true) (hb : RS R 1 encI ga cg.vals) (hl : lcmC (normR cf) (normR cg) ≤ 120) (w0 : World) (E : List Ent) : K.Fn Try.prog 102 [.agg #[.slice fa cf.vals.length fc, .int .i64 cf.per, .int .i64 cf.inc], .agg #[.slice ga cg.vals.length gc, .int .i64 cg.per, .int .i64 cg.inc]] w0 R E (fun v R' E' => ∃ (a1 a2 : Option Addr) (c1 c2 : Nat), v = .tuple #[.agg #[.slice a1 (normR cf).vals.length c1, .int .i64 (normR cf).per, .int .i64 (normR cf).inc], .agg #[.slice a2 (normR cg).vals.length c2, .int .i64 (normR cg).per, .int .i64 (normR cg).inc], .int .i64 (lcmC (normR cf) (normR cg) : Int), .int .i64 0] ∧ RS R' 1 encI a1 (normR cf).vals ∧ RS R' 1 encI a2 (normR cg).vals ∧ E.Sublist E') := by
 have hnf := norm_nrm hvf
 have hng := norm_nrm hvg
 obtain ⟨_, f1, f2, f3, f4, f5, f6, f7⟩ := valid_range hnf.valid
 obtain ⟨_, g1, g2, g3, g4, g5, g6, g7⟩ := valid_range hng.valid
 obtain ⟨P1, hP1⟩ := Int.eq_ofNat_of_zero_le (show 0 ≤ (normR cf).per by omega)
 obtain ⟨P2, hP2⟩ := Int.eq_ofNat_of_zero_le (show 0 ≤ (normR cg).per by omega)
 have hlc : lcmC (normR cf) (normR cg) = lcmN P1 P2 := by unfold lcmC; rw [hP1, hP2]; rfl
 have hlb : lcmN P1 P2 ≤ 14400 := Nat.le_trans (lcmN_facts (by omega) (by omega)).2.2.1 (Nat.mul_le_mul (show P1 ≤ 120 by omega) (show P2 ≤ 120 by omega))
 have hlp := (lcmN_facts (a := P1) (b := P2) (by omega) (by omega)).2.2.2
 rw [hlc] at hl
 rw [hlc]
 refine Fn.enter (n := 40) Try.func102 rfl rfl (Nat.le_of_ble_eq_true rfl) rfl ?_
 refine W.seq (W.region _ ?_)
 refine WL.ef rfl rfl qD (Ef.box rfl rfl (fun b2 => ?_))
 refine WL.ef rfl rfl qD (Ef.box rfl rfl (fun b3 => ?_))
 refine WL.ef rfl rfl qD (Ef.alloc tab_ok rfl rfl (fun b4 => ?_))
 refine WL.ef rfl rfl qD (Ef.alloc tab_ok rfl rfl (fun b5 => ?_))
 refine WG.run tab_ok 2 rfl (WG.nil (WE.nxt (W.seq (W.seq (W.region _ ?_)))))
 refine' WG.y rfl rfl qD (Yl.load1 tab_ok rfl rfl rfl (fun _ => rfl) ?r1 rfl ?h1) ?_
 case r1 => (exact Rd.blk 3 rfl)
 case h1 => rfl
 refine WL.call en32 rfl rfl qD (CallOp.mkT rfl rfl rfl rfl) (CNormalV_C hvf ha w0 _) ?_
 rintro _ R1 _ hR1 ⟨fa1x, ca1x, rfl, ha1x, hsub⟩
 refine WL.subE hsub ?_
 unfold cvV
 dsimp only at ha1x ⊢
 have hb := hb.mono hR1
 refine WG.run tab_ok 3 rfl ?_
 refine WL.efN rfl rfl (Ef.store0 1 tab_ok rfl rfl rfl rfl rfl rfl rfl rfl ?_)
 refine WG.run tab_ok 1 rfl (WG.nil (WE.nxt (W.seq (W.region _ (WG.run tab_ok 2 rfl (WG.nil (WE.nxt ?_)))))))
 refine W.condN rfl (fun hc0 => ?_) (fun hc0 => ?_)
 ·try dsimp only at hc0
  exact absurd rfl hc0
 ·try dsimp only at hc0
  refine W.skip (WE.nxt (W.seq (W.seq (W.region _ ?_))))
  refine' WG.y rfl rfl qD (Yl.load1 tab_ok rfl rfl rfl (fun _ => rfl) ?r2 rfl ?h2) ?_
  case r2 => (exact Rd.blk 2 rfl)
  case h2 => rfl
  refine WL.call en32 rfl rfl qD (CallOp.mkT rfl rfl rfl rfl) (CNormalV_C hvg hb w0 _) ?_
  rintro _ R2 _ hR2 ⟨fa2x, ca2x, rfl, ha2x, hsub⟩
  refine WL.subE hsub ?_
  unfold cvV
  dsimp only at ha2x ⊢
  have ha1x := ha1x.mono hR2
  refine WG.run tab_ok 3 rfl ?_
  refine WL.efN rfl rfl (Ef.store0 0 tab_ok rfl rfl rfl rfl rfl rfl rfl rfl ?_)
  refine WG.run tab_ok 1 rfl (WG.nil (WE.nxt (W.seq (W.region _ (WG.run tab_ok 2 rfl (WG.nil (WE.nxt ?_)))))))
  refine W.condN rfl (fun hc1 => ?_) (fun hc1 => ?_)
  ·try dsimp only at hc1
   exact absurd rfl hc1
  ·try dsimp only at hc1
   refine W.skip (WE.nxt (W.seq (W.seq (W.region _ (WG.run tab_ok 1 rfl ?_)))))
   refine' WG.y rfl rfl qD (Yl.load1 tab_ok rfl rfl rfl (fun _ => rfl) ?r3 rfl ?h3) ?_
   case r3 => apply Rd.add; (exact Rd.blk 1 rfl)
   case h3 => rfl
   refine WG.run tab_ok 1 rfl ?_
   refine' WG.y rfl rfl qD (Yl.load1 tab_ok rfl rfl rfl (fun _ => rfl) ?r4 rfl ?h4) ?_
   case r4 => apply Rd.add; (exact Rd.blk 0 rfl)
   case h4 => rfl
   refine WG.callV (v := .int .i64 (lcmN P1 P2 : Int)) en33 rfl rfl (by decide) (CallOp.mk' rfl rfl rfl rfl) (fun _ => rfl) (fun hg => by rw [hP1, hP2]; exact Common_V (by omega) (by omega)) ?_
   refine WG.run tab_ok 1 rfl (WG.nil (WE.nxt (W.seq (W.region _ (WG.run tab_ok 2 rfl (WG.nil (WE.nxt ?_)))))))
   refine W.condD rfl (fun hc2 => ?_) (fun hc2 => ?_)
   ·try dsimp only at hc2
    omega
   ·try dsimp only at hc2
    refine W.skip (WE.nxt (W.seq ?_))
    refine W.regionH _ (ES := []) mixed ?_
    refine WA.take 2 rfl qK qK qK rfl rfl qD (pureV_ok tab_ok rfl (fun _ => rfl)) qS qR ?_
    refine WA.br2 (i := 0) (j := 1) qK ?_ ?_
    ·
     refine' WS.yl rfl rfl rfl qD (Yl.load1 tab_ok rfl rfl rfl (fun _ => rfl) ?r5 rfl ?h5) qS qR ?_
     case r5 => (exact Rd.blk 1 rfl)
     case h5 => rfl
     refine WA.br2 (i := 1) (j := 3) qK ?_ ?_
     ·
      refine' WS.yl rfl rfl rfl qD (Yl.load1 tab_ok rfl rfl rfl (fun _ => rfl) ?r6 rfl ?h6) qS qR ?_
      case r6 => (exact Rd.blk 0 rfl)
      case h6 => rfl
      refine WA.effN 3 rfl qK rfl rfl (Ef.store0 1 tab_ok rfl rfl rfl rfl rfl rfl rfl rfl ?_)
      refine ⟨by first | exact RLe.refl _ | assumption, qS, ?_⟩
      refine WA.effN 4 rfl qK rfl rfl (Ef.store0 0 tab_ok rfl rfl rfl rfl rfl rfl rfl rfl ?_)
      refine ⟨by first | exact RLe.refl _ | assumption, qS, ?_⟩
      refine WA.take 5 rfl qK qK qK rfl rfl qD (pureV_ok tab_ok rfl (fun _ => rfl)) qS qR ?_
      refine WA.take 6 rfl qK qK qK rfl rfl qD (pureV_ok tab_ok rfl (fun _ => rfl)) qS qR ?_
      refine WA.done qK ?_
      refine WE.nxt (W.ret ?_)
      refine WE.retF tab_ok [_, _, _, _] rfl ⟨⟨_, _, _, rfl, rfl, rfl, ((by first | exact Rd.blk 0 rfl | exact Rd.blk 1 rfl | exact Rd.blk 2 rfl | exact Rd.blk 3 rfl | exact Rd.blk 4 rfl | exact Rd.blk 5 rfl)), rfl⟩, ⟨_, _, _, rfl, rfl, rfl, ((by first | exact Rd.blk 0 rfl | exact Rd.blk 1 rfl | exact Rd.blk 2 rfl | exact Rd.blk 3 rfl | exact Rd.blk 4 rfl | exact Rd.blk 5 rfl)), rfl⟩, rfl, rfl, trivial⟩ (hR1.trans hR2) ?_
      exact ⟨_, _, _, _, rfl, ha1x, ha2x, qS⟩
     ·
      refine WS.effN rfl rfl rfl (Ef.store0 1 tab_ok rfl rfl rfl rfl rfl rfl rfl rfl ?_)
      refine ⟨by first | exact RLe.refl _ | assumption, qS, ?_⟩
      refine' WA.yl 1 rfl qK rfl rfl qD (Yl.load1 tab_ok rfl rfl rfl (fun _ => rfl) ?r7 rfl ?h7) qS qR ?_
      case r7 => (exact Rd.blk 0 rfl)
      case h7 => rfl
      refine WA.effN 4 rfl qK rfl rfl (Ef.store0 0 tab_ok rfl rfl rfl rfl rfl rfl rfl rfl ?_)
      refine ⟨by first | exact RLe.refl _ | assumption, qS, ?_⟩
      refine WA.take 5 rfl qK qK qK rfl rfl qD (pureV_ok tab_ok rfl (fun _ => rfl)) qS qR ?_
      refine WA.take 6 rfl qK qK qK rfl rfl qD (pureV_ok tab_ok rfl (fun _ => rfl)) qS qR ?_
      refine WA.done qK ?_
      refine WE.nxt (W.ret ?_)
      refine WE.retF tab_ok [_, _, _, _] rfl ⟨⟨_, _, _, rfl, rfl, rfl, ((by first | exact Rd.blk 0 rfl | exact Rd.blk 1 rfl | exact Rd.blk 2 rfl | exact Rd.blk 3 rfl | exact Rd.blk 4 rfl | exact Rd.blk 5 rfl)), rfl⟩, ⟨_, _, _, rfl, rfl, rfl, ((by first | exact Rd.blk 0 rfl | exact Rd.blk 1 rfl | exact Rd.blk 2 rfl | exact Rd.blk 3 rfl | exact Rd.blk 4 rfl | exact Rd.blk 5 rfl)), rfl⟩, rfl, rfl, trivial⟩ (hR1.trans hR2) ?_
      exact ⟨_, _, _, _, rfl, ha1x, ha2x, qS⟩
    ·
     refine' WS.yl rfl rfl rfl qD (Yl.load1 tab_ok rfl rfl rfl (fun _ => rfl) ?r8 rfl ?h8) qS qR ?_
     case r8 => (exact Rd.blk 0 rfl)
     case h8 => rfl
     refine' WA.yl 0 rfl qK rfl rfl qD (Yl.load1 tab_ok rfl rfl rfl (fun _ => rfl) ?r9 rfl ?h9) qS qR ?_
     case r9 => (exact Rd.blk 1 rfl)
     case h9 => rfl
     refine WA.effN 3 rfl qK rfl rfl (Ef.store0 1 tab_ok rfl rfl rfl rfl rfl rfl rfl rfl ?_)
     refine ⟨by first | exact RLe.refl _ | assumption, qS, ?_⟩
     refine WA.effN 4 rfl qK rfl rfl (Ef.store0 0 tab_ok rfl rfl rfl rfl rfl rfl rfl rfl ?_)
     refine ⟨by first | exact RLe.refl _ | assumption, qS, ?_⟩
     refine WA.take 5 rfl qK qK qK rfl rfl qD (pureV_ok tab_ok rfl (fun _ => rfl)) qS qR ?_
     refine WA.take 6 rfl qK qK qK rfl rfl qD (pureV_ok tab_ok rfl (fun _ => rfl)) qS qR ?_
     refine WA.done qK ?_
     refine WE.nxt (W.ret ?_)
     refine WE.retF tab_ok [_, _, _, _] rfl ⟨⟨_, _, _, rfl, rfl, rfl, ((by first | exact Rd.blk 0 rfl | exact Rd.blk 1 rfl | exact Rd.blk 2 rfl | exact Rd.blk 3 rfl | exact Rd.blk 4 rfl | exact Rd.blk 5 rfl)), rfl⟩, ⟨_, _, _, rfl, rfl, rfl, ((by first | exact Rd.blk 0 rfl | exact Rd.blk 1 rfl | exact Rd.blk 2 rfl | exact Rd.blk 3 rfl | exact Rd.blk 4 rfl | exact Rd.blk 5 rfl)), rfl⟩, rfl, rfl, trivial⟩ (hR1.trans hR2) ?_
     exact ⟨_, _, _, _, rfl, ha1x, ha2x, qS⟩

theorem PBoth_C {R : Ro} {fa : Option Addr} {fc : Nat} {cf : Cv} (hvf : validB cf = true) (ha : RS R 1 encI fa cf.vals) {ga : Option Addr} {gc : Nat} {cg : Cv} (hvg : validB cg = true) (hb : RS R 1 encI ga cg.vals) (w0 : World) (E : List Ent) : K.Fn Try.prog 102 [.agg #[.slice fa cf.vals.length fc, .int .i64 cf.per, .int .i64 cf.inc], .agg #[.slice ga cg.vals.length gc, .int .i64 cg.per, .int .i64 cg.inc]] w0 R E (fun v R' E' => ∃ (a1 a2 : Option Addr) (c1 c2 : Nat) (x y : Cv) (l e : Int), v = .tuple #[.agg #[.slice a1 x.vals.length c1, .int .i64 x.per, .int .i64 x.inc], .agg #[.slice a2 y.vals.length c2, .int .i64 y.per, .int .i64 y.inc], .int .i64 l, .int .i64 e] ∧ RS R' 1 encI a1 x.vals ∧ RS R' 1 encI a2 y.vals ∧ ((120 < lcmC (normR cf) (normR cg) ∧ e = 3) ∨ (lcmC (normR cf) (normR cg) ≤ 120 ∧ x = normR cf ∧ y = normR cg ∧ l = (lcmC (normR cf) (normR cg) : Int) ∧ e = 0)) ∧ E.Sublist E') := by
 rcases Nat.lt_or_ge 120 (lcmC (normR cf) (normR cg)) with hl | hl
 ·refine (PBoth_lim hvf ha hvg hb hl w0 E).mono ?_
  rintro v R' E' hR ⟨rfl, hsub⟩
  exact ⟨none, none, 0, 0, zcv, zcv, 0, 3, rfl, rs_nil, rs_nil, .inl ⟨hl, rfl⟩, hsub⟩
 ·refine (PBoth_ok hvf ha hvg hb hl w0 E).mono ?_
  rintro v R' E' hR ⟨a1, a2, c1, c2, rfl, h1, h2, hsub⟩
  exact ⟨a1, a2, c1, c2, _, _, _, 0, rfl, h1, h2, .inr ⟨hl, rfl, rfl, rfl, rfl⟩, hsub⟩

theorem SumF_V {R : Ro} {fa : Option Addr} {fc : Nat} {cf : Cv} (hvf : validB cf = true) (ha : RS R 1 encI fa cf.vals) {ga : Option Addr} {gc : Nat} {cg : Cv} (hvg : validB cg = true) (hb : RS R 1 encI ga cg.vals) {b6 b7 : Nat} (h6 : R b6 = some [.slice fa cf.vals.length fc, .int .i64 cf.per, .int .i64 cf.inc]) (h7 : R b7 = some [.slice ga cg.vals.length gc, .int .i64 cg.per, .int .i64 cg.inc]) {t : Nat} (ht : t ≤ 1000000) : FnV Try.prog 103 [.int .i64 (t : Int), .pointer (some ⟨b6, 0, none⟩), .pointer (some ⟨b7, 0, none⟩)] R (.int .i64 (plusF cf cg t)) := by
 refine Fn.toV (fun w0 E => ?_)
 have hbf := cvF_bound hvf t
 have hbg := cvF_bound hvg t
 have i1 := isInf_iff hvf (t := t) (by omega)
 have i2 := isInf_iff hvg (t := t) (by omega)
 have hpl : plusF cf cg t = if cvF cf t = 4611686018427387904 ∨ cvF cg t = 4611686018427387904 then 4611686018427387904 else cvF cf t + cvF cg t := by
  unfold plusF
  by_cases h : isInf cf t ∨ isInf cg t
  ·rw [if_pos h]; exact (if_pos (h.imp i1.1 i2.1)).symm
  ·rw [if_neg h]; exact (if_neg (fun hh => h (hh.imp i1.2 i2.2))).symm
 unfold INF at hbf hbg
 refine Fn.enter (n := 12) Try.func103 rfl rfl (Nat.le_of_ble_eq_true rfl) rfl ?_
 refine W.seq (W.region _ (WG.run tab_ok 1 rfl (WG.nil (WE.nxt (W.seq ?_)))))
 refine W.regionQ _ mixed qK ?_
 refine' WG.y rfl rfl qD (Yl.load1 tab_ok rfl rfl rfl (fun _ => rfl) ?r1 rfl ?h1) ?_
 case r1 => exact Rd.ro h6
 case h1 => rfl
 refine WG.run tab_ok 1 rfl ?_
 refine WG.callV en68 rfl rfl qD (CallOp.mk' rfl rfl rfl rfl) (fun _ => rfl) (fun hg => WAtG_V hvf ha qO) ?_
 refine' WG.y rfl rfl qD (Yl.load1 tab_ok rfl rfl rfl (fun _ => rfl) ?r2 rfl ?h2) ?_
 case r2 => exact Rd.ro h7
 case h2 => rfl
 refine WG.run tab_ok 1 rfl ?_
 refine WG.callV en68 rfl rfl qD (CallOp.mk' rfl rfl rfl rfl) (fun _ => rfl) (fun hg => WAtG_V hvg hb qO) ?_
 refine WG.callV en91 rfl rfl qD (CallOp.mk' rfl rfl rfl rfl) (fun _ => rfl) (fun hg => WPlus_V qO qO) ?_
 refine WG.run tab_ok 1 rfl (WG.nil (WE.nxt (W.ret ?_)))
 refine WE.subE (E' := E) qS ?_
 refine WE.retF tab_ok [_] rfl ⟨rfl, trivial⟩ (RLe.refl _) ?_
 exact ⟨by rw [hpl]; rfl, rfl⟩

set_option maxHeartbeats 1000000 in
theorem PSum_C {R : Ro} {fa : Option Addr} {fc : Nat} {cf : Cv} (hvf : validB cf = true) (ha : RS R 1 encI fa cf.vals) {ga : Option Addr} {gc : Nat} {cg : Cv} (hvg : validB cg = true) (hb : RS R 1 encI ga cg.vals) (w0 : World) (E : List Ent) : K.Fn Try.prog 88 [.agg #[.slice fa cf.vals.length fc, .int .i64 cf.per, .int .i64 cf.inc], .agg #[.slice ga cg.vals.length gc, .int .i64 cg.per, .int .i64 cg.inc]] w0 R E (fun r R' E' => ∃ (f : Option Addr) (fc : Nat), r = cvV f fc (sumC cf cg) ∧ RS R' 1 encI f (sumC cf cg).1.vals ∧ E.Sublist E') := by
 have hnf := norm_nrm hvf
 have hng := norm_nrm hvg
 obtain ⟨_, f1, f2, f3, f4, f5, f6, f7⟩ := valid_range hnf.valid
 obtain ⟨_, g1, g2, g3, g4, g5, g6, g7⟩ := valid_range hng.valid
 obtain ⟨P1, hP1⟩ := Int.eq_ofNat_of_zero_le (show 0 ≤ (normR cf).per by omega)
 obtain ⟨P2, hP2⟩ := Int.eq_ofNat_of_zero_le (show 0 ≤ (normR cg).per by omega)
 have hlc : lcmC (normR cf) (normR cg) = lcmN P1 P2 := by unfold lcmC; rw [hP1, hP2]; rfl
 have hlb : lcmN P1 P2 ≤ 14400 := Nat.le_trans (lcmN_facts (by omega) (by omega)).2.2.1 (Nat.mul_le_mul (show P1 ≤ 120 by omega) (show P2 ≤ 120 by omega))
 have hlp := (lcmN_facts (a := P1) (b := P2) (by omega) (by omega)).2.2.2
 have hs1 := stN_lt hnf.valid
 have hs2 := stN_lt hng.valid
 refine Fn.enter (n := 41) Try.func88 rfl rfl (Nat.le_of_ble_eq_true rfl) rfl ?_
 refine W.seq (W.region _ ?_)
 refine WL.ef rfl rfl qD (Ef.box rfl rfl (fun b2 => ?_))
 refine WL.ef rfl rfl qD (Ef.box rfl rfl (fun b3 => ?_))
 refine WL.ef rfl rfl qD (Ef.alloc tab_ok rfl rfl (fun b4 => ?_))
 refine WG.run tab_ok 1 rfl (WG.nil (WE.nxt (W.seq (W.region _ ?_))))
 refine' WG.y rfl rfl qD (Yl.load1 tab_ok rfl rfl rfl (fun _ => rfl) ?r1 rfl ?h1) ?_
 case r1 => (exact Rd.blk 2 rfl)
 case h1 => rfl
 refine' WG.y rfl rfl qD (Yl.load1 tab_ok rfl rfl rfl (fun _ => rfl) ?r2 rfl ?h2) ?_
 case r2 => (exact Rd.blk 1 rfl)
 case h2 => rfl
 refine WL.call en102 rfl rfl qD (CallOp.mkT rfl rfl rfl rfl) (PBoth_C hvf ha hvg hb w0 _) ?_
 rintro _ R1 _ hR1 ⟨a1, a2, c1, c2, x, y, l, e, rfl, hx1, hx2, hcase, hsub⟩
 refine WL.subE hsub ?_
 refine WG.run tab_ok 5 rfl ?_
 refine WL.ef rfl rfl qD (Ef.alloc tab_ok rfl rfl (fun b6 => ?_))
 refine WL.ef rfl rfl qD (Ef.alloc tab_ok rfl rfl (fun b7 => ?_))
 refine WL.efN rfl rfl (Ef.store0 1 tab_ok rfl rfl rfl rfl rfl rfl rfl rfl ?_)
 refine WL.efN rfl rfl (Ef.store0 0 tab_ok rfl rfl rfl rfl rfl rfl rfl rfl ?_)
 refine WG.run tab_ok 2 rfl (WG.nil (WE.nxt (W.seq (W.seq (W.region _ (WG.run tab_ok 2 rfl (WG.nil (WE.nxt ?_))))))))
 refine W.condN rfl (fun hc0 => ?_) (fun hc0 => ?_)
 ·try dsimp only at hc0
  obtain ⟨hl, rfl⟩ : 120 < lcmC (normR cf) (normR cg) ∧ e = 3 := by
   rcases hcase with h | h
   ·exact h
   ·exact absurd h.2.2.2.2 (by omega)
  have hd : sumC cf cg = (zcv, 3) := by unfold sumC; rw [if_neg (by rw [hvf, hvg]; simp), if_pos (by omega)]
  refine W.seq (W.region _ ?_)
  -- build
  refine WG.y rfl rfl qD (Yl.build (parts := []) tab_ok rfl rfl rfl rfl (fun _ => rfl) rfl rfl) ?_
  refine WG.run tab_ok 1 rfl ?_
  refine WL.efN rfl rfl (Ef.store0 2 tab_ok rfl rfl rfl rfl rfl rfl rfl rfl ?_)
  refine WG.run tab_ok 1 rfl (WG.nil (WE.nxt (W.ret (WE.then_ret ?_))))
  refine WE.retF tab_ok [_, _] rfl ⟨⟨_, _, _, rfl, rfl, rfl, ((by first | exact Rd.blk 0 rfl | exact Rd.blk 1 rfl | exact Rd.blk 2 rfl | exact Rd.blk 3 rfl | exact Rd.blk 4 rfl | exact Rd.blk 5 rfl)), rfl⟩, rfl, trivial⟩ ((by first | exact hR1 | exact hR1.trans (hR2.trans (hR3.trans hR4)))) ?_
  exact ⟨none, 0, by rw [hd]; rfl, by rw [hd]; exact rs_nil, qS⟩
 ·try dsimp only at hc0
  obtain ⟨hl, rfl, rfl, rfl, rfl⟩ : lcmC (normR cf) (normR cg) ≤ 120 ∧ x = normR cf ∧ y = normR cg ∧ l = (lcmC (normR cf) (normR cg) : Int) ∧ e = 0 := by
   rcases hcase with h | h
   ·exact absurd h.2 (by omega)
   ·exact h
  rw [hlc] at hl ⊢
  have hd : sumC cf cg = mbuild (plusF (normR cf) (normR cg)) (max (stN (normR cf)) (stN (normR cg))) (lcmN P1 P2) (gainC (normR cf) (lcmN P1 P2) + gainC (normR cg) (lcmN P1 P2)) := by unfold sumC; rw [if_neg (by rw [hvf, hvg]; simp), if_neg (by omega), hlc]
  have hga : 0 ≤ gainC (normR cf) (lcmN P1 P2) ∧ gainC (normR cf) (lcmN P1 P2) ≤ 120 * 1073741824 := by
   unfold gainC
   have hd0 : 0 ≤ ((lcmN P1 P2) : Int) / (normR cf).per := Int.ediv_nonneg (by omega) (by omega)
   have hd1 : ((lcmN P1 P2) : Int) / (normR cf).per ≤ (lcmN P1 P2) := Int.ediv_le_self _ (by omega)
   exact mulB qO qO
  have hgb : 0 ≤ gainC (normR cg) (lcmN P1 P2) ∧ gainC (normR cg) (lcmN P1 P2) ≤ 120 * 1073741824 := by
   unfold gainC
   have hd0 : 0 ≤ ((lcmN P1 P2) : Int) / (normR cg).per := Int.ediv_nonneg (by omega) (by omega)
   have hd1 : ((lcmN P1 P2) : Int) / (normR cg).per ≤ (lcmN P1 P2) := Int.ediv_le_self _ (by omega)
   exact mulB qO qO
  have hmx : (if (stN (normR cf) : Int) < (stN (normR cg) : Int) then (stN (normR cg) : Int) else (stN (normR cf) : Int)) = ((max (stN (normR cf)) (stN (normR cg)) : Nat) : Int) := by split <;> omega
  have hpb : ∀ t : Nat, t ≤ 1000 → (plusF (normR cf) (normR cg)) t = INF ∨ (0 ≤ (plusF (normR cf) (normR cg)) t ∧ (plusF (normR cf) (normR cg)) t ≤ 1000000000000000) := fun t ht => by
   unfold plusF
   by_cases h : isInf (normR cf) t ∨ isInf (normR cg) t
   ·rw [if_pos h]; exact .inl rfl
   ·rw [if_neg h]
    have a1 := fin_part hnf.valid (fun x => h (.inl x)) (show t ≤ 1000000000 by omega)
    have a2 := fin_part hng.valid (fun x => h (.inr x)) (show t ≤ 1000000000 by omega)
    right; omega
  refine W.skip (WE.nxt (W.seq (W.region _ (WG.run tab_ok 2 rfl (WG.nil (WE.nxt ?_))))))
  refine W.freezeBlk 0 rfl ?_
  intro R2 hR2 h7
  refine W.freezeBlk 0 rfl ?_
  intro R3 hR3 h6
  have h7 := hR3 _ _ h7
  have hx1 := hx1.mono (hR2.trans hR3)
  have hx2 := hx2.mono (hR2.trans hR3)
  have hF : ∀ t : Nat, t < max (stN (normR cf)) (stN (normR cg)) + (lcmN P1 P2) → FnV Try.prog 103 ((#[] : Array Value).toList ++ [.int .i64 (t : Int)] ++ (#[.pointer (some ⟨b6, 0, none⟩), .pointer (some ⟨b7, 0, none⟩)] : Array Value).toList) R3 (.int .i64 ((plusF (normR cf) (normR cg)) t)) := fun t ht => SumF_V hnf.valid hx1 hng.valid hx2 h6 h7 (by omega)
  refine W.seq ?_
  refine W.regionH _ (ES := []) mixed ?_
  refine WA.take 0 rfl qK qK qK rfl rfl qD (pureV_ok tab_ok rfl (fun _ => rfl)) qS qR ?_
  refine' WA.take 1 rfl qK qK qK rfl rfl qD (Yl.load1 tab_ok rfl rfl rfl (fun _ => rfl) ?r3 rfl ?h3) qS qR ?_
  case r3 => (exact Rd.ro qU)
  case h3 => rfl
  refine' WA.take 3 rfl qK qK qK rfl rfl qD (Yl.load1 tab_ok rfl rfl rfl (fun _ => rfl) ?r4 rfl ?h4) qS qR ?_
  case r4 => (exact Rd.ro qU)
  case h4 => rfl
  refine WA.take 6 rfl qK qK qK rfl rfl qD (pureV_ok tab_ok rfl (fun _ => rfl)) qS qR ?_
  refine' WA.take 7 rfl qK qK qK rfl rfl qD (Yl.load1 tab_ok rfl rfl rfl (fun _ => rfl) ?r5 rfl ?h5) qS qR ?_
  case r5 => (exact Rd.ro qU)
  case h5 => rfl
  refine WA.take 8 rfl qK qK qK rfl rfl qD (pureV_ok tab_ok rfl (fun _ => rfl)) qS qR ?_
  refine' WA.take 10 rfl qK qK qK rfl rfl qD (Yl.load1 tab_ok rfl rfl rfl (fun _ => rfl) ?r6 rfl ?h6) qS qR ?_
  case r6 => (exact Rd.ro qU)
  case h6 => rfl
  refine WA.take 11 rfl qK qK qK rfl rfl qD (pureV_ok tab_ok rfl (fun _ => rfl)) qS qR ?_
  refine WA.callG 2 rfl qK en35 rfl (by first | rfl | decide) rfl qD (CallOp.mkT rfl rfl rfl rfl) ((WStartG_V hnf.valid hx1).toFn) ?_
  rintro _ _ _ - ⟨rfl, rfl, rfl⟩
  refine ⟨by first | exact RLe.refl _ | assumption, qS, ?_⟩
  refine WA.callG 4 rfl qK en35 rfl (by first | rfl | decide) rfl qD (CallOp.mkT rfl rfl rfl rfl) ((WStartG_V hng.valid hx2).toFn) ?_
  rintro _ _ _ - ⟨rfl, rfl, rfl⟩
  refine ⟨by first | exact RLe.refl _ | assumption, qS, ?_⟩
  refine WA.take 5 rfl qK qK qK rfl rfl qD (pureV_ok tab_ok rfl (fun _ => rfl)) qS qR ?_
  refine WA.callG 9 rfl qK en104 rfl (by first | rfl | decide) rfl qD (CallOp.mkT rfl rfl rfl rfl) ((PGainG_V hnf.valid hx1 qO).toFn) ?_
  rintro _ _ _ - ⟨rfl, rfl, rfl⟩
  refine ⟨by first | exact RLe.refl _ | assumption, qS, ?_⟩
  refine WA.callG 12 rfl qK en104 rfl (by first | rfl | decide) rfl qD (CallOp.mkT rfl rfl rfl rfl) ((PGainG_V hng.valid hx2 qO).toFn) ?_
  rintro _ _ _ - ⟨rfl, rfl, rfl⟩
  refine ⟨by first | exact RLe.refl _ | assumption, qS, ?_⟩
  refine WA.take 13 rfl qK qK qK rfl rfl qD (Yl.add rfl rfl rfl (fun _ => rfl) qA) qS qR ?_
  refine WA.callG 14 rfl qK en40 rfl (by first | rfl | decide) rfl qD (CallOp.mkT rfl rfl rfl rfl) (hmx ▸ Build_C (S := max (stN (normR cf)) (stN (normR cg))) (P := (lcmN P1 P2)) (F := (plusF (normR cf) (normR cg))) en103 qO qO qO (fun t ht => hpb t qO) hF w0 _) ?_
  rintro _ R4 E4 hR4 ⟨fr, frc, rfl, hfr, hsub⟩
  refine ⟨hR4, List.nil_sublist _, ?_⟩
  refine WA.subE hsub ?_
  rw [← hd] at hfr ⊢
  unfold cvV
  refine WA.take 15 rfl qK qK qK rfl rfl qD (pureV_ok tab_ok rfl (fun _ => rfl)) qS qR ?_
  refine WA.take 16 rfl qK qK qK rfl rfl qD (pureV_ok tab_ok rfl (fun _ => rfl)) qS qR ?_
  refine WA.effN 17 rfl qK rfl rfl (Ef.store0 0 tab_ok rfl rfl rfl rfl rfl rfl rfl rfl ?_)
  refine ⟨by first | exact RLe.refl _ | assumption, qS, ?_⟩
  refine WA.take 18 rfl qK qK qK rfl rfl qD (pureV_ok tab_ok rfl (fun _ => rfl)) qS qR ?_
  refine WA.done qK ?_
  refine WE.nxt (W.ret ?_)
  refine WE.retF tab_ok [_, _] rfl ⟨⟨_, _, _, rfl, rfl, rfl, ((by first | exact Rd.blk 0 rfl | exact Rd.blk 1 rfl | exact Rd.blk 2 rfl | exact Rd.blk 3 rfl | exact Rd.blk 4 rfl | exact Rd.blk 5 rfl)), rfl⟩, rfl, trivial⟩ ((by first | exact hR1 | exact hR1.trans (hR2.trans (hR3.trans hR4)))) ?_
  exact ⟨fr, frc, rfl, hfr, qS⟩

end Go.Proofs.Ytnackbfnmhkodaa

/- Curves raised, totals. No condition. -/
set_option maxRecDepth 4000
set_option linter.unusedSimpArgs false
set_option linter.unusedVariables false
namespace Go.Proofs.Ytnackbfnmhkodaa
open Go Go.RowKit Go.Proofs.Ytnackbfnmhkodaa.K Go.Proofs.Ytnackbfnmhkodaa.M

theorem POne_C {R : Ro} {fa : Option Addr} {fc : Nat} {cf : Cv} (hvf : validB cf = true) (ha : RS R 1 encI fa cf.vals) {k low high : Int} (hk : low ≤ k ∧ k ≤ high) (w0 : World) (E : List Ent) : K.Fn Try.prog 89 [.agg #[.slice fa cf.vals.length fc, .int .i64 cf.per, .int .i64 cf.inc], .int .i64 k, .int .i64 low, .int .i64 high] w0 R E (fun r R' E' => ∃ (f : Option Addr) (fc : Nat), r = cvV f fc (normR cf, 0) ∧ RS R' 1 encI f ((normR cf, (0 : Int))).1.vals ∧ E.Sublist E') := by
 refine Fn.enter (n := 31) Try.func89 rfl rfl (Nat.le_of_ble_eq_true rfl) rfl ?_
 refine W.seq (W.region _ ?_)
 refine WL.ef rfl rfl qD (Ef.box rfl rfl (fun b4 => ?_))
 refine WL.ef rfl rfl qD (Ef.alloc tab_ok rfl rfl (fun b8 => ?_))
 refine WG.run tab_ok 1 rfl (WG.nil (WE.nxt (W.seq (W.region _ ?_))))
 refine' WG.y rfl rfl qD (Yl.load1 tab_ok rfl rfl rfl (fun _ => rfl) ?r1 rfl ?h1) ?_
 case r1 => (exact Rd.blk 1 rfl)
 case h1 => rfl
 refine WL.call en32 rfl rfl qD (CallOp.mkT rfl rfl rfl rfl) (CNormalV_C hvf ha w0 _) ?_
 rintro _ R1 _ hR1 ⟨fa1x, ca1x, rfl, ha1x, hsub⟩
 refine WL.subE hsub ?_
 unfold cvV
 dsimp only at ha1x ⊢
 
 refine WG.run tab_ok 3 rfl ?_
 refine WL.ef rfl rfl qD (Ef.alloc tab_ok rfl rfl (fun b10 => ?_))
 refine WL.efN rfl rfl (Ef.store0 0 tab_ok rfl rfl rfl rfl rfl rfl rfl rfl ?_)
 refine WG.run tab_ok 1 rfl (WG.nil (WE.nxt (W.seq (W.seq (W.region _ (WG.run tab_ok 2 rfl (WG.nil (WE.nxt ?_))))))))
 refine W.condN rfl (fun hc0 => ?_) (fun hc0 => ?_)
 ·try dsimp only at hc0
  exact absurd rfl hc0
 ·try dsimp only at hc0
  refine W.skip (WE.nxt (W.seq (W.seq (W.region _ (WG.run tab_ok 4 rfl ?_)))))
  refine WG.y rfl rfl qD (pureV_ok tab_ok rfl qE) ?_
  refine WG.y rfl rfl qD (pureV_ok tab_ok rfl qE) ?_
  refine WG.y rfl rfl qD (pureV_ok tab_ok rfl qE) ?_
  refine WG.y rfl rfl (by decide) (Yl.por rfl rfl rfl (fun _ => rfl) (by intro h1 h2; simp_all <;> omega)) ?_
  refine WG.nil (WE.nxt ?_)
  refine W.cond rfl (fun hc1 => ?_) (fun hc1 => ?_)
  ·try simp only [kk] at hc1
   omega
  ·try simp only [kk] at hc1
   refine W.skip (WE.nxt (W.seq (W.region _ ?_)))
   refine' WG.y rfl rfl qD (Yl.load1 tab_ok rfl rfl rfl (fun _ => rfl) ?r2 rfl ?h2) ?_
   case r2 => (exact Rd.blk 0 rfl)
   case h2 => rfl
   refine WL.efN rfl rfl (Ef.store0 1 tab_ok rfl rfl rfl rfl rfl rfl rfl rfl ?_)
   refine WG.run tab_ok 1 rfl (WG.nil (WE.nxt (W.ret ?_)))
   refine WE.retF tab_ok [_, _] rfl ⟨⟨_, _, _, rfl, rfl, rfl, ((by first | exact Rd.blk 0 rfl | exact Rd.blk 1 rfl | exact Rd.blk 2 rfl | exact Rd.blk 3 rfl | exact Rd.blk 4 rfl)), rfl⟩, rfl, trivial⟩ (hR1) ?_
   exact ⟨_, _, rfl, ha1x, qS⟩

theorem RaiseF_V {R : Ro} {fa : Option Addr} {fc : Nat} {cf : Cv} (hvf : validB cf = true) (ha : RS R 1 encI fa cf.vals) {b6 b3 : Nat} {k : Int} (h6 : R b6 = some [.slice fa cf.vals.length fc, .int .i64 cf.per, .int .i64 cf.inc]) (h3 : R b3 = some [.int .i64 k]) (hk : 0 ≤ k ∧ k ≤ 1073741824) {t : Nat} (ht : t ≤ 1000000) : FnV Try.prog 90 [.int .i64 (t : Int), .pointer (some ⟨b6, 0, none⟩), .pointer (some ⟨b3, 0, none⟩)] R (.int .i64 (raiseF cf k t)) := by
 refine Fn.toV (fun w0 E => ?_)
 have hbf := cvF_bound hvf t
 have i1 := isInf_iff hvf (t := t) (by omega)
 unfold INF at hbf
 refine Fn.enter (n := 12) Try.func90 rfl rfl (Nat.le_of_ble_eq_true rfl) rfl ?_
 refine W.seq (W.region _ (WG.run tab_ok 1 rfl (WG.nil (WE.nxt (W.seq (W.seq (W.region _ (WG.run tab_ok 2 rfl (WG.nil (WE.nxt ?_))))))))))
 refine W.condE rfl (fun hc0 => ?_) (fun hc0 => ?_)
 ·try dsimp only at hc0
  obtain rfl : t = 0 := by omega
  have hpl : raiseF cf k 0 = 0 := if_pos rfl
  refine W.seq (W.region _ (WG.run tab_ok 1 rfl (WG.nil (WE.nxt (W.ret (WE.then_ret ?_))))))
  refine WE.subE (E' := E) qS ?_
  refine WE.retF tab_ok [_] rfl ⟨rfl, trivial⟩ (RLe.refl _) ?_
  exact ⟨by rw [hpl]; rfl, rfl⟩
 ·try dsimp only at hc0
  have hpl : raiseF cf k t = if cvF cf t = 4611686018427387904 ∨ k = 4611686018427387904 then 4611686018427387904 else cvF cf t + k := by
   have e : raiseF cf k t = if isInf cf t then INF else cvF cf t + k := if_neg (by omega)
   rw [e]
   by_cases h : isInf cf t
   ·rw [if_pos h]; exact (if_pos (.inl (i1.1 h))).symm
   ·rw [if_neg h]; exact (if_neg (fun hh => hh.elim (fun x => h (i1.2 x)) (fun x => by omega))).symm
  refine W.skip (WE.nxt (W.seq ?_))
  refine W.regionQ _ mixed qK ?_
  refine' WG.y rfl rfl qD (Yl.load1 tab_ok rfl rfl rfl (fun _ => rfl) ?r1 rfl ?h1) ?_
  case r1 => exact Rd.ro h6
  case h1 => rfl
  refine WG.run tab_ok 1 rfl ?_
  refine WG.callV en68 rfl rfl qD (CallOp.mk' rfl rfl rfl rfl) (fun _ => rfl) (fun hg => WAtG_V hvf ha qO) ?_
  refine' WG.y rfl rfl qD (Yl.load1 tab_ok rfl rfl rfl (fun _ => rfl) ?r2 rfl ?h2) ?_
  case r2 => exact Rd.ro h3
  case h2 => rfl
  refine WG.callV en91 rfl rfl qD (CallOp.mk' rfl rfl rfl rfl) (fun _ => rfl) (fun hg => WPlus_V qO qO) ?_
  refine WG.run tab_ok 1 rfl (WG.nil (WE.nxt (W.ret ?_)))
  refine WE.subE (E' := E) qS ?_
  refine WE.retF tab_ok [_] rfl ⟨rfl, trivial⟩ (RLe.refl _) ?_
  exact ⟨by rw [hpl]; rfl, rfl⟩

set_option maxHeartbeats 1000000 in
theorem PRaise_C {R : Ro} {fa : Option Addr} {fc : Nat} {cf : Cv} (hvf : validB cf = true) (ha : RS R 1 encI fa cf.vals) {k : Int} (hk : 0 ≤ k ∧ k ≤ 1073741824) (w0 : World) (E : List Ent) : K.Fn Try.prog 55 [.agg #[.slice fa cf.vals.length fc, .int .i64 cf.per, .int .i64 cf.inc], .int .i64 k] w0 R E (fun r R' E' => ∃ (f : Option Addr) (fc : Nat), r = cvV f fc (raiseC cf k) ∧ RS R' 1 encI f (raiseC cf k).1.vals ∧ E.Sublist E') := by
 have hnf := norm_nrm hvf
 obtain ⟨_, f1, f2, f3, f4, f5, f6, f7⟩ := valid_range hnf.valid
 have hst := stN_lt hnf.valid
 have hd : raiseC cf k = mbuild (raiseF (normR cf) k) (max 1 (stN (normR cf))) (normR cf).per.toNat (normR cf).inc := by unfold raiseC MAXV; rw [if_neg (by rw [hvf]; simp), if_neg (by omega)]
 have hperI : (((normR cf).per.toNat : Nat) : Int) = (normR cf).per := by omega
 have hmx : (if (1 : Int) < (stN (normR cf) : Int) then (stN (normR cf) : Int) else (1 : Int)) = ((max 1 (stN (normR cf)) : Nat) : Int) := by split <;> omega
 have hpb : ∀ t : Nat, t ≤ 1000 → (raiseF (normR cf) k) t = INF ∨ (0 ≤ (raiseF (normR cf) k) t ∧ (raiseF (normR cf) k) t ≤ 1000000000000000) := fun t ht => by
  unfold raiseF
  by_cases h0 : t = 0
  ·rw [if_pos h0]; right; omega
  ·rw [if_neg h0]
   by_cases h : isInf (normR cf) t
   ·rw [if_pos h]; exact .inl rfl
   ·rw [if_neg h]
    have a1 := fin_part hnf.valid h (show t ≤ 1000000000 by omega)
    right; omega
 refine Fn.enter (n := 31) Try.func55 rfl rfl (Nat.le_of_ble_eq_true rfl) rfl ?_
 refine W.seq (W.region _ ?_)
 refine WL.ef rfl rfl qD (Ef.box rfl rfl (fun b2 => ?_))
 refine WL.ef rfl rfl qD (Ef.box rfl rfl (fun b3 => ?_))
 refine WL.ef rfl rfl qD (Ef.alloc tab_ok rfl rfl (fun b4 => ?_))
 refine WG.run tab_ok 1 rfl (WG.nil (WE.nxt (W.seq (W.region _ ?_))))
 refine' WG.y rfl rfl qD (Yl.load1 tab_ok rfl rfl rfl (fun _ => rfl) ?r1 rfl ?h1) ?_
 case r1 => (exact Rd.blk 2 rfl)
 case h1 => rfl
 refine' WG.y rfl rfl qD (Yl.load1 tab_ok rfl rfl rfl (fun _ => rfl) ?r2 rfl ?h2) ?_
 case r2 => (exact Rd.blk 1 rfl)
 case h2 => rfl
 refine WL.call en89 rfl rfl qD (CallOp.mkT rfl rfl rfl rfl) (POne_C hvf ha qO w0 _) ?_
 rintro _ R1 _ hR1 ⟨a1, c1, rfl, hx1, hsub⟩
 refine WL.subE hsub ?_
 unfold cvV
 dsimp only at hx1 ⊢
 refine WG.run tab_ok 3 rfl ?_
 refine WL.ef rfl rfl qD (Ef.alloc tab_ok rfl rfl (fun b6 => ?_))
 refine WL.efN rfl rfl (Ef.store0 0 tab_ok rfl rfl rfl rfl rfl rfl rfl rfl ?_)
 refine WG.run tab_ok 1 rfl (WG.nil (WE.nxt (W.seq (W.seq (W.region _ (WG.run tab_ok 2 rfl (WG.nil (WE.nxt ?_))))))))
 refine W.condN rfl (fun hc0 => ?_) (fun hc0 => ?_)
 ·try dsimp only at hc0
  exact absurd rfl hc0
 ·try dsimp only at hc0
  refine W.skip (WE.nxt (W.seq (W.region _ (WG.run tab_ok 2 rfl (WG.nil (WE.nxt ?_))))))
  refine W.freezeBlk 0 rfl ?_
  intro R2 hR2 h6
  refine W.freezeBlk 1 rfl ?_
  intro R3 hR3 h3
  have h6 := hR3 _ _ h6
  have hx1 := hx1.mono (hR2.trans hR3)
  have hF : ∀ t : Nat, t < max 1 (stN (normR cf)) + (normR cf).per.toNat → FnV Try.prog 90 ((#[] : Array Value).toList ++ [.int .i64 (t : Int)] ++ (#[.pointer (some ⟨b6, 0, none⟩), .pointer (some ⟨b3, 0, none⟩)] : Array Value).toList) R3 (.int .i64 ((raiseF (normR cf) k) t)) := fun t ht => RaiseF_V hnf.valid hx1 h6 h3 hk (by omega)
  refine W.seq ?_
  refine W.regionH _ (ES := []) mixed ?_
  refine WA.take 0 rfl qK qK qK rfl rfl qD (pureV_ok tab_ok rfl (fun _ => rfl)) qS qR ?_
  refine' WA.take 1 rfl qK qK qK rfl rfl qD (Yl.load1 tab_ok rfl rfl rfl (fun _ => rfl) ?r3 rfl ?h3) qS qR ?_
  case r3 => (exact Rd.ro qU)
  case h3 => rfl
  refine WA.take 4 rfl qK qK qK rfl rfl qD (pureV_ok tab_ok rfl (fun _ => rfl)) qS qR ?_
  refine' WA.take 5 rfl qK qK qK rfl rfl qD (Yl.load1 tab_ok rfl rfl rfl (fun _ => rfl) ?r4 rfl ?h4) qS qR ?_
  case r4 => apply Rd.add; (exact Rd.ro qU)
  case h4 => rfl
  refine WA.take 6 rfl qK qK qK rfl rfl qD (pureV_ok tab_ok rfl (fun _ => rfl)) qS qR ?_
  refine' WA.take 7 rfl qK qK qK rfl rfl qD (Yl.load1 tab_ok rfl rfl rfl (fun _ => rfl) ?r5 rfl ?h5) qS qR ?_
  case r5 => apply Rd.add; (exact Rd.ro qU)
  case h5 => rfl
  refine WA.callG 2 rfl qK en35 rfl (by first | rfl | decide) rfl qD (CallOp.mkT rfl rfl rfl rfl) ((WStartG_V hnf.valid hx1).toFn) ?_
  rintro _ _ _ - ⟨rfl, rfl, rfl⟩
  refine ⟨by first | exact RLe.refl _ | assumption, qS, ?_⟩
  refine WA.take 3 rfl qK qK qK rfl rfl qD (pureV_ok tab_ok rfl (fun _ => rfl)) qS qR ?_
  refine WA.callG 8 rfl qK en40 rfl (by first | rfl | decide) rfl qD (CallOp.mkT rfl rfl rfl rfl) (hmx ▸ hperI ▸ Build_C (S := max 1 (stN (normR cf))) (P := (normR cf).per.toNat) (F := (raiseF (normR cf) k)) en90 qO qO qO (fun t ht => hpb t qO) hF w0 _) ?_
  rintro _ R4 E4 hR4 ⟨fr, frc, rfl, hfr, hsub⟩
  refine ⟨hR4, List.nil_sublist _, ?_⟩
  refine WA.subE hsub ?_
  rw [← hd] at hfr ⊢
  unfold cvV
  refine WA.take 9 rfl qK qK qK rfl rfl qD (pureV_ok tab_ok rfl (fun _ => rfl)) qS qR ?_
  refine WA.take 10 rfl qK qK qK rfl rfl qD (pureV_ok tab_ok rfl (fun _ => rfl)) qS qR ?_
  refine WA.effN 11 rfl qK rfl rfl (Ef.store0 0 tab_ok rfl rfl rfl rfl rfl rfl rfl rfl ?_)
  refine ⟨by first | exact RLe.refl _ | assumption, qS, ?_⟩
  refine WA.take 12 rfl qK qK qK rfl rfl qD (pureV_ok tab_ok rfl (fun _ => rfl)) qS qR ?_
  refine WA.done qK ?_
  refine WE.nxt (W.ret ?_)
  refine WE.retF tab_ok [_, _] rfl ⟨⟨_, _, _, rfl, rfl, rfl, ((by first | exact Rd.blk 0 rfl | exact Rd.blk 1 rfl | exact Rd.blk 2 rfl | exact Rd.blk 3 rfl | exact Rd.blk 4 rfl | exact Rd.blk 5 rfl)), rfl⟩, rfl, trivial⟩ ((by first | exact hR1.trans (hR2.trans (hR3.trans hR4)))) ?_
  exact ⟨fr, frc, rfl, hfr, qS⟩

theorem FlatF_V {R : Ro} {b1 : Nat} {k : Int} (h1 : R b1 = some [.int .i64 k]) (hk : 0 ≤ k ∧ k ≤ 1073741824) {t : Nat} (ht : t ≤ 1000000) : FnV Try.prog 69 [.int .i64 (t : Int), .pointer (some ⟨b1, 0, none⟩)] R (.int .i64 (flatF k t)) := by
 refine Fn.toV (fun w0 E => ?_)
 have hfl : k * (if (1 : Int) < (t : Int) then (1 : Int) else (t : Int)) = flatF k t := by
  unfold flatF
  by_cases h : t = 0
  ·subst h; simp
  ·rw [if_neg h, show (if (1 : Int) < (t : Int) then (1 : Int) else (t : Int)) = 1 by split <;> omega, Int.mul_one]
 have hfb : 0 ≤ flatF k t ∧ flatF k t ≤ 1073741824 := by unfold flatF; split <;> omega
 refine Fn.enter (n := 8) Try.func69 rfl rfl (Nat.le_of_ble_eq_true rfl) rfl ?_
 refine W.seq (W.region _ (WG.run tab_ok 1 rfl (WG.nil (WE.nxt (W.seq (W.region _ ?_))))))
 refine' WG.y rfl rfl qD (Yl.load1 tab_ok rfl rfl rfl (fun _ => rfl) ?r1 rfl ?h1) ?_
 case r1 => exact Rd.ro h1
 case h1 => rfl
 refine WG.run tab_ok 2 rfl ?_
 refine WG.y rfl rfl qD (Yl.mul rfl rfl rfl (fun _ => rfl) qA) ?_
 refine WG.run tab_ok 1 rfl (WG.nil (WE.nxt (W.ret ?_)))
 refine WE.subE (E' := E) qS ?_
 refine WE.retF tab_ok [_] rfl ⟨rfl, trivial⟩ (RLe.refl _) ?_
 exact ⟨by rw [← hfl]; rfl, rfl⟩

theorem CFlat_C {R : Ro} {k : Int} (hk : 0 ≤ k ∧ k ≤ 1073741824) (w0 : World) (E : List Ent) : K.Fn Try.prog 38 [.int .i64 k] w0 R E (fun r R' E' => ∃ (f : Option Addr) (fc : Nat), r = cvV f fc (flatC k) ∧ RS R' 1 encI f (flatC k).1.vals ∧ E.Sublist E') := by
 have hd : flatC k = mbuild (flatF k) 1 1 0 := rfl
 refine Fn.enter (n := 14) Try.func38 rfl rfl (Nat.le_of_ble_eq_true rfl) rfl ?_
 refine W.seq (W.region _ ?_)
 refine WL.ef rfl rfl qD (Ef.box rfl rfl (fun b1 => ?_))
 refine WL.ef rfl rfl qD (Ef.alloc tab_ok rfl rfl (fun b2 => ?_))
 refine WG.run tab_ok 1 rfl (WG.nil (WE.nxt (W.seq (W.seq (W.region _ ?_)))))
 refine' WG.y rfl rfl qD (Yl.load1 tab_ok rfl rfl rfl (fun _ => rfl) ?r1 rfl ?h1) ?_
 case r1 => (exact Rd.blk 1 rfl)
 case h1 => rfl
 refine WG.run tab_ok 1 rfl (WG.nil (WE.nxt ?_))
 refine W.condD rfl (fun hc0 => ?_) (fun hc0 => ?_)
 ·try dsimp only at hc0
  omega
 ·try dsimp only at hc0
  refine W.skip (WE.nxt (W.seq (W.seq (W.region _ ?_))))
  refine' WG.y rfl rfl qD (Yl.load1 tab_ok rfl rfl rfl (fun _ => rfl) ?r2 rfl ?h2) ?_
  case r2 => (exact Rd.blk 1 rfl)
  case h2 => rfl
  refine WG.run tab_ok 1 rfl (WG.nil (WE.nxt ?_))
  refine W.condD rfl (fun hc1 => ?_) (fun hc1 => ?_)
  ·try dsimp only at hc1
   omega
  ·try dsimp only at hc1
   refine W.skip (WE.nxt ?_)
   refine W.freezeBlk 1 rfl ?_
   intro R2 hR2 h1
   have hF : ∀ t : Nat, t < 1 + 1 → FnV Try.prog 69 ((#[] : Array Value).toList ++ [.int .i64 (t : Int)] ++ (#[.pointer (some ⟨b1, 0, none⟩)] : Array Value).toList) R2 (.int .i64 (flatF k t)) := fun t ht => FlatF_V h1 hk (by omega)
   refine W.seq (W.region _ (WG.run tab_ok 1 rfl ?_))
   refine WL.call en40 rfl rfl qD (CallOp.mkT rfl rfl rfl rfl) (Build_C (S := 1) (P := 1) (F := flatF k) en69 qO qO qO (fun t ht => .inr (flatF_bound hk t)) hF w0 _) ?_
   rintro _ R4 E4 hR4 ⟨fr, frc, rfl, hfr, hsub⟩
   refine WL.subE hsub ?_
   rw [← hd] at hfr ⊢
   unfold cvV
   refine WG.run tab_ok 2 rfl ?_
   refine WL.efN rfl rfl (Ef.store0 0 tab_ok rfl rfl rfl rfl rfl rfl rfl rfl ?_)
   refine WG.run tab_ok 1 rfl (WG.nil (WE.nxt (W.ret ?_)))
   refine WE.retF tab_ok [_, _] rfl ⟨⟨_, _, _, rfl, rfl, rfl, ((by first | exact Rd.blk 0 rfl | exact Rd.blk 1 rfl | exact Rd.blk 2 rfl | exact Rd.blk 3 rfl)), rfl⟩, rfl, trivial⟩ (hR2.trans hR4) ?_
   exact ⟨fr, frc, rfl, hfr, qS⟩

set_option maxHeartbeats 1000000 in
theorem PTotal_C {R : Ro} {la : Option Addr} {lc : Nat} {ls : List CvS} (hla : RS R 3 encC la ls) (hls : ∀ x ∈ ls, RS R 1 encI x.a x.cv.vals ∧ validB x.cv = true) (w0 : World) (E : List Ent) : K.Fn Try.prog 54 [.slice la ls.length lc] w0 R E (fun r R' E' => ∃ (f : Option Addr) (fc : Nat), r = cvV f fc (totalC (ls.map CvS.cv)) ∧ RS R' 1 encI f (totalC (ls.map CvS.cv)).1.vals ∧ E.Sublist E') := by
 have hll := hla.len
 have hz0 : flatC 0 = (zeroC, 0) := flat_zero
 refine Fn.enter (n := 31) Try.func54 rfl rfl (Nat.le_of_ble_eq_true rfl) rfl ?_
 refine W.seq (W.region _ ?_)
 refine WL.ef rfl rfl qD (Ef.alloc tab_ok rfl rfl (fun b2 => ?_))
 refine WG.run tab_ok 1 rfl (WG.nil (WE.nxt (W.seq (W.region _ ?_))))
 refine WL.call en38 rfl rfl qD (CallOp.mkT rfl rfl rfl rfl) (CFlat_C (k := 0) qD w0 _) ?_
 rintro _ R1 _ hR1 ⟨fz, fzc, rfl, hfz, hsub⟩
 refine WL.subE hsub ?_
 rw [hz0] at hfz ⊢
 unfold cvV
 dsimp only at hfz ⊢
 refine WG.run tab_ok 3 rfl ?_
 refine WL.ef rfl rfl qD (Ef.alloc tab_ok rfl rfl (fun b4 => ?_))
 refine WL.efN rfl rfl (Ef.store0 0 tab_ok rfl rfl rfl rfl rfl rfl rfl rfl ?_)
 refine WG.run tab_ok 1 rfl (WG.nil (WE.nxt (W.seq (W.seq (W.region _ (WG.run tab_ok 3 rfl (WG.nil (WE.nxt (W.block ?_)))))))))
 refine W.loopR (β := Nat × Cv × Option Addr × Nat × Ro) (fun (i, s, sa, sc, Rk) => i ≤ ls.length ∧ RLe R1 Rk ∧ Nrm s ∧ RS Rk 1 encI sa s.vals ∧ totalC (ls.map CvS.cv) = totalGo s ((ls.map CvS.cv).drop i)) (fun (i, s, sa, sc, Rk) => [(5, true, .int .i64 0), (14, true, .int .i64 (i : Int))]) [2, 4, 12, 13] [_, _, _, _] [] _ rfl (fun (i, s, sa, sc, Rk) => [(0, .blk b4 [.slice sa s.vals.length sc, .int .i64 s.per, .int .i64 s.inc])]) (fun (i, s, sa, sc, Rk) => Rk) (fun (i, s, sa, sc, Rk) => ls.length - i) ((0, zeroC, fz, fzc, R1)) (⟨Nat.zero_le _, RLe.refl _, zero_nrm, hfz, rfl⟩) ⟨rfl, rfl, rfl, rfl, rfl, rfl, rfl⟩ (RLe.refl _) qS ?_
 intro zz hst
 obtain ⟨i, s, sa, sc, Rk⟩ := zz
 dsimp only [zipE, setAll, List.cons_append, List.nil_append, List.set_cons_zero, List.set_cons_succ] at hst ⊢
 obtain ⟨hi, hRk, hns, hsa, htot⟩ := hst
 have hla := hla.mono (hR1.trans hRk)
 refine W.seq (W.region _ (WG.run tab_ok 1 rfl (WG.nil (WE.nxt (W.seq ?_)))))
 refine W.condD rfl (fun hc0 => ?_) (fun hc0 => ?_)
 ·try dsimp only at hc0
  have hil : i < ls.length := by omega
  have hxi := hls _ (nth_mem hil)
  have hvx := hxi.2
  have hxa := hxi.1.mono (hR1.trans hRk)
  refine W.skip (WE.nxt (W.seq (W.block (W.seq (W.region _ ?_)))))
  refine WG.y rfl rfl qD (Yl.indexN tab_ok rfl rfl rfl rfl rfl rfl (fun _ => rfl) qN qH) ?_
  refine' WG.y rfl rfl qD (Yl.load1 tab_ok rfl rfl rfl (fun _ => rfl) ?r1 rfl ?h1) ?_
  case r1 => ((apply RS.rdD; assumption; ((try dsimp only) <;> omega)))
  case h1 => rfl
  refine WL.ef rfl rfl qD (Ef.alloc tab_ok rfl rfl (fun b7 => ?_))
  refine WL.efN rfl rfl (Ef.store0 0 tab_ok rfl rfl rfl rfl rfl rfl rfl rfl ?_)
  refine WG.nil (WE.nxt (W.seq (W.region _ ?_)))
  refine' WG.y rfl rfl qD (Yl.load1 tab_ok rfl rfl rfl (fun _ => rfl) ?r2 rfl ?h2) ?_
  case r2 => (exact Rd.blk 1 rfl)
  case h2 => rfl
  refine' WG.y rfl rfl qD (Yl.load1 tab_ok rfl rfl rfl (fun _ => rfl) ?r3 rfl ?h3) ?_
  case r3 => (exact Rd.blk 0 rfl)
  case h3 => rfl
  refine WL.call en88 rfl rfl qD (CallOp.mkT rfl rfl rfl rfl) (PSum_C hns.valid hsa hvx hxa w0 _) ?_
  rintro _ R2 _ hR2 ⟨fr, frc, rfl, hfr, hsub⟩
  refine WL.subE hsub ?_
  unfold cvV
  have hgo : totalC (ls.map CvS.cv) = if (sumC s (nth ls i).cv).2 ≠ 0 then (zcv, (sumC s (nth ls i).cv).2) else totalGo (sumC s (nth ls i).cv).1 ((ls.map CvS.cv).drop (i + 1)) := by
   rw [htot, drop_map_cons hil]
   rfl
  have hsr := sum_res hns.valid hvx
  generalize sumC s (nth ls i).cv = sr at hfr hgo hsr ⊢
  obtain ⟨sv, se⟩ := sr
  dsimp only at hfr hgo hsr ⊢
  refine WG.run tab_ok 3 rfl ?_
  refine WL.efN rfl rfl (Ef.store0 1 tab_ok rfl rfl rfl rfl rfl rfl rfl rfl ?_)
  refine WG.run tab_ok 1 rfl (WG.nil (WE.nxt (W.seq (W.region _ (WG.run tab_ok 2 rfl (WG.nil (WE.nxt ?_)))))))
  refine W.condN rfl (fun hc1 => ?_) (fun hc1 => ?_)
  ·try dsimp only at hc1
   have hd : totalC (ls.map CvS.cv) = (zcv, se) := by rw [hgo, if_pos hc1]
   refine W.seq (W.region _ ?_)
   -- build
   refine WG.y rfl rfl qD (Yl.build (parts := []) tab_ok rfl rfl rfl rfl (fun _ => rfl) rfl rfl) ?_
   refine WG.run tab_ok 1 rfl ?_
   refine WL.efN rfl rfl (Ef.store0 2 tab_ok rfl rfl rfl rfl rfl rfl rfl rfl ?_)
   refine WG.run tab_ok 1 rfl (WG.nil (WE.nxt (W.ret (WE.blk_ret (WE.then_ret (WE.then_ret (WE.blk_ret (WE.then_ret ?_))))))))
   refine WE.retF tab_ok [_, _] rfl ⟨⟨_, _, _, rfl, rfl, rfl, ((by first | exact Rd.blk 0 rfl | exact Rd.blk 1 rfl | exact Rd.blk 2 rfl | exact Rd.blk 3 rfl | exact Rd.blk 4 rfl | exact Rd.blk 5 rfl)), rfl⟩, rfl, trivial⟩ ((by first | exact hR1.trans (hRk.trans hR2) | exact hR1.trans hRk)) ?_
   exact ⟨none, 0, by rw [hd]; rfl, by rw [hd]; exact rs_nil, qS⟩
  ·try dsimp only at hc1
   have hd2 : totalC (ls.map CvS.cv) = totalGo sv ((ls.map CvS.cv).drop (i + 1)) := by rw [hgo, if_neg (fun h => h hc1)]
   obtain ⟨rfl, hnsv⟩ : se = 0 ∧ Nrm sv := by
    rcases hsr with h | ⟨c, h1, h2, _⟩
    ·have := congrArg Prod.snd h; dsimp only at this; omega
    ·have e1 := congrArg Prod.fst h1
     have e2 := congrArg Prod.snd h1
     dsimp only at e1 e2
     exact ⟨e2, by rw [e1]; exact h2⟩
   refine W.skip (WE.blk _ (WE.nxt (W.region _ ?_)))
   refine WG.y rfl rfl qD (Yl.add rfl rfl rfl (fun _ => rfl) qA) ?_
   refine WG.run tab_ok 1 rfl (WG.nil ?_)
   refine WE.again ((i + 1, sv, fr, frc, R2)) (⟨by dsimp only; omega, hRk.trans hR2, hnsv, hfr, hd2⟩) (by (try dsimp only); omega) ⟨rfl, rfl, rfl, rfl, rfl, rfl, rfl⟩ (RLe.refl _) qS
 ·try dsimp only at hc0
  obtain rfl : i = ls.length := by omega
  have hd : totalC (ls.map CvS.cv) = (s, 0) := by rw [htot, List.drop_eq_nil_of_le (by simp)]; rfl
  refine W.exit ?_
  refine WE.then_exit (WE.then_exit (WE.blk_exit (WE.nxt (W.seq (W.region _ ?_)))))
  refine' WG.y rfl rfl qD (Yl.load1 tab_ok rfl rfl rfl (fun _ => rfl) ?r4 rfl ?h4) ?_
  case r4 => (exact Rd.blk 0 rfl)
  case h4 => rfl
  refine WG.run tab_ok 1 rfl ?_
  refine WL.efN rfl rfl (Ef.store0 1 tab_ok rfl rfl rfl rfl rfl rfl rfl rfl ?_)
  refine WG.run tab_ok 1 rfl (WG.nil (WE.nxt (W.ret ?_)))
  refine WE.retF tab_ok [_, _] rfl ⟨⟨_, _, _, rfl, rfl, rfl, ((by first | exact Rd.blk 0 rfl | exact Rd.blk 1 rfl | exact Rd.blk 2 rfl | exact Rd.blk 3 rfl | exact Rd.blk 4 rfl | exact Rd.blk 5 rfl)), rfl⟩, rfl, trivial⟩ ((by first | exact hR1.trans (hRk.trans hR2) | exact hR1.trans hRk)) ?_
  exact ⟨sa, sc, by rw [hd]; rfl, by rw [hd]; exact hsa, qS⟩

end Go.Proofs.Ytnackbfnmhkodaa

/- What a curve leaves of a line. No condition. -/
set_option maxRecDepth 4000
set_option linter.unusedSimpArgs false
set_option linter.unusedVariables false
namespace Go.Proofs.Ytnackbfnmhkodaa
open Go Go.RowKit Go.Proofs.Ytnackbfnmhkodaa.K Go.Proofs.Ytnackbfnmhkodaa.M

theorem ComOne_V {R : Ro} {P2 : Nat} {p : Int} (hp : p = (P2 : Int)) (hb : 0 < P2 ∧ P2 ≤ 1000) : FnV Try.prog 33 [.int .i64 1, .int .i64 p] R (.int .i64 p) := by
 subst hp
 have h := Common_V (R := R) (a := 1) (b := P2) (by omega) (by omega)
 rw [show 1 / Nat.gcd 1 P2 * P2 = P2 by rw [Nat.gcd_one_left]; simp] at h
 exact h

set_option maxHeartbeats 1000000 in
theorem RBoth_C {R : Ro} {la : Option Addr} {lc : Nat} {cap : Int} (hcap : 1 ≤ cap ∧ cap ≤ 4000) (hla : RS R 1 encI la (lineC cap).vals) {ga : Option Addr} {gc : Nat} {cg : Cv} (hvg : validB cg = true) (hb : RS R 1 encI ga cg.vals) (w0 : World) (E : List Ent) : K.Fn Try.prog 93 [.agg #[.slice la (lineC cap).vals.length lc, .int .i64 (lineC cap).per, .int .i64 (lineC cap).inc], .agg #[.slice ga cg.vals.length gc, .int .i64 cg.per, .int .i64 cg.inc]] w0 R E (fun v R' E' => ∃ (a1 a2 : Option Addr) (c1 c2 : Nat), v = .tuple #[.agg #[.slice a1 (lineC cap).vals.length c1, .int .i64 (lineC cap).per, .int .i64 (lineC cap).inc, .slice a2 (normR cg).vals.length c2, .int .i64 (normR cg).per, .int .i64 (normR cg).inc, .int .i64 (stN (normR cg) : Int), .int .i64 (normR cg).per, .int .i64 (driftL cap (normR cg))], .int .i64 0] ∧ RS R' 1 encI a1 (lineC cap).vals ∧ RS R' 1 encI a2 (normR cg).vals ∧ E.Sublist E') := by
 obtain ⟨hln, hlcv, hlf, hls⟩ := line_facts (cap := cap) (by omega)
 have hlnn : normR (lineC cap) = lineC cap := hln.norm
 have hng := norm_nrm hvg
 obtain ⟨_, g1, g2, g3, g4, g5, g6, g7⟩ := valid_range hng.valid
 have hst := stN_lt hng.valid
 obtain ⟨P2, hP2⟩ := Int.eq_ofNat_of_zero_le (show 0 ≤ (normR cg).per by omega)
 have hmx : (if (stN (lineC cap) : Int) < (stN (normR cg) : Int) then (stN (normR cg) : Int) else (stN (lineC cap) : Int)) = (stN (normR cg) : Int) := by rw [hls]; split <;> omega
 have hcom : ((1 / Nat.gcd 1 P2 * P2 : Nat) : Int) = (normR cg).per := by rw [hP2, Nat.gcd_one_left]; simp
 have hmul := mulB (a := (normR cg).per) (b := cap) (A := 120) (B := 4000) (by omega) (by omega)
 have hdv : (normR cg).per / (normR cg).per = 1 := Int.ediv_self (by omega)
 have hlp : (lineC cap).per = 1 := rfl
 have hli : (lineC cap).inc = cap := rfl
 have hdr : (normR cg).per / (lineC cap).per * (lineC cap).inc - (normR cg).per / (normR cg).per * (normR cg).inc = driftL cap (normR cg) := by rw [hdv, hlp, hli, Int.ediv_one, Int.one_mul]; rfl
 have ha1 : (normR cg).per / (lineC cap).per * (lineC cap).inc = (normR cg).per * cap := by rw [hlp, hli, Int.ediv_one]
 have ha2 : (normR cg).per / (normR cg).per * (normR cg).inc = (normR cg).inc := by rw [hdv, Int.one_mul]
 have ha0 : 0 ≤ (normR cg).per / (lineC cap).per ∧ (normR cg).per / (lineC cap).per ≤ 120 := by rw [hlp, Int.ediv_one]; omega
 refine Fn.enter (n := 64) Try.func93 rfl rfl (Nat.le_of_ble_eq_true rfl) rfl ?_
 refine W.seq (W.region _ ?_)
 refine WL.ef rfl rfl qD (Ef.box rfl rfl (fun b2 => ?_))
 refine WL.ef rfl rfl qD (Ef.box rfl rfl (fun b3 => ?_))
 refine WL.ef rfl rfl qD (Ef.alloc tab_ok rfl rfl (fun b4 => ?_))
 refine WG.run tab_ok 1 rfl (WG.nil (WE.nxt (W.seq (W.region _ ?_))))
 refine' WG.y rfl rfl qD (Yl.load1 tab_ok rfl rfl rfl (fun _ => rfl) ?r1 rfl ?h1) ?_
 case r1 => (exact Rd.blk 2 rfl)
 case h1 => rfl
 refine WL.call en32 rfl rfl qD (CallOp.mkT rfl rfl rfl rfl) (CNormalV_C hln.valid hla w0 _) ?_
 rintro _ R1 _ hR1 ⟨fa1x, ca1x, rfl, ha1x, hsub⟩
 refine WL.subE hsub ?_
 unfold cvV
 rw [hlnn] at ha1x ⊢
 dsimp only at ha1x ⊢
 have hb := hb.mono hR1
 refine WG.run tab_ok 3 rfl ?_
 refine WL.ef rfl rfl qD (Ef.alloc tab_ok rfl rfl (fun b6 => ?_))
 refine WL.efN rfl rfl (Ef.store0 0 tab_ok rfl rfl rfl rfl rfl rfl rfl rfl ?_)
 refine WG.run tab_ok 1 rfl (WG.nil (WE.nxt (W.seq (W.seq (W.region _ (WG.run tab_ok 2 rfl (WG.nil (WE.nxt ?_))))))))
 refine W.condN rfl (fun hc0 => ?_) (fun hc0 => ?_)
 ·try dsimp only at hc0
  exact absurd rfl hc0
 ·try dsimp only at hc0
  refine W.skip (WE.nxt (W.seq (W.region _ ?_)))
  refine' WG.y rfl rfl qD (Yl.load1 tab_ok rfl rfl rfl (fun _ => rfl) ?r2 rfl ?h2) ?_
  case r2 => (exact Rd.blk 2 rfl)
  case h2 => rfl
  refine WL.call en32 rfl rfl qD (CallOp.mkT rfl rfl rfl rfl) (CNormalV_C hvg hb w0 _) ?_
  rintro _ R2 _ hR2 ⟨fa2x, ca2x, rfl, ha2x, hsub⟩
  refine WL.subE hsub ?_
  unfold cvV
  dsimp only at ha2x ⊢
  have ha1x := ha1x.mono hR2
  refine WG.run tab_ok 3 rfl ?_
  refine WL.ef rfl rfl qD (Ef.alloc tab_ok rfl rfl (fun b8 => ?_))
  refine WL.efN rfl rfl (Ef.store0 0 tab_ok rfl rfl rfl rfl rfl rfl rfl rfl ?_)
  refine WG.run tab_ok 1 rfl (WG.nil (WE.nxt (W.seq (W.seq (W.region _ (WG.run tab_ok 2 rfl (WG.nil (WE.nxt ?_))))))))
  refine W.condN rfl (fun hc1 => ?_) (fun hc1 => ?_)
  ·try dsimp only at hc1
   exact absurd rfl hc1
  ·try dsimp only at hc1
   refine W.skip (WE.nxt ?_)
   refine W.seqCut (β := Nat) (fun b9 => True) (fun b9 => [(4, true, .pointer (some ⟨b4, 0, none⟩)), (6, true, .pointer (some ⟨b6, 0, none⟩)), (8, true, .pointer (some ⟨b8, 0, none⟩)), (9, true, .pointer (some ⟨b9, 0, none⟩))]) (fun _ => R2) (fun b9 => .blk b9 [.slice fa1x (lineC cap).vals.length ca1x, .int .i64 (lineC cap).per, .int .i64 (lineC cap).inc, .slice fa2x (normR cg).vals.length ca2x, .int .i64 (normR cg).per, .int .i64 (normR cg).inc, .int .i64 (stN (normR cg) : Int), .int .i64 (normR cg).per, .int .i64 0] :: .blk b8 [.slice fa2x (normR cg).vals.length ca2x, .int .i64 (normR cg).per, .int .i64 (normR cg).inc] :: .blk b6 [.slice fa1x (lineC cap).vals.length ca1x, .int .i64 (lineC cap).per, .int .i64 (lineC cap).inc] :: .blk b4 [.slice none 0 0, .int .i64 0, .int .i64 0, .slice none 0 0, .int .i64 0, .int .i64 0, .int .i64 0, .int .i64 0, .int .i64 0] :: E) ?_ ?_
   ·
    intro b9 hst
    
    refine W.seq (W.seq (W.region _ (WG.run tab_ok 1 rfl ?_)))
    refine' WG.y rfl rfl qD (Yl.load1 tab_ok rfl rfl rfl (fun _ => rfl) ?r3 rfl ?h3) ?_
    case r3 => apply Rd.add; (exact Rd.blk 0 rfl)
    case h3 => rfl
    refine WG.run tab_ok 1 rfl (WG.nil (WE.nxt ?_))
    refine W.condD rfl (fun hc2 => ?_) (fun hc2 => ?_)
    ·try dsimp only at hc2
     omega
    ·try dsimp only at hc2
     refine W.skip (WE.nxt (W.seq ?_))
     refine W.regionH _ (ES := [.blk b8 [.slice fa2x (normR cg).vals.length ca2x, .int .i64 (normR cg).per, .int .i64 (normR cg).inc], .blk b6 [.slice fa1x (lineC cap).vals.length ca1x, .int .i64 (lineC cap).per, .int .i64 (lineC cap).inc]]) mixed ?_
     refine WA.take 0 rfl qK qK qK rfl rfl qD (pureV_ok tab_ok rfl (fun _ => rfl)) qS qR ?_
     refine WA.take 2 rfl qK qK qK rfl rfl qD (pureV_ok tab_ok rfl (fun _ => rfl)) qS qR ?_
     refine' WA.take 3 rfl qK qK qK rfl rfl qD (Yl.load1 tab_ok rfl rfl rfl (fun _ => rfl) ?r4 rfl ?h4) qS qR ?_
     case r4 => apply Rd.add; (exact Rd.blk 1 rfl)
     case h4 => rfl
     refine WA.take 5 rfl qK qK qK rfl rfl qD (pureV_ok tab_ok rfl (fun _ => rfl)) qS qR ?_
     refine' WA.take 6 rfl qK qK qK rfl rfl qD (Yl.load1 tab_ok rfl rfl rfl (fun _ => rfl) ?r5 rfl ?h5) qS qR ?_
     case r5 => apply Rd.add; (exact Rd.blk 1 rfl)
     case h5 => rfl
     refine WA.take 8 rfl qK qK qK rfl rfl qD (pureV_ok tab_ok rfl (fun _ => rfl)) qS qR ?_
     refine WA.take 10 rfl qK qK qK rfl rfl qD (pureV_ok tab_ok rfl (fun _ => rfl)) qS qR ?_
     refine' WA.take 11 rfl qK qK qK rfl rfl qD (Yl.load1 tab_ok rfl rfl rfl (fun _ => rfl) ?r6 rfl ?h6) qS qR ?_
     case r6 => apply Rd.add; (exact Rd.blk 0 rfl)
     case h6 => rfl
     refine WA.take 13 rfl qK qK qK rfl rfl qD (pureV_ok tab_ok rfl (fun _ => rfl)) qS qR ?_
     refine' WA.take 14 rfl qK qK qK rfl rfl qD (Yl.load1 tab_ok rfl rfl rfl (fun _ => rfl) ?r7 rfl ?h7) qS qR ?_
     case r7 => apply Rd.add; (exact Rd.blk 0 rfl)
     case h7 => rfl
     refine WA.br2 (i := 1) (j := 9) qK ?_ ?_
     ·
      refine' WS.yl rfl rfl rfl qD (Yl.load1 tab_ok rfl rfl rfl (fun _ => rfl) ?r8 rfl ?h8) qS qR ?_
      case r8 => apply Rd.add; (exact Rd.blk 0 rfl)
      case h8 => rfl
      refine WA.take 4 rfl qK qK qK rfl rfl qD (Yl.quo rfl rfl rfl (fun _ => rfl) qA (by intro _; omega)) qS qR ?_
      refine WA.take 7 rfl qK qK qK rfl rfl qD (Yl.mul rfl rfl rfl (fun _ => rfl) qA) qS qR ?_
      refine' WA.yl 9 rfl qK rfl rfl qD (Yl.load1 tab_ok rfl rfl rfl (fun _ => rfl) ?r9 rfl ?h9) qS qR ?_
      case r9 => apply Rd.add; (exact Rd.blk 0 rfl)
      case h9 => rfl
      refine WA.take 12 rfl qK qK qK rfl rfl qD (Yl.quo rfl rfl rfl (fun _ => rfl) qA (by intro _; omega)) qS qR ?_
      refine WA.take 15 rfl qK qK qK rfl rfl qD (Yl.mul rfl rfl rfl (fun _ => rfl) qA) qS qR ?_
      refine WA.take 16 rfl qK qK qK rfl rfl qD (Yl.sub rfl rfl rfl (fun _ => rfl) qA) qS qR ?_
      refine WA.take 17 rfl qK qK qK rfl rfl qD (pureV_ok tab_ok rfl (fun _ => rfl)) qS qR ?_
      refine WA.effN 18 rfl qK rfl rfl (Ef.store 0 tab_ok rfl rfl rfl rfl rfl rfl rfl rfl ?_)
      refine ⟨by first | exact RLe.refl _ | assumption, qS, ?_⟩
      refine WA.done qK ?_
      refine WE.nxt (W.seq (W.region _ ?_))
      refine' WG.y rfl rfl qD (Yl.load1 tab_ok rfl rfl rfl (fun _ => rfl) ?r10 rfl ?h10) ?_
      case r10 => (exact Rd.blk 0 rfl)
      case h10 => rfl
      refine WL.efN rfl rfl (Ef.store0 3 tab_ok rfl rfl rfl rfl rfl rfl rfl rfl ?_)
      refine WG.run tab_ok 1 rfl (WG.nil (WE.nxt (W.ret ?_)))
      refine WE.retF tab_ok [_, _] rfl ⟨⟨_, _, _, rfl, rfl, rfl, ((by first | exact Rd.blk 0 rfl | exact Rd.blk 1 rfl | exact Rd.blk 2 rfl | exact Rd.blk 3 rfl | exact Rd.blk 4 rfl | exact Rd.blk 5 rfl | exact Rd.blk 6 rfl)), rfl⟩, rfl, trivial⟩ (hR1.trans hR2) ?_
      exact ⟨_, _, _, _, by first | rfl | (rw [hdr]; rfl), ha1x, ha2x, qS⟩
     ·
      refine' WS.yl rfl rfl rfl qD (Yl.load1 tab_ok rfl rfl rfl (fun _ => rfl) ?r11 rfl ?h11) qS qR ?_
      case r11 => apply Rd.add; (exact Rd.blk 0 rfl)
      case h11 => rfl
      refine WA.take 12 rfl qK qK qK rfl rfl qD (Yl.quo rfl rfl rfl (fun _ => rfl) qA (by intro _; omega)) qS qR ?_
      refine WA.take 15 rfl qK qK qK rfl rfl qD (Yl.mul rfl rfl rfl (fun _ => rfl) qA) qS qR ?_
      refine' WA.yl 1 rfl qK rfl rfl qD (Yl.load1 tab_ok rfl rfl rfl (fun _ => rfl) ?r12 rfl ?h12) qS qR ?_
      case r12 => apply Rd.add; (exact Rd.blk 0 rfl)
      case h12 => rfl
      refine WA.take 4 rfl qK qK qK rfl rfl qD (Yl.quo rfl rfl rfl (fun _ => rfl) qA (by intro _; omega)) qS qR ?_
      refine WA.take 7 rfl qK qK qK rfl rfl qD (Yl.mul rfl rfl rfl (fun _ => rfl) qA) qS qR ?_
      refine WA.take 16 rfl qK qK qK rfl rfl qD (Yl.sub rfl rfl rfl (fun _ => rfl) qA) qS qR ?_
      refine WA.take 17 rfl qK qK qK rfl rfl qD (pureV_ok tab_ok rfl (fun _ => rfl)) qS qR ?_
      refine WA.effN 18 rfl qK rfl rfl (Ef.store 0 tab_ok rfl rfl rfl rfl rfl rfl rfl rfl ?_)
      refine ⟨by first | exact RLe.refl _ | assumption, qS, ?_⟩
      refine WA.done qK ?_
      refine WE.nxt (W.seq (W.region _ ?_))
      refine' WG.y rfl rfl qD (Yl.load1 tab_ok rfl rfl rfl (fun _ => rfl) ?r13 rfl ?h13) ?_
      case r13 => (exact Rd.blk 0 rfl)
      case h13 => rfl
      refine WL.efN rfl rfl (Ef.store0 3 tab_ok rfl rfl rfl rfl rfl rfl rfl rfl ?_)
      refine WG.run tab_ok 1 rfl (WG.nil (WE.nxt (W.ret ?_)))
      refine WE.retF tab_ok [_, _] rfl ⟨⟨_, _, _, rfl, rfl, rfl, ((by first | exact Rd.blk 0 rfl | exact Rd.blk 1 rfl | exact Rd.blk 2 rfl | exact Rd.blk 3 rfl | exact Rd.blk 4 rfl | exact Rd.blk 5 rfl | exact Rd.blk 6 rfl)), rfl⟩, rfl, trivial⟩ (hR1.trans hR2) ?_
      exact ⟨_, _, _, _, by first | rfl | (rw [hdr]; rfl), ha1x, ha2x, qS⟩
   ·
    refine W.regionH _ (ES := [.blk b8 [.slice fa2x (normR cg).vals.length ca2x, .int .i64 (normR cg).per, .int .i64 (normR cg).inc], .blk b6 [.slice fa1x (lineC cap).vals.length ca1x, .int .i64 (lineC cap).per, .int .i64 (lineC cap).inc]]) mixed ?_
    refine' WA.take 0 rfl qK qK qK rfl rfl qD (Yl.load1 tab_ok rfl rfl rfl (fun _ => rfl) ?r14 rfl ?h14) qS qR ?_
    case r14 => (exact Rd.blk 1 rfl)
    case h14 => rfl
    refine' WA.take 1 rfl qK qK qK rfl rfl qD (Yl.load1 tab_ok rfl rfl rfl (fun _ => rfl) ?r15 rfl ?h15) qS qR ?_
    case r15 => (exact Rd.blk 0 rfl)
    case h15 => rfl
    refine' WA.take 2 rfl qK qK qK rfl rfl qD (Yl.load1 tab_ok rfl rfl rfl (fun _ => rfl) ?r16 rfl ?h16) qS qR ?_
    case r16 => (exact Rd.blk 1 rfl)
    case h16 => rfl
    refine' WA.take 4 rfl qK qK qK rfl rfl qD (Yl.load1 tab_ok rfl rfl rfl (fun _ => rfl) ?r17 rfl ?h17) qS qR ?_
    case r17 => (exact Rd.blk 0 rfl)
    case h17 => rfl
    refine WA.take 7 rfl qK qK qK rfl rfl qD (pureV_ok tab_ok rfl (fun _ => rfl)) qS qR ?_
    refine' WA.take 8 rfl qK qK qK rfl rfl qD (Yl.load1 tab_ok rfl rfl rfl (fun _ => rfl) ?r18 rfl ?h18) qS qR ?_
    case r18 => apply Rd.add; (exact Rd.blk 1 rfl)
    case h18 => rfl
    refine WA.take 9 rfl qK qK qK rfl rfl qD (pureV_ok tab_ok rfl (fun _ => rfl)) qS qR ?_
    refine' WA.take 10 rfl qK qK qK rfl rfl qD (Yl.load1 tab_ok rfl rfl rfl (fun _ => rfl) ?r19 rfl ?h19) qS qR ?_
    case r19 => apply Rd.add; (exact Rd.blk 0 rfl)
    case h19 => rfl
    refine WA.br2 (i := 3) (j := 13) qK ?_ ?_
    ·
     refine WS.callG rfl en35 rfl (by first | rfl | decide) rfl qD (CallOp.mkT rfl rfl rfl rfl) ((WStartG_V hln.valid ha1x).toFn) ?_
     rintro _ _ _ - ⟨rfl, rfl, rfl⟩
     refine ⟨by first | exact RLe.refl _ | assumption, qS, ?_⟩
     refine WA.br2 (i := 5) (j := 13) qK ?_ ?_
     ·
      refine WS.callG rfl en35 rfl (by first | rfl | decide) rfl qD (CallOp.mkT rfl rfl rfl rfl) ((WStartG_V hng.valid ha2x).toFn) ?_
      rintro _ _ _ - ⟨rfl, rfl, rfl⟩
      refine ⟨by first | exact RLe.refl _ | assumption, qS, ?_⟩
      refine WA.take 6 rfl qK qK qK rfl rfl qD (pureV_ok tab_ok rfl (fun _ => rfl)) qS qR ?_
      refine WA.br2 (i := 11) (j := 13) qK ?_ ?_
      ·
       refine WS.callG rfl en33 rfl (by first | rfl | decide) rfl qD (CallOp.mkT rfl rfl rfl rfl) ((ComOne_V hP2 qO).toFn) ?_
       rintro _ _ _ - ⟨rfl, rfl, rfl⟩
       refine ⟨by first | exact RLe.refl _ | assumption, qS, ?_⟩
       -- build
       refine WA.take 12 rfl qK qK qK rfl rfl qD (Yl.build (parts := [(0, .tmp 28), (1, .tmp 29), (2, .tmp 34), (3, .tmp 39)]) tab_ok rfl rfl rfl rfl (fun _ => rfl) rfl rfl) qS qR ?_
       refine WA.eff 13 rfl qK rfl rfl qD (Ef.alloc tab_ok rfl rfl (fun b9 => ?_))
       refine ⟨by first | exact RLe.refl _ | assumption, qS, ?_⟩
       refine WA.effN 14 rfl qK rfl rfl (Ef.store0 0 tab_ok rfl rfl rfl rfl rfl rfl rfl rfl ?_)
       refine ⟨by first | exact RLe.refl _ | assumption, qS, ?_⟩
       refine WA.done qK ?_
       (rw [hmx]; refine WE.cut b9 trivial ⟨rfl, rfl, rfl, rfl, rfl⟩ (RLe.refl _) qS)
      ·
       refine WS.eff rfl rfl rfl qD (Ef.alloc tab_ok rfl rfl (fun b9 => ?_))
       refine ⟨by first | exact RLe.refl _ | assumption, qS, ?_⟩
       refine WA.callG 11 rfl qK en33 rfl (by first | rfl | decide) rfl qD (CallOp.mkT rfl rfl rfl rfl) ((ComOne_V hP2 qO).toFn) ?_
       rintro _ _ _ - ⟨rfl, rfl, rfl⟩
       refine ⟨by first | exact RLe.refl _ | assumption, qS, ?_⟩
       -- build
       refine WA.take 12 rfl qK qK qK rfl rfl qD (Yl.build (parts := [(0, .tmp 28), (1, .tmp 29), (2, .tmp 34), (3, .tmp 39)]) tab_ok rfl rfl rfl rfl (fun _ => rfl) rfl rfl) qS qR ?_
       refine WA.effN 14 rfl qK rfl rfl (Ef.store0 0 tab_ok rfl rfl rfl rfl rfl rfl rfl rfl ?_)
       refine ⟨by first | exact RLe.refl _ | assumption, qS, ?_⟩
       refine WA.done qK ?_
       (rw [hmx]; refine WE.cut b9 trivial ⟨rfl, rfl, rfl, rfl, rfl⟩ (RLe.refl _) qS)
     ·
      refine WS.eff rfl rfl rfl qD (Ef.alloc tab_ok rfl rfl (fun b9 => ?_))
      refine ⟨by first | exact RLe.refl _ | assumption, qS, ?_⟩
      refine WA.callG 5 rfl qK en35 rfl (by first | rfl | decide) rfl qD (CallOp.mkT rfl rfl rfl rfl) ((WStartG_V hng.valid ha2x).toFn) ?_
      rintro _ _ _ - ⟨rfl, rfl, rfl⟩
      refine ⟨by first | exact RLe.refl _ | assumption, qS, ?_⟩
      refine WA.take 6 rfl qK qK qK rfl rfl qD (pureV_ok tab_ok rfl (fun _ => rfl)) qS qR ?_
      refine WA.callG 11 rfl qK en33 rfl (by first | rfl | decide) rfl qD (CallOp.mkT rfl rfl rfl rfl) ((ComOne_V hP2 qO).toFn) ?_
      rintro _ _ _ - ⟨rfl, rfl, rfl⟩
      refine ⟨by first | exact RLe.refl _ | assumption, qS, ?_⟩
      -- build
      refine WA.take 12 rfl qK qK qK rfl rfl qD (Yl.build (parts := [(0, .tmp 28), (1, .tmp 29), (2, .tmp 34), (3, .tmp 39)]) tab_ok rfl rfl rfl rfl (fun _ => rfl) rfl rfl) qS qR ?_
      refine WA.effN 14 rfl qK rfl rfl (Ef.store0 0 tab_ok rfl rfl rfl rfl rfl rfl rfl rfl ?_)
      refine ⟨by first | exact RLe.refl _ | assumption, qS, ?_⟩
      refine WA.done qK ?_
      (rw [hmx]; refine WE.cut b9 trivial ⟨rfl, rfl, rfl, rfl, rfl⟩ (RLe.refl _) qS)
    ·
     refine WS.eff rfl rfl rfl qD (Ef.alloc tab_ok rfl rfl (fun b9 => ?_))
     refine ⟨by first | exact RLe.refl _ | assumption, qS, ?_⟩
     refine WA.callG 3 rfl qK en35 rfl (by first | rfl | decide) rfl qD (CallOp.mkT rfl rfl rfl rfl) ((WStartG_V hln.valid ha1x).toFn) ?_
     rintro _ _ _ - ⟨rfl, rfl, rfl⟩
     refine ⟨by first | exact RLe.refl _ | assumption, qS, ?_⟩
     refine WA.callG 5 rfl qK en35 rfl (by first | rfl | decide) rfl qD (CallOp.mkT rfl rfl rfl rfl) ((WStartG_V hng.valid ha2x).toFn) ?_
     rintro _ _ _ - ⟨rfl, rfl, rfl⟩
     refine ⟨by first | exact RLe.refl _ | assumption, qS, ?_⟩
     refine WA.take 6 rfl qK qK qK rfl rfl qD (pureV_ok tab_ok rfl (fun _ => rfl)) qS qR ?_
     refine WA.callG 11 rfl qK en33 rfl (by first | rfl | decide) rfl qD (CallOp.mkT rfl rfl rfl rfl) ((ComOne_V hP2 qO).toFn) ?_
     rintro _ _ _ - ⟨rfl, rfl, rfl⟩
     refine ⟨by first | exact RLe.refl _ | assumption, qS, ?_⟩
     -- build
     refine WA.take 12 rfl qK qK qK rfl rfl qD (Yl.build (parts := [(0, .tmp 28), (1, .tmp 29), (2, .tmp 34), (3, .tmp 39)]) tab_ok rfl rfl rfl rfl (fun _ => rfl) rfl rfl) qS qR ?_
     refine WA.effN 14 rfl qK rfl rfl (Ef.store0 0 tab_ok rfl rfl rfl rfl rfl rfl rfl rfl ?_)
     refine ⟨by first | exact RLe.refl _ | assumption, qS, ?_⟩
     refine WA.done qK ?_
     (rw [hmx]; refine WE.cut b9 trivial ⟨rfl, rfl, rfl, rfl, rfl⟩ (RLe.refl _) qS)

theorem RawG_V {R : Ro} {a1 : Option Addr} {c1 : Nat} {cap : Int} (hcap : 1 ≤ cap ∧ cap ≤ 4000) (hx1 : RS R 1 encI a1 (lineC cap).vals) {a2 : Option Addr} {c2 : Nat} {b : Cv} (hvb : validB b = true) (hx2 : RS R 1 encI a2 b.vals) {t : Nat} (ht : t ≤ 10000) : FnV Try.prog 94 [.agg #[.slice a1 (lineC cap).vals.length c1, .int .i64 (lineC cap).per, .int .i64 (lineC cap).inc, .slice a2 b.vals.length c2, .int .i64 b.per, .int .i64 b.inc, .int .i64 (stN b : Int), .int .i64 b.per, .int .i64 (driftL cap b)], .int .i64 (t : Int)] R (.int .i64 (rawL cap b t)) := by
 refine Fn.toV (fun w0 E => ?_)
 obtain ⟨hln, hlcv, hlf, hls⟩ := line_facts (cap := cap) (by omega)
 have hlnn : normR (lineC cap) = lineC cap := hln.norm
 have hbb := cvF_bound hvb t
 have i1 := isInf_iff hvb (t := t) (by omega)
 have hm := mulB (a := cap) (b := (t : Int)) (A := 4000) (B := 10000) (by omega) (by omega)
 have hlt : cvF (lineC cap) t = cap * (t : Int) := by rw [hlcv]
 unfold INF at hbb
 refine Fn.enter (n := 25) Try.func94 rfl rfl (Nat.le_of_ble_eq_true rfl) rfl ?_
 refine W.seq (W.region _ ?_)
 refine WL.ef rfl rfl qD (Ef.box rfl rfl (fun b2 => ?_))
 refine WG.run tab_ok 1 rfl (WG.nil (WE.nxt (W.seq ?_)))
 refine W.regionQ _ mixed qK ?_
 refine WG.run tab_ok 1 rfl ?_
 refine' WG.y rfl rfl qD (Yl.load1 tab_ok rfl rfl rfl (fun _ => rfl) ?r1 rfl ?h1) ?_
 case r1 => apply Rd.add; (exact Rd.blk 0 rfl)
 case h1 => rfl
 refine WG.run tab_ok 1 rfl ?_
 refine WG.callV en68 rfl rfl (by decide) (CallOp.mk' rfl rfl rfl rfl) (fun _ => rfl) (fun hg => by have h := WAtG_V (fc := c1) hln.valid hx1 (t := t) (by omega); rw [hlt] at h; exact h) ?_
 refine WG.run tab_ok 1 rfl ?_
 refine' WG.y rfl rfl qD (Yl.load1 tab_ok rfl rfl rfl (fun _ => rfl) ?r2 rfl ?h2) ?_
 case r2 => apply Rd.add; (exact Rd.blk 0 rfl)
 case h2 => rfl
 refine WG.run tab_ok 1 rfl ?_
 refine WG.callV en68 rfl rfl qD (CallOp.mk' rfl rfl rfl rfl) (fun _ => rfl) (fun hg => WAtG_V hvb hx2 qO) ?_
 refine WG.run tab_ok 2 rfl (WG.nil (WE.nxt (W.seq (W.block (W.seq (W.region _ (WG.run tab_ok 3 rfl (WG.nil (WE.nxt ?_)))))))))
 refine W.condE rfl (fun hc0 => ?_) (fun hc0 => ?_)
 ·try dsimp only at hc0
  have hr : rawL cap b t = 0 := if_pos (i1.2 hc0)
  refine W.seq (W.region _ (WG.run tab_ok 1 rfl (WG.nil (WE.nxt (W.ret (WE.blk_ret (WE.then_ret ?_)))))))
  refine WE.subE (E' := E) qS ?_
  refine WE.retF tab_ok [_] rfl ⟨rfl, trivial⟩ (RLe.refl _) ?_
  exact ⟨by rw [hr]; rfl, rfl⟩
 ·try dsimp only at hc0
  have hr : rawL cap b t = cap * (t : Int) - cvF b t := if_neg (fun h => hc0 (i1.1 h))
  refine W.seq (W.region _ (WG.run tab_ok 3 rfl (WG.nil (WE.nxt ?_))))
  refine W.condE rfl (fun hc1 => ?_) (fun hc1 => ?_)
  ·try dsimp only at hc1
   exfalso; omega
  ·try dsimp only at hc1
   refine W.skip (WE.blk _ (WE.nxt (W.seq (W.region _ (WG.run tab_ok 2 rfl ?_)))))
   refine WG.y rfl rfl qD (Yl.sub rfl rfl rfl (fun _ => rfl) qA) ?_
   refine WG.run tab_ok 1 rfl (WG.nil (WE.nxt (W.ret ?_)))
   refine WE.subE (E' := E) qS ?_
   refine WE.retF tab_ok [_] rfl ⟨rfl, trivial⟩ (RLe.refl _) ?_
   exact ⟨by rw [hr]; rfl, rfl⟩

theorem RestF_V {R : Ro} {b11 : Nat} {a : Option Addr} {c : Nat} {xs : List Int} (h11 : R b11 = some [.slice a xs.length c]) (hx : RS R 1 encI a xs) {t : Nat} (ht : t < xs.length) : FnV Try.prog 95 [.int .i64 (t : Int), .pointer (some ⟨b11, 0, none⟩)] R (.int .i64 (nth xs t)) := by
 refine Fn.toV (fun w0 E => ?_)
 have hla := hx.len
 refine Fn.enter (n := 8) Try.func95 rfl rfl (Nat.le_of_ble_eq_true rfl) rfl ?_
 refine W.seq (W.region _ (WG.run tab_ok 1 rfl (WG.nil (WE.nxt (W.seq (W.region _ ?_))))))
 refine' WG.y rfl rfl qD (Yl.load1 tab_ok rfl rfl rfl (fun _ => rfl) ?r1 rfl ?h1) ?_
 case r1 => exact Rd.ro h11
 case h1 => rfl
 refine WG.run tab_ok 1 rfl ?_
 refine WG.y rfl rfl qD (Yl.indexN tab_ok rfl rfl rfl rfl rfl rfl (fun _ => rfl) qN qH) ?_
 refine' WG.y rfl rfl qD (Yl.load1 tab_ok rfl rfl rfl (fun _ => rfl) ?r2 rfl ?h2) ?_
 case r2 => ((apply RS.rdD; assumption; ((try dsimp only) <;> omega)))
 case h2 => rfl
 refine WG.run tab_ok 1 rfl (WG.nil (WE.nxt (W.ret ?_)))
 refine WE.subE (E' := E) qS ?_
 refine WE.retF tab_ok [_] rfl ⟨rfl, trivial⟩ (RLe.refl _) ?_
 exact ⟨rfl, rfl⟩

set_option maxHeartbeats 2000000 in
theorem Rest_C {R : Ro} {la : Option Addr} {lc : Nat} {cap : Int} (hcap : 1 ≤ cap ∧ cap ≤ 4000) (hla : RS R 1 encI la (lineC cap).vals) {ga : Option Addr} {gc : Nat} {cg : Cv} (hvg : validB cg = true) (hb : RS R 1 encI ga cg.vals) (w0 : World) (E : List Ent) : K.Fn Try.prog 57 [.agg #[.slice la (lineC cap).vals.length lc, .int .i64 (lineC cap).per, .int .i64 (lineC cap).inc], .agg #[.slice ga cg.vals.length gc, .int .i64 cg.per, .int .i64 cg.inc]] w0 R E (fun r R' E' => ∃ (f : Option Addr) (fc : Nat), r = cvV f fc (restC cap cg) ∧ RS R' 1 encI f (restC cap cg).1.vals ∧ E.Sublist E') := by
 obtain ⟨hln, hlcv, hlf, hls⟩ := line_facts (cap := cap) (by omega)
 have hlnn : normR (lineC cap) = lineC cap := hln.norm
 have hng := norm_nrm hvg
 obtain ⟨_, g1, g2, g3, g4, g5, g6, g7⟩ := valid_range hng.valid
 have hst := stN_lt hng.valid
 obtain ⟨P2, hP2⟩ := Int.eq_ofNat_of_zero_le (show 0 ≤ (normR cg).per by omega)
 have hmul := mulB (a := (normR cg).per) (b := cap) (A := 120) (B := 4000) (by omega) (by omega)
 have hdb : -2000000000 ≤ driftL cap (normR cg) ∧ driftL cap (normR cg) ≤ 480000 := by unfold driftL; omega
 have hperI : (((normR cg).per.toNat : Nat) : Int) = (normR cg).per := by omega
 have hfr := fun t (ht : t ≤ 10000) => rawL_range (cap := cap) (b := normR cg) (by omega) hng.valid ht
 have hmr := fun t (ht : t ≤ 10000) => mostV_range (cap := cap) (b := normR cg) (s := stN (normR cg)) (by omega) hng.valid ht
 have htr := fun t (ht : t ≤ 10000) => tailV_range (cap := cap) (b := normR cg) (s := stN (normR cg)) (by omega) hng.valid ht
 unfold INF at htr
 refine Fn.enter (n := 99) Try.func57 rfl rfl (Nat.le_of_ble_eq_true rfl) rfl ?_
 refine W.seq (W.region _ ?_)
 refine WL.ef rfl rfl qD (Ef.box rfl rfl (fun b2 => ?_))
 refine WL.ef rfl rfl qD (Ef.box rfl rfl (fun b3 => ?_))
 refine WL.ef rfl rfl qD (Ef.alloc tab_ok rfl rfl (fun b4 => ?_))
 refine WG.run tab_ok 1 rfl (WG.nil (WE.nxt (W.seq (W.region _ ?_))))
 refine' WG.y rfl rfl qD (Yl.load1 tab_ok rfl rfl rfl (fun _ => rfl) ?r1 rfl ?h1) ?_
 case r1 => (exact Rd.blk 2 rfl)
 case h1 => rfl
 refine' WG.y rfl rfl qD (Yl.load1 tab_ok rfl rfl rfl (fun _ => rfl) ?r2 rfl ?h2) ?_
 case r2 => (exact Rd.blk 1 rfl)
 case h2 => rfl
 refine WL.call en93 rfl rfl qD (CallOp.mkT rfl rfl rfl rfl) (RBoth_C hcap hla hvg hb w0 _) ?_
 rintro _ R1 _ hR1 ⟨a1, a2, c1, c2, rfl, hx1, hx2, hsub⟩
 refine WL.subE hsub ?_
 refine WG.run tab_ok 3 rfl ?_
 refine WL.ef rfl rfl qD (Ef.alloc tab_ok rfl rfl (fun b6 => ?_))
 refine WL.efN rfl rfl (Ef.store0 0 tab_ok rfl rfl rfl rfl rfl rfl rfl rfl ?_)
 refine WG.run tab_ok 1 rfl (WG.nil (WE.nxt (W.seq (W.seq (W.region _ (WG.run tab_ok 2 rfl (WG.nil (WE.nxt ?_))))))))
 refine W.condN rfl (fun hc0 => ?_) (fun hc0 => ?_)
 ·try dsimp only at hc0
  exact absurd rfl hc0
 ·try dsimp only at hc0
  refine W.skip (WE.nxt (W.seq (W.region _ (WG.run tab_ok 1 rfl ?_))))
  refine' WG.y rfl rfl qD (Yl.load1 tab_ok rfl rfl rfl (fun _ => rfl) ?r3 rfl ?h3) ?_
  case r3 => apply Rd.add; (exact Rd.blk 0 rfl)
  case h3 => rfl
  refine WG.run tab_ok 1 rfl ?_
  refine' WG.y rfl rfl qD (Yl.load1 tab_ok rfl rfl rfl (fun _ => rfl) ?r4 rfl ?h4) ?_
  case r4 => apply Rd.add; (exact Rd.blk 0 rfl)
  case h4 => rfl
  refine WG.y rfl rfl qD (Yl.add rfl rfl rfl (fun _ => rfl) qA) ?_
  refine WG.run tab_ok 3 rfl (WG.nil (WE.nxt ?_))
  refine W.seqCut (β := Nat × Nat × Int) (fun (x, y, z) => ((finB (normR cg) = true ∧ 0 < driftL cap (normR cg)) ∧ x = 400 ∧ y = (normR cg).per.toNat ∧ z = driftL cap (normR cg)) ∨ (¬ (finB (normR cg) = true ∧ 0 < driftL cap (normR cg)) ∧ x = (stN (normR cg)) + (normR cg).per.toNat ∧ y = 1 ∧ z = 0)) (fun (x, y, z) => [(4, true, .pointer (some ⟨b4, 0, none⟩)), (6, true, .pointer (some ⟨b6, 0, none⟩)), (8, true, .int .i64 (x : Int)), (9, true, .int .i64 (y : Int)), (10, true, .int .i64 z)]) (fun _ => R1) (fun _ => .blk b6 [.slice a1 (lineC cap).vals.length c1, .int .i64 (lineC cap).per, .int .i64 (lineC cap).inc, .slice a2 (normR cg).vals.length c2, .int .i64 (normR cg).per, .int .i64 (normR cg).inc, .int .i64 (stN (normR cg) : Int), .int .i64 (normR cg).per, .int .i64 (driftL cap (normR cg))] :: .blk b4 [.slice none 0 0, .int .i64 0, .int .i64 0] :: E) ?_ ?_
  ·
   intro st hst
   obtain ⟨from_, per, inc⟩ := st
   dsimp only at hst ⊢
   have hcs := hst
   have hst := stN_lt hng.valid
   have hfp : from_ ≤ 400 ∧ 1 ≤ per ∧ per ≤ 120 ∧ 0 ≤ inc ∧ inc ≤ 480000 := by rcases hcs with ⟨h1, h2, h3, h4⟩ | ⟨h1, h2, h3, h4⟩ <;> omega
   refine W.seq (W.region _ (WG.run tab_ok 2 rfl ?_))
   refine WG.y rfl rfl qD (Yl.add rfl rfl rfl (fun _ => rfl) qA) ?_
   refine WL.ef rfl rfl qD (Ef.makeSliceD (enc := encI) 0 tab_ok rfl rfl rfl rfl rfl rfl qX qX qX qX qD rfl rfl (fun a53 => ?_))
   refine WL.ef rfl rfl qD (Ef.alloc tab_ok rfl rfl (fun b11 => ?_))
   refine WL.efN rfl rfl (Ef.store0 0 tab_ok rfl rfl rfl rfl rfl rfl rfl rfl ?_)
   refine WG.nil (WE.nxt ?_)
   have e3 : ((from_ : Int) + (per : Int)).toNat = from_ + per := by omega
   rw [e3, ← partV_zero (restF cap (normR cg))]
   refine W.seq (W.region _ (WG.run tab_ok 2 rfl (WG.nil (WE.nxt (W.seq (W.seq (W.region _ ?_)))))))
   refine' WG.y rfl rfl qD (Yl.load1 tab_ok rfl rfl rfl (fun _ => rfl) ?r5 rfl ?h5) ?_
   case r5 => (exact Rd.blk 0 rfl)
   case h5 => rfl
   refine WG.run tab_ok 2 rfl (WG.nil (WE.nxt (W.block ?_)))
   refine W.loopK (β := Nat) (fun t => t ≤ from_ + per ∧ ((finB (normR cg) = true ∧ 0 < driftL cap (normR cg)) → 400 < t → ¬ tailF (rawL cap (normR cg)) (stN (normR cg)) (400 - (stN (normR cg))) < mostF (rawL cap (normR cg)) (stN (normR cg)))) (fun t => [(12, true, .int .i64 (mostV (rawL cap (normR cg)) (stN (normR cg)) t)), (13, true, .int .i64 (tailV (rawL cap (normR cg)) (stN (normR cg)) t)), (56, true, .int .i64 (t : Int))]) [4, 6, 8, 9, 10, 11, 55] [_, _, _, _, _, _, _] [] _ rfl (fun t => [(1, .sl 3 1 (some ⟨a53, 0, none⟩) (from_ + per) ((partV (restF cap (normR cg)) t (from_ + per)).map encI))]) (fun t => from_ + per - t) (0) (⟨Nat.zero_le _, fun _ h => by omega⟩) ⟨vint (by unfold mostV; rw [Nat.zero_min]; rfl), vint (by unfold tailV; rw [if_pos (Nat.zero_le _)]; rfl), rfl, rfl, rfl, rfl, rfl, rfl, rfl, rfl, rfl⟩ qS ?_
   intro t hst
   dsimp only [zipE, setAll, List.cons_append, List.nil_append, List.set_cons_zero, List.set_cons_succ] at hst ⊢
   have hlp := hst
   refine W.seq (W.region _ (WG.run tab_ok 1 rfl (WG.nil (WE.nxt (W.seq ?_)))))
   refine W.condD rfl (fun hc1 => ?_) (fun hc1 => ?_)
   ·try dsimp only at hc1
    have htn : t < from_ + per := by omega
    have hpl := partV_len (restF cap (normR cg)) (t := t) (n := from_ + per) (by omega)
    have hset := partV_set (restF cap (normR cg)) htn
    have hr1 := hfr t (by omega)
    have hm1 := hmr t (by omega)
    have ht1 := htr t (by omega)
    have hval := rest_vals (cap := cap) (b := normR cg) (s := (stN (normR cg))) (t := t)
    refine W.skip (WE.nxt (W.seq (W.block (W.seq (W.region _ (WG.run tab_ok 2 rfl (WG.nil (WE.nxt (W.seq (W.region _ ?_))))))))))
    refine' WG.y rfl rfl qD (Yl.load1 tab_ok rfl rfl rfl (fun _ => rfl) ?r6 rfl ?h6) ?_
    case r6 => (exact Rd.blk 2 rfl)
    case h6 => rfl
    refine WG.run tab_ok 1 rfl ?_
    refine WG.callV en94 rfl rfl qD (CallOp.mk' rfl rfl rfl rfl) (fun _ => rfl) (fun hg => RawG_V hcap hx1 hng.valid hx2 qO) ?_
    refine WG.run tab_ok 1 rfl (WG.nil (WE.nxt (W.seq (W.seq (W.region _ (WG.run tab_ok 2 rfl ?_))))))
    refine' WG.y rfl rfl qD (Yl.load1 tab_ok rfl rfl rfl (fun _ => rfl) ?r7 rfl ?h7) ?_
    case r7 => apply Rd.add; (exact Rd.blk 2 rfl)
    case h7 => rfl
    refine WG.run tab_ok 1 rfl (WG.nil (WE.nxt ?_))
    refine W.condD rfl (fun hc2 => ?_) (fun hc2 => ?_)
    ·try dsimp only at hc2
     have hge : (stN (normR cg)) ≤ t := by omega
     have htl : (if tailV (rawL cap (normR cg)) (stN (normR cg)) t < (rawL cap (normR cg)) t then (rawL cap (normR cg)) t else tailV (rawL cap (normR cg)) (stN (normR cg)) t) = tailV (rawL cap (normR cg)) (stN (normR cg)) (t + 1) := by rw [tailV_succ hge (by unfold INF; omega)]; split <;> omega
     have hms := mostV_high (f := (rawL cap (normR cg))) hge
     rw [hms] at hval
     have hvx : (if mostV (rawL cap (normR cg)) (stN (normR cg)) t < tailV (rawL cap (normR cg)) (stN (normR cg)) (t + 1) then tailV (rawL cap (normR cg)) (stN (normR cg)) (t + 1) else mostV (rawL cap (normR cg)) (stN (normR cg)) t) = (restF cap (normR cg)) t := by rw [← hval]; split <;> omega
     refine W.region _ (WG.run tab_ok 4 rfl ?_)
     rw [htl]
     refine WG.nil (WE.nxt (W.seq (W.region _ ?_)))
     refine' WG.y rfl rfl qD (Yl.load1 tab_ok rfl rfl rfl (fun _ => rfl) ?r8 rfl ?h8) ?_
     case r8 => (exact Rd.blk 0 rfl)
     case h8 => rfl
     refine WG.run tab_ok 4 rfl ?_
     rw [hvx]
     refine WG.y rfl rfl qD (Yl.indexN tab_ok rfl rfl rfl rfl rfl rfl (fun _ => rfl) qN qH) ?_
     refine WL.efN rfl rfl (Ef.storeD _ 1 tab_ok rfl rfl rfl rfl rfl qX rfl rfl rfl rfl ?_)
     refine WG.nil (WE.nxt (W.seq (W.region _ (WG.run tab_ok 4 rfl ?_))))
     refine WG.y rfl rfl qD (pureV_ok tab_ok rfl qE) ?_
     refine WG.y rfl rfl qD (pureV_ok tab_ok rfl qE) ?_
     refine WG.y rfl rfl (by decide) (Yl.pand rfl rfl rfl (fun _ => rfl) (by intro h1 h2; simp_all <;> omega)) ?_
     refine WG.run tab_ok 1 rfl ?_
     refine WG.y rfl rfl qD (pureV_ok tab_ok rfl qE) ?_
     refine WG.y rfl rfl qD (pureV_ok tab_ok rfl qE) ?_
     refine WG.y rfl rfl qD (pureV_ok tab_ok rfl qE) ?_
     refine WG.y rfl rfl (by decide) (Yl.pand rfl rfl rfl (fun _ => rfl) (by intro h1 h2; simp_all <;> omega)) ?_
     refine WG.nil (WE.nxt ?_)
     refine W.cond rfl (fun hc3 => ?_) (fun hc3 => ?_)
     ·try simp only [kk] at hc3
      have hd : restC cap cg = (zcv, 3) := by
       unfold restC
       rw [if_neg (by rw [hvg]; simp)]
       rcases hcs with ⟨h1, rfl, rfl, rfl⟩ | ⟨h1, rfl, rfl, rfl⟩
       ·obtain rfl : t = 400 := by omega
        rw [if_pos h1, if_pos]
        have h2 := hc3.2
        unfold tailV mostV at h2
        rw [if_neg (by omega), show 400 + 1 - 1 - (stN (normR cg)) = 400 - (stN (normR cg)) by omega, show min 400 (stN (normR cg)) = (stN (normR cg)) by omega] at h2
        exact h2
       ·omega
      refine W.seq (W.region _ ?_)
      -- build
      refine WG.y rfl rfl qD (Yl.build (parts := []) tab_ok rfl rfl rfl rfl (fun _ => rfl) rfl rfl) ?_
      refine WL.efN rfl rfl (Ef.store0 3 tab_ok rfl rfl rfl rfl rfl rfl rfl rfl ?_)
      refine WG.run tab_ok 1 rfl (WG.nil (WE.nxt (W.ret (WE.blk_ret (WE.then_ret (WE.then_ret (WE.blk_ret (WE.then_ret ?_))))))))
      refine WE.retF tab_ok [_, _] rfl ⟨⟨_, _, _, rfl, rfl, rfl, ((by first | exact Rd.blk 0 rfl | exact Rd.blk 1 rfl | exact Rd.blk 2 rfl | exact Rd.blk 3 rfl | exact Rd.blk 4 rfl | exact Rd.blk 5 rfl | exact Rd.blk 6 rfl | exact Rd.blk 7 rfl)), rfl⟩, rfl, trivial⟩ ((by first | exact hR1 | exact hR1.trans (hR2.trans (hR3.trans hR4)))) ?_
      exact ⟨none, 0, by rw [hd]; rfl, by rw [hd]; exact rs_nil, qS⟩
     ·try simp only [kk] at hc3
      have hnx : (finB (normR cg) = true ∧ 0 < driftL cap (normR cg)) → 400 < t + 1 → ¬ tailF (rawL cap (normR cg)) (stN (normR cg)) (400 - (stN (normR cg))) < mostF (rawL cap (normR cg)) (stN (normR cg)) := fun h1 h2 => by
       by_cases e : t = 400
       ·subst e
        rcases hcs with ⟨_, rfl, rfl, rfl⟩ | ⟨h3, _⟩
        ·intro h4
         have h5 : ¬ tailV (rawL cap (normR cg)) (stN (normR cg)) (400 + 1) < mostV (rawL cap (normR cg)) (stN (normR cg)) 400 := fun hh => by
          (have := hc3 ⟨rfl, h1.2⟩; omega)
         unfold tailV mostV at h5
         rw [if_neg (by omega), show 400 + 1 - 1 - (stN (normR cg)) = 400 - (stN (normR cg)) by omega, show min 400 (stN (normR cg)) = (stN (normR cg)) by omega] at h5
         exact h5 h4
        ·exact absurd h1 h3
       ·exact hlp.2 h1 (by omega)
      refine W.skip (WE.blk _ (WE.nxt (W.region _ ?_)))
      refine WG.y rfl rfl qD (Yl.add rfl rfl rfl (fun _ => rfl) qA) ?_
      refine WG.run tab_ok 1 rfl (WG.nil ?_)
      refine WE.again (t + 1) (⟨by omega, hnx⟩) (by (try dsimp only); omega) ⟨vint hms.symm, rfl, rfl, rfl, rfl, rfl, rfl, rfl, rfl, rfl, rfl⟩ (RLe.refl _) (by dsimp only [setAll, List.set_cons_zero, List.set_cons_succ]; rw [hset]; exact List.Sublist.refl _)
    ·try dsimp only at hc2
     have hlt : t < (stN (normR cg)) := by omega
     have hml : (if mostV (rawL cap (normR cg)) (stN (normR cg)) t < (rawL cap (normR cg)) t then (rawL cap (normR cg)) t else mostV (rawL cap (normR cg)) (stN (normR cg)) t) = mostV (rawL cap (normR cg)) (stN (normR cg)) (t + 1) := by rw [mostV_succ hlt]; split <;> omega
     have hts := tailV_low (f := (rawL cap (normR cg))) hlt
     rw [hts] at hval
     have hvx : (if mostV (rawL cap (normR cg)) (stN (normR cg)) (t + 1) < tailV (rawL cap (normR cg)) (stN (normR cg)) t then tailV (rawL cap (normR cg)) (stN (normR cg)) t else mostV (rawL cap (normR cg)) (stN (normR cg)) (t + 1)) = (restF cap (normR cg)) t := by rw [← hval]; split <;> omega
     refine W.region _ (WG.run tab_ok 4 rfl ?_)
     rw [hml]
     refine WG.nil (WE.nxt (W.seq (W.region _ ?_)))
     refine' WG.y rfl rfl qD (Yl.load1 tab_ok rfl rfl rfl (fun _ => rfl) ?r9 rfl ?h9) ?_
     case r9 => (exact Rd.blk 0 rfl)
     case h9 => rfl
     refine WG.run tab_ok 4 rfl ?_
     rw [hvx]
     refine WG.y rfl rfl qD (Yl.indexN tab_ok rfl rfl rfl rfl rfl rfl (fun _ => rfl) qN qH) ?_
     refine WL.efN rfl rfl (Ef.storeD _ 1 tab_ok rfl rfl rfl rfl rfl qX rfl rfl rfl rfl ?_)
     refine WG.nil (WE.nxt (W.seq (W.region _ (WG.run tab_ok 4 rfl ?_))))
     refine WG.y rfl rfl qD (pureV_ok tab_ok rfl qE) ?_
     refine WG.y rfl rfl qD (pureV_ok tab_ok rfl qE) ?_
     refine WG.y rfl rfl (by decide) (Yl.pand rfl rfl rfl (fun _ => rfl) (by intro h1 h2; simp_all <;> omega)) ?_
     refine WG.run tab_ok 1 rfl ?_
     refine WG.y rfl rfl qD (pureV_ok tab_ok rfl qE) ?_
     refine WG.y rfl rfl qD (pureV_ok tab_ok rfl qE) ?_
     refine WG.y rfl rfl qD (pureV_ok tab_ok rfl qE) ?_
     refine WG.y rfl rfl (by decide) (Yl.pand rfl rfl rfl (fun _ => rfl) (by intro h1 h2; simp_all <;> omega)) ?_
     refine WG.nil (WE.nxt ?_)
     refine W.cond rfl (fun hc4 => ?_) (fun hc4 => ?_)
     ·try simp only [kk] at hc4
      exfalso; rcases hcs with ⟨h1, rfl, rfl, rfl⟩ | ⟨h1, rfl, rfl, rfl⟩ <;> omega
     ·try simp only [kk] at hc4
      have hnx : (finB (normR cg) = true ∧ 0 < driftL cap (normR cg)) → 400 < t + 1 → ¬ tailF (rawL cap (normR cg)) (stN (normR cg)) (400 - (stN (normR cg))) < mostF (rawL cap (normR cg)) (stN (normR cg)) := fun h1 h2 => hlp.2 h1 (by omega)
      refine W.skip (WE.blk _ (WE.nxt (W.region _ ?_)))
      refine WG.y rfl rfl qD (Yl.add rfl rfl rfl (fun _ => rfl) qA) ?_
      refine WG.run tab_ok 1 rfl (WG.nil ?_)
      refine WE.again (t + 1) (⟨by omega, hnx⟩) (by (try dsimp only); omega) ⟨rfl, vint hts.symm, rfl, rfl, rfl, rfl, rfl, rfl, rfl, rfl, rfl⟩ (RLe.refl _) (by dsimp only [setAll, List.set_cons_zero, List.set_cons_succ]; rw [hset]; exact List.Sublist.refl _)
   ·try dsimp only at hc1
    obtain rfl : t = from_ + per := by omega
    rw [partV_all]
    have hd : restC cap cg = mbuild (restF cap (normR cg)) from_ per inc := by
     unfold restC
     rw [if_neg (by rw [hvg]; simp)]
     rcases hcs with ⟨h1, rfl, rfl, rfl⟩ | ⟨h1, rfl, rfl, rfl⟩
     ·rw [if_pos h1, if_neg (hlp.2 h1 (by omega))]
     ·rw [if_neg h1]
    have hrb : ∀ t : Nat, t ≤ 1000 → 0 ≤ (restF cap (normR cg)) t ∧ (restF cap (normR cg)) t ≤ 1000000000000000 := fun t ht => by
     have h1 := restF_bound (cap := cap) (b := normR cg) (by omega) hng.valid t
     have h2 := mulB (a := cap) (b := (t : Int)) (A := 4000) (B := 1000) (by omega) (by omega)
     omega
    refine W.exit ?_
    refine WE.then_exit (WE.then_exit (WE.blk_exit (WE.nxt ?_)))
    refine W.freeze (enc := encI) (xs := fvals (restF cap (normR cg)) (from_ + per)) 1 rfl ?_
    intro R2 hR2 hxs
    refine W.freezeBlk 0 rfl ?_
    intro R3 hR3 h11
    have hxs := hxs.mono hR3
    have hfl := fvals_len (restF cap (normR cg)) (from_ + per)
    have h11' := h11
    rw [← hfl] at h11'
    have hF : ∀ t : Nat, t < from_ + per → FnV Try.prog 95 ((#[] : Array Value).toList ++ [.int .i64 (t : Int)] ++ (#[.pointer (some ⟨b11, 0, none⟩)] : Array Value).toList) R3 (.int .i64 ((restF cap (normR cg)) t)) := fun t ht => by
     have h := RestF_V h11' hxs (t := t) (by omega)
     rw [fvals_nth _ ht] at h
     exact h
    refine W.seq (W.region _ (WG.run tab_ok 4 rfl ?_))
    refine WL.call en40 rfl rfl qD (CallOp.mkT rfl rfl rfl rfl) (Build_C (S := from_) (P := per) (I := inc) (F := (restF cap (normR cg))) en95 qO qO qO (fun t ht => .inr (hrb t qO)) hF w0 _) ?_
    rintro _ R4 E4 hR4 ⟨fr, frc, rfl, hfr4, hsub⟩
    refine WL.subE hsub ?_
    rw [← hd] at hfr4 ⊢
    unfold cvV
    refine WG.run tab_ok 2 rfl ?_
    refine WL.efN rfl rfl (Ef.store0 1 tab_ok rfl rfl rfl rfl rfl rfl rfl rfl ?_)
    refine WG.run tab_ok 1 rfl (WG.nil (WE.nxt (W.ret ?_)))
    refine WE.retF tab_ok [_, _] rfl ⟨⟨_, _, _, rfl, rfl, rfl, ((by first | exact Rd.blk 0 rfl | exact Rd.blk 1 rfl | exact Rd.blk 2 rfl | exact Rd.blk 3 rfl | exact Rd.blk 4 rfl | exact Rd.blk 5 rfl | exact Rd.blk 6 rfl | exact Rd.blk 7 rfl)), rfl⟩, rfl, trivial⟩ ((by first | exact hR1 | exact hR1.trans (hR2.trans (hR3.trans hR4)))) ?_
    exact ⟨fr, frc, rfl, hfr4, qS⟩
  ·
   refine W.seq (W.region _ (WG.run tab_ok 1 rfl ?_))
   refine' WG.y rfl rfl qD (Yl.load1 tab_ok rfl rfl rfl (fun _ => rfl) ?r10 rfl ?h10) ?_
   case r10 => apply Rd.add; (exact Rd.blk 0 rfl)
   case h10 => rfl
   refine WG.callV (v := .bool true) en37 rfl rfl (by decide) (CallOp.mk' rfl rfl rfl rfl) (fun _ => rfl) (fun hg => by have h := WFiniteG_V (fc := c1) hln.valid hx1; rw [hlf] at h; exact h) ?_
   refine WG.run tab_ok 1 rfl ?_
   refine WG.y rfl rfl qD (pureV_ok tab_ok rfl qE) ?_
   refine' WG.y rfl rfl qD (Yl.loadG tab_ok rfl rfl rfl qE ?r11 rfl ?h11 ?g11) ?_
   case r11 => apply Rd.addC; (exact Rd.blkC 0 rfl)
   case h11 => rfl
   case g11 => exact fun _ => trivial
   refine WG.callV en37 rfl rfl qD (CallOp.mk' rfl rfl rfl rfl) qE (fun hg => WFiniteG_V hng.valid hx2) ?_
   refine WG.y rfl rfl (by decide) (Yl.pand rfl rfl rfl (fun _ => rfl) (by intro h1 h2; simp_all <;> omega)) ?_
   refine WG.run tab_ok 1 rfl ?_
   refine WG.y rfl rfl qD (pureV_ok tab_ok rfl qE) ?_
   refine' WG.y rfl rfl qD (Yl.loadG tab_ok rfl rfl rfl qE ?r12 rfl ?h12 ?g12) ?_
   case r12 => apply Rd.addC; (exact Rd.blkC 0 rfl)
   case h12 => rfl
   case g12 => exact fun _ => trivial
   refine WG.y rfl rfl qD (pureV_ok tab_ok rfl qE) ?_
   refine WG.y rfl rfl (by decide) (Yl.pand rfl rfl rfl (fun _ => rfl) (by intro h1 h2; simp_all <;> omega)) ?_
   refine WG.nil (WE.nxt ?_)
   refine W.cond rfl (fun hc5 => ?_) (fun hc5 => ?_)
   ·try simp only [kk] at hc5
    obtain ⟨_, m1, m2, _⟩ := line_facts (cap := cap) (by omega)
    have hdc : (finB (normR cg) = true ∧ 0 < driftL cap (normR cg)) := by first | exact ⟨hc5.1.2, hc5.2⟩ | exact hc5 | exact ⟨hc5.1, hc5.2⟩
    have hmx4 : (if (400 : Int) < (stN (normR cg) : Int) + (normR cg).per then (stN (normR cg) : Int) + (normR cg).per else (400 : Int)) = 400 := if_neg (by omega)
    refine W.regionQ _ mixed qK ?_
    refine WG.run tab_ok 3 rfl ?_
    refine' WG.y rfl rfl qD (Yl.load1 tab_ok rfl rfl rfl (fun _ => rfl) ?r13 rfl ?h13) ?_
    case r13 => apply Rd.add; (exact Rd.blk 0 rfl)
    case h13 => rfl
    refine WG.run tab_ok 1 rfl ?_
    refine' WG.y rfl rfl qD (Yl.load1 tab_ok rfl rfl rfl (fun _ => rfl) ?r14 rfl ?h14) ?_
    case r14 => apply Rd.add; (exact Rd.blk 0 rfl)
    case h14 => rfl
    refine WG.run tab_ok 3 rfl (WG.nil ?_)
    refine WE.cut (400, (normR cg).per.toNat, driftL cap (normR cg)) (.inl ⟨hdc, rfl, rfl, rfl⟩) ⟨rfl, rfl, vint (by rw [hmx4]; rfl), vint hperI.symm, rfl, rfl⟩ (RLe.refl _) qS
   ·try simp only [kk] at hc5
    have hdc : ¬ (finB (normR cg) = true ∧ 0 < driftL cap (normR cg)) := fun h => by first | exact hc5 h | exact hc5 h.1 h.2 | (have := hc5 h.1; have := h.2; omega) | (have := hc5 ⟨rfl, h.1⟩; have := h.2; omega) | (have := hc5 ⟨trivial, h.1⟩; have := h.2; omega) | (have := hc5 rfl h.1; have := h.2; omega)
    refine W.skip ?_
    refine WE.cut (stN (normR cg) + (normR cg).per.toNat, 1, 0) (.inr ⟨hdc, rfl, rfl, rfl⟩) ⟨rfl, rfl, vint qO, rfl, rfl, rfl⟩ (RLe.refl _) qS

end Go.Proofs.Ytnackbfnmhkodaa

/- Chapter 18: the curve of a class. No condition. -/
set_option maxRecDepth 4000
set_option linter.unusedSimpArgs false
set_option linter.unusedVariables false
namespace Go.Proofs.Ytnackbfnmhkodaa
open Go Go.RowKit Go.Proofs.Ytnackbfnmhkodaa.K Go.Proofs.Ytnackbfnmhkodaa.M

theorem PTotal_len {R : Ro} {la : Option Addr} {lc l : Nat} {ls : List CvS} (hl : ls.length = l) (hla : RS R 3 encC la ls) (hls : ∀ x ∈ ls, RS R 1 encI x.a x.cv.vals ∧ validB x.cv = true) (w0 : World) (E : List Ent) : K.Fn Try.prog 54 [.slice la l lc] w0 R E (fun r R' E' => ∃ (f : Option Addr) (fc : Nat), r = cvV f fc (totalC (ls.map CvS.cv)) ∧ RS R' 1 encI f (totalC (ls.map CvS.cv)).1.vals ∧ E.Sublist E') := by
 subst hl; exact PTotal_C hla hls w0 E

set_option maxHeartbeats 1000000 in
theorem PCurve_C {R : Ro} {la za : Option Addr} {lc zc : Nat} {ls : List CvS} {z : List Sz} (hla : RS R 3 encC la ls) (hlc : ls.length ≤ lc) (hls : ∀ x ∈ ls, RS R 1 encI x.a x.cv.vals ∧ x.cv.vals.length ≤ 100000) (hzr : RS R 2 encZ za z) (hzc : z.length ≤ zc) {cap cls : Int} (w0 : World) (E : List Ent) : K.Fn Try.prog 23 [.int .i64 cap, .int .i64 cls, .slice la ls.length lc, .slice za z.length zc] w0 R E (fun r R' E' => ∃ (f : Option Addr) (fc : Nat), r = cvV f fc (prioC cap cls (ls.map CvS.cv) z) ∧ RS R' 1 encI f (prioC cap cls (ls.map CvS.cv) z).1.vals ∧ E.Sublist E') := by
 have hll := hla.len
 have hlz := hzr.len
 refine Fn.enter (n := 92) Try.func23 rfl rfl (Nat.le_of_ble_eq_true rfl) rfl ?_
 refine W.seq (W.region _ ?_)
 refine WL.ef rfl rfl qD (Ef.alloc tab_ok rfl rfl (fun b8 => ?_))
 refine WG.run tab_ok 1 rfl (WG.nil (WE.nxt (W.seq (W.seq (W.region _ (WG.run tab_ok 3 rfl ?_))))))
 refine WG.callV en25 rfl rfl qD (CallOp.mk' rfl rfl rfl rfl) (fun _ => rfl) (fun hg => CheckP_V hzr) ?_
 refine WG.run tab_ok 1 rfl (WG.nil (WE.nxt (W.seq (W.region _ (WG.run tab_ok 2 rfl (WG.nil (WE.nxt ?_)))))))
 refine W.condN rfl (fun hc0 => ?_) (fun hc0 => ?_)
 ·try dsimp only at hc0
  have hd : (prioC cap cls (ls.map CvS.cv) z) = (zcv, chk18 cap cls z) := if_pos hc0
  refine W.seq (W.region _ ?_)
  -- build
  refine WG.y rfl rfl qD (Yl.build (parts := []) tab_ok rfl rfl rfl rfl (fun _ => rfl) rfl rfl) ?_
  refine WG.run tab_ok 1 rfl ?_
  refine WL.efN rfl rfl (Ef.store0 0 tab_ok rfl rfl rfl rfl rfl rfl rfl rfl ?_)
  refine WG.run tab_ok 1 rfl (WG.nil (WE.nxt (W.ret (WE.then_ret ?_))))
  refine WE.retF tab_ok [_, _] rfl ⟨⟨_, _, _, rfl, rfl, rfl, ((by first | exact Rd.blk 0 rfl | exact Rd.blk 1 rfl | exact Rd.blk 2 rfl | exact Rd.blk 3 rfl | exact Rd.blk 4 rfl | exact Rd.blk 5 rfl | exact Rd.blk 6 rfl)), rfl⟩, rfl, trivial⟩ ((by first | exact RLe.refl _ | exact hRm | exact hRm.trans (hR3.trans hR4))) ?_
  exact ⟨none, 0, by rw [hd]; rfl, by rw [hd]; exact rs_nil, qS⟩
 ·try dsimp only at hc0
  obtain ⟨p1, p2, p3, p4, p5, hz⟩ := chk18_ok hc0
  have hmap : (ls.map CvS.cv).length = ls.length := by simp
  refine W.skip (WE.nxt (W.seq (W.seq (W.region _ (WG.run tab_ok 5 rfl (WG.nil (WE.nxt ?_)))))))
  refine W.condN rfl (fun hc1 => ?_) (fun hc1 => ?_)
  ·try dsimp only at hc1
   have hd : (prioC cap cls (ls.map CvS.cv) z) = (zcv, 2) := by unfold prioC; rw [if_neg (fun h => h hc0), if_pos (by rw [hmap]; omega)]
   refine W.seq (W.region _ ?_)
   -- build
   refine WG.y rfl rfl qD (Yl.build (parts := []) tab_ok rfl rfl rfl rfl (fun _ => rfl) rfl rfl) ?_
   refine WL.efN rfl rfl (Ef.store0 0 tab_ok rfl rfl rfl rfl rfl rfl rfl rfl ?_)
   refine WG.run tab_ok 1 rfl (WG.nil (WE.nxt (W.ret (WE.then_ret ?_))))
   refine WE.retF tab_ok [_, _] rfl ⟨⟨_, _, _, rfl, rfl, rfl, ((by first | exact Rd.blk 0 rfl | exact Rd.blk 1 rfl | exact Rd.blk 2 rfl | exact Rd.blk 3 rfl | exact Rd.blk 4 rfl | exact Rd.blk 5 rfl | exact Rd.blk 6 rfl)), rfl⟩, rfl, trivial⟩ ((by first | exact RLe.refl _ | exact hRm | exact hRm.trans (hR3.trans hR4))) ?_
   exact ⟨none, 0, by rw [hd]; rfl, by rw [hd]; exact rs_nil, qS⟩
  ·try dsimp only at hc1
   have hle : ls.length = z.length := by omega
   refine W.skip (WE.nxt (W.seq (W.seq (W.region _ (WG.run tab_ok 3 rfl (WG.nil (WE.nxt (W.block ?_))))))))
   refine W.loopK (β := Nat) (fun i => i ≤ ls.length ∧ ∀ j, j < i → validB (nth ls j).cv = true) (fun i => [(35, true, .int .i64 (i : Int))]) [0, 1, 2, 3, 8, 33, 34] [_, _, _, _, _, _, _] [] _ rfl (fun i => []) (fun i => ls.length - i) (0) (⟨Nat.zero_le _, fun j hj => by omega⟩) ⟨rfl, rfl, rfl, rfl, rfl, rfl, rfl, rfl, rfl⟩ qS ?_
   intro i hst
   dsimp only [zipE, setAll, List.cons_append, List.nil_append, List.set_cons_zero, List.set_cons_succ] at hst ⊢
   
   refine W.seq (W.region _ (WG.run tab_ok 1 rfl (WG.nil (WE.nxt (W.seq ?_)))))
   refine W.condD rfl (fun hc2 => ?_) (fun hc2 => ?_)
   ·try dsimp only at hc2
    have hil : i < ls.length := by omega
    have hxi := hls _ (nth_mem hil)
    refine W.skip (WE.nxt (W.seq (W.block (W.seq (W.region _ ?_)))))
    refine WG.y rfl rfl qD (Yl.indexN tab_ok rfl rfl rfl rfl rfl rfl (fun _ => rfl) qN qH) ?_
    refine' WG.y rfl rfl qD (Yl.load1 tab_ok rfl rfl rfl (fun _ => rfl) ?r1 rfl ?h1) ?_
    case r1 => ((apply RS.rdD; assumption; ((try dsimp only) <;> omega)))
    case h1 => rfl
    refine WL.ef rfl rfl qD (Ef.alloc tab_ok rfl rfl (fun b12 => ?_))
    refine WL.efN rfl rfl (Ef.store0 0 tab_ok rfl rfl rfl rfl rfl rfl rfl rfl ?_)
    refine WG.nil (WE.nxt (W.seq (W.region _ ?_)))
    refine' WG.y rfl rfl qD (Yl.load1 tab_ok rfl rfl rfl (fun _ => rfl) ?r2 rfl ?h2) ?_
    case r2 => (exact Rd.blk 0 rfl)
    case h2 => rfl
    refine WG.callV en48 rfl rfl qD (CallOp.mk' rfl rfl rfl rfl) (fun _ => rfl) (fun hg => CValidG_V hxi.1 hxi.2) ?_
    refine WG.run tab_ok 1 rfl (WG.nil (WE.nxt ?_))
    refine W.cond rfl (fun hc3 => ?_) (fun hc3 => ?_)
    ·try simp only [kk] at hc3
     have hno : allV (ls.map CvS.cv) = false := by
      rw [← Bool.not_eq_true, allV_iff]
      intro h
      have := h _ (List.mem_map_of_mem (nth_mem hil))
      simp [this] at hc3
     have hd : (prioC cap cls (ls.map CvS.cv) z) = (zcv, 1) := by unfold prioC; rw [if_neg (fun h => h hc0), if_neg (by rw [hmap]; omega), if_pos hno]
     refine W.seq (W.region _ ?_)
     -- build
     refine WG.y rfl rfl qD (Yl.build (parts := []) tab_ok rfl rfl rfl rfl (fun _ => rfl) rfl rfl) ?_
     refine WL.efN rfl rfl (Ef.store0 1 tab_ok rfl rfl rfl rfl rfl rfl rfl rfl ?_)
     refine WG.run tab_ok 1 rfl (WG.nil (WE.nxt (W.ret (WE.blk_ret (WE.then_ret (WE.then_ret (WE.blk_ret (WE.then_ret ?_))))))))
     refine WE.retF tab_ok [_, _] rfl ⟨⟨_, _, _, rfl, rfl, rfl, ((by first | exact Rd.blk 0 rfl | exact Rd.blk 1 rfl | exact Rd.blk 2 rfl | exact Rd.blk 3 rfl | exact Rd.blk 4 rfl | exact Rd.blk 5 rfl | exact Rd.blk 6 rfl)), rfl⟩, rfl, trivial⟩ ((by first | exact RLe.refl _ | exact hRm | exact hRm.trans (hR3.trans hR4))) ?_
     exact ⟨none, 0, by rw [hd]; rfl, by rw [hd]; exact rs_nil, qS⟩
    ·try simp only [kk] at hc3
     have hvi : validB (nth ls i).cv = true := by simpa using hc3
     refine W.skip (WE.blk _ (WE.nxt (W.region _ ?_)))
     refine WG.y rfl rfl qD (Yl.add rfl rfl rfl (fun _ => rfl) qA) ?_
     refine WG.run tab_ok 1 rfl (WG.nil ?_)
     refine WE.again (i + 1) (⟨by omega, fun j hj => by
      by_cases e : j = i
      ·subst e; exact hvi
      ·exact hst.2 j (by omega)⟩) (by (try dsimp only); omega) ⟨rfl, rfl, rfl, rfl, rfl, rfl, rfl, rfl, rfl⟩ (RLe.refl _) qS
   ·try dsimp only at hc2
    obtain rfl : i = ls.length := by omega
    have hav : ∀ c ∈ ls.map CvS.cv, validB c = true := fun c hc => by
     obtain ⟨x, hx, rfl⟩ := List.mem_map.1 hc
     obtain ⟨j, hj, rfl⟩ := List.getElem_of_mem hx
     have := hst.2 j hj
     rw [nth_eq hj] at this
     exact this
    have hav2 : allV (ls.map CvS.cv) = true := allV_iff.2 hav
    refine W.exit ?_
    refine WE.then_exit (WE.then_exit (WE.blk_exit (WE.nxt (W.seq (W.region _ (WG.run tab_ok 1 rfl (WG.nil (WE.nxt (W.seq (W.seq (W.region _ (WG.run tab_ok 2 rfl ?_))))))))))))
    refine WG.y rfl rfl qD (Yl.add rfl rfl rfl (fun _ => rfl) qA) ?_
    refine WG.y rfl rfl qD (Yl.sliceL tab_ok rfl rfl rfl rfl rfl rfl (fun _ => rfl) (by intro _; omega)) ?_
    have hdl : (z.drop (cls + 1).toNat).length = z.length - (cls + 1).toNat := List.length_drop
    rw [← hdl]
    have hzdr := hzr.subL (l := (cls + 1).toNat) (cap := zc) (by omega) hzc
    refine WG.run tab_ok 2 rfl (WG.nil (WE.nxt (W.block ?_)))
    refine W.loopK (β := Nat) (fun k => k ≤ z.length - (cls + 1).toNat) (fun k => [(13, true, .int .i64 (mostF (blkF cls z) k)), (49, true, .int .i64 (k : Int))]) [0, 1, 2, 8, 47, 48] [_, _, _, _, _, _] [] _ rfl (fun k => []) (fun k => z.length - (cls + 1).toNat - k) (0) (Nat.zero_le _) ⟨rfl, rfl, rfl, rfl, rfl, rfl, rfl, rfl, rfl⟩ qS ?_
    intro k hst
    dsimp only [zipE, setAll, List.cons_append, List.nil_append, List.set_cons_zero, List.set_cons_succ] at hst ⊢
    
    refine W.seq (W.region _ (WG.run tab_ok 1 rfl (WG.nil (WE.nxt (W.seq ?_)))))
    refine W.condD rfl (fun hc4 => ?_) (fun hc4 => ?_)
    ·try dsimp only at hc4
     have hkl : k < z.length - (cls + 1).toNat := by omega
     have hkd : k < (z.drop (cls + 1).toNat).length := by rw [List.length_drop]; exact hkl
     have hzd := hz _ (List.mem_of_mem_drop (nth_mem hkd))
     have hmk := blk_range (cls := cls) hz (n := k) (by omega)
     have hmx : (if mostF (blkF cls z) k < (nth (z.drop (cls + 1).toNat) k).most - 1 then (nth (z.drop (cls + 1).toNat) k).most - 1 else mostF (blkF cls z) k) = mostF (blkF cls z) (k + 1) := by
      show _ = max (mostF (blkF cls z) k) (blkF cls z k)
      unfold blkF
      split <;> omega
     refine W.skip (WE.nxt (W.seq (W.block (W.seq (W.region _ ?_)))))
     refine WG.y rfl rfl qD (Yl.indexN tab_ok rfl rfl rfl rfl rfl rfl (fun _ => rfl) qN qH) ?_
     refine' WG.y rfl rfl qD (Yl.load1 tab_ok rfl rfl rfl (fun _ => rfl) ?r3 rfl ?h3) ?_
     case r3 => ((apply RS.rdD; assumption; ((try dsimp only) <;> omega)))
     case h3 => rfl
     refine WL.ef rfl rfl qD (Ef.alloc tab_ok rfl rfl (fun b15 => ?_))
     refine WL.efN rfl rfl (Ef.store0 0 tab_ok rfl rfl rfl rfl rfl rfl rfl rfl ?_)
     refine WG.nil (WE.nxt (W.region _ (WG.run tab_ok 2 rfl ?_)))
     refine' WG.y rfl rfl qD (Yl.load1 tab_ok rfl rfl rfl (fun _ => rfl) ?r4 rfl ?h4) ?_
     case r4 => apply Rd.add; (exact Rd.blk 0 rfl)
     case h4 => rfl
     refine WG.y rfl rfl qD (Yl.sub rfl rfl rfl (fun _ => rfl) qA) ?_
     refine WG.run tab_ok 2 rfl (WG.nil (WE.blk _ (WE.nxt (W.region _ ?_))))
     refine WG.y rfl rfl qD (Yl.add rfl rfl rfl (fun _ => rfl) qA) ?_
     refine WG.run tab_ok 1 rfl (WG.nil ?_)
     refine WE.again (k + 1) qO (by (try dsimp only); omega) ⟨vint hmx, rfl, rfl, rfl, rfl, rfl, rfl, rfl, rfl⟩ (RLe.refl _) qS
    ·try dsimp only at hc4
     obtain rfl : k = z.length - (cls + 1).toNat := by omega
     have hbk : 0 ≤ blkN cls z ∧ blkN cls z ≤ 1499 := blk_range hz (Nat.le_refl _)
     have hmr := mid_res (l := (ls.map CvS.cv).take cls.toNat) (fun c hc => hav c (List.mem_of_mem_take hc)) (k := blkN cls z) (by unfold MAXV; omega)
     have htr := total_res ((ls.map CvS.cv).take cls.toNat) zeroC zero_nrm.valid zero_nrm (fun c hc => hav c (List.mem_of_mem_take hc))
     rw [show mostF (blkF cls z) (z.length - (cls + 1).toNat) = blkN cls z from rfl]
     refine W.exit ?_
     refine WE.then_exit (WE.then_exit (WE.blk_exit (WE.nxt (W.seq (W.region _ (WG.run tab_ok 2 rfl ?_))))))
     refine WG.y rfl rfl qD (Yl.sliceH tab_ok rfl rfl rfl rfl rfl (fun _ => rfl) (by intro _; omega) rfl) ?_
     refine WL.call en54 rfl rfl (by decide) (CallOp.mkT rfl rfl rfl rfl) (PTotal_len (ls := ls.take cls.toNat) (by rw [List.length_take]; omega) (hla.take _) (fun x hx => ⟨(hls x (List.mem_of_mem_take hx)).1, hav x.cv (List.mem_map_of_mem (List.mem_of_mem_take hx))⟩) w0 _) ?_
     rintro _ R1 _ hR1 ⟨ft, ftc, rfl, hft, hsub⟩
     refine WL.subE hsub ?_
     rw [List.map_take] at hft ⊢
     unfold cvV
     refine WG.run tab_ok 3 rfl ?_
     refine WL.ef rfl rfl qD (Ef.alloc tab_ok rfl rfl (fun b16 => ?_))
     refine WL.efN rfl rfl (Ef.store0 0 tab_ok rfl rfl rfl rfl rfl rfl rfl rfl ?_)
     refine WG.run tab_ok 1 rfl (WG.nil (WE.nxt ?_))
     refine W.seqCut (β := (Cv × Int) × Option Addr × Nat × Ro × Nat) (fun (mid, fm, fmc, Rm, b16) => RLe R Rm ∧ RS Rm 1 encI fm mid.1.vals ∧ (midC (totalC ((ls.map CvS.cv).take cls.toNat)) (blkN cls z)) = mid) (fun (mid, fm, fmc, Rm, b16) => [(0, true, .int .i64 cap), (8, true, .pointer (some ⟨b8, 0, none⟩)), (16, true, .pointer (some ⟨b16, 0, none⟩)), (17, true, .int .i64 mid.2)]) (fun (mid, fm, fmc, Rm, b16) => Rm) (fun (mid, fm, fmc, Rm, b16) => .blk b16 [.slice fm mid.1.vals.length fmc, .int .i64 mid.1.per, .int .i64 mid.1.inc] :: .blk b8 [.slice none 0 0, .int .i64 0, .int .i64 0] :: E) ?_ ?_
     ·
      intro st hst
      obtain ⟨mid, fm, fmc, Rm, b16⟩ := st
      obtain ⟨hRm, hm, hmid⟩ := hst
      dsimp only at hRm hm ⊢
      refine W.seq (W.seq (W.region _ (WG.run tab_ok 2 rfl (WG.nil (WE.nxt ?_)))))
      refine W.condN rfl (fun hc5 => ?_) (fun hc5 => ?_)
      ·try dsimp only at hc5
       have hd : (prioC cap cls (ls.map CvS.cv) z) = (zcv, mid.2) := by unfold prioC; rw [if_neg (fun h => h hc0), if_neg (by rw [hmap]; omega), if_neg (by rw [hav2]; decide), hmid, if_pos hc5]
       refine W.seq (W.region _ ?_)
       -- build
       refine WG.y rfl rfl qD (Yl.build (parts := []) tab_ok rfl rfl rfl rfl (fun _ => rfl) rfl rfl) ?_
       refine WG.run tab_ok 1 rfl ?_
       refine WL.efN rfl rfl (Ef.store0 1 tab_ok rfl rfl rfl rfl rfl rfl rfl rfl ?_)
       refine WG.run tab_ok 1 rfl (WG.nil (WE.nxt (W.ret (WE.then_ret ?_))))
       refine WE.retF tab_ok [_, _] rfl ⟨⟨_, _, _, rfl, rfl, rfl, ((by first | exact Rd.blk 0 rfl | exact Rd.blk 1 rfl | exact Rd.blk 2 rfl | exact Rd.blk 3 rfl | exact Rd.blk 4 rfl | exact Rd.blk 5 rfl | exact Rd.blk 6 rfl)), rfl⟩, rfl, trivial⟩ ((by first | exact RLe.refl _ | exact hRm | exact hRm.trans (hR3.trans hR4))) ?_
       exact ⟨none, 0, by rw [hd]; rfl, by rw [hd]; exact rs_nil, qS⟩
      ·try dsimp only at hc5
       have hd : (prioC cap cls (ls.map CvS.cv) z) = restC cap mid.1 := by unfold prioC; rw [if_neg (fun h => h hc0), if_neg (by rw [hmap]; omega), if_neg (by rw [hav2]; decide), hmid, if_neg (fun h => h hc5)]
       have hmv : validB mid.1 = true := by
        rw [← hmid] at hc5 ⊢
        rcases hmr with h | ⟨c, h1, h2⟩
        ·rw [h] at hc5; exact absurd hc5 (by decide)
        ·rw [h1]; exact h2.valid
       refine W.skip (WE.nxt (W.seq (W.region _ (WG.run tab_ok 1 rfl ?_))))
       refine WL.call en56 rfl rfl qD (CallOp.mkT rfl rfl rfl rfl) (Serve_ok (cap := cap) w0 qO _) ?_
       rintro _ _ E2 - ⟨g, rfl, rfl, hsub⟩
       refine WL.subE hsub ?_
       refine WL.freeze (enc := encI) (xs := (lineC cap).vals) 0 rfl ?_
       intro R3 hR3 hsv
       have hm := hm.mono hR3
       refine WG.run tab_ok 3 rfl ?_
       refine WL.ef rfl rfl qD (Ef.alloc tab_ok rfl rfl (fun b18 => ?_))
       refine WL.efN rfl rfl (Ef.store0 0 tab_ok rfl rfl rfl rfl rfl rfl rfl rfl ?_)
       refine WG.run tab_ok 1 rfl (WG.nil (WE.nxt (W.seq (W.seq (W.region _ (WG.run tab_ok 2 rfl (WG.nil (WE.nxt ?_))))))))
       refine W.condN rfl (fun hc6 => ?_) (fun hc6 => ?_)
       ·try dsimp only at hc6
        exact absurd rfl hc6
       ·try dsimp only at hc6
        refine W.skip (WE.nxt (W.seq (W.region _ ?_)))
        refine' WG.y rfl rfl qD (Yl.load1 tab_ok rfl rfl rfl (fun _ => rfl) ?r5 rfl ?h5) ?_
        case r5 => (exact Rd.blk 0 rfl)
        case h5 => rfl
        refine' WG.y rfl rfl qD (Yl.load1 tab_ok rfl rfl rfl (fun _ => rfl) ?r6 rfl ?h6) ?_
        case r6 => (exact Rd.blk 1 rfl)
        case h6 => rfl
        refine WL.call en57 rfl rfl qD (CallOp.mkT rfl rfl rfl rfl) (Rest_C (lc := 1) qO hsv (cg := mid.1) hmv hm w0 _) ?_
        rintro _ R4 E4 hR4 ⟨fr, frc, rfl, hfr, hsub⟩
        refine WL.subE hsub ?_
        unfold cvV
        refine WG.run tab_ok 2 rfl ?_
        refine WL.efN rfl rfl (Ef.store0 2 tab_ok rfl rfl rfl rfl rfl rfl rfl rfl ?_)
        refine WG.run tab_ok 1 rfl (WG.nil (WE.nxt (W.ret ?_)))
        refine WE.retF tab_ok [_, _] rfl ⟨⟨_, _, _, rfl, rfl, rfl, ((by first | exact Rd.blk 0 rfl | exact Rd.blk 1 rfl | exact Rd.blk 2 rfl | exact Rd.blk 3 rfl | exact Rd.blk 4 rfl | exact Rd.blk 5 rfl | exact Rd.blk 6 rfl)), rfl⟩, rfl, trivial⟩ ((by first | exact RLe.refl _ | exact hRm | exact hRm.trans (hR3.trans hR4))) ?_
        exact ⟨fr, frc, by rw [hd]; rfl, by rw [hd]; exact hfr, qS⟩
     ·
      refine W.seq (W.region _ (WG.run tab_ok 2 rfl (WG.nil (WE.nxt ?_))))
      refine W.condE rfl (fun hc7 => ?_) (fun hc7 => ?_)
      ·try dsimp only at hc7
       have hme : (midC (totalC ((ls.map CvS.cv).take cls.toNat)) (blkN cls z)) = raiseC (totalC ((ls.map CvS.cv).take cls.toNat)).1 (blkN cls z) := if_pos hc7
       have htv : validB (totalC ((ls.map CvS.cv).take cls.toNat)).1 = true := by
        rcases htr with h | ⟨c, h1, h2, _⟩
        ·rw [show totalC ((ls.map CvS.cv).take cls.toNat) = (zcv, 3) from h] at hc7; exact absurd hc7 (by decide)
        ·rw [show totalC ((ls.map CvS.cv).take cls.toNat) = (c, 0) from h1]; exact h2.valid
       refine W.region _ ?_
       refine' WG.y rfl rfl qD (Yl.load1 tab_ok rfl rfl rfl (fun _ => rfl) ?r7 rfl ?h7) ?_
       case r7 => (exact Rd.blk 0 rfl)
       case h7 => rfl
       refine WG.run tab_ok 1 rfl ?_
       refine WL.call en55 rfl rfl qD (CallOp.mkT rfl rfl rfl rfl) (PRaise_C (cf := (totalC ((ls.map CvS.cv).take cls.toNat)).1) (k := blkN cls z) htv hft qO w0 _) ?_
       rintro _ R2 _ hR2 ⟨fm, fmc, rfl, hfm, hsub⟩
       refine WL.subE hsub ?_
       unfold cvV
       refine WG.run tab_ok 3 rfl ?_
       refine WL.efN rfl rfl (Ef.store0 0 tab_ok rfl rfl rfl rfl rfl rfl rfl rfl ?_)
       refine WG.run tab_ok 1 rfl (WG.nil ?_)
       refine WE.cut (raiseC (totalC ((ls.map CvS.cv).take cls.toNat)).1 (blkN cls z), fm, fmc, R2, b16) ⟨hR1.trans hR2, hfm, hme⟩ ⟨rfl, rfl, rfl, rfl, rfl⟩ (RLe.refl _) qS
      ·try dsimp only at hc7
       have hme : (midC (totalC ((ls.map CvS.cv).take cls.toNat)) (blkN cls z)) = totalC ((ls.map CvS.cv).take cls.toNat) := if_neg hc7
       refine W.skip ?_
       refine WE.cut (totalC ((ls.map CvS.cv).take cls.toNat), ft, ftc, R1, b16) ⟨hR1, hft, hme⟩ ⟨rfl, rfl, rfl, rfl, rfl⟩ (RLe.refl _) qS

end Go.Proofs.Ytnackbfnmhkodaa

/- What a reference's line does where its choice looks at what is left of a tick, plain. No condition. -/
namespace Go.Proofs.Ytnackbfnmhkodaa.M
open Go Go.Proofs.Ytnackbfnmhkodaa.K

section
variable {τ : Type} (ps : List Pkt) (rc : Int → St → τ → Int × τ)
def rpickL (left : Int) (st : St) (g : τ) : Int × τ := if st.now = -1 then rc left st g else (st.now, g)
def rinnerL : Nat → Int → St → τ → St × τ
  | 0, _, st, g => (st, g)
  | k + 1, left, st, g =>
    if left ≤ 0 then (st, g) else
      let r := rpickL rc left st g
      let st1 := { st with now := r.1 }
      if r.1 = -1 then (st1, r.2) else rinnerL k (left - rsendN ps left st1) (rsend ps left st1) r.2
def rtickL (cap : Int) (st : St) (g : τ) : St × τ :=
  let x := rinnerL ps rc cap.toNat cap (rbegin st) g
  ({ x.1 with time := x.1.time + 1 }, x.2)
def rticksL (cap : Int) : Nat → St → τ → St × τ
  | 0, st, g => (st, g)
  | k + 1, st, g => rticksL cap k (rtickL ps rc cap st g).1 (rtickL ps rc cap st g).2
def rrunL (cap : Int) (classes ticks : Nat) (g : τ) : St := (rticksL ps rc cap ticks (rstart ps classes) g).1
end

section
variable {σ τ : Type} {ps : List Pkt} {ch : MS → σ → Int × Nat × σ} {good : MS → σ → Prop} {rel : Nat → Nat → Prop} {classes col : Nat} {s : RS σ} {st : St} {g : τ} {rc : Int → St → τ → Int × τ} {ρ : σ → τ → Prop}
/-- what a reference's choice must do beside that of the program -/
def AlikeL {σ τ : Type} (ps : List Pkt) (ch : MS → σ → Int × Nat × σ) (good : MS → σ → Prop) (rc : Int → St → τ → Int × τ) (ρ : σ → τ → Prop) : Prop :=
  ∀ (ms : MS) (sg : σ) (st : St) (g : τ), good ms sg → ms.begun.length = ps.length → ρ sg g → (st.time : Int) = ms.now → st.now = -1 → (∀ i, i < ps.length → M.waits ps st i = (decide ((nth ps i).time ≤ ms.now) && !nth ms.begun i)) →
    (rc ms.left st g).1 = (if (ch ms sg).1 < 0 then -1 else (ch ms sg).1) ∧ ρ (ch ms sg).2.2 (rc ms.left st g).2
end
section
variable {ps : List Pkt} {classes len : Nat} {B : Int} {st : St}
/-- a choice of what waits -/
def WaitingL {τ : Type} (ps : List Pkt) (rc : Int → St → τ → Int × τ) : Prop := ∀ l st g, (rc l st g).1 = -1 ∨ (0 ≤ (rc l st g).1 ∧ (rc l st g).1 < ps.length ∧ M.waits ps st (rc l st g).1.toNat = true)
end
end Go.Proofs.Ytnackbfnmhkodaa.M

/- Priorities, plain: the choice of the program and of the reference. No condition. -/
namespace Go.Proofs.Ytnackbfnmhkodaa.M
open Go Go.Proofs.Ytnackbfnmhkodaa.K

/-- the first class from c on in which something waits -/
def prioFrom (nx : Int → Int) : Nat → Nat → Int
  | 0, _ => -1
  | k + 1, c => if 0 ≤ nx c then nx c else prioFrom nx k (c + 1)
def prioCh (ps : List Pkt) (n : Nat) (ms : MS) (_ : Unit) : Int × Nat × Unit := (prioFrom (nextW ps ms) n 0, skipTo ms.begun ms.before, ())
def prioRc (ps : List Pkt) (n : Nat) (_ : Int) (st : St) (_ : Unit) : Int × Unit := (prioFrom (firstW ps st) n 0, ())
theorem prioFrom_some {nx : Int → Int} : ∀ {k c : Nat}, 0 ≤ prioFrom nx k c → ∃ d : Nat, c ≤ d ∧ d < c + k ∧ prioFrom nx k c = nx d ∧ ∀ j : Nat, c ≤ j → j < d → nx j < 0
  | 0, c, h => by simp [prioFrom] at h
  | k + 1, c, h => by
    simp only [prioFrom] at h ⊢
    by_cases h0 : 0 ≤ nx c
    · rw [if_pos h0]
      exact ⟨c, Nat.le_refl _, by omega, rfl, fun j h1 h2 => by omega⟩
    · rw [if_neg h0] at h ⊢
      obtain ⟨d, h1, h2, h3, h4⟩ := prioFrom_some h
      refine ⟨d, by omega, by omega, h3, fun j h5 h6 => ?_⟩
      by_cases e : j = c
      · subst e; omega
      · exact h4 j (by omega) h6
section
variable {ps : List Pkt} {n : Nat}
theorem prio_fair (hsort : ps.Pairwise fun a b => a.time ≤ b.time) : Fair ps (prioCh ps n) (fun ms _ => goodB ps ms) (sameFlow ps) where
  free := fun _ _ _ _ h => h
  idx := fun ms s hg hb h0 => by
    obtain ⟨d, _, _, h, _⟩ := prioFrom_some (show 0 ≤ prioFrom (nextW ps ms) n 0 from h0)
    show prioFrom (nextW ps ms) n 0 < _
    rw [h]; exact (nextW_lt _ _ _).1
  some := fun ms s hg hb h0 => goodB_begin hg hb _
  none := fun ms s hg hb h0 => goodB_skip hg hb
  waits := fun ms s hg hb h0 => by
    obtain ⟨d, _, _, h, _⟩ := prioFrom_some (show 0 ≤ prioFrom (nextW ps ms) n 0 from h0)
    have h0 : 0 ≤ prioFrom (nextW ps ms) n 0 := h0
    show nth ms.begun (prioFrom (nextW ps ms) n 0).toNat = false ∧ (nth ps (prioFrom (nextW ps ms) n 0).toNat).time ≤ ms.now
    rw [h] at h0 ⊢
    have := nextW_some hsort h0
    exact ⟨this.2.1, this.2.2.1⟩
  ord := fun ms s hg hb h0 i hi hr => by
    obtain ⟨d, _, _, h, _⟩ := prioFrom_some (show 0 ≤ prioFrom (nextW ps ms) n 0 from h0)
    have h0 : 0 ≤ prioFrom (nextW ps ms) n 0 := h0
    have hi : i < (prioFrom (nextW ps ms) n 0).toNat := hi
    have hr : sameFlow ps i (prioFrom (nextW ps ms) n 0).toNat := hr
    rw [h] at h0 hi hr
    have := nextW_some hsort h0
    exact this.2.2.2.2 i hi (by unfold sameFlow at hr; rw [hr]; exact this.2.2.2.1)
theorem prio_start (classes : Nat) : goodB ps (start ps classes ()).ms := ⟨Nat.zero_le _, fun i hi => by simp [start] at hi⟩
/-- before which packet all have been begun, when so many classes have been looked at -/
def bfN (ms : MS) (c : Nat) : Nat := if c = 0 then ms.before else skipTo ms.begun ms.before
theorem bfN_skip {ms : MS} (hg : goodB ps ms) (hb : ms.begun.length = ps.length) (c : Nat) : skipTo ms.begun (bfN ms c) = skipTo ms.begun ms.before := by
  unfold bfN
  split
  · rfl
  · by_cases h : skipTo ms.begun ms.before < ms.begun.length
    · exact skipTo_false h (skipTo_stop' h)
    · exact skipTo_end (by omega)
theorem bfN_good {ms : MS} (hg : goodB ps ms) (hb : ms.begun.length = ps.length) (c : Nat) : goodB ps { ms with before := bfN ms c } := by
  unfold bfN
  split
  · exact hg
  · exact goodB_skip hg hb
end
end Go.Proofs.Ytnackbfnmhkodaa.M

/- Time slots, plain: the choice of the program and of the reference. No condition. -/
namespace Go.Proofs.Ytnackbfnmhkodaa.M
open Go Go.Proofs.Ytnackbfnmhkodaa.K

/-- how many ticks in a row from t on belong to a class; -1 if all do -/
def aheadN (tb : List Int) (cls : Int) (t : Nat) : Int := findFrom (fun n => decide (cls < 0) || nth tb ((t + n) % tb.length) != cls) tb.length 0
def afterN (tb : List Int) (t : Nat) : Nat := if findFrom (fun n => nth tb ((t + 1 + n) % tb.length) != nth tb (t % tb.length)) tb.length 0 = -1 then tb.length else (findFrom (fun n => nth tb ((t + 1 + n) % tb.length) != nth tb (t % tb.length)) tb.length 0).toNat
def roomN (cap : Int) (tb : List Int) (t : Nat) (left : Int) : Int := if afterN tb t = tb.length then 1073741824 else left + cap * (afterN tb t : Int)
def slotT (tb : List Int) (t : Nat) : Int := nth tb (t % tb.length)
def slotCh (ps : List Pkt) (cap : Int) (tb : List Int) (ms : MS) (_ : Unit) : Int × Nat × Unit :=
  if slotT tb ms.now.toNat < 0 then (-1, ms.before, ())
  else if nextW ps ms (slotT tb ms.now.toNat) < 0 then (-1, skipTo ms.begun ms.before, ())
  else if aheadN tb (slotT tb ms.now.toNat) ms.now.toNat ≠ -1 ∧ (nth ps (nextW ps ms (slotT tb ms.now.toNat)).toNat).size > ms.left + (aheadN tb (slotT tb ms.now.toNat) ms.now.toNat - 1) * cap then (-1, skipTo ms.begun ms.before, ())
  else (nextW ps ms (slotT tb ms.now.toNat), skipTo ms.begun ms.before, ())
def slotRc (ps : List Pkt) (cap : Int) (tb : List Int) (left : Int) (st : St) (_ : Unit) : Int × Unit :=
  if 0 ≤ slotT tb st.time ∧ 0 ≤ firstW ps st (slotT tb st.time) ∧ (nth ps (firstW ps st (slotT tb st.time)).toNat).size ≤ roomN cap tb st.time left then (firstW ps st (slotT tb st.time), ()) else (-1, ())
section
variable {ps : List Pkt} {cap : Int} {tb : List Int} {ms : MS} {st : St}
end
/-- tables that are right -/
def okT (classes : Int) (tb : List Int) : Bool := decide (1 ≤ tb.length) && decide (tb.length ≤ 40) && tb.all fun c => decide (-1 ≤ c) && decide (c < classes)
/-- the classes of a table -/
def classesT (tb : List Int) : Int := tb.foldl (fun m c => if m < c + 1 then c + 1 else m) 1
def srunE (cap ticks : Int) (tb : List Int) (ps : List Pkt) : Int := if okT 6 tb = true then lrunE cap (classesT tb) ticks ps else 2
end Go.Proofs.Ytnackbfnmhkodaa.M

/- What a class is sent while it is backlogged, plain, whatever the choice: an invariant of the rounds is carried from tick to tick. No condition. -/
namespace Go.Proofs.Ytnackbfnmhkodaa.M
open Go Go.Proofs.Ytnackbfnmhkodaa.K

/-- the bytes of a class that have been begun -/
def begK (k : Int) : List Pkt → List Bool → Int
  | p :: ps, b :: bs => (if b = true ∧ p.flow = k then p.size else 0) + begK k ps bs
  | _, _ => 0
theorem begK_set (k : Int) : ∀ (ps : List Pkt) (bs : List Bool) (i : Nat), i < ps.length → i < bs.length → nth bs i = false → begK k ps (bs.set i true) = begK k ps bs + (if (nth ps i).flow = k then (nth ps i).size else 0)
  | [], _, i, h, _, _ => by simp at h
  | _ :: _, [], i, _, h, _ => by simp at h
  | p :: ps, b :: bs, 0, _, _, hb => by
    have : b = false := hb
    subst this
    simp only [List.set_cons_zero, begK, show nth (p :: ps) 0 = p from rfl]
    simp; omega
  | p :: ps, b :: bs, i + 1, h1, h2, hb => by
    have := begK_set k ps bs i (by simpa using h1) (by simpa using h2) hb
    simp only [List.set_cons_succ, begK, this]
    rw [show nth (p :: ps) (i + 1) = nth ps i from rfl]; omega
/-- a class of which less has been begun than has arrived waits -/
theorem begK_wait {k t : Int} (hk : 0 ≤ k) : ∀ (ps : List Pkt) (bs : List Bool), bs.length = ps.length → (∀ p ∈ ps, 0 ≤ p.size) → begK k ps bs < pbytes k (t + 1) ps → ∃ i, i < ps.length ∧ nth bs i = false ∧ (nth ps i).flow = k ∧ (nth ps i).time ≤ t
  | [], _, _, _, h => by simp [begK, pbytes] at h
  | _ :: _, [], hl, _, _ => by simp at hl
  | p :: ps, b :: bs, hl, hs, h => by
    have hp := hs p (by simp)
    by_cases h0 : b = false ∧ p.flow = k ∧ p.time ≤ t
    · exact ⟨0, by simp, h0.1, h0.2.1, h0.2.2⟩
    · have h1 : begK k ps bs < pbytes k (t + 1) ps := by
        simp only [begK, pbytes] at h
        by_cases hh : hit k (t + 1) p
        · rw [if_pos hh] at h
          have hb : b = true ∧ p.flow = k := by
            unfold hit at hh
            have hf : p.flow = k := by omega
            refine ⟨?_, hf⟩
            cases b with
            | true => rfl
            | false => exact absurd ⟨rfl, hf, by omega⟩ h0
          rw [if_pos hb] at h
          omega
        · rw [if_neg hh] at h
          split at h <;> omega
      obtain ⟨i, g1, g2, g3, g4⟩ := begK_wait hk ps bs (by simpa using hl) (fun q hq => hs q (by simp [hq])) h1
      exact ⟨i + 1, by simpa using g1, g2, g3, g4⟩

/-- the sums of a class: begun, less what is still to be sent of the open packet -/
def Cl {σ : Type} (ps : List Pkt) (k : Nat) (col : Nat) (s : RS σ) : Prop :=
  nth (nth s.sent k) col = begK k ps s.ms.begun - (if 0 ≤ s.cur ∧ (nth ps s.cur.toNat).flow = k then s.rest else 0)
/-- an invariant of the rounds: of the choice's state, the open packet and what is left of it, what the class and all others have been sent -/
structure Per {σ : Type} (ps : List Pkt) (ch : MS → σ → Int × Nat × σ) (good : MS → σ → Prop) (k : Nat) (J : σ → Int → Int → Int → Int → Prop) : Prop where
  pick : ∀ ms sg r own oth, good ms sg → ms.begun.length = ps.length → (∃ i, i < ps.length ∧ nth ms.begun i = false ∧ (nth ps i).flow = k ∧ (nth ps i).time ≤ ms.now) → J sg (-1) r own oth → 0 ≤ (ch ms sg).1 → J (ch ms sg).2.2 (ch ms sg).1 (nth ps (ch ms sg).1.toNat).size own oth
  send : ∀ (sg : σ) (cur rest own oth n : Int), 0 ≤ cur → cur < ps.length → 1 ≤ n → n ≤ rest → J sg cur rest own oth →
    J sg (if rest - n = 0 then -1 else cur) (rest - n) (own + (if (nth ps cur.toNat).flow = k then n else 0)) (oth + (if (nth ps cur.toNat).flow = k then 0 else n))
  none : ∀ sg c c' r r' own oth, c < 0 → c' < 0 → J sg c r own oth → J sg c' r' own oth
section
variable {σ : Type} {ps : List Pkt} {ch : MS → σ → Int × Nat × σ} {good : MS → σ → Prop} {rel : Nat → Nat → Prop} {classes col k : Nat} {s : RS σ} {J : σ → Int → Int → Int → Int → Prop}
theorem Cl.pickup (hg : Fair ps ch good rel) (hw : Wk ps classes good rel col s) (h : Cl ps k col s) : Cl ps k col (pickup ps ch s) := by
  unfold M.pickup
  by_cases hc : 0 ≤ s.cur
  · rw [if_pos hc]; exact h
  · rw [if_neg hc]
    unfold Cl at h
    rw [if_neg (by omega)] at h
    by_cases hr : (ch s.ms s.sg).1 < 0
    · simp only [hr, if_true]
      unfold Cl
      dsimp only
      rw [if_neg (by omega)]; exact h
    · simp only [hr, if_false]
      have hi := hg.idx _ _ hw.good hw.blen (by omega)
      obtain ⟨w1, w2⟩ := hg.waits _ _ hw.good hw.blen (by omega)
      have hb := hw.blen
      unfold Cl
      dsimp only
      rw [begK_set _ _ _ _ (by omega) (by omega) w1, h]
      by_cases hf : (nth ps (ch s.ms s.sg).1.toNat).flow = k
      · rw [if_pos hf, if_pos ⟨by omega, hf⟩]; omega
      · rw [if_neg hf, if_neg (fun h => hf h.2)]; omega
/-- what is sent of the class: n or nothing -/
theorem Cl.send (hfl : ∀ p ∈ ps, 0 ≤ p.flow ∧ p.flow < classes) (hk : k < classes) {t : Nat} (hw : Wk ps classes good rel (t + 1) s) (h : Cl ps k (t + 1) s) (hc : 0 ≤ s.cur) (hl : 0 < s.ms.left) :
    ∃ n, 1 ≤ n ∧ n ≤ s.rest ∧ (M.send ps t s).ms.left = s.ms.left - n ∧ (M.send ps t s).rest = s.rest - n ∧ (M.send ps t s).cur = (if s.rest - n = 0 then -1 else s.cur) ∧ (M.send ps t s).sg = s.sg ∧ (M.send ps t s).ms.begun = s.ms.begun ∧
      nth (nth (M.send ps t s).sent k) (t + 1) = nth (nth s.sent k) (t + 1) + (if (nth ps s.cur.toNat).flow = k then n else 0) ∧ Cl ps k (t + 1) (M.send ps t s) := by
  obtain ⟨c1, c2, c3⟩ := hw.cur hc
  have hfl' := hfl _ (nth_mem (show s.cur.toNat < ps.length by omega))
  have hlen := hw.slen
  refine ⟨if s.ms.left < s.rest then s.ms.left else s.rest, by split <;> omega, by split <;> omega, rfl, rfl, rfl, rfl, rfl, ?_⟩
  have hn : (if s.ms.left < s.rest then s.ms.left else s.rest) ≤ s.rest := by split <;> omega
  have hcol : nth (nth (M.send ps t s).sent k) (t + 1) = nth (nth s.sent k) (t + 1) + (if (nth ps s.cur.toNat).flow = k then (if s.ms.left < s.rest then s.ms.left else s.rest) else 0) := by
    unfold M.send
    dsimp only
    by_cases hf : (nth ps s.cur.toNat).flow = k
    · have e : (nth ps s.cur.toNat).flow.toNat = k := by omega
      rw [if_pos hf, e, nth_set_self (by omega), nth_set_self]
      have := hw.rlen _ (nth_mem (xs := s.sent) (k := k) (by omega))
      omega
    · rw [if_neg hf, nth_set_ne (by omega)]; omega
  refine ⟨hcol, ?_⟩
  unfold Cl at h ⊢
  rw [hcol, h]
  unfold M.send
  dsimp only
  generalize (if s.ms.left < s.rest then s.ms.left else s.rest) = n at hn ⊢
  by_cases hf : (nth ps s.cur.toNat).flow = k
  · rw [if_pos ⟨hc, hf⟩, if_pos hf]
    by_cases hz : s.rest - n = 0
    · simp only [hz, if_true]; rw [if_neg (by omega)]; omega
    · simp only [hz, if_false]; rw [if_pos ⟨hc, hf⟩]; omega
  · rw [if_neg (fun h => hf h.2), if_neg hf]
    by_cases hz : s.rest - n = 0
    · simp only [hz, if_true]; rw [if_neg (by omega)]; omega
    · simp only [hz, if_false]; rw [if_neg (fun h => hf h.2)]; omega
theorem Per.inner (hg : Fair ps ch good rel) (hb : Busy ps ch good) (hJ : Per ps ch good k J) (hs : ∀ p ∈ ps, 1 ≤ p.size) (hfl : ∀ p ∈ ps, 0 ≤ p.flow ∧ p.flow < classes) (hk : k < classes) {t : Nat} : ∀ (j : Nat) (s : RS σ) (own oth : Int), Wk ps classes good rel (t + 1) s → Cl ps k (t + 1) s → s.ms.now = t → 0 ≤ s.ms.left →
    (J s.sg s.cur s.rest own oth ∨ pbytes k ((t : Int) + 1) ps ≤ nth (nth s.sent k) (t + 1)) →
    Cl ps k (t + 1) (inner ps ch t j s) ∧ nth (nth s.sent k) (t + 1) ≤ nth (nth (inner ps ch t j s).sent k) (t + 1) ∧
      (nth (nth (inner ps ch t j s).sent k) (t + 1) < pbytes k ((t : Int) + 1) ps →
        J (inner ps ch t j s).sg (inner ps ch t j s).cur (inner ps ch t j s).rest (own + (nth (nth (inner ps ch t j s).sent k) (t + 1) - nth (nth s.sent k) (t + 1))) (oth + ((colSum (inner ps ch t j s).sent (t + 1) - colSum s.sent (t + 1)) - (nth (nth (inner ps ch t j s).sent k) (t + 1) - nth (nth s.sent k) (t + 1)))))
  | 0, s, own, oth, hw, hc, hn, hl, h => by
    simp only [M.inner]
    refine ⟨hc, Int.le_refl _, fun hlt => ?_⟩
    rcases h with h | h
    · simpa using h
    · omega
  | j + 1, s, own, oth, hw, hc, hn, hl, h => by
    simp only [M.inner]
    by_cases hl0 : s.ms.left ≤ 0
    · rw [if_pos hl0]
      refine ⟨hc, Int.le_refl _, fun hlt => ?_⟩
      rcases h with h | h
      · simpa using h
      · omega
    · rw [if_neg hl0]
      have hw1 := hw.pickup hg hs
      have hc1 := hc.pickup hg hw
      obtain ⟨e1, e2, e3, e4⟩ := pickup_same ps ch s
      -- the choice
      have hJ1 : nth (nth s.sent k) (t + 1) < pbytes k ((t : Int) + 1) ps → 0 ≤ (M.pickup ps ch s).cur ∧ J (M.pickup ps ch s).sg (M.pickup ps ch s).cur (M.pickup ps ch s).rest own oth := fun hlt => by
        have h := h.resolve_right (by omega)
        by_cases hcur : 0 ≤ s.cur
        · unfold M.pickup; rw [if_pos hcur]; exact ⟨hcur, h⟩
        · unfold Cl at hc
          rw [if_neg (fun x => hcur x.1)] at hc
          obtain ⟨i, g1, g2, g3, g4⟩ := begK_wait (k := (k : Int)) (t := (t : Int)) (by omega) ps s.ms.begun hw.blen (fun p hp => by have := hs p hp; omega) (by omega)
          have hr0 : 0 ≤ (ch s.ms s.sg).1 := by
            apply Classical.byContradiction
            intro hneg
            have := hb _ _ hw.good hw.blen (by omega) i g1 (by omega)
            rw [this] at g2; cases g2
          have hp := hJ.pick s.ms s.sg s.rest own oth hw.good hw.blen ⟨i, g1, g2, g3, by omega⟩ (hJ.none _ s.cur _ s.rest _ own oth (by omega) (by omega) h) hr0
          unfold M.pickup
          rw [if_neg hcur]
          dsimp only
          rw [if_neg (by omega)]
          exact ⟨hr0, hp⟩
      by_cases hcn : (M.pickup ps ch s).cur < 0
      · rw [if_pos hcn]
        refine ⟨hc1, by rw [e3]; exact Int.le_refl _, fun hlt => ?_⟩
        rw [e3] at hlt
        have := (hJ1 hlt).1
        omega
      · rw [if_neg hcn]
        obtain ⟨n, n1, n2, n3, n4, n5, n6, n7, n8, n9⟩ := Cl.send hfl hk hw1 hc1 (by omega) (by rw [e1]; omega)
        obtain ⟨g1, g2, g3, g4, g5, g6⟩ := hw1.send hfl hg.free (by rw [e2]; exact hn) (by omega) (by rw [e1]; omega)
        have hn0 : 0 ≤ (if (nth ps (M.pickup ps ch s).cur.toNat).flow = (k : Int) then n else 0) := by split <;> omega
        have hcc := hw1.cur (by omega)
        obtain ⟨r1, r2, r3⟩ := Per.inner hg hb hJ hs hfl hk j (M.send ps t (M.pickup ps ch s)) (own + (if (nth ps (M.pickup ps ch s).cur.toNat).flow = (k : Int) then n else 0)) (oth + (if (nth ps (M.pickup ps ch s).cur.toNat).flow = (k : Int) then 0 else n)) g1 n9 (by rw [g5, e2]; exact hn) g3 (by
          by_cases hlt : nth (nth s.sent k) (t + 1) < pbytes k ((t : Int) + 1) ps
          · left
            have := hJ.send _ _ _ _ _ n (by omega) hcc.1 n1 n2 (hJ1 hlt).2
            rw [n4, n5, n6]; exact this
          · right; rw [n8, e3]; omega)
        have hcs : colSum (M.send ps t (M.pickup ps ch s)).sent (t + 1) = colSum s.sent (t + 1) + n := by rw [g2, n3, e3]; omega
        refine ⟨r1, by rw [n8, e3] at r2; omega, fun hlt => ?_⟩
        have := r3 hlt
        rw [n8, hcs, e3] at this
        have ea : own + (if (nth ps (M.pickup ps ch s).cur.toNat).flow = (k : Int) then n else 0) + (nth (nth (M.inner ps ch t j (M.send ps t (M.pickup ps ch s))).sent k) (t + 1) - (nth (nth s.sent k) (t + 1) + (if (nth ps (M.pickup ps ch s).cur.toNat).flow = (k : Int) then n else 0))) = own + (nth (nth (M.inner ps ch t j (M.send ps t (M.pickup ps ch s))).sent k) (t + 1) - nth (nth s.sent k) (t + 1)) := by omega
        rw [ea] at this
        have eb : oth + (if (nth ps (M.pickup ps ch s).cur.toNat).flow = (k : Int) then 0 else n) + ((colSum (M.inner ps ch t j (M.send ps t (M.pickup ps ch s))).sent (t + 1) - (colSum s.sent (t + 1) + n)) - (nth (nth (M.inner ps ch t j (M.send ps t (M.pickup ps ch s))).sent k) (t + 1) - (nth (nth s.sent k) (t + 1) + (if (nth ps (M.pickup ps ch s).cur.toNat).flow = (k : Int) then n else 0)))) = oth + ((colSum (M.inner ps ch t j (M.send ps t (M.pickup ps ch s))).sent (t + 1) - colSum s.sent (t + 1)) - (nth (nth (M.inner ps ch t j (M.send ps t (M.pickup ps ch s))).sent k) (t + 1) - nth (nth s.sent k) (t + 1))) := by split <;> omega
        rw [eb] at this
        exact this
/-- the state at the beginning of a tick -/
def opened (cap : Int) (t : Nat) (s : RS σ) : RS σ := { s with ms := { s.ms with now := t, left := cap }, sent := s.sent.map fun l => l ++ [nth l t] }
theorem opened_row {t : Nat} {l : List Int} (h : l.length = t + 1) : nth (l ++ [nth l t]) (t + 1) = nth l t := by
  unfold nth List.getD
  rw [List.getElem?_append_right (by omega), h]; simp
theorem Wk.opened (hg : Fair ps ch good rel) {t : Nat} {cap : Int} (h : Wk ps classes good rel t s) (hnow : s.ms.now ≤ t) : Wk ps classes good rel (t + 1) (M.opened cap t s) ∧ colSum (M.opened cap t s).sent (t + 1) = colSum s.sent t := by
  have hcol : colSum (s.sent.map fun l => l ++ [nth l t]) (t + 1) = colSum s.sent t := colSum_map _ (fun l hl => opened_row (h.rlen l hl))
  refine ⟨⟨hg.free _ _ _ _ h.good, h.dlen, h.blen, by simp [M.opened, h.slen], fun l hl => ?_, h.cur, h.open_, fun i hi hb hne => ?_, fun i hi hb => ?_, h.ord, h.dord, by unfold M.opened; dsimp only; rw [hcol]; exact h.sum⟩, hcol⟩
  · obtain ⟨l', h2, rfl⟩ := List.mem_map.1 hl
    simp [h.rlen l' h2]
  · have := h.shut i hi hb hne
    unfold M.opened; dsimp only; omega
  · have := h.time i hi hb
    unfold M.opened; dsimp only; omega
end
end Go.Proofs.Ytnackbfnmhkodaa.M

/- Weighted round robin while a class is backlogged, plain: what the others take. No condition. -/
namespace Go.Proofs.Ytnackbfnmhkodaa.M
open Go Go.Proofs.Ytnackbfnmhkodaa.K

section
variable {w : List Int} {z : List Sz} {k : Nat}
/-- what the others may still take, from the beginning of class c on until class k -/
def restR (w : List Int) (z : List Sz) (k c : Nat) : Int := if c ≤ k then qSum k w z k - qSum k w z c else qSum k w z w.length - qSum k w z c + qSum k w z k
def mosts (w : List Int) (z : List Sz) (c : Nat) : Int := nth w c * (nth z c).most
theorem qSum_succ (i : Nat) : qSum k w z (i + 1) = qSum k w z i + (if i ≠ k then mosts w z i else 0) := by
  simp only [qSum, mosts]
  by_cases h : i = k
  · rw [if_neg (by omega), if_neg (by omega)]
  · rw [if_pos (by omega), if_pos h]
theorem restR_self : restR w z k k = 0 := by unfold restR; rw [if_pos (Nat.le_refl _)]; omega
theorem restR_next {c : Nat} (hc : c < w.length) (hk : k < w.length) (hne : c ≠ k) : restR w z k ((c + 1) % w.length) = restR w z k c - mosts w z c := by
  have hs := qSum_succ (w := w) (z := z) (k := k) c
  rw [if_pos hne] at hs
  by_cases hl : c + 1 < w.length
  · rw [Nat.mod_eq_of_lt hl]
    unfold restR
    by_cases h : c ≤ k
    · rw [if_pos h, if_pos (by omega), hs]; omega
    · rw [if_neg h, if_neg (by omega), hs]; omega
  · have e : c + 1 = w.length := by omega
    rw [e, Nat.mod_self]
    unfold restR
    rw [if_pos (Nat.zero_le _), if_neg (by omega), ← e, hs]
    have h0 : qSum k w z 0 = 0 := rfl
    omega
theorem restR_first (hk : k < w.length) : restR w z k ((k + 1) % w.length) = qSum k w z w.length := by
  have hs := qSum_succ (w := w) (z := z) (k := k) k
  rw [if_neg (by omega)] at hs
  by_cases hl : k + 1 < w.length
  · rw [Nat.mod_eq_of_lt hl]
    unfold restR
    rw [if_neg (by omega), hs]; omega
  · have e : k + 1 = w.length := by omega
    rw [e, Nat.mod_self]
    unfold restR
    rw [if_pos (Nat.zero_le _), ← e, hs]
    have h0 : qSum k w z 0 = 0 := rfl
    omega
/-- in class c, l packets of whose visit are to come and op bytes of the open one -/
def JR (w : List Int) (z : List Sz) (k c : Nat) (l op own oth : Int) : Prop :=
  c < w.length ∧ 0 ≤ l ∧
  if c = k then ∃ f : Nat, oth ≤ qSum k w z w.length * f ∧ nth w k * (nth z k).least * f ≤ own + op + l * (nth z k).least ∧ nth w k * (nth z k).least * ((f : Int) - 1) ≤ own
  else ∃ f : Nat, oth + op + l * (nth z c).most + (restR w z k c - mosts w z c) ≤ qSum k w z w.length * ((f : Int) + 1) ∧ nth w k * (nth z k).least * f ≤ own
theorem JR.next (hw : ∀ x ∈ w, 1 ≤ x) (hz : ∀ c, c < w.length → 0 ≤ (nth z c).least ∧ (nth z c).least ≤ (nth z c).most) (hk : k < w.length) (hn : 2 ≤ w.length) {c : Nat} {l own oth : Int} (h : JR w z k c l 0 own oth) (hl : c = k → l ≤ 0) :
    JR w z k ((c + 1) % w.length) (nth w ((c + 1) % w.length)) 0 own oth := by
  obtain ⟨h1, h2, h3⟩ := h
  have hlt : (c + 1) % w.length < w.length := Nat.mod_lt _ (by omega)
  have hwc := hw _ (nth_mem hlt)
  refine ⟨hlt, by omega, ?_⟩
  by_cases hck : c = k
  · subst hck
    rw [if_pos rfl] at h3
    obtain ⟨f, f1, f2, f3⟩ := h3
    have hne : (c + 1) % w.length ≠ c := by
      by_cases hh : c + 1 < w.length
      · rw [Nat.mod_eq_of_lt hh]; omega
      · rw [show c + 1 = w.length by omega, Nat.mod_self]; omega
    rw [if_neg hne]
    refine ⟨f, ?_, ?_⟩
    · rw [restR_first hk]
      show oth + 0 + mosts w z ((c + 1) % w.length) + (_ - mosts w z ((c + 1) % w.length)) ≤ _
      rw [Int.mul_add, Int.mul_one]; omega
    · have : l = 0 := by have := hl rfl; omega
      rw [this] at f2
      simpa using f2
  · rw [if_neg hck] at h3
    obtain ⟨f, f1, f2⟩ := h3
    have hr := restR_next (z := z) h1 hk hck
    have hl0 : 0 ≤ l * (nth z c).most := Int.mul_nonneg h2 (by have := hz c h1; omega)
    by_cases hnk : (c + 1) % w.length = k
    · rw [if_pos hnk, hnk]
      rw [hnk, restR_self] at hr
      refine ⟨f + 1, ?_, ?_, ?_⟩
      · have : ((f + 1 : Nat) : Int) = (f : Int) + 1 := by omega
        rw [this]; omega
      · have : ((f + 1 : Nat) : Int) = (f : Int) + 1 := by omega
        rw [this, Int.mul_add, Int.mul_one]; omega
      · have : ((f + 1 : Nat) : Int) - 1 = (f : Int) := by omega
        rw [this]; exact f2
    · rw [if_neg hnk]
      refine ⟨f, ?_, f2⟩
      show oth + 0 + mosts w z ((c + 1) % w.length) + (_ - mosts w z ((c + 1) % w.length)) ≤ _
      omega
end
end Go.Proofs.Ytnackbfnmhkodaa.M

/- Weighted round robin: the invariant of the rounds while a class is backlogged, plain. No condition. -/
namespace Go.Proofs.Ytnackbfnmhkodaa.M
open Go Go.Proofs.Ytnackbfnmhkodaa.K

/-- an invariant of every run: of the choice's state, the open packet and what is left of it -/
structure Vis {σ : Type} (ps : List Pkt) (ch : MS → σ → Int × Nat × σ) (good : MS → σ → Prop) (V : σ → Int → Int → Prop) : Prop where
  pick : ∀ ms sg r, good ms sg → ms.begun.length = ps.length → V sg (-1) r → 0 ≤ (ch ms sg).1 → V (ch ms sg).2.2 (ch ms sg).1 (nth ps (ch ms sg).1.toNat).size
  idle : ∀ ms sg r r', good ms sg → ms.begun.length = ps.length → V sg (-1) r → (ch ms sg).1 < 0 → V (ch ms sg).2.2 (ch ms sg).1 r'
  send : ∀ (sg : σ) (cur rest n : Int), 0 ≤ cur → cur < ps.length → 1 ≤ n → n ≤ rest → V sg cur rest → V sg (if rest - n = 0 then -1 else cur) (rest - n)
  none : ∀ sg c c' r r', c < 0 → c' < 0 → V sg c r → V sg c' r'
section
variable {σ : Type} {ps : List Pkt} {ch : MS → σ → Int × Nat × σ} {good : MS → σ → Prop} {rel : Nat → Nat → Prop} {classes k : Nat} {V : σ → Int → Int → Prop}
theorem Vis.inner (hg : Fair ps ch good rel) (hV : Vis ps ch good V) (hs : ∀ p ∈ ps, 1 ≤ p.size) (hfl : ∀ p ∈ ps, 0 ≤ p.flow ∧ p.flow < classes) {t : Nat} : ∀ (j : Nat) (s : RS σ), Wk ps classes good rel (t + 1) s → s.ms.now = t → 0 ≤ s.ms.left → V s.sg s.cur s.rest →
    V (inner ps ch t j s).sg (inner ps ch t j s).cur (inner ps ch t j s).rest
  | 0, s, hw, hn, hl, h => h
  | j + 1, s, hw, hn, hl, h => by
    simp only [M.inner]
    by_cases hl0 : s.ms.left ≤ 0
    · rw [if_pos hl0]; exact h
    · rw [if_neg hl0]
      have hw1 := hw.pickup hg hs
      obtain ⟨e1, e2, e3, e4⟩ := pickup_same ps ch s
      have h1 : V (M.pickup ps ch s).sg (M.pickup ps ch s).cur (M.pickup ps ch s).rest := by
        unfold M.pickup
        by_cases hcur : 0 ≤ s.cur
        · rw [if_pos hcur]; exact h
        · rw [if_neg hcur]
          have h0 := hV.none s.sg s.cur (-1) s.rest s.rest (by omega) (by omega) h
          by_cases hr : (ch s.ms s.sg).1 < 0
          · simp only [hr, if_true]
            exact hV.idle _ _ _ _ hw.good hw.blen h0 hr
          · simp only [hr, if_false]
            exact hV.pick _ _ _ hw.good hw.blen h0 (by omega)
      by_cases hcn : (M.pickup ps ch s).cur < 0
      · rw [if_pos hcn]; exact h1
      · rw [if_neg hcn]
        obtain ⟨c1, c2, c3⟩ := hw1.cur (by omega)
        obtain ⟨g1, g2, g3, g4, g5, g6⟩ := hw1.send hfl hg.free (by rw [e2]; exact hn) (by omega) (by rw [e1]; omega)
        refine Vis.inner hg hV hs hfl j _ g1 (by rw [g5, e2]; exact hn) g3 ?_
        have hle : (if (M.pickup ps ch s).ms.left < (M.pickup ps ch s).rest then (M.pickup ps ch s).ms.left else (M.pickup ps ch s).rest) ≤ (M.pickup ps ch s).rest := by split <;> omega
        have hge : 1 ≤ (if (M.pickup ps ch s).ms.left < (M.pickup ps ch s).rest then (M.pickup ps ch s).ms.left else (M.pickup ps ch s).rest) := by rw [e1]; split <;> omega
        exact hV.send _ _ _ _ (by omega) c1 hge hle h1
end
/-! ### round robin -/
def Jrob (ps : List Pkt) (w : List Int) (z : List Sz) (k : Nat) (sg : Nat × Int) (cur rest own oth : Int) : Prop := JR w z k sg.1 sg.2 (if 0 ≤ cur then rest else 0) own oth ∧ (0 ≤ cur → (nth ps cur.toNat).flow = sg.1)
/-- sizes of the packets of each class -/
def SzOf (ps : List Pkt) (z : List Sz) : Prop := ∀ i, i < ps.length → (nth z (nth ps i).flow.toNat).least ≤ (nth ps i).size ∧ (nth ps i).size ≤ (nth z (nth ps i).flow.toNat).most
section
variable {ps : List Pkt} {w : List Int} {z : List Sz} {k : Nat}
/-- where every run stands -/
def Vrob (ps : List Pkt) (w : List Int) (sg : Nat × Int) (cur rest : Int) : Prop := sg.1 < w.length ∧ 0 ≤ sg.2 ∧ sg.2 ≤ nth w sg.1 ∧ (0 ≤ cur → cur < ps.length ∧ (nth ps cur.toNat).flow = sg.1 ∧ sg.2 ≤ nth w sg.1 - 1 ∧ 0 ≤ rest ∧ rest ≤ (nth ps cur.toNat).size)
end
end Go.Proofs.Ytnackbfnmhkodaa.M

/- Shares over one run: what the others are sent while a class is backlogged, plain. No condition. -/
namespace Go.Proofs.Ytnackbfnmhkodaa.M
open Go Go.Proofs.Ytnackbfnmhkodaa.K

section
variable {σ : Type} {ps : List Pkt} {ch : MS → σ → Int × Nat × σ} {good : MS → σ → Prop} {rel : Nat → Nat → Prop} {classes k : Nat}
end
end Go.Proofs.Ytnackbfnmhkodaa.M

/- What a flow keeps: the least curve of a trace, plain. No condition. -/
namespace Go.Proofs.Ytnackbfnmhkodaa.M
open Go Go.Proofs.Ytnackbfnmhkodaa.K

theorem pbytes_congr {flow t t' : Int} : ∀ (ps : List Pkt), (∀ p ∈ ps, p.time < t ↔ p.time < t') → pbytes flow t ps = pbytes flow t' ps
  | [], _ => rfl
  | p :: ps, h => by
    have h1 := h p (by simp)
    have ih := pbytes_congr (flow := flow) ps (fun q hq => h q (by simp [hq]))
    simp only [pbytes]
    rw [ih]
    congr 1
    have e : hit flow t p ↔ hit flow t' p := by unfold hit; rw [h1]
    by_cases hh : hit flow t p
    · rw [if_pos hh, if_pos (e.1 hh)]
    · rw [if_neg hh, if_neg (fun h2 => hh (e.2 h2))]
def endN (ps : List Pkt) : Int := if ps.length = 0 then 0 else (nth ps (ps.length - 1)).time + 1
theorem nth_up {vs : List Int} {en : Nat} (hm : ∀ j, j < en → nth vs j ≤ nth vs (j + 1)) {a b : Nat} (hab : a ≤ b) (hb : b ≤ en) : nth vs a ≤ nth vs b := by
  induction b with
  | zero => obtain rfl : a = 0 := by omega
            exact Int.le_refl _
  | succ b ih =>
    by_cases e : a = b + 1
    · subst e; exact Int.le_refl _
    · have h1 := ih (by omega) (by omega)
      have h2 := hm b (by omega)
      omega
theorem keeps {ps : List Pkt} {flow : Int} (hsort : ps.Pairwise fun a b => a.time ≤ b.time) {en : Nat} (hen : ∀ p ∈ ps, 0 ≤ p.time ∧ p.time < en) {vs : List Int} (h0 : ∀ j, j ≤ en → 0 ≤ nth vs j) (hm : ∀ j, j < en → nth vs j ≤ nth vs (j + 1))
    (hP : ∀ i, i < ps.length → ∀ T t : Nat, (nth ps i).time = T → T ≤ t → t ≤ en → pbytes flow (t : Int) ps - pbytes flow (T : Int) ps ≤ nth vs (t - T)) {x t : Nat} (hxt : x ≤ t) : pbytes flow (t : Int) ps - pbytes flow (x : Int) ps ≤ nth vs (min (t - x) en) := by
  have hnn := h0 (min (t - x) en) (by omega)
  by_cases hex : ∃ i, i < ps.length ∧ (x : Int) ≤ (nth ps i).time ∧ (nth ps i).time < t
  · obtain ⟨i0, i1, i2, i3⟩ := hex
    rcases findFrom_cases (fun i => decide ((x : Int) ≤ (nth ps i).time)) ps.length 0 with ⟨j, j1, j2, _, j4, j5⟩ | ⟨_, h2⟩
    · have j4 := of_decide_eq_true j4
      have hji : j ≤ i0 := by
        apply Classical.byContradiction
        intro hn
        have := of_decide_eq_false (j5 i0 (Nat.zero_le _) (by omega))
        exact this i2
      have hle : ∀ i, j ≤ i → i < ps.length → (nth ps j).time ≤ (nth ps i).time := fun i h1 h2 => by
        by_cases e : j = i
        · subst e; exact Int.le_refl _
        · have := List.pairwise_iff_getElem.1 hsort j i (by omega) h2 (by omega)
          rwa [← nth_eq (show j < ps.length by omega), ← nth_eq h2] at this
      have hj := hen _ (nth_mem (xs := ps) (k := j) (by omega))
      obtain ⟨T, hT⟩ := Int.eq_ofNat_of_zero_le hj.1
      have hTi := hle i0 hji i1
      have e1 : pbytes flow (x : Int) ps = pbytes flow (T : Int) ps := by
        refine pbytes_congr ps (all_of_nth (fun i hi => ?_))
        constructor
        · intro h; omega
        · intro h
          apply Classical.byContradiction
          intro hn
          by_cases hij : i < j
          · have := of_decide_eq_false (j5 i (Nat.zero_le _) hij)
            omega
          · have := hle i (by omega) hi
            omega
      have e2 : pbytes flow (t : Int) ps = pbytes flow ((min t en : Nat) : Int) ps := by
        refine pbytes_congr ps (fun p hp => ?_)
        have := hen p hp
        omega
      have h3 := hP j (by omega) T (min t en) hT (by omega) (by omega)
      have h4 := nth_up hm (a := min t en - T) (b := min (t - x) en) (by omega) (by omega)
      omega
    · exact absurd i2 (of_decide_eq_false (h2 i0 (Nat.zero_le _) (by omega)))
  · have e : pbytes flow (t : Int) ps = pbytes flow (x : Int) ps := by
      refine pbytes_congr ps (all_of_nth (fun i hi => ?_))
      constructor
      · intro h
        apply Classical.byContradiction
        intro hn
        exact hex ⟨i, hi, by omega, h⟩
      · intro h; omega
    omega
end Go.Proofs.Ytnackbfnmhkodaa.M

/- Any line that is never idle and keeps the order within a class: service and waits of a class, plain. No condition. -/
namespace Go.Proofs.Ytnackbfnmhkodaa.M
open Go Go.Proofs.Ytnackbfnmhkodaa.K

section
variable {σ : Type} {ps : List Pkt} {ch : MS → σ → Int × Nat × σ} {good : MS → σ → Prop} {rel : Nat → Nat → Prop} {classes col k : Nat} {s : RS σ}
end
end Go.Proofs.Ytnackbfnmhkodaa.M
namespace Go.Proofs.Ytnackbfnmhkodaa.M
open Go Go.Proofs.Ytnackbfnmhkodaa.K
end Go.Proofs.Ytnackbfnmhkodaa.M

/- Deficit round robin, plain: the choice, that it ends, and what every run keeps. No condition. -/
namespace Go.Proofs.Ytnackbfnmhkodaa.M
open Go Go.Proofs.Ytnackbfnmhkodaa.K

def grant (nx : Int → Int) (w : List Int) (c : Nat) (b : Bool) (d : List Int) : List Int := if 0 ≤ nx c ∧ b = false then d.set c (nth d c + nth w c) else d
def drop0 (nx : Int → Int) (c : Nat) (d : List Int) : List Int := if nx c < 0 then d.set c 0 else d
def defGo (nx sz : Int → Int) (w : List Int) : Nat → Nat → Bool → List Int → Int × (Nat × Bool × List Int)
  | 0, c, b, d => (-1, (c, b, d))
  | k + 1, c, b, d =>
    if 0 ≤ nx c ∧ sz (nx c) ≤ nth (grant nx w c b d) c then (nx c, (c, true, (grant nx w c b d).set c (nth (grant nx w c b d) c - sz (nx c))))
    else defGo nx sz w k ((c + 1) % w.length) false (drop0 nx c (grant nx w c b d))
def szOf (ps : List Pkt) (i : Int) : Int := (nth ps i.toNat).size
/-- so many steps are enough -/
def defF (n : Nat) : Nat := 1502 * n
def defCh (ps : List Pkt) (w : List Int) (ms : MS) (s : Nat × Bool × List Int) : Int × Nat × (Nat × Bool × List Int) :=
  if firstR ps ms < 0 then (-1, skipTo ms.begun ms.before, s)
  else ((defGo (nextW ps ms) (szOf ps) w (defF w.length) s.1 s.2.1 s.2.2).1, skipTo ms.begun ms.before, (defGo (nextW ps ms) (szOf ps) w (defF w.length) s.1 s.2.1 s.2.2).2)
def defRc (ps : List Pkt) (w : List Int) (st : St) (g : Nat × Bool × List Int) : Int × (Nat × Bool × List Int) :=
  if 0 ≤ firstW ps st (-1) then defGo (firstW ps st) (szOf ps) w (defF w.length) g.1 g.2.1 g.2.2 else (-1, g)
/-- the deficits' bounds -/
def DOk (n c : Nat) (b : Bool) (d : List Int) : Prop := c < n ∧ d.length = n ∧ ∀ i, i < n → 0 ≤ nth d i ∧ nth d i ≤ (if i = c ∧ b = true then 7499 else 1499)
def dist (n j c : Nat) : Nat := if c ≤ j then j - c else j + n - c
/-- how far a waiting class is -/
def far (n j c : Nat) (b : Bool) (d : List Int) : Nat := n * (1500 - nth d j).toNat + (if c = j ∧ b = true then n else dist n j c)
def DSoon (nx : Int → Int) (n k c : Nat) (b : Bool) (d : List Int) : Prop := ∃ j, j < n ∧ 0 ≤ nx (j : Int) ∧ far n j c b d < k
section
variable {nx sz : Int → Int} {w : List Int}
theorem grant_len (c : Nat) (b : Bool) (d : List Int) : (grant nx w c b d).length = d.length := by unfold grant; split <;> simp
theorem drop0_len (c : Nat) (d : List Int) : (drop0 nx c d).length = d.length := by unfold drop0; split <;> simp
theorem grant_ne {c i : Nat} {b : Bool} {d : List Int} (h : i ≠ c) : nth (grant nx w c b d) i = nth d i := by
  unfold grant; split
  · rw [nth_set_ne (Ne.symm h)]
  · rfl
theorem grant_self {c : Nat} {b : Bool} {d : List Int} (h : c < d.length) : nth (grant nx w c b d) c = (if 0 ≤ nx c ∧ b = false then nth d c + nth w c else nth d c) := by
  unfold grant; split
  · rw [nth_set_self h]
  · rfl
theorem drop0_ne {c i : Nat} {d : List Int} (h : i ≠ c) : nth (drop0 nx c d) i = nth d i := by
  unfold drop0; split
  · rw [nth_set_ne (Ne.symm h)]
  · rfl
theorem drop0_self {c : Nat} {d : List Int} (h : c < d.length) : nth (drop0 nx c d) c = (if nx c < 0 then 0 else nth d c) := by
  unfold drop0; split
  · rw [nth_set_self h]
  · rfl
theorem mod_succ {n c : Nat} (hc : c < n) : (c + 1) % n = if c + 1 < n then c + 1 else 0 := by
  split
  · rename_i h; exact Nat.mod_eq_of_lt h
  · rw [show c + 1 = n by omega, Nat.mod_self]
/-- what is granted stays within its bounds -/
theorem DOk.grant (hw : ∀ x ∈ w, 1 ≤ x ∧ x ≤ 6000) {c : Nat} {b : Bool} {d : List Int} (h : DOk w.length c b d) : ∀ i, i < w.length → 0 ≤ nth (grant nx w c b d) i ∧ nth (M.grant nx w c b d) i ≤ (if i = c then 7499 else 1499) := by
  obtain ⟨h1, h2, h3⟩ := h
  intro i hi
  have a := h3 i hi
  by_cases e : i = c
  · subst e
    rw [grant_self (by omega), if_pos rfl]
    have := hw _ (nth_mem hi)
    split
    · rename_i hh
      rw [if_neg (by rw [hh.2]; simp)] at a
      omega
    · split at a <;> omega
  · rw [grant_ne e, if_neg e]
    rw [if_neg (fun hh => e hh.1)] at a
    exact a
theorem DOk.next (hw : ∀ x ∈ w, 1 ≤ x ∧ x ≤ 6000) {c : Nat} (hsz : 0 ≤ nx c → sz (nx c) ≤ 1500) {b : Bool} {d : List Int} (h : DOk w.length c b d) (hno : ¬ (0 ≤ nx c ∧ sz (nx c) ≤ nth (M.grant nx w c b d) c)) :
    DOk w.length ((c + 1) % w.length) false (drop0 nx c (M.grant nx w c b d)) := by
  have hg := h.grant (nx := nx) hw
  obtain ⟨h1, h2, h3⟩ := h
  refine ⟨Nat.mod_lt _ (by omega), by rw [drop0_len, grant_len]; exact h2, fun i hi => ?_⟩
  rw [if_neg (by simp)]
  have a := hg i hi
  by_cases e : i = c
  · subst e
    rw [drop0_self (by rw [grant_len]; omega)]
    split
    · omega
    · rename_i h0
      have : ¬ sz (nx i) ≤ nth (M.grant nx w i b d) i := fun hh => hno ⟨by omega, hh⟩
      have := hsz (by omega)
      omega
  · rw [drop0_ne e]
    rw [if_neg e] at a; exact a
theorem DOk.pick (hw : ∀ x ∈ w, 1 ≤ x ∧ x ≤ 6000) {c : Nat} (hsz : 1 ≤ sz (nx c)) {b : Bool} {d : List Int} (h : DOk w.length c b d) (hy : sz (nx c) ≤ nth (M.grant nx w c b d) c) :
    DOk w.length c true ((M.grant nx w c b d).set c (nth (M.grant nx w c b d) c - sz (nx c))) := by
  have hg := h.grant (nx := nx) hw
  obtain ⟨h1, h2, h3⟩ := h
  refine ⟨h1, by rw [List.length_set, grant_len]; exact h2, fun i hi => ?_⟩
  have a := hg i hi
  by_cases e : i = c
  · subst e
    rw [nth_set_self (by rw [grant_len]; omega), if_pos ⟨rfl, rfl⟩]
    rw [if_pos rfl] at a
    omega
  · rw [nth_set_ne (Ne.symm e), if_neg (fun hh => e hh.1)]
    rw [if_neg e] at a; exact a
end
def goodDf (ps : List Pkt) (n : Nat) (ms : MS) (s : Nat × Bool × List Int) : Prop := goodB ps ms ∧ DOk n s.1 s.2.1 s.2.2
section
variable {ps : List Pkt} {w : List Int} {ms : MS} {s : Nat × Bool × List Int}
def def0 (n : Nat) : Nat × Bool × List Int := (0, false, List.replicate n 0)
end
end Go.Proofs.Ytnackbfnmhkodaa.M

/- Deficit round robin while a class is backlogged, plain: what the others take. No condition. -/
namespace Go.Proofs.Ytnackbfnmhkodaa.M
open Go Go.Proofs.Ytnackbfnmhkodaa.K

def sumF (f : Nat → Int) : Nat → Int
  | 0 => 0
  | n + 1 => sumF f n + f n
theorem sumF_congr {f g : Nat → Int} : ∀ {n : Nat}, (∀ i, i < n → f i = g i) → sumF f n = sumF g n
  | 0, _ => rfl
  | n + 1, h => by simp only [sumF]; rw [sumF_congr (fun i hi => h i (by omega)), h n (by omega)]
theorem sumF_le {f g : Nat → Int} : ∀ {n : Nat}, (∀ i, i < n → f i ≤ g i) → sumF f n ≤ sumF g n
  | 0, _ => Int.le_refl _
  | n + 1, h => by have a := sumF_le (fun i hi => h i (by omega) : ∀ i, i < n → f i ≤ g i); have b := h n (by omega); simp only [sumF]; omega
theorem sumF_change {f g : Nat → Int} {c : Nat} : ∀ {n : Nat}, c < n → (∀ i, i < n → i ≠ c → g i = f i) → sumF g n = sumF f n + (g c - f c)
  | 0, h, _ => by omega
  | n + 1, hc, h => by
    simp only [sumF]
    by_cases e : c = n
    · subst e
      rw [sumF_congr (fun i hi => h i (by omega) (by omega) : ∀ i, i < c → g i = f i)]; omega
    · rw [sumF_change (by omega) (fun i hi hne => h i (by omega) hne : ∀ i, i < n → i ≠ c → g i = f i), h n (by omega) (by omega)]; omega
theorem sumF_add {f g : Nat → Int} : ∀ {n : Nat}, sumF (fun i => f i + g i) n = sumF f n + sumF g n
  | 0 => rfl
  | n + 1 => by simp only [sumF]; rw [sumF_add]; omega
def xF (k : Nat) (w : List Int) (z : List Sz) (i : Nat) : Int := if i ≠ k ∧ 1 ≤ (nth z i).most then nth w i else 0
def zF (k : Nat) (z : List Sz) (i : Nat) : Int := if i ≠ k ∧ 1 ≤ (nth z i).most then (nth z i).most - 1 else 0
theorem xSum_eq {k : Nat} {w : List Int} {z : List Sz} : ∀ n : Nat, xSum k w z n = sumF (xF k w z) n
  | 0 => rfl
  | n + 1 => by
    simp only [xSum, sumF, xSum_eq n]
    congr 1
    unfold xF
    by_cases h : n ≠ k ∧ 1 ≤ (nth z n).most
    · rw [if_pos h, if_pos ⟨by omega, h.2⟩]
    · rw [if_neg h, if_neg (fun hh => h ⟨by omega, hh.2⟩)]
/-- the quantum of class i is still to be given before class k's next one -/
def pend (k c : Nat) (b : Bool) (i : Nat) : Bool := if c = k then b else (decide (i ≠ c) || !b) && (if c ≤ k then decide (c ≤ i ∧ i < k) else decide (c ≤ i ∨ i < k))
theorem pend_iff {k c i : Nat} {b : Bool} : pend k c b i = true ↔ (c = k ∧ b = true) ∨ (c ≠ k ∧ (i ≠ c ∨ b = false) ∧ ((c ≤ k ∧ c ≤ i ∧ i < k) ∨ (¬ c ≤ k ∧ (c ≤ i ∨ i < k)))) := by
  unfold pend
  by_cases h1 : c = k
  · rw [if_pos h1]; simp [h1]
  · rw [if_neg h1]
    by_cases h2 : c ≤ k
    · rw [if_pos h2]; cases b <;> simp [h1, h2]
    · rw [if_neg h2]; cases b <;> simp [h1, h2]
theorem pend_next {k c n i : Nat} (hc : c < n) (hk : k < n) (hn : 2 ≤ n) (hi : i < n) (hik : i ≠ k) : pend k ((c + 1) % n) false i = pend k c true i := by
  rw [mod_succ hc, Bool.eq_iff_iff, pend_iff, pend_iff]
  have e1 : (false = true) = False := by simp
  have e2 : (true = false) = False := by simp
  by_cases hl : c + 1 < n
  · rw [if_pos hl, e1, e2]
    simp only [and_false, or_false, and_true, or_true, true_and, false_or]
    omega
  · rw [if_neg hl, e1, e2]
    simp only [and_false, or_false, and_true, or_true, true_and, false_or]
    omega
theorem pend_self {k c : Nat} (h : c ≠ k) : pend k c true c = false := by unfold pend; rw [if_neg h]; simp
theorem pend_self' {k c : Nat} (h : c ≠ k) : pend k c false c = true := by unfold pend; rw [if_neg h]; split <;> simp <;> omega
theorem pend_other {k c i : Nat} {b : Bool} (h : c ≠ k) (hi : i ≠ c) : pend k c b i = pend k c true i := by unfold pend; rw [if_neg h, if_neg h]; simp [hi]
theorem pend_k {k i : Nat} {b : Bool} : pend k k b i = b := by unfold pend; rw [if_pos rfl]
/-- deficits saved, and quanta to come -/
def potF (w : List Int) (z : List Sz) (k c : Nat) (b : Bool) (d : List Int) (i : Nat) : Int := if i ≠ k ∧ 1 ≤ (nth z i).most then nth d i + (if pend k c b i = true then nth w i else 0) else 0
/-- the deficits: what is saved is less than a packet, but of the class that is visited -/
def DD (n : Nat) (z : List Sz) (c : Nat) (b : Bool) (d : List Int) : Prop := c < n ∧ d.length = n ∧ ∀ i, i < n → 0 ≤ nth d i ∧ (¬ (i = c ∧ b = true) → 1 ≤ (nth z i).most → nth d i ≤ (nth z i).most - 1)
def JD (w : List Int) (z : List Sz) (k c : Nat) (b : Bool) (d : List Int) (op own oth : Int) : Prop :=
  DD w.length z c b d ∧ ∃ v : Nat, oth + (if c = k then 0 else op) + sumF (potF w z k c b d) w.length ≤ ((v : Int) + 1) * xSum k w z w.length + zSum k z w.length ∧
    (v : Int) * nth w k ≤ own + (if c = k then op else 0) + nth d k ∧ (c = k → b = true → ((v : Int) - 1) * nth w k - ((nth z k).most - 1) ≤ own)
section
variable {nx sz : Int → Int} {w : List Int} {z : List Sz} {k : Nat}
theorem DD.grant (hw : ∀ x ∈ w, 1 ≤ x) {c : Nat} {b : Bool} {d : List Int} (h : DD w.length z c b d) (h0 : 0 ≤ nx c) : DD w.length z c true (M.grant nx w c b d) := by
  obtain ⟨h1, h2, h3⟩ := h
  refine ⟨h1, by rw [grant_len]; exact h2, fun i hi => ?_⟩
  have a := h3 i hi
  by_cases e : i = c
  · subst e
    refine ⟨?_, fun hn => absurd ⟨rfl, rfl⟩ hn⟩
    rw [grant_self (by omega)]
    have := hw _ (nth_mem hi)
    split <;> omega
  · rw [grant_ne e]
    exact ⟨a.1, fun _ hm => a.2 (fun hh => e hh.1) hm⟩
theorem DD.pick {c : Nat} {d : List Int} (h : DD w.length z c true d) {s : Int} (hs : s ≤ nth d c) : DD w.length z c true (d.set c (nth d c - s)) := by
  obtain ⟨h1, h2, h3⟩ := h
  refine ⟨h1, by rw [List.length_set]; exact h2, fun i hi => ?_⟩
  have a := h3 i hi
  by_cases e : i = c
  · subst e
    rw [nth_set_self (by omega)]
    exact ⟨by omega, fun hn => absurd ⟨rfl, rfl⟩ hn⟩
  · rw [nth_set_ne (Ne.symm e)]
    exact ⟨a.1, fun _ hm => a.2 (fun hh => e hh.1) hm⟩
theorem DD.next {c : Nat} {b : Bool} {d : List Int} (h : DD w.length z c b d) (hlt : 1 ≤ (nth z c).most → nth d c ≤ (nth z c).most - 1) : DD w.length z ((c + 1) % w.length) false d := by
  obtain ⟨h1, h2, h3⟩ := h
  refine ⟨Nat.mod_lt _ (by omega), h2, fun i hi => ?_⟩
  have a := h3 i hi
  refine ⟨a.1, fun _ hm => ?_⟩
  by_cases e : i = c
  · subst e; exact hlt hm
  · exact a.2 (fun hh => e hh.1) hm
theorem JD.grant (hw : ∀ x ∈ w, 1 ≤ x) (hk : k < w.length) (hL : 1 ≤ (nth z k).most) {c : Nat} {b : Bool} {d : List Int} {own oth : Int} (h : JD w z k c b d 0 own oth) (h0 : 0 ≤ nx c) : JD w z k c true (M.grant nx w c b d) 0 own oth := by
  obtain ⟨hd, v, a1, a2, a3⟩ := h
  refine ⟨hd.grant hw h0, ?_⟩
  have hcl : c < d.length := by rw [hd.2.1]; exact hd.1
  cases b with
  | true =>
    have e : M.grant nx w c true d = d := by unfold M.grant; rw [if_neg (by simp)]
    rw [e]; exact ⟨v, a1, a2, a3⟩
  | false =>
    have eg : nth (M.grant nx w c false d) c = nth d c + nth w c := by rw [grant_self hcl, if_pos ⟨h0, rfl⟩]
    by_cases hck : c = k
    · subst hck
      rw [if_pos rfl] at a1 a2
      refine ⟨v + 1, ?_, ?_, fun _ _ => ?_⟩
      · rw [if_pos rfl]
        have e : sumF (potF w z c c true (M.grant nx w c false d)) w.length = sumF (potF w z c c false d) w.length + xSum c w z w.length := by
          rw [xSum_eq, ← sumF_add]
          refine sumF_congr (fun i hi => ?_)
          unfold potF xF
          by_cases hh : i ≠ c ∧ 1 ≤ (nth z i).most
          · rw [if_pos hh, if_pos hh, if_pos hh, grant_ne hh.1, pend_k, pend_k, if_pos rfl, if_neg (by simp)]; omega
          · rw [if_neg hh, if_neg hh, if_neg hh]; omega
        rw [e]
        have e2 : (((v + 1 : Nat) : Int) + 1) * xSum c w z w.length = ((v : Int) + 1) * xSum c w z w.length + xSum c w z w.length := by rw [show (((v + 1 : Nat) : Int) + 1) = ((v : Int) + 1) + 1 by omega, Int.add_mul, Int.one_mul]
        rw [e2]; omega
      · rw [if_pos rfl, eg]
        have e2 : (((v + 1 : Nat) : Int)) * nth w c = (v : Int) * nth w c + nth w c := by rw [show ((v + 1 : Nat) : Int) = (v : Int) + 1 by omega, Int.add_mul, Int.one_mul]
        rw [e2]; omega
      · have hdk := (hd.2.2 c hk).2 (by simp) hL
        rw [show (((v + 1 : Nat) : Int) - 1) = (v : Int) by omega]
        omega
    · rw [if_neg hck] at a1 a2
      refine ⟨v, ?_, ?_, fun h => absurd h hck⟩
      · rw [if_neg hck]
        have e : sumF (potF w z k c true (M.grant nx w c false d)) w.length = sumF (potF w z k c false d) w.length := by
          refine sumF_congr (fun i hi => ?_)
          unfold potF
          by_cases hh : i ≠ k ∧ 1 ≤ (nth z i).most
          · rw [if_pos hh, if_pos hh]
            by_cases e : i = c
            · subst e
              rw [eg, pend_self hck, pend_self' hck, if_neg (by simp), if_pos rfl]; omega
            · rw [grant_ne e, pend_other (b := false) hck e]
          · rw [if_neg hh, if_neg hh]
        rw [e]; exact a1
      · rw [if_neg hck, grant_ne (Ne.symm hck)]; exact a2
theorem JD.pick {c : Nat} {d : List Int} {own oth : Int} (h : JD w z k c true d 0 own oth) {s : Int} (hs : s ≤ nth d c) (hm : 1 ≤ (nth z c).most) : JD w z k c true (d.set c (nth d c - s)) s own oth := by
  obtain ⟨hd, v, a1, a2, a3⟩ := h
  have hcl : c < d.length := by rw [hd.2.1]; exact hd.1
  refine ⟨hd.pick hs, v, ?_, ?_, a3⟩
  · by_cases hck : c = k
    · subst hck
      rw [if_pos rfl] at a1 ⊢
      have e : sumF (potF w z c c true (d.set c (nth d c - s))) w.length = sumF (potF w z c c true d) w.length := by
        refine sumF_congr (fun i hi => ?_)
        unfold potF
        by_cases hh : i ≠ c ∧ 1 ≤ (nth z i).most
        · rw [if_pos hh, if_pos hh, nth_set_ne (Ne.symm hh.1)]
        · rw [if_neg hh, if_neg hh]
      rw [e]; exact a1
    · rw [if_neg hck] at a1 ⊢
      have e : sumF (potF w z k c true (d.set c (nth d c - s))) w.length = sumF (potF w z k c true d) w.length + (potF w z k c true (d.set c (nth d c - s)) c - potF w z k c true d c) := by
        refine sumF_change hd.1 (fun i hi hne => ?_)
        unfold potF
        rw [nth_set_ne (Ne.symm hne)]
      have e2 : potF w z k c true (d.set c (nth d c - s)) c - potF w z k c true d c = - s := by
        unfold potF
        have hcm : c ≠ k ∧ 1 ≤ (nth z c).most := ⟨hck, hm⟩
        rw [if_pos hcm, if_pos hcm, nth_set_self hcl]; omega
      rw [e, e2]; omega
  · by_cases hck : c = k
    · subst hck
      rw [if_pos rfl] at a2 ⊢
      rw [nth_set_self hcl]; omega
    · rw [if_neg hck] at a2 ⊢
      rw [nth_set_ne hck]; exact a2
theorem JD.next (hw : ∀ x ∈ w, 1 ≤ x) (hk : k < w.length) (hn : 2 ≤ w.length) {c : Nat} {d : List Int} {own oth : Int} (h : JD w z k c true d 0 own oth) (hlt : 1 ≤ (nth z c).most → nth d c ≤ (nth z c).most - 1) : JD w z k ((c + 1) % w.length) false d 0 own oth := by
  obtain ⟨hd, v, a1, a2, a3⟩ := h
  refine ⟨hd.next hlt, v, ?_, ?_, fun _ h => by cases h⟩
  · have e : sumF (potF w z k ((c + 1) % w.length) false d) w.length = sumF (potF w z k c true d) w.length := by
      refine sumF_congr (fun i hi => ?_)
      unfold potF
      by_cases hh : i ≠ k ∧ 1 ≤ (nth z i).most
      · rw [if_pos hh, if_pos hh, pend_next hd.1 hk hn hi hh.1]
      · rw [if_neg hh, if_neg hh]
    rw [e]
    split <;> split at a1 <;> omega
  · split <;> split at a2 <;> omega
/-- a class without a waiting packet loses its deficit -/
theorem JD.skip (hw : ∀ x ∈ w, 1 ≤ x) (hk : k < w.length) (hn : 2 ≤ w.length) {c : Nat} {b : Bool} {d : List Int} {own oth : Int} (h : JD w z k c b d 0 own oth) (hck : c ≠ k) : JD w z k ((c + 1) % w.length) false (d.set c 0) 0 own oth := by
  obtain ⟨hd, v, a1, a2, a3⟩ := h
  have hcl : c < d.length := by rw [hd.2.1]; exact hd.1
  have hd2 : DD w.length z c b (d.set c 0) := by
    refine ⟨hd.1, by rw [List.length_set]; exact hd.2.1, fun i hi => ?_⟩
    by_cases e : i = c
    · subst e
      rw [nth_set_self hcl]
      exact ⟨Int.le_refl _, fun _ hm => by omega⟩
    · rw [nth_set_ne (Ne.symm e)]; exact hd.2.2 i hi
  refine ⟨hd2.next (fun hm => by rw [nth_set_self hcl]; omega), v, ?_, ?_, fun _ h => by cases h⟩
  · have e : sumF (potF w z k ((c + 1) % w.length) false (d.set c 0)) w.length ≤ sumF (potF w z k c b d) w.length := by
      refine sumF_le (fun i hi => ?_)
      unfold potF
      by_cases hh : i ≠ k ∧ 1 ≤ (nth z i).most
      · rw [if_pos hh, if_pos hh, pend_next hd.1 hk hn hi hh.1]
        by_cases e : i = c
        · subst e
          rw [nth_set_self hcl, pend_self hck, if_neg (by simp)]
          have := (hd.2.2 i hi).1
          have := hw _ (nth_mem hi)
          split <;> omega
        · rw [nth_set_ne (Ne.symm e), pend_other (b := b) hck e]; exact Int.le_refl _
      · rw [if_neg hh, if_neg hh]; exact Int.le_refl _
    rw [if_neg hck] at a1
    split <;> omega
  · rw [nth_set_ne hck]
    rw [if_neg hck] at a2
    split <;> omega
end
def Jdef (ps : List Pkt) (w : List Int) (z : List Sz) (k : Nat) (sg : Nat × Bool × List Int) (cur rest own oth : Int) : Prop := JD w z k sg.1 sg.2.1 sg.2.2 (if 0 ≤ cur then rest else 0) own oth ∧ (0 ≤ cur → (nth ps cur.toNat).flow = sg.1 ∧ sg.2.1 = true)
section
variable {ps : List Pkt} {w : List Int} {z : List Sz} {k : Nat}
/-- where every run stands -/
def V0 (w : List Int) (z : List Sz) (c : Nat) (b : Bool) (d : List Int) (op : Int) : Prop := DD w.length z c b d ∧ (b = true → 1 ≤ (nth z c).most → nth d c + op ≤ (nth z c).most - 1 + nth w c)
def Vdef (ps : List Pkt) (w : List Int) (z : List Sz) (sg : Nat × Bool × List Int) (cur rest : Int) : Prop := V0 w z sg.1 sg.2.1 sg.2.2 (if 0 ≤ cur then rest else 0) ∧ (0 ≤ cur → cur < ps.length ∧ (nth ps cur.toNat).flow = sg.1 ∧ sg.2.1 = true ∧ 0 ≤ rest ∧ 1 ≤ (nth z sg.1).most)
theorem V0.grant (hw : ∀ x ∈ w, 1 ≤ x) {nx : Int → Int} {c : Nat} {b : Bool} {d : List Int} (h : V0 w z c b d 0) (h0 : 0 ≤ nx c) : V0 w z c true (M.grant nx w c b d) 0 := by
  obtain ⟨hd, h1⟩ := h
  have hcl : c < d.length := by rw [hd.2.1]; exact hd.1
  refine ⟨hd.grant hw h0, fun _ hm => ?_⟩
  rw [grant_self hcl]
  cases b with
  | true => rw [if_neg (by simp)]; exact h1 rfl hm
  | false =>
    rw [if_pos ⟨h0, rfl⟩]
    have := (hd.2.2 c hd.1).2 (by simp) hm
    omega
end
end Go.Proofs.Ytnackbfnmhkodaa.M

/- Weighted and deficit round robin: the curve of a class is what it is served while it is backlogged, plain. No condition. -/
namespace Go.Proofs.Ytnackbfnmhkodaa.M
open Go Go.Proofs.Ytnackbfnmhkodaa.K

/-- what a law over a scheduler wants of a class's curve: its form, and that it is less than what is sent where the others take at most O -/
def CurveFor (x : Cv × Int) (cap : Int) (O : Int → Int) (G : Nat → Int) (s p : Nat) (q : Int) : Prop :=
  x = (⟨fvals G (s + p), p, q⟩, 0) ∧ FC G s p q ∧ G 0 = 0 ∧ ∀ (t : Nat) (own : Int), 0 ≤ own → cap * (t : Int) ≤ own + O own → G t ≤ own
section
variable {σ : Type} {ps : List Pkt} {ch : MS → σ → Int × Nat × σ} {good : MS → σ → Prop} {classes k : Nat}
end
end Go.Proofs.Ytnackbfnmhkodaa.M

/- Time slots, plain: what every run of such a line keeps. No condition. -/
namespace Go.Proofs.Ytnackbfnmhkodaa.M
open Go Go.Proofs.Ytnackbfnmhkodaa.K

/-- the rest of a packet has room in the ticks in a row from t on -/
def Fits (tb : List Int) (cap : Int) (t : Nat) (left rest : Int) : Prop := (∀ i, slotT tb i = slotT tb t) ∨ ∃ n : Nat, (∀ j, j ≤ n → slotT tb (t + j) = slotT tb t) ∧ rest ≤ left + cap * n
theorem Fits.next {tb : List Int} {cap : Int} {t : Nat} {rest : Int} (h : Fits tb cap t 0 rest) (hr : 1 ≤ rest) : slotT tb (t + 1) = slotT tb t ∧ Fits tb cap (t + 1) cap rest := by
  rcases h with h | ⟨n, h1, h2⟩
  · exact ⟨h _, .inl (fun i => by rw [h i, h (t + 1)])⟩
  · cases n with
    | zero => simp at h2; omega
    | succ n =>
      have e := h1 1 (by omega)
      refine ⟨e, .inr ⟨n, fun j hj => ?_, ?_⟩⟩
      · rw [show t + 1 + j = t + (j + 1) by omega, h1 (j + 1) (by omega), e]
      · rw [Int.natCast_add, Int.mul_add] at h2
        simp at h2; omega
structure SlotPost (ps : List Pkt) (cap : Int) (tb : List Int) (classes t : Nat) (s s' : RS Unit) : Prop where
  open_ : 0 ≤ s'.cur → (nth ps s'.cur.toNat).flow = slotT tb t ∧ Fits tb cap t s'.ms.left s'.rest
  left0 : 0 ≤ s'.cur → s'.ms.left = 0
  other : ∀ c : Nat, (c : Int) ≠ slotT tb t → c < classes → nth (nth s'.sent c) (t + 1) = nth (nth s.sent c) (t + 1)
  mine : ∀ c : Nat, (c : Int) = slotT tb t → c < classes → nth (nth s'.sent c) (t + 1) + s'.ms.left = nth (nth s.sent c) (t + 1) + s.ms.left
  done : ∀ i, i < ps.length → nth s'.done i = nth s.done i ∨ (nth s'.done i = t ∧ (nth ps i).flow = slotT tb t)
  beg : ∀ i, (nth ps i).flow ≠ slotT tb t → nth s'.ms.begun i = nth s.ms.begun i
  lft : 0 ≤ s'.ms.left ∧ s'.ms.left ≤ s.ms.left
  idle : 0 < s'.ms.left → s'.cur < 0 ∧ (slotT tb t < 0 ∨ nextW ps s'.ms (slotT tb t) < 0 ∨ ∃ n : Nat, aheadN tb (slotT tb t) t = n + 1 ∧ (nth ps (nextW ps s'.ms (slotT tb t)).toNat).size > s'.ms.left + cap * n)
section
variable {ps : List Pkt} {cap : Int} {tb : List Int} {classes : Nat}
end
end Go.Proofs.Ytnackbfnmhkodaa.M

/- Time slots, plain: the curve of a class, and that it is what the class is served. No condition. -/
namespace Go.Proofs.Ytnackbfnmhkodaa.M
open Go Go.Proofs.Ytnackbfnmhkodaa.K

/-- of so many ticks from a tick on: what the parts that have ended count, and the part that goes on -/
def slotS (cap lost : Int) (mine : Nat → Bool) (from_ : Nat) : Nat → Int × Int
  | 0 => (0, 0)
  | d + 1 => if mine (from_ + d) = true then ((slotS cap lost mine from_ d).1, (slotS cap lost mine from_ d).2 + cap) else ((slotS cap lost mine from_ d).1 + max 0 ((slotS cap lost mine from_ d).2 - lost), 0)
def cntS (cap lost : Int) (mine : Nat → Bool) (from_ k : Nat) : Int := (slotS cap lost mine from_ k).1 + max 0 ((slotS cap lost mine from_ k).2 - lost)
/-- the least of so many -/
def minTo (f : Nat → Int) : Nat → Int
  | 0 => 4611686018427387904
  | n + 1 => min (minTo f n) (f n)
def minN (f : Nat → Int) : Nat → Int
  | 0 => f 0
  | n + 1 => min (minN f n) (f n)
def slotF (cap lost : Int) (mine : Nat → Bool) (n : Nat) (k : Nat) : Int := minN (fun a => cntS cap lost mine a k) n
section
variable {cap lost : Int} {mine : Nat → Bool} {a : Nat}
end
/-- the ticks of a class -/
def mineT (tb : List Int) (k : Int) (t : Nat) : Bool := slotT tb t == k
section
variable {ps : List Pkt} {cap : Int} {tb : List Int} {classes k : Nat}
end
end Go.Proofs.Ytnackbfnmhkodaa.M

/- Time slots, plain: the curves of the program and of the reference are the same. No condition. -/
namespace Go.Proofs.Ytnackbfnmhkodaa.M
open Go Go.Proofs.Ytnackbfnmhkodaa.K

def chkT (cap cls : Int) (tb : List Int) (z : List Sz) : Int := if chk18 cap cls z ≠ 0 then 2 else if okT z.length tb = false then 2 else 0
def someT (cls : Int) (tb : List Int) : Bool := tb.any fun c => c == cls
def allT (cls : Int) (tb : List Int) : Bool := tb.all fun c => c == cls
def lineF (cap lost : Int) (t : Nat) : Int := max 0 (cap * t - lost)
def slotC (cap cls : Int) (tb : List Int) (z : List Sz) : Cv × Int :=
  if chkT cap cls tb z ≠ 0 then (zcv, chkT cap cls tb z)
  else if someT cls tb = false ∨ (nth z cls.toNat).most < 1 then (zcv, 5)
  else if allT cls tb = true then (if 400 * cap < (nth z cls.toNat).most - 1 then (zcv, 3) else madeR ⟨fvals (lineF cap ((nth z cls.toNat).most - 1)) 401, 1, cap⟩)
  else madeR ⟨fvals (slotF cap ((nth z cls.toNat).most - 1) (mineT tb cls) tb.length) (3 * tb.length + tb.length), tb.length,
    slotF cap ((nth z cls.toNat).most - 1) (mineT tb cls) tb.length (4 * tb.length - 1) - slotF cap ((nth z cls.toNat).most - 1) (mineT tb cls) tb.length (3 * tb.length - 1)⟩
section
variable {cap lost : Int}
variable {mine : Nat → Bool} {n : Nat}
end
end Go.Proofs.Ytnackbfnmhkodaa.M

/- Time slots: what the walks want. No condition. -/
namespace Go.Proofs.Ytnackbfnmhkodaa.M
open Go Go.Proofs.Ytnackbfnmhkodaa.K

def aheadP (tb : List Int) (cls : Int) (t n : Nat) : Bool := decide (cls < 0) || nth tb ((t + n) % tb.length) != cls
def aheadV (tb : List Int) (cls : Int) (t : Nat) : Int × Bool := if aheadN tb cls t = -1 then (0, false) else (aheadN tb cls t, true)
def clsN (tb : List Int) (k : Nat) : Int := (tb.take k).foldl (fun m c => if m < c + 1 then c + 1 else m) 1
/-- what room a packet of a class has at the beginning of a tick -/
def roomT (cap : Int) (tb : List Int) (cls t : Int) : Int :=
  if cap < 1 ∨ 4000 < cap ∨ tb.length < 1 ∨ 40 < tb.length ∨ t < 0 ∨ 2000 < t then 0
  else if (aheadV tb cls t.toNat).2 = false then 1073741824 else (aheadV tb cls t.toNat).1 * cap
/-- how many ticks of the part that goes on -/
def rowS (mine : Nat → Bool) (a : Nat) : Nat → Nat
  | 0 => 0
  | d + 1 => if mine (a + d) = true then rowS mine a d + 1 else 0
end Go.Proofs.Ytnackbfnmhkodaa.M

/- Chapter 16: the reference line. No condition. -/
set_option maxRecDepth 4000
set_option linter.unusedSimpArgs false
set_option linter.unusedVariables false
namespace Go.Proofs.Ytnackbfnmhkodaa
open Go Go.RowKit Go.Proofs.Ytnackbfnmhkodaa.K Go.Proofs.Ytnackbfnmhkodaa.M

end Go.Proofs.Ytnackbfnmhkodaa

/- Chapter 16: the reference line, begun. No condition. -/
set_option maxRecDepth 4000
set_option linter.unusedSimpArgs false
set_option linter.unusedVariables false
namespace Go.Proofs.Ytnackbfnmhkodaa
open Go Go.RowKit Go.Proofs.Ytnackbfnmhkodaa.K Go.Proofs.Ytnackbfnmhkodaa.M

end Go.Proofs.Ytnackbfnmhkodaa

/- Chapter 16: the reference run. No condition. -/
set_option maxRecDepth 4000
set_option linter.unusedSimpArgs false
set_option linter.unusedVariables false
namespace Go.Proofs.Ytnackbfnmhkodaa
open Go Go.RowKit Go.Proofs.Ytnackbfnmhkodaa.K Go.Proofs.Ytnackbfnmhkodaa.M

end Go.Proofs.Ytnackbfnmhkodaa

/- Chapter 16: what is answered to anything. No condition. -/
set_option maxRecDepth 4000
set_option linter.unusedSimpArgs false
set_option linter.unusedVariables false
namespace Go.Proofs.Ytnackbfnmhkodaa
open Go Go.RowKit Go.Proofs.Ytnackbfnmhkodaa.K Go.Proofs.Ytnackbfnmhkodaa.M

end Go.Proofs.Ytnackbfnmhkodaa

/- Time slots, plain: a class's curve is what it is served, and greater packets have a lesser one. No condition. -/
namespace Go.Proofs.Ytnackbfnmhkodaa.M
open Go Go.Proofs.Ytnackbfnmhkodaa.K

theorem FC.valid {F : Nat → Int} {S P : Nat} {I : Int} (h : FC F S P I) : validB ⟨fvals F (S + P), P, I⟩ = true := by
  have hP := h.hP
  have hn := h.hn
  have hI := h.hI
  rw [validB_iff]
  dsimp only
  rw [fvals_len]
  refine ⟨⟨by omega, by omega, by omega, by omega, by omega, by omega, by unfold MAXV; omega⟩, fun i hi => ?_, ?_⟩
  · rw [fvals_nth F hi]
    have a := h.nonneg i
    have b := h.hb i hi
    refine ⟨.inr ⟨a, by unfold MAXV; omega⟩, ?_⟩
    by_cases h0 : i = 0
    · exact .inl h0
    · right
      rw [fvals_nth F (by omega)]
      exact h.mono (show i - 1 ≤ i by omega)
  · rw [fvals_nth F (by omega), if_neg (h.fin (by omega)), Int.toNat_natCast, fvals_nth F (by omega)]
    have h1 := h.hg (S + P - P) (by omega)
    have h2 := h.mono (show S + P - 1 ≤ S + P - P + P by omega)
    omega
end Go.Proofs.Ytnackbfnmhkodaa.M

/- Chapter 21: the choice. No condition. -/
set_option maxRecDepth 4000
set_option linter.unusedSimpArgs false
set_option linter.unusedVariables false
namespace Go.Proofs.Ytnackbfnmhkodaa
open Go Go.RowKit Go.Proofs.Ytnackbfnmhkodaa.K Go.Proofs.Ytnackbfnmhkodaa.M

end Go.Proofs.Ytnackbfnmhkodaa

/- Chapter 21: runs of the reference. No condition. -/
set_option maxRecDepth 4000
set_option linter.unusedSimpArgs false
set_option linter.unusedVariables false
namespace Go.Proofs.Ytnackbfnmhkodaa
open Go Go.RowKit Go.Proofs.Ytnackbfnmhkodaa.K Go.Proofs.Ytnackbfnmhkodaa.M

end Go.Proofs.Ytnackbfnmhkodaa

/- Chapter 18: runs. No condition. -/
set_option maxRecDepth 4000
set_option linter.unusedSimpArgs false
set_option linter.unusedVariables false
namespace Go.Proofs.Ytnackbfnmhkodaa
open Go Go.RowKit Go.Proofs.Ytnackbfnmhkodaa.K Go.Proofs.Ytnackbfnmhkodaa.M

theorem Pri1_C {b5 n : Nat} {R : Ro} {sb : Nat} {pa : Option Addr} {pc bg : Nat} {ps : List Pkt} {ms : MS} (w0 : World) (hp : RS R 3 encP pa ps) (hb : ms.begun.length = ps.length) (hsort : ps.Pairwise fun a b => a.time ≤ b.time) (h5 : R b5 = some [.int .i64 (n : Int)]) (hn : 1 ≤ n ∧ n ≤ 1000) (hgd : goodB ps ms) (F : List Ent) :
  K.Fn Try.prog 86 [.pointer (some ⟨sb, 0, none⟩), .pointer (some ⟨b5, 0, none⟩)] w0 R (stE sb pa ps.length pc bg ms :: .sl 4 1 (some ⟨bg, 0, none⟩) ps.length (ms.begun.map encB) :: F) (fun v R' E' => v = .int .i64 (prioCh ps n ms ()).1 ∧ R = R' ∧ E' = stE sb pa ps.length pc bg { ms with before := (prioCh ps n ms ()).2.1 } :: .sl 4 1 (some ⟨bg, 0, none⟩) ps.length (ms.begun.map encB) :: F) := by
 have hch : prioCh ps n ms () = (prioFrom (nextW ps ms) n 0, skipTo ms.begun ms.before, ()) := rfl
 have hla := hp.len
 refine Fn.enter (n := 17) Try.func86 rfl rfl (Nat.le_of_ble_eq_true rfl) rfl ?_
 refine W.seq (W.region _ (WG.run tab_ok 1 rfl (WG.nil (WE.nxt (W.seq (W.seq (W.region _ ?_)))))))
 refine' WG.y rfl rfl qD (Yl.load1 tab_ok rfl rfl rfl (fun _ => rfl) ?r1 rfl ?h1) ?_
 case r1 => exact Rd.ro h5
 case h1 => rfl
 refine WG.run tab_ok 1 rfl (WG.nil (WE.nxt (W.block ?_)))
 refine W.loopK (β := Nat) (fun c => c ≤ n ∧ prioFrom (nextW ps ms) (n - c) c = prioFrom (nextW ps ms) n 0) (fun c => [(7, true, .int .i64 (c : Int))]) [0, 6] [_, _] [] _ rfl (fun c => [(0, stE sb pa ps.length pc bg { ms with before := bfN ms c })]) (fun c => n - c) (0) (⟨Nat.zero_le _, rfl⟩) ⟨rfl, rfl, rfl, rfl⟩ qS ?_
 intro c hst
 dsimp only [zipE, setAll, List.cons_append, List.nil_append, List.set_cons_zero, List.set_cons_succ] at hst ⊢
 
 refine W.seq (W.region _ (WG.run tab_ok 1 rfl (WG.nil (WE.nxt (W.seq ?_)))))
 refine W.condD rfl (fun hc0 => ?_) (fun hc0 => ?_)
 ·try dsimp only at hc0
  have hcn : c < n := by omega
  have hgo := hst.2
  rw [show n - c = (n - (c + 1)) + 1 by omega] at hgo
  simp only [prioFrom] at hgo
  refine W.skip (WE.nxt (W.seq (W.block (W.seq (W.region _ (WG.run tab_ok 2 rfl (WG.nil (WE.nxt (W.seq (W.region _ (WG.run tab_ok 2 rfl ?_)))))))))))
  refine WL.call en87 rfl rfl qD (CallOp.mkT rfl rfl rfl rfl) (Next_C (ms := { ms with before := bfN ms c }) w0 hp hb (bfN_good hgd hb c) hsort _ _) ?_
  rintro _ _ _ - ⟨rfl, rfl, rfl⟩
  dsimp only
  rw [bfN_skip hgd hb c, show skipTo ms.begun ms.before = bfN ms (c + 1) from (if_neg (by omega)).symm, show nextW ps { ms with before := bfN ms c } (c : Int) = nextW ps ms (c : Int) from rfl]
  have hnl := nextW_lt ps ms (c : Int)
  refine WG.run tab_ok 1 rfl (WG.nil (WE.nxt (W.seq (W.region _ (WG.run tab_ok 2 rfl (WG.nil (WE.nxt ?_)))))))
  refine W.condD rfl (fun hc1 => ?_) (fun hc1 => ?_)
  ·try dsimp only at hc1
   rw [if_pos hc1] at hgo
   have hbn : bfN ms (c + 1) = skipTo ms.begun ms.before := if_neg (by omega)
   refine W.seq (W.region _ (WG.run tab_ok 2 rfl (WG.nil (WE.nxt (W.ret (WE.blk_ret (WE.then_ret (WE.then_ret (WE.blk_ret (WE.then_ret ?_))))))))))
   refine WE.retF tab_ok [_] rfl ⟨rfl, trivial⟩ (RLe.refl _) ?_
   exact ⟨by rw [hch]; dsimp only; rw [← hgo]; try rfl, rfl, by rw [hch]; dsimp only; rw [← hbn]⟩
  ·try dsimp only at hc1
   rw [if_neg (by omega)] at hgo
   refine W.skip (WE.blk _ (WE.nxt (W.region _ ?_)))
   refine WG.y rfl rfl qD (Yl.add rfl rfl rfl (fun _ => rfl) qA) ?_
   refine WG.run tab_ok 1 rfl (WG.nil ?_)
   refine WE.again (c + 1) (⟨by omega, hgo⟩) (by (try dsimp only); omega) ⟨rfl, rfl, rfl, rfl⟩ (RLe.refl _) qS
 ·try dsimp only at hc0
  obtain rfl : c = n := by omega
  have hgo := hst.2
  rw [Nat.sub_self] at hgo
  have hgo : prioFrom (nextW ps ms) c 0 = -1 := by rw [← hgo]; rfl
  have hbn : bfN ms c = skipTo ms.begun ms.before := if_neg (by omega)
  refine W.exit ?_
  refine WE.then_exit (WE.then_exit (WE.blk_exit (WE.nxt (W.seq (W.region _ (WG.run tab_ok 1 rfl (WG.nil (WE.nxt (W.ret ?_)))))))))
  refine WE.retF tab_ok [_] rfl ⟨rfl, trivial⟩ (RLe.refl _) ?_
  exact ⟨by rw [hch]; dsimp only; rw [← hgo]; try rfl, rfl, by rw [hch]; dsimp only; rw [← hbn]⟩

theorem PRun_ok {R : Ro} {pa : Option Addr} {pc : Nat} {ps : List Pkt} (hp : RS R 3 encP pa ps) {cap : Int} {ticks nc : Nat} (w0 : World) (hl0 : lrunE cap nc ticks ps = 0) (E : List Ent) :
  K.Fn Try.prog 52 [.int .i64 cap, .int .i64 (nc : Int), .slice pa ps.length pc, .int .i64 (ticks : Int)] w0 R E
   (fun v R' E' => ∃ (rows : List Sl) (gd go : Nat) (s : M.RS Unit), s = mrun ps (prioCh ps nc) cap nc ticks () ∧ v = .tuple #[.agg #[.slice (some ⟨gd, 0, none⟩) ps.length ps.length, .slice (some ⟨go, 0, none⟩) nc nc], .int .i64 0] ∧ rows.map Sl.xs = s.sent ∧ (∀ r ∈ rows, r.a.isSome = true) ∧ Inv ps nc (fun ms _ => goodB ps ms) (ticks + 1) (ticks * cap) s ∧
    (.sl 3 1 (some ⟨gd, 0, none⟩) ps.length (s.done.map encI) :: .sl 22 1 (some ⟨go, 0, none⟩) nc (rows.map encS) :: (rows.map (rowE 3) ++ E)).Sublist E') := by
 obtain ⟨hok, hvv, hck, c1, c2, c3, c4, c5, c6, hs, hf⟩ := lrunE_ok hl0
 have hla := hp.len
 refine Fn.enter (n := 33) Try.func52 rfl rfl (Nat.le_of_ble_eq_true rfl) rfl ?_
 refine W.seq (W.region _ ?_)
 refine WL.ef rfl rfl qD (Ef.box rfl rfl (fun b5 => ?_))
 refine WL.ef rfl rfl qD (Ef.alloc tab_ok rfl rfl (fun b8 => ?_))
 refine WG.run tab_ok 1 rfl (WG.nil (WE.nxt (W.seq (W.seq (W.region _ (WG.run tab_ok 1 rfl ?_))))))
 refine WG.callV en83 rfl rfl qD (CallOp.mk' rfl rfl rfl rfl) (fun _ => rfl) (fun hg => hvv ▸ Validate_V hp) ?_
 refine WG.run tab_ok 1 rfl (WG.nil (WE.nxt (W.seq (W.region _ (WG.run tab_ok 2 rfl (WG.nil (WE.nxt ?_)))))))
 refine W.condN rfl (fun hc0 => ?_) (fun hc0 => ?_)
 ·try dsimp only at hc0
  exact absurd rfl hc0
 ·try dsimp only at hc0
  refine W.skip (WE.nxt (W.seq (W.seq (W.region _ (WG.run tab_ok 1 rfl ?_)))))
  refine' WG.y rfl rfl qD (Yl.load1 tab_ok rfl rfl rfl (fun _ => rfl) ?r1 rfl ?h1) ?_
  case r1 => (exact Rd.blk 1 rfl)
  case h1 => rfl
  refine WG.run tab_ok 2 rfl ?_
  refine WG.callV en84 rfl rfl qD (CallOp.mk' rfl rfl rfl rfl) (fun _ => rfl) (fun hg => hck ▸ Check_V hp) ?_
  refine WG.run tab_ok 1 rfl (WG.nil (WE.nxt (W.seq (W.region _ (WG.run tab_ok 2 rfl (WG.nil (WE.nxt ?_)))))))
  refine W.condN rfl (fun hc1 => ?_) (fun hc1 => ?_)
  ·try dsimp only at hc1
   exact absurd rfl hc1
  ·try dsimp only at hc1
   refine W.skip (WE.nxt ?_)
   refine W.freezeBlk 1 rfl ?_
   intro R1 hR1 h5
   have hp := hp.mono hR1
   refine W.seq (W.region _ (WG.run tab_ok 1 rfl ?_))
   refine' WG.y rfl rfl qD (Yl.load1 tab_ok rfl rfl rfl (fun _ => rfl) ?r2 rfl ?h2) ?_
   case r2 => exact Rd.ro h5
   case h2 => rfl
   refine WG.run tab_ok 3 rfl ?_
   have hrun := fun F => MRun_C (pc := pc) (g := 86) (first := #[]) (capd := #[.pointer (some ⟨b5, 0, none⟩)]) (ch := prioCh ps nc) (good := fun ms _ => goodB ps ms) (classes := nc) (cap := cap) (ticks := ticks) (X := fun _ => []) (sg := ()) w0 hp (prio_fair hok.sorted).toGood ⟨by have := hok.len; omega, fun p hp => by have := hs p hp; have := hf p hp; omega⟩ (prio_start _) (by omega) (by omega) (by omega) en86 (fun sb bg ms sg F hgd hbl l1 l2 n1 n2 => Pri1_C w0 hp hbl hok.sorted h5 ⟨by omega, by omega⟩ hgd F) F
   simp only [List.nil_append] at hrun
   refine WL.call en85 rfl rfl qD (CallOp.mkT rfl rfl rfl rfl) (hrun _) ?_
   rintro _ _ E2 - ⟨rows, gd, go, s, hsr, rfl, rfl, h1, h2, h3, hsub⟩
   refine WL.subE hsub ?_
   refine WL.perm (List.perm_middle (l₁ := _ :: _ :: rows.map (rowE 3))) ?_
   refine WL.efN rfl rfl (Ef.store0 0 tab_ok rfl rfl rfl rfl rfl rfl rfl rfl ?_)
   refine WG.run tab_ok 1 rfl (WG.nil (WE.nxt (W.ret ?_)))
   refine WE.retF tab_ok [_, _] rfl ⟨⟨_, _, _, rfl, rfl, rfl, ((by first | exact Rd.blk 0 rfl | exact Rd.blk 1 rfl | exact Rd.blk 2 rfl | exact Rd.blk 3 rfl | exact Rd.blk 4 rfl | exact Rd.blk 5 rfl)), rfl⟩, rfl, trivial⟩ (hR1) ?_
   exact ⟨rows, gd, go, s, hsr, rfl, h1, h2, h3, qS⟩

end Go.Proofs.Ytnackbfnmhkodaa

/- Chapter 18: what its laws use. No condition. -/
set_option maxRecDepth 4000
set_option linter.unusedSimpArgs false
set_option linter.unusedVariables false
namespace Go.Proofs.Ytnackbfnmhkodaa
open Go Go.RowKit Go.Proofs.Ytnackbfnmhkodaa.K Go.Proofs.Ytnackbfnmhkodaa.M

theorem prio_done : (mrun ([⟨1, 0, 25⟩, ⟨0, 1, 10⟩, ⟨1, 1, 5⟩] : List Pkt) (prioCh ([⟨1, 0, 25⟩, ⟨0, 1, 10⟩, ⟨1, 1, 5⟩] : List Pkt) 2) 10 2 5 ()).done = [2, 3, 3] := by kernel_rfl
theorem prio_c0 : prioC 10 0 ([⟨[0, 14], 1, 0⟩, ⟨[0, 30], 1, 0⟩] : List Cv) ([⟨1, 14⟩, ⟨1, 20⟩] : List Sz) = (⟨[0, 0, 1], 1, 10⟩, 0) := by kernel_rfl
theorem prio_c1 : prioC 10 1 ([⟨[0, 14], 1, 0⟩, ⟨[0, 30], 1, 0⟩] : List Cv) ([⟨1, 14⟩, ⟨1, 20⟩] : List Sz) = (⟨[0, 0, 6], 1, 10⟩, 0) := by kernel_rfl

set_option maxHeartbeats 1000000 in
theorem Awake18_C {R : Ro} (w0 : World) (E : List Ent) : K.Fn Try.prog 19 [] w0 R E (fun v R' E' => v = .bool true ∧ E.Sublist E') := by
 refine Fn.enter (n := 81) Try.func19 rfl rfl (Nat.le_of_ble_eq_true rfl) rfl ?_
 refine W.seq (W.region _ (WG.run tab_ok 1 rfl (WG.nil (WE.nxt (W.seq (W.region _ ?_))))))
 -- build
 refine WG.y rfl rfl qD (Yl.build (parts := [(0, .const (.int .i64 1)), (2, .const (.int .i64 25))]) tab_ok rfl rfl rfl rfl (fun _ => rfl) rfl rfl) ?_
 -- build
 refine WG.y rfl rfl qD (Yl.build (parts := [(1, .const (.int .i64 1)), (2, .const (.int .i64 10))]) tab_ok rfl rfl rfl rfl (fun _ => rfl) rfl rfl) ?_
 -- build
 refine WG.y rfl rfl qD (Yl.build (parts := [(0, .const (.int .i64 1)), (1, .const (.int .i64 1)), (2, .const (.int .i64 5))]) tab_ok rfl rfl rfl rfl (fun _ => rfl) rfl rfl) ?_
 refine WL.ef rfl rfl qD (Ef.buildSliceD (enc := encP) (parts := [.tmp 10, .tmp 11, .tmp 12]) [⟨_, _, _⟩, ⟨_, _, _⟩, ⟨_, _, _⟩] tab_ok rfl rfl rfl rfl rfl rfl rfl rfl qD qD (fun a13 => ?_))
 refine WL.freeze (enc := encP) (xs := ([⟨1, 0, 25⟩, ⟨0, 1, 10⟩, ⟨1, 1, 5⟩] : List Pkt)) 0 rfl ?_
 intro R1 hR1 hp
 refine WL.call en52 rfl rfl qD (CallOp.mkT rfl rfl rfl rfl) (PRun_ok (ps := ([⟨1, 0, 25⟩, ⟨0, 1, 10⟩, ⟨1, 1, 5⟩] : List Pkt)) (cap := 10) (ticks := 5) (nc := 2) hp w0 qD _) ?_
 rintro _ R2 E2 hR2 ⟨rows, gd, go, s, hs, rfl, h1, h2, h3, hsub⟩
 refine WL.subE hsub ?_
 refine WL.freeze (enc := encI) (xs := s.done) 0 rfl ?_
 intro Rq hRq hdn
 have hdone : s.done = [2, 3, 3] := by rw [hs]; exact prio_done
 rw [hdone] at hdn
 refine WL.subE (List.Sublist.cons _ (List.sublist_append_right _ _)) ?_
 refine WG.run tab_ok 3 rfl ?_
 refine WL.ef rfl rfl qD (Ef.alloc tab_ok rfl rfl (fun b1 => ?_))
 refine WL.efN rfl rfl (Ef.store0 0 tab_ok rfl rfl rfl rfl rfl rfl rfl rfl ?_)
 refine WG.run tab_ok 1 rfl (WG.nil (WE.nxt (W.seq (W.region _ ?_))))
 refine WL.ef rfl rfl qD (Ef.buildSliceD (enc := encI) (parts := [.const (.int .i64 0), .const (.int .i64 14)]) [_, _] tab_ok rfl rfl rfl rfl rfl rfl rfl rfl qD qD (fun a17 => ?_))
 refine WL.freeze (enc := encI) (xs := ([0, 14] : List Int)) 0 rfl ?_
 intro R3 hR3 hc1
 -- build
 refine WG.y rfl rfl qD (Yl.build (parts := [(0, .tmp 17), (1, .const (.int .i64 1))]) tab_ok rfl rfl rfl rfl (fun _ => rfl) rfl rfl) ?_
 refine WL.ef rfl rfl qD (Ef.buildSliceD (enc := encI) (parts := [.const (.int .i64 0), .const (.int .i64 30)]) [_, _] tab_ok rfl rfl rfl rfl rfl rfl rfl rfl qD qD (fun a19 => ?_))
 refine WL.freeze (enc := encI) (xs := ([0, 30] : List Int)) 0 rfl ?_
 intro R4 hR4 hc2
 have hc1 := hc1.mono hR4
 -- build
 refine WG.y rfl rfl qD (Yl.build (parts := [(0, .tmp 19), (1, .const (.int .i64 1))]) tab_ok rfl rfl rfl rfl (fun _ => rfl) rfl rfl) ?_
 refine WL.ef rfl rfl qD (Ef.buildSliceD (enc := encC) (parts := [.tmp 18, .tmp 20]) [(⟨some ⟨a17, 0, none⟩, 2, ⟨[0, 14], 1, 0⟩⟩ : CvS), ⟨some ⟨a19, 0, none⟩, 2, ⟨[0, 30], 1, 0⟩⟩] tab_ok rfl rfl rfl rfl rfl rfl rfl rfl qD qD (fun a21 => ?_))
 refine WL.freeze (enc := encC) (xs := ([⟨some ⟨a17, 0, none⟩, 2, ⟨[0, 14], 1, 0⟩⟩, ⟨some ⟨a19, 0, none⟩, 2, ⟨[0, 30], 1, 0⟩⟩] : List CvS)) 0 rfl ?_
 intro R5 hR5 hlc
 have hc1 := hc1.mono hR5
 have hc2 := hc2.mono hR5
 refine WG.run tab_ok 1 rfl (WG.nil (WE.nxt (W.seq (W.region _ ?_))))
 -- build
 refine WG.y rfl rfl qD (Yl.build (parts := [(0, .const (.int .i64 1)), (1, .const (.int .i64 14))]) tab_ok rfl rfl rfl rfl (fun _ => rfl) rfl rfl) ?_
 -- build
 refine WG.y rfl rfl qD (Yl.build (parts := [(0, .const (.int .i64 1)), (1, .const (.int .i64 20))]) tab_ok rfl rfl rfl rfl (fun _ => rfl) rfl rfl) ?_
 refine WL.ef rfl rfl qD (Ef.buildSliceD (enc := encZ) (parts := [.tmp 22, .tmp 23]) [⟨_, _⟩, ⟨_, _⟩] tab_ok rfl rfl rfl rfl rfl rfl rfl rfl qD qD (fun a24 => ?_))
 refine WL.freeze (enc := encZ) (xs := ([⟨1, 14⟩, ⟨1, 20⟩] : List Sz)) 0 rfl ?_
 intro R6 hR6 hzz
 have hlc := hlc.mono hR6
 have hdn := hdn.mono (hR3.trans (hR4.trans (hR5.trans hR6)))
 have hls : ∀ x ∈ ([⟨some ⟨a17, 0, none⟩, 2, ⟨[0, 14], 1, 0⟩⟩, ⟨some ⟨a19, 0, none⟩, 2, ⟨[0, 30], 1, 0⟩⟩] : List CvS), RS R6 1 encI x.a x.cv.vals ∧ x.cv.vals.length ≤ 100000 := fun x hx => by
  simp only [List.mem_cons, List.not_mem_nil, or_false] at hx
  rcases hx with rfl | rfl
  ·exact ⟨hc1.mono hR6, by show 2 ≤ 100000; decide⟩
  ·exact ⟨hc2.mono hR6, by show 2 ≤ 100000; decide⟩
 refine WG.run tab_ok 1 rfl (WG.nil (WE.nxt (W.seq (W.region _ (WG.run tab_ok 2 rfl ?_)))))
 refine WL.call en23 rfl rfl qD (CallOp.mkT rfl rfl rfl rfl) (PCurve_C (ls := ([⟨some ⟨a17, 0, none⟩, 2, ⟨[0, 14], 1, 0⟩⟩, ⟨some ⟨a19, 0, none⟩, 2, ⟨[0, 30], 1, 0⟩⟩] : List CvS)) (z := ([⟨1, 14⟩, ⟨1, 20⟩] : List Sz)) (cap := 10) (cls := 0) hlc (Nat.le_refl 2) hls hzz (Nat.le_refl 2) w0 _) ?_
 rintro _ R7 E3 hR7 ⟨f1, fc1, rfl, hf1, hsub2⟩
 rw [show List.map CvS.cv ([⟨some ⟨a17, 0, none⟩, 2, ⟨[0, 14], 1, 0⟩⟩, ⟨some ⟨a19, 0, none⟩, 2, ⟨[0, 30], 1, 0⟩⟩] : List CvS) = ([⟨[0, 14], 1, 0⟩, ⟨[0, 30], 1, 0⟩] : List Cv) from rfl, prio_c0] at hf1 ⊢
 refine WL.subE hsub2 ?_
 unfold cvV
 have hdn := hdn.mono hR7
 have hlc := hlc.mono hR7
 have hzz := hzz.mono hR7
 have hls : ∀ x ∈ ([⟨some ⟨a17, 0, none⟩, 2, ⟨[0, 14], 1, 0⟩⟩, ⟨some ⟨a19, 0, none⟩, 2, ⟨[0, 30], 1, 0⟩⟩] : List CvS), RS R7 1 encI x.a x.cv.vals ∧ x.cv.vals.length ≤ 100000 := fun x hx => ⟨(hls x hx).1.mono hR7, (hls x hx).2⟩
 refine WG.run tab_ok 3 rfl ?_
 refine WL.ef rfl rfl qD (Ef.alloc tab_ok rfl rfl (fun b5 => ?_))
 refine WL.efN rfl rfl (Ef.store0 0 tab_ok rfl rfl rfl rfl rfl rfl rfl rfl ?_)
 refine WG.run tab_ok 1 rfl (WG.nil (WE.nxt (W.seq (W.region _ (WG.run tab_ok 2 rfl ?_)))))
 refine WL.call en23 rfl rfl qD (CallOp.mkT rfl rfl rfl rfl) (PCurve_C (ls := ([⟨some ⟨a17, 0, none⟩, 2, ⟨[0, 14], 1, 0⟩⟩, ⟨some ⟨a19, 0, none⟩, 2, ⟨[0, 30], 1, 0⟩⟩] : List CvS)) (z := ([⟨1, 14⟩, ⟨1, 20⟩] : List Sz)) (cap := 10) (cls := 1) hlc (Nat.le_refl 2) hls hzz (Nat.le_refl 2) w0 _) ?_
 rintro _ R8 E3 hR8 ⟨f2, fc2, rfl, hf2, hsub2⟩
 rw [show List.map CvS.cv ([⟨some ⟨a17, 0, none⟩, 2, ⟨[0, 14], 1, 0⟩⟩, ⟨some ⟨a19, 0, none⟩, 2, ⟨[0, 30], 1, 0⟩⟩] : List CvS) = ([⟨[0, 14], 1, 0⟩, ⟨[0, 30], 1, 0⟩] : List Cv) from rfl, prio_c1] at hf2 ⊢
 refine WL.subE hsub2 ?_
 unfold cvV
 have hdn := hdn.mono hR8
 have hf1 := hf1.mono hR8
 have hls : ∀ x ∈ ([⟨some ⟨a17, 0, none⟩, 2, ⟨[0, 14], 1, 0⟩⟩, ⟨some ⟨a19, 0, none⟩, 2, ⟨[0, 30], 1, 0⟩⟩] : List CvS), RS R8 1 encI x.a x.cv.vals ∧ x.cv.vals.length ≤ 100000 := fun x hx => ⟨(hls x hx).1.mono hR8, (hls x hx).2⟩
 refine WG.run tab_ok 3 rfl ?_
 refine WL.ef rfl rfl qD (Ef.alloc tab_ok rfl rfl (fun b7 => ?_))
 refine WL.efN rfl rfl (Ef.store0 0 tab_ok rfl rfl rfl rfl rfl rfl rfl rfl ?_)
 refine WG.run tab_ok 1 rfl (WG.nil (WE.nxt (W.seq (W.region _ (WG.run tab_ok 3 rfl ?_)))))
 refine WL.guardT rfl (by rfl) ?_
 refine WG.y rfl rfl qD (pureV_ok tab_ok rfl (fun _ => rfl)) ?_
 refine WL.guardT rfl (by rfl) ?_
 refine' WG.y rfl rfl qD (Yl.load1 tab_ok rfl rfl rfl (fun _ => rfl) ?r1 rfl ?h1) ?_
 case r1 => apply Rd.add; (exact Rd.blk 2 rfl)
 case h1 => rfl
 refine WL.guardT rfl (by rfl) ?_
 refine WL.ef rfl rfl qD (Ef.buildSliceD (enc := encI) (parts := [.const (.int .i64 2), .const (.int .i64 3), .const (.int .i64 3)]) [_, _, _] tab_ok rfl rfl rfl rfl rfl rfl rfl rfl qD qD (fun a42 => ?_))
 refine WL.freeze (enc := encI) (xs := ([2, 3, 3] : List Int)) 0 rfl ?_
 intro R9 hR9 hl1
 have hdn := hdn.mono hR9
 have hf1 := hf1.mono hR9
 have hf2 := hf2.mono hR9
 refine WL.guardT rfl (by rfl) ?_
 refine WG.callV (v := .bool true) en53 rfl rfl qD (CallOp.mk' rfl rfl rfl rfl) (fun _ => rfl) (fun hg => by
  have h := Ints_V (ca := 3) (cb := 3) hdn hl1
  exact h) ?_
 refine WG.y rfl rfl (by decide) (Yl.pand rfl rfl rfl (fun _ => rfl) (by intro h1 h2; simp_all <;> omega)) ?_
 refine WG.run tab_ok 1 rfl ?_
 refine WL.guardT rfl (by rfl) ?_
 refine WG.y rfl rfl qD (pureV_ok tab_ok rfl (fun _ => rfl)) ?_
 refine WL.guardT rfl (by rfl) ?_
 refine WG.y rfl rfl qD (pureV_ok tab_ok rfl (fun _ => rfl)) ?_
 refine WG.y rfl rfl (by decide) (Yl.pand rfl rfl rfl (fun _ => rfl) (by intro h1 h2; simp_all <;> omega)) ?_
 refine WG.run tab_ok 1 rfl ?_
 refine WL.guardT rfl (by rfl) ?_
 refine' WG.y rfl rfl qD (Yl.load1 tab_ok rfl rfl rfl (fun _ => rfl) ?r2 rfl ?h2) ?_
 case r2 => (exact Rd.blk 1 rfl)
 case h2 => rfl
 refine WL.guardT rfl (by rfl) ?_
 refine WG.callV (v := .bool true) en27 rfl rfl qD (CallOp.mk' rfl rfl rfl rfl) (fun _ => rfl) (fun hg => by
  have h := Valid_V (per := 1) (inc := 10) (c := fc1) hf1 (by constructor <;> decide) (by constructor <;> decide) (by decide)
  exact h) ?_
 refine WG.y rfl rfl (by decide) (Yl.pand rfl rfl rfl (fun _ => rfl) (by intro h1 h2; simp_all <;> omega)) ?_
 refine WG.run tab_ok 1 rfl ?_
 refine WL.guardT rfl (by rfl) ?_
 refine' WG.y rfl rfl qD (Yl.load1 tab_ok rfl rfl rfl (fun _ => rfl) ?r3 rfl ?h3) ?_
 case r3 => (exact Rd.blk 1 rfl)
 case h3 => rfl
 refine WL.guardT rfl (by rfl) ?_
 refine WG.callV (v := .int .i64 1) en28 rfl rfl qD (CallOp.mk' rfl rfl rfl rfl) (fun _ => rfl) (fun hg => by
  have h := At_V (t := 2) (per := 1) (inc := 10) (c := fc1) hf1 (by constructor <;> decide) ⟨by constructor <;> decide, by decide⟩ (by decide) (by decide)
  exact h) ?_
 refine WL.guardT rfl (by rfl) ?_
 refine WG.y rfl rfl qD (pureV_ok tab_ok rfl (fun _ => rfl)) ?_
 refine WG.y rfl rfl (by decide) (Yl.pand rfl rfl rfl (fun _ => rfl) (by intro h1 h2; simp_all <;> omega)) ?_
 refine WG.run tab_ok 1 rfl ?_
 refine WL.guardT rfl (by rfl) ?_
 refine' WG.y rfl rfl qD (Yl.load1 tab_ok rfl rfl rfl (fun _ => rfl) ?r4 rfl ?h4) ?_
 case r4 => (exact Rd.blk 1 rfl)
 case h4 => rfl
 refine WL.guardT rfl (by rfl) ?_
 refine WG.callV (v := .int .i64 21) en28 rfl rfl qD (CallOp.mk' rfl rfl rfl rfl) (fun _ => rfl) (fun hg => by
  have h := At_V (t := 4) (per := 1) (inc := 10) (c := fc1) hf1 (by constructor <;> decide) ⟨by constructor <;> decide, by decide⟩ (by decide) (by decide)
  exact h) ?_
 refine WL.guardT rfl (by rfl) ?_
 refine WG.y rfl rfl qD (pureV_ok tab_ok rfl (fun _ => rfl)) ?_
 refine WG.y rfl rfl (by decide) (Yl.pand rfl rfl rfl (fun _ => rfl) (by intro h1 h2; simp_all <;> omega)) ?_
 refine WG.run tab_ok 1 rfl ?_
 refine WL.guardT rfl (by rfl) ?_
 refine WG.y rfl rfl qD (pureV_ok tab_ok rfl (fun _ => rfl)) ?_
 refine WL.guardT rfl (by rfl) ?_
 refine WG.y rfl rfl qD (pureV_ok tab_ok rfl (fun _ => rfl)) ?_
 refine WG.y rfl rfl (by decide) (Yl.pand rfl rfl rfl (fun _ => rfl) (by intro h1 h2; simp_all <;> omega)) ?_
 refine WG.run tab_ok 1 rfl ?_
 refine WL.guardT rfl (by rfl) ?_
 refine' WG.y rfl rfl qD (Yl.load1 tab_ok rfl rfl rfl (fun _ => rfl) ?r5 rfl ?h5) ?_
 case r5 => (exact Rd.blk 0 rfl)
 case h5 => rfl
 refine WL.guardT rfl (by rfl) ?_
 refine WG.callV (v := .bool true) en27 rfl rfl qD (CallOp.mk' rfl rfl rfl rfl) (fun _ => rfl) (fun hg => by
  have h := Valid_V (per := 1) (inc := 10) (c := fc2) hf2 (by constructor <;> decide) (by constructor <;> decide) (by decide)
  exact h) ?_
 refine WG.y rfl rfl (by decide) (Yl.pand rfl rfl rfl (fun _ => rfl) (by intro h1 h2; simp_all <;> omega)) ?_
 refine WG.run tab_ok 1 rfl ?_
 refine WL.guardT rfl (by rfl) ?_
 refine' WG.y rfl rfl qD (Yl.load1 tab_ok rfl rfl rfl (fun _ => rfl) ?r6 rfl ?h6) ?_
 case r6 => (exact Rd.blk 0 rfl)
 case h6 => rfl
 refine WL.guardT rfl (by rfl) ?_
 refine WG.callV (v := .int .i64 0) en28 rfl rfl qD (CallOp.mk' rfl rfl rfl rfl) (fun _ => rfl) (fun hg => by
  have h := At_V (t := 1) (per := 1) (inc := 10) (c := fc2) hf2 (by constructor <;> decide) ⟨by constructor <;> decide, by decide⟩ (by decide) (by decide)
  exact h) ?_
 refine WL.guardT rfl (by rfl) ?_
 refine WG.y rfl rfl qD (pureV_ok tab_ok rfl (fun _ => rfl)) ?_
 refine WG.y rfl rfl (by decide) (Yl.pand rfl rfl rfl (fun _ => rfl) (by intro h1 h2; simp_all <;> omega)) ?_
 refine WG.run tab_ok 1 rfl ?_
 refine WL.guardT rfl (by rfl) ?_
 refine' WG.y rfl rfl qD (Yl.load1 tab_ok rfl rfl rfl (fun _ => rfl) ?r7 rfl ?h7) ?_
 case r7 => (exact Rd.blk 0 rfl)
 case h7 => rfl
 refine WL.guardT rfl (by rfl) ?_
 refine WG.callV (v := .int .i64 16) en28 rfl rfl qD (CallOp.mk' rfl rfl rfl rfl) (fun _ => rfl) (fun hg => by
  have h := At_V (t := 3) (per := 1) (inc := 10) (c := fc2) hf2 (by constructor <;> decide) ⟨by constructor <;> decide, by decide⟩ (by decide) (by decide)
  exact h) ?_
 refine WL.guardT rfl (by rfl) ?_
 refine WG.y rfl rfl qD (pureV_ok tab_ok rfl (fun _ => rfl)) ?_
 refine WG.y rfl rfl (by decide) (Yl.pand rfl rfl rfl (fun _ => rfl) (by intro h1 h2; simp_all <;> omega)) ?_
 refine WG.run tab_ok 1 rfl (WG.nil (WE.nxt (W.ret ?_)))
 refine WE.retF tab_ok [_] rfl ⟨rfl, trivial⟩ (hR1.trans (hR2.trans (hRq.trans (hR3.trans (hR4.trans (hR5.trans (hR6.trans (hR7.trans (hR8.trans hR9))))))))) ?_
 exact ⟨rfl, qS⟩

end Go.Proofs.Ytnackbfnmhkodaa

/- Time slots, plain: a class is sent what it is sent alone. No condition. -/
namespace Go.Proofs.Ytnackbfnmhkodaa.M
open Go Go.Proofs.Ytnackbfnmhkodaa.K

/-- the places of the packets of a class -/
def selI (ps : List Pkt) (k : Int) : List Nat := (List.range ps.length).filter fun i => (nth ps i).flow == k
def selP (ps : List Pkt) (k : Int) : List Pkt := ps.filter fun p => p.flow == k
structure Sel (ps : List Pkt) (k : Int) (qs : List Pkt) (ix : Nat → Nat) : Prop where
  at_ : ∀ j, j < qs.length → ix j < ps.length ∧ (nth ps (ix j)).flow = k ∧ nth qs j = nth ps (ix j)
  mono : ∀ j j', j < j' → j' < qs.length → ix j < ix j'
  onto : ∀ i, i < ps.length → (nth ps i).flow = k → ∃ j, j < qs.length ∧ ix j = i
section
variable {ps qs : List Pkt} {cap : Int} {tb : List Int} {classes k : Nat} {ix : Nat → Nat}
theorem Sel.inj (h : Sel ps k qs ix) {j j' : Nat} (hj : j < qs.length) (hj' : j' < qs.length) (e : ix j = ix j') : j = j' := by
  rcases Nat.lt_trichotomy j j' with h1 | h1 | h1
  · have := h.mono _ _ h1 hj'; omega
  · exact h1
  · have := h.mono _ _ h1 hj; omega
/-- the first packet of the class that waits, here and there -/
theorem Sel.next (h : Sel ps k qs ix) {ms ms' : MS} (hnow : ms'.now = ms.now) (hb : ∀ j, j < qs.length → nth ms'.begun j = nth ms.begun (ix j)) :
    (nextW qs ms' k < 0 ∧ nextW ps ms k < 0) ∨ (0 ≤ nextW qs ms' k ∧ (nextW qs ms' k).toNat < qs.length ∧ nextW ps ms k = ix (nextW qs ms' k).toNat) := by
  have hP : ∀ j, j < qs.length → nextP qs ms' k j = nextP ps ms k (ix j) := fun j hj => by
    obtain ⟨_, h2, h3⟩ := h.at_ j hj
    unfold nextP
    rw [hnow, hb j hj, h3]
  unfold nextW
  rcases findN_cases (nextP qs ms' k) qs.length with ⟨j, j1, j2, j3, j4⟩ | ⟨j1, j2⟩
  · right
    rw [j2, Int.toNat_natCast]
    refine ⟨by omega, j1, ?_⟩
    refine findN_some (h.at_ j j1).1 (by rw [← hP j j1]; exact j3) (fun i hi => ?_)
    by_cases hf : (nth ps i).flow = k
    · obtain ⟨j', e1, e2⟩ := h.onto i (by have := (h.at_ j j1).1; omega) hf
      have hlt : j' < j := by
        apply Classical.byContradiction
        intro hn
        by_cases e : j' = j
        · subst e; omega
        · have := h.mono j j' (by omega) e1; omega
      have := j4 j' hlt
      rw [hP j' e1, e2] at this; exact this
    · unfold nextP
      have : ((nth ps i).flow == (k : Int)) = false := by simpa using hf
      rw [this]; simp
  · left
    refine ⟨by rw [j1]; omega, ?_⟩
    rw [findN_none (fun i hi => ?_)]
    · omega
    · by_cases hf : (nth ps i).flow = k
      · obtain ⟨j', e1, e2⟩ := h.onto i hi hf
        have := j2 j' e1
        rw [hP j' e1, e2] at this; exact this
      · unfold nextP
        have : ((nth ps i).flow == (k : Int)) = false := by simpa using hf
        rw [this]; simp
/-- the two runs while the class is served -/
structure ApI (ps qs : List Pkt) (k t : Nat) (ix : Nat → Nat) (s a : RS Unit) : Prop where
  left : a.ms.left = s.ms.left
  now : a.ms.now = s.ms.now
  begun : ∀ j, j < qs.length → nth a.ms.begun j = nth s.ms.begun (ix j)
  done : ∀ j, j < qs.length → nth a.done j = nth s.done (ix j)
  col : nth (nth a.sent k) (t + 1) = nth (nth s.sent k) (t + 1)
  cur : (0 ≤ a.cur ∧ s.cur = ix a.cur.toNat ∧ a.rest = s.rest) ∨ (a.cur < 0 ∧ s.cur < 0)
/-- the two runs between ticks -/
structure Ap (ps qs : List Pkt) (k t : Nat) (ix : Nat → Nat) (s a : RS Unit) : Prop where
  begun : ∀ j, j < qs.length → nth a.ms.begun j = nth s.ms.begun (ix j)
  done : ∀ j, j < qs.length → nth a.done j = nth s.done (ix j)
  col : nth (nth a.sent k) t = nth (nth s.sent k) t
  cur : (0 ≤ a.cur ∧ s.cur = ix a.cur.toNat ∧ a.rest = s.rest) ∨ (a.cur < 0 ∧ (s.cur < 0 ∨ (nth ps s.cur.toNat).flow ≠ k))
end
end Go.Proofs.Ytnackbfnmhkodaa.M

/- Time slots, plain: packets are sent within ticks in a row that belong to their class; a class that has all ticks is sent what a line in order of arrival sends it. No condition. -/
namespace Go.Proofs.Ytnackbfnmhkodaa.M
open Go Go.Proofs.Ytnackbfnmhkodaa.K

/-- sums -/
def sumUp (f : Nat → Int) : Nat → Int
  | 0 => 0
  | n + 1 => sumUp f n + f n
section
variable {σ : Type} {ps : List Pkt} {ch : MS → σ → Int × Nat × σ} {good : MS → σ → Prop} {rel : Nat → Nat → Prop} {classes col k : Nat} {s : RS σ}
end
section
variable {ps : List Pkt} {cap : Int} {tb : List Int} {classes : Nat}
/-- the bytes of the first packets of a class -/
def ofK (ps : List Pkt) (k : Int) (i : Nat) : Int := if (nth ps i).flow = k then (nth ps i).size else 0
/-- those that are finished before a tick -/
def overK (ps : List Pkt) (dn : List Int) (k t : Int) (i : Nat) : Int := if (nth ps i).flow = k ∧ 0 ≤ nth dn i ∧ nth dn i < t then (nth ps i).size else 0
/-! ### a class that has all ticks -/
end
end Go.Proofs.Ytnackbfnmhkodaa.M

/- Priorities, plain: what a class is served. No condition. -/
namespace Go.Proofs.Ytnackbfnmhkodaa.M
open Go Go.Proofs.Ytnackbfnmhkodaa.K

section
variable {ps : List Pkt} {n k : Nat}
/-- what is open of a lesser class -/
def lowR (ps : List Pkt) (k : Nat) (s : RS Unit) : Int := if 0 ≤ s.cur ∧ (k : Int) < (nth ps s.cur.toNat).flow then s.rest else 0
end
end Go.Proofs.Ytnackbfnmhkodaa.M

/- Priorities, plain: the curve of a class is what it is served. No condition. -/
namespace Go.Proofs.Ytnackbfnmhkodaa.M
open Go Go.Proofs.Ytnackbfnmhkodaa.K

instance instCv : Inhabited Cv := ⟨zcv⟩
end Go.Proofs.Ytnackbfnmhkodaa.M
