/- Rules and walks, joined from 9 texts: the first of them says: Reference 17: parts. No condition. -/
import Derived.Test.YtnackbfnmhkodaaG5
import Derived.Laws.Pointers
/- Reference 17: parts. No condition. -/
set_option maxRecDepth 4000
set_option linter.unusedSimpArgs false
set_option linter.unusedVariables false
namespace Go.Proofs.Ytnackbfnmhkodaa
open Go Go.RowKit Go.Proofs.Ytnackbfnmhkodaa.K Go.Proofs.Ytnackbfnmhkodaa.M

theorem Left17_V {R : Ro} {a1 : Option Addr} {c1 : Nat} {m1 : Cv} (hv1 : validB m1 = true) (hx1 : RS R 1 encI a1 m1.vals) {a2 : Option Addr} {c2 : Nat} {m2 : Cv} (hv2 : validB m2 = true) (hx2 : RS R 1 encI a2 m2.vals) {th u : Nat} (hu : th ≤ 1048576 ∧ u ≤ 4000000) : FnV Try.prog 45 [.agg #[.slice a1 m1.vals.length c1, .int .i64 m1.per, .int .i64 m1.inc], .agg #[.slice a2 m2.vals.length c2, .int .i64 m2.per, .int .i64 m2.inc], .int .i64 (th : Int), .int .i64 (u : Int)] R (.int .i64 (leftG m1 m2 th u)) := by
 refine Fn.toV (fun w0 E => ?_)
 have i1 := isInf_iff hv1 (t := u) (by omega)
 have i2 := isInf_iff hv2 (t := u - th) (by omega)
 have b1 := cvF_bound hv1 u
 have b2 := cvF_bound hv2 (u - th)
 unfold INF at i1 i2 b1 b2
 refine Fn.enter (n := 32) Try.func45 rfl rfl (Nat.le_of_ble_eq_true rfl) rfl ?_
 refine W.seq (W.region _ ?_)
 refine WL.ef rfl rfl qD (Ef.box rfl rfl (fun b4 => ?_))
 refine WL.ef rfl rfl qD (Ef.box rfl rfl (fun b5 => ?_))
 refine WG.run tab_ok 1 rfl (WG.nil (WE.nxt (W.seq (W.seq (W.region _ (WG.run tab_ok 3 rfl (WG.nil (WE.nxt ?_))))))))
 refine W.condD rfl (fun hc0 => ?_) (fun hc0 => ?_)
 ·try dsimp only at hc0
  have hr : leftG m1 m2 th u = 0 := if_pos (by omega)
  refine W.seq (W.region _ (WG.run tab_ok 1 rfl (WG.nil (WE.nxt (W.ret (WE.then_ret ?_))))))
  refine WE.subE (E' := E) qS ?_
  refine WE.retF tab_ok [_] rfl ⟨rfl, trivial⟩ (RLe.refl _) ?_
  exact ⟨by rw [hr]; rfl, rfl⟩
 ·try dsimp only at hc0
  have hnu : ¬ u ≤ th := by omega
  have hl : leftG m1 m2 th u = max 0 (rawG m1 m2 th u) := if_neg hnu
  refine W.skip (WE.nxt (W.seq ?_))
  refine W.regionQ _ mixed qK ?_
  refine' WG.y rfl rfl qD (Yl.load1 tab_ok rfl rfl rfl (fun _ => rfl) ?r1 rfl ?h1) ?_
  case r1 => (exact Rd.blk 1 rfl)
  case h1 => rfl
  refine WG.run tab_ok 1 rfl ?_
  refine WG.callV (v := .int .i64 (cvF m1 u)) en28 rfl rfl qD (CallOp.mk' rfl rfl rfl rfl) (fun _ => rfl) (fun hg => AtG_V hv1 hx1 (t := u) qO) ?_
  refine' WG.y rfl rfl qD (Yl.load1 tab_ok rfl rfl rfl (fun _ => rfl) ?r2 rfl ?h2) ?_
  case r2 => (exact Rd.blk 0 rfl)
  case h2 => rfl
  refine WG.run tab_ok 2 rfl ?_
  refine WG.y rfl rfl (by decide) (Yl.sub rfl rfl rfl (fun _ => rfl) (by intro _; constructor <;> (try dsimp only) <;> omega)) ?_
  refine WG.callV (v := .int .i64 (cvF m2 (u - th))) en28 rfl rfl qD (CallOp.mk' rfl rfl rfl rfl) (fun _ => rfl) (fun hg => by
   have h := AtG_V (fc := c2) (t := u - th) hv2 hx2 (by omega)
   rw [show ((u - th : Nat) : Int) = (u : Int) - (th : Int) by omega] at h
   exact h) ?_
  refine WG.run tab_ok 2 rfl (WG.nil (WE.nxt (W.seq (W.block (W.seq (W.region _ (WG.run tab_ok 3 rfl (WG.nil (WE.nxt ?_)))))))))
  refine W.condE rfl (fun hc1 => ?_) (fun hc1 => ?_)
  ·try dsimp only at hc1
   have hr : leftG m1 m2 th u = 0 := by rw [hl]; unfold rawG; rw [if_pos (i2.2 hc1)]; rfl
   refine W.seq (W.region _ (WG.run tab_ok 1 rfl (WG.nil (WE.nxt (W.ret (WE.blk_ret (WE.then_ret ?_)))))))
   refine WE.subE (E' := E) qS ?_
   refine WE.retF tab_ok [_] rfl ⟨rfl, trivial⟩ (RLe.refl _) ?_
   exact ⟨by rw [hr]; rfl, rfl⟩
  ·try dsimp only at hc1
   have hr0 : ¬ isInf m2 (u - th) := fun h => hc1 (i2.1 h)
   refine W.seq (W.region _ (WG.run tab_ok 3 rfl (WG.nil (WE.nxt ?_))))
   refine W.condE rfl (fun hc2 => ?_) (fun hc2 => ?_)
   ·try dsimp only at hc2
    have hr : leftG m1 m2 th u = 4611686018427387904 := by rw [hl]; unfold rawG; rw [if_neg hr0, if_pos (i1.2 hc2)]; rfl
    refine W.seq (W.region _ (WG.run tab_ok 1 rfl (WG.nil (WE.nxt (W.ret (WE.blk_ret (WE.then_ret ?_)))))))
    refine WE.subE (E' := E) qS ?_
    refine WE.retF tab_ok [_] rfl ⟨rfl, trivial⟩ (RLe.refl _) ?_
    exact ⟨by rw [hr]; rfl, rfl⟩
   ·try dsimp only at hc2
    have hr : leftG m1 m2 th u = (if 0 < cvF m1 u - cvF m2 (u - th) then cvF m1 u - cvF m2 (u - th) else 0) := by rw [hl]; unfold rawG; rw [if_neg hr0, if_neg (fun h => hc2 (i1.1 h))]; split <;> omega
    refine W.skip (WE.blk _ (WE.nxt (W.seq (W.region _ (WG.run tab_ok 2 rfl ?_)))))
    refine WG.y rfl rfl (by decide) (Yl.sub rfl rfl rfl (fun _ => rfl) (by intro _; constructor <;> (try dsimp only) <;> omega)) ?_
    refine WG.run tab_ok 2 rfl (WG.nil (WE.nxt (W.ret ?_)))
    refine WE.subE (E' := E) qS ?_
    refine WE.retF tab_ok [_] rfl ⟨rfl, trivial⟩ (RLe.refl _) ?_
    exact ⟨by rw [hr]; rfl, rfl⟩

theorem Slopes05_V {R : Ro} {a1 : Option Addr} {c1 : Nat} {m1 : Cv} (hv1 : validB m1 = true) (hx1 : RS R 1 encI a1 m1.vals) {a2 : Option Addr} {c2 : Nat} {m2 : Cv} (hv2 : validB m2 = true) (hx2 : RS R 1 encI a2 m2.vals) {L : Nat} (hL : L ≤ 10000) : FnV Try.prog 44 [.agg #[.slice a1 m1.vals.length c1, .int .i64 m1.per, .int .i64 m1.inc], .agg #[.slice a2 m2.vals.length c2, .int .i64 m2.per, .int .i64 m2.inc], .int .i64 (L : Int)] R (.int .i64 (gainC m1 L - gainC m2 L)) := by
 refine Fn.toV (fun w0 E => ?_)
 obtain ⟨_, _, _, p1, p2, p3, p4, p5⟩ := valid_range hv1
 obtain ⟨_, _, _, q1, q2, q3, q4, q5⟩ := valid_range hv2
 have d0 : 0 ≤ (L : Int) / m1.per := Int.ediv_nonneg (by omega) (by omega)
 have d1 : (L : Int) / m1.per ≤ L := Int.ediv_le_self _ (by omega)
 have e0 : 0 ≤ (L : Int) / m2.per := Int.ediv_nonneg (by omega) (by omega)
 have e1 : (L : Int) / m2.per ≤ L := Int.ediv_le_self _ (by omega)
 have h1 := mulB (a := m1.inc) (b := (L : Int) / m1.per) (A := 1073741824) (B := 10000) (by omega) (by omega)
 have h2 := mulB (a := m2.inc) (b := (L : Int) / m2.per) (A := 1073741824) (B := 10000) (by omega) (by omega)
 have hr : m1.inc * ((L : Int) / m1.per) - m2.inc * ((L : Int) / m2.per) = gainC m1 L - gainC m2 L := by unfold gainC; rw [Int.mul_comm m1.inc, Int.mul_comm m2.inc]
 refine Fn.enter (n := 22) Try.func44 rfl rfl (Nat.le_of_ble_eq_true rfl) rfl ?_
 refine W.seq (W.region _ ?_)
 refine WL.ef rfl rfl qD (Ef.box rfl rfl (fun b3 => ?_))
 refine WL.ef rfl rfl qD (Ef.box rfl rfl (fun b4 => ?_))
 refine WG.run tab_ok 1 rfl (WG.nil (WE.nxt (W.seq ?_)))
 refine W.regionQ _ mixed qK ?_
 refine WG.run tab_ok 1 rfl ?_
 refine' WG.y rfl rfl qD (Yl.load1 tab_ok rfl rfl rfl (fun _ => rfl) ?r1 rfl ?h1) ?_
 case r1 => apply Rd.add; (exact Rd.blk 1 rfl)
 case h1 => rfl
 refine WG.run tab_ok 2 rfl ?_
 refine' WG.y rfl rfl qD (Yl.load1 tab_ok rfl rfl rfl (fun _ => rfl) ?r2 rfl ?h2) ?_
 case r2 => apply Rd.add; (exact Rd.blk 1 rfl)
 case h2 => rfl
 refine WG.y rfl rfl (by decide) (Yl.quo rfl rfl rfl (fun _ => rfl) (by intro _; constructor <;> (try dsimp only) <;> omega) (by intro _; omega)) ?_
 refine WG.y rfl rfl (by decide) (Yl.mul rfl rfl rfl (fun _ => rfl) (by intro _; constructor <;> (try dsimp only) <;> omega)) ?_
 refine WG.run tab_ok 1 rfl ?_
 refine' WG.y rfl rfl qD (Yl.load1 tab_ok rfl rfl rfl (fun _ => rfl) ?r3 rfl ?h3) ?_
 case r3 => apply Rd.add; (exact Rd.blk 0 rfl)
 case h3 => rfl
 refine WG.run tab_ok 2 rfl ?_
 refine' WG.y rfl rfl qD (Yl.load1 tab_ok rfl rfl rfl (fun _ => rfl) ?r4 rfl ?h4) ?_
 case r4 => apply Rd.add; (exact Rd.blk 0 rfl)
 case h4 => rfl
 refine WG.y rfl rfl (by decide) (Yl.quo rfl rfl rfl (fun _ => rfl) (by intro _; constructor <;> (try dsimp only) <;> omega) (by intro _; omega)) ?_
 refine WG.y rfl rfl (by decide) (Yl.mul rfl rfl rfl (fun _ => rfl) (by intro _; constructor <;> (try dsimp only) <;> omega)) ?_
 refine WG.y rfl rfl (by decide) (Yl.sub rfl rfl rfl (fun _ => rfl) (by intro _; constructor <;> (try dsimp only) <;> omega)) ?_
 refine WG.run tab_ok 1 rfl (WG.nil (WE.nxt (W.ret ?_)))
 refine WE.subE (E' := E) qS ?_
 refine WE.retF tab_ok [_] rfl ⟨rfl, trivial⟩ (RLe.refl _) ?_
 exact ⟨by rw [← hr]; rfl, rfl⟩

theorem Flat02K_C {R : Ro} {k : Int} (hk : 0 ≤ k ∧ k ≤ 1073741824) (w0 : World) (E : List Ent) : K.Fn Try.prog 46 [.int .i64 k] w0 R E (fun r R' E' => ∃ (f : Option Addr) (fc : Nat), r = cvV f fc (flatC k) ∧ RS R' 1 encI f (flatC k).1.vals ∧ (flatC k).1.vals.length ≤ fc ∧ E.Sublist E') := by
 have hmn : (if (1073741825 : Int) < k then (1073741825 : Int) else k) = k := if_neg (by omega)
 have hg1 : Grows (flatF k) 1 1 0 := fun t ht => by unfold flatF; rw [if_neg (by omega), if_neg (by omega)]; omega
 have hm : ∀ t, flatF k t ≤ flatF k (t + 1) := fun t => by unfold flatF; rw [if_neg (show ¬ t + 1 = 0 by omega)]; split <;> omega
 have hfb : ∀ t, 0 ≤ flatF k t ∧ flatF k t ≤ 1073741824 := fun t => by unfold flatF; split <;> omega
 have hv2 : fvals (flatF k) (1 + 1) = [0, k] := by simp [fvals, flatF, List.range_succ]
 have hd : flatC k = madeR ⟨[0, k], ((1 : Nat) : Int), 0⟩ := by
  have := build_made_fin (F := flatF k) (S := 1) (P := 1) (S' := 1) (P' := 1) (by decide) (by decide) hg1 (by decide) (by decide) hg1 hm (hfb 0).1 (fun t _ => by have := hfb t; unfold INF; omega) (fun t _ => by have := hfb t; unfold INF; omega)
  rw [hv2] at this
  exact this
 have hmk : MadeOk [0, k] ((1 : Nat) : Int) 0 := by
  have := madeOk_fin (F := flatF k) (S := 1) (P := 1) (I := 0) ⟨by decide, by decide⟩ (by decide) ⟨by decide, by decide⟩ hg1 (fun t _ => by have := hfb t; omega)
  rw [hv2] at this
  exact this
 refine Fn.enter (n := 14) Try.func46 rfl rfl (Nat.le_of_ble_eq_true rfl) rfl ?_
 refine W.seq (W.region _ ?_)
 refine WL.ef rfl rfl qD (Ef.alloc tab_ok rfl rfl (fun b2 => ?_))
 refine WG.run tab_ok 1 rfl (WG.nil (WE.nxt (W.seq (W.seq (W.region _ (WG.run tab_ok 2 rfl (WG.nil (WE.nxt ?_))))))))
 refine W.condD rfl (fun hc0 => ?_) (fun hc0 => ?_)
 ·try dsimp only at hc0
  omega
 ·try dsimp only at hc0
  refine W.skip (WE.nxt (W.seq (W.region _ (WG.run tab_ok 2 rfl ?_))))
  rw [hmn]
  refine WL.ef rfl rfl qD (Ef.buildSliceD (enc := encI) (parts := [.const (.int .i64 0), .tmp 8]) [0, k] tab_ok rfl rfl rfl rfl rfl rfl rfl rfl qD qD (fun a9 => ?_))
  -- build
  refine WG.y rfl rfl qD (Yl.build (parts := [(0, .tmp 9), (1, .const (.int .i64 1))]) tab_ok rfl rfl rfl rfl (fun _ => rfl) rfl rfl) ?_
  refine WL.freeze (enc := encI) (xs := [0, k]) 0 rfl ?_
  intro R1 hR1 hv0
  refine WL.call en47 rfl rfl qD (CallOp.mkT rfl rfl rfl rfl) (MadeGK_C (cc := 2) hv0 (by show 2 ≤ 100000; decide) hmk (Nat.le_refl 2) w0 _) ?_
  rintro _ R4 E4 hR4 ⟨f, fc4, rfl, hf4, hcp4, hsub4⟩
  refine WL.subE hsub4 ?_
  rw [← hd] at hf4 hcp4 ⊢
  unfold cvV
  refine WG.run tab_ok 2 rfl ?_
  refine WL.efN rfl rfl (Ef.store0 0 tab_ok rfl rfl rfl rfl rfl rfl rfl rfl ?_)
  refine WG.run tab_ok 1 rfl (WG.nil (WE.nxt (W.ret ?_)))
  refine WE.retF tab_ok [_, _] rfl ⟨⟨_, _, _, rfl, rfl, rfl, ((by first | exact Rd.blk 0 rfl | exact Rd.blk 1 rfl | exact Rd.blk 2 rfl | exact Rd.blk 3 rfl)), rfl⟩, rfl, trivial⟩ (hR1.trans hR4) ?_
  exact ⟨f, fc4, rfl, hf4, hcp4, qS⟩

theorem left_top {b o : Cv} {th u : Nat} (hb : validB b = true) (ho : validB o = true) (hu : u ≤ 4000000) : 0 ≤ leftG b o th u ∧ leftG b o th u ≤ INF := by
 unfold leftG
 have := rawG_top (th := th) hb ho (t := u) hu
 unfold INF at *
 split <;> omega
theorem left_min {b o : Cv} {th : Nat} (hb : validB b = true) (ho : validB o = true) (hth : th ≤ 1048576) (hl : 0 < lcmC b o) : leastG (leftG b o th) (th + 400) (lcmC b o) = minF (leftG b o th) (th + 400) (lcmC b o - 1) := by
 obtain ⟨d, hd⟩ : ∃ d, lcmC b o = d + 1 := ⟨lcmC b o - 1, by omega⟩
 rw [hd, leastG_cap (left_top hb ho (by omega)).2]; rfl

theorem MadeGLK_C {R : Ro} {a : Option Addr} {cc l : Nat} {v : List Int} {per inc : Int} (ha : RS R 1 encI a v) (hvl : v.length = l) (hl : l ≤ 100000) (hok : MadeOk v per inc) (hac : l ≤ cc) (w0 : World) (E : List Ent) : K.Fn Try.prog 47 [.agg #[.slice a l cc, .int .i64 per, .int .i64 inc]] w0 R E (fun r R' E' => ∃ (f : Option Addr) (fc : Nat), r = cvV f fc (madeR ⟨v, per, inc⟩) ∧ RS R' 1 encI f (madeR ⟨v, per, inc⟩).1.vals ∧ (madeR ⟨v, per, inc⟩).1.vals.length ≤ fc ∧ E.Sublist E') := by
 subst hvl
 exact MadeGK_C ha hl hok hac w0 E

set_option maxHeartbeats 4000000 in
theorem Rest17K_C {R : Ro} {fa : Option Addr} {fc : Nat} {cf : Cv} (hvf : validB cf = true) (ha : RS R 1 encI fa cf.vals) (hcap : cf.vals.length ≤ fc) {ga : Option Addr} {gc : Nat} {cg : Cv} (hvg : validB cg = true) (hb : RS R 1 encI ga cg.vals) (hcapd : cg.vals.length ≤ gc) {th : Nat} (hth : th ≤ 1048576) (w0 : World) (E : List Ent) : K.Fn Try.prog 15 [.agg #[.slice fa cf.vals.length fc, .int .i64 cf.per, .int .i64 cf.inc], .agg #[.slice ga cg.vals.length gc, .int .i64 cg.per, .int .i64 cg.inc], .int .i64 (th : Int)] w0 R E (fun r R' E' => ∃ (f : Option Addr) (fc : Nat), r = cvV f fc (shareQ (normR cf) (normR cg) th) ∧ RS R' 1 encI f (shareQ (normR cf) (normR cg) th).1.vals ∧ (shareQ (normR cf) (normR cg) th).1.vals.length ≤ fc ∧ E.Sublist E') := by
 have hnf := norm_nrm hvf
 have hng := norm_nrm hvg
 refine Fn.enter (n := 166) Try.func15 rfl rfl (Nat.le_of_ble_eq_true rfl) rfl ?_
 refine W.seq (W.region _ ?_)
 refine WL.ef rfl rfl qD (Ef.box rfl rfl (fun b3 => ?_))
 refine WL.ef rfl rfl qD (Ef.box rfl rfl (fun b4 => ?_))
 refine WL.ef rfl rfl qD (Ef.alloc tab_ok rfl rfl (fun b6 => ?_))
 refine WG.run tab_ok 1 rfl (WG.nil (WE.nxt (W.seq (W.seq (W.region _ ?_)))))
 refine' WG.y rfl rfl qD (Yl.load1 tab_ok rfl rfl rfl (fun _ => rfl) ?r1 rfl ?h1) ?_
 case r1 => (exact Rd.blk 2 rfl)
 case h1 => rfl
 refine WG.callV (v := .bool true) en27 rfl rfl qD (CallOp.mk' rfl rfl rfl rfl) (fun _ => rfl) (fun hg => ValidG_V hvf ha) ?_
 refine WG.run tab_ok 2 rfl ?_
 refine' WG.y rfl rfl (by decide) (Yl.loadG tab_ok rfl rfl rfl (by first | exact fun _ => rfl | exact fun h => h | (intro h; simp_all; done) | ((try generalize decide (driftG m1 m2 < 0) = k1); (try generalize (driftG m1 m2 == 0) = k2); (try generalize decide (driftG m1 m2 > 0) = k5); (try generalize finB m1 = k3); (try generalize finB m2 = k4); (try revert k1); (try revert k2); (try revert k3); (try revert k4); (try revert k5); decide)) ?r2 rfl ?h2 ?g2) ?_
 case r2 => (exact Rd.blkC 1 rfl)
 case h2 => rfl
 case g2 => exact fun _ => trivial
 refine WG.callV (v := .bool true) en27 rfl rfl (by decide) (CallOp.mk' rfl rfl rfl rfl) (by first | exact fun _ => rfl | exact fun h => h | (intro h; simp_all; done) | ((try generalize decide (driftG m1 m2 < 0) = k1); (try generalize (driftG m1 m2 == 0) = k2); (try generalize decide (driftG m1 m2 > 0) = k5); (try generalize finB m1 = k3); (try generalize finB m2 = k4); (try revert k1); (try revert k2); (try revert k3); (try revert k4); (try revert k5); decide)) (fun hg => ValidG_V hvg hb) ?_
 refine WG.y rfl rfl (by decide) (pureV_ok tab_ok rfl (by first | exact fun _ => rfl | exact fun h => h | (intro h; simp_all; done) | ((try generalize decide (driftG m1 m2 < 0) = k1); (try generalize (driftG m1 m2 == 0) = k2); (try generalize decide (driftG m1 m2 > 0) = k5); (try generalize finB m1 = k3); (try generalize finB m2 = k4); (try revert k1); (try revert k2); (try revert k3); (try revert k4); (try revert k5); decide))) ?_
 refine WG.y rfl rfl (by decide) (Yl.por rfl rfl rfl (fun _ => rfl) (by first | exact fun _ _ => rfl | ((try generalize decide (driftG m1 m2 < 0) = k1); (try generalize (driftG m1 m2 == 0) = k2); (try generalize decide (driftG m1 m2 > 0) = k5); (try generalize finB m1 = k3); (try generalize finB m2 = k4); (try revert k1); (try revert k2); (try revert k3); (try revert k4); (try revert k5); decide) | (intro h1 h2; simp_all <;> omega))) ?_
 refine WG.nil (WE.nxt ?_)
 refine W.cond rfl (fun hc0 => ?_) (fun hc0 => ?_)
 ·try simp only [kk] at hc0
  (simp at hc0; done)
 ·try simp only [kk] at hc0
  refine W.skip (WE.nxt (W.seq (W.seq (W.region _ (WG.run tab_ok 3 rfl ?_)))))
  refine WG.y rfl rfl (by decide) (pureV_ok tab_ok rfl (by first | exact fun _ => rfl | exact fun h => h | (intro h; simp_all; done) | ((try generalize decide (driftG m1 m2 < 0) = k1); (try generalize (driftG m1 m2 == 0) = k2); (try generalize decide (driftG m1 m2 > 0) = k5); (try generalize finB m1 = k3); (try generalize finB m2 = k4); (try revert k1); (try revert k2); (try revert k3); (try revert k4); (try revert k5); decide))) ?_
  refine WG.y rfl rfl (by decide) (pureV_ok tab_ok rfl (by first | exact fun _ => rfl | exact fun h => h | (intro h; simp_all; done) | ((try generalize decide (driftG m1 m2 < 0) = k1); (try generalize (driftG m1 m2 == 0) = k2); (try generalize decide (driftG m1 m2 > 0) = k5); (try generalize finB m1 = k3); (try generalize finB m2 = k4); (try revert k1); (try revert k2); (try revert k3); (try revert k4); (try revert k5); decide))) ?_
  refine WG.y rfl rfl (by decide) (Yl.por rfl rfl rfl (fun _ => rfl) (by first | exact fun _ _ => rfl | ((try generalize decide (driftG m1 m2 < 0) = k1); (try generalize (driftG m1 m2 == 0) = k2); (try generalize decide (driftG m1 m2 > 0) = k5); (try generalize finB m1 = k3); (try generalize finB m2 = k4); (try revert k1); (try revert k2); (try revert k3); (try revert k4); (try revert k5); decide) | (intro h1 h2; simp_all <;> omega))) ?_
  refine WG.nil (WE.nxt ?_)
  refine W.cond rfl (fun hc1 => ?_) (fun hc1 => ?_)
  ·try simp only [kk] at hc1
   omega
  ·try simp only [kk] at hc1
   refine W.skip (WE.nxt (W.seq (W.region _ ?_)))
   refine' WG.y rfl rfl qD (Yl.load1 tab_ok rfl rfl rfl (fun _ => rfl) ?r3 rfl ?h3) ?_
   case r3 => (exact Rd.blk 2 rfl)
   case h3 => rfl
   refine' WG.y rfl rfl qD (Yl.load1 tab_ok rfl rfl rfl (fun _ => rfl) ?r4 rfl ?h4) ?_
   case r4 => (exact Rd.blk 1 rfl)
   case h4 => rfl
   refine WL.call en42 rfl rfl qD (CallOp.mkT rfl rfl rfl rfl) (Pair05_C hvf ha hcap hvg hb hcapd w0 _) ?_
   rintro _ R1 _ hR1 ⟨fa1x, ca1x, fa2x, ca2x, rfl, ha1x, ha2x, hsub1⟩
   refine WL.subE hsub1 ?_
   generalize normR cf = m1 at *
   generalize normR cg = m2 at *
   have hv1 := hnf.valid
   have hv2 := hng.valid
   have hlp := lcm_pos hv1 hv2
   have hs1 := stN_lt hv1
   have hs2 := stN_lt hv2
   have hlle := lcmC_le hv1 hv2
   refine WG.run tab_ok 5 rfl ?_
   refine WL.ef rfl rfl qD (Ef.alloc tab_ok rfl rfl (fun b8 => ?_))
   refine WL.ef rfl rfl qD (Ef.alloc tab_ok rfl rfl (fun b9 => ?_))
   refine WL.efN rfl rfl (Ef.store0 1 tab_ok rfl rfl rfl rfl rfl rfl rfl rfl ?_)
   refine WL.efN rfl rfl (Ef.store0 0 tab_ok rfl rfl rfl rfl rfl rfl rfl rfl ?_)
   refine WG.run tab_ok 2 rfl (WG.nil (WE.nxt (W.seq (W.seq (W.region _ (WG.run tab_ok 2 rfl (WG.nil (WE.nxt ?_))))))))
   refine W.condN rfl (fun hc2 => ?_) (fun hc2 => ?_)
   ·try dsimp only at hc2
    have hl1 : 120 < lcmC m1 m2 := by
     apply Classical.byContradiction
     intro h
     rw [if_neg h] at hc2
     exact hc2 rfl
    rw [if_pos hl1]
    have hd : shareQ m1 m2 th = (zcv, 3) := by unfold shareQ; rw [if_pos hl1]
    refine W.seq (W.region _ ?_)
    -- build
    refine WG.y rfl rfl qD (Yl.build (parts := []) tab_ok rfl rfl rfl rfl (fun _ => rfl) rfl rfl) ?_
    refine WG.run tab_ok 1 rfl ?_
    refine WL.efN rfl rfl (Ef.store0 2 tab_ok rfl rfl rfl rfl rfl rfl rfl rfl ?_)
    refine WG.run tab_ok 1 rfl (WG.nil (WE.nxt (W.ret (WE.then_ret ?_))))
    refine WE.retF tab_ok [_, _] rfl ⟨⟨_, _, _, rfl, rfl, rfl, ((by first | exact Rd.blk 0 rfl | exact Rd.blk 1 rfl | exact Rd.blk 2 rfl | exact Rd.blk 3 rfl | exact Rd.blk 4 rfl | exact Rd.blk 5 rfl | exact Rd.blk 6 rfl | exact Rd.blk 7 rfl | exact Rd.blk 8 rfl | exact Rd.blk 9 rfl)), rfl⟩, rfl, trivial⟩ ((by first | exact hR1 | exact hR1.trans hR3 | exact hR1.trans (hR4.trans hR5))) ?_
    exact ⟨none, 0, by rw [hd]; rfl, by rw [hd]; exact rs_nil, by rw [hd]; exact Nat.le_refl _, qS⟩
   ·try dsimp only at hc2
    have hl1 : ¬ 120 < lcmC m1 m2 := fun h => by rw [if_pos h] at hc2; exact absurd hc2 (by decide)
    rw [if_neg hl1, if_neg hl1]
    have hfr := frG_facts (th := th) hv1 hv2
    have hg1 := gainC_le hv1 (L := lcmC m1 m2) (by omega)
    have hg2 := gainC_le hv2 (L := lcmC m1 m2) (by omega)
    have hdr : -128849018880 ≤ driftG m1 m2 ∧ driftG m1 m2 ≤ 128849018880 := by unfold driftG; omega
    refine W.skip (WE.nxt (W.seq (W.region _ ?_)))
    refine' WG.y rfl rfl qD (Yl.load1 tab_ok rfl rfl rfl (fun _ => rfl) ?r5 rfl ?h5) ?_
    case r5 => (exact Rd.blk 1 rfl)
    case h5 => rfl
    refine WG.callV en43 rfl rfl qD (CallOp.mk' rfl rfl rfl rfl) (fun _ => rfl) (fun hg => FiniteG_V hv1 ha1x) ?_
    refine WG.run tab_ok 1 rfl ?_
    refine' WG.y rfl rfl (by decide) (Yl.loadG tab_ok rfl rfl rfl (by first | exact fun _ => rfl | exact fun h => h | (intro h; simp_all; done) | ((try generalize decide (driftG m1 m2 < 0) = k1); (try generalize (driftG m1 m2 == 0) = k2); (try generalize decide (driftG m1 m2 > 0) = k5); (try generalize finB m1 = k3); (try generalize finB m2 = k4); (try revert k1); (try revert k2); (try revert k3); (try revert k4); (try revert k5); decide)) ?r6 rfl ?h6 ?g6) ?_
    case r6 => (exact Rd.blkC 0 rfl)
    case h6 => rfl
    case g6 => exact fun _ => trivial
    refine WG.callV en43 rfl rfl (by decide) (CallOp.mk' rfl rfl rfl rfl) (by first | exact fun _ => rfl | exact fun h => h | (intro h; simp_all; done) | ((try generalize decide (driftG m1 m2 < 0) = k1); (try generalize (driftG m1 m2 == 0) = k2); (try generalize decide (driftG m1 m2 > 0) = k5); (try generalize finB m1 = k3); (try generalize finB m2 = k4); (try revert k1); (try revert k2); (try revert k3); (try revert k4); (try revert k5); decide)) (fun hg => FiniteG_V hv2 ha2x) ?_
    refine WG.y rfl rfl (by decide) (Yl.pand rfl rfl rfl (fun _ => rfl) (by first | exact fun _ _ => rfl | ((try generalize decide (driftG m1 m2 < 0) = k1); (try generalize (driftG m1 m2 == 0) = k2); (try generalize decide (driftG m1 m2 > 0) = k5); (try generalize finB m1 = k3); (try generalize finB m2 = k4); (try revert k1); (try revert k2); (try revert k3); (try revert k4); (try revert k5); decide) | (intro h1 h2; simp_all <;> omega))) ?_
    refine WG.run tab_ok 1 rfl (WG.nil (WE.nxt (W.seq (W.region _ ?_))))
    refine' WG.y rfl rfl qD (Yl.load1 tab_ok rfl rfl rfl (fun _ => rfl) ?r7 rfl ?h7) ?_
    case r7 => (exact Rd.blk 1 rfl)
    case h7 => rfl
    refine' WG.y rfl rfl qD (Yl.load1 tab_ok rfl rfl rfl (fun _ => rfl) ?r8 rfl ?h8) ?_
    case r8 => (exact Rd.blk 0 rfl)
    case h8 => rfl
    refine WG.run tab_ok 1 rfl ?_
    refine WG.callV (v := .int .i64 (driftG m1 m2)) en44 rfl rfl qD (CallOp.mk' rfl rfl rfl rfl) (fun _ => rfl) (fun hg => Slopes05_V hv1 ha1x hv2 ha2x (L := lcmC m1 m2) qO) ?_
    refine WG.run tab_ok 1 rfl (WG.nil (WE.nxt (W.seq (W.region _ (WG.run tab_ok 1 rfl ?_)))))
    refine WG.y rfl rfl (by decide) (Yl.add rfl rfl rfl (fun _ => rfl) (by intro _; constructor <;> (try dsimp only) <;> omega)) ?_
    refine WG.run tab_ok 1 rfl (WG.nil (WE.nxt (W.seq (W.region _ (WG.run tab_ok 1 rfl (WG.nil (WE.nxt (W.seq (W.seq (W.region _ (WG.run tab_ok 2 rfl (WG.nil (WE.nxt (W.block ?_))))))))))))))
    refine W.loopK (β := Nat × Int) (fun (k, m) => k ≤ lcmC m1 m2 ∧ m = leastG (leftG m1 m2 th) (th + 400) k) (fun (k, m) => [(15, true, .int .i64 m), (16, true, .int .i64 ((th + 400 + k : Nat) : Int))]) [2, 6, 8, 9, 10, 12, 13, 14] [_, _, _, _, _, _, _, _] [] _ rfl (fun (k, m) => []) (fun (k, m) => lcmC m1 m2 - k) ((0, 4611686018427387904)) (⟨Nat.zero_le _, rfl⟩) ⟨rfl, rfl, rfl, rfl, rfl, rfl, rfl, rfl, rfl, rfl, rfl⟩ qS ?_
    intro zz hst
    obtain ⟨k, m⟩ := zz
    dsimp only [zipE, setAll, List.cons_append, List.nil_append, List.set_cons_zero, List.set_cons_succ] at hst ⊢
    obtain ⟨hk, hm⟩ := hst
    refine W.seq (W.seq (W.region _ (WG.run tab_ok 3 rfl ?_)))
    refine WG.y rfl rfl (by decide) (Yl.add rfl rfl rfl (fun _ => rfl) (by intro _; constructor <;> (try dsimp only) <;> omega)) ?_
    refine WG.run tab_ok 1 rfl (WG.nil (WE.nxt ?_))
    refine W.condD rfl (fun hc3 => ?_) (fun hc3 => ?_)
    ·try dsimp only at hc3
     have hkl : k < lcmC m1 m2 := by omega
     refine W.skip (WE.nxt (W.seq (W.block (W.region _ (WG.run tab_ok 1 rfl ?_)))))
     refine' WG.y rfl rfl qD (Yl.load1 tab_ok rfl rfl rfl (fun _ => rfl) ?r9 rfl ?h9) ?_
     case r9 => (exact Rd.blk 1 rfl)
     case h9 => rfl
     refine' WG.y rfl rfl qD (Yl.load1 tab_ok rfl rfl rfl (fun _ => rfl) ?r10 rfl ?h10) ?_
     case r10 => (exact Rd.blk 0 rfl)
     case h10 => rfl
     refine WG.run tab_ok 2 rfl ?_
     refine WG.callV (v := .int .i64 (leftG m1 m2 th (th + 400 + k))) en45 rfl rfl qD (CallOp.mk' rfl rfl rfl rfl) (fun _ => rfl) (fun hg => Left17_V (u := th + 400 + k) hv1 ha1x hv2 ha2x qO) ?_
     refine WG.run tab_ok 2 rfl (WG.nil (WE.blk _ (WE.nxt (W.region _ (WG.run tab_ok 1 rfl ?_)))))
     refine WG.y rfl rfl (by decide) (Yl.add rfl rfl rfl (fun _ => rfl) (by intro _; constructor <;> (try dsimp only) <;> omega)) ?_
     refine WG.run tab_ok 1 rfl (WG.nil ?_)
     generalize hrr : leftG m1 m2 th (th + 400 + k) = rr
     try rw [show (if m < rr then rr else m) = min m rr by split <;> omega]
     try rw [show (if rr < m then rr else m) = min m rr by split <;> omega]
     rw [← hrr]
     rw [show ((th + 400 + k : Nat) : Int) + 1 = ((th + 400 + (k + 1) : Nat) : Int) by omega]
     refine WE.again ((k + 1, min m (leftG m1 m2 th (th + 400 + k)))) (⟨by dsimp only; omega, by dsimp only; rw [hm]; rfl⟩) (by (try dsimp only); omega) ⟨rfl, rfl, rfl, rfl, rfl, rfl, rfl, rfl, rfl, rfl, rfl⟩ (RLe.refl _) qS
    ·try dsimp only at hc3
     obtain rfl : k = lcmC m1 m2 := by omega
     have hmm := left_min (th := th) hv1 hv2 hth hlp
     rw [← hm] at hmm
     refine W.exit ?_
     refine WE.then_exit (WE.then_exit (WE.blk_exit (WE.nxt (W.seq (W.seq (W.region _ (WG.run tab_ok 2 rfl ?_)))))))
     refine WG.y rfl rfl (by decide) (pureV_ok tab_ok rfl (by first | exact fun _ => rfl | exact fun h => h | (intro h; simp_all; done) | ((try generalize decide (driftG m1 m2 < 0) = k1); (try generalize (driftG m1 m2 == 0) = k2); (try generalize decide (driftG m1 m2 > 0) = k5); (try generalize finB m1 = k3); (try generalize finB m2 = k4); (try revert k1); (try revert k2); (try revert k3); (try revert k4); (try revert k5); decide))) ?_
     refine WG.y rfl rfl (by decide) (pureV_ok tab_ok rfl (by first | exact fun _ => rfl | exact fun h => h | (intro h; simp_all; done) | ((try generalize decide (driftG m1 m2 < 0) = k1); (try generalize (driftG m1 m2 == 0) = k2); (try generalize decide (driftG m1 m2 > 0) = k5); (try generalize finB m1 = k3); (try generalize finB m2 = k4); (try revert k1); (try revert k2); (try revert k3); (try revert k4); (try revert k5); decide))) ?_
     refine WG.y rfl rfl (by decide) (Yl.pand rfl rfl rfl (fun _ => rfl) (by first | exact fun _ _ => rfl | ((try generalize decide (driftG m1 m2 < 0) = k1); (try generalize (driftG m1 m2 == 0) = k2); (try generalize decide (driftG m1 m2 > 0) = k5); (try generalize finB m1 = k3); (try generalize finB m2 = k4); (try revert k1); (try revert k2); (try revert k3); (try revert k4); (try revert k5); decide) | (intro h1 h2; simp_all <;> omega))) ?_
     refine WG.run tab_ok 1 rfl ?_
     refine' WG.y rfl rfl (by decide) (Yl.loadG tab_ok rfl rfl rfl (by first | exact fun _ => rfl | exact fun h => h | (intro h; simp_all; done) | ((try generalize decide (driftG m1 m2 < 0) = k1); (try generalize (driftG m1 m2 == 0) = k2); (try generalize decide (driftG m1 m2 > 0) = k5); (try generalize finB m1 = k3); (try generalize finB m2 = k4); (try revert k1); (try revert k2); (try revert k3); (try revert k4); (try revert k5); decide)) ?r11 rfl ?h11 ?g11) ?_
     case r11 => (exact Rd.blkC 0 rfl)
     case h11 => rfl
     case g11 => exact fun _ => trivial
     refine WG.callV en43 rfl rfl (by decide) (CallOp.mk' rfl rfl rfl rfl) (by first | exact fun _ => rfl | exact fun h => h | (intro h; simp_all; done) | ((try generalize decide (driftG m1 m2 < 0) = k1); (try generalize (driftG m1 m2 == 0) = k2); (try generalize decide (driftG m1 m2 > 0) = k5); (try generalize finB m1 = k3); (try generalize finB m2 = k4); (try revert k1); (try revert k2); (try revert k3); (try revert k4); (try revert k5); decide)) (fun hg => FiniteG_V hv2 ha2x) ?_
     refine WG.y rfl rfl (by decide) (pureV_ok tab_ok rfl (by first | exact fun _ => rfl | exact fun h => h | (intro h; simp_all; done) | ((try generalize decide (driftG m1 m2 < 0) = k1); (try generalize (driftG m1 m2 == 0) = k2); (try generalize decide (driftG m1 m2 > 0) = k5); (try generalize finB m1 = k3); (try generalize finB m2 = k4); (try revert k1); (try revert k2); (try revert k3); (try revert k4); (try revert k5); decide))) ?_
     refine WG.y rfl rfl (by decide) (Yl.por rfl rfl rfl (fun _ => rfl) (by first | exact fun _ _ => rfl | ((try generalize decide (driftG m1 m2 < 0) = k1); (try generalize (driftG m1 m2 == 0) = k2); (try generalize decide (driftG m1 m2 > 0) = k5); (try generalize finB m1 = k3); (try generalize finB m2 = k4); (try revert k1); (try revert k2); (try revert k3); (try revert k4); (try revert k5); decide) | (intro h1 h2; simp_all <;> omega))) ?_
     refine WG.run tab_ok 1 rfl ?_
     refine WG.y rfl rfl (by decide) (pureV_ok tab_ok rfl (by first | exact fun _ => rfl | exact fun h => h | (intro h; simp_all; done) | ((try generalize decide (driftG m1 m2 < 0) = k1); (try generalize (driftG m1 m2 == 0) = k2); (try generalize decide (driftG m1 m2 > 0) = k5); (try generalize finB m1 = k3); (try generalize finB m2 = k4); (try revert k1); (try revert k2); (try revert k3); (try revert k4); (try revert k5); decide))) ?_
     refine WG.y rfl rfl (by decide) (pureV_ok tab_ok rfl (by first | exact fun _ => rfl | exact fun h => h | (intro h; simp_all; done) | ((try generalize decide (driftG m1 m2 < 0) = k1); (try generalize (driftG m1 m2 == 0) = k2); (try generalize decide (driftG m1 m2 > 0) = k5); (try generalize finB m1 = k3); (try generalize finB m2 = k4); (try revert k1); (try revert k2); (try revert k3); (try revert k4); (try revert k5); decide))) ?_
     refine WG.y rfl rfl (by decide) (pureV_ok tab_ok rfl (by first | exact fun _ => rfl | exact fun h => h | (intro h; simp_all; done) | ((try generalize decide (driftG m1 m2 < 0) = k1); (try generalize (driftG m1 m2 == 0) = k2); (try generalize decide (driftG m1 m2 > 0) = k5); (try generalize finB m1 = k3); (try generalize finB m2 = k4); (try revert k1); (try revert k2); (try revert k3); (try revert k4); (try revert k5); decide))) ?_
     refine WG.y rfl rfl (by decide) (pureV_ok tab_ok rfl (by first | exact fun _ => rfl | exact fun h => h | (intro h; simp_all; done) | ((try generalize decide (driftG m1 m2 < 0) = k1); (try generalize (driftG m1 m2 == 0) = k2); (try generalize decide (driftG m1 m2 > 0) = k5); (try generalize finB m1 = k3); (try generalize finB m2 = k4); (try revert k1); (try revert k2); (try revert k3); (try revert k4); (try revert k5); decide))) ?_
     refine WG.y rfl rfl (by decide) (Yl.pand rfl rfl rfl (by first | exact fun _ => rfl | exact fun h => h | (intro h; simp_all; done) | ((try generalize decide (driftG m1 m2 < 0) = k1); (try generalize (driftG m1 m2 == 0) = k2); (try generalize decide (driftG m1 m2 > 0) = k5); (try generalize finB m1 = k3); (try generalize finB m2 = k4); (try revert k1); (try revert k2); (try revert k3); (try revert k4); (try revert k5); decide)) (by first | exact fun _ _ => rfl | ((try generalize decide (driftG m1 m2 < 0) = k1); (try generalize (driftG m1 m2 == 0) = k2); (try generalize decide (driftG m1 m2 > 0) = k5); (try generalize finB m1 = k3); (try generalize finB m2 = k4); (try revert k1); (try revert k2); (try revert k3); (try revert k4); (try revert k5); decide) | (intro h1 h2; simp_all <;> omega))) ?_
     refine WG.y rfl rfl (by decide) (pureV_ok tab_ok rfl (by first | exact fun _ => rfl | exact fun h => h | (intro h; simp_all; done) | ((try generalize decide (driftG m1 m2 < 0) = k1); (try generalize (driftG m1 m2 == 0) = k2); (try generalize decide (driftG m1 m2 > 0) = k5); (try generalize finB m1 = k3); (try generalize finB m2 = k4); (try revert k1); (try revert k2); (try revert k3); (try revert k4); (try revert k5); decide))) ?_
     refine WG.y rfl rfl (by decide) (pureV_ok tab_ok rfl (by first | exact fun _ => rfl | exact fun h => h | (intro h; simp_all; done) | ((try generalize decide (driftG m1 m2 < 0) = k1); (try generalize (driftG m1 m2 == 0) = k2); (try generalize decide (driftG m1 m2 > 0) = k5); (try generalize finB m1 = k3); (try generalize finB m2 = k4); (try revert k1); (try revert k2); (try revert k3); (try revert k4); (try revert k5); decide))) ?_
     refine WG.y rfl rfl (by decide) (pureV_ok tab_ok rfl (by first | exact fun _ => rfl | exact fun h => h | (intro h; simp_all; done) | ((try generalize decide (driftG m1 m2 < 0) = k1); (try generalize (driftG m1 m2 == 0) = k2); (try generalize decide (driftG m1 m2 > 0) = k5); (try generalize finB m1 = k3); (try generalize finB m2 = k4); (try revert k1); (try revert k2); (try revert k3); (try revert k4); (try revert k5); decide))) ?_
     refine WG.y rfl rfl (by decide) (Yl.pand rfl rfl rfl (by first | exact fun _ => rfl | exact fun h => h | (intro h; simp_all; done) | ((try generalize decide (driftG m1 m2 < 0) = k1); (try generalize (driftG m1 m2 == 0) = k2); (try generalize decide (driftG m1 m2 > 0) = k5); (try generalize finB m1 = k3); (try generalize finB m2 = k4); (try revert k1); (try revert k2); (try revert k3); (try revert k4); (try revert k5); decide)) (by first | exact fun _ _ => rfl | ((try generalize decide (driftG m1 m2 < 0) = k1); (try generalize (driftG m1 m2 == 0) = k2); (try generalize decide (driftG m1 m2 > 0) = k5); (try generalize finB m1 = k3); (try generalize finB m2 = k4); (try revert k1); (try revert k2); (try revert k3); (try revert k4); (try revert k5); decide) | (intro h1 h2; simp_all <;> omega))) ?_
     refine WG.y rfl rfl (by decide) (Yl.por rfl rfl rfl (fun _ => rfl) (by first | exact fun _ _ => rfl | ((try generalize decide (driftG m1 m2 < 0) = k1); (try generalize (driftG m1 m2 == 0) = k2); (try generalize decide (driftG m1 m2 > 0) = k5); (try generalize finB m1 = k3); (try generalize finB m2 = k4); (try revert k1); (try revert k2); (try revert k3); (try revert k4); (try revert k5); decide) | (intro h1 h2; simp_all <;> omega))) ?_
     refine WG.nil (WE.nxt ?_)
     refine W.cond rfl (fun hc4 => ?_) (fun hc4 => ?_)
     ·try simp only [kk] at hc4
      have hq : flatQ m1 m2 th := by
       unfold flatQ bothB
       rw [← hmm]
       rcases hc4 with (⟨h1, h2⟩ | h) | ⟨⟨h1, h2⟩, h3⟩
       ·exact .inl ⟨h1, h2⟩
       ·exact .inr (.inl h)
       ·exact .inr (.inr ⟨h1, h2, h3⟩)
      have hd : shareQ m1 m2 th = (zeroC, 0) := by unfold shareQ; rw [if_neg hl1, if_pos hq]
      refine W.seq (W.region _ ?_)
      refine WL.call en46 rfl rfl qD (CallOp.mkT rfl rfl rfl rfl) (Flat02K_C (k := 0) qD w0 _) ?_
      rintro _ R3 _ hR3 ⟨fz, fzc, rfl, hfz, hcpz, hsubz⟩
      refine WL.subE hsubz ?_
      rw [flat_zero] at hfz hcpz ⊢
      unfold cvV
      dsimp only at hfz hcpz ⊢
      refine WG.run tab_ok 2 rfl ?_
      refine WL.efN rfl rfl (Ef.store0 2 tab_ok rfl rfl rfl rfl rfl rfl rfl rfl ?_)
      refine WG.run tab_ok 1 rfl (WG.nil (WE.nxt (W.ret (WE.then_ret ?_))))
      refine WE.retF tab_ok [_, _] rfl ⟨⟨_, _, _, rfl, rfl, rfl, ((by first | exact Rd.blk 0 rfl | exact Rd.blk 1 rfl | exact Rd.blk 2 rfl | exact Rd.blk 3 rfl | exact Rd.blk 4 rfl | exact Rd.blk 5 rfl | exact Rd.blk 6 rfl | exact Rd.blk 7 rfl | exact Rd.blk 8 rfl | exact Rd.blk 9 rfl)), rfl⟩, rfl, trivial⟩ ((by first | exact hR1 | exact hR1.trans hR3 | exact hR1.trans (hR4.trans hR5))) ?_
      exact ⟨fz, fzc, by rw [hd]; rfl, by rw [hd]; exact hfz, by rw [hd]; exact hcpz, qS⟩
     ·try simp only [kk] at hc4
      have hnq : ¬ flatQ m1 m2 th := fun h => by
       unfold flatQ bothB at h
       rw [← hmm] at h
       obtain ⟨⟨h1, h2⟩, h3⟩ := hc4
       rcases h with ⟨g1, g2⟩ | g | ⟨g1, g2, g3⟩
       ·have := h1 g1; omega
       ·rw [h2] at g; cases g
       ·exact h3 ⟨g1, g2⟩ g3
      have hnf4 : ¬ flatB m1 m2 th := fun h => hnq ((flat_same hv1 hv2).1 h)
      have hup := not_flat hnf4
      refine W.skip (WE.nxt (W.seq (W.seq (W.region _ (WG.run tab_ok 2 rfl (WG.nil (WE.nxt ?_)))))))
      refine W.condD rfl (fun hc5 => ?_) (fun hc5 => ?_)
      ·try dsimp only at hc5
       have hd : shareQ m1 m2 th = (zcv, 3) := by unfold shareQ; rw [if_neg hl1, if_neg hnq, if_pos (by omega)]
       refine W.seq (W.region _ ?_)
       -- build
       refine WG.y rfl rfl qD (Yl.build (parts := []) tab_ok rfl rfl rfl rfl (fun _ => rfl) rfl rfl) ?_
       refine WL.efN rfl rfl (Ef.store0 2 tab_ok rfl rfl rfl rfl rfl rfl rfl rfl ?_)
       refine WG.run tab_ok 1 rfl (WG.nil (WE.nxt (W.ret (WE.then_ret ?_))))
       refine WE.retF tab_ok [_, _] rfl ⟨⟨_, _, _, rfl, rfl, rfl, ((by first | exact Rd.blk 0 rfl | exact Rd.blk 1 rfl | exact Rd.blk 2 rfl | exact Rd.blk 3 rfl | exact Rd.blk 4 rfl | exact Rd.blk 5 rfl | exact Rd.blk 6 rfl | exact Rd.blk 7 rfl | exact Rd.blk 8 rfl | exact Rd.blk 9 rfl)), rfl⟩, rfl, trivial⟩ ((by first | exact hR1 | exact hR1.trans hR3 | exact hR1.trans (hR4.trans hR5))) ?_
       exact ⟨none, 0, by rw [hd]; rfl, by rw [hd]; exact rs_nil, by rw [hd]; exact Nat.le_refl _, qS⟩
      ·try dsimp only at hc5
       have h400 : ¬ 400 ≤ th := by omega
       refine W.skip (WE.nxt ?_)
       have hn2 : ((th : Int) + 400 + (lcmC m1 m2 : Int)).toNat = (th + 400 + lcmC m1 m2) := by omega
       refine W.seq (W.region _ (WG.run tab_ok 3 rfl ?_))
       refine WG.y rfl rfl (by decide) (Yl.add rfl rfl rfl (fun _ => rfl) (by intro _; constructor <;> (try dsimp only) <;> omega)) ?_
       refine WL.ef rfl rfl (by decide) (Ef.makeSliceD (enc := encI) 0 tab_ok rfl rfl rfl rfl rfl rfl (by (try dsimp only) <;> omega) (by (try dsimp only) <;> omega) (by (try dsimp only) <;> omega) (by (try dsimp only) <;> omega) (by decide) rfl rfl (fun a106 => ?_))
       rw [hn2]
       -- build
       refine WG.y rfl rfl qD (Yl.build (parts := [(1, .tmp 102), (0, .tmp 106)]) tab_ok rfl rfl rfl rfl (fun _ => rfl) rfl rfl) ?_
       refine WL.ef rfl rfl qD (Ef.alloc tab_ok rfl rfl (fun b17 => ?_))
       refine WL.efN rfl rfl (Ef.store0 0 tab_ok rfl rfl rfl rfl rfl rfl rfl rfl ?_)
       refine WG.nil (WE.nxt ?_)
       refine W.seqCut (β := Nat × Nat) (fun (b17, a106) => True) (fun (b17, a106) => [(2, true, .int .i64 (th : Int)), (6, true, .pointer (some ⟨b6, 0, none⟩)), (8, true, .pointer (some ⟨b8, 0, none⟩)), (9, true, .pointer (some ⟨b9, 0, none⟩)), (10, true, .int .i64 (lcmC m1 m2 : Int)), (12, true, .bool (finB m1 && finB m2)), (13, true, .int .i64 (driftG m1 m2)), (14, true, .int .i64 ((th : Int) + 400)), (17, true, .pointer (some ⟨b17, 0, none⟩))]) (fun _ => R1) (fun (b17, a106) => .blk b17 [.slice (some ⟨a106, 0, none⟩) (th + 400 + lcmC m1 m2) (th + 400 + lcmC m1 m2), .int .i64 (lcmC m1 m2 : Int), .int .i64 (incQ m1 m2)] :: .sl 3 1 (some ⟨a106, 0, none⟩) (th + 400 + lcmC m1 m2) ((List.replicate (th + 400 + lcmC m1 m2) (0 : Int)).map encI) :: .blk b9 [.slice fa2x m2.vals.length ca2x, .int .i64 m2.per, .int .i64 m2.inc] :: .blk b8 [.slice fa1x m1.vals.length ca1x, .int .i64 m1.per, .int .i64 m1.inc] :: .blk b6 [.slice none 0 0, .int .i64 0, .int .i64 0] :: E) ?_ ?_
       ·
        intro zz hst
        obtain ⟨b17, a106⟩ := zz
        dsimp only
        refine W.seq (W.seq (W.region _ (WG.run tab_ok 2 rfl (WG.nil (WE.nxt (W.block ?_))))))
        refine W.loopK (β := Nat) (fun u => u ≤ (th + 400 + lcmC m1 m2) ∧ th + 400 ≤ u ∧ (bothB m1 m2 → 0 < driftG m1 m2 → ∀ v, th + 400 ≤ v → v < u → 0 ≤ rawG m1 m2 th v)) (fun u => [(18, true, .int .i64 (u : Int))]) [2, 6, 8, 9, 10, 12, 13, 14, 17] [_, _, _, _, _, _, _, _, _] [] _ rfl (fun u => []) (fun u => (th + 400 + lcmC m1 m2) - u) (th + 400) (⟨by omega, Nat.le_refl _, fun _ _ v a b => by omega⟩) ⟨rfl, rfl, rfl, rfl, rfl, rfl, rfl, rfl, rfl, rfl, rfl⟩ qS ?_
        intro u hst
        dsimp only [zipE, setAll, List.cons_append, List.nil_append, List.set_cons_zero, List.set_cons_succ] at hst ⊢
        obtain ⟨hu1, hu2, hall⟩ := hst
        refine W.seq (W.seq (W.region _ (WG.run tab_ok 3 rfl ?_)))
        refine WG.y rfl rfl (by decide) (Yl.add rfl rfl rfl (fun _ => rfl) (by intro _; constructor <;> (try dsimp only) <;> omega)) ?_
        refine WG.run tab_ok 1 rfl (WG.nil (WE.nxt ?_))
        refine W.condD rfl (fun hc6 => ?_) (fun hc6 => ?_)
        ·try dsimp only at hc6
         have hun : u < (th + 400 + lcmC m1 m2) := by omega
         refine W.skip (WE.nxt (W.seq (W.block (W.seq ?_))))
         refine W.regionQ _ mixed qK ?_
         refine WG.run tab_ok 2 rfl ?_
         refine WG.y rfl rfl (by decide) (pureV_ok tab_ok rfl (by first | exact fun _ => rfl | exact fun h => h | (intro h; simp_all; done) | ((try generalize decide (driftG m1 m2 < 0) = k1); (try generalize (driftG m1 m2 == 0) = k2); (try generalize decide (driftG m1 m2 > 0) = k5); (try generalize finB m1 = k3); (try generalize finB m2 = k4); (try revert k1); (try revert k2); (try revert k3); (try revert k4); (try revert k5); decide))) ?_
         refine WG.y rfl rfl (by decide) (pureV_ok tab_ok rfl (by first | exact fun _ => rfl | exact fun h => h | (intro h; simp_all; done) | ((try generalize decide (driftG m1 m2 < 0) = k1); (try generalize (driftG m1 m2 == 0) = k2); (try generalize decide (driftG m1 m2 > 0) = k5); (try generalize finB m1 = k3); (try generalize finB m2 = k4); (try revert k1); (try revert k2); (try revert k3); (try revert k4); (try revert k5); decide))) ?_
         refine WG.y rfl rfl (by decide) (Yl.pand rfl rfl rfl (fun _ => rfl) (by first | exact fun _ _ => rfl | ((try generalize decide (driftG m1 m2 < 0) = k1); (try generalize (driftG m1 m2 == 0) = k2); (try generalize decide (driftG m1 m2 > 0) = k5); (try generalize finB m1 = k3); (try generalize finB m2 = k4); (try revert k1); (try revert k2); (try revert k3); (try revert k4); (try revert k5); decide) | (intro h1 h2; simp_all <;> omega))) ?_
         refine WG.run tab_ok 1 rfl ?_
         refine' WG.y rfl rfl (by decide) (Yl.loadG tab_ok rfl rfl rfl (by first | exact fun _ => rfl | exact fun h => h | (intro h; simp_all; done) | ((try generalize decide (driftG m1 m2 < 0) = k1); (try generalize (driftG m1 m2 == 0) = k2); (try generalize decide (driftG m1 m2 > 0) = k5); (try generalize finB m1 = k3); (try generalize finB m2 = k4); (try revert k1); (try revert k2); (try revert k3); (try revert k4); (try revert k5); decide)) ?r12 rfl ?h12 ?g12) ?_
         case r12 => (exact Rd.blkC 3 rfl)
         case h12 => rfl
         case g12 => exact fun _ => trivial
         refine WG.y rfl rfl (by decide) (pureV_ok tab_ok rfl (by first | exact fun _ => rfl | exact fun h => h | (intro h; simp_all; done) | ((try generalize decide (driftG m1 m2 < 0) = k1); (try generalize (driftG m1 m2 == 0) = k2); (try generalize decide (driftG m1 m2 > 0) = k5); (try generalize finB m1 = k3); (try generalize finB m2 = k4); (try revert k1); (try revert k2); (try revert k3); (try revert k4); (try revert k5); decide))) ?_
         refine WG.callV (v := .int .i64 (cvF m1 u)) en28 rfl rfl (by decide) (CallOp.mk' rfl rfl rfl rfl) (by first | exact fun _ => rfl | exact fun h => h | (intro h; simp_all; done) | ((try generalize decide (driftG m1 m2 < 0) = k1); (try generalize (driftG m1 m2 == 0) = k2); (try generalize decide (driftG m1 m2 > 0) = k5); (try generalize finB m1 = k3); (try generalize finB m2 = k4); (try revert k1); (try revert k2); (try revert k3); (try revert k4); (try revert k5); decide)) (fun hg => AtG_V hv1 ha1x (t := u) (by omega)) ?_
         refine' WG.y rfl rfl (by decide) (Yl.loadG tab_ok rfl rfl rfl (by first | exact fun _ => rfl | exact fun h => h | (intro h; simp_all; done) | ((try generalize decide (driftG m1 m2 < 0) = k1); (try generalize (driftG m1 m2 == 0) = k2); (try generalize decide (driftG m1 m2 > 0) = k5); (try generalize finB m1 = k3); (try generalize finB m2 = k4); (try revert k1); (try revert k2); (try revert k3); (try revert k4); (try revert k5); decide)) ?r13 rfl ?h13 ?g13) ?_
         case r13 => (exact Rd.blkC 2 rfl)
         case h13 => rfl
         case g13 => exact fun _ => trivial
         refine WG.y rfl rfl (by decide) (pureV_ok tab_ok rfl (by first | exact fun _ => rfl | exact fun h => h | (intro h; simp_all; done) | ((try generalize decide (driftG m1 m2 < 0) = k1); (try generalize (driftG m1 m2 == 0) = k2); (try generalize decide (driftG m1 m2 > 0) = k5); (try generalize finB m1 = k3); (try generalize finB m2 = k4); (try revert k1); (try revert k2); (try revert k3); (try revert k4); (try revert k5); decide))) ?_
         refine WG.y rfl rfl (by decide) (pureV_ok tab_ok rfl (by first | exact fun _ => rfl | exact fun h => h | (intro h; simp_all; done) | ((try generalize decide (driftG m1 m2 < 0) = k1); (try generalize (driftG m1 m2 == 0) = k2); (try generalize decide (driftG m1 m2 > 0) = k5); (try generalize finB m1 = k3); (try generalize finB m2 = k4); (try revert k1); (try revert k2); (try revert k3); (try revert k4); (try revert k5); decide))) ?_
         refine WG.y rfl rfl (by decide) (Yl.sub rfl rfl rfl (by first | exact fun _ => rfl | exact fun h => h | (intro h; simp_all; done) | ((try generalize decide (driftG m1 m2 < 0) = k1); (try generalize (driftG m1 m2 == 0) = k2); (try generalize decide (driftG m1 m2 > 0) = k5); (try generalize finB m1 = k3); (try generalize finB m2 = k4); (try revert k1); (try revert k2); (try revert k3); (try revert k4); (try revert k5); decide)) (by intro hg; (try simp only [kk] at hg); constructor <;> (try dsimp only) <;> omega)) ?_
         refine WG.callV (v := .int .i64 (cvF m2 (u - th))) en28 rfl rfl (by decide) (CallOp.mk' rfl rfl rfl rfl) (by first | exact fun _ => rfl | exact fun h => h | (intro h; simp_all; done) | ((try generalize decide (driftG m1 m2 < 0) = k1); (try generalize (driftG m1 m2 == 0) = k2); (try generalize decide (driftG m1 m2 > 0) = k5); (try generalize finB m1 = k3); (try generalize finB m2 = k4); (try revert k1); (try revert k2); (try revert k3); (try revert k4); (try revert k5); decide)) (fun hg => by
          have h := AtG_V (fc := ca2x) (t := u - th) hv2 ha2x (by omega)
          rw [show ((u - th : Nat) : Int) = (u : Int) - (th : Int) by omega] at h
          exact h) ?_
         refine WG.y rfl rfl (by decide) (pureV_ok tab_ok rfl (by first | exact fun _ => rfl | exact fun h => h | (intro h; simp_all; done) | ((try generalize decide (driftG m1 m2 < 0) = k1); (try generalize (driftG m1 m2 == 0) = k2); (try generalize decide (driftG m1 m2 > 0) = k5); (try generalize finB m1 = k3); (try generalize finB m2 = k4); (try revert k1); (try revert k2); (try revert k3); (try revert k4); (try revert k5); decide))) ?_
         refine WG.y rfl rfl (by decide) (Yl.pand rfl rfl rfl (fun _ => rfl) (by first | exact fun _ _ => rfl | ((try generalize decide (driftG m1 m2 < 0) = k1); (try generalize (driftG m1 m2 == 0) = k2); (try generalize decide (driftG m1 m2 > 0) = k5); (try generalize finB m1 = k3); (try generalize finB m2 = k4); (try revert k1); (try revert k2); (try revert k3); (try revert k4); (try revert k5); decide) | (intro h1 h2; simp_all <;> omega))) ?_
         refine WG.nil (WE.nxt ?_)
         refine W.cond rfl (fun hc7 => ?_) (fun hc7 => ?_)
         ·try simp only [kk] at hc7
          have hre : finB m1 = true → finB m2 = true → rawG m1 m2 th u = cvF m1 u - cvF m2 (u - th) := fun g1 g2 => by
           unfold rawG
           rw [if_neg (isInf_fin g2 _), if_neg (isInf_fin g1 _)]
          have hd : shareQ m1 m2 th = (zcv, 3) := by
           unfold shareQ
           obtain ⟨⟨⟨g1, g2⟩, g3⟩, g4⟩ := hc7
           have h5 := minF_le (f := rawG m1 m2 th) (s := th + 400) (u := u) (d := lcmC m1 m2 - 1) (by omega) (by omega)
           rw [hre g1 g2] at h5
           rw [if_neg hl1, if_neg hnq, if_neg h400, if_pos ⟨⟨g1, g2⟩, g3, by omega⟩]
          refine W.seq (W.region _ ?_)
          -- build
          refine WG.y rfl rfl qD (Yl.build (parts := []) tab_ok rfl rfl rfl rfl (fun _ => rfl) rfl rfl) ?_
          refine WL.efN rfl rfl (Ef.store0 4 tab_ok rfl rfl rfl rfl rfl rfl rfl rfl ?_)
          refine WG.run tab_ok 1 rfl (WG.nil (WE.nxt (W.ret (WE.blk_ret (WE.then_ret (WE.then_ret (WE.blk_ret (WE.then_ret ?_))))))))
          refine WE.retF tab_ok [_, _] rfl ⟨⟨_, _, _, rfl, rfl, rfl, ((by first | exact Rd.blk 0 rfl | exact Rd.blk 1 rfl | exact Rd.blk 2 rfl | exact Rd.blk 3 rfl | exact Rd.blk 4 rfl | exact Rd.blk 5 rfl | exact Rd.blk 6 rfl | exact Rd.blk 7 rfl | exact Rd.blk 8 rfl | exact Rd.blk 9 rfl)), rfl⟩, rfl, trivial⟩ ((by first | exact hR1 | exact hR1.trans hR3 | exact hR1.trans (hR4.trans hR5))) ?_
          exact ⟨none, 0, by rw [hd]; rfl, by rw [hd]; exact rs_nil, by rw [hd]; exact Nat.le_refl _, qS⟩
         ·try simp only [kk] at hc7
          have hre : finB m1 = true → finB m2 = true → rawG m1 m2 th u = cvF m1 u - cvF m2 (u - th) := fun g1 g2 => by
           unfold rawG
           rw [if_neg (isInf_fin g2 _), if_neg (isInf_fin g1 _)]
          have hy : bothB m1 m2 → 0 < driftG m1 m2 → 0 ≤ rawG m1 m2 th u := fun ⟨g1, g2⟩ g3 => by
           rw [hre g1 g2]
           have := hc7 ⟨⟨g1, g2⟩, g3⟩
           omega
          refine W.skip (WE.blk _ (WE.nxt (W.region _ (WG.run tab_ok 1 rfl ?_))))
          refine WG.y rfl rfl (by decide) (Yl.add rfl rfl rfl (fun _ => rfl) (by intro _; constructor <;> (try dsimp only) <;> omega)) ?_
          refine WG.run tab_ok 1 rfl (WG.nil ?_)
          refine WE.again (u + 1) (⟨by omega, by omega, fun g1 g2 v v1 v2 => by
           by_cases e : v = u
           ·subst e; exact hy g1 g2
           ·exact hall g1 g2 v v1 (by omega)⟩) (by (try dsimp only); omega) ⟨rfl, rfl, rfl, rfl, rfl, rfl, rfl, rfl, rfl, rfl, rfl⟩ (RLe.refl _) qS
        ·try dsimp only at hc6
         obtain rfl : u = (th + 400 + lcmC m1 m2) := by omega
         have hneg : ¬ (bothB m1 m2 ∧ 0 < driftG m1 m2 ∧ minF (rawG m1 m2 th) (th + 400) (lcmC m1 m2 - 1) < 0) := fun ⟨h1, h2, h3⟩ => by
          have : 0 ≤ minF (rawG m1 m2 th) (th + 400) (lcmC m1 m2 - 1) := minF_ge (fun v v1 v2 => hall h1 h2 v v1 (by omega))
          omega
         have hd : shareQ m1 m2 th = madeR ⟨fvals (hG m1 m2 th) (th + 400 + lcmC m1 m2), (lcmC m1 m2 : Int), incQ m1 m2⟩ := by
          unfold shareQ
          rw [if_neg hl1, if_neg hnq, if_neg h400, if_neg hneg]
         have hmk := share_madeOk hv1 hv2 hnf4 (by omega) (by omega) hneg
         refine W.exit ?_
         refine WE.then_exit (WE.then_exit (WE.blk_exit (WE.nxt (W.seq (W.region _ (WG.run tab_ok 1 rfl (WG.nil (WE.nxt (W.seq (W.seq (W.region _ (WG.run tab_ok 2 rfl ?_))))))))))))
         refine WG.y rfl rfl (by decide) (Yl.mul rfl rfl rfl (fun _ => rfl) (by intro _; constructor <;> (try dsimp only) <;> omega)) ?_
         refine WG.y rfl rfl (by decide) (Yl.add rfl rfl rfl (fun _ => rfl) (by intro _; constructor <;> (try dsimp only) <;> omega)) ?_
         refine WG.y rfl rfl (by decide) (Yl.sub rfl rfl rfl (fun _ => rfl) (by intro _; constructor <;> (try dsimp only) <;> omega)) ?_
         rw [show (th : Int) + 400 + 2 * (lcmC m1 m2 : Int) - 1 = ((th + 400 + 2 * lcmC m1 m2 : Nat) : Int) - 1 by omega]
         refine WG.run tab_ok 1 rfl (WG.nil (WE.nxt (W.block ?_)))
         refine W.loopK (β := Nat × Int × List Int) (fun (n, lst, xs) => n ≤ th + 400 + 2 * lcmC m1 m2 ∧ xs.length = (th + 400 + lcmC m1 m2) ∧ lst = leastG (leftG m1 m2 th) n (th + 400 + 2 * lcmC m1 m2 - n) ∧ ∀ i, i < (th + 400 + lcmC m1 m2) → nth xs i = if n ≤ i then (hG m1 m2 th) i else 0) (fun (n, lst, xs) => [(15, true, .int .i64 lst), (19, true, .int .i64 ((n : Int) - 1))]) [2, 6, 8, 9, 17] [_, _, _, _, _] [] _ rfl (fun (n, lst, xs) => [(1, .sl 3 1 (some ⟨a106, 0, none⟩) (th + 400 + lcmC m1 m2) (xs.map encI))]) (fun (n, lst, xs) => n) ((th + 400 + 2 * lcmC m1 m2, 4611686018427387904, List.replicate (th + 400 + lcmC m1 m2) 0)) (⟨Nat.le_refl _, by simp, by (try dsimp only); rw [Nat.sub_self]; rfl, fun i hi => by rw [if_neg (by (try dsimp only); omega)]; exact nth_replicate hi⟩) ⟨rfl, rfl, rfl, rfl, rfl, rfl, rfl, rfl⟩ qS ?_
         intro zz hst
         obtain ⟨n, lst, xs⟩ := zz
         dsimp only [zipE, setAll, List.cons_append, List.nil_append, List.set_cons_zero, List.set_cons_succ] at hst ⊢
         obtain ⟨hn1, hxl, hlst, hxs⟩ := hst
         refine W.seq (W.seq (W.region _ (WG.run tab_ok 2 rfl (WG.nil (WE.nxt ?_)))))
         refine W.condD rfl (fun hc8 => ?_) (fun hc8 => ?_)
         ·try dsimp only at hc8
          obtain ⟨w, rfl⟩ : ∃ w, n = w + 1 := ⟨n - 1, by omega⟩
          rw [show ((w + 1 : Nat) : Int) - 1 = (w : Int) by omega]
          refine W.skip (WE.nxt (W.seq (W.block (W.seq (W.region _ (WG.run tab_ok 1 rfl ?_))))))
          refine' WG.y rfl rfl qD (Yl.load1 tab_ok rfl rfl rfl (fun _ => rfl) ?r14 rfl ?h14) ?_
          case r14 => (exact Rd.blk 3 rfl)
          case h14 => rfl
          refine' WG.y rfl rfl qD (Yl.load1 tab_ok rfl rfl rfl (fun _ => rfl) ?r15 rfl ?h15) ?_
          case r15 => (exact Rd.blk 2 rfl)
          case h15 => rfl
          refine WG.run tab_ok 2 rfl ?_
          refine WG.callV (v := .int .i64 (leftG m1 m2 th w)) en45 rfl rfl qD (CallOp.mk' rfl rfl rfl rfl) (fun _ => rfl) (fun hg => Left17_V (c1 := ca1x) (c2 := ca2x) (th := th) (u := w) hv1 ha1x hv2 ha2x qO) ?_
          refine WG.run tab_ok 1 rfl ?_
          have hnew : min lst (leftG m1 m2 th w) = leastG (leftG m1 m2 th) w (th + 400 + 2 * lcmC m1 m2 - w) := by
           rw [show th + 400 + 2 * lcmC m1 m2 - w = (th + 400 + 2 * lcmC m1 m2 - (w + 1)) + 1 by omega, leastG_cons, ← hlst]
          rw [show (if (leftG m1 m2 th w) < lst then (leftG m1 m2 th w) else lst) = min lst (leftG m1 m2 th w) by split <;> omega]
          refine WG.run tab_ok 1 rfl (WG.nil (WE.nxt (W.seq (W.region _ (WG.run tab_ok 2 rfl ?_)))))
          refine' WG.y rfl rfl qD (Yl.load1 tab_ok rfl rfl rfl (fun _ => rfl) ?r16 rfl ?h16) ?_
          case r16 => apply Rd.add; (exact Rd.blk 0 rfl)
          case h16 => rfl
          refine WG.run tab_ok 2 rfl (WG.nil (WE.nxt ?_))
          refine W.condD rfl (fun hc9 => ?_) (fun hc9 => ?_)
          ·try dsimp only at hc9
           have hwn : w < (th + 400 + lcmC m1 m2) := by omega
           refine W.region _ (WG.run tab_ok 1 rfl ?_)
           refine' WG.y rfl rfl qD (Yl.load1 tab_ok rfl rfl rfl (fun _ => rfl) ?r17 rfl ?h17) ?_
           case r17 => apply Rd.add; (exact Rd.blk 0 rfl)
           case h17 => rfl
           refine WG.run tab_ok 2 rfl ?_
           refine WG.y rfl rfl (by decide) (Yl.indexN tab_ok rfl rfl rfl rfl rfl rfl (fun _ => rfl) (by intro _; (try dsimp only) <;> omega) (by intro _; first | exact fun _ _ _ _ => rfl | exact RS.has (by assumption) | exact fun _ _ _ _ => (by assumption) | exact HasMem.ownD 0 rfl | exact HasMem.ownD 1 rfl | exact HasMem.ownD 2 rfl | exact HasMem.ownD 3 rfl | exact HasMem.ownD 4 rfl | exact HasMem.ownD 5 rfl | exact HasMem.ownD 6 rfl | exact HasMem.ownD 7 rfl | exact HasMem.ownD 8 rfl | exact HasMem.ownD 9 rfl)) ?_
           refine WL.efN rfl rfl (Ef.storeD _ 1 tab_ok rfl rfl rfl rfl rfl (by (try dsimp only) <;> omega) rfl rfl rfl rfl ?_)
           refine WG.nil (WE.blk _ (WE.nxt (W.region _ (WG.run tab_ok 1 rfl ?_))))
           refine WG.y rfl rfl (by decide) (Yl.sub rfl rfl rfl (fun _ => rfl) (by intro _; constructor <;> (try dsimp only) <;> omega)) ?_
           refine WG.run tab_ok 1 rfl (WG.nil ?_)
           refine WE.again ((w, min lst (leftG m1 m2 th w), xs.set w (min lst (leftG m1 m2 th w)))) (⟨by (try dsimp only); omega, by (try dsimp only); rw [List.length_set]; exact hxl, hnew, fun i hi => by
            (try dsimp only)
            by_cases e : i = w
            ·subst e
             rw [nth_set_self (by omega), if_pos (by omega), hnew, left_hG hv1 hv2 hup (by omega) (by omega) hi]
            ·rw [nth_set_ne (fun h => e h.symm), hxs i hi]
             by_cases h : w + 1 ≤ i
             ·rw [if_pos h, if_pos (by omega)]
             ·rw [if_neg h, if_neg (by omega)]⟩) (by (try dsimp only); omega) ⟨rfl, rfl, rfl, rfl, rfl, rfl, rfl, rfl⟩ (RLe.refl _) qS
          ·try dsimp only at hc9
           have hwn : ¬ w < (th + 400 + lcmC m1 m2) := by omega
           refine W.skip (WE.blk _ (WE.nxt (W.region _ (WG.run tab_ok 1 rfl ?_))))
           refine WG.y rfl rfl (by decide) (Yl.sub rfl rfl rfl (fun _ => rfl) (by intro _; constructor <;> (try dsimp only) <;> omega)) ?_
           refine WG.run tab_ok 1 rfl (WG.nil ?_)
           refine WE.again ((w, min lst (leftG m1 m2 th w), xs)) (⟨by (try dsimp only); omega, hxl, hnew, fun i hi => by
            (try dsimp only)
            rw [hxs i hi]
            by_cases h : w + 1 ≤ i
            ·rw [if_pos h, if_pos (by omega)]
            ·rw [if_neg h, if_neg (by omega)]⟩) (by (try dsimp only); omega) ⟨rfl, rfl, rfl, rfl, rfl, rfl, rfl, rfl⟩ (RLe.refl _) qS
         ·try dsimp only at hc8
          obtain rfl : n = 0 := by omega
          refine W.exit ?_
          refine WE.then_exit (WE.then_exit (WE.blk_exit (WE.nxt ?_)))
          have hxv : xs = fvals (hG m1 m2 th) (th + 400 + lcmC m1 m2) := nth_ext (by rw [fvals_len]; exact hxl) (fun i hi => by
           rw [hxs i (by omega), fvals_nth _ (by omega), if_pos (Nat.zero_le _)])
          rw [hxv]
          refine W.freeze (enc := encI) (xs := fvals (hG m1 m2 th) (th + 400 + lcmC m1 m2)) 1 rfl ?_
          intro R4 hR4 hxr
          have hfn : (fvals (hG m1 m2 th) (th + 400 + lcmC m1 m2)).length = (th + 400 + lcmC m1 m2) := fvals_len _ _
          refine W.seq (W.region _ ?_)
          refine' WG.y rfl rfl qD (Yl.load1 tab_ok rfl rfl rfl (fun _ => rfl) ?r18 rfl ?h18) ?_
          case r18 => (exact Rd.blk 0 rfl)
          case h18 => rfl
          refine WL.call en47 rfl rfl qD (CallOp.mkT rfl rfl rfl rfl) (MadeGLK_C (cc := (th + 400 + lcmC m1 m2)) hxr hfn qO hmk (Nat.le_refl _) w0 _) ?_
          rintro _ R5 E5 hR5 ⟨ff, ffc, rfl, hff, hcpf, hsub5⟩
          refine WL.subE hsub5 ?_
          rw [← hd] at hff hcpf ⊢
          unfold cvV
          refine WG.run tab_ok 2 rfl ?_
          refine WL.efN rfl rfl (Ef.store0 3 tab_ok rfl rfl rfl rfl rfl rfl rfl rfl ?_)
          refine WG.run tab_ok 1 rfl (WG.nil (WE.nxt (W.ret ?_)))
          refine WE.retF tab_ok [_, _] rfl ⟨⟨_, _, _, rfl, rfl, rfl, ((by first | exact Rd.blk 0 rfl | exact Rd.blk 1 rfl | exact Rd.blk 2 rfl | exact Rd.blk 3 rfl | exact Rd.blk 4 rfl | exact Rd.blk 5 rfl | exact Rd.blk 6 rfl | exact Rd.blk 7 rfl | exact Rd.blk 8 rfl | exact Rd.blk 9 rfl)), rfl⟩, rfl, trivial⟩ ((by first | exact hR1 | exact hR1.trans hR3 | exact hR1.trans (hR4.trans hR5))) ?_
          exact ⟨ff, ffc, rfl, hff, hcpf, qS⟩
       ·
        refine W.seq (W.region _ (WG.run tab_ok 1 rfl (WG.nil (WE.nxt ?_))))
        refine W.cond rfl (fun hc10 => ?_) (fun hc10 => ?_)
        ·try simp only [kk] at hc10
         have hbo : bothB m1 m2 := by first | exact hc10 | simpa using hc10
         have hin : incQ m1 m2 = driftG m1 m2 := if_pos hbo
         refine W.region _ (WG.run tab_ok 2 rfl ?_)
         refine WL.efN rfl rfl (Ef.store 0 tab_ok rfl rfl rfl rfl rfl rfl rfl rfl ?_)
         refine WG.nil ?_
         rw [← hin]
         refine WE.cut (b17, a106) trivial ⟨rfl, rfl, rfl, rfl, rfl, rfl, rfl, rfl, rfl, rfl⟩ (RLe.refl _) qS
        ·try simp only [kk] at hc10
         have hbo : ¬ bothB m1 m2 := fun ⟨g1, g2⟩ => by first | exact hc10 ⟨g1, g2⟩ | exact hc10 g1 g2 | (rw [g1, g2] at hc10; simp at hc10; done) | (rcases hc10 with h | h <;> simp_all)
         have hin : incQ m1 m2 = 0 := if_neg hbo
         refine W.skip ?_
         rw [← hin]
         refine WE.cut (b17, a106) trivial ⟨rfl, rfl, rfl, rfl, rfl, rfl, rfl, rfl, rfl, rfl⟩ (RLe.refl _) qS

end Go.Proofs.Ytnackbfnmhkodaa

/- Rule: a pointer against nil. No condition. -/
namespace Go.Proofs.Ytnackbfnmhkodaa.K
open Go Go.RowKit
section
variable {P : Program} {T : Tab} {n : Nat} {env : Env} {w0 : World} {R : Ro} {E : List Ent} {o : Oper} {pc p q r : Bool}
theorem Yl.ptrNil {t e : TypeId} {t' x y} {a : Option Addr} {d : TD} (hT : TabOk P T) (ho : o.op = .binOp .eql t x y t') (hc : y = .const (.pointer none)) (hd : T.at t = some d) (hk : d.k = .ptr e) (hx : ev env x = some (p, .pointer a)) (hp : pc = true → p = true) : Yl P n env w0 R E o pc (.bool a.isNone) := by
  intro ac w hkn hm hpc
  subst hc
  have hu : P.underlying t = some (.pointer e) := by
    have := hT.kind hd
    rw [hk] at this
    unfold kindOf at this
    split at this <;> simp_all
  have hpt : P.underlying t = some (.pointer (P.pointee t)) := by rw [hu]; simp [Program.pointee, hu]
  have e1 := run_equal_pointer_nil (P := P) w t a hpt
  have hy : ac.eval (.const (.pointer none)) = .pointer none := rfl
  unfold execOp
  cases a with
  | none => simp [ho, hkn.ev hx (hp hpc), hy, eqGuard, binOp, e1]
  | some ad => simp [ho, hkn.ev hx (hp hpc), hy, eqGuard, binOp, e1]
end
end Go.Proofs.Ytnackbfnmhkodaa.K

/- Finite curves: where a value is reached; the greatest distance. No condition. -/
set_option maxRecDepth 4000
set_option linter.unusedSimpArgs false
set_option linter.unusedVariables false
namespace Go.Proofs.Ytnackbfnmhkodaa
open Go Go.RowKit Go.Proofs.Ytnackbfnmhkodaa.K Go.Proofs.Ytnackbfnmhkodaa.M

theorem ReachF_V {R : Ro} {fa : Option Addr} {fc : Nat} {F : Nat → Int} {S P : Nat} {I : Int} (hf : FC F S P I) (ha : RS R 1 encI fa (fvals F (S + P))) {v : Int} (hv : 0 ≤ v ∧ v ≤ 1000000000000000) : FnV Try.prog 79 [.agg #[.slice fa (fvals F (S + P)).length fc, .int .i64 (P : Int), .int .i64 I], .int .i64 v] R (.tuple #[.int .i64 (reachF F S P I v).1, .bool (reachF F S P I v).2]) := by
 have hfl := fvals_len F (S + P)
 have hP := hf.hP
 have hn := hf.hn
 have hI := hf.hI
 refine Fn.toV (fun w0 E => ?_)
 refine Fn.enter (n := 66) Try.func79 rfl rfl (Nat.le_of_ble_eq_true rfl) rfl ?_
 refine W.seq (W.region _ ?_)
 refine WL.ef rfl rfl qD (Ef.box rfl rfl (fun b2 => ?_))
 refine WG.run tab_ok 2 rfl (WG.nil (WE.nxt (W.seq (W.seq (W.region _ (WG.run tab_ok 1 rfl ?_))))))
 refine' WG.y rfl rfl qD (Yl.load1 tab_ok rfl rfl rfl (fun _ => rfl) ?r1 rfl ?h1) ?_
 case r1 => apply Rd.add; (exact Rd.blk 0 rfl)
 case h1 => rfl
 refine WG.run tab_ok 2 rfl (WG.nil (WE.nxt (W.block ?_)))
 refine W.loopK (β := Nat) (fun t => t ≤ S + P ∧ ∀ j, j < t → F j < v) (fun t => [(15, true, .int .i64 (t : Int))]) [1, 2, 13, 14] [_, _, _, _] [] _ rfl (fun t => []) (fun t => S + P - t) (0) (⟨Nat.zero_le _, fun j hj => by omega⟩) ⟨rfl, rfl, rfl, rfl, rfl, rfl⟩ qS ?_
 intro t hst
 dsimp only [zipE, setAll, List.cons_append, List.nil_append, List.set_cons_zero, List.set_cons_succ] at hst ⊢
 obtain ⟨ht, hno⟩ := hst
 refine W.seq (W.region _ (WG.run tab_ok 1 rfl (WG.nil (WE.nxt (W.seq ?_)))))
 refine W.condD rfl (fun hc0 => ?_) (fun hc0 => ?_)
 ·try dsimp only at hc0
  have htl : t < S + P := by omega
  have hft := fvals_nth F htl
  refine W.skip (WE.nxt (W.seq (W.block (W.seq (W.region _ (WG.run tab_ok 1 rfl ?_))))))
  refine WG.y rfl rfl (by decide) (Yl.indexN tab_ok rfl rfl rfl rfl rfl rfl (fun _ => rfl) (by intro _; (try dsimp only) <;> omega) (by intro _; first | exact fun _ _ _ _ => rfl | exact RS.has (by assumption) | exact fun _ _ _ _ => (by assumption) | exact HasMem.ownD 0 rfl | exact HasMem.ownD 1 rfl)) ?_
  refine' WG.y rfl rfl qD (Yl.load1 tab_ok rfl rfl rfl (fun _ => rfl) ?r2 rfl ?h2) ?_
  case r2 => ((apply RS.rdD; assumption; ((try dsimp only) <;> omega)))
  case h2 => rfl
  refine WG.run tab_ok 2 rfl (WG.nil (WE.nxt (W.seq (W.region _ (WG.run tab_ok 3 rfl (WG.nil (WE.nxt ?_)))))))
  refine W.condD rfl (fun hc1 => ?_) (fun hc1 => ?_)
  ·try dsimp only at hc1
   have hff : findFrom (fun t => decide (F t ≥ v)) (S + P) 0 = t := findFrom_some (Nat.zero_le _) (by omega) (decide_eq_true (by rw [← hft]; exact hc1)) (fun j _ hj => decide_eq_false (by have := hno j hj; omega))
   have hr : reachF F S P I v = ((t : Int), true) := by unfold reachF; rw [hff, if_pos (by omega)]
   refine W.seq (W.region _ (WG.run tab_ok 3 rfl (WG.nil (WE.nxt (W.ret (WE.blk_ret (WE.then_ret (WE.then_ret (WE.blk_ret (WE.then_ret ?_))))))))))
   refine WE.subE (E' := E) qS ?_
   refine WE.retF tab_ok [_, _] rfl ⟨rfl, rfl, trivial⟩ (RLe.refl _) ?_
   exact ⟨by rw [hr]; rfl, rfl⟩
  ·try dsimp only at hc1
   refine W.skip (WE.blk _ (WE.nxt (W.region _ ?_)))
   refine WG.y rfl rfl (by decide) (Yl.add rfl rfl rfl (fun _ => rfl) (by intro _; constructor <;> (try dsimp only) <;> omega)) ?_
   refine WG.run tab_ok 1 rfl (WG.nil ?_)
   refine WE.again (t + 1) (⟨by omega, fun j hj => by
    by_cases e : j = t
    ·subst e; rw [← hft]; omega
    ·exact hno j (by omega)⟩) (by (try dsimp only); omega) ⟨rfl, rfl, rfl, rfl, rfl, rfl⟩ (RLe.refl _) qS
 ·try dsimp only at hc0
  obtain rfl : t = S + P := by omega
  have hff : findFrom (fun t => decide (F t ≥ v)) (S + P) 0 = -1 := findFrom_none (fun j _ hj => decide_eq_false (by have := hno j (by omega); omega))
  have hlast := hno (S + P - 1) (by omega)
  have hvl : nth (fvals F (S + P)) ((((fvals F (S + P)).length : Int) - 1).toNat) = F (S + P - 1) := by rw [show (((fvals F (S + P)).length : Int) - 1).toNat = S + P - 1 by omega, fvals_nth F (by omega)]
  have hlb := hf.hb (S + P - 1) (by omega)
  have hl0 := hf.nonneg (S + P - 1)
  refine W.exit ?_
  refine WE.then_exit (WE.then_exit (WE.blk_exit (WE.nxt (W.seq ?_))))
  refine W.regionQ _ mixed qK ?_
  refine WG.run tab_ok 1 rfl ?_
  refine' WG.y rfl rfl qD (Yl.load1 tab_ok rfl rfl rfl (fun _ => rfl) ?r3 rfl ?h3) ?_
  case r3 => apply Rd.add; (exact Rd.blk 0 rfl)
  case h3 => rfl
  refine WG.run tab_ok 2 rfl ?_
  refine' WG.y rfl rfl qD (Yl.load1 tab_ok rfl rfl rfl (fun _ => rfl) ?r4 rfl ?h4) ?_
  case r4 => apply Rd.add; (exact Rd.blk 0 rfl)
  case h4 => rfl
  refine WG.run tab_ok 2 rfl (WG.nil (WE.nxt (W.seq (W.seq (W.region _ (WG.run tab_ok 3 rfl ?_))))))
  refine WG.y rfl rfl qD (pureV_ok tab_ok rfl qE) ?_
  refine' WG.y rfl rfl qD (Yl.loadG tab_ok rfl rfl rfl qE ?r5 rfl ?h5 ?g5) ?_
  case r5 => apply Rd.addC; (exact Rd.blkC 0 rfl)
  case h5 => rfl
  case g5 => exact fun _ => trivial
  refine WG.y rfl rfl qD (pureV_ok tab_ok rfl qE) ?_
  refine WG.y rfl rfl (by decide) (Yl.por rfl rfl rfl (fun _ => rfl) (by intro h1 h2; simp_all <;> omega)) ?_
  refine WG.nil (WE.nxt ?_)
  refine W.cond rfl (fun hc2 => ?_) (fun hc2 => ?_)
  ·try simp only [kk] at hc2
   have hI0 : I = 0 := by rcases hc2 with h | h; omega; exact h
   have hr : reachF F S P I v = (0, false) := by unfold reachF; rw [hff, if_neg (fun hh => hh rfl), if_pos hI0]
   refine W.seq (W.region _ (WG.run tab_ok 2 rfl (WG.nil (WE.nxt (W.ret (WE.then_ret ?_))))))
   refine WE.subE (E' := E) qS ?_
   refine WE.retF tab_ok [_, _] rfl ⟨rfl, rfl, trivial⟩ (RLe.refl _) ?_
   exact ⟨by rw [hr]; rfl, rfl⟩
  ·try simp only [kk] at hc2
   have hI0 : I ≠ 0 := by
    intro h
    apply Classical.byContradiction
    intro hn
    simp_all
   obtain ⟨g1, g2, g3, g4⟩ := reach_facts hf hI0 hlast
   obtain ⟨k, hk⟩ := Int.eq_ofNat_of_zero_le (show 0 ≤ (v - F (S + P - 1) + I - 1) / I by omega)
   have hkv : (k : Int) ≤ v + I := by
    have : (k : Int) * 1 ≤ (k : Int) * I := Int.mul_le_mul_of_nonneg_left (by omega) (by omega)
    rw [hk] at g2; omega
   have hr : reachF F S P I v = (findFrom (fun t => decide (F t ≥ v)) (P + 1) (S + P + (k - 1) * P), true) := by unfold reachF; rw [hff, if_neg (fun hh => hh rfl), if_neg hI0, hk, Int.toNat_natCast]
   rw [hk, Int.toNat_natCast] at g3
   rw [hk] at g1 g2 g4
   have hkP : ((k - 1) * P : Nat) ≤ 1100000000000000 * 120 := Nat.mul_le_mul (by omega) (by omega)
   have hkP2 : ((k : Int) - 1) * (P : Int) = (((k - 1) * P : Nat) : Int) := by rw [Int.natCast_mul, show ((k - 1 : Nat) : Int) = (k : Int) - 1 by omega]
   generalize ht0 : S + P + (k - 1) * P = t0 at hr g3
   refine W.skip (WE.nxt (W.seq ?_))
   refine W.regionQ _ mixed qK ?_
   refine WG.run tab_ok 2 rfl ?_
   refine' WG.y rfl rfl qD (Yl.load1 tab_ok rfl rfl rfl (fun _ => rfl) ?r6 rfl ?h6) ?_
   case r6 => apply Rd.add; (exact Rd.blk 0 rfl)
   case h6 => rfl
   refine WG.run tab_ok 1 rfl ?_
   refine WG.y rfl rfl (by decide) (Yl.sub rfl rfl rfl (fun _ => rfl) (by intro _; constructor <;> (try dsimp only) <;> omega)) ?_
   refine WG.y rfl rfl (by decide) (Yl.index tab_ok rfl rfl rfl rfl rfl rfl (fun _ => rfl) (by intro _; constructor <;> (try dsimp only) <;> omega) (by intro _; first | exact fun _ _ _ _ => rfl | exact RS.has (by assumption) | exact fun _ _ _ _ => (by assumption) | exact HasMem.ownD 0 rfl | exact HasMem.ownD 1 rfl)) ?_
   refine' WG.y rfl rfl qD (Yl.load1 tab_ok rfl rfl rfl (fun _ => rfl) ?r7 rfl ?h7) ?_
   case r7 => ((apply RS.rdD; assumption; ((try dsimp only) <;> omega)))
   case h7 => rfl
   rw [hvl]
   refine WG.y rfl rfl (by decide) (Yl.sub rfl rfl rfl (fun _ => rfl) (by intro _; constructor <;> (try dsimp only) <;> omega)) ?_
   refine WG.run tab_ok 1 rfl ?_
   refine' WG.y rfl rfl qD (Yl.load1 tab_ok rfl rfl rfl (fun _ => rfl) ?r8 rfl ?h8) ?_
   case r8 => apply Rd.add; (exact Rd.blk 0 rfl)
   case h8 => rfl
   refine WG.y rfl rfl (by decide) (Yl.add rfl rfl rfl (fun _ => rfl) (by intro _; constructor <;> (try dsimp only) <;> omega)) ?_
   refine WG.y rfl rfl (by decide) (Yl.sub rfl rfl rfl (fun _ => rfl) (by intro _; constructor <;> (try dsimp only) <;> omega)) ?_
   refine WG.run tab_ok 1 rfl ?_
   refine' WG.y rfl rfl qD (Yl.load1 tab_ok rfl rfl rfl (fun _ => rfl) ?r9 rfl ?h9) ?_
   case r9 => apply Rd.add; (exact Rd.blk 0 rfl)
   case h9 => rfl
   refine WG.y rfl rfl (by decide) (Yl.quo rfl rfl rfl (fun _ => rfl) (by intro _; constructor <;> (try dsimp only) <;> omega) (by intro _; omega)) ?_
   refine WG.run tab_ok 1 rfl (WG.nil (WE.nxt ?_))
   rw [hk]
   refine W.seq (W.region _ (WG.run tab_ok 2 rfl ?_))
   refine WG.y rfl rfl (by decide) (Yl.sub rfl rfl rfl (fun _ => rfl) (by intro _; constructor <;> (try dsimp only) <;> omega)) ?_
   refine WG.run tab_ok 1 rfl ?_
   refine WG.y rfl rfl (by decide) (Yl.mul rfl rfl rfl (fun _ => rfl) (by intro _; constructor <;> (try dsimp only) <;> omega)) ?_
   refine WG.y rfl rfl (by decide) (Yl.add rfl rfl rfl (fun _ => rfl) (by intro _; constructor <;> (try dsimp only) <;> omega)) ?_
   rw [hkP2, show (((fvals F (S + P)).length : Int)) + (((k - 1) * P : Nat) : Int) = (t0 : Int) by omega]
   refine WG.run tab_ok 1 rfl (WG.nil (WE.nxt (W.seq (W.block ?_))))
   refine W.loopK (β := Nat) (fun t => t0 ≤ t ∧ t ≤ t0 + (P - 1) ∧ ∀ j, t0 ≤ j → j < t → F j < v) (fun t => [(11, true, .int .i64 (t : Int))]) [1, 2] [_, _] [] _ rfl (fun t => []) (fun t => t0 + P - t) (t0) (⟨Nat.le_refl _, by omega, fun j a b => by omega⟩) ⟨rfl, rfl, rfl, rfl⟩ qS ?_
   intro t hst
   dsimp only [zipE, setAll, List.cons_append, List.nil_append, List.set_cons_zero, List.set_cons_succ] at hst ⊢
   obtain ⟨ht1, ht2, hno2⟩ := hst
   have hmt := hf.mono ht2
   have hbt : F t ≤ v + 1073741824 := by omega
   refine W.seq (W.seq (W.region _ ?_))
   refine' WG.y rfl rfl qD (Yl.load1 tab_ok rfl rfl rfl (fun _ => rfl) ?r10 rfl ?h10) ?_
   case r10 => (exact Rd.blk 0 rfl)
   case h10 => rfl
   refine WG.run tab_ok 1 rfl ?_
   refine WG.callV en68 rfl rfl qD (CallOp.mk' rfl rfl rfl rfl) (fun _ => rfl) (fun hg => WAt_V hf ha qO qO) ?_
   refine WG.run tab_ok 2 rfl (WG.nil (WE.nxt ?_))
   refine W.condD rfl (fun hc3 => ?_) (fun hc3 => ?_)
   ·try dsimp only at hc3
    refine W.skip (WE.nxt (W.block (W.region _ (WG.run tab_ok 1 rfl ?_))))
    refine WG.y rfl rfl (by decide) (Yl.add rfl rfl rfl (fun _ => rfl) (by intro _; constructor <;> (try dsimp only) <;> omega)) ?_
    refine WG.run tab_ok 1 rfl (WG.nil (WE.blk _ ?_))
    refine WE.again (t + 1) (⟨by omega, by
     apply Classical.byContradiction
     intro hn
     have e : t = t0 + (P - 1) := by omega
     rw [e, g3] at hc3
     omega, fun j a b => by
     by_cases e : j = t
     ·subst e; exact hc3
     ·exact hno2 j a (by omega)⟩) (by (try dsimp only); omega) ⟨rfl, rfl, rfl, rfl⟩ (RLe.refl _) qS
   ·try dsimp only at hc3
    have hff2 : findFrom (fun t => decide (F t ≥ v)) (P + 1) t0 = t := findFrom_some ht1 (by omega) (decide_eq_true (by omega)) (fun j a b => decide_eq_false (by have := hno2 j a b; omega))
    rw [hff2] at hr
    refine W.exit ?_
    refine WE.then_exit (WE.then_exit (WE.blk_exit (WE.nxt (W.seq (W.region _ (WG.run tab_ok 3 rfl (WG.nil (WE.nxt (W.ret ?_)))))))))
    refine WE.subE (E' := E) qS ?_
    refine WE.retF tab_ok [_, _] rfl ⟨rfl, rfl, trivial⟩ (RLe.refl _) ?_
    exact ⟨by rw [hr]; rfl, rfl⟩

theorem Greatest_V {R : Ro} {g : FuncId} {fi ca : Array Value} {f : Nat → Int × Bool} {n : Nat} (hE : Enters Try.prog g) (hF : ∀ t : Nat, t < n → FnV Try.prog g (fi.toList ++ [.int .i64 (t : Int)] ++ ca.toList) R (.tuple #[.int .i64 (f t).1, .bool (f t).2])) (hn : n ≤ 1000000) : FnV Try.prog 77 [.int .i64 (n : Int), .func (.func g) fi ca] R (.agg #[.bool (greatW f n 0 0 0).1, .int .i64 (greatW f n 0 0 0).2.1, .int .i64 (greatW f n 0 0 0).2.2]) := by
 refine Fn.toVS (fun w0 E => ?_)
 refine Fn.enter (n := 32) Try.func77 rfl rfl (Nat.le_of_ble_eq_true rfl) rfl ?_
 refine W.seq (W.region _ ?_)
 refine WL.ef rfl rfl qD (Ef.alloc tab_ok rfl rfl (fun b4 => ?_))
 refine WG.nil (WE.nxt (W.seq (W.region _ ?_)))
 refine WL.ef rfl rfl qD (Ef.alloc tab_ok rfl rfl (fun b5 => ?_))
 refine WG.nil (WE.nxt (W.seq (W.seq (W.region _ (WG.run tab_ok 2 rfl (WG.nil (WE.nxt (W.block ?_))))))))
 refine W.loopK (β := Nat × Int × Int) (fun (t, v, a) => t ≤ n ∧ greatW f (n - t) t v a = greatW f n 0 0 0) (fun (t, v, a) => [(10, true, .int .i64 (t : Int))]) [1, 4, 5, 9] [_, _, _, _] [] _ rfl (fun (t, v, a) => [(0, .blk b5 [.bool false, .int .i64 v, .int .i64 a])]) (fun (t, v, a) => n - t) ((0, 0, 0)) (⟨Nat.zero_le _, by rfl⟩) ⟨rfl, rfl, rfl, rfl, rfl, rfl⟩ qS ?_
 intro st hst
 obtain ⟨t, v, a⟩ := st
 dsimp only [zipE, setAll, List.cons_append, List.nil_append, List.set_cons_zero, List.set_cons_succ] at hst ⊢
 obtain ⟨ht, hg⟩ := hst
 refine W.seq (W.region _ (WG.run tab_ok 1 rfl (WG.nil (WE.nxt (W.seq ?_)))))
 refine W.condD rfl (fun hc0 => ?_) (fun hc0 => ?_)
 ·try dsimp only at hc0
  have htl : t < n := by omega
  obtain ⟨m, hm⟩ : ∃ m, n - t = m + 1 := ⟨n - t - 1, by omega⟩
  have hm2 : n - (t + 1) = m := by omega
  rw [hm, greatW] at hg
  refine W.skip (WE.nxt (W.seq (W.block (W.seq (W.region _ (WG.run tab_ok 2 rfl (WG.nil (WE.nxt (W.seq (W.region _ (WG.run tab_ok 2 rfl ?_)))))))))))
  refine WG.callV (v := .tuple #[.int .i64 (f t).1, .bool (f t).2]) hE rfl rfl qD (CallOp.mk' rfl rfl rfl rfl) (fun _ => rfl) (fun hg => hF t htl) ?_
  refine WG.run tab_ok 5 rfl (WG.nil (WE.nxt (W.seq (W.seq (W.region _ (WG.run tab_ok 2 rfl (WG.nil (WE.nxt ?_))))))))
  refine W.cond rfl (fun hc1 => ?_) (fun hc1 => ?_)
  ·try simp only [kk] at hc1
   have hok : (f t).2 = false := by simpa using hc1
   rw [if_pos hok] at hg
   refine W.seq (W.region _ ?_)
   -- build
   refine WG.y rfl rfl qD (Yl.build (parts := [(0, .const (.bool true))]) tab_ok rfl rfl rfl rfl (fun _ => rfl) rfl rfl) ?_
   refine WL.efN rfl rfl (Ef.store0 1 tab_ok rfl rfl rfl rfl rfl rfl rfl rfl ?_)
   refine WG.nil (WE.nxt (W.ret (WE.then_ret (WE.blk_ret (WE.then_ret (WE.then_ret (WE.blk_ret (WE.then_ret ?_))))))))
   refine WE.retF tab_ok [_] rfl ⟨⟨_, _, _, rfl, rfl, rfl, ((by first | exact Rd.blk 0 rfl | exact Rd.blk 1 rfl | exact Rd.blk 2 rfl)), rfl⟩, trivial⟩ (RLe.refl _) ?_
   exact ⟨by rw [← hg]; rfl, qS⟩
  ·try simp only [kk] at hc1
   have hok : ¬ (f t).2 = false := by simpa using hc1
   rw [if_neg hok] at hg
   refine W.skip (WE.nxt (W.seq (W.region _ (WG.run tab_ok 2 rfl ?_))))
   refine' WG.y rfl rfl qD (Yl.load1 tab_ok rfl rfl rfl (fun _ => rfl) ?r1 rfl ?h1) ?_
   case r1 => apply Rd.add; (exact Rd.blk 0 rfl)
   case h1 => rfl
   refine WG.run tab_ok 1 rfl (WG.nil (WE.nxt ?_))
   refine W.condD rfl (fun hc2 => ?_) (fun hc2 => ?_)
   ·try dsimp only at hc2
    rw [if_pos hc2, ← hm2] at hg
    refine W.region _ (WG.run tab_ok 3 rfl ?_)
    refine WL.efN rfl rfl (Ef.store 0 tab_ok rfl rfl rfl rfl rfl rfl rfl rfl ?_)
    refine WG.run tab_ok 1 rfl ?_
    refine WL.efN rfl rfl (Ef.store 0 tab_ok rfl rfl rfl rfl rfl rfl rfl rfl ?_)
    refine WG.nil (WE.blk _ (WE.nxt (W.region _ ?_)))
    refine WG.y rfl rfl (by decide) (Yl.add rfl rfl rfl (fun _ => rfl) (by intro _; constructor <;> (try dsimp only) <;> omega)) ?_
    refine WG.run tab_ok 1 rfl (WG.nil ?_)
    refine WE.again ((t + 1, (f t).1, t)) (⟨by dsimp only; omega, hg⟩) (by (try dsimp only); omega) ⟨rfl, rfl, rfl, rfl, rfl, rfl⟩ (RLe.refl _) qS
   ·try dsimp only at hc2
    rw [if_neg (by omega), ← hm2] at hg
    refine W.skip (WE.blk _ (WE.nxt (W.region _ ?_)))
    refine WG.y rfl rfl (by decide) (Yl.add rfl rfl rfl (fun _ => rfl) (by intro _; constructor <;> (try dsimp only) <;> omega)) ?_
    refine WG.run tab_ok 1 rfl (WG.nil ?_)
    refine WE.again ((t + 1, v, a)) (⟨by dsimp only; omega, hg⟩) (by (try dsimp only); omega) ⟨rfl, rfl, rfl, rfl, rfl, rfl⟩ (RLe.refl _) qS
 ·try dsimp only at hc0
  obtain rfl : t = n := by omega
  rw [Nat.sub_self, greatW] at hg
  refine W.exit ?_
  refine WE.then_exit (WE.then_exit (WE.blk_exit (WE.nxt (W.seq (W.region _ ?_)))))
  refine' WG.y rfl rfl qD (Yl.load1 tab_ok rfl rfl rfl (fun _ => rfl) ?r2 rfl ?h2) ?_
  case r2 => (exact Rd.blk 0 rfl)
  case h2 => rfl
  refine WL.efN rfl rfl (Ef.store0 1 tab_ok rfl rfl rfl rfl rfl rfl rfl rfl ?_)
  refine WG.nil (WE.nxt (W.ret ?_))
  refine WE.retF tab_ok [_] rfl ⟨⟨_, _, _, rfl, rfl, rfl, ((by first | exact Rd.blk 0 rfl | exact Rd.blk 1 rfl | exact Rd.blk 2 rfl)), rfl⟩, trivial⟩ (RLe.refl _) ?_
  exact ⟨by rw [← hg]; rfl, qS⟩

end Go.Proofs.Ytnackbfnmhkodaa

/- Two finite curves in normal form. No condition. -/
set_option maxRecDepth 4000
set_option linter.unusedSimpArgs false
set_option linter.unusedVariables false
namespace Go.Proofs.Ytnackbfnmhkodaa
open Go Go.RowKit Go.Proofs.Ytnackbfnmhkodaa.K Go.Proofs.Ytnackbfnmhkodaa.M

end Go.Proofs.Ytnackbfnmhkodaa

/- Delays and backlogs of any two valid curves. No condition. -/
set_option maxRecDepth 4000
set_option linter.unusedSimpArgs false
set_option linter.unusedVariables false
namespace Go.Proofs.Ytnackbfnmhkodaa
open Go Go.RowKit Go.Proofs.Ytnackbfnmhkodaa.K Go.Proofs.Ytnackbfnmhkodaa.M

theorem ReachI_V {R : Ro} {fa : Option Addr} {fc : Nat} {c : Cv} (hv : validB c = true) (ha : RS R 1 encI fa c.vals) {v : Int} (hx : (v = 4611686018427387904 ∧ finB c = true) ∨ (finB c = false ∧ 0 ≤ v ∧ v ≤ 4611686018427387904)) : FnV Try.prog 79 [.agg #[.slice fa c.vals.length fc, .int .i64 c.per, .int .i64 c.inc], .int .i64 v] R (.tuple #[.int .i64 (reachG c v).1, .bool (reachG c v).2]) := by
 refine Fn.toV (fun w0 E => ?_)
 obtain ⟨hr1, hr2, hr3, hr4, hr5, hr6, hr7, hr8⟩ := valid_range hv
 refine Fn.enter (n := 66) Try.func79 rfl rfl (Nat.le_of_ble_eq_true rfl) rfl ?_
 refine W.seq (W.region _ ?_)
 refine WL.ef rfl rfl qD (Ef.box rfl rfl (fun b2 => ?_))
 refine WG.run tab_ok 2 rfl (WG.nil (WE.nxt (W.seq (W.seq (W.region _ (WG.run tab_ok 1 rfl ?_))))))
 refine' WG.y rfl rfl qD (Yl.load1 tab_ok rfl rfl rfl (fun _ => rfl) ?r1 rfl ?h1) ?_
 case r1 => apply Rd.add; (exact Rd.blk 0 rfl)
 case h1 => rfl
 refine WG.run tab_ok 2 rfl (WG.nil (WE.nxt (W.block ?_)))
 refine W.loopK (β := Nat) (fun t => t ≤ c.vals.length ∧ ∀ j, j < t → cvF c j < v) (fun t => [(15, true, .int .i64 (t : Int))]) [1, 2, 13, 14] [_, _, _, _] [] _ rfl (fun t => []) (fun t => c.vals.length - t) (0) (⟨Nat.zero_le _, fun j hj => by omega⟩) ⟨rfl, rfl, rfl, rfl, rfl, rfl⟩ qS ?_
 intro t hst
 dsimp only [zipE, setAll, List.cons_append, List.nil_append, List.set_cons_zero, List.set_cons_succ] at hst ⊢
 obtain ⟨ht, hno⟩ := hst
 refine W.seq (W.region _ (WG.run tab_ok 1 rfl (WG.nil (WE.nxt (W.seq ?_)))))
 refine W.condD rfl (fun hc0 => ?_) (fun hc0 => ?_)
 ·try dsimp only at hc0
  have htl : t < c.vals.length := by omega
  have hft := cvF_low htl
  refine W.skip (WE.nxt (W.seq (W.block (W.seq (W.region _ (WG.run tab_ok 1 rfl ?_))))))
  refine WG.y rfl rfl (by decide) (Yl.indexN tab_ok rfl rfl rfl rfl rfl rfl (fun _ => rfl) (by intro _; (try dsimp only) <;> omega) (by intro _; first | exact fun _ _ _ _ => rfl | exact RS.has (by assumption) | exact fun _ _ _ _ => (by assumption) | exact HasMem.ownD 0 rfl | exact HasMem.ownD 1 rfl)) ?_
  refine' WG.y rfl rfl qD (Yl.load1 tab_ok rfl rfl rfl (fun _ => rfl) ?r2 rfl ?h2) ?_
  case r2 => ((apply RS.rdD; assumption; ((try dsimp only) <;> omega)))
  case h2 => rfl
  refine WG.run tab_ok 2 rfl (WG.nil (WE.nxt (W.seq (W.region _ (WG.run tab_ok 3 rfl (WG.nil (WE.nxt ?_)))))))
  refine W.condD rfl (fun hc1 => ?_) (fun hc1 => ?_)
  ·try dsimp only at hc1
   have hff : findFrom (fun t => decide (cvF c t ≥ v)) c.vals.length 0 = t := findFrom_some (Nat.zero_le _) (by omega) (decide_eq_true (by rw [hft]; exact hc1)) (fun j _ hj => decide_eq_false (by have := hno j hj; omega))
   have hr : reachG c v = ((t : Int), true) := by unfold reachG; rw [hff, if_pos (by omega)]
   refine W.seq (W.region _ (WG.run tab_ok 3 rfl (WG.nil (WE.nxt (W.ret (WE.blk_ret (WE.then_ret (WE.then_ret (WE.blk_ret (WE.then_ret ?_))))))))))
   refine WE.subE (E' := E) qS ?_
   refine WE.retF tab_ok [_, _] rfl ⟨rfl, rfl, trivial⟩ (RLe.refl _) ?_
   exact ⟨by rw [hr]; rfl, rfl⟩
  ·try dsimp only at hc1
   refine W.skip (WE.blk _ (WE.nxt (W.region _ ?_)))
   refine WG.y rfl rfl (by decide) (Yl.add rfl rfl rfl (fun _ => rfl) (by intro _; constructor <;> (try dsimp only) <;> omega)) ?_
   refine WG.run tab_ok 1 rfl (WG.nil ?_)
   refine WE.again (t + 1) (⟨by omega, fun j hj => by
    by_cases e : j = t
    ·subst e; rw [hft]; omega
    ·exact hno j (by omega)⟩) (by (try dsimp only); omega) ⟨rfl, rfl, rfl, rfl, rfl, rfl⟩ (RLe.refl _) qS
 ·try dsimp only at hc0
  obtain rfl : t = c.vals.length := by omega
  have hff : findFrom (fun t => decide (cvF c t ≥ v)) c.vals.length 0 = -1 := findFrom_none (fun j _ hj => decide_eq_false (by have := hno j (by omega); omega))
  refine W.exit ?_
  refine WE.then_exit (WE.then_exit (WE.blk_exit (WE.nxt (W.seq ?_))))
  refine W.regionQ _ mixed qK ?_
  refine WG.run tab_ok 1 rfl ?_
  refine' WG.y rfl rfl qD (Yl.load1 tab_ok rfl rfl rfl (fun _ => rfl) ?r3 rfl ?h3) ?_
  case r3 => apply Rd.add; (exact Rd.blk 0 rfl)
  case h3 => rfl
  refine WG.run tab_ok 2 rfl ?_
  refine' WG.y rfl rfl qD (Yl.load1 tab_ok rfl rfl rfl (fun _ => rfl) ?r4 rfl ?h4) ?_
  case r4 => apply Rd.add; (exact Rd.blk 0 rfl)
  case h4 => rfl
  refine WG.run tab_ok 2 rfl (WG.nil (WE.nxt (W.seq (W.seq (W.region _ (WG.run tab_ok 3 rfl ?_))))))
  refine WG.y rfl rfl qD (pureV_ok tab_ok rfl qE) ?_
  refine' WG.y rfl rfl qD (Yl.loadG tab_ok rfl rfl rfl qE ?r5 rfl ?h5 ?g5) ?_
  case r5 => apply Rd.addC; (exact Rd.blkC 0 rfl)
  case h5 => rfl
  case g5 => exact fun _ => trivial
  refine WG.y rfl rfl qD (pureV_ok tab_ok rfl qE) ?_
  refine WG.y rfl rfl (by decide) (Yl.por rfl rfl rfl (fun _ => rfl) (by intro h1 h2; simp_all <;> omega)) ?_
  refine WG.nil (WE.nxt ?_)
  refine W.cond rfl (fun hc2 => ?_) (fun hc2 => ?_)
  ·try simp only [kk] at hc2
   have hr : reachG c v = (0, false) := by unfold reachG; rw [hff, if_neg (fun hh => hh rfl), if_pos (by unfold INF; omega)]
   refine W.seq (W.region _ (WG.run tab_ok 2 rfl (WG.nil (WE.nxt (W.ret (WE.then_ret ?_))))))
   refine WE.subE (E' := E) qS ?_
   refine WE.retF tab_ok [_, _] rfl ⟨rfl, rfl, trivial⟩ (RLe.refl _) ?_
   exact ⟨by rw [hr]; rfl, rfl⟩
  ·try simp only [kk] at hc2
   exfalso
   rcases hx with ⟨h, _⟩ | ⟨h1, h2, h3⟩
   ·first | exact hc2 (.inl h) | exact hc2.1 h
   ·obtain ⟨n, n1, _, n3⟩ := inf_at hv h1
    have hs := stN_lt hv
    have h4 := hno n (by omega)
    rw [n3.hi n (Nat.le_refl _)] at h4
    unfold INF at h4; omega

theorem ReachG_V {R : Ro} {fa : Option Addr} {fc : Nat} {c : Cv} (hv : validB c = true) (ha : RS R 1 encI fa c.vals) {v : Int} (hvv : v = 4611686018427387904 ∨ (0 ≤ v ∧ v ≤ 1000000000000000)) : FnV Try.prog 79 [.agg #[.slice fa c.vals.length fc, .int .i64 c.per, .int .i64 c.inc], .int .i64 v] R (.tuple #[.int .i64 (reachG c v).1, .bool (reachG c v).2]) := by
 cases hf : finB c with
 | false => exact ReachI_V hv ha (.inr ⟨hf, by omega⟩)
 | true =>
  by_cases h : v = 4611686018427387904
  ·exact ReachI_V hv ha (.inl ⟨h, hf⟩)
  ·rcases valid_cases hv with ⟨S, P, e, hl, hp, hfc, _⟩ | ⟨_, _, _, _, _, _, _, f⟩
   ·have h2 := reachG_F hl hp (v := v) (by unfold INF; exact h)
    have e2 : c.vals = fvals (cvF c) (S + P) := by rw [← hl]; exact cvF_vals c
    rw [h2, hp, e2]
    rw [e2] at ha
    exact ReachF_V hfc ha qO
   ·rw [hf] at f; cases f

set_option maxHeartbeats 2000000 in
theorem DBothG_C {R : Ro} {fa : Option Addr} {fc : Nat} {cf : Cv} (hvf : validB cf = true) (ha : RS R 1 encI fa cf.vals) {ga : Option Addr} {gc : Nat} {cg : Cv} (hvg : validB cg = true) (hb : RS R 1 encI ga cg.vals) (w0 : World) (E : List Ent) : K.Fn Try.prog 76 [.agg #[.slice fa cf.vals.length fc, .int .i64 cf.per, .int .i64 cf.inc], .agg #[.slice ga cg.vals.length gc, .int .i64 cg.per, .int .i64 cg.inc]] w0 R E (fun v R' E' => ∃ (f1 : Option Addr) (n1 c1 : Nat) (p1 q1 : Int) (f2 : Option Addr) (n2 c2 : Nat) (p2 q2 tk : Int) (lo : Bool) (e : Int), v = .tuple #[.agg #[.slice f1 n1 c1, .int .i64 p1, .int .i64 q1, .slice f2 n2 c2, .int .i64 p2, .int .i64 q2, .int .i64 tk, .bool lo], .int .i64 e] ∧
   ((e = 3 ∧ 120 < lcmC (normR cf) (normR cg)) ∨ (e = 0 ∧ ¬ 120 < lcmC (normR cf) (normR cg) ∧ n1 = (normR cf).vals.length ∧ p1 = (normR cf).per ∧ q1 = (normR cf).inc ∧ n2 = (normR cg).vals.length ∧ p2 = (normR cg).per ∧ q2 = (normR cg).inc ∧ RS R' 1 encI f1 (normR cf).vals ∧ RS R' 1 encI f2 (normR cg).vals ∧ tk = ((max (stN (normR cf)) (stN (normR cg)) + lcmC (normR cf) (normR cg) : Nat) : Int) ∧ lo = decide (loose (normR cf) (normR cg)))) ∧ E.Sublist E') := by
 have hnf := norm_nrm hvf
 have hng := norm_nrm hvg
 refine Fn.enter (n := 65) Try.func76 rfl rfl (Nat.le_of_ble_eq_true rfl) rfl ?_
 refine W.seq (W.region _ ?_)
 refine WL.ef rfl rfl qD (Ef.box rfl rfl (fun b2 => ?_))
 refine WL.ef rfl rfl qD (Ef.box rfl rfl (fun b3 => ?_))
 refine WL.ef rfl rfl qD (Ef.alloc tab_ok rfl rfl (fun b4 => ?_))
 refine WG.run tab_ok 1 rfl (WG.nil (WE.nxt (W.seq (W.region _ ?_))))
 refine' WG.y rfl rfl qD (Yl.load1 tab_ok rfl rfl rfl (fun _ => rfl) ?r1 rfl ?h1) ?_
 case r1 => (exact Rd.blk 2 rfl)
 case h1 => rfl
 refine WL.call en32 rfl rfl qD (CallOp.mkT rfl rfl rfl rfl) (CNormalV_C hvf ha w0 _) ?_
 rintro _ R1 _ hR1 ⟨fa1x, ca1x, rfl, ha1x, hsub⟩
 refine WL.subE hsub ?_
 unfold cvV
 dsimp only at ha1x ⊢
 have hb := hb.mono hR1
 refine WG.run tab_ok 3 rfl ?_
 refine WL.ef rfl rfl qD (Ef.alloc tab_ok rfl rfl (fun b6 => ?_))
 refine WL.efN rfl rfl (Ef.store0 0 tab_ok rfl rfl rfl rfl rfl rfl rfl rfl ?_)
 refine WG.run tab_ok 1 rfl (WG.nil (WE.nxt (W.seq (W.seq (W.region _ (WG.run tab_ok 2 rfl (WG.nil (WE.nxt ?_))))))))
 refine W.condN rfl (fun hc0 => ?_) (fun hc0 => ?_)
 ·try dsimp only at hc0
  exact absurd rfl hc0
 ·try dsimp only at hc0
  refine W.skip (WE.nxt (W.seq (W.region _ ?_)))
  refine' WG.y rfl rfl qD (Yl.load1 tab_ok rfl rfl rfl (fun _ => rfl) ?r2 rfl ?h2) ?_
  case r2 => (exact Rd.blk 2 rfl)
  case h2 => rfl
  refine WL.call en32 rfl rfl qD (CallOp.mkT rfl rfl rfl rfl) (CNormalV_C hvg hb w0 _) ?_
  rintro _ R2 _ hR2 ⟨fa2x, ca2x, rfl, ha2x, hsub⟩
  refine WL.subE hsub ?_
  unfold cvV
  dsimp only at ha2x ⊢
  have ha1x := ha1x.mono hR2
  generalize normR cf = m1 at *
  generalize normR cg = m2 at *
  have hv1 := hnf.valid
  have hv2 := hng.valid
  have hlle := lcmC_le hv1 hv2
  have hlp := lcm_pos hv1 hv2
  have hs1 := stN_lt hv1
  have hs2 := stN_lt hv2
  refine WG.run tab_ok 3 rfl ?_
  refine WL.ef rfl rfl qD (Ef.alloc tab_ok rfl rfl (fun b8 => ?_))
  refine WL.efN rfl rfl (Ef.store0 0 tab_ok rfl rfl rfl rfl rfl rfl rfl rfl ?_)
  refine WG.run tab_ok 1 rfl (WG.nil (WE.nxt (W.seq (W.seq (W.region _ (WG.run tab_ok 2 rfl (WG.nil (WE.nxt ?_))))))))
  refine W.condN rfl (fun hc1 => ?_) (fun hc1 => ?_)
  ·try dsimp only at hc1
   exact absurd rfl hc1
  ·try dsimp only at hc1
   refine W.skip (WE.nxt (W.seq (W.region _ (WG.run tab_ok 1 rfl ?_))))
   refine' WG.y rfl rfl qD (Yl.load1 tab_ok rfl rfl rfl (fun _ => rfl) ?r3 rfl ?h3) ?_
   case r3 => apply Rd.add; (exact Rd.blk 1 rfl)
   case h3 => rfl
   refine WG.run tab_ok 1 rfl ?_
   refine' WG.y rfl rfl qD (Yl.load1 tab_ok rfl rfl rfl (fun _ => rfl) ?r4 rfl ?h4) ?_
   case r4 => apply Rd.add; (exact Rd.blk 0 rfl)
   case h4 => rfl
   refine WG.callV (v := .int .i64 (lcmC m1 m2 : Int)) en33 rfl rfl qD (CallOp.mk' rfl rfl rfl rfl) (fun _ => rfl) (fun hg => CommonC_V hv1 hv2) ?_
   refine WG.run tab_ok 1 rfl (WG.nil (WE.nxt (W.seq (W.seq (W.region _ (WG.run tab_ok 2 rfl (WG.nil (WE.nxt ?_))))))))
   refine W.condD rfl (fun hc2 => ?_) (fun hc2 => ?_)
   ·try dsimp only at hc2
    refine W.seq (W.region _ ?_)
    -- build
    refine WG.y rfl rfl qD (Yl.build (parts := []) tab_ok rfl rfl rfl rfl (fun _ => rfl) rfl rfl) ?_
    refine WL.efN rfl rfl (Ef.store0 2 tab_ok rfl rfl rfl rfl rfl rfl rfl rfl ?_)
    refine WG.run tab_ok 1 rfl (WG.nil (WE.nxt (W.ret (WE.then_ret ?_))))
    refine WE.retF tab_ok [_, _] rfl ⟨⟨_, _, _, rfl, rfl, rfl, ((by first | exact Rd.blk 0 rfl | exact Rd.blk 1 rfl | exact Rd.blk 2 rfl | exact Rd.blk 3 rfl | exact Rd.blk 4 rfl | exact Rd.blk 5 rfl | exact Rd.blk 6 rfl)), rfl⟩, rfl, trivial⟩ (hR1.trans hR2) ?_
    exact ⟨none, 0, 0, 0, 0, none, 0, 0, 0, 0, 0, false, _, rfl, .inl ⟨rfl, by omega⟩, qS⟩
   ·try dsimp only at hc2
    have hl1 : ¬ 120 < lcmC m1 m2 := by omega
    refine W.skip (WE.nxt ?_)
    refine W.seqCut (β := Nat × Int) (fun (b10, tk) => tk = ((max (stN m1) (stN m2) + lcmC m1 m2 : Nat) : Int)) (fun (b10, tk) => [(4, true, .pointer (some ⟨b4, 0, none⟩)), (6, true, .pointer (some ⟨b6, 0, none⟩)), (8, true, .pointer (some ⟨b8, 0, none⟩)), (9, true, .int .i64 (lcmC m1 m2 : Int)), (10, true, .pointer (some ⟨b10, 0, none⟩))]) (fun _ => R2) (fun (b10, tk) => .blk b10 [.slice fa1x m1.vals.length ca1x, .int .i64 m1.per, .int .i64 m1.inc, .slice fa2x m2.vals.length ca2x, .int .i64 m2.per, .int .i64 m2.inc, .int .i64 tk, .bool false] :: .blk b8 [.slice fa2x m2.vals.length ca2x, .int .i64 m2.per, .int .i64 m2.inc] :: .blk b6 [.slice fa1x m1.vals.length ca1x, .int .i64 m1.per, .int .i64 m1.inc] :: .blk b4 [.slice none 0 0, .int .i64 0, .int .i64 0, .slice none 0 0, .int .i64 0, .int .i64 0, .int .i64 0, .bool false] :: E) ?_ ?_
    ·
     intro st hst
     obtain ⟨b10, tk⟩ := st
     obtain rfl : tk = _ := hst
     dsimp only
     have hloq : (finB m2 && (!finB m1 || decide (gainC m1 (lcmC m1 m2) > gainC m2 (lcmC m1 m2)))) = decide (loose m1 m2) := by
      rw [Bool.eq_iff_iff, decide_eq_true_iff]
      unfold loose
      simp
     refine W.seq ?_
     refine W.regionH _ (ES := [.blk b8 [.slice fa2x m2.vals.length ca2x, .int .i64 m2.per, .int .i64 m2.inc], .blk b6 [.slice fa1x m1.vals.length ca1x, .int .i64 m1.per, .int .i64 m1.inc]]) mixed ?_
     refine' WA.take 0 rfl qK qK qK rfl rfl qD (Yl.load1 tab_ok rfl rfl rfl (fun _ => rfl) ?r5 rfl ?h5) qS qR ?_
     case r5 => (exact Rd.blk 0 rfl)
     case h5 => rfl
     refine WA.callV 1 rfl qK en37 rfl rfl qD (CallOp.mk' rfl rfl rfl rfl) (fun _ => rfl) (fun hg => WFiniteG_V hv2 ha2x) qS qR ?_
     refine WA.take 2 rfl qK qK qK rfl rfl qD (pureV_ok tab_ok rfl (fun _ => rfl)) qS qR ?_
     refine' WA.take 3 rfl qK qK qK rfl rfl qD (Yl.loadG tab_ok rfl rfl rfl qE ?r6 rfl ?h6 ?g6) qS qR ?_
     case r6 => (exact Rd.blkC 1 rfl)
     case h6 => rfl
     case g6 => exact fun _ => trivial
     refine WA.callV 4 rfl qK en37 rfl rfl qD (CallOp.mk' rfl rfl rfl rfl) qE (fun hg => WFiniteG_V hv1 ha1x) qS qR ?_
     refine WA.take 5 rfl qK qK qK rfl rfl qD (pureV_ok tab_ok rfl qE) qS qR ?_
     refine WA.take 6 rfl qK qK qK rfl rfl qD (pureV_ok tab_ok rfl qE) qS qR ?_
     refine' WA.take 7 rfl qK qK qK rfl rfl qD (Yl.loadG tab_ok rfl rfl rfl qE ?r7 rfl ?h7 ?g7) qS qR ?_
     case r7 => (exact Rd.blkC 1 rfl)
     case h7 => rfl
     case g7 => exact fun _ => trivial
     refine WA.take 8 rfl qK qK qK rfl rfl qD (pureV_ok tab_ok rfl qE) qS qR ?_
     refine' WA.take 10 rfl qK qK qK rfl rfl qD (Yl.loadG tab_ok rfl rfl rfl qE ?r8 rfl ?h8 ?g8) qS qR ?_
     case r8 => (exact Rd.blkC 0 rfl)
     case h8 => rfl
     case g8 => exact fun _ => trivial
     refine WA.take 11 rfl qK qK qK rfl rfl qD (pureV_ok tab_ok rfl qE) qS qR ?_
     refine WA.callV 9 (v := .int .i64 (gainC m1 (lcmC m1 m2))) rfl qK en34 rfl rfl qD (CallOp.mk' rfl rfl rfl rfl) qE (fun hg => WGainG_V hv1 ha1x (L := lcmC m1 m2) qO) qS qR ?_
     refine WA.callV 12 (v := .int .i64 (gainC m2 (lcmC m1 m2))) rfl qK en34 rfl rfl qD (CallOp.mk' rfl rfl rfl rfl) qE (fun hg => WGainG_V hv2 ha2x (L := lcmC m1 m2) qO) qS qR ?_
     refine WA.take 13 rfl qK qK qK rfl rfl qD (pureV_ok tab_ok rfl qE) qS qR ?_
     refine WA.take 14 rfl (by kernel_rfl) (by kernel_rfl) (by kernel_rfl) rfl rfl (by decide) (Yl.por rfl rfl rfl qE (by intro h1 h2; simp_all <;> omega)) qS (by first | exact RLe.refl _ | assumption) ?_
     refine WA.take 15 rfl (by kernel_rfl) (by kernel_rfl) (by kernel_rfl) rfl rfl (by decide) (Yl.pand rfl rfl rfl (fun _ => rfl) (by intro h1 h2; simp_all <;> omega)) qS (by first | exact RLe.refl _ | assumption) ?_
     refine WA.take 16 rfl qK qK qK rfl rfl qD (pureV_ok tab_ok rfl (fun _ => rfl)) qS qR ?_
     refine WA.effN 17 rfl qK rfl rfl (Ef.store 0 tab_ok rfl rfl rfl rfl rfl rfl rfl rfl ?_)
     refine ⟨by first | exact RLe.refl _ | assumption, qS, ?_⟩
     refine WA.done qK ?_
     refine WE.nxt (W.seq (W.region _ ?_))
     refine' WG.y rfl rfl qD (Yl.load1 tab_ok rfl rfl rfl (fun _ => rfl) ?r9 rfl ?h9) ?_
     case r9 => (exact Rd.blk 0 rfl)
     case h9 => rfl
     refine WL.efN rfl rfl (Ef.store0 3 tab_ok rfl rfl rfl rfl rfl rfl rfl rfl ?_)
     refine WG.run tab_ok 1 rfl (WG.nil (WE.nxt (W.ret ?_)))
     refine WE.retF tab_ok [_, _] rfl ⟨⟨_, _, _, rfl, rfl, rfl, ((by first | exact Rd.blk 0 rfl | exact Rd.blk 1 rfl | exact Rd.blk 2 rfl | exact Rd.blk 3 rfl | exact Rd.blk 4 rfl | exact Rd.blk 5 rfl | exact Rd.blk 6 rfl)), rfl⟩, rfl, trivial⟩ (hR1.trans hR2) ?_
     refine ⟨fa1x, _, ca1x, _, _, fa2x, _, ca2x, _, _, _, _, _, rfl, .inr ⟨rfl, hl1, rfl, rfl, rfl, rfl, rfl, rfl, ha1x, ha2x, ?_, ?_⟩, qS⟩
     ·first | rfl | omega | (split <;> omega)
     ·first | exact hloq | (rw [← hloq]; rfl)
    ·
     refine W.regionH _ (ES := [.blk b8 [.slice fa2x m2.vals.length ca2x, .int .i64 m2.per, .int .i64 m2.inc], .blk b6 [.slice fa1x m1.vals.length ca1x, .int .i64 m1.per, .int .i64 m1.inc]]) mixed ?_
     refine' WA.take 0 rfl qK qK qK rfl rfl qD (Yl.load1 tab_ok rfl rfl rfl (fun _ => rfl) ?r10 rfl ?h10) qS qR ?_
     case r10 => (exact Rd.blk 1 rfl)
     case h10 => rfl
     refine' WA.take 1 rfl qK qK qK rfl rfl qD (Yl.load1 tab_ok rfl rfl rfl (fun _ => rfl) ?r11 rfl ?h11) qS qR ?_
     case r11 => (exact Rd.blk 0 rfl)
     case h11 => rfl
     refine' WA.take 2 rfl qK qK qK rfl rfl qD (Yl.load1 tab_ok rfl rfl rfl (fun _ => rfl) ?r12 rfl ?h12) qS qR ?_
     case r12 => (exact Rd.blk 1 rfl)
     case h12 => rfl
     refine' WA.take 4 rfl qK qK qK rfl rfl qD (Yl.load1 tab_ok rfl rfl rfl (fun _ => rfl) ?r13 rfl ?h13) qS qR ?_
     case r13 => (exact Rd.blk 0 rfl)
     case h13 => rfl
     refine WA.take 7 rfl qK qK qK rfl rfl qD (pureV_ok tab_ok rfl (fun _ => rfl)) qS qR ?_
     refine WA.br2 (i := 3) (j := 10) qK ?_ ?_
     ·
      refine WS.callV rfl en35 rfl rfl qD (CallOp.mk' rfl rfl rfl rfl) (fun _ => rfl) (fun hg => WStartG_V hv1 ha1x) qS qR ?_
      refine WA.br2 (i := 5) (j := 10) qK ?_ ?_
      ·
       refine WS.callV rfl en35 rfl rfl qD (CallOp.mk' rfl rfl rfl rfl) (fun _ => rfl) (fun hg => WStartG_V hv2 ha2x) qS qR ?_
       refine WA.take 6 rfl qK qK qK rfl rfl qD (pureV_ok tab_ok rfl (fun _ => rfl)) qS qR ?_
       refine WA.take 8 rfl (by kernel_rfl) (by kernel_rfl) (by kernel_rfl) rfl rfl (by decide) (Yl.add rfl rfl rfl (fun _ => rfl) (by intro _; constructor <;> (try dsimp only) <;> omega)) qS (by first | exact RLe.refl _ | assumption) ?_
       -- build
       refine WA.take 9 rfl qK qK qK rfl rfl qD (Yl.build (parts := [(0, .tmp 37), (1, .tmp 38), (2, .tmp 45)]) tab_ok rfl rfl rfl rfl (fun _ => rfl) rfl rfl) qS qR ?_
       refine WA.eff 10 rfl qK rfl rfl qD (Ef.alloc tab_ok rfl rfl (fun b10 => ?_))
       refine ⟨by first | exact RLe.refl _ | assumption, qS, ?_⟩
       refine WA.effN 11 rfl qK rfl rfl (Ef.store0 0 tab_ok rfl rfl rfl rfl rfl rfl rfl rfl ?_)
       refine ⟨by first | exact RLe.refl _ | assumption, qS, ?_⟩
       refine WA.done qK ?_
       refine WE.cut (b10, (if (stN m1 : Int) < (stN m2 : Int) then (stN m2 : Int) else (stN m1 : Int)) + (lcmC m1 m2 : Int)) (by first | rfl | omega | (split <;> omega)) ⟨rfl, rfl, rfl, rfl, rfl, rfl⟩ (RLe.refl _) qS
      ·
       refine WS.eff rfl rfl rfl qD (Ef.alloc tab_ok rfl rfl (fun b10 => ?_))
       refine ⟨by first | exact RLe.refl _ | assumption, qS, ?_⟩
       refine WA.callV 5 rfl qK en35 rfl rfl qD (CallOp.mk' rfl rfl rfl rfl) (fun _ => rfl) (fun hg => WStartG_V hv2 ha2x) qS qR ?_
       refine WA.take 6 rfl qK qK qK rfl rfl qD (pureV_ok tab_ok rfl (fun _ => rfl)) qS qR ?_
       refine WA.take 8 rfl (by kernel_rfl) (by kernel_rfl) (by kernel_rfl) rfl rfl (by decide) (Yl.add rfl rfl rfl (fun _ => rfl) (by intro _; constructor <;> (try dsimp only) <;> omega)) qS (by first | exact RLe.refl _ | assumption) ?_
       -- build
       refine WA.take 9 rfl qK qK qK rfl rfl qD (Yl.build (parts := [(0, .tmp 37), (1, .tmp 38), (2, .tmp 45)]) tab_ok rfl rfl rfl rfl (fun _ => rfl) rfl rfl) qS qR ?_
       refine WA.effN 11 rfl qK rfl rfl (Ef.store0 0 tab_ok rfl rfl rfl rfl rfl rfl rfl rfl ?_)
       refine ⟨by first | exact RLe.refl _ | assumption, qS, ?_⟩
       refine WA.done qK ?_
       refine WE.cut (b10, (if (stN m1 : Int) < (stN m2 : Int) then (stN m2 : Int) else (stN m1 : Int)) + (lcmC m1 m2 : Int)) (by first | rfl | omega | (split <;> omega)) ⟨rfl, rfl, rfl, rfl, rfl, rfl⟩ (RLe.refl _) qS
     ·
      refine WS.eff rfl rfl rfl qD (Ef.alloc tab_ok rfl rfl (fun b10 => ?_))
      refine ⟨by first | exact RLe.refl _ | assumption, qS, ?_⟩
      refine WA.callV 3 rfl qK en35 rfl rfl qD (CallOp.mk' rfl rfl rfl rfl) (fun _ => rfl) (fun hg => WStartG_V hv1 ha1x) qS qR ?_
      refine WA.callV 5 rfl qK en35 rfl rfl qD (CallOp.mk' rfl rfl rfl rfl) (fun _ => rfl) (fun hg => WStartG_V hv2 ha2x) qS qR ?_
      refine WA.take 6 rfl qK qK qK rfl rfl qD (pureV_ok tab_ok rfl (fun _ => rfl)) qS qR ?_
      refine WA.take 8 rfl (by kernel_rfl) (by kernel_rfl) (by kernel_rfl) rfl rfl (by decide) (Yl.add rfl rfl rfl (fun _ => rfl) (by intro _; constructor <;> (try dsimp only) <;> omega)) qS (by first | exact RLe.refl _ | assumption) ?_
      -- build
      refine WA.take 9 rfl qK qK qK rfl rfl qD (Yl.build (parts := [(0, .tmp 37), (1, .tmp 38), (2, .tmp 45)]) tab_ok rfl rfl rfl rfl (fun _ => rfl) rfl rfl) qS qR ?_
      refine WA.effN 11 rfl qK rfl rfl (Ef.store0 0 tab_ok rfl rfl rfl rfl rfl rfl rfl rfl ?_)
      refine ⟨by first | exact RLe.refl _ | assumption, qS, ?_⟩
      refine WA.done qK ?_
      refine WE.cut (b10, (if (stN m1 : Int) < (stN m2 : Int) then (stN m2 : Int) else (stN m1 : Int)) + (lcmC m1 m2 : Int)) (by first | rfl | omega | (split <;> omega)) ⟨rfl, rfl, rfl, rfl, rfl, rfl⟩ (RLe.refl _) qS

theorem DelayFG_V {R : Ro} {a1 : Option Addr} {c1 : Nat} {m1 : Cv} (hv1 : validB m1 = true) (hx1 : RS R 1 encI a1 m1.vals) {a2 : Option Addr} {c2 : Nat} {m2 : Cv} (hv2 : validB m2 = true) (hx2 : RS R 1 encI a2 m2.vals) {b6 : Nat} {tk : Int} {lo : Bool} (h6 : R b6 = some [.slice a1 m1.vals.length c1, .int .i64 m1.per, .int .i64 m1.inc, .slice a2 m2.vals.length c2, .int .i64 m2.per, .int .i64 m2.inc, .int .i64 tk, .bool lo]) {t : Nat} (ht : t ≤ 100000) : FnV Try.prog 78 [.int .i64 (t : Int), .pointer (some ⟨b6, 0, none⟩)] R (.tuple #[.int .i64 (gapD m1 m2 t).1, .bool (gapD m1 m2 t).2]) := by
 have hlow := cvF_low15 hv1 ht
 have hrb := reachG_bound hv2 hlow
 unfold INF at hlow
 refine Fn.toV (fun w0 E => ?_)
 refine Fn.enter (n := 21) Try.func78 rfl rfl (Nat.le_of_ble_eq_true rfl) rfl ?_
 refine W.seq (W.region _ (WG.run tab_ok 2 rfl (WG.nil (WE.nxt (W.seq ?_)))))
 refine W.regionQ _ mixed qK ?_
 refine WG.run tab_ok 1 rfl ?_
 refine' WG.y rfl rfl qD (Yl.load1 tab_ok rfl rfl rfl (fun _ => rfl) ?r1 rfl ?h1) ?_
 case r1 => apply Rd.add; (exact Rd.ro qU)
 case h1 => rfl
 refine WG.run tab_ok 1 rfl ?_
 refine' WG.y rfl rfl qD (Yl.load1 tab_ok rfl rfl rfl (fun _ => rfl) ?r2 rfl ?h2) ?_
 case r2 => apply Rd.add; (exact Rd.ro qU)
 case h2 => rfl
 refine WG.run tab_ok 1 rfl ?_
 refine WG.callV en68 rfl rfl qD (CallOp.mk' rfl rfl rfl rfl) (fun _ => rfl) (fun hg => WAtG_V hv1 hx1 qO) ?_
 refine WG.callV en79 rfl rfl qD (CallOp.mk' rfl rfl rfl rfl) (fun _ => rfl) (fun hg => ReachG_V hv2 hx2 hlow) ?_
 refine WG.run tab_ok 5 rfl (WG.nil (WE.nxt (W.seq (W.region _ (WG.run tab_ok 2 rfl ?_)))))
 refine WG.y rfl rfl (by decide) (Yl.sub rfl rfl rfl (fun _ => rfl) (by intro _; constructor <;> (try dsimp only) <;> omega)) ?_
 refine WG.run tab_ok 3 rfl (WG.nil (WE.nxt (W.ret ?_)))
 refine WE.subE (E' := E) qS ?_
 refine WE.retF tab_ok [_, _] rfl ⟨rfl, rfl, trivial⟩ (RLe.refl _) ?_
 exact ⟨rfl, rfl⟩

theorem DelayG_C {R : Ro} {fa : Option Addr} {fc : Nat} {cf : Cv} (hvf : validB cf = true) (ha : RS R 1 encI fa cf.vals) {ga : Option Addr} {gc : Nat} {cg : Cv} (hvg : validB cg = true) (hb : RS R 1 encI ga cg.vals) (w0 : World) (E : List Ent) : K.Fn Try.prog 49 [.agg #[.slice fa cf.vals.length fc, .int .i64 cf.per, .int .i64 cf.inc], .agg #[.slice ga cg.vals.length gc, .int .i64 cg.per, .int .i64 cg.inc]] w0 R E (fun v R' E' => v = .tuple #[.agg #[.bool ((devN (normR cf) (normR cg) (gapD (normR cf) (normR cg)))).1.1, .int .i64 ((devN (normR cf) (normR cg) (gapD (normR cf) (normR cg)))).1.2.1, .int .i64 ((devN (normR cf) (normR cg) (gapD (normR cf) (normR cg)))).1.2.2], .int .i64 ((devN (normR cf) (normR cg) (gapD (normR cf) (normR cg)))).2] ∧ E.Sublist E') := by
 have hnf := norm_nrm hvf
 have hng := norm_nrm hvg
 refine Fn.enter (n := 25) Try.func49 rfl rfl (Nat.le_of_ble_eq_true rfl) rfl ?_
 refine W.seq (W.region _ ?_)
 refine WL.ef rfl rfl qD (Ef.box rfl rfl (fun b2 => ?_))
 refine WL.ef rfl rfl qD (Ef.box rfl rfl (fun b3 => ?_))
 refine WL.ef rfl rfl qD (Ef.alloc tab_ok rfl rfl (fun b4 => ?_))
 refine WG.run tab_ok 1 rfl (WG.nil (WE.nxt (W.seq (W.region _ ?_))))
 refine' WG.y rfl rfl qD (Yl.load1 tab_ok rfl rfl rfl (fun _ => rfl) ?r1 rfl ?h1) ?_
 case r1 => (exact Rd.blk 2 rfl)
 case h1 => rfl
 refine' WG.y rfl rfl qD (Yl.load1 tab_ok rfl rfl rfl (fun _ => rfl) ?r2 rfl ?h2) ?_
 case r2 => (exact Rd.blk 1 rfl)
 case h2 => rfl
 refine WL.call en76 rfl rfl qD (CallOp.mkT rfl rfl rfl rfl) (DBothG_C hvf ha hvg hb w0 _) ?_
 rintro _ R1 _ hR1 ⟨a1, n1, c1, p1, q1, a2, n2, c2, p2, q2, tk, lo, e, rfl, hpair, hsub⟩
 refine WL.subE hsub ?_
 refine WG.run tab_ok 3 rfl ?_
 refine WL.ef rfl rfl qD (Ef.alloc tab_ok rfl rfl (fun b6 => ?_))
 refine WL.efN rfl rfl (Ef.store0 0 tab_ok rfl rfl rfl rfl rfl rfl rfl rfl ?_)
 refine WG.run tab_ok 1 rfl (WG.nil (WE.nxt (W.seq (W.seq (W.region _ (WG.run tab_ok 2 rfl (WG.nil (WE.nxt ?_))))))))
 refine W.condN rfl (fun hc0 => ?_) (fun hc0 => ?_)
 ·try dsimp only at hc0
  obtain ⟨rfl, hl⟩ : e = 3 ∧ 120 < lcmC (normR cf) (normR cg) := by
   rcases hpair with h | h
   ·exact h
   ·exact absurd h.1 hc0
  have hd : (devN (normR cf) (normR cg) (gapD (normR cf) (normR cg))) = ((false, 0, 0), 3) := by unfold devN; rw [if_pos hl]
  refine W.seq (W.region _ ?_)
  -- build
  refine WG.y rfl rfl qD (Yl.build (parts := []) tab_ok rfl rfl rfl rfl (fun _ => rfl) rfl rfl) ?_
  refine WG.run tab_ok 1 rfl ?_
  refine WL.efN rfl rfl (Ef.store0 1 tab_ok rfl rfl rfl rfl rfl rfl rfl rfl ?_)
  refine WG.run tab_ok 1 rfl (WG.nil (WE.nxt (W.ret (WE.then_ret ?_))))
  refine WE.retF tab_ok [_, _] rfl ⟨⟨_, _, _, rfl, rfl, rfl, ((by first | exact Rd.blk 0 rfl | exact Rd.blk 1 rfl | exact Rd.blk 2 rfl | exact Rd.blk 3 rfl | exact Rd.blk 4 rfl | exact Rd.blk 5 rfl)), rfl⟩, rfl, trivial⟩ ((by first | exact hR1.trans (hR2.trans hR3) | exact hR1.trans hR2 | exact hR1)) ?_
  exact ⟨by rw [hd]; rfl, qS⟩
 ·try dsimp only at hc0
  obtain ⟨rfl, hl, rfl, rfl, rfl, rfl, rfl, rfl, hx1, hx2, rfl, rfl⟩ := hpair.resolve_left (fun h => by omega)
  generalize normR cf = m1 at *
  generalize normR cg = m2 at *
  have hv1 := hnf.valid
  have hv2 := hng.valid
  have hs1 := stN_lt hv1
  have hs2 := stN_lt hv2
  refine W.skip (WE.nxt (W.seq (W.seq (W.region _ (WG.run tab_ok 1 rfl ?_)))))
  refine' WG.y rfl rfl qD (Yl.load1 tab_ok rfl rfl rfl (fun _ => rfl) ?r3 rfl ?h3) ?_
  case r3 => apply Rd.add; (exact Rd.blk 0 rfl)
  case h3 => rfl
  refine WG.nil (WE.nxt ?_)
  refine W.cond rfl (fun hc1 => ?_) (fun hc1 => ?_)
  ·try simp only [kk] at hc1
   have hlo : loose m1 m2 := by simpa using hc1
   have hd : devN m1 m2 (gapD m1 m2) = ((true, 0, 0), 0) := by unfold devN; rw [if_neg hl, if_pos hlo]
   refine W.seq (W.region _ ?_)
   -- build
   refine WG.y rfl rfl qD (Yl.build (parts := [(0, .const (.bool true))]) tab_ok rfl rfl rfl rfl (fun _ => rfl) rfl rfl) ?_
   refine WL.efN rfl rfl (Ef.store0 1 tab_ok rfl rfl rfl rfl rfl rfl rfl rfl ?_)
   refine WG.run tab_ok 1 rfl (WG.nil (WE.nxt (W.ret (WE.then_ret ?_))))
   refine WE.retF tab_ok [_, _] rfl ⟨⟨_, _, _, rfl, rfl, rfl, ((by first | exact Rd.blk 0 rfl | exact Rd.blk 1 rfl | exact Rd.blk 2 rfl | exact Rd.blk 3 rfl | exact Rd.blk 4 rfl | exact Rd.blk 5 rfl)), rfl⟩, rfl, trivial⟩ ((by first | exact hR1.trans (hR2.trans hR3) | exact hR1.trans hR2 | exact hR1)) ?_
   exact ⟨by rw [hd]; rfl, qS⟩
  ·try simp only [kk] at hc1
   have hlo : ¬ loose m1 m2 := by simpa using hc1
   have hd : devN m1 m2 (gapD m1 m2) = (greatW (gapD m1 m2) (max (stN m1) (stN m2) + lcmC m1 m2) 0 0 0, 0) := by unfold devN; rw [if_neg hl, if_neg hlo]
   refine W.skip (WE.nxt ?_)
   refine W.freezeBlk 0 rfl ?_
   intro R2 hR2 hb6
   have hF : ∀ t : Nat, t < max (stN m1) (stN m2) + lcmC m1 m2 → FnV Try.prog 78 ((#[] : Array Value).toList ++ [.int .i64 (t : Int)] ++ (#[.pointer (some ⟨b6, 0, none⟩)] : Array Value).toList) R2 (.tuple #[.int .i64 (gapD m1 m2 t).1, .bool (gapD m1 m2 t).2]) := fun t ht => DelayFG_V hv1 (hx1.mono hR2) hv2 (hx2.mono hR2) hb6 (by omega)
   refine W.seq (W.region _ (WG.run tab_ok 1 rfl ?_))
   refine' WG.y rfl rfl qD (Yl.load1 tab_ok rfl rfl rfl (fun _ => rfl) ?r4 rfl ?h4) ?_
   case r4 => apply Rd.add; (exact Rd.ro qU)
   case h4 => rfl
   refine WG.run tab_ok 1 rfl ?_
   refine WG.callV en77 rfl rfl qD (CallOp.mk' rfl rfl rfl rfl) (fun _ => rfl) (fun hg => Greatest_V (f := gapD m1 m2) (n := max (stN m1) (stN m2) + lcmC m1 m2) en78 hF qO) ?_
   refine WL.efN rfl rfl (Ef.store0 0 tab_ok rfl rfl rfl rfl rfl rfl rfl rfl ?_)
   refine WG.run tab_ok 1 rfl (WG.nil (WE.nxt (W.ret ?_)))
   refine WE.retF tab_ok [_, _] rfl ⟨⟨_, _, _, rfl, rfl, rfl, ((by first | exact Rd.blk 0 rfl | exact Rd.blk 1 rfl | exact Rd.blk 2 rfl | exact Rd.blk 3 rfl | exact Rd.blk 4 rfl | exact Rd.blk 5 rfl)), rfl⟩, rfl, trivial⟩ ((by first | exact hR1.trans (hR2.trans hR3) | exact hR1.trans hR2 | exact hR1)) ?_
   exact ⟨by rw [hd]; rfl, qS⟩

end Go.Proofs.Ytnackbfnmhkodaa

/- Reference 10: delays. No condition. -/
set_option maxRecDepth 4000
set_option linter.unusedSimpArgs false
set_option linter.unusedVariables false
namespace Go.Proofs.Ytnackbfnmhkodaa
open Go Go.RowKit Go.Proofs.Ytnackbfnmhkodaa.K Go.Proofs.Ytnackbfnmhkodaa.M

theorem first10 {c : Cv} {v : Int} {S P t0 : Nat} {m : Int} (hfc : FC (cvF c) S P c.inc) (hp : c.per = P) (hI : c.inc ≠ 0) (hlow : ∀ j, j < S + P → cvF c j < v) (h1 : S ≤ t0) (h2 : t0 < S + P) (hm : m = (((t0 : Nat) : Int) + ((v - cvF c t0 - 1) / c.inc + 1) * c.per)) (hmin : ∀ t : Nat, S ≤ t → t < S + P → m ≤ (((t : Nat) : Int) + ((v - cvF c t - 1) / c.inc + 1) * c.per)) : IsFirst (cvF c) v (m, true) := by
 have hP := hfc.hP
 have hI0 := hfc.hI
 have hIp : 0 < c.inc := by omega
 have key : ∀ t : Nat, t < S + P → 0 ≤ (v - cvF c t - 1) / c.inc ∧ ((v - cvF c t - 1) / c.inc) * c.inc ≤ v - cvF c t - 1 ∧ v - cvF c t - 1 < ((v - cvF c t - 1) / c.inc + 1) * c.inc := fun t ht => by
  have := hlow t ht
  refine ⟨Int.ediv_nonneg qO qO, Int.ediv_mul_le _ qO, ?_⟩
  exact Int.lt_ediv_add_one_mul_self _ hIp
 obtain ⟨k1, k2, k3⟩ := key t0 h2
 obtain ⟨k, hk⟩ := Int.eq_ofNat_of_zero_le k1
 rw [hk] at k2 k3
 have hmn : m = ((t0 + (k + 1) * P : Nat) : Int) := by
  rw [hm, hk, hp, Int.natCast_add, Int.natCast_mul]; rfl
 refine ⟨fun _ => ⟨t0 + (k + 1) * P, hmn, ?_, fun j hj => ?_⟩, fun h => by cases h⟩
 ·have := hfc.hg.mul (k + 1) t0 h1
  have e : ((k + 1 : Nat) : Int) = (k : Int) + 1 := rfl
  rw [e] at this
  omega
 ·by_cases hj2 : j < S + P
  ·exact hlow j hj2
  ·apply Classical.byContradiction
   intro hge
   have hd := Nat.mod_add_div (j - S) P
   have hml := Nat.mod_lt (j - S) (show 0 < P by omega)
   have hq : 1 ≤ (j - S) / P := (Nat.le_div_iff_mul_le (by omega)).2 (by omega)
   rw [Nat.mul_comm] at hd
   generalize hr : (j - S) % P = r at hd hml
   generalize (j - S) / P = q at hd hq
   have hjs : j = S + r + q * P := by omega
   have g := hfc.hg.mul q (S + r) (by omega)
   rw [← hjs] at g
   obtain ⟨s1, s2, s3⟩ := key (S + r) (by omega)
   have hmi := hmin (S + r) (by omega) (by omega)
   obtain ⟨k', hk'⟩ := Int.eq_ofNat_of_zero_le s1
   rw [hk'] at s2 s3 hmi
   have hlt : (k' : Int) < (q : Int) := by
    apply Classical.byContradiction
    intro hn
    have := Int.mul_le_mul_of_nonneg_right (show (q : Int) ≤ (k' : Int) by omega) (show 0 ≤ c.inc by omega)
    omega
   have h5 : (k' + 1) * P ≤ q * P := Nat.mul_le_mul_right P (by omega)
   have h6 : m ≤ ((S + r + (k' + 1) * P : Nat) : Int) := by
    have e : ((S + r + (k' + 1) * P : Nat) : Int) = ((S + r : Nat) : Int) + ((k' : Int) + 1) * c.per := by
     rw [hp, Int.natCast_add, Int.natCast_mul]; rfl
    rw [e]; exact hmi
   omega

set_option maxHeartbeats 1000000 in
theorem First10_V {R : Ro} {fa : Option Addr} {fc : Nat} {c : Cv} (hv : validB c = true) (ha : RS R 1 encI fa c.vals) {v : Int} (hvv : v = 4611686018427387904 ∨ (0 ≤ v ∧ v ≤ 1000000000000000)) : FnV Try.prog 82 [.agg #[.slice fa c.vals.length fc, .int .i64 c.per, .int .i64 c.inc], .int .i64 v] R (.tuple #[.int .i64 (reachG c v).1, .bool (reachG c v).2]) := by
 refine Fn.toV (fun w0 E => ?_)
 obtain ⟨hr1, hr2, hr3, hr4, hr5, hr6, hr7, hr8⟩ := valid_range hv
 refine Fn.enter (n := 73) Try.func82 rfl rfl (Nat.le_of_ble_eq_true rfl) rfl ?_
 refine W.seq (W.region _ ?_)
 refine WL.ef rfl rfl qD (Ef.box rfl rfl (fun b2 => ?_))
 refine WG.run tab_ok 2 rfl (WG.nil (WE.nxt (W.seq (W.seq (W.region _ (WG.run tab_ok 1 rfl (WG.nil (WE.nxt (W.block ?_)))))))))
 refine W.loopK (β := Nat) (fun t => t ≤ c.vals.length ∧ ∀ j, j < t → cvF c j < v) (fun t => [(6, true, .int .i64 (t : Int))]) [1, 2] [_, _] [] _ rfl (fun t => []) (fun t => c.vals.length - t) (0) (⟨Nat.zero_le _, fun j hj => by omega⟩) ⟨rfl, rfl, rfl, rfl⟩ qS ?_
 intro t hst
 dsimp only [zipE, setAll, List.cons_append, List.nil_append, List.set_cons_zero, List.set_cons_succ] at hst ⊢
 obtain ⟨ht, hno⟩ := hst
 refine W.seq (W.seq (W.region _ (WG.run tab_ok 2 rfl ?_)))
 refine' WG.y rfl rfl qD (Yl.load1 tab_ok rfl rfl rfl (fun _ => rfl) ?r1 rfl ?h1) ?_
 case r1 => apply Rd.add; (exact Rd.blk 0 rfl)
 case h1 => rfl
 refine WG.run tab_ok 2 rfl (WG.nil (WE.nxt ?_))
 refine W.condD rfl (fun hc0 => ?_) (fun hc0 => ?_)
 ·try dsimp only at hc0
  have htl : t < c.vals.length := by omega
  have hft := cvF_low htl
  refine W.skip (WE.nxt (W.seq (W.block (W.seq (W.region _ (WG.run tab_ok 1 rfl ?_))))))
  refine' WG.y rfl rfl qD (Yl.load1 tab_ok rfl rfl rfl (fun _ => rfl) ?r2 rfl ?h2) ?_
  case r2 => apply Rd.add; (exact Rd.blk 0 rfl)
  case h2 => rfl
  refine WG.run tab_ok 1 rfl ?_
  refine WG.y rfl rfl (by decide) (Yl.indexN tab_ok rfl rfl rfl rfl rfl rfl (fun _ => rfl) (by intro _; (try dsimp only) <;> omega) (by intro _; first | exact fun _ _ _ _ => rfl | exact RS.has (by assumption) | exact fun _ _ _ _ => (by assumption) | exact HasMem.ownD 0 rfl | exact HasMem.ownD 1 rfl)) ?_
  refine' WG.y rfl rfl qD (Yl.load1 tab_ok rfl rfl rfl (fun _ => rfl) ?r3 rfl ?h3) ?_
  case r3 => ((apply RS.rdD; assumption; ((try dsimp only) <;> omega)))
  case h3 => rfl
  refine WG.run tab_ok 2 rfl (WG.nil (WE.nxt ?_))
  refine W.condD rfl (fun hc1 => ?_) (fun hc1 => ?_)
  ·try dsimp only at hc1
   have hff : findFrom (fun t => decide (cvF c t ≥ v)) c.vals.length 0 = t := findFrom_some (Nat.zero_le _) (by omega) (decide_eq_true (by rw [hft]; exact hc1)) (fun j _ hj => decide_eq_false (by have := hno j hj; omega))
   have hr : reachG c v = ((t : Int), true) := by unfold reachG; rw [hff, if_pos (by omega)]
   refine W.seq (W.region _ (WG.run tab_ok 3 rfl (WG.nil (WE.nxt (W.ret (WE.blk_ret (WE.then_ret (WE.then_ret (WE.blk_ret (WE.then_ret ?_))))))))))
   refine WE.subE (E' := E) qS ?_
   refine WE.retF tab_ok [_, _] rfl ⟨rfl, rfl, trivial⟩ (RLe.refl _) ?_
   exact ⟨by rw [hr]; rfl, rfl⟩
  ·try dsimp only at hc1
   refine W.skip (WE.blk _ (WE.nxt (W.region _ (WG.run tab_ok 1 rfl ?_))))
   refine WG.y rfl rfl (by decide) (Yl.add rfl rfl rfl (fun _ => rfl) (by intro _; constructor <;> (try dsimp only) <;> omega)) ?_
   refine WG.run tab_ok 1 rfl (WG.nil ?_)
   refine WE.again (t + 1) (⟨by omega, fun j hj => by
    by_cases e : j = t
    ·subst e; rw [hft]; omega
    ·exact hno j (by omega)⟩) (by (try dsimp only); omega) ⟨rfl, rfl, rfl, rfl⟩ (RLe.refl _) qS
 ·try dsimp only at hc0
  obtain rfl : t = c.vals.length := by omega
  have hff : findFrom (fun t => decide (cvF c t ≥ v)) c.vals.length 0 = -1 := findFrom_none (fun j _ hj => decide_eq_false (by have := hno j (by omega); omega))
  refine W.exit ?_
  refine WE.then_exit (WE.then_exit (WE.blk_exit (WE.nxt (W.seq (W.seq (W.region _ (WG.run tab_ok 1 rfl ?_)))))))
  refine' WG.y rfl rfl qD (Yl.load1 tab_ok rfl rfl rfl (fun _ => rfl) ?r4 rfl ?h4) ?_
  case r4 => apply Rd.add; (exact Rd.blk 0 rfl)
  case h4 => rfl
  refine WG.run tab_ok 2 rfl ?_
  refine WG.y rfl rfl qD (pureV_ok tab_ok rfl qE) ?_
  refine WG.y rfl rfl qD (pureV_ok tab_ok rfl qE) ?_
  refine WG.y rfl rfl (by decide) (Yl.por rfl rfl rfl (fun _ => rfl) (by intro h1 h2; simp_all <;> omega)) ?_
  refine WG.nil (WE.nxt ?_)
  refine W.cond rfl (fun hc2 => ?_) (fun hc2 => ?_)
  ·try simp only [kk] at hc2
   have hr : reachG c v = (0, false) := by unfold reachG; rw [hff, if_neg (fun hh => hh rfl), if_pos (by unfold INF; omega)]
   refine W.seq (W.region _ (WG.run tab_ok 2 rfl (WG.nil (WE.nxt (W.ret (WE.then_ret ?_))))))
   refine WE.subE (E' := E) qS ?_
   refine WE.retF tab_ok [_, _] rfl ⟨rfl, rfl, trivial⟩ (RLe.refl _) ?_
   exact ⟨by rw [hr]; rfl, rfl⟩
  ·try simp only [kk] at hc2
   obtain ⟨hI0, hvI⟩ : c.inc ≠ 0 ∧ v ≠ 4611686018427387904 := by constructor <;> intro h <;> simp_all
   obtain ⟨S, P, hlen, hper, hfc, hfb⟩ : ∃ S P : Nat, c.vals.length = S + P ∧ c.per = P ∧ FC (cvF c) S P c.inc ∧ finB c = true := by
    rcases valid_cases hv with ⟨S, P, _, h1, h2, h3, h4⟩ | ⟨_, _, _, _, h, _, _, _⟩
    ·exact ⟨S, P, h1, h2, h3, h4⟩
    ·exact absurd h hI0
   have hI1 := hfc.hI
   have hSv : (c.vals.length : Int) - c.per = (S : Int) := by omega
   refine W.skip (WE.nxt (W.seq (W.region _ (WG.run tab_ok 1 rfl (WG.nil (WE.nxt (W.seq (W.seq (W.region _ (WG.run tab_ok 1 rfl ?_))))))))))
   refine' WG.y rfl rfl qD (Yl.load1 tab_ok rfl rfl rfl (fun _ => rfl) ?r5 rfl ?h5) ?_
   case r5 => apply Rd.add; (exact Rd.blk 0 rfl)
   case h5 => rfl
   refine WG.run tab_ok 2 rfl ?_
   refine' WG.y rfl rfl qD (Yl.load1 tab_ok rfl rfl rfl (fun _ => rfl) ?r6 rfl ?h6) ?_
   case r6 => apply Rd.add; (exact Rd.blk 0 rfl)
   case h6 => rfl
   refine WG.y rfl rfl (by decide) (Yl.sub rfl rfl rfl (fun _ => rfl) (by intro _; constructor <;> (try dsimp only) <;> omega)) ?_
   rw [hSv]
   refine WG.run tab_ok 1 rfl (WG.nil (WE.nxt (W.block ?_)))
   refine W.loopK (β := Nat × Int) (fun (t, m) => t ≤ c.vals.length ∧ S ≤ t ∧ ((t = S ∧ m = -1) ∨ (0 ≤ m ∧ (∃ t0 : Nat, S ≤ t0 ∧ t0 < t ∧ m = (((t0 : Nat) : Int) + ((v - cvF c t0 - 1) / c.inc + 1) * c.per)) ∧ ∀ j : Nat, S ≤ j → j < t → m ≤ (((j : Nat) : Int) + ((v - cvF c j - 1) / c.inc + 1) * c.per)))) (fun (t, m) => [(7, true, .int .i64 m), (8, true, .int .i64 (t : Int))]) [1, 2] [_, _] [] _ rfl (fun (t, m) => []) (fun (t, m) => c.vals.length - t) ((S, -1)) (⟨by (try dsimp only); omega, Nat.le_refl _, .inl ⟨rfl, rfl⟩⟩) ⟨rfl, rfl, rfl, rfl, rfl⟩ qS ?_
   intro zz hst
   obtain ⟨t, m⟩ := zz
   dsimp only [zipE, setAll, List.cons_append, List.nil_append, List.set_cons_zero, List.set_cons_succ] at hst ⊢
   obtain ⟨ht, hts, hm⟩ := hst
   refine W.seq (W.seq (W.region _ (WG.run tab_ok 2 rfl ?_)))
   refine' WG.y rfl rfl qD (Yl.load1 tab_ok rfl rfl rfl (fun _ => rfl) ?r7 rfl ?h7) ?_
   case r7 => apply Rd.add; (exact Rd.blk 0 rfl)
   case h7 => rfl
   refine WG.run tab_ok 2 rfl (WG.nil (WE.nxt ?_))
   refine W.condD rfl (fun hc3 => ?_) (fun hc3 => ?_)
   ·try dsimp only at hc3
    have htl : t < c.vals.length := by omega
    have hft := cvF_low htl
    have hlt := hno t htl
    have hcb := hfc.nonneg t
    have hk0 : 0 ≤ (v - cvF c t - 1) / c.inc := Int.ediv_nonneg (by omega) (by omega)
    have hk1 : (v - cvF c t - 1) / c.inc ≤ v - cvF c t - 1 := Int.ediv_le_self _ (by omega)
    have hkm := mulB (a := (v - cvF c t - 1) / c.inc + 1) (b := c.per) (A := 1000000000000001) (B := 120) (by omega) (by omega)
    rw [hft] at hk0 hk1 hkm
    refine W.skip (WE.nxt (W.seq (W.block (W.seq ?_))))
    refine W.regionQ _ mixed qK ?_
    refine WG.run tab_ok 2 rfl ?_
    refine' WG.y rfl rfl qD (Yl.load1 tab_ok rfl rfl rfl (fun _ => rfl) ?r8 rfl ?h8) ?_
    case r8 => apply Rd.add; (exact Rd.blk 0 rfl)
    case h8 => rfl
    refine WG.run tab_ok 1 rfl ?_
    refine WG.y rfl rfl (by decide) (Yl.indexN tab_ok rfl rfl rfl rfl rfl rfl (fun _ => rfl) (by intro _; (try dsimp only) <;> omega) (by intro _; first | exact fun _ _ _ _ => rfl | exact RS.has (by assumption) | exact fun _ _ _ _ => (by assumption) | exact HasMem.ownD 0 rfl | exact HasMem.ownD 1 rfl)) ?_
    refine' WG.y rfl rfl qD (Yl.load1 tab_ok rfl rfl rfl (fun _ => rfl) ?r9 rfl ?h9) ?_
    case r9 => ((apply RS.rdD; assumption; ((try dsimp only) <;> omega)))
    case h9 => rfl
    refine WG.y rfl rfl (by decide) (Yl.sub rfl rfl rfl (fun _ => rfl) (by intro _; constructor <;> (try dsimp only) <;> omega)) ?_
    refine WG.y rfl rfl (by decide) (Yl.sub rfl rfl rfl (fun _ => rfl) (by intro _; constructor <;> (try dsimp only) <;> omega)) ?_
    refine WG.run tab_ok 1 rfl ?_
    refine' WG.y rfl rfl qD (Yl.load1 tab_ok rfl rfl rfl (fun _ => rfl) ?r10 rfl ?h10) ?_
    case r10 => apply Rd.add; (exact Rd.blk 0 rfl)
    case h10 => rfl
    refine WG.y rfl rfl (by decide) (Yl.quo rfl rfl rfl (fun _ => rfl) (by intro _; constructor <;> (try dsimp only) <;> omega) (by intro _; omega)) ?_
    refine WG.run tab_ok 1 rfl (WG.nil (WE.nxt (W.seq (W.region _ (WG.run tab_ok 2 rfl ?_)))))
    refine WG.y rfl rfl (by decide) (Yl.add rfl rfl rfl (fun _ => rfl) (by intro _; constructor <;> (try dsimp only) <;> omega)) ?_
    refine WG.run tab_ok 1 rfl ?_
    refine' WG.y rfl rfl qD (Yl.load1 tab_ok rfl rfl rfl (fun _ => rfl) ?r11 rfl ?h11) ?_
    case r11 => apply Rd.add; (exact Rd.blk 0 rfl)
    case h11 => rfl
    refine WG.y rfl rfl (by decide) (Yl.mul rfl rfl rfl (fun _ => rfl) (by intro _; constructor <;> (try dsimp only) <;> omega)) ?_
    refine WG.y rfl rfl (by decide) (Yl.add rfl rfl rfl (fun _ => rfl) (by intro _; constructor <;> (try dsimp only) <;> omega)) ?_
    refine WG.run tab_ok 1 rfl (WG.nil (WE.nxt (W.seq (W.region _ (WG.run tab_ok 3 rfl ?_)))))
    refine WG.y rfl rfl qD (pureV_ok tab_ok rfl qE) ?_
    refine WG.y rfl rfl qD (pureV_ok tab_ok rfl qE) ?_
    refine WG.y rfl rfl qD (pureV_ok tab_ok rfl qE) ?_
    refine WG.y rfl rfl (by decide) (Yl.por rfl rfl rfl (fun _ => rfl) (by intro h1 h2; simp_all <;> omega)) ?_
    refine WG.nil (WE.nxt ?_)
    refine W.cond rfl (fun hc4 => ?_) (fun hc4 => ?_)
    ·try simp only [kk] at hc4
     refine W.region _ (WG.run tab_ok 2 rfl (WG.nil (WE.blk _ (WE.nxt (W.region _ (WG.run tab_ok 1 rfl ?_))))))
     refine WG.y rfl rfl (by decide) (Yl.add rfl rfl rfl (fun _ => rfl) (by intro _; constructor <;> (try dsimp only) <;> omega)) ?_
     refine WG.run tab_ok 1 rfl (WG.nil ?_)
     refine WE.again ((t + 1, (((t : Nat) : Int) + ((v - nth c.vals t - 1) / c.inc + 1) * c.per))) (⟨by (try dsimp only); omega, by (try dsimp only); omega, .inr ⟨by (try dsimp only); omega, ⟨t, hts, by (try dsimp only); omega, by (try dsimp only); rw [hft]⟩, fun j a b => by
      (try dsimp only at b ⊢)
      by_cases e : j = t
      ·subst e; rw [hft]; exact Int.le_refl _
      ·rcases hm with ⟨h1, _⟩ | ⟨h0, _, h4⟩
       ·omega
       ·have := h4 j a (by omega)
        rcases hc4 with h | h <;> omega⟩⟩) (by (try dsimp only); omega) ⟨rfl, rfl, rfl, rfl, rfl⟩ (RLe.refl _) qS
    ·try simp only [kk] at hc4
     refine W.skip (WE.blk _ (WE.nxt (W.region _ (WG.run tab_ok 1 rfl ?_))))
     refine WG.y rfl rfl (by decide) (Yl.add rfl rfl rfl (fun _ => rfl) (by intro _; constructor <;> (try dsimp only) <;> omega)) ?_
     refine WG.run tab_ok 1 rfl (WG.nil ?_)
     refine WE.again ((t + 1, m)) (⟨by (try dsimp only); omega, by (try dsimp only); omega, .inr (by
      rcases hm with ⟨_, h1⟩ | ⟨h0, ⟨t0, h1, h2, h3⟩, h4⟩
      ·omega
      ·refine ⟨h0, ⟨t0, h1, by (try dsimp only); omega, h3⟩, fun j a b => ?_⟩
       (try dsimp only at b ⊢)
       by_cases e : j = t
       ·subst e; rw [hft]; omega
       ·exact h4 j a (by omega))⟩) (by (try dsimp only); omega) ⟨rfl, rfl, rfl, rfl, rfl⟩ (RLe.refl _) qS
   ·try dsimp only at hc3
    obtain rfl : t = c.vals.length := by omega
    have hfi : IsFirst (cvF c) v (m, true) := by
     rcases hm with ⟨h1, _⟩ | ⟨_, ⟨t0, h1, h2, h3⟩, h4⟩
     ·have := hfc.hP; omega
     ·exact first10 hfc hper hI0 (fun j hj => hno j (by omega)) h1 (by omega) h3 (fun t a b => h4 t a (by omega))
    have hr : reachG c v = (m, true) := (reachG_fin hv hfb hvI).eq hfi
    refine W.exit ?_
    refine WE.then_exit (WE.then_exit (WE.blk_exit (WE.nxt (W.seq (W.region _ (WG.run tab_ok 3 rfl (WG.nil (WE.nxt (W.ret ?_)))))))))
    refine WE.subE (E' := E) qS ?_
    refine WE.retF tab_ok [_, _] rfl ⟨rfl, rfl, trivial⟩ (RLe.refl _) ?_
    exact ⟨by rw [hr]; rfl, rfl⟩

theorem Grows10_V {R : Ro} {a1 : Option Addr} {c1 : Nat} {m1 : Cv} (hv1 : validB m1 = true) (hx1 : RS R 1 encI a1 m1.vals) {a2 : Option Addr} {c2 : Nat} {m2 : Cv} (hv2 : validB m2 = true) (hx2 : RS R 1 encI a2 m2.vals) {L : Nat} (hL : L ≤ 10000) : FnV Try.prog 80 [.agg #[.slice a1 m1.vals.length c1, .int .i64 m1.per, .int .i64 m1.inc], .agg #[.slice a2 m2.vals.length c2, .int .i64 m2.per, .int .i64 m2.inc], .int .i64 (L : Int)] R (.bool (decide (gainC m1 L - gainC m2 L > 0))) := by
 refine Fn.toV (fun w0 E => ?_)
 refine Fn.enter (n := 12) Try.func80 rfl rfl (Nat.le_of_ble_eq_true rfl) rfl ?_
 refine W.seq (W.region _ ?_)
 refine WL.ef rfl rfl qD (Ef.box rfl rfl (fun b3 => ?_))
 refine WL.ef rfl rfl qD (Ef.box rfl rfl (fun b4 => ?_))
 refine WG.run tab_ok 1 rfl (WG.nil (WE.nxt (W.seq (W.region _ ?_))))
 refine' WG.y rfl rfl qD (Yl.load1 tab_ok rfl rfl rfl (fun _ => rfl) ?r1 rfl ?h1) ?_
 case r1 => (exact Rd.blk 1 rfl)
 case h1 => rfl
 refine' WG.y rfl rfl qD (Yl.load1 tab_ok rfl rfl rfl (fun _ => rfl) ?r2 rfl ?h2) ?_
 case r2 => (exact Rd.blk 0 rfl)
 case h2 => rfl
 refine WG.run tab_ok 1 rfl ?_
 refine WG.callV (v := .int .i64 (gainC m1 L - gainC m2 L)) en44 rfl rfl qD (CallOp.mk' rfl rfl rfl rfl) (fun _ => rfl) (fun hg => Slopes05_V hv1 hx1 hv2 hx2 hL) ?_
 refine WG.run tab_ok 2 rfl (WG.nil (WE.nxt (W.ret ?_)))
 refine WE.subE (E' := E) qS ?_
 refine WE.retF tab_ok [_] rfl ⟨rfl, trivial⟩ (RLe.refl _) ?_
 exact ⟨rfl, rfl⟩

theorem Window10_V {R : Ro} {a1 : Option Addr} {c1 : Nat} {m1 : Cv} (hv1 : validB m1 = true) (hx1 : RS R 1 encI a1 m1.vals) {a2 : Option Addr} {c2 : Nat} {m2 : Cv} (hv2 : validB m2 = true) (hx2 : RS R 1 encI a2 m2.vals) {L : Nat} (hL : L ≤ 10000) : FnV Try.prog 81 [.agg #[.slice a1 m1.vals.length c1, .int .i64 m1.per, .int .i64 m1.inc], .agg #[.slice a2 m2.vals.length c2, .int .i64 m2.per, .int .i64 m2.inc], .int .i64 (L : Int)] R (.int .i64 ((max m1.vals.length m2.vals.length + L : Nat) : Int)) := by
 refine Fn.toV (fun w0 E => ?_)
 obtain ⟨_, _, p1, _⟩ := valid_range hv1
 obtain ⟨_, _, q1, _⟩ := valid_range hv2
 have hr : (if (m1.vals.length : Int) < (m2.vals.length : Int) then (m2.vals.length : Int) else (m1.vals.length : Int)) + (L : Int) = ((max m1.vals.length m2.vals.length + L : Nat) : Int) := by split <;> omega
 refine Fn.enter (n := 16) Try.func81 rfl rfl (Nat.le_of_ble_eq_true rfl) rfl ?_
 refine W.seq (W.region _ ?_)
 refine WL.ef rfl rfl qD (Ef.box rfl rfl (fun b3 => ?_))
 refine WL.ef rfl rfl qD (Ef.box rfl rfl (fun b4 => ?_))
 refine WG.run tab_ok 1 rfl (WG.nil (WE.nxt (W.seq (W.region _ (WG.run tab_ok 1 rfl ?_)))))
 refine' WG.y rfl rfl qD (Yl.load1 tab_ok rfl rfl rfl (fun _ => rfl) ?r1 rfl ?h1) ?_
 case r1 => apply Rd.add; (exact Rd.blk 1 rfl)
 case h1 => rfl
 refine WG.run tab_ok 2 rfl ?_
 refine' WG.y rfl rfl qD (Yl.load1 tab_ok rfl rfl rfl (fun _ => rfl) ?r2 rfl ?h2) ?_
 case r2 => apply Rd.add; (exact Rd.blk 0 rfl)
 case h2 => rfl
 refine WG.run tab_ok 3 rfl ?_
 refine WG.y rfl rfl (by decide) (Yl.add rfl rfl rfl (fun _ => rfl) (by intro _; constructor <;> (try dsimp only) <;> omega)) ?_
 refine WG.run tab_ok 1 rfl (WG.nil (WE.nxt (W.ret ?_)))
 refine WE.subE (E' := E) qS ?_
 refine WE.retF tab_ok [_] rfl ⟨rfl, trivial⟩ (RLe.refl _) ?_
 exact ⟨by rw [← hr]; rfl, rfl⟩

set_option maxHeartbeats 2000000 in
theorem Delay10_C {R : Ro} {fa : Option Addr} {fc : Nat} {cf : Cv} (hvf : validB cf = true) (ha : RS R 1 encI fa cf.vals) (hcap : cf.vals.length ≤ fc) {ga : Option Addr} {gc : Nat} {cg : Cv} (hvg : validB cg = true) (hb : RS R 1 encI ga cg.vals) (hcapd : cg.vals.length ≤ gc) (w0 : World) (E : List Ent) : K.Fn Try.prog 51 [.agg #[.slice fa cf.vals.length fc, .int .i64 cf.per, .int .i64 cf.inc], .agg #[.slice ga cg.vals.length gc, .int .i64 cg.per, .int .i64 cg.inc]] w0 R E (fun v R' E' => v = .tuple #[.agg #[.bool ((devQ (normR cf) (normR cg) (gapD (normR cf) (normR cg)))).1.1, .int .i64 ((devQ (normR cf) (normR cg) (gapD (normR cf) (normR cg)))).1.2.1, .int .i64 ((devQ (normR cf) (normR cg) (gapD (normR cf) (normR cg)))).1.2.2], .int .i64 ((devQ (normR cf) (normR cg) (gapD (normR cf) (normR cg)))).2] ∧ E.Sublist E') := by
 have hnf := norm_nrm hvf
 have hng := norm_nrm hvg
 refine Fn.enter (n := 72) Try.func51 rfl rfl (Nat.le_of_ble_eq_true rfl) rfl ?_
 refine W.seq (W.region _ ?_)
 refine WL.ef rfl rfl qD (Ef.box rfl rfl (fun b2 => ?_))
 refine WL.ef rfl rfl qD (Ef.box rfl rfl (fun b3 => ?_))
 refine WL.ef rfl rfl qD (Ef.alloc tab_ok rfl rfl (fun b4 => ?_))
 refine WG.run tab_ok 1 rfl (WG.nil (WE.nxt (W.seq (W.region _ ?_))))
 refine' WG.y rfl rfl qD (Yl.load1 tab_ok rfl rfl rfl (fun _ => rfl) ?r1 rfl ?h1) ?_
 case r1 => (exact Rd.blk 2 rfl)
 case h1 => rfl
 refine' WG.y rfl rfl qD (Yl.load1 tab_ok rfl rfl rfl (fun _ => rfl) ?r2 rfl ?h2) ?_
 case r2 => (exact Rd.blk 1 rfl)
 case h2 => rfl
 refine WL.call en42 rfl rfl qD (CallOp.mkT rfl rfl rfl rfl) (Pair05_C hvf ha hcap hvg hb hcapd w0 _) ?_
 rintro _ R1 _ hR1 ⟨fa1x, ca1x, fa2x, ca2x, rfl, ha1x, ha2x, hsub1⟩
 refine WL.subE hsub1 ?_
 generalize normR cf = m1 at *
 generalize normR cg = m2 at *
 have hv1 := hnf.valid
 have hv2 := hng.valid
 have hlp := lcm_pos hv1 hv2
 have hs1 := stN_lt hv1
 have hs2 := stN_lt hv2
 have hlle := lcmC_le hv1 hv2
 refine WG.run tab_ok 5 rfl ?_
 refine WL.ef rfl rfl qD (Ef.alloc tab_ok rfl rfl (fun b6 => ?_))
 refine WL.ef rfl rfl qD (Ef.alloc tab_ok rfl rfl (fun b7 => ?_))
 refine WL.efN rfl rfl (Ef.store0 1 tab_ok rfl rfl rfl rfl rfl rfl rfl rfl ?_)
 refine WL.efN rfl rfl (Ef.store0 0 tab_ok rfl rfl rfl rfl rfl rfl rfl rfl ?_)
 refine WG.run tab_ok 2 rfl (WG.nil (WE.nxt (W.seq (W.seq (W.region _ (WG.run tab_ok 2 rfl (WG.nil (WE.nxt ?_))))))))
 refine W.condN rfl (fun hc0 => ?_) (fun hc0 => ?_)
 ·try dsimp only at hc0
  have hl1 : 120 < lcmC m1 m2 := by
   apply Classical.byContradiction
   intro h
   rw [if_neg h] at hc0
   exact hc0 rfl
  rw [if_pos hl1]
  have hd : devQ m1 m2 (gapD m1 m2) = ((false, 0, 0), 3) := by unfold devQ; rw [if_pos hl1]
  refine W.seq (W.region _ ?_)
  -- build
  refine WG.y rfl rfl qD (Yl.build (parts := []) tab_ok rfl rfl rfl rfl (fun _ => rfl) rfl rfl) ?_
  refine WG.run tab_ok 1 rfl ?_
  refine WL.efN rfl rfl (Ef.store0 2 tab_ok rfl rfl rfl rfl rfl rfl rfl rfl ?_)
  refine WG.run tab_ok 1 rfl (WG.nil (WE.nxt (W.ret (WE.then_ret ?_))))
  refine WE.retF tab_ok [_, _] rfl ⟨⟨_, _, _, rfl, rfl, rfl, ((by first | exact Rd.blk 0 rfl | exact Rd.blk 1 rfl | exact Rd.blk 2 rfl | exact Rd.blk 3 rfl | exact Rd.blk 4 rfl | exact Rd.blk 5 rfl | exact Rd.blk 6 rfl)), rfl⟩, rfl, trivial⟩ (hR1) ?_
  exact ⟨by rw [hd]; rfl, qS⟩
 ·try dsimp only at hc0
  have hl1 : ¬ 120 < lcmC m1 m2 := fun h => by rw [if_pos h] at hc0; exact absurd hc0 (by decide)
  rw [if_neg hl1, if_neg hl1]
  refine W.skip (WE.nxt (W.seq (W.seq (W.region _ ?_))))
  refine' WG.y rfl rfl qD (Yl.load1 tab_ok rfl rfl rfl (fun _ => rfl) ?r3 rfl ?h3) ?_
  case r3 => (exact Rd.blk 1 rfl)
  case h3 => rfl
  refine WG.callV en43 rfl rfl qD (CallOp.mk' rfl rfl rfl rfl) (fun _ => rfl) (fun hg => FiniteG_V hv1 ha1x) ?_
  refine WG.run tab_ok 1 rfl ?_
  refine' WG.y rfl rfl (by decide) (Yl.loadG tab_ok rfl rfl rfl (by first | exact fun _ => rfl | exact fun h => h | (intro h; simp_all; done) | ((try generalize decide (driftG m1 m2 < 0) = k1); (try generalize (driftG m1 m2 == 0) = k2); (try generalize decide (gainC m1 (lcmC m1 m2) - gainC m2 (lcmC m1 m2) > 0) = k5); (try generalize finB m1 = k3); (try generalize finB m2 = k4); (try revert k1); (try revert k2); (try revert k3); (try revert k4); (try revert k5); decide)) ?r4 rfl ?h4 ?g4) ?_
  case r4 => (exact Rd.blkC 0 rfl)
  case h4 => rfl
  case g4 => exact fun _ => trivial
  refine WG.callV en43 rfl rfl (by decide) (CallOp.mk' rfl rfl rfl rfl) (by first | exact fun _ => rfl | exact fun h => h | (intro h; simp_all; done) | ((try generalize decide (driftG m1 m2 < 0) = k1); (try generalize (driftG m1 m2 == 0) = k2); (try generalize decide (gainC m1 (lcmC m1 m2) - gainC m2 (lcmC m1 m2) > 0) = k5); (try generalize finB m1 = k3); (try generalize finB m2 = k4); (try revert k1); (try revert k2); (try revert k3); (try revert k4); (try revert k5); decide)) (fun hg => FiniteG_V hv2 ha2x) ?_
  refine WG.y rfl rfl (by decide) (Yl.pand rfl rfl rfl (fun _ => rfl) (by first | exact fun _ _ => rfl | ((try generalize decide (driftG m1 m2 < 0) = k1); (try generalize (driftG m1 m2 == 0) = k2); (try generalize decide (gainC m1 (lcmC m1 m2) - gainC m2 (lcmC m1 m2) > 0) = k5); (try generalize finB m1 = k3); (try generalize finB m2 = k4); (try revert k1); (try revert k2); (try revert k3); (try revert k4); (try revert k5); decide) | (intro h1 h2; simp_all <;> omega))) ?_
  refine WG.run tab_ok 1 rfl ?_
  refine' WG.y rfl rfl (by decide) (Yl.loadG tab_ok rfl rfl rfl (by first | exact fun _ => rfl | exact fun h => h | (intro h; simp_all; done) | ((try generalize decide (driftG m1 m2 < 0) = k1); (try generalize (driftG m1 m2 == 0) = k2); (try generalize decide (gainC m1 (lcmC m1 m2) - gainC m2 (lcmC m1 m2) > 0) = k5); (try generalize finB m1 = k3); (try generalize finB m2 = k4); (try revert k1); (try revert k2); (try revert k3); (try revert k4); (try revert k5); decide)) ?r5 rfl ?h5 ?g5) ?_
  case r5 => (exact Rd.blkC 1 rfl)
  case h5 => rfl
  case g5 => exact fun _ => trivial
  refine' WG.y rfl rfl (by decide) (Yl.loadG tab_ok rfl rfl rfl (by first | exact fun _ => rfl | exact fun h => h | (intro h; simp_all; done) | ((try generalize decide (driftG m1 m2 < 0) = k1); (try generalize (driftG m1 m2 == 0) = k2); (try generalize decide (gainC m1 (lcmC m1 m2) - gainC m2 (lcmC m1 m2) > 0) = k5); (try generalize finB m1 = k3); (try generalize finB m2 = k4); (try revert k1); (try revert k2); (try revert k3); (try revert k4); (try revert k5); decide)) ?r6 rfl ?h6 ?g6) ?_
  case r6 => (exact Rd.blkC 0 rfl)
  case h6 => rfl
  case g6 => exact fun _ => trivial
  refine WG.y rfl rfl (by decide) (pureV_ok tab_ok rfl (by first | exact fun _ => rfl | exact fun h => h | (intro h; simp_all; done) | ((try generalize decide (driftG m1 m2 < 0) = k1); (try generalize (driftG m1 m2 == 0) = k2); (try generalize decide (gainC m1 (lcmC m1 m2) - gainC m2 (lcmC m1 m2) > 0) = k5); (try generalize finB m1 = k3); (try generalize finB m2 = k4); (try revert k1); (try revert k2); (try revert k3); (try revert k4); (try revert k5); decide))) ?_
  refine WG.callV en80 rfl rfl (by decide) (CallOp.mk' rfl rfl rfl rfl) (by first | exact fun _ => rfl | exact fun h => h | (intro h; simp_all; done) | ((try generalize decide (driftG m1 m2 < 0) = k1); (try generalize (driftG m1 m2 == 0) = k2); (try generalize decide (gainC m1 (lcmC m1 m2) - gainC m2 (lcmC m1 m2) > 0) = k5); (try generalize finB m1 = k3); (try generalize finB m2 = k4); (try revert k1); (try revert k2); (try revert k3); (try revert k4); (try revert k5); decide)) (fun hg => Grows10_V hv1 ha1x hv2 ha2x (L := lcmC m1 m2) (by omega)) ?_
  refine WG.y rfl rfl (by decide) (Yl.pand rfl rfl rfl (fun _ => rfl) (by first | exact fun _ _ => rfl | ((try generalize decide (driftG m1 m2 < 0) = k1); (try generalize (driftG m1 m2 == 0) = k2); (try generalize decide (gainC m1 (lcmC m1 m2) - gainC m2 (lcmC m1 m2) > 0) = k5); (try generalize finB m1 = k3); (try generalize finB m2 = k4); (try revert k1); (try revert k2); (try revert k3); (try revert k4); (try revert k5); decide) | (intro h1 h2; simp_all <;> omega))) ?_
  refine WG.nil (WE.nxt ?_)
  refine W.cond rfl (fun hc1 => ?_) (fun hc1 => ?_)
  ·try simp only [kk] at hc1
   have hq : fastQ m1 m2 := ⟨hc1.1.1, hc1.1.2, by omega⟩
   have hd : devQ m1 m2 (gapD m1 m2) = ((true, 0, 0), 0) := by unfold devQ; rw [if_neg hl1, if_pos hq]
   refine W.seq (W.region _ ?_)
   -- build
   refine WG.y rfl rfl qD (Yl.build (parts := [(0, .const (.bool true))]) tab_ok rfl rfl rfl rfl (fun _ => rfl) rfl rfl) ?_
   refine WL.efN rfl rfl (Ef.store0 2 tab_ok rfl rfl rfl rfl rfl rfl rfl rfl ?_)
   refine WG.run tab_ok 1 rfl (WG.nil (WE.nxt (W.ret (WE.then_ret ?_))))
   refine WE.retF tab_ok [_, _] rfl ⟨⟨_, _, _, rfl, rfl, rfl, ((by first | exact Rd.blk 0 rfl | exact Rd.blk 1 rfl | exact Rd.blk 2 rfl | exact Rd.blk 3 rfl | exact Rd.blk 4 rfl | exact Rd.blk 5 rfl | exact Rd.blk 6 rfl)), rfl⟩, rfl, trivial⟩ (hR1) ?_
   exact ⟨by rw [hd]; rfl, qS⟩
  ·try simp only [kk] at hc1
   have hq : ¬ fastQ m1 m2 := fun ⟨g1, g2, g3⟩ => by have := hc1 ⟨g1, g2⟩; omega
   have hd : devQ m1 m2 (gapD m1 m2) = (greatW (gapD m1 m2) (max m1.vals.length m2.vals.length + lcmC m1 m2) 0 0 0, 0) := by unfold devQ; rw [if_neg hl1, if_neg hq]
   refine W.skip (WE.nxt (W.seq (W.region _ ?_)))
   -- build
   refine WG.y rfl rfl qD (Yl.build (parts := []) tab_ok rfl rfl rfl rfl (fun _ => rfl) rfl rfl) ?_
   refine WL.ef rfl rfl qD (Ef.alloc tab_ok rfl rfl (fun b10 => ?_))
   refine WL.efN rfl rfl (Ef.store0 0 tab_ok rfl rfl rfl rfl rfl rfl rfl rfl ?_)
   refine WG.nil (WE.nxt (W.seq (W.seq (W.region _ (WG.run tab_ok 1 rfl (WG.nil (WE.nxt (W.block ?_))))))))
   refine W.loopK (β := Nat × Int × Int) (fun (t, v, a) => t ≤ (max m1.vals.length m2.vals.length + lcmC m1 m2) ∧ greatW (gapD m1 m2) ((max m1.vals.length m2.vals.length + lcmC m1 m2) - t) t v a = greatW (gapD m1 m2) (max m1.vals.length m2.vals.length + lcmC m1 m2) 0 0 0) (fun (t, v, a) => [(11, true, .int .i64 (t : Int))]) [4, 6, 7, 8, 10] [_, _, _, _, _] [] _ rfl (fun (t, v, a) => [(0, .blk b10 [.bool false, .int .i64 v, .int .i64 a])]) (fun (t, v, a) => (max m1.vals.length m2.vals.length + lcmC m1 m2) - t) ((0, 0, 0)) (⟨Nat.zero_le _, by rfl⟩) ⟨rfl, rfl, rfl, rfl, rfl, rfl, rfl⟩ qS ?_
   intro st hst
   obtain ⟨t, v, a⟩ := st
   dsimp only [zipE, setAll, List.cons_append, List.nil_append, List.set_cons_zero, List.set_cons_succ] at hst ⊢
   obtain ⟨ht, hg⟩ := hst
   refine W.seq (W.seq (W.region _ (WG.run tab_ok 1 rfl ?_)))
   refine' WG.y rfl rfl qD (Yl.load1 tab_ok rfl rfl rfl (fun _ => rfl) ?r7 rfl ?h7) ?_
   case r7 => (exact Rd.blk 2 rfl)
   case h7 => rfl
   refine' WG.y rfl rfl qD (Yl.load1 tab_ok rfl rfl rfl (fun _ => rfl) ?r8 rfl ?h8) ?_
   case r8 => (exact Rd.blk 1 rfl)
   case h8 => rfl
   refine WG.run tab_ok 1 rfl ?_
   refine WG.callV en81 rfl rfl qD (CallOp.mk' rfl rfl rfl rfl) (fun _ => rfl) (fun hg => Window10_V hv1 ha1x hv2 ha2x (L := lcmC m1 m2) qO) ?_
   refine WG.run tab_ok 1 rfl (WG.nil (WE.nxt ?_))
   refine W.condD rfl (fun hc2 => ?_) (fun hc2 => ?_)
   ·try dsimp only at hc2
    have htl : t < (max m1.vals.length m2.vals.length + lcmC m1 m2) := by omega
    obtain ⟨m, hm⟩ : ∃ m, (max m1.vals.length m2.vals.length + lcmC m1 m2) - t = m + 1 := ⟨(max m1.vals.length m2.vals.length + lcmC m1 m2) - t - 1, by omega⟩
    have hm2 : (max m1.vals.length m2.vals.length + lcmC m1 m2) - (t + 1) = m := by omega
    rw [hm, greatW] at hg
    have hlow := cvF_low15 hv1 (show t ≤ 100000 by omega)
    have hrb := reachG_bound hv2 hlow
    have hge : gapD m1 m2 t = ((reachG m2 (cvF m1 t)).1 - (t : Int), (reachG m2 (cvF m1 t)).2) := rfl
    rw [hge] at hg
    dsimp only at hg
    unfold INF at hlow
    refine W.skip (WE.nxt (W.seq (W.block (W.seq ?_))))
    refine W.regionQ _ mixed qK ?_
    refine' WG.y rfl rfl qD (Yl.load1 tab_ok rfl rfl rfl (fun _ => rfl) ?r9 rfl ?h9) ?_
    case r9 => (exact Rd.blk 1 rfl)
    case h9 => rfl
    refine' WG.y rfl rfl qD (Yl.load1 tab_ok rfl rfl rfl (fun _ => rfl) ?r10 rfl ?h10) ?_
    case r10 => (exact Rd.blk 2 rfl)
    case h10 => rfl
    refine WG.run tab_ok 1 rfl ?_
    refine WG.callV (v := .int .i64 (cvF m1 t)) en28 rfl rfl qD (CallOp.mk' rfl rfl rfl rfl) (fun _ => rfl) (fun hg => AtG_V hv1 ha1x (t := t) qO) ?_
    refine WG.callV en82 rfl rfl qD (CallOp.mk' rfl rfl rfl rfl) (fun _ => rfl) (fun hg => First10_V hv2 ha2x hlow) ?_
    refine WG.run tab_ok 5 rfl (WG.nil (WE.nxt (W.seq (W.seq (W.region _ (WG.run tab_ok 2 rfl (WG.nil (WE.nxt ?_))))))))
    refine W.cond rfl (fun hc3 => ?_) (fun hc3 => ?_)
    ·try simp only [kk] at hc3
     have hok : (reachG m2 (cvF m1 t)).2 = false := by simpa using hc3
     rw [if_pos hok] at hg
     refine W.seq (W.region _ ?_)
     -- build
     refine WG.y rfl rfl qD (Yl.build (parts := [(0, .const (.bool true))]) tab_ok rfl rfl rfl rfl (fun _ => rfl) rfl rfl) ?_
     refine WL.efN rfl rfl (Ef.store0 3 tab_ok rfl rfl rfl rfl rfl rfl rfl rfl ?_)
     refine WG.run tab_ok 1 rfl (WG.nil (WE.nxt (W.ret (WE.then_ret (WE.blk_ret (WE.then_ret (WE.then_ret (WE.blk_ret (WE.then_ret ?_)))))))))
     refine WE.retF tab_ok [_, _] rfl ⟨⟨_, _, _, rfl, rfl, rfl, ((by first | exact Rd.blk 0 rfl | exact Rd.blk 1 rfl | exact Rd.blk 2 rfl | exact Rd.blk 3 rfl | exact Rd.blk 4 rfl | exact Rd.blk 5 rfl | exact Rd.blk 6 rfl)), rfl⟩, rfl, trivial⟩ (hR1) ?_
     exact ⟨by rw [hd, ← hg]; rfl, qS⟩
    ·try simp only [kk] at hc3
     have hok : ¬ (reachG m2 (cvF m1 t)).2 = false := by simpa using hc3
     rw [if_neg hok] at hg
     refine W.skip (WE.nxt (W.seq (W.region _ (WG.run tab_ok 2 rfl ?_))))
     refine WG.y rfl rfl (by decide) (Yl.sub rfl rfl rfl (fun _ => rfl) (by intro _; constructor <;> (try dsimp only) <;> omega)) ?_
     refine WG.run tab_ok 1 rfl ?_
     refine' WG.y rfl rfl qD (Yl.load1 tab_ok rfl rfl rfl (fun _ => rfl) ?r11 rfl ?h11) ?_
     case r11 => apply Rd.add; (exact Rd.blk 0 rfl)
     case h11 => rfl
     refine WG.run tab_ok 1 rfl (WG.nil (WE.nxt ?_))
     refine W.condD rfl (fun hc4 => ?_) (fun hc4 => ?_)
     ·try dsimp only at hc4
      rw [if_pos hc4, ← hm2] at hg
      refine W.region _ (WG.run tab_ok 2 rfl ?_)
      refine WG.y rfl rfl (by decide) (Yl.sub rfl rfl rfl (fun _ => rfl) (by intro _; constructor <;> (try dsimp only) <;> omega)) ?_
      refine WG.run tab_ok 2 rfl ?_
      refine WL.efN rfl rfl (Ef.store 0 tab_ok rfl rfl rfl rfl rfl rfl rfl rfl ?_)
      refine WG.run tab_ok 1 rfl ?_
      refine WL.efN rfl rfl (Ef.store 0 tab_ok rfl rfl rfl rfl rfl rfl rfl rfl ?_)
      refine WG.nil (WE.blk _ (WE.nxt (W.region _ (WG.run tab_ok 1 rfl ?_))))
      refine WG.y rfl rfl (by decide) (Yl.add rfl rfl rfl (fun _ => rfl) (by intro _; constructor <;> (try dsimp only) <;> omega)) ?_
      refine WG.run tab_ok 1 rfl (WG.nil ?_)
      refine WE.again ((t + 1, (reachG m2 (cvF m1 t)).1 - (t : Int), t)) (⟨by dsimp only; omega, hg⟩) (by (try dsimp only); omega) ⟨rfl, rfl, rfl, rfl, rfl, rfl, rfl⟩ (RLe.refl _) qS
     ·try dsimp only at hc4
      rw [if_neg (by omega), ← hm2] at hg
      refine W.skip (WE.blk _ (WE.nxt (W.region _ (WG.run tab_ok 1 rfl ?_))))
      refine WG.y rfl rfl (by decide) (Yl.add rfl rfl rfl (fun _ => rfl) (by intro _; constructor <;> (try dsimp only) <;> omega)) ?_
      refine WG.run tab_ok 1 rfl (WG.nil ?_)
      refine WE.again ((t + 1, v, a)) (⟨by dsimp only; omega, hg⟩) (by (try dsimp only); omega) ⟨rfl, rfl, rfl, rfl, rfl, rfl, rfl⟩ (RLe.refl _) qS
   ·try dsimp only at hc2
    obtain rfl : t = (max m1.vals.length m2.vals.length + lcmC m1 m2) := by omega
    rw [Nat.sub_self, greatW] at hg
    refine W.exit ?_
    refine WE.then_exit (WE.then_exit (WE.blk_exit (WE.nxt (W.seq (W.region _ ?_)))))
    refine' WG.y rfl rfl qD (Yl.load1 tab_ok rfl rfl rfl (fun _ => rfl) ?r12 rfl ?h12) ?_
    case r12 => (exact Rd.blk 0 rfl)
    case h12 => rfl
    refine WL.efN rfl rfl (Ef.store0 3 tab_ok rfl rfl rfl rfl rfl rfl rfl rfl ?_)
    refine WG.run tab_ok 1 rfl (WG.nil (WE.nxt (W.ret ?_)))
    refine WE.retF tab_ok [_, _] rfl ⟨⟨_, _, _, rfl, rfl, rfl, ((by first | exact Rd.blk 0 rfl | exact Rd.blk 1 rfl | exact Rd.blk 2 rfl | exact Rd.blk 3 rfl | exact Rd.blk 4 rfl | exact Rd.blk 5 rfl | exact Rd.blk 6 rfl)), rfl⟩, rfl, trivial⟩ (hR1) ?_
    exact ⟨by rw [hd, ← hg]; rfl, qS⟩

end Go.Proofs.Ytnackbfnmhkodaa

/- The least delay over all thetas. No condition. -/
set_option maxRecDepth 4000
set_option linter.unusedSimpArgs false
set_option linter.unusedVariables false
namespace Go.Proofs.Ytnackbfnmhkodaa
open Go Go.RowKit Go.Proofs.Ytnackbfnmhkodaa.K Go.Proofs.Ytnackbfnmhkodaa.M

theorem dev_bound {a b : Cv} (ha : validB a = true) (hb : validB b = true) : 0 ≤ (devN a b (gapD a b)).1.2.1 ∧ (devN a b (gapD a b)).1.2.1 ≤ 1000000000000000000 := by
 have s1 := stN_lt ha
 have s2 := stN_lt hb
 unfold devN
 by_cases hl : 120 < lcmC a b
 ·rw [if_pos hl]; decide
 rw [if_neg hl]
 by_cases hlo : loose a b
 ·rw [if_pos hlo]; decide
 rw [if_neg hlo]
 have hbd := greatW_bound (f := gapD a b) (B := 1000000000000000000) (max (stN a) (stN b) + lcmC a b) 0 0 0 (fun u u1 u2 => by
  have := (reachG_bound hb (cvF_low15 ha (show u ≤ 100000 by omega))).2
  unfold gapD; dsimp only; omega) (by decide) (by decide) (by decide) (by decide)
 exact ⟨hbd.1, hbd.2.1⟩

theorem LessD_V {R : Ro} {i j : Bool} {v u a b : Int} (hv : InR v) (hu : InR u) : FnV Try.prog 50 [.agg #[.bool i, .int .i64 v, .int .i64 a], .agg #[.bool j, .int .i64 u, .int .i64 b]] R (.bool (lessD (i, v, a) (j, u, b))) := by
 refine Fn.toV (fun w0 E => ?_)
 refine Fn.enter (n := 19) Try.func50 rfl rfl (Nat.le_of_ble_eq_true rfl) rfl ?_
 refine W.seq (W.region _ ?_)
 refine WL.ef rfl rfl qD (Ef.box rfl rfl (fun b2 => ?_))
 refine WL.ef rfl rfl qD (Ef.box rfl rfl (fun b3 => ?_))
 refine WG.run tab_ok 1 rfl (WG.nil (WE.nxt (W.seq (W.region _ (WG.run tab_ok 1 rfl ?_)))))
 refine' WG.y rfl rfl qD (Yl.load1 tab_ok rfl rfl rfl (fun _ => rfl) ?r1 rfl ?h1) ?_
 case r1 => apply Rd.add; (exact Rd.blk 1 rfl)
 case h1 => rfl
 refine WG.run tab_ok 2 rfl ?_
 refine WG.y rfl rfl qD (pureV_ok tab_ok rfl qE) ?_
 refine' WG.y rfl rfl qD (Yl.loadG tab_ok rfl rfl rfl qE ?r2 rfl ?h2 ?g2) ?_
 case r2 => apply Rd.addC; (exact Rd.blkC 0 rfl)
 case h2 => rfl
 case g2 => exact fun _ => trivial
 refine WG.y rfl rfl qD (pureV_ok tab_ok rfl qE) ?_
 refine WG.y rfl rfl qD (pureV_ok tab_ok rfl qE) ?_
 refine' WG.y rfl rfl qD (Yl.loadG tab_ok rfl rfl rfl qE ?r3 rfl ?h3 ?g3) ?_
 case r3 => apply Rd.addC; (exact Rd.blkC 1 rfl)
 case h3 => rfl
 case g3 => exact fun _ => trivial
 refine WG.y rfl rfl qD (pureV_ok tab_ok rfl qE) ?_
 refine' WG.y rfl rfl qD (Yl.loadG tab_ok rfl rfl rfl qE ?r4 rfl ?h4 ?g4) ?_
 case r4 => apply Rd.addC; (exact Rd.blkC 0 rfl)
 case h4 => rfl
 case g4 => exact fun _ => trivial
 refine WG.y rfl rfl qD (pureV_ok tab_ok rfl qE) ?_
 refine WG.y rfl rfl (by decide) (Yl.por rfl rfl rfl qE (by intro h1 h2; simp_all <;> omega)) ?_
 refine WG.y rfl rfl (by decide) (Yl.pand rfl rfl rfl (fun _ => rfl) (by intro h1 h2; simp_all <;> omega)) ?_
 refine WG.run tab_ok 1 rfl (WG.nil (WE.nxt (W.ret ?_)))
 refine WE.subE (E' := E) qS ?_
 refine WE.retF tab_ok [_] rfl ⟨rfl, trivial⟩ (RLe.refl _) ?_
 exact ⟨rfl, rfl⟩

set_option maxHeartbeats 4000000 in
theorem SLeastG_C {R : Ro} {fa : Option Addr} {fc : Nat} {ca : Cv} (hva : validB ca = true) (ha : RS R 1 encI fa ca.vals) {ga : Option Addr} {gc : Nat} {cb : Cv} (hvb : validB cb = true) (hb : RS R 1 encI ga cb.vals) {oa : Option Addr} {oc : Nat} {co : Cv} (hvo : validB co = true) (ho : RS R 1 encI oa co.vals) {most : Nat} (hm : most ≤ 50) (w0 : World) (E : List Ent) : K.Fn Try.prog 17 [.agg #[.slice fa ca.vals.length fc, .int .i64 ca.per, .int .i64 ca.inc], .agg #[.slice ga cb.vals.length gc, .int .i64 cb.per, .int .i64 cb.inc], .agg #[.slice oa co.vals.length oc, .int .i64 co.per, .int .i64 co.inc], .int .i64 (most : Int)] w0 R E (fun r R' E' => r = .tuple #[.int .i64 (outD (leastGo (normR ca) (normR cb) (normR co) (most + 1) 0 none)).1.1, .agg #[.bool (outD (leastGo (normR ca) (normR cb) (normR co) (most + 1) 0 none)).1.2.1, .int .i64 (outD (leastGo (normR ca) (normR cb) (normR co) (most + 1) 0 none)).1.2.2.1, .int .i64 (outD (leastGo (normR ca) (normR cb) (normR co) (most + 1) 0 none)).1.2.2.2], .int .i64 (outD (leastGo (normR ca) (normR cb) (normR co) (most + 1) 0 none)).2] ∧ E.Sublist E') := by
 refine Fn.enter (n := 87) Try.func17 rfl rfl (Nat.le_of_ble_eq_true rfl) rfl ?_
 refine W.seq (W.region _ ?_)
 refine WL.ef rfl rfl qD (Ef.box rfl rfl (fun b4 => ?_))
 refine WL.ef rfl rfl qD (Ef.box rfl rfl (fun b5 => ?_))
 refine WL.ef rfl rfl qD (Ef.box rfl rfl (fun b6 => ?_))
 refine WG.run tab_ok 1 rfl ?_
 refine WL.ef rfl rfl qD (Ef.alloc tab_ok rfl rfl (fun b9 => ?_))
 refine WG.run tab_ok 1 rfl (WG.nil (WE.nxt (W.seq (W.seq (W.region _ ?_)))))
 refine' WG.y rfl rfl qD (Yl.load1 tab_ok rfl rfl rfl (fun _ => rfl) ?r1 rfl ?h1) ?_
 case r1 => (exact Rd.blk 3 rfl)
 case h1 => rfl
 refine WG.callV (v := .bool true) en48 rfl rfl qD (CallOp.mk' rfl rfl rfl rfl) (fun _ => rfl) (fun hg => by
  have h := CValidG_V (fc := fc) (c := ca) ha (by have := valid_range hva; omega)
  rw [hva] at h
  exact h) ?_
 refine WG.run tab_ok 2 rfl ?_
 refine' WG.y rfl rfl qD (Yl.loadG tab_ok rfl rfl rfl qE ?r2 rfl ?h2 ?g2) ?_
 case r2 => (exact Rd.blkC 2 rfl)
 case h2 => rfl
 case g2 => exact fun _ => trivial
 refine WG.callV (v := .bool true) en48 rfl rfl qD (CallOp.mk' rfl rfl rfl rfl) qE (fun hg => by
  have h := CValidG_V (fc := gc) (c := cb) hb (by have := valid_range hvb; omega)
  rw [hvb] at h
  exact h) ?_
 refine WG.y rfl rfl qD (pureV_ok tab_ok rfl qE) ?_
 refine WG.y rfl rfl (by decide) (Yl.por rfl rfl rfl (fun _ => rfl) (by intro h1 h2; simp_all <;> omega)) ?_
 refine WG.run tab_ok 1 rfl ?_
 refine' WG.y rfl rfl qD (Yl.loadG tab_ok rfl rfl rfl qE ?r3 rfl ?h3 ?g3) ?_
 case r3 => (exact Rd.blkC 1 rfl)
 case h3 => rfl
 case g3 => exact fun _ => trivial
 refine WG.callV (v := .bool true) en48 rfl rfl qD (CallOp.mk' rfl rfl rfl rfl) qE (fun hg => by
  have h := CValidG_V (fc := oc) (c := co) ho (by have := valid_range hvo; omega)
  rw [hvo] at h
  exact h) ?_
 refine WG.y rfl rfl qD (pureV_ok tab_ok rfl qE) ?_
 refine WG.y rfl rfl (by decide) (Yl.por rfl rfl rfl (fun _ => rfl) (by intro h1 h2; simp_all <;> omega)) ?_
 refine WG.nil (WE.nxt ?_)
 refine W.cond rfl (fun hc0 => ?_) (fun hc0 => ?_)
 ·try simp only [kk] at hc0
  (simp at hc0; done)
 ·try simp only [kk] at hc0
  refine W.skip (WE.nxt (W.seq (W.seq (W.region _ (WG.run tab_ok 3 rfl ?_)))))
  refine WG.y rfl rfl qD (pureV_ok tab_ok rfl qE) ?_
  refine WG.y rfl rfl qD (pureV_ok tab_ok rfl qE) ?_
  refine WG.y rfl rfl (by decide) (Yl.por rfl rfl rfl (fun _ => rfl) (by intro h1 h2; simp_all <;> omega)) ?_
  refine WG.nil (WE.nxt ?_)
  refine W.cond rfl (fun hc1 => ?_) (fun hc1 => ?_)
  ·try simp only [kk] at hc1
   omega
  ·try simp only [kk] at hc1
   refine W.skip (WE.nxt (W.seq (W.region _ (WG.run tab_ok 1 rfl (WG.nil (WE.nxt (W.seq (W.seq (W.region _ (WG.run tab_ok 1 rfl ?_))))))))))
   refine WG.y rfl rfl (by decide) (Yl.add rfl rfl rfl (fun _ => rfl) (by intro _; constructor <;> (try dsimp only) <;> omega)) ?_
   refine WG.run tab_ok 1 rfl (WG.nil (WE.nxt (W.block ?_)))
   refine W.loopR (β := Nat × Option Addr × Best × Ro) (fun (k, p, best, Rk) => k ≤ most + 1 ∧ RLe R Rk ∧ BestR Rk p best ∧ (∀ y, best = some y → InR y.2.2.1) ∧ leastGo (normR ca) (normR cb) (normR co) (most + 1 - k) k best = (leastGo (normR ca) (normR cb) (normR co) (most + 1) 0 none)) (fun (k, p, best, Rk) => [(11, true, .pointer p), (39, true, .int .i64 (k : Int))]) [4, 5, 6, 9, 38] [_, _, _, _, _] [] _ rfl (fun (k, p, best, Rk) => []) (fun (k, p, best, Rk) => Rk) (fun (k, p, best, Rk) => most + 1 - k) ((0, none, none, R)) (⟨Nat.zero_le _, RLe.refl _, .inl ⟨rfl, rfl⟩, (fun y h => by cases h), rfl⟩) ⟨rfl, rfl, rfl, rfl, rfl, rfl, rfl, rfl⟩ (RLe.refl _) qS ?_
   intro zz hst
   obtain ⟨k, p, best, Rk⟩ := zz
   dsimp only [zipE, setAll, List.cons_append, List.nil_append, List.set_cons_zero, List.set_cons_succ] at hst ⊢
   obtain ⟨hk, hRk, hbest, hbin, hgo⟩ := hst
   refine W.seq (W.region _ (WG.run tab_ok 1 rfl (WG.nil (WE.nxt (W.seq ?_)))))
   refine W.condD rfl (fun hc2 => ?_) (fun hc2 => ?_)
   ·try dsimp only at hc2
    have hkm : k ≤ most := by omega
    refine W.skip (WE.nxt (W.seq (W.block (W.seq (W.region _ (WG.run tab_ok 2 rfl (WG.nil (WE.nxt (W.seq (W.region _ ?_))))))))))
    refine' WG.y rfl rfl qD (Yl.load1 tab_ok rfl rfl rfl (fun _ => rfl) ?r4 rfl ?h4) ?_
    case r4 => (exact Rd.blk 2 rfl)
    case h4 => rfl
    refine' WG.y rfl rfl qD (Yl.load1 tab_ok rfl rfl rfl (fun _ => rfl) ?r5 rfl ?h5) ?_
    case r5 => (exact Rd.blk 1 rfl)
    case h5 => rfl
    refine WG.run tab_ok 1 rfl ?_
    refine WL.call en14 rfl rfl qD (CallOp.mkT rfl rfl rfl rfl) (SRestG_C (th := k) hvb (hb.mono hRk) hvo (ho.mono hRk) qO w0 _) ?_
    rintro _ R3 _ hR3 ⟨fx, fxc, rfl, hfx, hsubx⟩
    refine WL.subE hsubx ?_
    unfold cvV
    have hres := share_res (th := k) (norm_nrm hvb).valid (norm_nrm hvo).valid
    generalize hsx : shareN (normR cb) (normR co) k = sx at hfx hres ⊢
    obtain ⟨cx, ex⟩ := sx
    dsimp only at hfx hres ⊢
    refine WG.run tab_ok 3 rfl ?_
    refine WL.ef rfl rfl qD (Ef.alloc tab_ok rfl rfl (fun b13 => ?_))
    refine WL.efN rfl rfl (Ef.store0 0 tab_ok rfl rfl rfl rfl rfl rfl rfl rfl ?_)
    refine WG.run tab_ok 1 rfl (WG.nil (WE.nxt (W.seq (W.seq (W.region _ (WG.run tab_ok 2 rfl (WG.nil (WE.nxt ?_))))))))
    refine W.condN rfl (fun hc3 => ?_) (fun hc3 => ?_)
    ·try dsimp only at hc3
     have hstep : stepD (normR ca) (normR cb) (normR co) k best = best := by
      unfold stepD; rw [hsx, if_pos hc3]
     have hbest := hbest.mono hR3
     obtain ⟨n, hn⟩ : ∃ n, most + 1 - k = n + 1 := ⟨most + 1 - k - 1, by omega⟩
     have hn2 : most + 1 - (k + 1) = n := by omega
     rw [hn, leastGo, hstep, ← hn2] at hgo
     refine W.exit ?_
     refine WE.then_exit (WE.blk_exit (WE.nxt (W.region _ ?_)))
     refine WG.y rfl rfl (by decide) (Yl.add rfl rfl rfl (fun _ => rfl) (by intro _; constructor <;> (try dsimp only) <;> omega)) ?_
     refine WG.run tab_ok 1 rfl (WG.nil ?_)
     refine WE.again ((k + 1, p, best, R3)) (⟨by (try dsimp only); omega, hRk.trans hR3, hbest, hbin, hgo⟩) (by (try dsimp only); omega) ⟨rfl, rfl, rfl, rfl, rfl, rfl, rfl, rfl⟩ (RLe.refl _) qS
    ·try dsimp only at hc3
     obtain rfl : ex = 0 := by first | exact hc3 | simpa using hc3
     have hvx : validB cx = true := by
      rcases hres with h | ⟨c, h1, h2, _⟩
      ·exact absurd (show (0 : Int) = 3 from congrArg Prod.snd h) (by decide)
      ·rw [show cx = c from congrArg Prod.fst h1]; exact h2.valid
     refine W.skip (WE.nxt (W.seq (W.region _ ?_)))
     refine' WG.y rfl rfl qD (Yl.load1 tab_ok rfl rfl rfl (fun _ => rfl) ?r6 rfl ?h6) ?_
     case r6 => (exact Rd.blk 4 rfl)
     case h6 => rfl
     refine' WG.y rfl rfl qD (Yl.load1 tab_ok rfl rfl rfl (fun _ => rfl) ?r7 rfl ?h7) ?_
     case r7 => (exact Rd.blk 0 rfl)
     case h7 => rfl
     refine WL.call en49 rfl rfl qD (CallOp.mkT rfl rfl rfl rfl) (DelayG_C hva (ha.mono (hRk.trans hR3)) hvx hfx w0 _) ?_
     rintro _ R4 _ hR4 ⟨rfl, hsub4⟩
     refine WL.subE hsub4 ?_
     have hdb := dev_bound (norm_nrm hva).valid (norm_nrm hvx).valid
     generalize hdx : devN (normR ca) (normR cx) (gapD (normR ca) (normR cx)) = dx at hdb ⊢
     obtain ⟨⟨di, dv, da⟩, ed⟩ := dx
     dsimp only at hdb ⊢
     have hstep : stepD (normR ca) (normR cb) (normR co) k best = if ed = 0 ∧ betterD (di, dv, da) best = true then some (k, di, dv, da) else best := by
      unfold stepD; rw [hsx]; dsimp only; rw [hdx, if_neg (fun h => h rfl)]
     have hbest := hbest.mono (hR3.trans hR4)
     have hvd : InR dv := by constructor <;> omega
     obtain ⟨n, hn⟩ : ∃ n, most + 1 - k = n + 1 := ⟨most + 1 - k - 1, by omega⟩
     have hn2 : most + 1 - (k + 1) = n := by omega
     rw [hn, leastGo, hstep] at hgo
     refine WG.run tab_ok 3 rfl ?_
     refine WL.ef rfl rfl qD (Ef.alloc tab_ok rfl rfl (fun b15 => ?_))
     refine WL.efN rfl rfl (Ef.store0 0 tab_ok rfl rfl rfl rfl rfl rfl rfl rfl ?_)
     refine WG.run tab_ok 1 rfl (WG.nil (WE.nxt (W.seq ?_)))
     have hb2 := hbest
     rcases hb2 with ⟨rfl, rfl⟩ | ⟨bb, th, i, v, a, rfl, rfl, hbb⟩
     ·
      skip
      refine W.regionQ _ mixed qK ?_
      refine WG.run tab_ok 3 rfl ?_
      refine WG.y rfl rfl qD (pureV_ok tab_ok rfl qE) ?_
      refine WG.y rfl rfl qD (Yl.ptrNil tab_ok rfl rfl rfl rfl rfl qE) ?_
      refine WG.y rfl rfl qD (pureV_ok tab_ok rfl qE) ?_
      refine WG.y rfl rfl (by decide) (Yl.off (v := .agg #[.bool di, .int .i64 dv, .int .i64 da]) (by simp)) ?_
      refine WG.y rfl rfl (by decide) (Yl.off (v := .pointer none) (by simp)) ?_
      refine WG.y rfl rfl (by decide) (Yl.off (v := .pointer none) (by simp)) ?_
      refine WG.y rfl rfl (by decide) (Yl.off (v := .pointer none) (by simp)) ?_
      refine WG.y rfl rfl (by decide) (Yl.off (v := .agg #[.bool di, .int .i64 dv, .int .i64 da]) (by simp)) ?_
      refine WG.callV (v := .bool false) en50 rfl rfl (by decide) (CallOp.mk' rfl rfl rfl rfl) qE (fun hg => by exfalso; revert hg; simp) ?_
      refine WG.y rfl rfl (by decide) (Yl.por rfl rfl rfl qE (by intro h1 h2; simp_all <;> omega)) ?_
      refine WG.y rfl rfl (by decide) (Yl.pand rfl rfl rfl (fun _ => rfl) (by intro h1 h2; simp_all <;> omega)) ?_
      refine WG.nil (WE.nxt ?_)
      refine W.cond rfl (fun hc4 => ?_) (fun hc4 => ?_)
      ·try simp only [kk] at hc4
       have hyes : ed = 0 ∧ betterD (di, dv, da) none = true := by first | exact hc4 | exact ⟨hc4.1, rfl⟩ | exact ⟨hc4, rfl⟩ | exact ⟨hc4.1, hc4.2.resolve_left (by simp)⟩
       rw [if_pos hyes, ← hn2] at hgo
       refine W.region _ (WG.run tab_ok 1 rfl ?_)
       refine' WG.y rfl rfl qD (Yl.load1 tab_ok rfl rfl rfl (fun _ => rfl) ?r8 rfl ?h8) ?_
       case r8 => (exact Rd.blk 0 rfl)
       case h8 => rfl
       -- build
       refine WG.y rfl rfl qD (Yl.build (parts := [(0, .tmp 71), (1, .tmp 72)]) tab_ok rfl rfl rfl rfl (fun _ => rfl) rfl rfl) ?_
       refine WL.ef rfl rfl qD (Ef.box rfl rfl (fun b74 => ?_))
       refine WL.freezeBlk 0 rfl ?_
       intro R5 hR5 hb74
       refine WG.run tab_ok 1 rfl (WG.nil (WE.blk _ (WE.nxt (W.region _ ?_))))
       refine WG.y rfl rfl (by decide) (Yl.add rfl rfl rfl (fun _ => rfl) (by intro _; constructor <;> (try dsimp only) <;> omega)) ?_
       refine WG.run tab_ok 1 rfl (WG.nil ?_)
       refine WE.again ((k + 1, some ⟨b74, 0, none⟩, some (k, di, dv, da), R5)) (⟨by (try dsimp only); omega, (hRk.trans (hR3.trans hR4)).trans hR5, .inr ⟨b74, k, di, dv, da, rfl, rfl, hb74⟩, fun y hy => by obtain rfl := Option.some.inj hy; exact hvd, hgo⟩) (by (try dsimp only); omega) ⟨rfl, rfl, rfl, rfl, rfl, rfl, rfl, rfl⟩ (RLe.refl _) qS
      ·try simp only [kk] at hc4
       have hno : ¬ (ed = 0 ∧ betterD (di, dv, da) none = true) := fun h => by first | exact hc4 h | exact hc4 h.1 | (have h2 := h.2; have := hc4 h.1; simp_all [betterD]; done) | (have h2 := h.2; simp_all [betterD]; done)
       rw [if_neg hno, ← hn2] at hgo
       refine W.skip (WE.blk _ (WE.nxt (W.region _ ?_)))
       refine WG.y rfl rfl (by decide) (Yl.add rfl rfl rfl (fun _ => rfl) (by intro _; constructor <;> (try dsimp only) <;> omega)) ?_
       refine WG.run tab_ok 1 rfl (WG.nil ?_)
       refine WE.again ((k + 1, _, _, R4)) (⟨by (try dsimp only); omega, hRk.trans (hR3.trans hR4), hbest, hbin, hgo⟩) (by (try dsimp only); omega) ⟨rfl, rfl, rfl, rfl, rfl, rfl, rfl, rfl⟩ (RLe.refl _) qS
     ·
      have hvbst : InR v := hbin _ rfl
      refine W.regionQ _ mixed qK ?_
      refine WG.run tab_ok 3 rfl ?_
      refine WG.y rfl rfl qD (pureV_ok tab_ok rfl qE) ?_
      refine WG.y rfl rfl qD (Yl.ptrNil tab_ok rfl rfl rfl rfl rfl qE) ?_
      refine WG.y rfl rfl qD (pureV_ok tab_ok rfl qE) ?_
      refine' WG.y rfl rfl qD (Yl.loadG tab_ok rfl rfl rfl qE ?r9 rfl ?h9 ?g9) ?_
      case r9 => (exact Rd.blkC 0 rfl)
      case h9 => rfl
      case g9 => exact fun _ => trivial
      refine WG.y rfl rfl qD (pureV_ok tab_ok rfl qE) ?_
      refine WG.y rfl rfl qD (pureV_ok tab_ok rfl qE) ?_
      refine WG.y rfl rfl qD (pureV_ok tab_ok rfl qE) ?_
      refine' WG.y rfl rfl qD (Yl.loadG tab_ok rfl rfl rfl qE ?r10 rfl ?h10 ?g10) ?_
      case r10 => apply Rd.addC; exact fun _ => Rd.ro hbb
      case h10 => rfl
      case g10 => exact fun _ => trivial
      refine WG.callV (v := .bool (lessD (di, dv, da) (i, v, a))) en50 rfl rfl qD (CallOp.mk' rfl rfl rfl rfl) qE (fun hg => LessD_V hvd (hvbst)) ?_
      refine WG.y rfl rfl (by decide) (Yl.por rfl rfl rfl qE (by intro h1 h2; simp_all <;> omega)) ?_
      refine WG.y rfl rfl (by decide) (Yl.pand rfl rfl rfl (fun _ => rfl) (by intro h1 h2; simp_all <;> omega)) ?_
      refine WG.nil (WE.nxt ?_)
      refine W.cond rfl (fun hc4 => ?_) (fun hc4 => ?_)
      ·try simp only [kk] at hc4
       have hyes : ed = 0 ∧ betterD (di, dv, da) (some (th, i, v, a)) = true := by first | exact hc4 | exact ⟨hc4.1, rfl⟩ | exact ⟨hc4, rfl⟩ | exact ⟨hc4.1, hc4.2.resolve_left (by simp)⟩
       rw [if_pos hyes, ← hn2] at hgo
       refine W.region _ (WG.run tab_ok 1 rfl ?_)
       refine' WG.y rfl rfl qD (Yl.load1 tab_ok rfl rfl rfl (fun _ => rfl) ?r11 rfl ?h11) ?_
       case r11 => (exact Rd.blk 0 rfl)
       case h11 => rfl
       -- build
       refine WG.y rfl rfl qD (Yl.build (parts := [(0, .tmp 71), (1, .tmp 72)]) tab_ok rfl rfl rfl rfl (fun _ => rfl) rfl rfl) ?_
       refine WL.ef rfl rfl qD (Ef.box rfl rfl (fun b74 => ?_))
       refine WL.freezeBlk 0 rfl ?_
       intro R5 hR5 hb74
       refine WG.run tab_ok 1 rfl (WG.nil (WE.blk _ (WE.nxt (W.region _ ?_))))
       refine WG.y rfl rfl (by decide) (Yl.add rfl rfl rfl (fun _ => rfl) (by intro _; constructor <;> (try dsimp only) <;> omega)) ?_
       refine WG.run tab_ok 1 rfl (WG.nil ?_)
       refine WE.again ((k + 1, some ⟨b74, 0, none⟩, some (k, di, dv, da), R5)) (⟨by (try dsimp only); omega, (hRk.trans (hR3.trans hR4)).trans hR5, .inr ⟨b74, k, di, dv, da, rfl, rfl, hb74⟩, fun y hy => by obtain rfl := Option.some.inj hy; exact hvd, hgo⟩) (by (try dsimp only); omega) ⟨rfl, rfl, rfl, rfl, rfl, rfl, rfl, rfl⟩ (RLe.refl _) qS
      ·try simp only [kk] at hc4
       have hno : ¬ (ed = 0 ∧ betterD (di, dv, da) (some (th, i, v, a)) = true) := fun h => by first | exact hc4 h | exact hc4 h.1 | (have h2 := h.2; have := hc4 h.1; simp_all [betterD]; done) | (have h2 := h.2; simp_all [betterD]; done)
       rw [if_neg hno, ← hn2] at hgo
       refine W.skip (WE.blk _ (WE.nxt (W.region _ ?_)))
       refine WG.y rfl rfl (by decide) (Yl.add rfl rfl rfl (fun _ => rfl) (by intro _; constructor <;> (try dsimp only) <;> omega)) ?_
       refine WG.run tab_ok 1 rfl (WG.nil ?_)
       refine WE.again ((k + 1, _, _, R4)) (⟨by (try dsimp only); omega, hRk.trans (hR3.trans hR4), hbest, hbin, hgo⟩) (by (try dsimp only); omega) ⟨rfl, rfl, rfl, rfl, rfl, rfl, rfl, rfl⟩ (RLe.refl _) qS
   ·try dsimp only at hc2
    obtain rfl : k = most + 1 := by omega
    rw [Nat.sub_self, leastGo] at hgo
    refine W.exit ?_
    refine WE.then_exit (WE.then_exit (WE.blk_exit (WE.nxt (W.seq (W.seq (W.region _ (WG.run tab_ok 1 rfl ?_)))))))
    refine WG.y rfl rfl qD (Yl.ptrNil tab_ok rfl rfl rfl rfl rfl (fun _ => rfl)) ?_
    refine WG.nil (WE.nxt ?_)
    refine W.cond rfl (fun hc5 => ?_) (fun hc5 => ?_)
    ·try simp only [kk] at hc5
     obtain ⟨rfl, rfl⟩ : p = none ∧ best = none := by
      rcases hbest with h | ⟨bb, th, i, v, a, h1, _⟩
      ·exact h
      ·rw [h1] at hc5; cases hc5
     refine W.seq (W.region _ ?_)
     -- build
     refine WG.y rfl rfl qD (Yl.build (parts := []) tab_ok rfl rfl rfl rfl (fun _ => rfl) rfl rfl) ?_
     refine WG.run tab_ok 1 rfl ?_
     refine WL.efN rfl rfl (Ef.store0 0 tab_ok rfl rfl rfl rfl rfl rfl rfl rfl ?_)
     refine WG.run tab_ok 1 rfl (WG.nil (WE.nxt (W.ret (WE.then_ret ?_))))
     refine WE.retF tab_ok [_, _, _] rfl ⟨rfl, ⟨_, _, _, rfl, rfl, rfl, ((by first | exact Rd.blk 0 rfl | exact Rd.blk 1 rfl | exact Rd.blk 2 rfl | exact Rd.blk 3 rfl | exact Rd.blk 4 rfl | exact Rd.blk 5 rfl | exact Rd.blk 6 rfl | exact Rd.blk 7 rfl)), rfl⟩, rfl, trivial⟩ ((by first | exact RLe.refl _ | exact hRk | exact hR1)) ?_
     exact ⟨by rw [← hgo]; rfl, qS⟩
    ·try simp only [kk] at hc5
     obtain ⟨bb, th, i, v, a, rfl, rfl, hbb⟩ := hbest.resolve_left (fun h => by rw [h.1] at hc5; exact absurd hc5 (by decide))
     refine W.skip (WE.nxt (W.seq ?_))
     refine W.regionH _ (ES := []) mixed ?_
     refine WA.take 0 rfl qK qK qK rfl rfl qD (pureV_ok tab_ok rfl (fun _ => rfl)) qS qR ?_
     refine WA.take 1 rfl qK qK qK rfl rfl qD (pureV_ok tab_ok rfl (fun _ => rfl)) qS qR ?_
     refine WA.take 2 rfl qK qK qK rfl rfl qD (pureV_ok tab_ok rfl (fun _ => rfl)) qS qR ?_
     refine' WA.take 3 rfl qK qK qK rfl rfl qD (Yl.load1 tab_ok rfl rfl rfl (fun _ => rfl) ?r12 rfl ?h12) qS qR ?_
     case r12 => apply Rd.add; (exact Rd.ro qU)
     case h12 => rfl
     refine WA.take 4 rfl qK qK qK rfl rfl qD (pureV_ok tab_ok rfl (fun _ => rfl)) qS qR ?_
     refine WA.take 5 rfl qK qK qK rfl rfl qD (pureV_ok tab_ok rfl (fun _ => rfl)) qS qR ?_
     refine WA.take 6 rfl qK qK qK rfl rfl qD (pureV_ok tab_ok rfl (fun _ => rfl)) qS qR ?_
     refine' WA.take 7 rfl qK qK qK rfl rfl qD (Yl.load1 tab_ok rfl rfl rfl (fun _ => rfl) ?r13 rfl ?h13) qS qR ?_
     case r13 => apply Rd.add; (exact Rd.ro qU)
     case h13 => rfl
     refine WA.take 8 rfl qK qK qK rfl rfl qD (pureV_ok tab_ok rfl (fun _ => rfl)) qS qR ?_
     refine WA.effN 9 rfl qK rfl rfl (Ef.store0 0 tab_ok rfl rfl rfl rfl rfl rfl rfl rfl ?_)
     refine ⟨by first | exact RLe.refl _ | assumption, qS, ?_⟩
     refine WA.take 10 rfl qK qK qK rfl rfl qD (pureV_ok tab_ok rfl (fun _ => rfl)) qS qR ?_
     refine WA.done qK ?_
     refine WE.nxt (W.ret ?_)
     refine WE.retF tab_ok [_, _, _] rfl ⟨rfl, ⟨_, _, _, rfl, rfl, rfl, ((by first | exact Rd.blk 0 rfl | exact Rd.blk 1 rfl | exact Rd.blk 2 rfl | exact Rd.blk 3 rfl | exact Rd.blk 4 rfl | exact Rd.blk 5 rfl | exact Rd.blk 6 rfl | exact Rd.blk 7 rfl)), rfl⟩, rfl, trivial⟩ ((by first | exact RLe.refl _ | exact hRk | exact hR1)) ?_
     exact ⟨by rw [← hgo]; rfl, qS⟩

end Go.Proofs.Ytnackbfnmhkodaa

/- The least delay over all thetas, reference. No condition. -/
set_option maxRecDepth 4000
set_option linter.unusedSimpArgs false
set_option linter.unusedVariables false
namespace Go.Proofs.Ytnackbfnmhkodaa
open Go Go.RowKit Go.Proofs.Ytnackbfnmhkodaa.K Go.Proofs.Ytnackbfnmhkodaa.M

set_option maxHeartbeats 4000000 in
theorem RLeast17_C {R : Ro} {fa : Option Addr} {fc : Nat} {ca : Cv} (hva : validB ca = true) (ha : RS R 1 encI fa ca.vals) (hcapa : ca.vals.length ≤ fc) {ga : Option Addr} {gc : Nat} {cb : Cv} (hvb : validB cb = true) (hb : RS R 1 encI ga cb.vals) (hcapb : cb.vals.length ≤ gc) {oa : Option Addr} {oc : Nat} {co : Cv} (hvo : validB co = true) (ho : RS R 1 encI oa co.vals) (hcapo : co.vals.length ≤ oc) {most : Nat} (hm : most ≤ 50) (w0 : World) (E : List Ent) : K.Fn Try.prog 18 [.agg #[.slice fa ca.vals.length fc, .int .i64 ca.per, .int .i64 ca.inc], .agg #[.slice ga cb.vals.length gc, .int .i64 cb.per, .int .i64 cb.inc], .agg #[.slice oa co.vals.length oc, .int .i64 co.per, .int .i64 co.inc], .int .i64 (most : Int)] w0 R E (fun r R' E' => r = .tuple #[.int .i64 (outD (leastGo (normR ca) (normR cb) (normR co) (most + 1) 0 none)).1.1, .agg #[.bool (outD (leastGo (normR ca) (normR cb) (normR co) (most + 1) 0 none)).1.2.1, .int .i64 (outD (leastGo (normR ca) (normR cb) (normR co) (most + 1) 0 none)).1.2.2.1, .int .i64 (outD (leastGo (normR ca) (normR cb) (normR co) (most + 1) 0 none)).1.2.2.2], .int .i64 (outD (leastGo (normR ca) (normR cb) (normR co) (most + 1) 0 none)).2] ∧ E.Sublist E') := by
 refine Fn.enter (n := 96) Try.func18 rfl rfl (Nat.le_of_ble_eq_true rfl) rfl ?_
 refine W.seq (W.region _ ?_)
 refine WL.ef rfl rfl qD (Ef.box rfl rfl (fun b4 => ?_))
 refine WL.ef rfl rfl qD (Ef.box rfl rfl (fun b5 => ?_))
 refine WL.ef rfl rfl qD (Ef.box rfl rfl (fun b6 => ?_))
 refine WG.run tab_ok 1 rfl ?_
 refine WL.ef rfl rfl qD (Ef.alloc tab_ok rfl rfl (fun b9 => ?_))
 refine WG.run tab_ok 1 rfl (WG.nil (WE.nxt (W.seq (W.seq (W.region _ ?_)))))
 refine' WG.y rfl rfl qD (Yl.load1 tab_ok rfl rfl rfl (fun _ => rfl) ?r1 rfl ?h1) ?_
 case r1 => (exact Rd.blk 3 rfl)
 case h1 => rfl
 refine WG.callV (v := .bool true) en27 rfl rfl qD (CallOp.mk' rfl rfl rfl rfl) (fun _ => rfl) (fun hg => ValidG_V (fc := fc) hva ha) ?_
 refine WG.run tab_ok 2 rfl ?_
 refine' WG.y rfl rfl (by decide) (Yl.loadG tab_ok rfl rfl rfl (by first | exact fun _ => rfl | exact fun h => h | ((try generalize decide (at' < 0) = k0); (try generalize di = k3); (try generalize i = k4); (try generalize decide (dv < v) = k5); (try revert k0); (try revert k3); (try revert k4); (try revert k5); decide) | (intro h; simp_all)) ?r2 rfl ?h2 ?g2) ?_
 case r2 => (exact Rd.blkC 2 rfl)
 case h2 => rfl
 case g2 => exact fun _ => trivial
 refine WG.callV (v := .bool true) en27 rfl rfl (by decide) (CallOp.mk' rfl rfl rfl rfl) (by first | exact fun _ => rfl | exact fun h => h | ((try generalize decide (at' < 0) = k0); (try generalize di = k3); (try generalize i = k4); (try generalize decide (dv < v) = k5); (try revert k0); (try revert k3); (try revert k4); (try revert k5); decide) | (intro h; simp_all)) (fun hg => ValidG_V (fc := gc) hvb hb) ?_
 refine WG.y rfl rfl (by decide) (pureV_ok tab_ok rfl (by first | exact fun _ => rfl | exact fun h => h | ((try generalize decide (at' < 0) = k0); (try generalize di = k3); (try generalize i = k4); (try generalize decide (dv < v) = k5); (try revert k0); (try revert k3); (try revert k4); (try revert k5); decide) | (intro h; simp_all))) ?_
 refine WG.y rfl rfl (by decide) (Yl.por rfl rfl rfl (fun _ => rfl) (by first | exact fun _ _ => rfl | ((try generalize decide (at' < 0) = k0); (try generalize di = k3); (try generalize i = k4); (try generalize decide (dv < v) = k5); (try revert k0); (try revert k3); (try revert k4); (try revert k5); decide) | (intro h1 h2; simp_all))) ?_
 refine WG.run tab_ok 1 rfl ?_
 refine' WG.y rfl rfl (by decide) (Yl.loadG tab_ok rfl rfl rfl (by first | exact fun _ => rfl | exact fun h => h | ((try generalize decide (at' < 0) = k0); (try generalize di = k3); (try generalize i = k4); (try generalize decide (dv < v) = k5); (try revert k0); (try revert k3); (try revert k4); (try revert k5); decide) | (intro h; simp_all)) ?r3 rfl ?h3 ?g3) ?_
 case r3 => (exact Rd.blkC 1 rfl)
 case h3 => rfl
 case g3 => exact fun _ => trivial
 refine WG.callV (v := .bool true) en27 rfl rfl (by decide) (CallOp.mk' rfl rfl rfl rfl) (by first | exact fun _ => rfl | exact fun h => h | ((try generalize decide (at' < 0) = k0); (try generalize di = k3); (try generalize i = k4); (try generalize decide (dv < v) = k5); (try revert k0); (try revert k3); (try revert k4); (try revert k5); decide) | (intro h; simp_all)) (fun hg => ValidG_V (fc := oc) hvo ho) ?_
 refine WG.y rfl rfl (by decide) (pureV_ok tab_ok rfl (by first | exact fun _ => rfl | exact fun h => h | ((try generalize decide (at' < 0) = k0); (try generalize di = k3); (try generalize i = k4); (try generalize decide (dv < v) = k5); (try revert k0); (try revert k3); (try revert k4); (try revert k5); decide) | (intro h; simp_all))) ?_
 refine WG.y rfl rfl (by decide) (Yl.por rfl rfl rfl (fun _ => rfl) (by first | exact fun _ _ => rfl | ((try generalize decide (at' < 0) = k0); (try generalize di = k3); (try generalize i = k4); (try generalize decide (dv < v) = k5); (try revert k0); (try revert k3); (try revert k4); (try revert k5); decide) | (intro h1 h2; simp_all))) ?_
 refine WG.nil (WE.nxt ?_)
 refine W.cond rfl (fun hc0 => ?_) (fun hc0 => ?_)
 ·try simp only [kk] at hc0
  (simp at hc0; done)
 ·try simp only [kk] at hc0
  refine W.skip (WE.nxt (W.seq (W.seq (W.region _ (WG.run tab_ok 3 rfl ?_)))))
  refine WG.y rfl rfl (by decide) (pureV_ok tab_ok rfl (by first | exact fun _ => rfl | exact fun h => h | ((try generalize decide (at' < 0) = k0); (try generalize di = k3); (try generalize i = k4); (try generalize decide (dv < v) = k5); (try revert k0); (try revert k3); (try revert k4); (try revert k5); decide) | (intro h; simp_all))) ?_
  refine WG.y rfl rfl (by decide) (pureV_ok tab_ok rfl (by first | exact fun _ => rfl | exact fun h => h | ((try generalize decide (at' < 0) = k0); (try generalize di = k3); (try generalize i = k4); (try generalize decide (dv < v) = k5); (try revert k0); (try revert k3); (try revert k4); (try revert k5); decide) | (intro h; simp_all))) ?_
  refine WG.y rfl rfl (by decide) (Yl.por rfl rfl rfl (fun _ => rfl) (by first | exact fun _ _ => rfl | ((try generalize decide (at' < 0) = k0); (try generalize di = k3); (try generalize i = k4); (try generalize decide (dv < v) = k5); (try revert k0); (try revert k3); (try revert k4); (try revert k5); decide) | (intro h1 h2; simp_all))) ?_
  refine WG.nil (WE.nxt ?_)
  refine W.cond rfl (fun hc1 => ?_) (fun hc1 => ?_)
  ·try simp only [kk] at hc1
   omega
  ·try simp only [kk] at hc1
   refine W.skip (WE.nxt (W.seq (W.region _ ?_)))
   -- build
   refine WG.y rfl rfl qD (Yl.build (parts := []) tab_ok rfl rfl rfl rfl (fun _ => rfl) rfl rfl) ?_
   refine WL.ef rfl rfl qD (Ef.alloc tab_ok rfl rfl (fun b12 => ?_))
   refine WG.run tab_ok 1 rfl ?_
   refine WL.efN rfl rfl (Ef.store0 0 tab_ok rfl rfl rfl rfl rfl rfl rfl rfl ?_)
   refine WG.nil (WE.nxt (W.seq (W.seq (W.region _ (WG.run tab_ok 1 rfl (WG.nil (WE.nxt (W.block ?_))))))))
   refine W.loopR (β := Nat × Int × Bool × Int × Int × Ro) (fun (k, at', i, v, a, Rk) => k ≤ most + 1 ∧ RLe R Rk ∧ (-1 ≤ at' ∧ at' ≤ 50) ∧ InR v ∧ leastGo (normR ca) (normR cb) (normR co) (most + 1 - k) k (optB at' (i, v, a)) = (leastGo (normR ca) (normR cb) (normR co) (most + 1) 0 none)) (fun (k, at', i, v, a, Rk) => [(11, true, .int .i64 at'), (13, true, .int .i64 (k : Int))]) [3, 4, 5, 6, 9, 12] [_, _, _, _, _, _] [] _ rfl (fun (k, at', i, v, a, Rk) => [(0, .blk b12 [.bool i, .int .i64 v, .int .i64 a])]) (fun (k, at', i, v, a, Rk) => Rk) (fun (k, at', i, v, a, Rk) => most + 1 - k) ((0, -1, false, 0, 0, R)) (⟨Nat.zero_le _, RLe.refl _, ⟨by decide, by decide⟩, by constructor <;> decide, rfl⟩) ⟨rfl, rfl, rfl, rfl, rfl, rfl, rfl, rfl, rfl⟩ (RLe.refl _) qS ?_
   intro zz hst
   obtain ⟨k, at', i, v, a, Rk⟩ := zz
   dsimp only [zipE, setAll, List.cons_append, List.nil_append, List.set_cons_zero, List.set_cons_succ] at hst ⊢
   obtain ⟨hk, hRk, hat, hvi, hgo⟩ := hst
   refine W.seq (W.seq (W.region _ (WG.run tab_ok 3 rfl (WG.nil (WE.nxt ?_)))))
   refine W.condD rfl (fun hc2 => ?_) (fun hc2 => ?_)
   ·try dsimp only at hc2
    have hkm : k ≤ most := by omega
    refine W.skip (WE.nxt (W.seq (W.block (W.seq (W.region _ ?_)))))
    refine' WG.y rfl rfl qD (Yl.load1 tab_ok rfl rfl rfl (fun _ => rfl) ?r4 rfl ?h4) ?_
    case r4 => (exact Rd.blk 3 rfl)
    case h4 => rfl
    refine' WG.y rfl rfl qD (Yl.load1 tab_ok rfl rfl rfl (fun _ => rfl) ?r5 rfl ?h5) ?_
    case r5 => (exact Rd.blk 2 rfl)
    case h5 => rfl
    refine WG.run tab_ok 1 rfl ?_
    refine WL.call en15 rfl rfl qD (CallOp.mkT rfl rfl rfl rfl) (Rest17K_C (th := k) hvb (hb.mono hRk) hcapb hvo (ho.mono hRk) hcapo qO w0 _) ?_
    rintro _ R3 _ hR3 ⟨fx, fxc, rfl, hfx, hcpx, hsubx⟩
    refine WL.subE hsubx ?_
    unfold cvV
    have hres := share_res (th := k) (norm_nrm hvb).valid (norm_nrm hvo).valid
    rw [← share_ref (norm_nrm hvb).valid (norm_nrm hvo).valid] at hfx hcpx ⊢
    generalize hsx : shareN (normR cb) (normR co) k = sx at hfx hcpx hres ⊢
    obtain ⟨cx, ex⟩ := sx
    dsimp only at hfx hcpx hres ⊢
    refine WG.run tab_ok 3 rfl ?_
    refine WL.ef rfl rfl qD (Ef.alloc tab_ok rfl rfl (fun b14 => ?_))
    refine WL.efN rfl rfl (Ef.store0 0 tab_ok rfl rfl rfl rfl rfl rfl rfl rfl ?_)
    refine WG.run tab_ok 1 rfl (WG.nil (WE.nxt (W.seq (W.seq (W.region _ (WG.run tab_ok 2 rfl (WG.nil (WE.nxt ?_))))))))
    refine W.condN rfl (fun hc3 => ?_) (fun hc3 => ?_)
    ·try dsimp only at hc3
     have hstep : stepD (normR ca) (normR cb) (normR co) k (optB at' (i, v, a)) = optB at' (i, v, a) := by
      unfold stepD; rw [hsx, if_pos hc3]
     obtain ⟨n, hn⟩ : ∃ n, most + 1 - k = n + 1 := ⟨most + 1 - k - 1, by omega⟩
     have hn2 : most + 1 - (k + 1) = n := by omega
     rw [hn, leastGo, hstep, ← hn2] at hgo
     refine W.exit ?_
     refine WE.then_exit (WE.blk_exit (WE.nxt (W.region _ (WG.run tab_ok 1 rfl ?_))))
     refine WG.y rfl rfl (by decide) (Yl.add rfl rfl rfl (fun _ => rfl) (by intro _; constructor <;> (try dsimp only) <;> omega)) ?_
     refine WG.run tab_ok 1 rfl (WG.nil ?_)
     refine WE.again ((k + 1, at', i, v, a, R3)) (⟨by (try dsimp only); omega, hRk.trans hR3, hat, hvi, hgo⟩) (by (try dsimp only); omega) ⟨rfl, rfl, rfl, rfl, rfl, rfl, rfl, rfl, rfl⟩ (RLe.refl _) qS
    ·try dsimp only at hc3
     obtain rfl : ex = 0 := by first | exact hc3 | simpa using hc3
     have hvx : validB cx = true := by
      rcases hres with h | ⟨c, h1, h2, _⟩
      ·exact absurd (show (0 : Int) = 3 from congrArg Prod.snd h) (by decide)
      ·rw [show cx = c from congrArg Prod.fst h1]; exact h2.valid
     refine W.skip (WE.nxt (W.seq (W.region _ ?_)))
     refine' WG.y rfl rfl qD (Yl.load1 tab_ok rfl rfl rfl (fun _ => rfl) ?r6 rfl ?h6) ?_
     case r6 => (exact Rd.blk 5 rfl)
     case h6 => rfl
     refine' WG.y rfl rfl qD (Yl.load1 tab_ok rfl rfl rfl (fun _ => rfl) ?r7 rfl ?h7) ?_
     case r7 => (exact Rd.blk 0 rfl)
     case h7 => rfl
     refine WL.call en51 rfl rfl qD (CallOp.mkT rfl rfl rfl rfl) (Delay10_C hva (ha.mono (hRk.trans hR3)) hcapa hvx hfx hcpx w0 _) ?_
     rintro _ R4 _ hR4 ⟨rfl, hsub4⟩
     refine WL.subE hsub4 ?_
     rw [← delay_same (norm_nrm hva).valid (norm_nrm hvx).valid]
     have hdb := dev_bound (norm_nrm hva).valid (norm_nrm hvx).valid
     generalize hdx : devN (normR ca) (normR cx) (gapD (normR ca) (normR cx)) = dx at hdb ⊢
     obtain ⟨⟨di, dv, da⟩, ed⟩ := dx
     dsimp only at hdb ⊢
     have hstep : stepD (normR ca) (normR cb) (normR co) k (optB at' (i, v, a)) = if ed = 0 ∧ betterD (di, dv, da) (optB at' (i, v, a)) = true then some (k, di, dv, da) else optB at' (i, v, a) := by
      unfold stepD; rw [hsx]; dsimp only; rw [hdx, if_neg (fun h => h rfl)]
     obtain ⟨n, hn⟩ : ∃ n, most + 1 - k = n + 1 := ⟨most + 1 - k - 1, by omega⟩
     have hn2 : most + 1 - (k + 1) = n := by omega
     rw [hn, leastGo, hstep] at hgo
     have hbet : betterD (di, dv, da) (optB at' (i, v, a)) = (decide (at' < 0) || lessD (di, dv, da) (i, v, a)) := by
      unfold optB
      by_cases h : at' < 0
      ·rw [if_pos h]; simp [betterD, h]
      ·rw [if_neg h]; simp [betterD, h]
     have hbi : betterD (di, dv, da) (optB at' (i, v, a)) = true ↔ ((at' < 0 ∨ i = true ∧ di = false) ∨ (di = false ∧ i = false) ∧ dv < v) := by
      rw [hbet]; unfold lessD; cases di <;> cases i <;> simp
     refine WG.run tab_ok 3 rfl ?_
     refine WL.ef rfl rfl qD (Ef.alloc tab_ok rfl rfl (fun b16 => ?_))
     refine WL.efN rfl rfl (Ef.store0 0 tab_ok rfl rfl rfl rfl rfl rfl rfl rfl ?_)
     refine WG.run tab_ok 1 rfl (WG.nil (WE.nxt (W.seq (W.seq (W.region _ (WG.run tab_ok 2 rfl (WG.nil (WE.nxt ?_))))))))
     refine W.condN rfl (fun hc4 => ?_) (fun hc4 => ?_)
     ·try dsimp only at hc4
      rw [if_neg (fun h => hc4 h.1), ← hn2] at hgo
      refine W.exit ?_
      refine WE.then_exit (WE.blk_exit (WE.nxt (W.region _ (WG.run tab_ok 1 rfl ?_))))
      refine WG.y rfl rfl (by decide) (Yl.add rfl rfl rfl (fun _ => rfl) (by intro _; constructor <;> (try dsimp only) <;> omega)) ?_
      refine WG.run tab_ok 1 rfl (WG.nil ?_)
      refine WE.again ((k + 1, at', i, v, a, R4)) (⟨by (try dsimp only); omega, hRk.trans (hR3.trans hR4), hat, hvi, hgo⟩) (by (try dsimp only); omega) ⟨rfl, rfl, rfl, rfl, rfl, rfl, rfl, rfl, rfl⟩ (RLe.refl _) qS
     ·try dsimp only at hc4
      obtain rfl : ed = 0 := by first | exact hc4 | simpa using hc4
      refine W.skip (WE.nxt (W.seq (W.region _ (WG.run tab_ok 3 rfl ?_))))
      refine WG.y rfl rfl (by decide) (pureV_ok tab_ok rfl (by first | exact fun _ => rfl | exact fun h => h | ((try generalize decide (at' < 0) = k0); (try generalize di = k3); (try generalize i = k4); (try generalize decide (dv < v) = k5); (try revert k0); (try revert k3); (try revert k4); (try revert k5); decide) | (intro h; simp_all))) ?_
      refine' WG.y rfl rfl (by decide) (Yl.loadG tab_ok rfl rfl rfl (by first | exact fun _ => rfl | exact fun h => h | ((try generalize decide (at' < 0) = k0); (try generalize di = k3); (try generalize i = k4); (try generalize decide (dv < v) = k5); (try revert k0); (try revert k3); (try revert k4); (try revert k5); decide) | (intro h; simp_all)) ?r8 rfl ?h8 ?g8) ?_
      case r8 => apply Rd.addC; (exact Rd.blkC 2 rfl)
      case h8 => rfl
      case g8 => exact fun _ => trivial
      refine WG.y rfl rfl (by decide) (pureV_ok tab_ok rfl (by first | exact fun _ => rfl | exact fun h => h | ((try generalize decide (at' < 0) = k0); (try generalize di = k3); (try generalize i = k4); (try generalize decide (dv < v) = k5); (try revert k0); (try revert k3); (try revert k4); (try revert k5); decide) | (intro h; simp_all))) ?_
      refine WG.y rfl rfl (by decide) (pureV_ok tab_ok rfl (by first | exact fun _ => rfl | exact fun h => h | ((try generalize decide (at' < 0) = k0); (try generalize di = k3); (try generalize i = k4); (try generalize decide (dv < v) = k5); (try revert k0); (try revert k3); (try revert k4); (try revert k5); decide) | (intro h; simp_all))) ?_
      refine' WG.y rfl rfl (by decide) (Yl.loadG tab_ok rfl rfl rfl (by first | exact fun _ => rfl | exact fun h => h | ((try generalize decide (at' < 0) = k0); (try generalize di = k3); (try generalize i = k4); (try generalize decide (dv < v) = k5); (try revert k0); (try revert k3); (try revert k4); (try revert k5); decide) | (intro h; simp_all)) ?r9 rfl ?h9 ?g9) ?_
      case r9 => apply Rd.addC; (exact Rd.blkC 0 rfl)
      case h9 => rfl
      case g9 => exact fun _ => trivial
      refine WG.y rfl rfl (by decide) (pureV_ok tab_ok rfl (by first | exact fun _ => rfl | exact fun h => h | ((try generalize decide (at' < 0) = k0); (try generalize di = k3); (try generalize i = k4); (try generalize decide (dv < v) = k5); (try revert k0); (try revert k3); (try revert k4); (try revert k5); decide) | (intro h; simp_all))) ?_
      refine WG.y rfl rfl (by decide) (Yl.pand rfl rfl rfl (by first | exact fun _ => rfl | exact fun h => h | ((try generalize decide (at' < 0) = k0); (try generalize di = k3); (try generalize i = k4); (try generalize decide (dv < v) = k5); (try revert k0); (try revert k3); (try revert k4); (try revert k5); decide) | (intro h; simp_all)) (by first | exact fun _ _ => rfl | ((try generalize decide (at' < 0) = k0); (try generalize di = k3); (try generalize i = k4); (try generalize decide (dv < v) = k5); (try revert k0); (try revert k3); (try revert k4); (try revert k5); decide) | (intro h1 h2; simp_all))) ?_
      refine WG.y rfl rfl (by decide) (Yl.por rfl rfl rfl (fun _ => rfl) (by first | exact fun _ _ => rfl | ((try generalize decide (at' < 0) = k0); (try generalize di = k3); (try generalize i = k4); (try generalize decide (dv < v) = k5); (try revert k0); (try revert k3); (try revert k4); (try revert k5); decide) | (intro h1 h2; simp_all))) ?_
      refine WG.run tab_ok 1 rfl ?_
      refine WG.y rfl rfl (by decide) (pureV_ok tab_ok rfl (by first | exact fun _ => rfl | exact fun h => h | ((try generalize decide (at' < 0) = k0); (try generalize di = k3); (try generalize i = k4); (try generalize decide (dv < v) = k5); (try revert k0); (try revert k3); (try revert k4); (try revert k5); decide) | (intro h; simp_all))) ?_
      refine' WG.y rfl rfl (by decide) (Yl.loadG tab_ok rfl rfl rfl (by first | exact fun _ => rfl | exact fun h => h | ((try generalize decide (at' < 0) = k0); (try generalize di = k3); (try generalize i = k4); (try generalize decide (dv < v) = k5); (try revert k0); (try revert k3); (try revert k4); (try revert k5); decide) | (intro h; simp_all)) ?r10 rfl ?h10 ?g10) ?_
      case r10 => apply Rd.addC; (exact Rd.blkC 0 rfl)
      case h10 => rfl
      case g10 => exact fun _ => trivial
      refine WG.y rfl rfl (by decide) (pureV_ok tab_ok rfl (by first | exact fun _ => rfl | exact fun h => h | ((try generalize decide (at' < 0) = k0); (try generalize di = k3); (try generalize i = k4); (try generalize decide (dv < v) = k5); (try revert k0); (try revert k3); (try revert k4); (try revert k5); decide) | (intro h; simp_all))) ?_
      refine WG.y rfl rfl (by decide) (pureV_ok tab_ok rfl (by first | exact fun _ => rfl | exact fun h => h | ((try generalize decide (at' < 0) = k0); (try generalize di = k3); (try generalize i = k4); (try generalize decide (dv < v) = k5); (try revert k0); (try revert k3); (try revert k4); (try revert k5); decide) | (intro h; simp_all))) ?_
      refine WG.y rfl rfl (by decide) (pureV_ok tab_ok rfl (by first | exact fun _ => rfl | exact fun h => h | ((try generalize decide (at' < 0) = k0); (try generalize di = k3); (try generalize i = k4); (try generalize decide (dv < v) = k5); (try revert k0); (try revert k3); (try revert k4); (try revert k5); decide) | (intro h; simp_all))) ?_
      refine' WG.y rfl rfl (by decide) (Yl.loadG tab_ok rfl rfl rfl (by first | exact fun _ => rfl | exact fun h => h | ((try generalize decide (at' < 0) = k0); (try generalize di = k3); (try generalize i = k4); (try generalize decide (dv < v) = k5); (try revert k0); (try revert k3); (try revert k4); (try revert k5); decide) | (intro h; simp_all)) ?r11 rfl ?h11 ?g11) ?_
      case r11 => apply Rd.addC; (exact Rd.blkC 2 rfl)
      case h11 => rfl
      case g11 => exact fun _ => trivial
      refine WG.y rfl rfl (by decide) (pureV_ok tab_ok rfl (by first | exact fun _ => rfl | exact fun h => h | ((try generalize decide (at' < 0) = k0); (try generalize di = k3); (try generalize i = k4); (try generalize decide (dv < v) = k5); (try revert k0); (try revert k3); (try revert k4); (try revert k5); decide) | (intro h; simp_all))) ?_
      refine WG.y rfl rfl (by decide) (Yl.pand rfl rfl rfl (by first | exact fun _ => rfl | exact fun h => h | ((try generalize decide (at' < 0) = k0); (try generalize di = k3); (try generalize i = k4); (try generalize decide (dv < v) = k5); (try revert k0); (try revert k3); (try revert k4); (try revert k5); decide) | (intro h; simp_all)) (by first | exact fun _ _ => rfl | ((try generalize decide (at' < 0) = k0); (try generalize di = k3); (try generalize i = k4); (try generalize decide (dv < v) = k5); (try revert k0); (try revert k3); (try revert k4); (try revert k5); decide) | (intro h1 h2; simp_all))) ?_
      refine WG.y rfl rfl (by decide) (pureV_ok tab_ok rfl (by first | exact fun _ => rfl | exact fun h => h | ((try generalize decide (at' < 0) = k0); (try generalize di = k3); (try generalize i = k4); (try generalize decide (dv < v) = k5); (try revert k0); (try revert k3); (try revert k4); (try revert k5); decide) | (intro h; simp_all))) ?_
      refine WG.y rfl rfl (by decide) (pureV_ok tab_ok rfl (by first | exact fun _ => rfl | exact fun h => h | ((try generalize decide (at' < 0) = k0); (try generalize di = k3); (try generalize i = k4); (try generalize decide (dv < v) = k5); (try revert k0); (try revert k3); (try revert k4); (try revert k5); decide) | (intro h; simp_all))) ?_
      refine' WG.y rfl rfl (by decide) (Yl.loadG tab_ok rfl rfl rfl (by first | exact fun _ => rfl | exact fun h => h | ((try generalize decide (at' < 0) = k0); (try generalize di = k3); (try generalize i = k4); (try generalize decide (dv < v) = k5); (try revert k0); (try revert k3); (try revert k4); (try revert k5); decide) | (intro h; simp_all)) ?r12 rfl ?h12 ?g12) ?_
      case r12 => apply Rd.addC; (exact Rd.blkC 0 rfl)
      case h12 => rfl
      case g12 => exact fun _ => trivial
      refine WG.y rfl rfl (by decide) (pureV_ok tab_ok rfl (by first | exact fun _ => rfl | exact fun h => h | ((try generalize decide (at' < 0) = k0); (try generalize di = k3); (try generalize i = k4); (try generalize decide (dv < v) = k5); (try revert k0); (try revert k3); (try revert k4); (try revert k5); decide) | (intro h; simp_all))) ?_
      refine' WG.y rfl rfl (by decide) (Yl.loadG tab_ok rfl rfl rfl (by first | exact fun _ => rfl | exact fun h => h | ((try generalize decide (at' < 0) = k0); (try generalize di = k3); (try generalize i = k4); (try generalize decide (dv < v) = k5); (try revert k0); (try revert k3); (try revert k4); (try revert k5); decide) | (intro h; simp_all)) ?r13 rfl ?h13 ?g13) ?_
      case r13 => apply Rd.addC; (exact Rd.blkC 2 rfl)
      case h13 => rfl
      case g13 => exact fun _ => trivial
      refine WG.y rfl rfl (by decide) (pureV_ok tab_ok rfl (by first | exact fun _ => rfl | exact fun h => h | ((try generalize decide (at' < 0) = k0); (try generalize di = k3); (try generalize i = k4); (try generalize decide (dv < v) = k5); (try revert k0); (try revert k3); (try revert k4); (try revert k5); decide) | (intro h; simp_all))) ?_
      refine WG.y rfl rfl (by decide) (Yl.pand rfl rfl rfl (by first | exact fun _ => rfl | exact fun h => h | ((try generalize decide (at' < 0) = k0); (try generalize di = k3); (try generalize i = k4); (try generalize decide (dv < v) = k5); (try revert k0); (try revert k3); (try revert k4); (try revert k5); decide) | (intro h; simp_all)) (by first | exact fun _ _ => rfl | ((try generalize decide (at' < 0) = k0); (try generalize di = k3); (try generalize i = k4); (try generalize decide (dv < v) = k5); (try revert k0); (try revert k3); (try revert k4); (try revert k5); decide) | (intro h1 h2; simp_all))) ?_
      refine WG.y rfl rfl (by decide) (Yl.por rfl rfl rfl (fun _ => rfl) (by first | exact fun _ _ => rfl | ((try generalize decide (at' < 0) = k0); (try generalize di = k3); (try generalize i = k4); (try generalize decide (dv < v) = k5); (try revert k0); (try revert k3); (try revert k4); (try revert k5); decide) | (intro h1 h2; simp_all))) ?_
      refine WG.nil (WE.nxt ?_)
      refine W.cond rfl (fun hc5 => ?_) (fun hc5 => ?_)
      ·try simp only [kk] at hc5
       have hyes : (0 : Int) = 0 ∧ betterD (di, dv, da) (optB at' (i, v, a)) = true := ⟨rfl, hbi.2 hc5⟩
       rw [if_pos hyes, ← hn2] at hgo
       refine W.regionH _ (ES := [.blk b16 [.bool di, .int .i64 dv, .int .i64 da]]) mixed ?_
       refine WA.take 0 rfl qK qK qK rfl rfl qD (pureV_ok tab_ok rfl (fun _ => rfl)) qS qR ?_
       refine' WA.take 1 rfl qK qK qK rfl rfl qD (Yl.load1 tab_ok rfl rfl rfl (fun _ => rfl) ?r14 rfl ?h14) qS qR ?_
       case r14 => (exact Rd.blk 0 rfl)
       case h14 => rfl
       refine WA.take 2 rfl qK qK qK rfl rfl qD (pureV_ok tab_ok rfl (fun _ => rfl)) qS qR ?_
       refine WA.effN 3 rfl qK rfl rfl (Ef.store0 2 tab_ok rfl rfl rfl rfl rfl rfl rfl rfl ?_)
       refine ⟨by first | exact RLe.refl _ | assumption, qS, ?_⟩
       refine WA.done qK ?_
       refine WE.blk _ (WE.nxt (W.region _ (WG.run tab_ok 1 rfl ?_)))
       refine WG.y rfl rfl (by decide) (Yl.add rfl rfl rfl (fun _ => rfl) (by intro _; constructor <;> (try dsimp only) <;> omega)) ?_
       refine WG.run tab_ok 1 rfl (WG.nil ?_)
       refine WE.again ((k + 1, (k : Int), di, dv, da, R4)) (⟨by (try dsimp only); omega, hRk.trans (hR3.trans hR4), ⟨by (try dsimp only); omega, by (try dsimp only); omega⟩, by constructor <;> (try dsimp only) <;> omega, by rw [← hgo]; unfold optB; rw [if_neg (by (try dsimp only); omega)]; rfl⟩) (by (try dsimp only); omega) ⟨rfl, rfl, rfl, rfl, rfl, rfl, rfl, rfl, rfl⟩ (RLe.refl _) qS
      ·try simp only [kk] at hc5
       have hno : ¬ ((0 : Int) = 0 ∧ betterD (di, dv, da) (optB at' (i, v, a)) = true) := fun h => by
        rcases hbi.1 h.2 with (h2 | ⟨h2, h3⟩) | ⟨⟨h2, h4⟩, h3⟩
        ·omega
        ·have := hc5.1.2 h2; rw [this] at h3; cases h3
        ·have := hc5.2 ⟨h2, h4⟩; omega
       rw [if_neg hno, ← hn2] at hgo
       refine W.skip (WE.blk _ (WE.nxt (W.region _ (WG.run tab_ok 1 rfl ?_))))
       refine WG.y rfl rfl (by decide) (Yl.add rfl rfl rfl (fun _ => rfl) (by intro _; constructor <;> (try dsimp only) <;> omega)) ?_
       refine WG.run tab_ok 1 rfl (WG.nil ?_)
       refine WE.again ((k + 1, at', i, v, a, R4)) (⟨by (try dsimp only); omega, hRk.trans (hR3.trans hR4), hat, hvi, hgo⟩) (by (try dsimp only); omega) ⟨rfl, rfl, rfl, rfl, rfl, rfl, rfl, rfl, rfl⟩ (RLe.refl _) qS
   ·try dsimp only at hc2
    obtain rfl : k = most + 1 := by omega
    rw [Nat.sub_self, leastGo] at hgo
    refine W.exit ?_
    refine WE.then_exit (WE.then_exit (WE.blk_exit (WE.nxt (W.seq (W.seq (W.region _ (WG.run tab_ok 2 rfl (WG.nil (WE.nxt ?_)))))))))
    refine W.condD rfl (fun hc6 => ?_) (fun hc6 => ?_)
    ·try dsimp only at hc6
     have ho0 : optB at' (i, v, a) = none := if_pos (by omega)
     rw [ho0] at hgo
     refine W.seq (W.region _ ?_)
     -- build
     refine WG.y rfl rfl qD (Yl.build (parts := []) tab_ok rfl rfl rfl rfl (fun _ => rfl) rfl rfl) ?_
     refine WG.run tab_ok 1 rfl ?_
     refine WL.efN rfl rfl (Ef.store0 1 tab_ok rfl rfl rfl rfl rfl rfl rfl rfl ?_)
     refine WG.run tab_ok 1 rfl (WG.nil (WE.nxt (W.ret (WE.then_ret ?_))))
     refine WE.retF tab_ok [_, _, _] rfl ⟨rfl, ⟨_, _, _, rfl, rfl, rfl, ((by first | exact Rd.blk 0 rfl | exact Rd.blk 1 rfl | exact Rd.blk 2 rfl | exact Rd.blk 3 rfl | exact Rd.blk 4 rfl | exact Rd.blk 5 rfl | exact Rd.blk 6 rfl | exact Rd.blk 7 rfl | exact Rd.blk 8 rfl | exact Rd.blk 9 rfl)), rfl⟩, rfl, trivial⟩ ((by first | exact RLe.refl _ | exact hRk)) ?_
     exact ⟨by rw [← hgo]; first | rfl | (unfold outD; dsimp only; rw [hatn]; rfl), qS⟩
    ·try dsimp only at hc6
     have ho0 : optB at' (i, v, a) = some (at'.toNat, i, v, a) := if_neg (by omega)
     rw [ho0] at hgo
     have hatn : ((at'.toNat : Nat) : Int) = at' := by omega
     refine W.skip (WE.nxt (W.seq ?_))
     refine W.regionH _ (ES := [.blk b12 [.bool i, .int .i64 v, .int .i64 a]]) mixed ?_
     refine WA.take 0 rfl qK qK qK rfl rfl qD (pureV_ok tab_ok rfl (fun _ => rfl)) qS qR ?_
     refine' WA.take 1 rfl qK qK qK rfl rfl qD (Yl.load1 tab_ok rfl rfl rfl (fun _ => rfl) ?r15 rfl ?h15) qS qR ?_
     case r15 => (exact Rd.blk 0 rfl)
     case h15 => rfl
     refine WA.take 2 rfl qK qK qK rfl rfl qD (pureV_ok tab_ok rfl (fun _ => rfl)) qS qR ?_
     refine WA.effN 3 rfl qK rfl rfl (Ef.store0 1 tab_ok rfl rfl rfl rfl rfl rfl rfl rfl ?_)
     refine ⟨by first | exact RLe.refl _ | assumption, qS, ?_⟩
     refine WA.take 4 rfl qK qK qK rfl rfl qD (pureV_ok tab_ok rfl (fun _ => rfl)) qS qR ?_
     refine WA.done qK ?_
     refine WE.nxt (W.ret ?_)
     refine WE.retF tab_ok [_, _, _] rfl ⟨rfl, ⟨_, _, _, rfl, rfl, rfl, ((by first | exact Rd.blk 0 rfl | exact Rd.blk 1 rfl | exact Rd.blk 2 rfl | exact Rd.blk 3 rfl | exact Rd.blk 4 rfl | exact Rd.blk 5 rfl | exact Rd.blk 6 rfl | exact Rd.blk 7 rfl | exact Rd.blk 8 rfl | exact Rd.blk 9 rfl)), rfl⟩, rfl, trivial⟩ ((by first | exact RLe.refl _ | exact hRk)) ?_
     exact ⟨by rw [← hgo]; first | rfl | (unfold outD; dsimp only; rw [hatn]; rfl), qS⟩

end Go.Proofs.Ytnackbfnmhkodaa

/- Small curves; the reference of a valid curve, for any list. No condition. -/
set_option maxRecDepth 4000
set_option linter.unusedSimpArgs false
set_option linter.unusedVariables false
namespace Go.Proofs.Ytnackbfnmhkodaa
open Go Go.RowKit Go.Proofs.Ytnackbfnmhkodaa.K Go.Proofs.Ytnackbfnmhkodaa.M

theorem SmallK_V {R : Ro} {a : Option Addr} {n fc : Nat} {p q : Int} : FnV Try.prog 5 [.agg #[.slice a n fc, .int .i64 p, .int .i64 q]] R (.bool (decide ((n : Int) ≤ 800))) := by
 refine Fn.toV (fun w0 E => ?_)
 refine Fn.enter (n := 7) Try.func5 rfl rfl (Nat.le_of_ble_eq_true rfl) rfl ?_
 refine W.seq (W.region _ ?_)
 refine WL.ef rfl rfl qD (Ef.box rfl rfl (fun b1 => ?_))
 refine WG.run tab_ok 1 rfl (WG.nil (WE.nxt (W.seq (W.region _ (WG.run tab_ok 1 rfl ?_)))))
 refine' WG.y rfl rfl qD (Yl.load1 tab_ok rfl rfl rfl (fun _ => rfl) ?r1 rfl ?h1) ?_
 case r1 => apply Rd.add; (exact Rd.blk 0 rfl)
 case h1 => rfl
 refine WG.run tab_ok 3 rfl (WG.nil (WE.nxt (W.ret ?_)))
 refine WE.subE (E' := E) qS ?_
 refine WE.retF tab_ok [_] rfl ⟨rfl, trivial⟩ (RLe.refl _) ?_
 exact ⟨rfl, rfl⟩

theorem ValidA_V {R : Ro} {a : Option Addr} {c : Nat} {v : List Int} {per inc : Int} (ha : RS R 1 encI a v) : FnV Try.prog 27 [.agg #[.slice a v.length c, .int .i64 per, .int .i64 inc]] R (.bool (validB ⟨v, per, inc⟩)) := by
 have hla := ha.len
 refine Fn.toV (fun w0 E => ?_)
 refine Fn.enter (n := 118) Try.func27 rfl rfl (Nat.le_of_ble_eq_true rfl) rfl ?_
 refine W.seq (W.region _ ?_)
 refine WL.ef rfl rfl qD (Ef.box rfl rfl (fun b1 => ?_))
 refine WG.run tab_ok 1 rfl (WG.nil (WE.nxt (W.seq (W.region _ (WG.run tab_ok 1 rfl ?_)))))
 refine' WG.y rfl rfl qD (Yl.load1 tab_ok rfl rfl rfl (fun _ => rfl) ?r1 rfl ?h1) ?_
 case r1 => apply Rd.add; (exact Rd.blk 0 rfl)
 case h1 => rfl
 refine WG.run tab_ok 2 rfl (WG.nil (WE.nxt (W.seq (W.seq (W.region _ (WG.run tab_ok 3 rfl ?_))))))
 refine WG.y rfl rfl qD (pureV_ok tab_ok rfl qE) ?_
 refine WG.y rfl rfl qD (pureV_ok tab_ok rfl qE) ?_
 refine WG.y rfl rfl (by decide) (Yl.por rfl rfl rfl (fun _ => rfl) (by intro h1 h2; simp_all <;> omega)) ?_
 refine WG.run tab_ok 1 rfl ?_
 refine WG.y rfl rfl qD (pureV_ok tab_ok rfl qE) ?_
 refine' WG.y rfl rfl qD (Yl.loadG tab_ok rfl rfl rfl qE ?r2 rfl ?h2 ?g2) ?_
 case r2 => apply Rd.addC; (exact Rd.blkC 0 rfl)
 case h2 => rfl
 case g2 => exact fun _ => trivial
 refine WG.y rfl rfl qD (pureV_ok tab_ok rfl qE) ?_
 refine WG.y rfl rfl (by decide) (Yl.por rfl rfl rfl (fun _ => rfl) (by intro h1 h2; simp_all <;> omega)) ?_
 refine WG.run tab_ok 1 rfl ?_
 refine WG.y rfl rfl qD (pureV_ok tab_ok rfl qE) ?_
 refine' WG.y rfl rfl qD (Yl.loadG tab_ok rfl rfl rfl qE ?r3 rfl ?h3 ?g3) ?_
 case r3 => apply Rd.addC; (exact Rd.blkC 0 rfl)
 case h3 => rfl
 case g3 => exact fun _ => trivial
 refine WG.y rfl rfl qD (pureV_ok tab_ok rfl qE) ?_
 refine WG.y rfl rfl (by decide) (Yl.por rfl rfl rfl (fun _ => rfl) (by intro h1 h2; simp_all <;> omega)) ?_
 refine WG.run tab_ok 1 rfl ?_
 refine WG.y rfl rfl qD (pureV_ok tab_ok rfl qE) ?_
 refine' WG.y rfl rfl qD (Yl.loadG tab_ok rfl rfl rfl qE ?r4 rfl ?h4 ?g4) ?_
 case r4 => apply Rd.addC; (exact Rd.blkC 0 rfl)
 case h4 => rfl
 case g4 => exact fun _ => trivial
 refine WG.y rfl rfl qD (pureV_ok tab_ok rfl qE) ?_
 refine WG.y rfl rfl qD (pureV_ok tab_ok rfl qE) ?_
 refine WG.y rfl rfl (by decide) (Yl.por rfl rfl rfl (fun _ => rfl) (by intro h1 h2; simp_all <;> omega)) ?_
 refine WG.run tab_ok 1 rfl ?_
 refine WG.y rfl rfl qD (pureV_ok tab_ok rfl qE) ?_
 refine' WG.y rfl rfl qD (Yl.loadG tab_ok rfl rfl rfl qE ?r5 rfl ?h5 ?g5) ?_
 case r5 => apply Rd.addC; (exact Rd.blkC 0 rfl)
 case h5 => rfl
 case g5 => exact fun _ => trivial
 refine WG.y rfl rfl qD (pureV_ok tab_ok rfl qE) ?_
 refine WG.y rfl rfl (by decide) (Yl.por rfl rfl rfl (fun _ => rfl) (by intro h1 h2; simp_all <;> omega)) ?_
 refine WG.run tab_ok 1 rfl ?_
 refine WG.y rfl rfl qD (pureV_ok tab_ok rfl qE) ?_
 refine' WG.y rfl rfl qD (Yl.loadG tab_ok rfl rfl rfl qE ?r6 rfl ?h6 ?g6) ?_
 case r6 => apply Rd.addC; (exact Rd.blkC 0 rfl)
 case h6 => rfl
 case g6 => exact fun _ => trivial
 refine WG.y rfl rfl qD (pureV_ok tab_ok rfl qE) ?_
 refine WG.y rfl rfl (by decide) (Yl.por rfl rfl rfl (fun _ => rfl) (by intro h1 h2; simp_all <;> omega)) ?_
 refine WG.nil (WE.nxt ?_)
 refine W.cond rfl (fun hc0 => ?_) (fun hc0 => ?_)
 ·try simp only [kk] at hc0
  have hno : validB ⟨v, per, inc⟩ = false := validB_false (fun h => by obtain ⟨⟨a1, a2, a3, a4, a5, a6, a7⟩, _⟩ := h; dsimp only at a1 a2 a3 a4 a5 a6 a7; unfold MAXV at a7; omega)
  refine W.seq (W.region _ (WG.run tab_ok 1 rfl (WG.nil (WE.nxt (W.ret (WE.then_ret ?_))))))
  refine WE.subE (E' := E) qS ?_
  refine WE.retF tab_ok [_] rfl ⟨rfl, trivial⟩ (RLe.refl _) ?_
  exact ⟨by rw [hno]; rfl, rfl⟩
 ·try simp only [kk] at hc0
  have hall : 1 ≤ v.length ∧ v.length ≤ 400 ∧ 1 ≤ per ∧ per ≤ 120 ∧ per ≤ v.length ∧ 0 ≤ inc ∧ inc ≤ MAXV := by unfold MAXV; omega
  refine W.skip (WE.nxt (W.seq (W.seq (W.region _ (WG.run tab_ok 1 rfl (WG.nil (WE.nxt (W.block ?_))))))))
  refine W.loopK (β := Nat) (fun i => i ≤ v.length ∧ ∀ j, j < i → (nth v j = INF ∨ (0 ≤ nth v j ∧ nth v j ≤ MAXV)) ∧ (j = 0 ∨ nth v (j - 1) ≤ nth v j)) (fun i => [(4, true, .int .i64 (i : Int))]) [1, 3] [_, _] [] _ rfl (fun i => []) (fun i => v.length - i) (0) (⟨Nat.zero_le _, fun j hj => by omega⟩) ⟨rfl, rfl, rfl, rfl⟩ qS ?_
  intro i hst
  dsimp only [zipE, setAll, List.cons_append, List.nil_append, List.set_cons_zero, List.set_cons_succ] at hst ⊢
  
  refine W.seq (W.seq (W.region _ (WG.run tab_ok 3 rfl (WG.nil (WE.nxt ?_)))))
  refine W.condD rfl (fun hc1 => ?_) (fun hc1 => ?_)
  ·try dsimp only at hc1
   have hil : i < v.length := by omega
   have e1 : 0 < i → ((i : Int) - 1).toNat = i - 1 := fun _ => by omega
   refine W.skip (WE.nxt (W.seq (W.block (W.seq ?_))))
   refine W.regionQ _ mixed qK ?_
   refine WG.run tab_ok 1 rfl ?_
   refine' WG.y rfl rfl qD (Yl.load1 tab_ok rfl rfl rfl (fun _ => rfl) ?r7 rfl ?h7) ?_
   case r7 => apply Rd.add; (exact Rd.blk 0 rfl)
   case h7 => rfl
   refine WG.run tab_ok 1 rfl ?_
   refine WG.y rfl rfl (by decide) (Yl.indexN tab_ok rfl rfl rfl rfl rfl rfl (fun _ => rfl) (by intro _; (try dsimp only) <;> omega) (by intro _; first | exact fun _ _ _ _ => rfl | exact RS.has (by assumption) | exact fun _ _ _ _ => (by assumption) | exact HasMem.ownD 0 rfl | exact HasMem.ownD 1 rfl | exact HasMem.ownD 2 rfl)) ?_
   refine' WG.y rfl rfl qD (Yl.load1 tab_ok rfl rfl rfl (fun _ => rfl) ?r8 rfl ?h8) ?_
   case r8 => ((apply RS.rdD; assumption; ((try dsimp only) <;> omega)))
   case h8 => rfl
   refine WG.run tab_ok 2 rfl ?_
   refine WG.y rfl rfl qD (pureV_ok tab_ok rfl qE) ?_
   refine' WG.y rfl rfl qD (Yl.loadG tab_ok rfl rfl rfl qE ?r9 rfl ?h9 ?g9) ?_
   case r9 => apply Rd.addC; (exact Rd.blkC 0 rfl)
   case h9 => rfl
   case g9 => exact fun _ => trivial
   refine WG.y rfl rfl qD (pureV_ok tab_ok rfl qE) ?_
   refine WG.y rfl rfl (by decide) (Yl.indexN tab_ok rfl rfl rfl rfl rfl rfl qE (by intro hg; (try simp only [kk] at hg); (try dsimp only) <;> omega) (by intro hg; (try simp only [kk] at hg); first | exact fun _ _ _ _ => rfl | exact RS.has (by assumption) | exact fun _ _ _ _ => (by assumption) | exact HasMem.ownD 0 rfl | exact HasMem.ownD 1 rfl | exact HasMem.ownD 2 rfl)) ?_
   refine' WG.y rfl rfl qD (Yl.loadG tab_ok rfl rfl rfl qE ?r10 rfl ?h10 ?g10) ?_
   case r10 => ((apply RS.rdC; assumption))
   case h10 => rfl
   case g10 => (intro hg; (try simp only [kk] at hg); (try dsimp only); omega)
   refine WG.y rfl rfl qD (pureV_ok tab_ok rfl qE) ?_
   refine WG.y rfl rfl qD (pureV_ok tab_ok rfl qE) ?_
   refine WG.y rfl rfl qD (pureV_ok tab_ok rfl qE) ?_
   refine' WG.y rfl rfl qD (Yl.loadG tab_ok rfl rfl rfl qE ?r11 rfl ?h11 ?g11) ?_
   case r11 => apply Rd.addC; (exact Rd.blkC 0 rfl)
   case h11 => rfl
   case g11 => exact fun _ => trivial
   refine WG.y rfl rfl qD (pureV_ok tab_ok rfl qE) ?_
   refine WG.y rfl rfl (by decide) (Yl.indexN tab_ok rfl rfl rfl rfl rfl rfl qE (by intro hg; (try simp only [kk] at hg); (try dsimp only) <;> omega) (by intro hg; (try simp only [kk] at hg); first | exact fun _ _ _ _ => rfl | exact RS.has (by assumption) | exact fun _ _ _ _ => (by assumption) | exact HasMem.ownD 0 rfl | exact HasMem.ownD 1 rfl | exact HasMem.ownD 2 rfl)) ?_
   refine' WG.y rfl rfl qD (Yl.loadG tab_ok rfl rfl rfl qE ?r12 rfl ?h12 ?g12) ?_
   case r12 => ((apply RS.rdC; assumption))
   case h12 => rfl
   case g12 => (intro hg; (try simp only [kk] at hg); (try dsimp only); omega)
   refine WG.y rfl rfl qD (pureV_ok tab_ok rfl qE) ?_
   refine WG.y rfl rfl (by decide) (Yl.por rfl rfl rfl qE (by intro h1 h2; simp_all <;> omega)) ?_
   refine WG.y rfl rfl (by decide) (Yl.pand rfl rfl rfl (fun _ => rfl) (by intro h1 h2; simp_all <;> omega)) ?_
   refine WG.run tab_ok 1 rfl ?_
   refine WG.y rfl rfl qD (pureV_ok tab_ok rfl qE) ?_
   refine WG.y rfl rfl qD (pureV_ok tab_ok rfl qE) ?_
   refine WG.y rfl rfl qD (pureV_ok tab_ok rfl qE) ?_
   refine WG.y rfl rfl qD (pureV_ok tab_ok rfl qE) ?_
   refine' WG.y rfl rfl qD (Yl.loadG tab_ok rfl rfl rfl qE ?r13 rfl ?h13 ?g13) ?_
   case r13 => apply Rd.addC; (exact Rd.blkC 0 rfl)
   case h13 => rfl
   case g13 => exact fun _ => trivial
   refine WG.y rfl rfl qD (pureV_ok tab_ok rfl qE) ?_
   refine WG.y rfl rfl (by decide) (Yl.indexN tab_ok rfl rfl rfl rfl rfl rfl qE (by intro hg; (try simp only [kk] at hg); (try dsimp only) <;> omega) (by intro hg; (try simp only [kk] at hg); first | exact fun _ _ _ _ => rfl | exact RS.has (by assumption) | exact fun _ _ _ _ => (by assumption) | exact HasMem.ownD 0 rfl | exact HasMem.ownD 1 rfl | exact HasMem.ownD 2 rfl)) ?_
   refine' WG.y rfl rfl qD (Yl.loadG tab_ok rfl rfl rfl qE ?r14 rfl ?h14 ?g14) ?_
   case r14 => ((apply RS.rdC; assumption))
   case h14 => rfl
   case g14 => (intro hg; (try simp only [kk] at hg); (try dsimp only); omega)
   refine WG.y rfl rfl qD (pureV_ok tab_ok rfl qE) ?_
   refine' WG.y rfl rfl qD (Yl.loadG tab_ok rfl rfl rfl qE ?r15 rfl ?h15 ?g15) ?_
   case r15 => apply Rd.addC; (exact Rd.blkC 0 rfl)
   case h15 => rfl
   case g15 => exact fun _ => trivial
   refine WG.y rfl rfl qD (pureV_ok tab_ok rfl qE) ?_
   refine WG.y rfl rfl (by decide) (Yl.sub rfl rfl rfl qE (by intro hg; (try simp only [kk] at hg); constructor <;> (try dsimp only) <;> omega)) ?_
   refine WG.y rfl rfl (by decide) (Yl.index tab_ok rfl rfl rfl rfl rfl rfl qE (by intro hg; (try simp only [kk] at hg); constructor <;> (try dsimp only) <;> omega) (by intro hg; (try simp only [kk] at hg); first | exact fun _ _ _ _ => rfl | exact RS.has (by assumption) | exact fun _ _ _ _ => (by assumption) | exact HasMem.ownD 0 rfl | exact HasMem.ownD 1 rfl | exact HasMem.ownD 2 rfl)) ?_
   refine' WG.y rfl rfl qD (Yl.loadG tab_ok rfl rfl rfl qE ?r16 rfl ?h16 ?g16) ?_
   case r16 => ((apply RS.rdC; assumption))
   case h16 => rfl
   case g16 => (intro hg; (try simp only [kk] at hg); (try dsimp only); omega)
   refine WG.y rfl rfl qD (pureV_ok tab_ok rfl qE) ?_
   refine WG.y rfl rfl (by decide) (Yl.pand rfl rfl rfl qE (by intro h1 h2; simp_all <;> omega)) ?_
   refine WG.y rfl rfl (by decide) (Yl.por rfl rfl rfl (fun _ => rfl) (by intro h1 h2; simp_all <;> omega)) ?_
   refine WG.nil (WE.nxt ?_)
   refine W.cond rfl (fun hc2 => ?_) (fun hc2 => ?_)
   ·try simp only [kk] at hc2
    have hno : validB ⟨v, per, inc⟩ = false := validB_false (fun h => by
     obtain ⟨_, h2, _⟩ := h
     have h2 := h2 i hil
     dsimp only at h2
     unfold INF MAXV at h2
     rcases hc2 with ⟨x1, x2⟩ | ⟨x1, x2⟩
     ·omega
     ·rw [e1 (by omega)] at x2; omega)
    refine W.seq (W.region _ (WG.run tab_ok 1 rfl (WG.nil (WE.nxt (W.ret (WE.blk_ret (WE.then_ret (WE.then_ret (WE.blk_ret (WE.then_ret ?_))))))))))
    refine WE.subE (E' := E) qS ?_
    refine WE.retF tab_ok [_] rfl ⟨rfl, trivial⟩ (RLe.refl _) ?_
    exact ⟨by rw [hno]; rfl, rfl⟩
   ·try simp only [kk] at hc2
    have hy : (nth v i = INF ∨ (0 ≤ nth v i ∧ nth v i ≤ MAXV)) ∧ (i = 0 ∨ nth v (i - 1) ≤ nth v i) := by
     obtain ⟨x1, x2⟩ := hc2
     unfold INF MAXV
     refine ⟨by omega, ?_⟩
     by_cases h : i = 0
     ·exact .inl h
     ·have := x2 (by omega)
      rw [e1 (by omega)] at this
      right; omega
    refine W.skip (WE.blk _ (WE.nxt (W.region _ (WG.run tab_ok 1 rfl ?_))))
    refine WG.y rfl rfl (by decide) (Yl.add rfl rfl rfl (fun _ => rfl) (by intro _; constructor <;> (try dsimp only) <;> omega)) ?_
    refine WG.run tab_ok 1 rfl (WG.nil ?_)
    refine WE.again (i + 1) (⟨by omega, fun j hj => by
     by_cases e : j = i
     ·subst e; exact hy
     ·exact hst.2 j (by omega)⟩) (by (try dsimp only); omega) ⟨rfl, rfl, rfl, rfl⟩ (RLe.refl _) qS
  ·try dsimp only at hc1
   obtain rfl : i = v.length := by omega
   have hvn : ∀ j, j < v.length → 0 ≤ nth v j ∧ nth v j ≤ 4611686018427387904 := fun j hj => by
    have := (hst.2 j hj).1
    unfold INF MAXV at this
    omega
   have e2 : ((v.length : Int) - 1).toNat = v.length - 1 := by omega
   have e3 : ((v.length : Int) - per).toNat = v.length - per.toNat := by omega
   have hx1 := hvn (((v.length : Int) - 1).toNat) (by omega)
   have hx2 := hvn (((v.length : Int) - per).toNat) (by omega)
   have hx2b : nth v ((v.length : Int) - 1).toNat ≠ 4611686018427387904 → nth v ((v.length : Int) - per).toNat + inc ≤ 4611686018427387904 + 1073741824 := fun _ => by unfold MAXV at hall; omega
   refine W.exit ?_
   refine WE.then_exit (WE.then_exit (WE.blk_exit (WE.nxt (W.seq (W.seq (W.region _ (WG.run tab_ok 1 rfl ?_)))))))
   refine' WG.y rfl rfl qD (Yl.load1 tab_ok rfl rfl rfl (fun _ => rfl) ?r17 rfl ?h17) ?_
   case r17 => apply Rd.add; (exact Rd.blk 0 rfl)
   case h17 => rfl
   refine WG.run tab_ok 1 rfl ?_
   refine WG.y rfl rfl (by decide) (Yl.sub rfl rfl rfl (fun _ => rfl) (by intro _; constructor <;> (try dsimp only) <;> omega)) ?_
   refine WG.y rfl rfl (by decide) (Yl.index tab_ok rfl rfl rfl rfl rfl rfl (fun _ => rfl) (by intro _; constructor <;> (try dsimp only) <;> omega) (by intro _; first | exact fun _ _ _ _ => rfl | exact RS.has (by assumption) | exact fun _ _ _ _ => (by assumption) | exact HasMem.ownD 0 rfl | exact HasMem.ownD 1 rfl | exact HasMem.ownD 2 rfl)) ?_
   refine' WG.y rfl rfl qD (Yl.load1 tab_ok rfl rfl rfl (fun _ => rfl) ?r18 rfl ?h18) ?_
   case r18 => exact RS.rdD ha qO
   case h18 => rfl
   refine WG.run tab_ok 1 rfl (WG.nil (WE.nxt ?_))
   refine W.condE rfl (fun hc3 => ?_) (fun hc3 => ?_)
   ·try dsimp only at hc3
    have hif : (if nth v (v.length - 1) = INF then per = 1 ∧ inc = 0 else nth v (v.length - 1) ≤ nth v (v.length - per.toNat) + inc) ↔ (per = 1 ∧ inc = 0) := by rw [if_pos (by rw [← e2]; exact hc3)]
    refine W.seq (W.region _ (WG.run tab_ok 1 rfl ?_))
    refine' WG.y rfl rfl qD (Yl.load1 tab_ok rfl rfl rfl (fun _ => rfl) ?r19 rfl ?h19) ?_
    case r19 => apply Rd.add; (exact Rd.blk 0 rfl)
    case h19 => rfl
    refine WG.run tab_ok 2 rfl ?_
    refine WG.y rfl rfl qD (pureV_ok tab_ok rfl qE) ?_
    refine' WG.y rfl rfl qD (Yl.loadG tab_ok rfl rfl rfl qE ?r20 rfl ?h20 ?g20) ?_
    case r20 => apply Rd.addC; (exact Rd.blkC 0 rfl)
    case h20 => rfl
    case g20 => exact fun _ => trivial
    refine WG.y rfl rfl qD (pureV_ok tab_ok rfl qE) ?_
    refine WG.y rfl rfl (by decide) (Yl.pand rfl rfl rfl (fun _ => rfl) (by intro h1 h2; simp_all <;> omega)) ?_
    refine WG.run tab_ok 1 rfl (WG.nil (WE.nxt (W.ret (WE.then_ret ?_))))
    refine WE.subE (E' := E) qS ?_
    refine WE.retF tab_ok [_] rfl ⟨rfl, trivial⟩ (RLe.refl _) ?_
    refine ⟨congrArg Value.bool ?_, rfl⟩
    rw [Bool.eq_iff_iff, validB_iff]
    dsimp only
    rw [hif]
    simp only [Bool.and_eq_true, beq_iff_eq]
    exact ⟨fun h => ⟨hall, fun j hj => hst.2 j hj, h⟩, fun h => h.2.2⟩
   ·try dsimp only at hc3
    have hif : (if nth v (v.length - 1) = INF then per = 1 ∧ inc = 0 else nth v (v.length - 1) ≤ nth v (v.length - per.toNat) + inc) ↔ (nth v (v.length - 1) ≤ nth v (v.length - per.toNat) + inc) := by rw [if_neg (by rw [← e2]; exact hc3)]
    refine W.skip (WE.nxt (W.seq ?_))
    refine W.regionQ _ mixed qK ?_
    refine WG.run tab_ok 1 rfl ?_
    refine' WG.y rfl rfl qD (Yl.load1 tab_ok rfl rfl rfl (fun _ => rfl) ?r21 rfl ?h21) ?_
    case r21 => apply Rd.add; (exact Rd.blk 0 rfl)
    case h21 => rfl
    refine WG.run tab_ok 2 rfl ?_
    refine' WG.y rfl rfl qD (Yl.load1 tab_ok rfl rfl rfl (fun _ => rfl) ?r22 rfl ?h22) ?_
    case r22 => apply Rd.add; (exact Rd.blk 0 rfl)
    case h22 => rfl
    refine WG.y rfl rfl (by decide) (Yl.sub rfl rfl rfl (fun _ => rfl) (by intro _; constructor <;> (try dsimp only) <;> omega)) ?_
    refine WG.y rfl rfl (by decide) (Yl.index tab_ok rfl rfl rfl rfl rfl rfl (fun _ => rfl) (by intro _; constructor <;> (try dsimp only) <;> omega) (by intro _; first | exact fun _ _ _ _ => rfl | exact RS.has (by assumption) | exact fun _ _ _ _ => (by assumption) | exact HasMem.ownD 0 rfl | exact HasMem.ownD 1 rfl | exact HasMem.ownD 2 rfl)) ?_
    refine' WG.y rfl rfl qD (Yl.load1 tab_ok rfl rfl rfl (fun _ => rfl) ?r23 rfl ?h23) ?_
    case r23 => exact RS.rdD ha qO
    case h23 => rfl
    refine WG.run tab_ok 1 rfl ?_
    refine' WG.y rfl rfl qD (Yl.load1 tab_ok rfl rfl rfl (fun _ => rfl) ?r24 rfl ?h24) ?_
    case r24 => apply Rd.add; (exact Rd.blk 0 rfl)
    case h24 => rfl
    refine WG.y rfl rfl (by decide) (Yl.add rfl rfl rfl (fun _ => rfl) (by intro _; constructor <;> (try dsimp only) <;> omega)) ?_
    refine WG.run tab_ok 1 rfl ?_
    refine' WG.y rfl rfl qD (Yl.load1 tab_ok rfl rfl rfl (fun _ => rfl) ?r25 rfl ?h25) ?_
    case r25 => apply Rd.add; (exact Rd.blk 0 rfl)
    case h25 => rfl
    refine WG.run tab_ok 1 rfl ?_
    refine WG.y rfl rfl (by decide) (Yl.sub rfl rfl rfl (fun _ => rfl) (by intro _; constructor <;> (try dsimp only) <;> omega)) ?_
    refine WG.y rfl rfl (by decide) (Yl.index tab_ok rfl rfl rfl rfl rfl rfl (fun _ => rfl) (by intro _; constructor <;> (try dsimp only) <;> omega) (by intro _; first | exact fun _ _ _ _ => rfl | exact RS.has (by assumption) | exact fun _ _ _ _ => (by assumption) | exact HasMem.ownD 0 rfl | exact HasMem.ownD 1 rfl | exact HasMem.ownD 2 rfl)) ?_
    refine' WG.y rfl rfl qD (Yl.load1 tab_ok rfl rfl rfl (fun _ => rfl) ?r26 rfl ?h26) ?_
    case r26 => exact RS.rdD ha qO
    case h26 => rfl
    refine WG.run tab_ok 2 rfl (WG.nil (WE.nxt (W.ret ?_)))
    refine WE.subE (E' := E) qS ?_
    refine WE.retF tab_ok [_] rfl ⟨rfl, trivial⟩ (RLe.refl _) ?_
    refine ⟨congrArg Value.bool ?_, rfl⟩
    rw [Bool.eq_iff_iff, validB_iff]
    dsimp only
    rw [hif, e2, e3]
    simp only [decide_eq_true_eq]
    exact ⟨fun h => ⟨hall, fun j hj => hst.2 j hj, h⟩, fun h => h.2.2⟩

end Go.Proofs.Ytnackbfnmhkodaa
