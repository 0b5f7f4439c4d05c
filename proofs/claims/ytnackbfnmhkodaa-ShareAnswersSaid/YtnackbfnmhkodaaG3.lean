/- Rules and walks, joined from 17 texts: the first of them says: A trial. No condition. -/
import Derived.Test.YtnackbfnmhkodaaG2
/- A trial. No condition. -/
set_option maxRecDepth 4000
set_option linter.unusedSimpArgs false
set_option linter.unusedVariables false
namespace Go.Proofs.Ytnackbfnmhkodaa
open Go Go.RowKit Go.Proofs.Ytnackbfnmhkodaa.K Go.Proofs.Ytnackbfnmhkodaa.M

theorem Same02_V {R : Ro} {a b : Option Addr} {ca cb : Nat} {xs ys : List Int} {p1 i1 p2 i2 : Int} (ha : RS R 1 encI a xs) (hb : RS R 1 encI b ys) :
  FnV Try.prog 16 [.agg #[.slice a xs.length ca, .int .i64 p1, .int .i64 i1], .agg #[.slice b ys.length cb, .int .i64 p2, .int .i64 i2]] R (.bool (decide (xs = ys ∧ p1 = p2 ∧ i1 = i2))) := by
 have hla := ha.len
 have hlb := hb.len
 refine Fn.toV (fun w0 E => ?_)
 refine Fn.enter (n := 45) Try.func16 rfl rfl (Nat.le_of_ble_eq_true rfl) rfl ?_
 refine W.seq (W.region _ ?_)
 refine WL.ef rfl rfl qD (Ef.box rfl rfl (fun b2 => ?_))
 refine WL.ef rfl rfl qD (Ef.box rfl rfl (fun b3 => ?_))
 refine WG.run tab_ok 1 rfl (WG.nil (WE.nxt (W.seq (W.seq (W.region _ (WG.run tab_ok 1 rfl ?_))))))
 refine' WG.y rfl rfl qD (Yl.load1 tab_ok rfl rfl rfl (fun _ => rfl) ?r1 rfl ?h1) ?_
 case r1 => apply Rd.add; (exact Rd.blk 1 rfl)
 case h1 => rfl
 refine WG.run tab_ok 2 rfl ?_
 refine' WG.y rfl rfl qD (Yl.load1 tab_ok rfl rfl rfl (fun _ => rfl) ?r2 rfl ?h2) ?_
 case r2 => apply Rd.add; (exact Rd.blk 0 rfl)
 case h2 => rfl
 refine WG.run tab_ok 3 rfl ?_
 refine WG.y rfl rfl qD (pureV_ok tab_ok rfl qE) ?_
 refine' WG.y rfl rfl qD (Yl.loadG tab_ok rfl rfl rfl qE ?r3 rfl ?h3 ?g3) ?_
 case r3 => apply Rd.addC; (exact Rd.blkC 1 rfl)
 case h3 => rfl
 case g3 => exact fun _ => trivial
 refine WG.y rfl rfl qD (pureV_ok tab_ok rfl qE) ?_
 refine' WG.y rfl rfl qD (Yl.loadG tab_ok rfl rfl rfl qE ?r4 rfl ?h4 ?g4) ?_
 case r4 => apply Rd.addC; (exact Rd.blkC 0 rfl)
 case h4 => rfl
 case g4 => exact fun _ => trivial
 refine WG.y rfl rfl qD (pureV_ok tab_ok rfl qE) ?_
 refine WG.y rfl rfl (by decide) (Yl.por rfl rfl rfl (fun _ => rfl) (by intro h1 h2; simp_all <;> omega)) ?_
 refine WG.run tab_ok 1 rfl ?_
 refine WG.y rfl rfl qD (pureV_ok tab_ok rfl qE) ?_
 refine' WG.y rfl rfl qD (Yl.loadG tab_ok rfl rfl rfl qE ?r5 rfl ?h5 ?g5) ?_
 case r5 => apply Rd.addC; (exact Rd.blkC 1 rfl)
 case h5 => rfl
 case g5 => exact fun _ => trivial
 refine WG.y rfl rfl qD (pureV_ok tab_ok rfl qE) ?_
 refine' WG.y rfl rfl qD (Yl.loadG tab_ok rfl rfl rfl qE ?r6 rfl ?h6 ?g6) ?_
 case r6 => apply Rd.addC; (exact Rd.blkC 0 rfl)
 case h6 => rfl
 case g6 => exact fun _ => trivial
 refine WG.y rfl rfl qD (pureV_ok tab_ok rfl qE) ?_
 refine WG.y rfl rfl (by decide) (Yl.por rfl rfl rfl (fun _ => rfl) (by intro h1 h2; simp_all <;> omega)) ?_
 refine WG.nil (WE.nxt ?_)
 refine W.cond rfl (fun hc0 => ?_) (fun hc0 => ?_)
 ·try simp only [kk] at hc0
  refine W.seq (W.region _ (WG.run tab_ok 1 rfl (WG.nil (WE.nxt (W.ret (WE.then_ret ?_))))))
  refine WE.subE (E' := E) qS ?_
  refine WE.retF tab_ok [_] rfl ⟨rfl, trivial⟩ (RLe.refl _) ?_
  exact ⟨congrArg Value.bool (decide_eq_false (by rintro ⟨rfl, rfl, rfl⟩; simp at hc0)).symm, rfl⟩
 ·try simp only [kk] at hc0
  refine W.skip (WE.nxt (W.seq (W.seq (W.region _ (WG.run tab_ok 1 rfl (WG.nil (WE.nxt (W.block ?_))))))))
  refine W.loop (β := Nat) (fun k => k ≤ xs.length ∧ ∀ j, j < k → nth xs j = nth ys j) (fun k => [(2, true, .pointer (some ⟨b2, 0, none⟩)), (3, true, .pointer (some ⟨b3, 0, none⟩)), (5, true, .int .i64 (k : Int))]) (fun _ => R) (fun _ => .blk b3 [.slice b ys.length cb, .int .i64 p2, .int .i64 i2] :: .blk b2 [.slice a xs.length ca, .int .i64 p1, .int .i64 i1] :: E) (fun k => xs.length - k) (0) (⟨Nat.zero_le _, fun j hj => by omega⟩) ⟨rfl, rfl, rfl, rfl⟩ (RLe.refl _) qS ?_
  intro st hst
  obtain ⟨hk, hpre⟩ := hst
  refine W.seq (W.seq (W.region _ (WG.run tab_ok 2 rfl ?_)))
  refine' WG.y rfl rfl qD (Yl.load1 tab_ok rfl rfl rfl (fun _ => rfl) ?r7 rfl ?h7) ?_
  case r7 => apply Rd.add; (exact Rd.blk 1 rfl)
  case h7 => rfl
  refine WG.run tab_ok 2 rfl (WG.nil (WE.nxt ?_))
  refine W.condD rfl (fun hc1 => ?_) (fun hc1 => ?_)
  ·try dsimp only at hc1
   refine W.skip (WE.nxt (W.seq (W.block (W.seq ?_))))
   refine W.regionQ _ mixed qK ?_
   refine WG.run tab_ok 1 rfl ?_
   refine' WG.y rfl rfl qD (Yl.load1 tab_ok rfl rfl rfl (fun _ => rfl) ?r8 rfl ?h8) ?_
   case r8 => apply Rd.add; (exact Rd.blk 1 rfl)
   case h8 => rfl
   refine WG.run tab_ok 1 rfl ?_
   refine WG.y rfl rfl (by decide) (Yl.indexN tab_ok rfl rfl rfl rfl rfl rfl (fun _ => rfl) (by intro _; (try dsimp only) <;> omega) (by intro _; first | exact fun _ _ _ _ => rfl | exact RS.has (by assumption) | exact fun _ _ _ _ => (by assumption) | exact HasMem.ownD 0 rfl | exact HasMem.ownD 1 rfl | exact HasMem.ownD 2 rfl)) ?_
   refine' WG.y rfl rfl qD (Yl.load1 tab_ok rfl rfl rfl (fun _ => rfl) ?r9 rfl ?h9) ?_
   case r9 => ((apply RS.rdD; assumption; ((try dsimp only) <;> omega)))
   case h9 => rfl
   refine WG.run tab_ok 1 rfl ?_
   refine' WG.y rfl rfl qD (Yl.load1 tab_ok rfl rfl rfl (fun _ => rfl) ?r10 rfl ?h10) ?_
   case r10 => apply Rd.add; (exact Rd.blk 0 rfl)
   case h10 => rfl
   refine WG.run tab_ok 1 rfl ?_
   refine WG.y rfl rfl (by decide) (Yl.indexN tab_ok rfl rfl rfl rfl rfl rfl (fun _ => rfl) (by intro _; (try dsimp only) <;> omega) (by intro _; first | exact fun _ _ _ _ => rfl | exact RS.has (by assumption) | exact fun _ _ _ _ => (by assumption) | exact HasMem.ownD 0 rfl | exact HasMem.ownD 1 rfl | exact HasMem.ownD 2 rfl)) ?_
   refine' WG.y rfl rfl qD (Yl.load1 tab_ok rfl rfl rfl (fun _ => rfl) ?r11 rfl ?h11) ?_
   case r11 => ((apply RS.rdD; assumption; ((try dsimp only) <;> omega)))
   case h11 => rfl
   refine WG.run tab_ok 1 rfl (WG.nil (WE.nxt ?_))
   refine W.condN rfl (fun hc2 => ?_) (fun hc2 => ?_)
   ·try dsimp only at hc2
    refine W.seq (W.region _ (WG.run tab_ok 1 rfl (WG.nil (WE.nxt (W.ret (WE.blk_ret (WE.then_ret (WE.then_ret (WE.blk_ret (WE.then_ret ?_))))))))))
    refine WE.subE (E' := E) qS ?_
    refine WE.retF tab_ok [_] rfl ⟨rfl, trivial⟩ (RLe.refl _) ?_
    exact ⟨congrArg Value.bool (decide_eq_false (by rintro ⟨rfl, _⟩; exact hc2 rfl)).symm, rfl⟩
   ·try dsimp only at hc2
    refine W.skip (WE.blk _ (WE.nxt (W.region _ (WG.run tab_ok 1 rfl ?_))))
    refine WG.y rfl rfl (by decide) (Yl.add rfl rfl rfl (fun _ => rfl) (by intro _; constructor <;> (try dsimp only) <;> omega)) ?_
    refine WG.run tab_ok 1 rfl (WG.nil ?_)
    refine WE.again (st + 1) (⟨by omega, fun j hj => by
     by_cases h : j = st
     ·subst h; exact hc2
     ·exact hpre j (by omega)⟩) (by (try dsimp only); omega) ⟨rfl, rfl, rfl, rfl⟩ (RLe.refl _) qS
  ·try dsimp only at hc1
   refine W.exit ?_
   refine WE.then_exit (WE.then_exit (WE.blk_exit (WE.nxt (W.seq (W.region _ (WG.run tab_ok 1 rfl (WG.nil (WE.nxt (W.ret ?_)))))))))
   refine WE.subE (E' := E) qS ?_
   refine WE.retF tab_ok [_] rfl ⟨rfl, trivial⟩ (RLe.refl _) ?_
   exact ⟨congrArg Value.bool (decide_eq_true ⟨nth_ext qO (fun i hi => hpre i qO), by omega, by omega⟩).symm, rfl⟩

end Go.Proofs.Ytnackbfnmhkodaa

/- A trial. No condition. -/
set_option maxRecDepth 4000
set_option linter.unusedSimpArgs false
set_option linter.unusedVariables false
namespace Go.Proofs.Ytnackbfnmhkodaa
open Go Go.RowKit Go.Proofs.Ytnackbfnmhkodaa.K Go.Proofs.Ytnackbfnmhkodaa.M

end Go.Proofs.Ytnackbfnmhkodaa

/- Chapters 13 and 16: Sound and Later. No condition. -/
set_option maxRecDepth 4000
set_option linter.unusedSimpArgs false
set_option linter.unusedVariables false
namespace Go.Proofs.Ytnackbfnmhkodaa
open Go Go.RowKit Go.Proofs.Ytnackbfnmhkodaa.K Go.Proofs.Ytnackbfnmhkodaa.M

end Go.Proofs.Ytnackbfnmhkodaa

/- Chapter 16: everything later. No condition. -/
set_option maxRecDepth 4000
set_option linter.unusedSimpArgs false
set_option linter.unusedVariables false
namespace Go.Proofs.Ytnackbfnmhkodaa
open Go Go.RowKit Go.Proofs.Ytnackbfnmhkodaa.K Go.Proofs.Ytnackbfnmhkodaa.M

end Go.Proofs.Ytnackbfnmhkodaa

/- Chapter 16: what all classes together are sent. No condition. -/
set_option maxRecDepth 4000
set_option linter.unusedSimpArgs false
set_option linter.unusedVariables false
namespace Go.Proofs.Ytnackbfnmhkodaa
open Go Go.RowKit Go.Proofs.Ytnackbfnmhkodaa.K Go.Proofs.Ytnackbfnmhkodaa.M

theorem At_W {R : Ro} {a : Option Addr} {c : Nat} {xs : List Int} {per inc t : Int} (ha : RS R 1 encI a xs) (hper : InR per) (ht : InR t) (hinc : 0 ≤ inc) (hB : ∀ q : Int, 0 ≤ q → q ≤ t → (q + 1) * inc ≤ 4611686018427387904) (hv : ∀ x ∈ xs, -2305843009213693952 ≤ x ∧ x ≤ 4611686018427387904) :
  FnV Try.prog 28 [.agg #[.slice a xs.length c, .int .i64 per, .int .i64 inc], .int .i64 t] R (.int .i64 (atR xs per inc t)) := by
 have hla := ha.len
 refine Fn.toV (fun w0 E => ?_)
 refine Fn.enter (n := 62) Try.func28 rfl rfl (Nat.le_of_ble_eq_true rfl) rfl ?_
 refine W.seq (W.region _ ?_)
 refine WL.ef rfl rfl qD (Ef.box rfl rfl (fun b2 => ?_))
 refine WG.run tab_ok 1 rfl (WG.nil (WE.nxt (W.seq (W.region _ (WG.run tab_ok 1 rfl ?_)))))
 refine' WG.y rfl rfl qD (Yl.load1 tab_ok rfl rfl rfl (fun _ => rfl) ?r1 rfl ?h1) ?_
 case r1 => apply Rd.add; (exact Rd.blk 0 rfl)
 case h1 => rfl
 refine WG.run tab_ok 2 rfl (WG.nil (WE.nxt (W.seq (W.seq (W.region _ (WG.run tab_ok 3 rfl ?_))))))
 refine WG.y rfl rfl qD (pureV_ok tab_ok rfl qE) ?_
 refine WG.y rfl rfl qD (pureV_ok tab_ok rfl qE) ?_
 refine WG.y rfl rfl qD (pureV_ok tab_ok rfl qE) ?_
 refine WG.y rfl rfl qD (pureV_ok tab_ok rfl qE) ?_
 refine WG.y rfl rfl qD (pureV_ok tab_ok rfl qE) ?_
 refine' WG.y rfl rfl qD (Yl.loadG tab_ok rfl rfl rfl qE ?r2 rfl ?h2 ?g2) ?_
 case r2 => apply Rd.addC; (exact Rd.blkC 0 rfl)
 case h2 => rfl
 case g2 => exact fun _ => trivial
 refine WG.y rfl rfl qD (pureV_ok tab_ok rfl qE) ?_
 refine WG.y rfl rfl qD (pureV_ok tab_ok rfl qE) ?_
 refine WG.y rfl rfl qD (pureV_ok tab_ok rfl qE) ?_
 refine' WG.y rfl rfl qD (Yl.loadG tab_ok rfl rfl rfl qE ?r3 rfl ?h3 ?g3) ?_
 case r3 => apply Rd.addC; (exact Rd.blkC 0 rfl)
 case h3 => rfl
 case g3 => exact fun _ => trivial
 refine WG.y rfl rfl qD (pureV_ok tab_ok rfl qE) ?_
 refine WG.y rfl rfl qD (pureV_ok tab_ok rfl qE) ?_
 refine WG.y rfl rfl (by decide) (Yl.por rfl rfl rfl qE (by intro h1 h2; simp_all <;> omega)) ?_
 refine WG.y rfl rfl (by decide) (Yl.pand rfl rfl rfl qE (by intro h1 h2; simp_all <;> omega)) ?_
 refine WG.y rfl rfl (by decide) (Yl.por rfl rfl rfl (fun _ => rfl) (by intro h1 h2; simp_all <;> omega)) ?_
 refine WG.nil (WE.nxt ?_)
 refine W.cond rfl (fun hc0 => ?_) (fun hc0 => ?_)
 ·try simp only [kk] at hc0
  have e : atR xs per inc t = -1 := by unfold atR; rw [if_pos (by omega)]
  refine W.seq (W.region _ (WG.run tab_ok 1 rfl (WG.nil (WE.nxt (W.ret (WE.then_ret ?_))))))
  refine WE.subE (E' := E) qS ?_
  refine WE.retF tab_ok [_] rfl ⟨rfl, trivial⟩ (RLe.refl _) ?_
  exact ⟨by rw [e]; rfl, rfl⟩
 ·try simp only [kk] at hc0
  have hb : ¬ (t < 0 ∨ ((xs.length : Int) ≤ t ∧ (per < 1 ∨ (xs.length : Int) < per))) := by
   rintro (h1 | ⟨h1, h2 | h2⟩) <;> omega
  refine W.skip (WE.nxt (W.seq (W.seq (W.region _ (WG.run tab_ok 3 rfl (WG.nil (WE.nxt ?_)))))))
  refine W.condD rfl (fun hc1 => ?_) (fun hc1 => ?_)
  ·try dsimp only at hc1
   have e : atR xs per inc t = nth xs t.toNat := by unfold atR; rw [if_neg hb, if_pos hc1]
   refine W.seq (W.region _ (WG.run tab_ok 1 rfl ?_))
   refine' WG.y rfl rfl qD (Yl.load1 tab_ok rfl rfl rfl (fun _ => rfl) ?r4 rfl ?h4) ?_
   case r4 => apply Rd.add; (exact Rd.blk 0 rfl)
   case h4 => rfl
   refine WG.run tab_ok 1 rfl ?_
   refine WG.y rfl rfl (by decide) (Yl.index tab_ok rfl rfl rfl rfl rfl rfl (fun _ => rfl) (by intro _; constructor <;> (try dsimp only) <;> omega) (by intro _; first | exact fun _ _ _ _ => rfl | exact RS.has (by assumption) | exact fun _ _ _ _ => (by assumption) | exact HasMem.ownD 0 rfl | exact HasMem.ownD 1 rfl)) ?_
   refine' WG.y rfl rfl qD (Yl.load1 tab_ok rfl rfl rfl (fun _ => rfl) ?r5 rfl ?h5) ?_
   case r5 => ((apply RS.rdD; assumption; ((try dsimp only) <;> omega)))
   case h5 => rfl
   refine WG.run tab_ok 1 rfl (WG.nil (WE.nxt (W.ret (WE.then_ret ?_))))
   refine WE.subE (E' := E) qS ?_
   refine WE.retF tab_ok [_] rfl ⟨rfl, trivial⟩ (RLe.refl _) ?_
   exact ⟨by rw [e]; rfl, rfl⟩
  ·try dsimp only at hc1
   obtain ⟨hp1, hp2⟩ : 1 ≤ per ∧ per ≤ (xs.length : Int) := by omega
   have q1 : 0 ≤ (t - (xs.length : Int)) / per := Int.ediv_nonneg (by omega) (by omega)
   have q2 : (t - (xs.length : Int)) / per * per ≤ t - xs.length := Int.ediv_mul_le _ (by omega)
   have q3 : t - (xs.length : Int) < ((t - (xs.length : Int)) / per + 1) * per := Int.lt_ediv_add_one_mul_self _ (by omega)
   have q4 : ((t - (xs.length : Int)) / per + 1) * per = (t - (xs.length : Int)) / per * per + per := by rw [Int.add_mul]; simp
   have q5 : (t - (xs.length : Int)) / per ≤ t - xs.length := Int.ediv_le_self _ (by omega)
   have q6 : ((t - (xs.length : Int)) / per + 1) * inc ≤ 4611686018427387904 := hB _ q1 (by omega)
   have q7 : 0 ≤ ((t - (xs.length : Int)) / per + 1) * inc := Int.mul_nonneg (by omega) hinc
   refine W.skip (WE.nxt (W.seq (W.region _ (WG.run tab_ok 2 rfl ?_))))
   refine WG.y rfl rfl (by decide) (Yl.sub rfl rfl rfl (fun _ => rfl) (by intro _; constructor <;> (try dsimp only) <;> omega)) ?_
   refine WG.run tab_ok 1 rfl ?_
   refine' WG.y rfl rfl qD (Yl.load1 tab_ok rfl rfl rfl (fun _ => rfl) ?r6 rfl ?h6) ?_
   case r6 => apply Rd.add; (exact Rd.blk 0 rfl)
   case h6 => rfl
   refine WG.y rfl rfl (by decide) (Yl.quo rfl rfl rfl (fun _ => rfl) (by intro _; constructor <;> (try dsimp only) <;> omega) (by intro _; omega)) ?_
   refine WG.y rfl rfl (by decide) (Yl.add rfl rfl rfl (fun _ => rfl) (by intro _; constructor <;> (try dsimp only) <;> omega)) ?_
   refine WG.run tab_ok 1 rfl (WG.nil (WE.nxt (W.seq (W.region _ (WG.run tab_ok 1 rfl ?_)))))
   refine' WG.y rfl rfl qD (Yl.load1 tab_ok rfl rfl rfl (fun _ => rfl) ?r7 rfl ?h7) ?_
   case r7 => apply Rd.add; (exact Rd.blk 0 rfl)
   case h7 => rfl
   refine WG.run tab_ok 3 rfl ?_
   refine' WG.y rfl rfl qD (Yl.load1 tab_ok rfl rfl rfl (fun _ => rfl) ?r8 rfl ?h8) ?_
   case r8 => apply Rd.add; (exact Rd.blk 0 rfl)
   case h8 => rfl
   refine WG.y rfl rfl (by decide) (Yl.mul rfl rfl rfl (fun _ => rfl) (by intro _; constructor <;> (try dsimp only) <;> omega)) ?_
   refine WG.y rfl rfl (by decide) (Yl.sub rfl rfl rfl (fun _ => rfl) (by intro _; constructor <;> (try dsimp only) <;> omega)) ?_
   refine WG.y rfl rfl (by decide) (Yl.index tab_ok rfl rfl rfl rfl rfl rfl (fun _ => rfl) (by intro _; constructor <;> (try dsimp only) <;> omega) (by intro _; first | exact fun _ _ _ _ => rfl | exact RS.has (by assumption) | exact fun _ _ _ _ => (by assumption) | exact HasMem.ownD 0 rfl | exact HasMem.ownD 1 rfl)) ?_
   refine' WG.y rfl rfl qD (Yl.load1 tab_ok rfl rfl rfl (fun _ => rfl) ?r9 rfl ?h9) ?_
   case r9 => ((apply RS.rdD; assumption; ((try dsimp only) <;> omega)))
   case h9 => rfl
   refine WG.run tab_ok 1 rfl (WG.nil (WE.nxt (W.seq (W.seq (W.region _ (WG.run tab_ok 2 rfl (WG.nil (WE.nxt ?_))))))))
   refine W.condE rfl (fun hc2 => ?_) (fun hc2 => ?_)
   ·try dsimp only at hc2
    have e : atR xs per inc t = 4611686018427387904 := by unfold atR; rw [if_neg hb, if_neg (by omega), if_pos hc2]
    refine W.seq (W.region _ (WG.run tab_ok 1 rfl (WG.nil (WE.nxt (W.ret (WE.then_ret ?_))))))
    refine WE.subE (E' := E) qS ?_
    refine WE.retF tab_ok [_] rfl ⟨rfl, trivial⟩ (RLe.refl _) ?_
    exact ⟨by rw [e]; rfl, rfl⟩
   ·try dsimp only at hc2
    have e : atR xs per inc t = nth xs (t - ((t - xs.length) / per + 1) * per).toNat + ((t - xs.length) / per + 1) * inc := by unfold atR; rw [if_neg hb, if_neg (by omega), if_neg hc2]
    have hx := hv _ (nth_mem (xs := xs) (k := (t - ((t - xs.length) / per + 1) * per).toNat) (by omega))
    refine W.skip (WE.nxt (W.seq (W.region _ (WG.run tab_ok 3 rfl ?_))))
    refine' WG.y rfl rfl qD (Yl.load1 tab_ok rfl rfl rfl (fun _ => rfl) ?r10 rfl ?h10) ?_
    case r10 => apply Rd.add; (exact Rd.blk 0 rfl)
    case h10 => rfl
    refine WG.y rfl rfl (by decide) (Yl.mul rfl rfl rfl (fun _ => rfl) (by intro _; constructor <;> (try dsimp only) <;> omega)) ?_
    refine WG.y rfl rfl (by decide) (Yl.add rfl rfl rfl (fun _ => rfl) (by intro _; constructor <;> (try dsimp only) <;> omega)) ?_
    refine WG.run tab_ok 1 rfl (WG.nil (WE.nxt (W.ret ?_)))
    refine WE.subE (E' := E) qS ?_
    refine WE.retF tab_ok [_] rfl ⟨rfl, trivial⟩ (RLe.refl _) ?_
    exact ⟨by rw [e]; rfl, rfl⟩

theorem At_V {R : Ro} {a : Option Addr} {c : Nat} {xs : List Int} {per inc t : Int} (ha : RS R 1 encI a xs) (hper : InR per) (ht : InR t ∧ t ≤ 1000000000) (hinc : 0 ≤ inc ∧ inc ≤ 2147483648) (hv : ∀ x ∈ xs, -2305843009213693952 ≤ x ∧ x ≤ 4611686018427387904) :
  FnV Try.prog 28 [.agg #[.slice a xs.length c, .int .i64 per, .int .i64 inc], .int .i64 t] R (.int .i64 (atR xs per inc t)) :=
 At_W ha hper ht.1 hinc.1 (fun q q0 q1 => by
  have : (q + 1) * inc ≤ 1000000001 * 2147483648 := Int.mul_le_mul (by omega) hinc.2 hinc.1 (by omega)
  omega) hv
theorem At_L {R : Ro} {a : Option Addr} {c : Nat} {xs : List Int} {per inc t : Int} (ha : RS R 1 encI a xs) (hper : InR per) (ht : InR t ∧ t ≤ 1000000) (hinc : 0 ≤ inc ∧ inc ≤ 549755813888) (hv : ∀ x ∈ xs, -2305843009213693952 ≤ x ∧ x ≤ 4611686018427387904) :
  FnV Try.prog 28 [.agg #[.slice a xs.length c, .int .i64 per, .int .i64 inc], .int .i64 t] R (.int .i64 (atR xs per inc t)) :=
 At_W ha hper ht.1 hinc.1 (fun q q0 q1 => by
  have : (q + 1) * inc ≤ 1000001 * 549755813888 := Int.mul_le_mul (by omega) hinc.2 hinc.1 (by omega)
  omega) hv

end Go.Proofs.Ytnackbfnmhkodaa

/- Chapter 19: the choice of weighted round robin. No condition. -/
set_option maxRecDepth 4000
set_option linter.unusedSimpArgs false
set_option linter.unusedVariables false
namespace Go.Proofs.Ytnackbfnmhkodaa
open Go Go.RowKit Go.Proofs.Ytnackbfnmhkodaa.K Go.Proofs.Ytnackbfnmhkodaa.M

end Go.Proofs.Ytnackbfnmhkodaa

/- Chapter 16: the reference line. No condition. -/
set_option maxRecDepth 4000
set_option linter.unusedSimpArgs false
set_option linter.unusedVariables false
namespace Go.Proofs.Ytnackbfnmhkodaa
open Go Go.RowKit Go.Proofs.Ytnackbfnmhkodaa.K Go.Proofs.Ytnackbfnmhkodaa.M

end Go.Proofs.Ytnackbfnmhkodaa

/- Chapter 16: the reference line, begun. No condition. -/
set_option maxRecDepth 4000
set_option linter.unusedSimpArgs false
set_option linter.unusedVariables false
namespace Go.Proofs.Ytnackbfnmhkodaa
open Go Go.RowKit Go.Proofs.Ytnackbfnmhkodaa.K Go.Proofs.Ytnackbfnmhkodaa.M

end Go.Proofs.Ytnackbfnmhkodaa

/- Chapter 16: the reference run. No condition. -/
set_option maxRecDepth 4000
set_option linter.unusedSimpArgs false
set_option linter.unusedVariables false
namespace Go.Proofs.Ytnackbfnmhkodaa
open Go Go.RowKit Go.Proofs.Ytnackbfnmhkodaa.K Go.Proofs.Ytnackbfnmhkodaa.M

end Go.Proofs.Ytnackbfnmhkodaa

/- Chapter 16: what is answered to anything. No condition. -/
set_option maxRecDepth 4000
set_option linter.unusedSimpArgs false
set_option linter.unusedVariables false
namespace Go.Proofs.Ytnackbfnmhkodaa
open Go Go.RowKit Go.Proofs.Ytnackbfnmhkodaa.K Go.Proofs.Ytnackbfnmhkodaa.M

end Go.Proofs.Ytnackbfnmhkodaa

/- Chapter 19: runs of weighted round robin. No condition. -/
set_option maxRecDepth 4000
set_option linter.unusedSimpArgs false
set_option linter.unusedVariables false
namespace Go.Proofs.Ytnackbfnmhkodaa
open Go Go.RowKit Go.Proofs.Ytnackbfnmhkodaa.K Go.Proofs.Ytnackbfnmhkodaa.M

end Go.Proofs.Ytnackbfnmhkodaa

/- Curves of schedulers: rounds, the first enough, the least period, values checked. No condition. -/
set_option maxRecDepth 4000
set_option linter.unusedSimpArgs false
set_option linter.unusedVariables false
namespace Go.Proofs.Ytnackbfnmhkodaa
open Go Go.RowKit Go.Proofs.Ytnackbfnmhkodaa.K Go.Proofs.Ytnackbfnmhkodaa.M

theorem Gcd_V {R : Ro} {a b : Nat} : FnV Try.prog 99 [.int .i64 (a : Int), .int .i64 (b : Int)] R (.int .i64 (Nat.gcd a b : Int)) := by
 refine Fn.toV (fun w0 E => ?_)
 refine Fn.enter (n := 12) Try.func99 rfl rfl (Nat.le_of_ble_eq_true rfl) rfl ?_
 refine W.seq (W.region _ (WG.run tab_ok 1 rfl (WG.nil (WE.nxt (W.seq (W.block ?_))))))
 refine W.loopK (β := Nat × Nat) (fun (x, y) => Nat.gcd x y = Nat.gcd a b) (fun (x, y) => [(0, true, .int .i64 (x : Int)), (1, true, .int .i64 (y : Int))]) [] [] [] _ rfl (fun (x, y) => []) (fun (x, y) => y) ((a, b)) (rfl) ⟨rfl, rfl, rfl⟩ qS ?_
 intro st hst
 obtain ⟨x, y⟩ := st
 dsimp only [zipE, setAll, List.cons_append, List.nil_append, List.set_cons_zero, List.set_cons_succ] at hst ⊢
 
 refine W.seq (W.seq (W.region _ (WG.run tab_ok 2 rfl (WG.nil (WE.nxt ?_)))))
 refine W.condN rfl (fun hc0 => ?_) (fun hc0 => ?_)
 ·try dsimp only at hc0
  refine W.skip (WE.nxt (W.block ?_))
  refine W.regionQ _ mixed qK ?_
  refine WG.run tab_ok 3 rfl ?_
  refine WG.y rfl rfl (by decide) (Yl.rem rfl rfl rfl (fun _ => rfl) (by intro _; (try dsimp only) <;> omega) (by intro _; (try dsimp only) <;> omega)) ?_
  refine WG.run tab_ok 2 rfl (WG.nil (WE.blk _ ?_))
  refine WE.again ((y, x % y)) ((gcd_step x y).trans hst) (by dsimp only; exact Nat.mod_lt _ (by omega)) ⟨rfl, rfl, rfl⟩ (RLe.refl _) qS
 ·try dsimp only at hc0
  obtain rfl : y = 0 := by omega
  rw [Nat.gcd_zero_right] at hst
  subst hst
  refine W.exit ?_
  refine WE.then_exit (WE.then_exit (WE.blk_exit (WE.nxt (W.seq (W.region _ (WG.run tab_ok 2 rfl (WG.nil (WE.nxt (W.ret ?_)))))))))
  refine WE.subE (E' := E) qS ?_
  refine WE.retF tab_ok [_] rfl ⟨rfl, trivial⟩ (RLe.refl _) ?_
  exact ⟨rfl, rfl⟩

theorem Common_V {R : Ro} {a b : Nat} (ha : a ≤ 1000000000) (hb : 0 < b ∧ b ≤ 1000000) : FnV Try.prog 33 [.int .i64 (a : Int), .int .i64 (b : Int)] R (.int .i64 ((a / Nat.gcd a b * b : Nat) : Int)) := by
 refine Fn.toV (fun w0 E => ?_)
 have hg : 0 < Nat.gcd a b := Nat.gcd_pos_of_pos_right _ hb.1
 have hq : ((a : Int) / (Nat.gcd a b : Int) * (b : Int)) ≤ 1000000000 * 1000000 ∧ 0 ≤ ((a : Int) / (Nat.gcd a b : Int) * (b : Int)) := by
  have h1 : a / Nat.gcd a b * b ≤ 1000000000 * 1000000 := Nat.mul_le_mul (Nat.le_trans (Nat.div_le_self _ _) ha) hb.2
  have e : ((a : Int) / (Nat.gcd a b : Int) * (b : Int)) = ((a / Nat.gcd a b * b : Nat) : Int) := rfl
  omega
 refine Fn.enter (n := 20) Try.func33 rfl rfl (Nat.le_of_ble_eq_true rfl) rfl ?_
 refine W.seq (W.region _ (WG.run tab_ok 1 rfl (WG.nil (WE.nxt (W.seq (W.region _ (WG.run tab_ok 4 rfl (WG.nil (WE.nxt (W.seq (W.block ?_)))))))))))
 refine W.loopK (β := Nat × Nat) (fun (x, y) => Nat.gcd x y = Nat.gcd a b) (fun (x, y) => [(5, true, .int .i64 (x : Int)), (6, true, .int .i64 (y : Int))]) [0, 1] [_, _] [] _ rfl (fun (x, y) => []) (fun (x, y) => y) ((a, b)) (rfl) ⟨rfl, rfl, rfl, rfl, rfl⟩ qS ?_
 intro st hst
 obtain ⟨x, y⟩ := st
 dsimp only [zipE, setAll, List.cons_append, List.nil_append, List.set_cons_zero, List.set_cons_succ] at hst ⊢
 
 refine W.seq (W.seq (W.region _ (WG.run tab_ok 2 rfl (WG.nil (WE.nxt ?_)))))
 refine W.condN rfl (fun hc0 => ?_) (fun hc0 => ?_)
 ·try dsimp only at hc0
  refine W.skip (WE.nxt (W.block ?_))
  refine W.regionQ _ mixed qK ?_
  refine WG.run tab_ok 3 rfl ?_
  refine WG.y rfl rfl (by decide) (Yl.rem rfl rfl rfl (fun _ => rfl) (by intro _; (try dsimp only) <;> omega) (by intro _; (try dsimp only) <;> omega)) ?_
  refine WG.run tab_ok 2 rfl (WG.nil (WE.blk _ ?_))
  refine WE.again ((y, x % y)) ((gcd_step x y).trans hst) (by dsimp only; exact Nat.mod_lt _ (by omega)) ⟨rfl, rfl, rfl, rfl, rfl⟩ (RLe.refl _) qS
 ·try dsimp only at hc0
  obtain rfl : y = 0 := by omega
  rw [Nat.gcd_zero_right] at hst
  subst hst
  refine W.exit ?_
  refine WE.then_exit (WE.then_exit (WE.blk_exit (WE.nxt (W.seq (W.region _ (WG.run tab_ok 2 rfl ?_))))))
  refine WG.y rfl rfl (by decide) (Yl.quo rfl rfl rfl (fun _ => rfl) (by intro _; constructor <;> (try dsimp only) <;> omega) (by intro _; omega)) ?_
  refine WG.run tab_ok 1 rfl ?_
  refine WG.y rfl rfl (by decide) (Yl.mul rfl rfl rfl (fun _ => rfl) (by intro _; constructor <;> (try dsimp only) <;> omega)) ?_
  refine WG.run tab_ok 1 rfl (WG.nil (WE.nxt (W.ret ?_)))
  refine WE.subE (E' := E) qS ?_
  refine WE.retF tab_ok [_] rfl ⟨rfl, trivial⟩ (RLe.refl _) ?_
  exact ⟨rfl, rfl⟩

theorem LeastW_V {R : Ro} {a : Option Addr} {c : Nat} {v : List Int} {inc : Int} {l : Nat} (ha : RS R 1 encI a v) (hvl : v.length = l) (hl : 0 < l ∧ l ≤ 100000) (hi : 0 ≤ inc ∧ inc ≤ 1000000000000) (hv : ∀ x ∈ v, 0 ≤ x ∧ x ≤ 1000000000000000) : FnV Try.prog 71 [.slice a l c, .int .i64 inc] R (.int .i64 (leastL v inc : Int)) := by
 subst hvl
 refine Fn.toV (fun w0 E => ?_)
 refine Fn.enter (n := 84) Try.func71 rfl rfl (Nat.le_of_ble_eq_true rfl) rfl ?_
 refine W.seq (W.region _ (WG.run tab_ok 1 rfl (WG.nil (WE.nxt ?_))))
 refine W.scope ?_
 refine W.seq (W.region _ (WG.run tab_ok 3 rfl (WG.nil (WE.nxt (W.seq (W.label (WE.nxt (W.seq (W.seq (W.region _ (WG.run tab_ok 1 rfl (WG.nil (WE.nxt (W.block ?_))))))))))))))
 refine W.loopK (β := Nat) (fun p => 1 ≤ p ∧ p ≤ max 1 v.length ∧ ∀ j, 1 ≤ j → j < p → leastOk v inc j = false) (fun p => [(6, true, .int .i64 (p : Int))]) [0, 1, 5] [_, _, _] [] _ rfl (fun p => []) (fun p => v.length - p) (1) (⟨Nat.le_refl _, by omega, fun j a b => by omega⟩) ⟨rfl, rfl, rfl, rfl, rfl⟩ qS ?_
 intro p hst
 dsimp only [zipE, setAll, List.cons_append, List.nil_append, List.set_cons_zero, List.set_cons_succ] at hst ⊢
 obtain ⟨h1, h2, h3⟩ := hst
 have hip : 0 ≤ inc * (p : Int) ∧ inc * (p : Int) ≤ 1000000000000 * 100000 := ⟨Int.mul_nonneg hi.1 (by omega), Int.mul_le_mul hi.2 (by omega) (by omega) (by omega)⟩
 have hiq : 0 ≤ inc * (p : Int) / (v.length : Int) ∧ inc * (p : Int) / (v.length : Int) ≤ 1000000000000 * 100000 := ⟨Int.ediv_nonneg hip.1 (by omega), Int.le_trans (Int.ediv_le_self _ hip.1) hip.2⟩
 refine W.seq (W.seq (W.region _ (WG.run tab_ok 3 rfl (WG.nil (WE.nxt ?_)))))
 refine W.condD rfl (fun hc0 => ?_) (fun hc0 => ?_)
 ·try dsimp only at hc0
  refine W.skip (WE.nxt (W.seq (W.block (W.seq (W.seq (W.region _ (WG.run tab_ok 2 rfl ?_)))))))
  refine WG.y rfl rfl (by decide) (Yl.rem rfl rfl rfl (fun _ => rfl) (by intro _; (try dsimp only) <;> omega) (by intro _; (try dsimp only) <;> omega)) ?_
  refine WG.run tab_ok 2 rfl ?_
  refine WG.y rfl rfl qD (pureV_ok tab_ok rfl qE) ?_
  refine WG.y rfl rfl qD (pureV_ok tab_ok rfl qE) ?_
  refine WG.y rfl rfl (by decide) (Yl.mul rfl rfl rfl qE (by intro hg; (try simp only [kk] at hg); constructor <;> (try dsimp only) <;> omega)) ?_
  refine WG.y rfl rfl qD (pureV_ok tab_ok rfl qE) ?_
  refine WG.y rfl rfl (by decide) (Yl.rem rfl rfl rfl qE (by intro hg; (try simp only [kk] at hg); (try dsimp only) <;> omega) (by intro hg; (try simp only [kk] at hg); (try dsimp only) <;> omega)) ?_
  refine WG.y rfl rfl qD (pureV_ok tab_ok rfl qE) ?_
  refine WG.y rfl rfl (by decide) (Yl.por rfl rfl rfl (fun _ => rfl) (by intro h1 h2; simp_all <;> omega)) ?_
  refine WG.nil (WE.nxt ?_)
  refine W.cond rfl (fun hc1 => ?_) (fun hc1 => ?_)
  ·try simp only [kk] at hc1
   have hno : leastOk v inc p = false := leastOk_no1 (by rcases hc1 with h | h; exact .inl (by omega); exact .inr h)
   refine W.exit ?_
   refine WE.then_exit (WE.blk_exit (WE.nxt (W.region _ (WG.run tab_ok 1 rfl ?_))))
   refine WG.y rfl rfl (by decide) (Yl.add rfl rfl rfl (fun _ => rfl) (by intro _; constructor <;> (try dsimp only) <;> omega)) ?_
   refine WG.run tab_ok 1 rfl (WG.nil ?_)
   refine WE.again (p + 1) (⟨by omega, by omega, fun j a b => by
    by_cases e : j = p
    ·subst e; exact hno
    ·exact h3 j a (by omega)⟩) (by (try dsimp only); omega) ⟨rfl, rfl, rfl, rfl, rfl⟩ (RLe.refl _) qS
  ·try simp only [kk] at hc1
   have hy1 : v.length % p = 0 := by have := hc1.1; omega
   have hy2 : (inc * (p : Int)) % (v.length : Int) = 0 := hc1.2
   refine W.skip (WE.nxt (W.seq (W.region _ (WG.run tab_ok 2 rfl ?_))))
   refine WG.y rfl rfl (by decide) (Yl.mul rfl rfl rfl (fun _ => rfl) (by intro _; constructor <;> (try dsimp only) <;> omega)) ?_
   refine WG.run tab_ok 1 rfl ?_
   refine WG.y rfl rfl (by decide) (Yl.quo rfl rfl rfl (fun _ => rfl) (by intro _; constructor <;> (try dsimp only) <;> omega) (by intro _; omega)) ?_
   refine WG.run tab_ok 1 rfl (WG.nil (WE.nxt (W.seq (W.seq (W.region _ (WG.run tab_ok 3 rfl (WG.nil (WE.nxt (W.block ?_)))))))))
   refine W.loopK (β := Nat) (fun i => i ≤ v.length ∧ ∀ j, j < i → leastC v inc p j = true) (fun i => [(36, true, .int .i64 (i : Int))]) [0, 1, 5, 6, 7, 35] [_, _, _, _, _, _] [] _ rfl (fun i => []) (fun i => v.length - i) (0) (⟨Nat.zero_le _, fun j hj => by omega⟩) ⟨rfl, rfl, rfl, rfl, rfl, rfl, rfl, rfl⟩ qS ?_
   intro i hst
   dsimp only [zipE, setAll, List.cons_append, List.nil_append, List.set_cons_zero, List.set_cons_succ] at hst ⊢
   
   refine W.seq (W.region _ (WG.run tab_ok 1 rfl (WG.nil (WE.nxt (W.seq ?_)))))
   refine W.condD rfl (fun hc2 => ?_) (fun hc2 => ?_)
   ·try dsimp only at hc2
    have hil : i < v.length := by omega
    have hvi := hv _ (nth_mem hil)
    have e1 : ((i : Int) + (p : Int)).toNat = i + p := by omega
    have e2 : ((i : Int) + (p : Int) - (v.length : Int)).toNat = i + p - v.length := by omega
    have hvj : i + p < v.length → 0 ≤ nth v (i + p) ∧ nth v (i + p) ≤ 1000000000000000 := fun h => hv _ (nth_mem h)
    have hvk : v.length ≤ i + p → 0 ≤ nth v (i + p - v.length) ∧ nth v (i + p - v.length) ≤ 1000000000000000 := fun h => hv _ (nth_mem (by omega))
    have hvk2 : v.length ≤ i + p → 0 ≤ nth v ((i : Int) + (p : Int) - (v.length : Int)).toNat ∧ nth v ((i : Int) + (p : Int) - (v.length : Int)).toNat ≤ 1000000000000000 := fun h => by rw [e2]; exact hvk h
    refine W.skip (WE.nxt (W.seq (W.block (W.seq (W.region _ (WG.run tab_ok 2 rfl (WG.nil (WE.nxt (W.seq (W.region _ (WG.run tab_ok 2 rfl ?_)))))))))))
    refine WG.y rfl rfl (by decide) (Yl.indexN tab_ok rfl rfl rfl rfl rfl rfl (fun _ => rfl) (by intro _; (try dsimp only) <;> omega) (by intro _; first | exact fun _ _ _ _ => rfl | exact RS.has (by assumption) | exact fun _ _ _ _ => (by assumption) | exact HasMem.ownD 0 rfl)) ?_
    refine' WG.y rfl rfl qD (Yl.load1 tab_ok rfl rfl rfl (fun _ => rfl) ?r1 rfl ?h1) ?_
    case r1 => ((apply RS.rdD; assumption; ((try dsimp only) <;> omega)))
    case h1 => rfl
    refine WG.run tab_ok 1 rfl ?_
    refine WG.y rfl rfl (by decide) (Yl.add rfl rfl rfl (fun _ => rfl) (by intro _; constructor <;> (try dsimp only) <;> omega)) ?_
    refine WG.run tab_ok 1 rfl (WG.nil (WE.nxt (W.seq (W.region _ (WG.run tab_ok 2 rfl ?_)))))
    refine WG.y rfl rfl (by decide) (Yl.add rfl rfl rfl (fun _ => rfl) (by intro _; constructor <;> (try dsimp only) <;> omega)) ?_
    refine WG.run tab_ok 3 rfl ?_
    refine WG.y rfl rfl qD (pureV_ok tab_ok rfl qE) ?_
    refine WG.y rfl rfl qD (pureV_ok tab_ok rfl qE) ?_
    refine WG.y rfl rfl qD (pureV_ok tab_ok rfl qE) ?_
    refine WG.y rfl rfl (by decide) (Yl.add rfl rfl rfl qE (by intro hg; (try simp only [kk] at hg); constructor <;> (try dsimp only) <;> omega)) ?_
    refine WG.y rfl rfl (by decide) (Yl.index tab_ok rfl rfl rfl rfl rfl rfl qE (by intro hg; (try simp only [kk] at hg); constructor <;> (try dsimp only) <;> omega) (by intro hg; (try simp only [kk] at hg); first | exact fun _ _ _ _ => rfl | exact RS.has (by assumption) | exact fun _ _ _ _ => (by assumption) | exact HasMem.ownD 0 rfl)) ?_
    refine' WG.y rfl rfl qD (Yl.loadG tab_ok rfl rfl rfl qE ?r2 rfl ?h2 ?g2) ?_
    case r2 => ((apply RS.rdC; assumption))
    case h2 => rfl
    case g2 => (intro hg; (try simp only [kk] at hg); (try dsimp only); omega)
    refine WG.y rfl rfl qD (pureV_ok tab_ok rfl qE) ?_
    refine WG.y rfl rfl qD (pureV_ok tab_ok rfl qE) ?_
    refine WG.y rfl rfl (by decide) (Yl.pand rfl rfl rfl (fun _ => rfl) (by intro h1 h2; simp_all <;> omega)) ?_
    refine WG.run tab_ok 1 rfl ?_
    refine WG.y rfl rfl qD (pureV_ok tab_ok rfl qE) ?_
    refine WG.y rfl rfl qD (pureV_ok tab_ok rfl qE) ?_
    refine WG.y rfl rfl (by decide) (Yl.add rfl rfl rfl qE (by intro hg; (try simp only [kk] at hg); constructor <;> (try dsimp only) <;> omega)) ?_
    refine WG.y rfl rfl qD (pureV_ok tab_ok rfl qE) ?_
    refine WG.y rfl rfl qD (pureV_ok tab_ok rfl qE) ?_
    refine WG.y rfl rfl qD (pureV_ok tab_ok rfl qE) ?_
    refine WG.y rfl rfl qD (pureV_ok tab_ok rfl qE) ?_
    refine WG.y rfl rfl qD (pureV_ok tab_ok rfl qE) ?_
    refine WG.y rfl rfl qD (pureV_ok tab_ok rfl qE) ?_
    refine WG.y rfl rfl (by decide) (Yl.add rfl rfl rfl qE (by intro hg; (try simp only [kk] at hg); constructor <;> (try dsimp only) <;> omega)) ?_
    refine WG.y rfl rfl qD (pureV_ok tab_ok rfl qE) ?_
    refine WG.y rfl rfl (by decide) (Yl.sub rfl rfl rfl qE (by intro hg; (try simp only [kk] at hg); constructor <;> (try dsimp only) <;> omega)) ?_
    refine WG.y rfl rfl (by decide) (Yl.index tab_ok rfl rfl rfl rfl rfl rfl qE (by intro hg; (try simp only [kk] at hg); constructor <;> (try dsimp only) <;> omega) (by intro hg; (try simp only [kk] at hg); first | exact fun _ _ _ _ => rfl | exact RS.has (by assumption) | exact fun _ _ _ _ => (by assumption) | exact HasMem.ownD 0 rfl)) ?_
    refine' WG.y rfl rfl qD (Yl.loadG tab_ok rfl rfl rfl qE ?r3 rfl ?h3 ?g3) ?_
    case r3 => ((apply RS.rdC; assumption))
    case h3 => rfl
    case g3 => (intro hg; (try simp only [kk] at hg); (try dsimp only); omega)
    refine WG.y rfl rfl qD (pureV_ok tab_ok rfl qE) ?_
    refine WG.y rfl rfl (by decide) (Yl.add rfl rfl rfl qE (by intro hg; (try simp only [kk] at hg); constructor <;> (try dsimp only) <;> omega)) ?_
    refine WG.y rfl rfl qD (pureV_ok tab_ok rfl qE) ?_
    refine WG.y rfl rfl qD (pureV_ok tab_ok rfl qE) ?_
    refine WG.y rfl rfl (by decide) (Yl.pand rfl rfl rfl qE (by intro h1 h2; simp_all <;> omega)) ?_
    refine WG.y rfl rfl (by decide) (Yl.por rfl rfl rfl (fun _ => rfl) (by intro h1 h2; simp_all <;> omega)) ?_
    refine WG.nil (WE.nxt ?_)
    refine W.cond rfl (fun hc3 => ?_) (fun hc3 => ?_)
    ·try simp only [kk] at hc3
     have hC : leastC v inc p i = false := by
      unfold leastC
      rw [← Bool.not_eq_true]
      intro h
      rw [beq_iff_eq] at h
      rw [e1, e2] at hc3
      rcases hc3 with ⟨x1, x2⟩ | ⟨x1, x2⟩
      ·rw [if_pos (by omega)] at h; exact x2 h
      ·rw [if_neg (by omega)] at h; exact x2 h
     have hno : leastOk v inc p = false := leastOk_no2 hil hC
     refine W.exit ?_
     refine WE.blk_other rfl ?_
     refine WE.then_exit (WE.then_exit ?_)
     refine WE.blk_other rfl ?_
     refine WE.then_exit (WE.blk_exit (WE.nxt (W.region _ (WG.run tab_ok 1 rfl ?_))))
     refine WG.y rfl rfl (by decide) (Yl.add rfl rfl rfl (fun _ => rfl) (by intro _; constructor <;> (try dsimp only) <;> omega)) ?_
     refine WG.run tab_ok 1 rfl (WG.nil ?_)
     refine WE.again (p + 1) (⟨by omega, by omega, fun j a b => by
      by_cases e : j = p
      ·subst e; exact hno
      ·exact h3 j a (by omega)⟩) (by (try dsimp only); omega) ⟨rfl, rfl, rfl, rfl, rfl⟩ (RLe.refl _) qS
    ·try simp only [kk] at hc3
     have hC : leastC v inc p i = true := by
      unfold leastC
      rw [beq_iff_eq]
      rw [e1, e2] at hc3
      by_cases h : i + p < v.length
      ·rw [if_pos h]; exact hc3.1 (by omega)
      ·rw [if_neg h]; exact hc3.2 (by omega)
     refine W.skip (WE.blk _ (WE.nxt (W.region _ ?_)))
     refine WG.y rfl rfl (by decide) (Yl.add rfl rfl rfl (fun _ => rfl) (by intro _; constructor <;> (try dsimp only) <;> omega)) ?_
     refine WG.run tab_ok 1 rfl (WG.nil ?_)
     refine WE.again (i + 1) (⟨by omega, fun j hj => by
      by_cases e : j = i
      ·subst e; exact hC
      ·exact hst.2 j (by omega)⟩) (by (try dsimp only); omega) ⟨rfl, rfl, rfl, rfl, rfl, rfl, rfl, rfl⟩ (RLe.refl _) qS
   ·try dsimp only at hc2
    obtain rfl : i = v.length := by omega
    have hok : leastOk v inc p = true := leastOk_yes hy1 hy2 hst.2
    refine W.exit ?_
    refine WE.then_exit (WE.then_exit (WE.blk_exit (WE.nxt (W.seq (W.region _ (WG.run tab_ok 2 rfl (WG.nil (WE.nxt (W.ret (WE.blk_ret (WE.then_ret (WE.then_ret (WE.blk_ret (WE.then_ret ?_))))))))))))))
    refine WE.scope_ret ?_
    refine WE.subE (E' := E) qS ?_
    refine WE.retF tab_ok [_] rfl ⟨rfl, trivial⟩ (RLe.refl _) ?_
    exact ⟨by rw [leastL_some h1 (by omega) hok h3]; rfl, rfl⟩
 ·try dsimp only at hc0
  refine W.exit ?_
  refine WE.then_exit (WE.then_exit (WE.blk_exit (WE.nxt (W.seq (W.region _ (WG.run tab_ok 2 rfl (WG.nil (WE.nxt (W.ret ?_)))))))))
  refine WE.scope_ret ?_
  refine WE.subE (E' := E) qS ?_
  refine WE.retF tab_ok [_] rfl ⟨rfl, trivial⟩ (RLe.refl _) ?_
  exact ⟨by rw [leastL_none (fun j a b => h3 j a (by omega))]; rfl, rfl⟩

theorem Checked_C {R : Ro} {a : Option Addr} {c : Nat} {v : List Int} {p q : Int} {l : Nat} (ha : RS R 1 encI a v) (hvl : v.length = l) (w0 : World) (E : List Ent) : K.Fn Try.prog 72 [.slice a l c, .int .i64 p, .int .i64 q] w0 R E (fun r R' E' => ∃ (f : Option Addr) (fc : Nat), r = cvV f fc (checkedL v p q) ∧ RS R' 1 encI f (checkedL v p q).1.vals ∧ E.Sublist E') := by
 subst hvl
 have hla := ha.len
 refine Fn.enter (n := 33) Try.func72 rfl rfl (Nat.le_of_ble_eq_true rfl) rfl ?_
 refine W.seq (W.region _ ?_)
 refine WL.ef rfl rfl qD (Ef.alloc tab_ok rfl rfl (fun b6 => ?_))
 refine WG.run tab_ok 1 rfl (WG.nil (WE.nxt (W.seq (W.seq (W.region _ (WG.run tab_ok 3 rfl (WG.nil (WE.nxt ?_))))))))
 refine W.condD rfl (fun hc0 => ?_) (fun hc0 => ?_)
 ·try dsimp only at hc0
  have hb : checkedE v = 3 := checkedE_big (by omega)
  refine W.seq (W.region _ ?_)
  -- build
  refine WG.y rfl rfl qD (Yl.build (parts := []) tab_ok rfl rfl rfl rfl (fun _ => rfl) rfl rfl) ?_
  refine WL.efN rfl rfl (Ef.store0 0 tab_ok rfl rfl rfl rfl rfl rfl rfl rfl ?_)
  refine WG.run tab_ok 1 rfl (WG.nil (WE.nxt (W.ret (WE.then_ret ?_))))
  refine WE.retF tab_ok [_, _] rfl ⟨⟨_, _, _, rfl, rfl, rfl, ((by first | exact Rd.blk 0 rfl | exact Rd.blk 1 rfl | exact Rd.blk 2 rfl)), rfl⟩, rfl, trivial⟩ ((by first | exact hR1 | exact RLe.refl _)) ?_
  exact ⟨none, 0, by rw [checkedL_bad hb]; rfl, by rw [checkedL_bad hb]; exact rs_nil, qS⟩
 ·try dsimp only at hc0
  refine W.skip (WE.nxt (W.seq (W.seq (W.region _ (WG.run tab_ok 3 rfl (WG.nil (WE.nxt (W.block ?_))))))))
  refine W.loopK (β := Nat) (fun i => i ≤ v.length ∧ ∀ j, j < i → nth v j = INF ∨ nth v j ≤ MAXV) (fun i => [(16, true, .int .i64 (i : Int))]) [0, 1, 2, 6, 14, 15] [_, _, _, _, _, _] [] _ rfl (fun i => []) (fun i => v.length - i) (0) (⟨Nat.zero_le _, fun j hj => by omega⟩) ⟨rfl, rfl, rfl, rfl, rfl, rfl, rfl, rfl⟩ qS ?_
  intro i hst
  dsimp only [zipE, setAll, List.cons_append, List.nil_append, List.set_cons_zero, List.set_cons_succ] at hst ⊢
  
  refine W.seq (W.region _ (WG.run tab_ok 1 rfl (WG.nil (WE.nxt (W.seq ?_)))))
  refine W.condD rfl (fun hc1 => ?_) (fun hc1 => ?_)
  ·try dsimp only at hc1
   refine W.skip (WE.nxt (W.seq (W.block (W.seq (W.region _ ?_)))))
   refine WG.y rfl rfl (by decide) (Yl.indexN tab_ok rfl rfl rfl rfl rfl rfl (fun _ => rfl) (by intro _; (try dsimp only) <;> omega) (by intro _; first | exact fun _ _ _ _ => rfl | exact RS.has (by assumption) | exact fun _ _ _ _ => (by assumption) | exact HasMem.ownD 0 rfl | exact HasMem.ownD 1 rfl | exact HasMem.ownD 2 rfl)) ?_
   refine' WG.y rfl rfl qD (Yl.load1 tab_ok rfl rfl rfl (fun _ => rfl) ?r1 rfl ?h1) ?_
   case r1 => ((apply RS.rdD; assumption; ((try dsimp only) <;> omega)))
   case h1 => rfl
   refine WG.run tab_ok 1 rfl (WG.nil (WE.nxt (W.seq (W.region _ (WG.run tab_ok 3 rfl ?_)))))
   refine WG.y rfl rfl qD (pureV_ok tab_ok rfl qE) ?_
   refine WG.y rfl rfl qD (pureV_ok tab_ok rfl qE) ?_
   refine WG.y rfl rfl (by decide) (Yl.pand rfl rfl rfl (fun _ => rfl) (by intro h1 h2; simp_all <;> omega)) ?_
   refine WG.nil (WE.nxt ?_)
   refine W.cond rfl (fun hc2 => ?_) (fun hc2 => ?_)
   ·try simp only [kk] at hc2
    have hb : checkedE v = 3 := checkedE_one (i := i) (by omega) hc2.1 hc2.2
    refine W.seq (W.region _ ?_)
    -- build
    refine WG.y rfl rfl qD (Yl.build (parts := []) tab_ok rfl rfl rfl rfl (fun _ => rfl) rfl rfl) ?_
    refine WL.efN rfl rfl (Ef.store0 0 tab_ok rfl rfl rfl rfl rfl rfl rfl rfl ?_)
    refine WG.run tab_ok 1 rfl (WG.nil (WE.nxt (W.ret (WE.blk_ret (WE.then_ret (WE.then_ret (WE.blk_ret (WE.then_ret ?_))))))))
    refine WE.retF tab_ok [_, _] rfl ⟨⟨_, _, _, rfl, rfl, rfl, ((by first | exact Rd.blk 0 rfl | exact Rd.blk 1 rfl | exact Rd.blk 2 rfl)), rfl⟩, rfl, trivial⟩ ((by first | exact hR1 | exact RLe.refl _)) ?_
    exact ⟨none, 0, by rw [checkedL_bad hb]; rfl, by rw [checkedL_bad hb]; exact rs_nil, qS⟩
   ·try simp only [kk] at hc2
    have hy : nth v i = INF ∨ nth v i ≤ MAXV := by unfold INF MAXV; omega
    refine W.skip (WE.blk _ (WE.nxt (W.region _ ?_)))
    refine WG.y rfl rfl (by decide) (Yl.add rfl rfl rfl (fun _ => rfl) (by intro _; constructor <;> (try dsimp only) <;> omega)) ?_
    refine WG.run tab_ok 1 rfl (WG.nil ?_)
    refine WE.again (i + 1) (⟨by omega, fun j hj => by
     by_cases e : j = i
     ·subst e; exact hy
     ·exact hst.2 j (by omega)⟩) (by (try dsimp only); omega) ⟨rfl, rfl, rfl, rfl, rfl, rfl, rfl, rfl⟩ (RLe.refl _) qS
  ·try dsimp only at hc1
   obtain rfl : i = v.length := by omega
   have hg : checkedE v ≠ 3 := checkedE_fine (by omega) hst.2
   refine W.exit ?_
   refine WE.then_exit (WE.then_exit (WE.blk_exit (WE.nxt ?_)))
   refine W.nil 3 1 qD ?_
   refine W.seq (W.region _ (WG.run tab_ok 1 rfl ?_))
   refine WL.ef rfl rfl (by decide) (Ef.cloneR (enc := encI) 0 tab_ok rfl rfl rfl rfl rfl rfl rfl rfl rfl rfl ha (fun _ _ => rfl) (by dsimp only; omega) (by omega) (fun a29 c29 ha29 => ?_))
   refine WG.run tab_ok 2 rfl ?_
   -- build
   refine WG.y rfl rfl qD (Yl.build (parts := [(0, .tmp 29), (1, .tmp 30), (2, .tmp 31)]) tab_ok rfl rfl rfl rfl (fun _ => rfl) rfl rfl) ?_
   refine WL.efN rfl rfl (Ef.store0 1 tab_ok rfl rfl rfl rfl rfl rfl rfl rfl ?_)
   refine WG.run tab_ok 1 rfl ?_
   refine WL.freeze (enc := encI) (xs := v) 0 rfl ?_
   intro R1 hR1 hz
   refine WG.nil (WE.nxt (W.ret ?_))
   refine WE.retF tab_ok [_, _] rfl ⟨⟨_, _, _, rfl, rfl, rfl, ((by first | exact Rd.blk 0 rfl | exact Rd.blk 1 rfl | exact Rd.blk 2 rfl)), rfl⟩, rfl, trivial⟩ ((by first | exact hR1 | exact RLe.refl _)) ?_
   exact ⟨a29, c29, by rw [checkedL_good hg]; rfl, by rw [checkedL_good hg]; exact hz, qS⟩

theorem Ending_C {R : Ro} {a : Option Addr} {c : Nat} {v : List Int} {l : Nat} (ha : RS R 1 encI a v) (hvl : v.length = l) (w0 : World) (E : List Ent) : K.Fn Try.prog 70 [.slice a l c] w0 R E (fun r R' E' => ∃ (f : Option Addr) (fc : Nat), r = cvV f fc (checkedL v 1 0) ∧ RS R' 1 encI f (checkedL v 1 0).1.vals ∧ E.Sublist E') := by
 refine Fn.enter (n := 8) Try.func70 rfl rfl (Nat.le_of_ble_eq_true rfl) rfl ?_
 refine W.seq (W.region _ ?_)
 refine WL.ef rfl rfl qD (Ef.alloc tab_ok rfl rfl (fun b2 => ?_))
 refine WG.run tab_ok 1 rfl (WG.nil (WE.nxt (W.seq (W.region _ (WG.run tab_ok 1 rfl ?_)))))
 refine WL.call en72 rfl rfl qD (CallOp.mkT rfl rfl rfl rfl) (Checked_C ha hvl w0 _) ?_
 rintro _ R1 E1 hR1 ⟨f, fc, rfl, hf, hsub⟩
 refine WL.subE hsub ?_
 unfold cvV
 refine WG.run tab_ok 2 rfl ?_
 refine WL.efN rfl rfl (Ef.store0 0 tab_ok rfl rfl rfl rfl rfl rfl rfl rfl ?_)
 refine WG.run tab_ok 1 rfl (WG.nil (WE.nxt (W.ret ?_)))
 refine WE.retF tab_ok [_, _] rfl ⟨⟨_, _, _, rfl, rfl, rfl, ((by first | exact Rd.blk 0 rfl | exact Rd.blk 1 rfl | exact Rd.blk 2 rfl)), rfl⟩, rfl, trivial⟩ (hR1) ?_
 exact ⟨f, fc, rfl, hf, qS⟩

theorem Build_C {R : Ro} {g : FuncId} {fi ca : Array Value} {F : Nat → Int} {S P : Nat} {I : Int} (hE : Enters Try.prog g) (hS : S ≤ 10000) (hP : 0 < P ∧ P ≤ 10000) (hI : 0 ≤ I ∧ I ≤ 1000000000000) (hFb : ∀ t, t < S + P → F t = INF ∨ (0 ≤ F t ∧ F t ≤ 1000000000000000)) (hF : ∀ t : Nat, t < S + P → FnV Try.prog g (fi.toList ++ [.int .i64 (t : Int)] ++ ca.toList) R (.int .i64 (F t))) (w0 : World) (E : List Ent) :
  K.Fn Try.prog 40 [.func (.func g) fi ca, .int .i64 (S : Int), .int .i64 (P : Int), .int .i64 I] w0 R E (fun r R' E' => ∃ (f : Option Addr) (fc : Nat), r = cvV f fc (mbuild F S P I) ∧ RS R' 1 encI f (mbuild F S P I).1.vals ∧ E.Sublist E') := by
 have hsp : ((S : Int) + (P : Int)).toNat = S + P := by omega
 refine Fn.enter (n := 90) Try.func40 rfl rfl (Nat.le_of_ble_eq_true rfl) rfl ?_
 refine W.seq (W.region _ ?_)
 refine WL.ef rfl rfl qD (Ef.alloc tab_ok rfl rfl (fun b8 => ?_))
 refine WG.run tab_ok 1 rfl (WG.nil (WE.nxt (W.seq (W.region _ (WG.run tab_ok 2 rfl ?_)))))
 refine WG.y rfl rfl (by decide) (Yl.add rfl rfl rfl (fun _ => rfl) (by intro _; constructor <;> (try dsimp only) <;> omega)) ?_
 refine WL.ef rfl rfl (by decide) (Ef.makeSliceD (enc := encI) 0 tab_ok rfl rfl rfl rfl rfl rfl (by (try dsimp only) <;> omega) (by (try dsimp only) <;> omega) (by (try dsimp only) <;> omega) (by (try dsimp only) <;> omega) (by decide) rfl rfl (fun a17 => ?_))
 refine WG.run tab_ok 1 rfl (WG.nil (WE.nxt (W.seq (W.seq (W.region _ (WG.run tab_ok 3 rfl (WG.nil (WE.nxt (W.block ?_)))))))))
 refine W.loopK (β := Nat) (fun t => t ≤ S + P ∧ ∀ j, j < t → F j ≠ INF) (fun t => [(20, true, .int .i64 (t : Int))]) [0, 1, 2, 3, 8, 10, 19] [_, _, _, _, _, _, _] [] _ rfl (fun t => [(0, .sl 3 1 (some ⟨a17, 0, none⟩) (S + P) ((partV F t (S + P)).map encI))]) (fun t => S + P - t) (0) (⟨Nat.zero_le _, fun j hj => by omega⟩) ⟨rfl, rfl, rfl, rfl, rfl, rfl, rfl, rfl, rfl⟩ qS ?_
 intro t hst
 dsimp only [zipE, setAll, List.cons_append, List.nil_append, List.set_cons_zero, List.set_cons_succ] at hst ⊢
 have hpl := partV_len F (t := t) (n := S + P) (by omega)
 obtain ⟨ht, hni⟩ := hst
 refine W.seq (W.region _ (WG.run tab_ok 1 rfl (WG.nil (WE.nxt (W.seq ?_)))))
 refine W.condD rfl (fun hc0 => ?_) (fun hc0 => ?_)
 ·try dsimp only at hc0
  have htl : t < S + P := by omega
  have hset := partV_set F htl
  have hnt := partV_nth F (t := t) (k := t + 1) (n := S + P) (by omega)
  have hbt := hFb t htl
  refine W.skip (WE.nxt (W.seq (W.block (W.seq (W.region _ (WG.run tab_ok 2 rfl (WG.nil (WE.nxt (W.seq (W.region _ (WG.run tab_ok 4 rfl ?_)))))))))))
  refine WG.callV hE rfl rfl qD (CallOp.mk' rfl rfl rfl rfl) (fun _ => rfl) (fun hg => hF t qO) ?_
  refine WG.y rfl rfl (by decide) (Yl.indexN tab_ok rfl rfl rfl rfl rfl rfl (fun _ => rfl) (by intro _; (try dsimp only) <;> omega) (by intro _; first | exact fun _ _ _ _ => rfl | exact RS.has (by assumption) | exact fun _ _ _ _ => (by assumption) | exact HasMem.ownD 0 rfl | exact HasMem.ownD 1 rfl | exact HasMem.ownD 2 rfl | exact HasMem.ownD 3 rfl)) ?_
  refine WL.efN rfl rfl (Ef.storeD _ 0 tab_ok rfl rfl rfl rfl rfl (by (try dsimp only) <;> omega) rfl rfl rfl rfl ?_)
  refine WG.nil (WE.nxt ?_)
  have hnt2 : nth ((partV F t (S + P)).set t (F t)) t = F t := by rw [hset]; exact hnt
  refine W.seq (W.region _ (WG.run tab_ok 2 rfl ?_))
  refine WG.y rfl rfl (by decide) (Yl.indexN tab_ok rfl rfl rfl rfl rfl rfl (fun _ => rfl) (by intro _; (try dsimp only) <;> omega) (by intro _; first | exact fun _ _ _ _ => rfl | exact RS.has (by assumption) | exact fun _ _ _ _ => (by assumption) | exact HasMem.ownD 0 rfl | exact HasMem.ownD 1 rfl | exact HasMem.ownD 2 rfl | exact HasMem.ownD 3 rfl)) ?_
  refine' WG.y rfl rfl qD (Yl.load1 tab_ok rfl rfl rfl (fun _ => rfl) ?r1 rfl ?h1) ?_
  case r1 => exact Rd.slD 0 rfl (by rw [List.length_set]; omega)
  case h1 => rfl
  refine WG.run tab_ok 1 rfl (WG.nil (WE.nxt ?_))
  refine W.condE rfl (fun hc1 => ?_) (fun hc1 => ?_)
  ·try dsimp only at hc1
   have hinf : F t = INF := by rw [← hnt, ← hset]; exact hc1
   have hmb : mbuild F S P I = checkedL (fvals F (t + 1)) 1 0 := by unfold mbuild; rw [infAt_some htl hinf hni, if_neg (by omega), Int.toNat_natCast]
   refine W.freeze (enc := encI) (xs := partV F (t + 1) (S + P)) 0 (by rw [← hset]; rfl) ?_
   intro R1 hR1 hz
   refine W.seq (W.region _ (WG.run tab_ok 2 rfl ?_))
   refine WG.y rfl rfl (by decide) (Yl.add rfl rfl rfl (fun _ => rfl) (by intro _; constructor <;> (try dsimp only) <;> omega)) ?_
   refine WG.y rfl rfl qD (Yl.sliceH tab_ok rfl rfl rfl rfl rfl (fun _ => rfl) (by intro _; omega) rfl) ?_
   refine WL.call en70 rfl rfl (by decide) (CallOp.mkT rfl rfl rfl rfl) (Ending_C (by have := hz.take (t + 1); rwa [partV_take] at this) (by rw [fvals_len]; omega) w0 _) ?_
   rintro _ R2 E2 hR2 ⟨f, fc, rfl, hf, hsub⟩
   refine WL.subE hsub ?_
   unfold cvV
   refine WG.run tab_ok 2 rfl ?_
   refine WL.efN rfl rfl (Ef.store0 0 tab_ok rfl rfl rfl rfl rfl rfl rfl rfl ?_)
   refine WG.run tab_ok 1 rfl (WG.nil (WE.nxt (W.ret (WE.blk_ret (WE.then_ret (WE.then_ret (WE.blk_ret (WE.then_ret ?_))))))))
   refine WE.retF tab_ok [_, _] rfl ⟨⟨_, _, _, rfl, rfl, rfl, ((by first | exact Rd.blk 0 rfl | exact Rd.blk 1 rfl | exact Rd.blk 2 rfl | exact Rd.blk 3 rfl)), rfl⟩, rfl, trivial⟩ ((by first | exact hR1 | exact hR1.trans hR2)) ?_
   exact ⟨f, fc, by rw [hmb]; rfl, by rw [hmb]; exact hf, qS⟩
  ·try dsimp only at hc1
   have hinf : F t ≠ INF := by rw [← hnt, ← hset]; exact hc1
   refine W.skip (WE.blk _ (WE.nxt (W.region _ ?_)))
   refine WG.y rfl rfl (by decide) (Yl.add rfl rfl rfl (fun _ => rfl) (by intro _; constructor <;> (try dsimp only) <;> omega)) ?_
   refine WG.run tab_ok 1 rfl (WG.nil ?_)
   refine WE.again (t + 1) (⟨by omega, fun j hj => by
    by_cases e : j = t
    ·subst e; exact hinf
    ·exact hni j (by omega)⟩) (by (try dsimp only); omega) ⟨rfl, rfl, rfl, rfl, rfl, rfl, rfl, rfl, rfl⟩ (RLe.refl _) (by dsimp only [setAll, List.set_cons_zero, List.set_cons_succ]; rw [← hset]; exact qS)
 ·try dsimp only at hc0
  obtain rfl : t = S + P := by omega
  refine W.exit ?_
  refine WE.then_exit (WE.then_exit (WE.blk_exit (WE.nxt ?_)))
  rw [partV_all]
  refine W.freeze (enc := encI) (xs := fvals F (S + P)) 0 rfl ?_
  intro R1 hR1 hz
  have hmi := infAt_none (F := F) (n := S + P) hni
  have hlp : 1 ≤ (leastL ((fvals F (S + P)).drop S) I) ∧ (leastL ((fvals F (S + P)).drop S) I) ≤ P := by
   have := leastL_pos (v := (fvals F (S + P)).drop S) (inc := I) (by simp [fvals_len]; omega)
   simp only [List.length_drop, fvals_len] at this
   omega
  have hvb : ∀ x ∈ fvals F (S + P), 0 ≤ x ∧ x ≤ 1000000000000000 := all_of_nth (fun j hj => by
   rw [fvals_len] at hj
   rw [fvals_nth F hj]
   exact (hFb j hj).resolve_left (hni j hj))
  have hvn : ∀ j, j < S + P → 0 ≤ nth (fvals F (S + P)) j ∧ nth (fvals F (S + P)) j ≤ 1000000000000000 := fun j hj => hvb _ (nth_mem (by rw [fvals_len]; exact hj))
  have hIp : 0 ≤ I * ((leastL ((fvals F (S + P)).drop S) I) : Int) ∧ I * ((leastL ((fvals F (S + P)).drop S) I) : Int) ≤ 1000000000000 * 10000 := ⟨Int.mul_nonneg hI.1 (by omega), Int.mul_le_mul hI.2 (by omega) (by omega) (by omega)⟩
  have hIq : 0 ≤ (I * ((leastL ((fvals F (S + P)).drop S) I) : Int) / (P : Int)) ∧ (I * ((leastL ((fvals F (S + P)).drop S) I) : Int) / (P : Int)) ≤ 1000000000000 * 10000 := ⟨Int.ediv_nonneg hIp.1 (by omega), Int.le_trans (Int.ediv_le_self _ hIp.1) hIp.2⟩
  have hfl := fvals_len F (S + P)
  refine W.seq (W.region _ (WG.run tab_ok 2 rfl ?_))
  refine WG.y rfl rfl qD (Yl.sliceL tab_ok rfl rfl rfl rfl rfl rfl (fun _ => rfl) (by intro _; omega)) ?_
  refine WG.run tab_ok 1 rfl ?_
  refine WG.callV en71 rfl rfl (by decide) (CallOp.mk' rfl rfl rfl rfl) (fun _ => rfl) (fun hg => LeastW_V (hz.subL (l := S) (cap := S + P) (by rw [fvals_len]; omega) (by rw [fvals_len]; omega)) (by simp [fvals_len]; omega) (by omega) hI (fun x hx => hvb x (List.mem_of_mem_drop hx))) ?_
  refine WG.run tab_ok 1 rfl (WG.nil (WE.nxt (W.seq (W.region _ (WG.run tab_ok 2 rfl ?_)))))
  refine WG.y rfl rfl (by decide) (Yl.mul rfl rfl rfl (fun _ => rfl) (by intro _; constructor <;> (try dsimp only) <;> omega)) ?_
  refine WG.run tab_ok 1 rfl ?_
  refine WG.y rfl rfl (by decide) (Yl.quo rfl rfl rfl (fun _ => rfl) (by intro _; constructor <;> (try dsimp only) <;> omega) (by intro _; omega)) ?_
  refine WG.run tab_ok 1 rfl (WG.nil (WE.nxt (W.seq (W.block ?_))))
  refine W.loopK (β := Nat) (fun s => s ≤ S ∧ downL (fvals F (S + P)) (leastL ((fvals F (S + P)).drop S) I) (I * (leastL ((fvals F (S + P)).drop S) I : Int) / (P : Int)) s = downL (fvals F (S + P)) (leastL ((fvals F (S + P)).drop S) I) (I * (leastL ((fvals F (S + P)).drop S) I : Int) / (P : Int)) S) (fun s => [(1, true, .int .i64 (s : Int))]) [8, 10, 12, 13] [_, _, _, _] [] _ rfl (fun s => []) (fun s => s) (S) (⟨Nat.le_refl _, rfl⟩) ⟨rfl, rfl, rfl, rfl, rfl, rfl⟩ qS ?_
  intro s hst
  dsimp only [zipE, setAll, List.cons_append, List.nil_append, List.set_cons_zero, List.set_cons_succ] at hst ⊢
  obtain ⟨hs, hd⟩ := hst
  have hs1 : 0 < s → ((s : Int) - 1).toNat = s - 1 := fun _ => by omega
  have hs2 : 0 < s → ((s : Int) - 1 + ((leastL ((fvals F (S + P)).drop S) I) : Int)).toNat = s - 1 + (leastL ((fvals F (S + P)).drop S) I) := fun _ => by omega
  have hb1 : 0 < s → 0 ≤ nth (fvals F (S + P)) ((s : Int) - 1).toNat ∧ nth (fvals F (S + P)) ((s : Int) - 1).toNat ≤ 1000000000000000 := fun h => hvn _ (by omega)
  refine W.seq (W.seq ?_)
  refine W.regionQ _ mixed qK ?_
  refine WG.run tab_ok 3 rfl ?_
  refine WG.y rfl rfl qD (pureV_ok tab_ok rfl qE) ?_
  refine WG.y rfl rfl qD (pureV_ok tab_ok rfl qE) ?_
  refine WG.y rfl rfl (by decide) (Yl.sub rfl rfl rfl qE (by intro hg; (try simp only [kk] at hg); constructor <;> (try dsimp only) <;> omega)) ?_
  refine WG.y rfl rfl (by decide) (Yl.index tab_ok rfl rfl rfl rfl rfl rfl qE (by intro hg; (try simp only [kk] at hg); constructor <;> (try dsimp only) <;> omega) (by intro hg; (try simp only [kk] at hg); first | exact fun _ _ _ _ => rfl | exact RS.has (by assumption) | exact fun _ _ _ _ => (by assumption) | exact HasMem.ownD 0 rfl | exact HasMem.ownD 1 rfl | exact HasMem.ownD 2 rfl | exact HasMem.ownD 3 rfl)) ?_
  refine' WG.y rfl rfl qD (Yl.loadG tab_ok rfl rfl rfl qE ?r2 rfl ?h2 ?g2) ?_
  case r2 => ((apply RS.rdC; assumption))
  case h2 => rfl
  case g2 => (intro hg; (try simp only [kk] at hg); (try dsimp only); omega)
  refine WG.y rfl rfl qD (pureV_ok tab_ok rfl qE) ?_
  refine WG.y rfl rfl (by decide) (Yl.add rfl rfl rfl qE (by intro hg; (try simp only [kk] at hg); constructor <;> (try dsimp only) <;> omega)) ?_
  refine WG.y rfl rfl qD (pureV_ok tab_ok rfl qE) ?_
  refine WG.y rfl rfl qD (pureV_ok tab_ok rfl qE) ?_
  refine WG.y rfl rfl (by decide) (Yl.sub rfl rfl rfl qE (by intro hg; (try simp only [kk] at hg); constructor <;> (try dsimp only) <;> omega)) ?_
  refine WG.y rfl rfl qD (pureV_ok tab_ok rfl qE) ?_
  refine WG.y rfl rfl (by decide) (Yl.add rfl rfl rfl qE (by intro hg; (try simp only [kk] at hg); constructor <;> (try dsimp only) <;> omega)) ?_
  refine WG.y rfl rfl (by decide) (Yl.index tab_ok rfl rfl rfl rfl rfl rfl qE (by intro hg; (try simp only [kk] at hg); constructor <;> (try dsimp only) <;> omega) (by intro hg; (try simp only [kk] at hg); first | exact fun _ _ _ _ => rfl | exact RS.has (by assumption) | exact fun _ _ _ _ => (by assumption) | exact HasMem.ownD 0 rfl | exact HasMem.ownD 1 rfl | exact HasMem.ownD 2 rfl | exact HasMem.ownD 3 rfl)) ?_
  refine' WG.y rfl rfl qD (Yl.loadG tab_ok rfl rfl rfl qE ?r3 rfl ?h3 ?g3) ?_
  case r3 => ((apply RS.rdC; assumption))
  case h3 => rfl
  case g3 => (intro hg; (try simp only [kk] at hg); (try dsimp only); omega)
  refine WG.y rfl rfl qD (pureV_ok tab_ok rfl qE) ?_
  refine WG.y rfl rfl (by decide) (Yl.pand rfl rfl rfl (fun _ => rfl) (by intro h1 h2; simp_all <;> omega)) ?_
  refine WG.nil (WE.nxt ?_)
  refine W.cond rfl (fun hc2 => ?_) (fun hc2 => ?_)
  ·try simp only [kk] at hc2
   obtain ⟨hc3, hc4⟩ := hc2
   rw [hs1 (by omega), hs2 (by omega)] at hc4
   have hdn : downL (fvals F (S + P)) (leastL ((fvals F (S + P)).drop S) I) (I * ((leastL ((fvals F (S + P)).drop S) I) : Int) / (P : Int)) (s - 1) = downL (fvals F (S + P)) (leastL ((fvals F (S + P)).drop S) I) (I * ((leastL ((fvals F (S + P)).drop S) I) : Int) / (P : Int)) s := by
    conv => rhs; rw [show s = (s - 1) + 1 by omega]
    simp only [downL]
    rw [if_pos hc4]
   refine W.skip (WE.nxt (W.block (W.region _ (WG.run tab_ok 1 rfl ?_))))
   refine WG.y rfl rfl (by decide) (Yl.sub rfl rfl rfl (fun _ => rfl) (by intro _; constructor <;> (try dsimp only) <;> omega)) ?_
   refine WG.run tab_ok 1 rfl (WG.nil (WE.blk _ ?_))
   refine WE.again (s - 1) (⟨by omega, by rw [← hd]; exact hdn⟩) (by (try dsimp only); omega) ⟨vint (by omega), rfl, rfl, rfl, rfl, rfl⟩ (RLe.refl _) qS
  ·try simp only [kk] at hc2
   have hsd : s = downL (fvals F (S + P)) (leastL ((fvals F (S + P)).drop S) I) (I * ((leastL ((fvals F (S + P)).drop S) I) : Int) / (P : Int)) S := by
    rw [← hd]
    by_cases h : 0 < s
    ·have h2 := hc2 (by omega)
     rw [hs1 h, hs2 h] at h2
     obtain ⟨s', rfl⟩ : ∃ m, s = m + 1 := ⟨s - 1, by omega⟩
     simp only [downL]
     rw [if_neg (by simpa using h2)]
    ·obtain rfl : s = 0 := by omega
     rfl
   refine W.exit ?_
   refine WE.then_exit (WE.then_exit (WE.blk_exit (WE.nxt (W.seq (W.seq (W.region _ (WG.run tab_ok 3 rfl ?_)))))))
   refine WG.y rfl rfl qD (pureV_ok tab_ok rfl qE) ?_
   refine WG.y rfl rfl qD (pureV_ok tab_ok rfl qE) ?_
   refine WG.y rfl rfl (by decide) (Yl.por rfl rfl rfl (fun _ => rfl) (by intro h1 h2; simp_all <;> omega)) ?_
   refine WG.nil (WE.nxt ?_)
   refine W.cond rfl (fun hc3 => ?_) (fun hc3 => ?_)
   ·try simp only [kk] at hc3
    have hmb : mbuild F S P I = (zcv, 3) := by
     unfold mbuild finL; rw [if_pos hmi]; dsimp only
     rw [if_pos (by rcases hc3 with h | h; exact .inl (by omega); exact .inr h)]
    refine W.seq (W.region _ ?_)
    -- build
    refine WG.y rfl rfl qD (Yl.build (parts := []) tab_ok rfl rfl rfl rfl (fun _ => rfl) rfl rfl) ?_
    refine WL.efN rfl rfl (Ef.store0 0 tab_ok rfl rfl rfl rfl rfl rfl rfl rfl ?_)
    refine WG.run tab_ok 1 rfl (WG.nil (WE.nxt (W.ret (WE.then_ret ?_))))
    refine WE.retF tab_ok [_, _] rfl ⟨⟨_, _, _, rfl, rfl, rfl, ((by first | exact Rd.blk 0 rfl | exact Rd.blk 1 rfl | exact Rd.blk 2 rfl | exact Rd.blk 3 rfl)), rfl⟩, rfl, trivial⟩ ((by first | exact hR1 | exact hR1.trans hR2)) ?_
    exact ⟨none, 0, by rw [hmb]; rfl, by rw [hmb]; exact rs_nil, qS⟩
   ·try simp only [kk] at hc3
    have hmb : mbuild F S P I = checkedL ((fvals F (S + P)).take (s + (leastL ((fvals F (S + P)).drop S) I))) (leastL ((fvals F (S + P)).drop S) I) (I * ((leastL ((fvals F (S + P)).drop S) I) : Int) / (P : Int)) := by
     unfold mbuild finL; rw [if_pos hmi]; dsimp only
     rw [if_neg (by rintro (h | h); have := hc3.1; omega; have := hc3.2; unfold MAXV at h; omega), ← hsd]
    refine W.skip (WE.nxt (W.seq (W.region _ (WG.run tab_ok 3 rfl ?_))))
    refine WG.y rfl rfl (by decide) (Yl.add rfl rfl rfl (fun _ => rfl) (by intro _; constructor <;> (try dsimp only) <;> omega)) ?_
    refine WG.y rfl rfl qD (Yl.sliceH tab_ok rfl rfl rfl rfl rfl (fun _ => rfl) (by intro _; omega) rfl) ?_
    refine WG.run tab_ok 2 rfl ?_
    refine WL.call en72 rfl rfl (by decide) (CallOp.mkT rfl rfl rfl rfl) (Checked_C (by have := hz.take (s + leastL ((fvals F (S + P)).drop S) I); exact this) (by rw [List.length_take, fvals_len]; omega) w0 _) ?_
    rintro _ R2 E2 hR2 ⟨f, fc, rfl, hf, hsub⟩
    refine WL.subE hsub ?_
    unfold cvV
    refine WG.run tab_ok 2 rfl ?_
    refine WL.efN rfl rfl (Ef.store0 0 tab_ok rfl rfl rfl rfl rfl rfl rfl rfl ?_)
    refine WG.run tab_ok 1 rfl (WG.nil (WE.nxt (W.ret ?_)))
    refine WE.retF tab_ok [_, _] rfl ⟨⟨_, _, _, rfl, rfl, rfl, ((by first | exact Rd.blk 0 rfl | exact Rd.blk 1 rfl | exact Rd.blk 2 rfl | exact Rd.blk 3 rfl)), rfl⟩, rfl, trivial⟩ ((by first | exact hR1 | exact hR1.trans hR2)) ?_
    exact ⟨f, fc, by rw [hmb]; rfl, by rw [hmb]; exact hf, qS⟩

end Go.Proofs.Ytnackbfnmhkodaa

/- Reference 02: the least form, validity, Made. No condition. -/
set_option maxRecDepth 4000
set_option linter.unusedSimpArgs false
set_option linter.unusedVariables false
namespace Go.Proofs.Ytnackbfnmhkodaa
open Go Go.RowKit Go.Proofs.Ytnackbfnmhkodaa.K Go.Proofs.Ytnackbfnmhkodaa.M

theorem Periodic_V {R : Ro} {a : Option Addr} {c : Nat} {v : List Int} {per inc : Int} {start p : Int} (ha : RS R 1 encI a v) (hper : 1 ≤ per ∧ per ≤ 100000) (hinc : 0 ≤ inc ∧ inc ≤ 549755813888) (hv : ∀ x ∈ v, -2305843009213693952 ≤ x ∧ x ≤ 4611686018427387904) (hs : 0 ≤ start ∧ start ≤ 100000) (hp : 1 ≤ p ∧ p ≤ 100000) (hat : ∀ t, 0 ≤ t → t ≤ start + per + p → 0 ≤ atR v per inc t ∧ atR v per inc t ≤ 1000000000000000) : FnV Try.prog 100 [.agg #[.slice a v.length c, .int .i64 per, .int .i64 inc], .int .i64 start, .int .i64 p] R (.bool (perR ⟨v, per, inc⟩ start p)) := by
 refine Fn.toV (fun w0 E => ?_)
 have hip : 0 ≤ inc * p ∧ inc * p ≤ 549755813888 * 100000 := ⟨Int.mul_nonneg hinc.1 (by omega), Int.mul_le_mul hinc.2 (by omega) (by omega) (by omega)⟩
 have hiq : 0 ≤ inc * p / per ∧ inc * p / per ≤ 549755813888 * 100000 := ⟨Int.ediv_nonneg hip.1 (by omega), Int.le_trans (Int.ediv_le_self _ hip.1) hip.2⟩
 refine Fn.enter (n := 49) Try.func100 rfl rfl (Nat.le_of_ble_eq_true rfl) rfl ?_
 refine W.seq (W.region _ ?_)
 refine WL.ef rfl rfl qD (Ef.box rfl rfl (fun b3 => ?_))
 refine WG.run tab_ok 1 rfl (WG.nil (WE.nxt (W.seq (W.seq (W.region _ (WG.run tab_ok 1 rfl ?_))))))
 refine' WG.y rfl rfl qD (Yl.load1 tab_ok rfl rfl rfl (fun _ => rfl) ?r1 rfl ?h1) ?_
 case r1 => apply Rd.add; (exact Rd.blk 0 rfl)
 case h1 => rfl
 refine WG.run tab_ok 1 rfl ?_
 refine WG.y rfl rfl qD (Yl.tmod rfl rfl rfl (fun _ => rfl) (by intro _; omega)) ?_
 refine WG.run tab_ok 2 rfl ?_
 refine WG.y rfl rfl qD (pureV_ok tab_ok rfl qE) ?_
 refine' WG.y rfl rfl qD (Yl.loadG tab_ok rfl rfl rfl qE ?r2 rfl ?h2 ?g2) ?_
 case r2 => apply Rd.addC; (exact Rd.blkC 0 rfl)
 case h2 => rfl
 case g2 => exact fun _ => trivial
 refine WG.y rfl rfl qD (pureV_ok tab_ok rfl qE) ?_
 refine WG.y rfl rfl (by decide) (Yl.mul rfl rfl rfl qE (by intro hg; (try simp only [kk] at hg); constructor <;> (try dsimp only) <;> omega)) ?_
 refine WG.y rfl rfl qD (pureV_ok tab_ok rfl qE) ?_
 refine' WG.y rfl rfl qD (Yl.loadG tab_ok rfl rfl rfl qE ?r3 rfl ?h3 ?g3) ?_
 case r3 => apply Rd.addC; (exact Rd.blkC 0 rfl)
 case h3 => rfl
 case g3 => exact fun _ => trivial
 refine WG.y rfl rfl (by decide) (Yl.tmod rfl rfl rfl qE (by intro hg; (try simp only [kk] at hg); omega)) ?_
 refine WG.y rfl rfl qD (pureV_ok tab_ok rfl qE) ?_
 refine WG.y rfl rfl (by decide) (Yl.por rfl rfl rfl (fun _ => rfl) (by intro h1 h2; simp_all <;> omega)) ?_
 refine WG.nil (WE.nxt ?_)
 refine W.cond rfl (fun hc0 => ?_) (fun hc0 => ?_)
 ·try simp only [kk] at hc0
  have hno : perR ⟨v, per, inc⟩ start p = false := by
   unfold perR
   rw [← Bool.not_eq_true]
   intro h
   simp only [Bool.and_eq_true, beq_iff_eq] at h
   rcases hc0 with h1 | h1
   ·exact h1 h.1.1
   ·exact h1 h.1.2
  refine W.seq (W.region _ (WG.run tab_ok 1 rfl (WG.nil (WE.nxt (W.ret (WE.then_ret ?_))))))
  refine WE.subE (E' := E) qS ?_
  refine WE.retF tab_ok [_] rfl ⟨rfl, trivial⟩ (RLe.refl _) ?_
  exact ⟨by rw [hno]; rfl, rfl⟩
 ·try simp only [kk] at hc0
  refine W.skip (WE.nxt (W.seq (W.seq (W.region _ (WG.run tab_ok 2 rfl (WG.nil (WE.nxt (W.block ?_))))))))
  refine W.loopK (β := Nat) (fun i => i ≤ per.toNat ∧ ∀ j, j < i → (atR v per inc (start + (j : Int) + p) == atR v per inc (start + (j : Int)) + inc * p / per) = true) (fun i => [(7, true, .int .i64 (start + (i : Int)))]) [1, 2, 3] [_, _, _] [] _ rfl (fun i => []) (fun i => per.toNat - i) (0) (⟨Nat.zero_le _, fun j hj => by omega⟩) ⟨vint qO, rfl, rfl, rfl, rfl⟩ qS ?_
  intro i hst
  dsimp only [zipE, setAll, List.cons_append, List.nil_append, List.set_cons_zero, List.set_cons_succ] at hst ⊢
  
  refine W.seq (W.seq (W.region _ (WG.run tab_ok 3 rfl ?_)))
  refine' WG.y rfl rfl qD (Yl.load1 tab_ok rfl rfl rfl (fun _ => rfl) ?r4 rfl ?h4) ?_
  case r4 => apply Rd.add; (exact Rd.blk 0 rfl)
  case h4 => rfl
  refine WG.y rfl rfl (by decide) (Yl.add rfl rfl rfl (fun _ => rfl) (by intro _; constructor <;> (try dsimp only) <;> omega)) ?_
  refine WG.run tab_ok 1 rfl (WG.nil (WE.nxt ?_))
  refine W.condD rfl (fun hc1 => ?_) (fun hc1 => ?_)
  ·try dsimp only at hc1
   have ha1 := hat (start + (i : Int)) (by omega) (by omega)
   have ha2 := hat (start + (i : Int) + p) (by omega) (by omega)
   refine W.skip (WE.nxt (W.seq (W.block (W.seq ?_))))
   refine W.regionQ _ mixed qK ?_
   refine' WG.y rfl rfl qD (Yl.load1 tab_ok rfl rfl rfl (fun _ => rfl) ?r5 rfl ?h5) ?_
   case r5 => (exact Rd.blk 0 rfl)
   case h5 => rfl
   refine WG.run tab_ok 2 rfl ?_
   refine WG.y rfl rfl (by decide) (Yl.add rfl rfl rfl (fun _ => rfl) (by intro _; constructor <;> (try dsimp only) <;> omega)) ?_
   refine WG.callV en28 rfl rfl qD (CallOp.mk' rfl rfl rfl rfl) (fun _ => rfl) (fun hg => At_L ha (by constructor <;> omega) ⟨by constructor <;> omega, by omega⟩ hinc hv) ?_
   refine' WG.y rfl rfl qD (Yl.load1 tab_ok rfl rfl rfl (fun _ => rfl) ?r6 rfl ?h6) ?_
   case r6 => (exact Rd.blk 0 rfl)
   case h6 => rfl
   refine WG.run tab_ok 1 rfl ?_
   refine WG.callV en28 rfl rfl qD (CallOp.mk' rfl rfl rfl rfl) (fun _ => rfl) (fun hg => At_L ha (by constructor <;> omega) ⟨by constructor <;> omega, by omega⟩ hinc hv) ?_
   refine WG.run tab_ok 1 rfl ?_
   refine' WG.y rfl rfl qD (Yl.load1 tab_ok rfl rfl rfl (fun _ => rfl) ?r7 rfl ?h7) ?_
   case r7 => apply Rd.add; (exact Rd.blk 0 rfl)
   case h7 => rfl
   refine WG.run tab_ok 1 rfl ?_
   refine WG.y rfl rfl (by decide) (Yl.mul rfl rfl rfl (fun _ => rfl) (by intro _; constructor <;> (try dsimp only) <;> omega)) ?_
   refine WG.run tab_ok 1 rfl ?_
   refine' WG.y rfl rfl qD (Yl.load1 tab_ok rfl rfl rfl (fun _ => rfl) ?r8 rfl ?h8) ?_
   case r8 => apply Rd.add; (exact Rd.blk 0 rfl)
   case h8 => rfl
   refine WG.y rfl rfl (by decide) (Yl.quo rfl rfl rfl (fun _ => rfl) (by intro _; constructor <;> (try dsimp only) <;> omega) (by intro _; omega)) ?_
   refine WG.y rfl rfl (by decide) (Yl.add rfl rfl rfl (fun _ => rfl) (by intro _; constructor <;> (try dsimp only) <;> omega)) ?_
   refine WG.run tab_ok 1 rfl (WG.nil (WE.nxt ?_))
   refine W.condN rfl (fun hc2 => ?_) (fun hc2 => ?_)
   ·try dsimp only at hc2
    have hno : perR ⟨v, per, inc⟩ start p = false := by
     unfold perR
     rw [← Bool.not_eq_true]
     intro h
     simp only [Bool.and_eq_true, beq_iff_eq, List.all_eq_true, List.mem_range] at h
     exact hc2 (h.2 i qO)
    refine W.seq (W.region _ (WG.run tab_ok 1 rfl (WG.nil (WE.nxt (W.ret (WE.blk_ret (WE.then_ret (WE.then_ret (WE.blk_ret (WE.then_ret ?_))))))))))
    refine WE.subE (E' := E) qS ?_
    refine WE.retF tab_ok [_] rfl ⟨rfl, trivial⟩ (RLe.refl _) ?_
    exact ⟨by rw [hno]; rfl, rfl⟩
   ·try dsimp only at hc2
    have hy : (atR v per inc (start + (i : Int) + p) == atR v per inc (start + (i : Int)) + inc * p / per) = true := by rw [beq_iff_eq]; exact hc2
    refine W.skip (WE.blk _ (WE.nxt (W.region _ (WG.run tab_ok 1 rfl ?_))))
    refine WG.y rfl rfl (by decide) (Yl.add rfl rfl rfl (fun _ => rfl) (by intro _; constructor <;> (try dsimp only) <;> omega)) ?_
    refine WG.run tab_ok 1 rfl (WG.nil ?_)
    refine WE.again (i + 1) (⟨by omega, fun j hj => by
     by_cases e : j = i
     ·subst e; exact hy
     ·exact hst.2 j (by omega)⟩) (by (try dsimp only); omega) ⟨vint (by omega), rfl, rfl, rfl, rfl⟩ (RLe.refl _) qS
  ·try dsimp only at hc1
   have hyes : perR ⟨v, per, inc⟩ start p = true := by
    unfold perR
    simp only [Bool.and_eq_true, beq_iff_eq, List.all_eq_true, List.mem_range]
    exact ⟨⟨hc0.1, hc0.2⟩, fun x hx => by have := hst.2 x qO; rwa [beq_iff_eq] at this⟩
   refine W.exit ?_
   refine WE.then_exit (WE.then_exit (WE.blk_exit (WE.nxt (W.seq (W.region _ (WG.run tab_ok 1 rfl (WG.nil (WE.nxt (W.ret ?_)))))))))
   refine WE.subE (E' := E) qS ?_
   refine WE.retF tab_ok [_] rfl ⟨rfl, trivial⟩ (RLe.refl _) ?_
   exact ⟨by rw [hyes]; rfl, rfl⟩

theorem Valid_V {R : Ro} {a : Option Addr} {c : Nat} {v : List Int} {per inc : Int} (ha : RS R 1 encI a v) (hper : InR per) (hinc : InR inc) (hv : ∀ x ∈ v, -2305843009213693952 ≤ x ∧ x ≤ 4611686018427387904) : FnV Try.prog 27 [.agg #[.slice a v.length c, .int .i64 per, .int .i64 inc]] R (.bool (validB ⟨v, per, inc⟩)) := by
 have hla := ha.len
 refine Fn.toV (fun w0 E => ?_)
 have hvn : ∀ j, j < v.length → -2305843009213693952 ≤ nth v j ∧ nth v j ≤ 4611686018427387904 := fun j hj => hv _ (nth_mem hj)
 refine Fn.enter (n := 118) Try.func27 rfl rfl (Nat.le_of_ble_eq_true rfl) rfl ?_
 refine W.seq (W.region _ ?_)
 refine WL.ef rfl rfl qD (Ef.box rfl rfl (fun b1 => ?_))
 refine WG.run tab_ok 1 rfl (WG.nil (WE.nxt (W.seq (W.region _ (WG.run tab_ok 1 rfl ?_)))))
 refine' WG.y rfl rfl qD (Yl.load1 tab_ok rfl rfl rfl (fun _ => rfl) ?r1 rfl ?h1) ?_
 case r1 => apply Rd.add; (exact Rd.blk 0 rfl)
 case h1 => rfl
 refine WG.run tab_ok 2 rfl (WG.nil (WE.nxt (W.seq (W.seq (W.region _ (WG.run tab_ok 3 rfl ?_))))))
 refine WG.y rfl rfl qD (pureV_ok tab_ok rfl qE) ?_
 refine WG.y rfl rfl qD (pureV_ok tab_ok rfl qE) ?_
 refine WG.y rfl rfl (by decide) (Yl.por rfl rfl rfl (fun _ => rfl) (by intro h1 h2; simp_all <;> omega)) ?_
 refine WG.run tab_ok 1 rfl ?_
 refine WG.y rfl rfl qD (pureV_ok tab_ok rfl qE) ?_
 refine' WG.y rfl rfl qD (Yl.loadG tab_ok rfl rfl rfl qE ?r2 rfl ?h2 ?g2) ?_
 case r2 => apply Rd.addC; (exact Rd.blkC 0 rfl)
 case h2 => rfl
 case g2 => exact fun _ => trivial
 refine WG.y rfl rfl qD (pureV_ok tab_ok rfl qE) ?_
 refine WG.y rfl rfl (by decide) (Yl.por rfl rfl rfl (fun _ => rfl) (by intro h1 h2; simp_all <;> omega)) ?_
 refine WG.run tab_ok 1 rfl ?_
 refine WG.y rfl rfl qD (pureV_ok tab_ok rfl qE) ?_
 refine' WG.y rfl rfl qD (Yl.loadG tab_ok rfl rfl rfl qE ?r3 rfl ?h3 ?g3) ?_
 case r3 => apply Rd.addC; (exact Rd.blkC 0 rfl)
 case h3 => rfl
 case g3 => exact fun _ => trivial
 refine WG.y rfl rfl qD (pureV_ok tab_ok rfl qE) ?_
 refine WG.y rfl rfl (by decide) (Yl.por rfl rfl rfl (fun _ => rfl) (by intro h1 h2; simp_all <;> omega)) ?_
 refine WG.run tab_ok 1 rfl ?_
 refine WG.y rfl rfl qD (pureV_ok tab_ok rfl qE) ?_
 refine' WG.y rfl rfl qD (Yl.loadG tab_ok rfl rfl rfl qE ?r4 rfl ?h4 ?g4) ?_
 case r4 => apply Rd.addC; (exact Rd.blkC 0 rfl)
 case h4 => rfl
 case g4 => exact fun _ => trivial
 refine WG.y rfl rfl qD (pureV_ok tab_ok rfl qE) ?_
 refine WG.y rfl rfl qD (pureV_ok tab_ok rfl qE) ?_
 refine WG.y rfl rfl (by decide) (Yl.por rfl rfl rfl (fun _ => rfl) (by intro h1 h2; simp_all <;> omega)) ?_
 refine WG.run tab_ok 1 rfl ?_
 refine WG.y rfl rfl qD (pureV_ok tab_ok rfl qE) ?_
 refine' WG.y rfl rfl qD (Yl.loadG tab_ok rfl rfl rfl qE ?r5 rfl ?h5 ?g5) ?_
 case r5 => apply Rd.addC; (exact Rd.blkC 0 rfl)
 case h5 => rfl
 case g5 => exact fun _ => trivial
 refine WG.y rfl rfl qD (pureV_ok tab_ok rfl qE) ?_
 refine WG.y rfl rfl (by decide) (Yl.por rfl rfl rfl (fun _ => rfl) (by intro h1 h2; simp_all <;> omega)) ?_
 refine WG.run tab_ok 1 rfl ?_
 refine WG.y rfl rfl qD (pureV_ok tab_ok rfl qE) ?_
 refine' WG.y rfl rfl qD (Yl.loadG tab_ok rfl rfl rfl qE ?r6 rfl ?h6 ?g6) ?_
 case r6 => apply Rd.addC; (exact Rd.blkC 0 rfl)
 case h6 => rfl
 case g6 => exact fun _ => trivial
 refine WG.y rfl rfl qD (pureV_ok tab_ok rfl qE) ?_
 refine WG.y rfl rfl (by decide) (Yl.por rfl rfl rfl (fun _ => rfl) (by intro h1 h2; simp_all <;> omega)) ?_
 refine WG.nil (WE.nxt ?_)
 refine W.cond rfl (fun hc0 => ?_) (fun hc0 => ?_)
 ·try simp only [kk] at hc0
  have hno : validB ⟨v, per, inc⟩ = false := validB_false (fun h => by obtain ⟨⟨a1, a2, a3, a4, a5, a6, a7⟩, _⟩ := h; dsimp only at a1 a2 a3 a4 a5 a6 a7; unfold MAXV at a7; omega)
  refine W.seq (W.region _ (WG.run tab_ok 1 rfl (WG.nil (WE.nxt (W.ret (WE.then_ret ?_))))))
  refine WE.subE (E' := E) qS ?_
  refine WE.retF tab_ok [_] rfl ⟨rfl, trivial⟩ (RLe.refl _) ?_
  exact ⟨by rw [hno]; rfl, rfl⟩
 ·try simp only [kk] at hc0
  have hall : 1 ≤ v.length ∧ v.length ≤ 400 ∧ 1 ≤ per ∧ per ≤ 120 ∧ per ≤ v.length ∧ 0 ≤ inc ∧ inc ≤ MAXV := by unfold MAXV; omega
  refine W.skip (WE.nxt (W.seq (W.seq (W.region _ (WG.run tab_ok 1 rfl (WG.nil (WE.nxt (W.block ?_))))))))
  refine W.loopK (β := Nat) (fun i => i ≤ v.length ∧ ∀ j, j < i → (nth v j = INF ∨ (0 ≤ nth v j ∧ nth v j ≤ MAXV)) ∧ (j = 0 ∨ nth v (j - 1) ≤ nth v j)) (fun i => [(4, true, .int .i64 (i : Int))]) [1, 3] [_, _] [] _ rfl (fun i => []) (fun i => v.length - i) (0) (⟨Nat.zero_le _, fun j hj => by omega⟩) ⟨rfl, rfl, rfl, rfl⟩ qS ?_
  intro i hst
  dsimp only [zipE, setAll, List.cons_append, List.nil_append, List.set_cons_zero, List.set_cons_succ] at hst ⊢
  
  refine W.seq (W.seq (W.region _ (WG.run tab_ok 3 rfl (WG.nil (WE.nxt ?_)))))
  refine W.condD rfl (fun hc1 => ?_) (fun hc1 => ?_)
  ·try dsimp only at hc1
   have hil : i < v.length := by omega
   have hvi := hvn i hil
   have e1 : 0 < i → ((i : Int) - 1).toNat = i - 1 := fun _ => by omega
   have hv1 : 0 < i → -2305843009213693952 ≤ nth v ((i : Int) - 1).toNat ∧ nth v ((i : Int) - 1).toNat ≤ 4611686018427387904 := fun h => hvn _ (by omega)
   refine W.skip (WE.nxt (W.seq (W.block (W.seq ?_))))
   refine W.regionQ _ mixed qK ?_
   refine WG.run tab_ok 1 rfl ?_
   refine' WG.y rfl rfl qD (Yl.load1 tab_ok rfl rfl rfl (fun _ => rfl) ?r7 rfl ?h7) ?_
   case r7 => apply Rd.add; (exact Rd.blk 0 rfl)
   case h7 => rfl
   refine WG.run tab_ok 1 rfl ?_
   refine WG.y rfl rfl (by decide) (Yl.indexN tab_ok rfl rfl rfl rfl rfl rfl (fun _ => rfl) (by intro _; (try dsimp only) <;> omega) (by intro _; first | exact fun _ _ _ _ => rfl | exact RS.has (by assumption) | exact fun _ _ _ _ => (by assumption) | exact HasMem.ownD 0 rfl | exact HasMem.ownD 1 rfl | exact HasMem.ownD 2 rfl)) ?_
   refine' WG.y rfl rfl qD (Yl.load1 tab_ok rfl rfl rfl (fun _ => rfl) ?r8 rfl ?h8) ?_
   case r8 => ((apply RS.rdD; assumption; ((try dsimp only) <;> omega)))
   case h8 => rfl
   refine WG.run tab_ok 2 rfl ?_
   refine WG.y rfl rfl qD (pureV_ok tab_ok rfl qE) ?_
   refine' WG.y rfl rfl qD (Yl.loadG tab_ok rfl rfl rfl qE ?r9 rfl ?h9 ?g9) ?_
   case r9 => apply Rd.addC; (exact Rd.blkC 0 rfl)
   case h9 => rfl
   case g9 => exact fun _ => trivial
   refine WG.y rfl rfl qD (pureV_ok tab_ok rfl qE) ?_
   refine WG.y rfl rfl (by decide) (Yl.indexN tab_ok rfl rfl rfl rfl rfl rfl qE (by intro hg; (try simp only [kk] at hg); (try dsimp only) <;> omega) (by intro hg; (try simp only [kk] at hg); first | exact fun _ _ _ _ => rfl | exact RS.has (by assumption) | exact fun _ _ _ _ => (by assumption) | exact HasMem.ownD 0 rfl | exact HasMem.ownD 1 rfl | exact HasMem.ownD 2 rfl)) ?_
   refine' WG.y rfl rfl qD (Yl.loadG tab_ok rfl rfl rfl qE ?r10 rfl ?h10 ?g10) ?_
   case r10 => ((apply RS.rdC; assumption))
   case h10 => rfl
   case g10 => (intro hg; (try simp only [kk] at hg); (try dsimp only); omega)
   refine WG.y rfl rfl qD (pureV_ok tab_ok rfl qE) ?_
   refine WG.y rfl rfl qD (pureV_ok tab_ok rfl qE) ?_
   refine WG.y rfl rfl qD (pureV_ok tab_ok rfl qE) ?_
   refine' WG.y rfl rfl qD (Yl.loadG tab_ok rfl rfl rfl qE ?r11 rfl ?h11 ?g11) ?_
   case r11 => apply Rd.addC; (exact Rd.blkC 0 rfl)
   case h11 => rfl
   case g11 => exact fun _ => trivial
   refine WG.y rfl rfl qD (pureV_ok tab_ok rfl qE) ?_
   refine WG.y rfl rfl (by decide) (Yl.indexN tab_ok rfl rfl rfl rfl rfl rfl qE (by intro hg; (try simp only [kk] at hg); (try dsimp only) <;> omega) (by intro hg; (try simp only [kk] at hg); first | exact fun _ _ _ _ => rfl | exact RS.has (by assumption) | exact fun _ _ _ _ => (by assumption) | exact HasMem.ownD 0 rfl | exact HasMem.ownD 1 rfl | exact HasMem.ownD 2 rfl)) ?_
   refine' WG.y rfl rfl qD (Yl.loadG tab_ok rfl rfl rfl qE ?r12 rfl ?h12 ?g12) ?_
   case r12 => ((apply RS.rdC; assumption))
   case h12 => rfl
   case g12 => (intro hg; (try simp only [kk] at hg); (try dsimp only); omega)
   refine WG.y rfl rfl qD (pureV_ok tab_ok rfl qE) ?_
   refine WG.y rfl rfl (by decide) (Yl.por rfl rfl rfl qE (by intro h1 h2; simp_all <;> omega)) ?_
   refine WG.y rfl rfl (by decide) (Yl.pand rfl rfl rfl (fun _ => rfl) (by intro h1 h2; simp_all <;> omega)) ?_
   refine WG.run tab_ok 1 rfl ?_
   refine WG.y rfl rfl qD (pureV_ok tab_ok rfl qE) ?_
   refine WG.y rfl rfl qD (pureV_ok tab_ok rfl qE) ?_
   refine WG.y rfl rfl qD (pureV_ok tab_ok rfl qE) ?_
   refine WG.y rfl rfl qD (pureV_ok tab_ok rfl qE) ?_
   refine' WG.y rfl rfl qD (Yl.loadG tab_ok rfl rfl rfl qE ?r13 rfl ?h13 ?g13) ?_
   case r13 => apply Rd.addC; (exact Rd.blkC 0 rfl)
   case h13 => rfl
   case g13 => exact fun _ => trivial
   refine WG.y rfl rfl qD (pureV_ok tab_ok rfl qE) ?_
   refine WG.y rfl rfl (by decide) (Yl.indexN tab_ok rfl rfl rfl rfl rfl rfl qE (by intro hg; (try simp only [kk] at hg); (try dsimp only) <;> omega) (by intro hg; (try simp only [kk] at hg); first | exact fun _ _ _ _ => rfl | exact RS.has (by assumption) | exact fun _ _ _ _ => (by assumption) | exact HasMem.ownD 0 rfl | exact HasMem.ownD 1 rfl | exact HasMem.ownD 2 rfl)) ?_
   refine' WG.y rfl rfl qD (Yl.loadG tab_ok rfl rfl rfl qE ?r14 rfl ?h14 ?g14) ?_
   case r14 => ((apply RS.rdC; assumption))
   case h14 => rfl
   case g14 => (intro hg; (try simp only [kk] at hg); (try dsimp only); omega)
   refine WG.y rfl rfl qD (pureV_ok tab_ok rfl qE) ?_
   refine' WG.y rfl rfl qD (Yl.loadG tab_ok rfl rfl rfl qE ?r15 rfl ?h15 ?g15) ?_
   case r15 => apply Rd.addC; (exact Rd.blkC 0 rfl)
   case h15 => rfl
   case g15 => exact fun _ => trivial
   refine WG.y rfl rfl qD (pureV_ok tab_ok rfl qE) ?_
   refine WG.y rfl rfl (by decide) (Yl.sub rfl rfl rfl qE (by intro hg; (try simp only [kk] at hg); constructor <;> (try dsimp only) <;> omega)) ?_
   refine WG.y rfl rfl (by decide) (Yl.index tab_ok rfl rfl rfl rfl rfl rfl qE (by intro hg; (try simp only [kk] at hg); constructor <;> (try dsimp only) <;> omega) (by intro hg; (try simp only [kk] at hg); first | exact fun _ _ _ _ => rfl | exact RS.has (by assumption) | exact fun _ _ _ _ => (by assumption) | exact HasMem.ownD 0 rfl | exact HasMem.ownD 1 rfl | exact HasMem.ownD 2 rfl)) ?_
   refine' WG.y rfl rfl qD (Yl.loadG tab_ok rfl rfl rfl qE ?r16 rfl ?h16 ?g16) ?_
   case r16 => ((apply RS.rdC; assumption))
   case h16 => rfl
   case g16 => (intro hg; (try simp only [kk] at hg); (try dsimp only); omega)
   refine WG.y rfl rfl qD (pureV_ok tab_ok rfl qE) ?_
   refine WG.y rfl rfl (by decide) (Yl.pand rfl rfl rfl qE (by intro h1 h2; simp_all <;> omega)) ?_
   refine WG.y rfl rfl (by decide) (Yl.por rfl rfl rfl (fun _ => rfl) (by intro h1 h2; simp_all <;> omega)) ?_
   refine WG.nil (WE.nxt ?_)
   refine W.cond rfl (fun hc2 => ?_) (fun hc2 => ?_)
   ·try simp only [kk] at hc2
    have hno : validB ⟨v, per, inc⟩ = false := validB_false (fun h => by
     obtain ⟨_, h2, _⟩ := h
     have h2 := h2 i hil
     dsimp only at h2
     unfold INF MAXV at h2
     rcases hc2 with ⟨x1, x2⟩ | ⟨x1, x2⟩
     ·omega
     ·rw [e1 (by omega)] at x2; omega)
    refine W.seq (W.region _ (WG.run tab_ok 1 rfl (WG.nil (WE.nxt (W.ret (WE.blk_ret (WE.then_ret (WE.then_ret (WE.blk_ret (WE.then_ret ?_))))))))))
    refine WE.subE (E' := E) qS ?_
    refine WE.retF tab_ok [_] rfl ⟨rfl, trivial⟩ (RLe.refl _) ?_
    exact ⟨by rw [hno]; rfl, rfl⟩
   ·try simp only [kk] at hc2
    have hy : (nth v i = INF ∨ (0 ≤ nth v i ∧ nth v i ≤ MAXV)) ∧ (i = 0 ∨ nth v (i - 1) ≤ nth v i) := by
     obtain ⟨x1, x2⟩ := hc2
     unfold INF MAXV
     refine ⟨by omega, ?_⟩
     by_cases h : i = 0
     ·exact .inl h
     ·have := x2 (by omega)
      rw [e1 (by omega)] at this
      right; omega
    refine W.skip (WE.blk _ (WE.nxt (W.region _ (WG.run tab_ok 1 rfl ?_))))
    refine WG.y rfl rfl (by decide) (Yl.add rfl rfl rfl (fun _ => rfl) (by intro _; constructor <;> (try dsimp only) <;> omega)) ?_
    refine WG.run tab_ok 1 rfl (WG.nil ?_)
    refine WE.again (i + 1) (⟨by omega, fun j hj => by
     by_cases e : j = i
     ·subst e; exact hy
     ·exact hst.2 j (by omega)⟩) (by (try dsimp only); omega) ⟨rfl, rfl, rfl, rfl⟩ (RLe.refl _) qS
  ·try dsimp only at hc1
   obtain rfl : i = v.length := by omega
   have e2 : ((v.length : Int) - 1).toNat = v.length - 1 := by omega
   have e3 : ((v.length : Int) - per).toNat = v.length - per.toNat := by omega
   have hx1 := hvn (((v.length : Int) - 1).toNat) (by omega)
   have hx2 := hvn (((v.length : Int) - per).toNat) (by omega)
   refine W.exit ?_
   refine WE.then_exit (WE.then_exit (WE.blk_exit (WE.nxt (W.seq (W.seq (W.region _ (WG.run tab_ok 1 rfl ?_)))))))
   refine' WG.y rfl rfl qD (Yl.load1 tab_ok rfl rfl rfl (fun _ => rfl) ?r17 rfl ?h17) ?_
   case r17 => apply Rd.add; (exact Rd.blk 0 rfl)
   case h17 => rfl
   refine WG.run tab_ok 1 rfl ?_
   refine WG.y rfl rfl (by decide) (Yl.sub rfl rfl rfl (fun _ => rfl) (by intro _; constructor <;> (try dsimp only) <;> omega)) ?_
   refine WG.y rfl rfl (by decide) (Yl.index tab_ok rfl rfl rfl rfl rfl rfl (fun _ => rfl) (by intro _; constructor <;> (try dsimp only) <;> omega) (by intro _; first | exact fun _ _ _ _ => rfl | exact RS.has (by assumption) | exact fun _ _ _ _ => (by assumption) | exact HasMem.ownD 0 rfl | exact HasMem.ownD 1 rfl | exact HasMem.ownD 2 rfl)) ?_
   refine' WG.y rfl rfl qD (Yl.load1 tab_ok rfl rfl rfl (fun _ => rfl) ?r18 rfl ?h18) ?_
   case r18 => exact RS.rdD ha qO
   case h18 => rfl
   refine WG.run tab_ok 1 rfl (WG.nil (WE.nxt ?_))
   refine W.condE rfl (fun hc3 => ?_) (fun hc3 => ?_)
   ·try dsimp only at hc3
    have hif : (if nth v (v.length - 1) = INF then per = 1 ∧ inc = 0 else nth v (v.length - 1) ≤ nth v (v.length - per.toNat) + inc) ↔ (per = 1 ∧ inc = 0) := by rw [if_pos (by rw [← e2]; exact hc3)]
    refine W.seq (W.region _ (WG.run tab_ok 1 rfl ?_))
    refine' WG.y rfl rfl qD (Yl.load1 tab_ok rfl rfl rfl (fun _ => rfl) ?r19 rfl ?h19) ?_
    case r19 => apply Rd.add; (exact Rd.blk 0 rfl)
    case h19 => rfl
    refine WG.run tab_ok 2 rfl ?_
    refine WG.y rfl rfl qD (pureV_ok tab_ok rfl qE) ?_
    refine' WG.y rfl rfl qD (Yl.loadG tab_ok rfl rfl rfl qE ?r20 rfl ?h20 ?g20) ?_
    case r20 => apply Rd.addC; (exact Rd.blkC 0 rfl)
    case h20 => rfl
    case g20 => exact fun _ => trivial
    refine WG.y rfl rfl qD (pureV_ok tab_ok rfl qE) ?_
    refine WG.y rfl rfl (by decide) (Yl.pand rfl rfl rfl (fun _ => rfl) (by intro h1 h2; simp_all <;> omega)) ?_
    refine WG.run tab_ok 1 rfl (WG.nil (WE.nxt (W.ret (WE.then_ret ?_))))
    refine WE.subE (E' := E) qS ?_
    refine WE.retF tab_ok [_] rfl ⟨rfl, trivial⟩ (RLe.refl _) ?_
    refine ⟨congrArg Value.bool ?_, rfl⟩
    rw [Bool.eq_iff_iff, validB_iff]
    dsimp only
    rw [hif]
    simp only [Bool.and_eq_true, beq_iff_eq]
    exact ⟨fun h => ⟨hall, fun j hj => hst.2 j hj, h⟩, fun h => h.2.2⟩
   ·try dsimp only at hc3
    have hif : (if nth v (v.length - 1) = INF then per = 1 ∧ inc = 0 else nth v (v.length - 1) ≤ nth v (v.length - per.toNat) + inc) ↔ (nth v (v.length - 1) ≤ nth v (v.length - per.toNat) + inc) := by rw [if_neg (by rw [← e2]; exact hc3)]
    refine W.skip (WE.nxt (W.seq ?_))
    refine W.regionQ _ mixed qK ?_
    refine WG.run tab_ok 1 rfl ?_
    refine' WG.y rfl rfl qD (Yl.load1 tab_ok rfl rfl rfl (fun _ => rfl) ?r21 rfl ?h21) ?_
    case r21 => apply Rd.add; (exact Rd.blk 0 rfl)
    case h21 => rfl
    refine WG.run tab_ok 2 rfl ?_
    refine' WG.y rfl rfl qD (Yl.load1 tab_ok rfl rfl rfl (fun _ => rfl) ?r22 rfl ?h22) ?_
    case r22 => apply Rd.add; (exact Rd.blk 0 rfl)
    case h22 => rfl
    refine WG.y rfl rfl (by decide) (Yl.sub rfl rfl rfl (fun _ => rfl) (by intro _; constructor <;> (try dsimp only) <;> omega)) ?_
    refine WG.y rfl rfl (by decide) (Yl.index tab_ok rfl rfl rfl rfl rfl rfl (fun _ => rfl) (by intro _; constructor <;> (try dsimp only) <;> omega) (by intro _; first | exact fun _ _ _ _ => rfl | exact RS.has (by assumption) | exact fun _ _ _ _ => (by assumption) | exact HasMem.ownD 0 rfl | exact HasMem.ownD 1 rfl | exact HasMem.ownD 2 rfl)) ?_
    refine' WG.y rfl rfl qD (Yl.load1 tab_ok rfl rfl rfl (fun _ => rfl) ?r23 rfl ?h23) ?_
    case r23 => exact RS.rdD ha qO
    case h23 => rfl
    refine WG.run tab_ok 1 rfl ?_
    refine' WG.y rfl rfl qD (Yl.load1 tab_ok rfl rfl rfl (fun _ => rfl) ?r24 rfl ?h24) ?_
    case r24 => apply Rd.add; (exact Rd.blk 0 rfl)
    case h24 => rfl
    refine WG.y rfl rfl (by decide) (Yl.add rfl rfl rfl (fun _ => rfl) (by intro _; constructor <;> (try dsimp only) <;> omega)) ?_
    refine WG.run tab_ok 1 rfl ?_
    refine' WG.y rfl rfl qD (Yl.load1 tab_ok rfl rfl rfl (fun _ => rfl) ?r25 rfl ?h25) ?_
    case r25 => apply Rd.add; (exact Rd.blk 0 rfl)
    case h25 => rfl
    refine WG.run tab_ok 1 rfl ?_
    refine WG.y rfl rfl (by decide) (Yl.sub rfl rfl rfl (fun _ => rfl) (by intro _; constructor <;> (try dsimp only) <;> omega)) ?_
    refine WG.y rfl rfl (by decide) (Yl.index tab_ok rfl rfl rfl rfl rfl rfl (fun _ => rfl) (by intro _; constructor <;> (try dsimp only) <;> omega) (by intro _; first | exact fun _ _ _ _ => rfl | exact RS.has (by assumption) | exact fun _ _ _ _ => (by assumption) | exact HasMem.ownD 0 rfl | exact HasMem.ownD 1 rfl | exact HasMem.ownD 2 rfl)) ?_
    refine' WG.y rfl rfl qD (Yl.load1 tab_ok rfl rfl rfl (fun _ => rfl) ?r26 rfl ?h26) ?_
    case r26 => exact RS.rdD ha qO
    case h26 => rfl
    refine WG.run tab_ok 2 rfl (WG.nil (WE.nxt (W.ret ?_)))
    refine WE.subE (E' := E) qS ?_
    refine WE.retF tab_ok [_] rfl ⟨rfl, trivial⟩ (RLe.refl _) ?_
    refine ⟨congrArg Value.bool ?_, rfl⟩
    rw [Bool.eq_iff_iff, validB_iff]
    dsimp only
    rw [hif, e2, e3]
    simp only [decide_eq_true_eq]
    exact ⟨fun h => ⟨hall, fun j hj => hst.2 j hj, h⟩, fun h => h.2.2⟩

theorem Least02K_C {R : Ro} {a : Option Addr} {c : Nat} {v : List Int} {per inc : Int} (ha : RS R 1 encI a v) (hvl : v.length ≤ 100000 ∧ per ≤ v.length) (hac : infL v ≠ -1 → v.length ≤ c) (hper : 1 ≤ per ∧ per ≤ 100000) (hinc : 0 ≤ inc ∧ inc ≤ 549755813888) (hv : ∀ x ∈ v, -2305843009213693952 ≤ x ∧ x ≤ 4611686018427387904) (hself : infL v = -1 → perR ⟨v, per, inc⟩ ((v.length : Int) - per) per = true) (hat : ∀ t, 0 ≤ t → t ≤ (v.length : Int) + per → infL v = -1 → 0 ≤ atR v per inc t ∧ atR v per inc t ≤ 1000000000000000) (w0 : World) (E : List Ent) : K.Fn Try.prog 75 [.agg #[.slice a v.length c, .int .i64 per, .int .i64 inc]] w0 R E (fun r R' E' => ∃ (f : Option Addr) (fc : Nat), r = cuV f fc (normR ⟨v, per, inc⟩) ∧ RS R' 1 encI f (normR ⟨v, per, inc⟩).vals ∧ (normR ⟨v, per, inc⟩).vals.length ≤ fc ∧ E.Sublist E') := by
 have hla := ha.len
 have hn1 : ∀ (k : Nat) (h : nth v k = INF) (hk : k < v.length) (hn : ∀ j, j < k → nth v j ≠ INF), infL v = k := fun k h hk hn => findFrom_some (Nat.zero_le _) (by omega) (by simp [h]) (fun j _ h2 => by simp [hn j h2])
 refine Fn.enter (n := 88) Try.func75 rfl rfl (Nat.le_of_ble_eq_true rfl) rfl ?_
 refine W.seq (W.region _ ?_)
 refine WL.ef rfl rfl qD (Ef.box rfl rfl (fun b1 => ?_))
 refine WL.ef rfl rfl qD (Ef.alloc tab_ok rfl rfl (fun b2 => ?_))
 refine WG.nil (WE.nxt (W.seq (W.seq (W.region _ (WG.run tab_ok 1 rfl (WG.nil (WE.nxt (W.block ?_))))))))
 refine W.loopK (β := Nat) (fun i => i ≤ v.length ∧ ∀ j, j < i → nth v j ≠ INF) (fun i => [(3, true, .int .i64 (i : Int))]) [1, 2] [_, _] [] _ rfl (fun i => []) (fun i => v.length - i) (0) (⟨Nat.zero_le _, fun j hj => by omega⟩) ⟨rfl, rfl, rfl, rfl⟩ qS ?_
 intro i hst
 dsimp only [zipE, setAll, List.cons_append, List.nil_append, List.set_cons_zero, List.set_cons_succ] at hst ⊢
 
 refine W.seq (W.seq (W.region _ (WG.run tab_ok 2 rfl ?_)))
 refine' WG.y rfl rfl qD (Yl.load1 tab_ok rfl rfl rfl (fun _ => rfl) ?r1 rfl ?h1) ?_
 case r1 => apply Rd.add; (exact Rd.blk 1 rfl)
 case h1 => rfl
 refine WG.run tab_ok 2 rfl (WG.nil (WE.nxt ?_))
 refine W.condD rfl (fun hc0 => ?_) (fun hc0 => ?_)
 ·try dsimp only at hc0
  have hil : i < v.length := by omega
  have hvi := hv _ (nth_mem hil)
  refine W.skip (WE.nxt (W.seq (W.block (W.seq (W.region _ (WG.run tab_ok 1 rfl ?_))))))
  refine' WG.y rfl rfl qD (Yl.load1 tab_ok rfl rfl rfl (fun _ => rfl) ?r2 rfl ?h2) ?_
  case r2 => apply Rd.add; (exact Rd.blk 1 rfl)
  case h2 => rfl
  refine WG.run tab_ok 1 rfl ?_
  refine WG.y rfl rfl (by decide) (Yl.indexN tab_ok rfl rfl rfl rfl rfl rfl (fun _ => rfl) (by intro _; (try dsimp only) <;> omega) (by intro _; first | exact fun _ _ _ _ => rfl | exact RS.has (by assumption) | exact fun _ _ _ _ => (by assumption) | exact HasMem.ownD 0 rfl | exact HasMem.ownD 1 rfl | exact HasMem.ownD 2 rfl | exact HasMem.ownD 3 rfl | exact HasMem.ownD 4 rfl)) ?_
  refine' WG.y rfl rfl qD (Yl.load1 tab_ok rfl rfl rfl (fun _ => rfl) ?r3 rfl ?h3) ?_
  case r3 => ((apply RS.rdD; assumption; ((try dsimp only) <;> omega)))
  case h3 => rfl
  refine WG.run tab_ok 1 rfl (WG.nil (WE.nxt ?_))
  refine W.condE rfl (fun hc1 => ?_) (fun hc1 => ?_)
  ·try dsimp only at hc1
   have hi1 := hn1 i hc1 hil hst.2
   have hac := hac (by rw [hi1]; omega)
   have hnr : normR ⟨v, per, inc⟩ = ⟨v.take (i + 1), 1, 0⟩ := by unfold normR; dsimp only; rw [hi1, if_neg (by omega), Int.toNat_natCast]
   have hti := ha.take (i + 1)
   have htl : (v.take (i + 1)).length = i + 1 := by rw [List.length_take]; omega
   refine W.seq (W.region _ ?_)
   refine WL.ef rfl rfl qD (Ef.buildSliceD (enc := encI) (parts := []) [] tab_ok rfl rfl rfl rfl rfl rfl rfl rfl qD qD (fun a22 => ?_))
   refine WG.run tab_ok 1 rfl ?_
   refine' WG.y rfl rfl qD (Yl.load1 tab_ok rfl rfl rfl (fun _ => rfl) ?r4 rfl ?h4) ?_
   case r4 => apply Rd.add; (exact Rd.blk 2 rfl)
   case h4 => rfl
   refine WG.run tab_ok 1 rfl ?_
   refine WG.y rfl rfl (by decide) (Yl.add rfl rfl rfl (fun _ => rfl) (by intro _; constructor <;> (try dsimp only) <;> omega)) ?_
   refine WG.y rfl rfl qD (Yl.sliceH tab_ok rfl rfl rfl rfl rfl (fun _ => rfl) (by intro _; omega) rfl) ?_
   refine WL.ef rfl rfl (by decide) (Ef.cloneL (enc := encI) 0 tab_ok rfl rfl rfl rfl rfl rfl rfl rfl rfl (show ((i : Int) + 1).toNat = (v.take (i + 1)).length by rw [htl]; omega) hti (fun _ _ => rfl) (by rw [htl]; dsimp only; omega) (by omega) (fun a28 c28 ha28 => ?_))
   -- build
   refine WG.y rfl rfl qD (Yl.build (parts := [(0, .tmp 28), (1, .const (.int .i64 1))]) tab_ok rfl rfl rfl rfl (fun _ => rfl) rfl rfl) ?_
   refine WL.cap 0 rfl ?_
   intro hcp28
   rw [List.length_map] at hcp28
   refine WL.freeze (enc := encI) (xs := v.take (i + 1)) 0 rfl ?_
   intro R1 hR1 hz
   refine WL.efN rfl rfl (Ef.store0 0 tab_ok rfl rfl rfl rfl rfl rfl rfl rfl ?_)
   refine WG.nil (WE.nxt (W.ret (WE.blk_ret (WE.then_ret (WE.then_ret (WE.blk_ret (WE.then_ret ?_)))))))
   refine WE.retF tab_ok [_] rfl ⟨⟨_, _, _, rfl, rfl, rfl, ((by first | exact Rd.blk 0 rfl | exact Rd.blk 1 rfl | exact Rd.blk 2 rfl | exact Rd.blk 3 rfl | exact Rd.blk 4 rfl)), rfl⟩, trivial⟩ (hR1) ?_
   exact ⟨a28, c28, by rw [hnr]; unfold cuV; rw [htl, show ((i : Int) + 1).toNat = i + 1 by omega]; rfl, by rw [hnr]; exact hz, by rw [hnr]; exact hcp28, qS⟩
  ·try dsimp only at hc1
   refine W.skip (WE.blk _ (WE.nxt (W.region _ (WG.run tab_ok 1 rfl ?_))))
   refine WG.y rfl rfl (by decide) (Yl.add rfl rfl rfl (fun _ => rfl) (by intro _; constructor <;> (try dsimp only) <;> omega)) ?_
   refine WG.run tab_ok 1 rfl (WG.nil ?_)
   refine WE.again (i + 1) (⟨by omega, fun j hj => by
    by_cases e : j = i
    ·subst e; exact hc1
    ·exact hst.2 j (by omega)⟩) (by (try dsimp only); omega) ⟨rfl, rfl, rfl, rfl⟩ (RLe.refl _) qS
 ·try dsimp only at hc0
  obtain rfl : i = v.length := by omega
  have hi0 : infL v = -1 := findFrom_none (fun j _ hj => by simp [hst.2 j (by omega)])
  refine W.exit ?_
  refine WE.then_exit (WE.then_exit (WE.blk_exit (WE.nxt (W.seq (W.region _ (WG.run tab_ok 1 rfl ?_))))))
  refine' WG.y rfl rfl qD (Yl.load1 tab_ok rfl rfl rfl (fun _ => rfl) ?r5 rfl ?h5) ?_
  case r5 => apply Rd.add; (exact Rd.blk 1 rfl)
  case h5 => rfl
  refine WG.run tab_ok 2 rfl ?_
  refine' WG.y rfl rfl qD (Yl.load1 tab_ok rfl rfl rfl (fun _ => rfl) ?r6 rfl ?h6) ?_
  case r6 => apply Rd.add; (exact Rd.blk 1 rfl)
  case h6 => rfl
  refine WG.y rfl rfl (by decide) (Yl.sub rfl rfl rfl (fun _ => rfl) (by intro _; constructor <;> (try dsimp only) <;> omega)) ?_
  refine WG.run tab_ok 2 rfl (WG.nil (WE.nxt (W.seq (W.block ?_))))
  refine W.loopK (β := Nat) (fun p => 1 ≤ p ∧ p ≤ per.toNat ∧ ∀ j : Nat, 1 ≤ j → j < p → perR ⟨v, per, inc⟩ ((v.length : Int) - per) (j : Int) = false) (fun p => [(5, true, .int .i64 (p : Int))]) [1, 2, 4] [_, _, _] [] _ rfl (fun p => []) (fun p => per.toNat - p) (1) (⟨Nat.le_refl _, by omega, fun j a b => by omega⟩) ⟨rfl, rfl, rfl, rfl, rfl⟩ qS ?_
  intro p hst
  dsimp only [zipE, setAll, List.cons_append, List.nil_append, List.set_cons_zero, List.set_cons_succ] at hst ⊢
  obtain ⟨h1, h2, h3⟩ := hst
  refine W.seq (W.seq (W.region _ ?_))
  refine' WG.y rfl rfl qD (Yl.load1 tab_ok rfl rfl rfl (fun _ => rfl) ?r7 rfl ?h7) ?_
  case r7 => (exact Rd.blk 1 rfl)
  case h7 => rfl
  refine WG.run tab_ok 2 rfl ?_
  refine WG.callV en100 rfl rfl qD (CallOp.mk' rfl rfl rfl rfl) (fun _ => rfl) (fun hg => Periodic_V ha hper hinc hv qO qO (fun t h1 h2 => hat t h1 qO hi0)) ?_
  refine WG.run tab_ok 1 rfl (WG.nil (WE.nxt ?_))
  refine W.cond rfl (fun hc2 => ?_) (fun hc2 => ?_)
  ·try simp only [kk] at hc2
   have hno : perR ⟨v, per, inc⟩ ((v.length : Int) - per) (p : Int) = false := by simpa using hc2
   have hlt : p < per.toNat := by
    apply Classical.byContradiction
    intro hh
    rw [show (p : Int) = per by omega, hself hi0] at hno
    cases hno
   refine W.skip (WE.nxt (W.block (W.region _ (WG.run tab_ok 1 rfl ?_))))
   refine WG.y rfl rfl (by decide) (Yl.add rfl rfl rfl (fun _ => rfl) (by intro _; constructor <;> (try dsimp only) <;> omega)) ?_
   refine WG.run tab_ok 1 rfl (WG.nil (WE.blk _ ?_))
   refine WE.again (p + 1) (⟨by omega, by omega, fun j a b => by
    by_cases e : j = p
    ·subst e; exact hno
    ·exact h3 j a (by omega)⟩) (by (try dsimp only); omega) ⟨rfl, rfl, rfl, rfl, rfl⟩ (RLe.refl _) qS
  ·try simp only [kk] at hc2
   have hyes : perR ⟨v, per, inc⟩ ((v.length : Int) - per) (p : Int) = true := by simpa using hc2
   obtain rfl : p = (leastR ⟨v, per, inc⟩) := by
    unfold leastR
    dsimp only
    rw [findFrom_some (P := fun p => perR ⟨v, per, inc⟩ ((v.length : Int) - per) p) h1 (by omega) hyes h3, Int.toNat_natCast]
   have hip : 0 ≤ inc * ((leastR ⟨v, per, inc⟩) : Int) ∧ inc * ((leastR ⟨v, per, inc⟩) : Int) ≤ 549755813888 * 100000 := ⟨Int.mul_nonneg hinc.1 (by omega), Int.mul_le_mul hinc.2 (by omega) (by omega) (by omega)⟩
   have hiq : 0 ≤ (inc * ((leastR ⟨v, per, inc⟩) : Int) / per) ∧ (inc * ((leastR ⟨v, per, inc⟩) : Int) / per) ≤ 549755813888 * 100000 := ⟨Int.ediv_nonneg hip.1 (by omega), Int.le_trans (Int.ediv_le_self _ hip.1) hip.2⟩
   refine W.exit ?_
   refine WE.then_exit (WE.then_exit (WE.blk_exit (WE.nxt (W.seq (W.region _ (WG.run tab_ok 1 rfl ?_))))))
   refine' WG.y rfl rfl qD (Yl.load1 tab_ok rfl rfl rfl (fun _ => rfl) ?r8 rfl ?h8) ?_
   case r8 => apply Rd.add; (exact Rd.blk 1 rfl)
   case h8 => rfl
   refine WG.run tab_ok 1 rfl ?_
   refine WG.y rfl rfl (by decide) (Yl.mul rfl rfl rfl (fun _ => rfl) (by intro _; constructor <;> (try dsimp only) <;> omega)) ?_
   refine WG.run tab_ok 1 rfl ?_
   refine' WG.y rfl rfl qD (Yl.load1 tab_ok rfl rfl rfl (fun _ => rfl) ?r9 rfl ?h9) ?_
   case r9 => apply Rd.add; (exact Rd.blk 1 rfl)
   case h9 => rfl
   refine WG.y rfl rfl (by decide) (Yl.quo rfl rfl rfl (fun _ => rfl) (by intro _; constructor <;> (try dsimp only) <;> omega) (by intro _; omega)) ?_
   refine WG.run tab_ok 1 rfl (WG.nil (WE.nxt (W.seq (W.block ?_))))
   refine W.loopK (β := Nat) (fun s => s ≤ ((v.length : Int) - per).toNat ∧ downR ⟨v, per, inc⟩ ((leastR ⟨v, per, inc⟩) : Int) (inc * ((leastR ⟨v, per, inc⟩) : Int) / per) s = (downR ⟨v, per, inc⟩ ((leastR ⟨v, per, inc⟩) : Int) (inc * ((leastR ⟨v, per, inc⟩) : Int) / per) ((v.length : Int) - per).toNat)) (fun s => [(4, true, .int .i64 (s : Int))]) [1, 2, 5, 6] [_, _, _, _] [] _ rfl (fun s => []) (fun s => s) (((v.length : Int) - per).toNat) (⟨Nat.le_refl _, rfl⟩) ⟨vint qO, rfl, rfl, rfl, rfl, rfl⟩ qS ?_
   intro s hst
   dsimp only [zipE, setAll, List.cons_append, List.nil_append, List.set_cons_zero, List.set_cons_succ] at hst ⊢
   obtain ⟨hs, hd⟩ := hst
   have hb1 : 0 < s → 0 ≤ atR v per inc ((s : Int) - 1) ∧ atR v per inc ((s : Int) - 1) ≤ 1000000000000000 := fun h => hat _ (by omega) (by omega) hi0
   refine W.seq (W.seq ?_)
   refine W.regionQ _ mixed qK ?_
   refine WG.run tab_ok 3 rfl ?_
   refine' WG.y rfl rfl qD (Yl.loadG tab_ok rfl rfl rfl qE ?r10 rfl ?h10 ?g10) ?_
   case r10 => (exact Rd.blkC 1 rfl)
   case h10 => rfl
   case g10 => exact fun _ => trivial
   refine WG.y rfl rfl qD (pureV_ok tab_ok rfl qE) ?_
   refine WG.y rfl rfl (by decide) (Yl.sub rfl rfl rfl qE (by intro hg; (try simp only [kk] at hg); constructor <;> (try dsimp only) <;> omega)) ?_
   refine WG.y rfl rfl qD (pureV_ok tab_ok rfl qE) ?_
   refine WG.y rfl rfl (by decide) (Yl.add rfl rfl rfl qE (by intro hg; (try simp only [kk] at hg); constructor <;> (try dsimp only) <;> omega)) ?_
   refine WG.callV en28 rfl rfl qD (CallOp.mk' rfl rfl rfl rfl) qE (fun hg => At_L ha (by constructor <;> omega) ⟨by constructor <;> omega, by omega⟩ hinc hv) ?_
   refine' WG.y rfl rfl qD (Yl.loadG tab_ok rfl rfl rfl qE ?r11 rfl ?h11 ?g11) ?_
   case r11 => (exact Rd.blkC 1 rfl)
   case h11 => rfl
   case g11 => exact fun _ => trivial
   refine WG.y rfl rfl qD (pureV_ok tab_ok rfl qE) ?_
   refine WG.y rfl rfl (by decide) (Yl.sub rfl rfl rfl qE (by intro hg; (try simp only [kk] at hg); constructor <;> (try dsimp only) <;> omega)) ?_
   refine WG.callV en28 rfl rfl qD (CallOp.mk' rfl rfl rfl rfl) qE (fun hg => At_L ha (by constructor <;> omega) ⟨by constructor <;> omega, by omega⟩ hinc hv) ?_
   refine WG.y rfl rfl qD (pureV_ok tab_ok rfl qE) ?_
   refine WG.y rfl rfl (by decide) (Yl.add rfl rfl rfl qE (by intro hg; (try simp only [kk] at hg); constructor <;> (try dsimp only) <;> omega)) ?_
   refine WG.y rfl rfl qD (pureV_ok tab_ok rfl qE) ?_
   refine WG.y rfl rfl (by decide) (Yl.pand rfl rfl rfl (fun _ => rfl) (by intro h1 h2; simp_all <;> omega)) ?_
   refine WG.nil (WE.nxt ?_)
   refine W.cond rfl (fun hc3 => ?_) (fun hc3 => ?_)
   ·try simp only [kk] at hc3
    obtain ⟨hc3, hc4⟩ := hc3
    have hdn : downR ⟨v, per, inc⟩ ((leastR ⟨v, per, inc⟩) : Int) (inc * ((leastR ⟨v, per, inc⟩) : Int) / per) (s - 1) = downR ⟨v, per, inc⟩ ((leastR ⟨v, per, inc⟩) : Int) (inc * ((leastR ⟨v, per, inc⟩) : Int) / per) s := by
     conv => rhs; rw [show s = (s - 1) + 1 by omega]
     simp only [downR]
     rw [if_pos (by rw [show ((s - 1 : Nat) : Int) = (s : Int) - 1 by omega]; exact hc4)]
    refine W.skip (WE.nxt (W.block (W.region _ (WG.run tab_ok 1 rfl ?_))))
    refine WG.y rfl rfl (by decide) (Yl.sub rfl rfl rfl (fun _ => rfl) (by intro _; constructor <;> (try dsimp only) <;> omega)) ?_
    refine WG.run tab_ok 1 rfl (WG.nil (WE.blk _ ?_))
    refine WE.again (s - 1) (⟨by omega, by rw [← hd]; exact hdn⟩) (by (try dsimp only); omega) ⟨vint (by omega), rfl, rfl, rfl, rfl, rfl⟩ (RLe.refl _) qS
   ·try simp only [kk] at hc3
    have hsd : s = (downR ⟨v, per, inc⟩ ((leastR ⟨v, per, inc⟩) : Int) (inc * ((leastR ⟨v, per, inc⟩) : Int) / per) ((v.length : Int) - per).toNat) := by
     rw [← hd]
     by_cases h : 0 < s
     ·have h2 := hc3 (by omega)
      obtain ⟨s', rfl⟩ : ∃ m, s = m + 1 := ⟨s - 1, by omega⟩
      simp only [downR]
      rw [if_neg (by rw [show (s' : Int) = ((s' + 1 : Nat) : Int) - 1 by omega]; exact h2)]
     ·obtain rfl : s = 0 := by omega
      rfl
    have hnr : normR ⟨v, per, inc⟩ = ⟨(List.range (s + (leastR ⟨v, per, inc⟩))).map fun (t : Nat) => atR v per inc (t : Int), (leastR ⟨v, per, inc⟩), (inc * ((leastR ⟨v, per, inc⟩) : Int) / per)⟩ := by
     unfold normR; dsimp only; rw [hi0, if_pos rfl, ← hsd]
    refine W.exit ?_
    refine WE.then_exit (WE.then_exit (WE.blk_exit (WE.nxt (W.seq (W.region _ (WG.run tab_ok 2 rfl ?_))))))
    -- build
    refine WG.y rfl rfl qD (Yl.build (parts := [(1, .tmp 69), (2, .tmp 70)]) tab_ok rfl rfl rfl rfl (fun _ => rfl) rfl rfl) ?_
    refine WL.ef rfl rfl qD (Ef.alloc tab_ok rfl rfl (fun b7 => ?_))
    refine WL.efN rfl rfl (Ef.store0 0 tab_ok rfl rfl rfl rfl rfl rfl rfl rfl ?_)
    refine WG.nil (WE.nxt (W.seq ?_))
    refine W.nil 3 1 qD ?_
    refine W.seq (W.region _ (WG.run tab_ok 1 rfl (WG.nil (WE.nxt (W.block ?_)))))
    refine W.loopK (β := Nat × Option Addr × Nat) (fun (k, a8, c8) => k ≤ s + (leastR ⟨v, per, inc⟩)) (fun (k, a8, c8) => [(8, true, .int .i64 (k : Int))]) [1, 2, 4, 5, 7] [_, _, _, _, _] [] _ rfl (fun (k, a8, c8) => [(0, .sl 3 1 a8 c8 (((List.range k).map fun (t : Nat) => atR v per inc (t : Int)).map encI)), (1, .blk b7 [.slice a8 ((List.range k).map fun (t : Nat) => atR v per inc (t : Int)).length c8, .int .i64 ((leastR ⟨v, per, inc⟩) : Int), .int .i64 (inc * ((leastR ⟨v, per, inc⟩) : Int) / per)])]) (fun (k, a8, c8) => s + (leastR ⟨v, per, inc⟩) - k) ((0, none, 0)) (Nat.zero_le _) ⟨rfl, rfl, rfl, rfl, rfl, rfl, rfl⟩ qS ?_
    intro st hst
    obtain ⟨k, a8, c8⟩ := st
    dsimp only [zipE, setAll, List.cons_append, List.nil_append, List.set_cons_zero, List.set_cons_succ] at hst ⊢
    have hnl : ((List.range k).map fun (t : Nat) => atR v per inc (t : Int)).length = k := by simp
    refine W.seq (W.seq (W.region _ (WG.run tab_ok 3 rfl ?_)))
    refine WG.y rfl rfl (by decide) (Yl.add rfl rfl rfl (fun _ => rfl) (by intro _; constructor <;> (try dsimp only) <;> omega)) ?_
    refine WG.run tab_ok 1 rfl (WG.nil (WE.nxt ?_))
    refine W.condD rfl (fun hc4 => ?_) (fun hc4 => ?_)
    ·try dsimp only at hc4
     have e1 : (List.range (k + 1)).map (fun (t : Nat) => atR v per inc (t : Int)) = ((List.range k).map fun (t : Nat) => atR v per inc (t : Int)) ++ [atR v per inc (k : Int)] := range_map_snoc _ _
     refine W.skip (WE.nxt (W.seq (W.block ?_)))
     refine W.regionH _ (ES := [.blk b1 [.slice a v.length c, .int .i64 per, .int .i64 inc]]) mixed ?_
     refine WA.take 0 rfl qK qK qK rfl rfl qD (pureV_ok tab_ok rfl (fun _ => rfl)) qS qR ?_
     refine' WA.take 2 rfl qK qK qK rfl rfl qD (Yl.load1 tab_ok rfl rfl rfl (fun _ => rfl) ?r12 rfl ?h12) qS qR ?_
     case r12 => (exact Rd.blk 0 rfl)
     case h12 => rfl
     refine WA.take 3 rfl qK qK qK rfl rfl qD (pureV_ok tab_ok rfl (fun _ => rfl)) qS qR ?_
     refine WA.br2 (i := 1) (j := 4) qK ?_ ?_
     ·
      refine' WS.yl rfl rfl rfl qD (Yl.load1 tab_ok rfl rfl rfl (fun _ => rfl) ?r13 rfl ?h13) qS qR ?_
      case r13 => apply Rd.add; (exact Rd.blk 1 rfl)
      case h13 => rfl
      refine WA.callG 4 rfl qK en28 rfl (by first | rfl | decide) rfl qD (CallOp.mkT rfl rfl rfl rfl) ((At_L ha (by constructor <;> omega) ⟨by constructor <;> omega, by omega⟩ hinc hv).toFn) ?_
      rintro _ _ _ - ⟨rfl, rfl, rfl⟩
      refine ⟨RLe.refl _, qS, ?_⟩
      refine WA.eff 5 rfl qK rfl rfl qD (Ef.buildSliceD (enc := encI) (parts := [.tmp 83]) [_] tab_ok rfl rfl rfl rfl rfl rfl rfl rfl qD qD (fun a84 => ?_))
      refine ⟨by first | exact RLe.refl _ | assumption, qS, ?_⟩
      refine WA.eff 6 rfl (by kernel_rfl) rfl rfl (by decide) (Ef.appendD (enc := encI) (xs := ((List.range k).map fun (t : Nat) => atR v per inc (t : Int))) (ys := [atR v per inc (k : Int)]) 1 0 tab_ok rfl rfl rfl rfl rfl rfl rfl rfl rfl rfl rfl (fun _ _ => rfl) (by simp only [List.length_cons, List.length_nil]; omega) (by simp only [List.length_cons, List.length_nil]; omega) (fun a85 c85 ha85 => ?_))
      refine ⟨by first | exact RLe.refl _ | assumption, qS, ?_⟩
      refine WA.take 7 rfl qK qK qK rfl rfl qD (pureV_ok tab_ok rfl (fun _ => rfl)) qS qR ?_
      refine WA.effN 8 rfl qK rfl rfl (Ef.store 2 tab_ok rfl rfl rfl rfl rfl rfl rfl rfl ?_)
      refine ⟨by first | exact RLe.refl _ | assumption, qS, ?_⟩
      refine WA.done qK ?_
      refine WE.blk _ (WE.nxt (W.region _ (WG.run tab_ok 1 rfl ?_)))
      refine WG.y rfl rfl (by decide) (Yl.add rfl rfl rfl (fun _ => rfl) (by intro _; constructor <;> (try dsimp only) <;> omega)) ?_
      refine WG.run tab_ok 1 rfl (WG.nil ?_)
      refine WE.again ((k + 1, a85, c85)) (by dsimp only; omega) (by (try dsimp only); omega) ⟨rfl, rfl, rfl, rfl, rfl, rfl, rfl⟩ (RLe.refl _) (by dsimp only [setAll, List.set_cons_zero, List.set_cons_succ]; rw [e1]; exact List.Sublist.cons _ (List.Sublist.refl _))
     ·
      refine WS.callG rfl en28 rfl (by first | rfl | decide) rfl qD (CallOp.mkT rfl rfl rfl rfl) ((At_L ha (by constructor <;> omega) ⟨by constructor <;> omega, by omega⟩ hinc hv).toFn) ?_
      rintro _ _ _ - ⟨rfl, rfl, rfl⟩
      refine ⟨RLe.refl _, qS, ?_⟩
      refine WA.br2 (i := 1) (j := 5) qK ?_ ?_
      ·
       refine' WS.yl rfl rfl rfl qD (Yl.load1 tab_ok rfl rfl rfl (fun _ => rfl) ?r14 rfl ?h14) qS qR ?_
       case r14 => apply Rd.add; (exact Rd.blk 1 rfl)
       case h14 => rfl
       refine WA.eff 5 rfl qK rfl rfl qD (Ef.buildSliceD (enc := encI) (parts := [.tmp 83]) [_] tab_ok rfl rfl rfl rfl rfl rfl rfl rfl qD qD (fun a84 => ?_))
       refine ⟨by first | exact RLe.refl _ | assumption, qS, ?_⟩
       refine WA.eff 6 rfl (by kernel_rfl) rfl rfl (by decide) (Ef.appendD (enc := encI) (xs := ((List.range k).map fun (t : Nat) => atR v per inc (t : Int))) (ys := [atR v per inc (k : Int)]) 1 0 tab_ok rfl rfl rfl rfl rfl rfl rfl rfl rfl rfl rfl (fun _ _ => rfl) (by simp only [List.length_cons, List.length_nil]; omega) (by simp only [List.length_cons, List.length_nil]; omega) (fun a85 c85 ha85 => ?_))
       refine ⟨by first | exact RLe.refl _ | assumption, qS, ?_⟩
       refine WA.take 7 rfl qK qK qK rfl rfl qD (pureV_ok tab_ok rfl (fun _ => rfl)) qS qR ?_
       refine WA.effN 8 rfl qK rfl rfl (Ef.store 2 tab_ok rfl rfl rfl rfl rfl rfl rfl rfl ?_)
       refine ⟨by first | exact RLe.refl _ | assumption, qS, ?_⟩
       refine WA.done qK ?_
       refine WE.blk _ (WE.nxt (W.region _ (WG.run tab_ok 1 rfl ?_)))
       refine WG.y rfl rfl (by decide) (Yl.add rfl rfl rfl (fun _ => rfl) (by intro _; constructor <;> (try dsimp only) <;> omega)) ?_
       refine WG.run tab_ok 1 rfl (WG.nil ?_)
       refine WE.again ((k + 1, a85, c85)) (by dsimp only; omega) (by (try dsimp only); omega) ⟨rfl, rfl, rfl, rfl, rfl, rfl, rfl⟩ (RLe.refl _) (by dsimp only [setAll, List.set_cons_zero, List.set_cons_succ]; rw [e1]; exact List.Sublist.cons _ (List.Sublist.refl _))
      ·
       refine WS.eff rfl rfl rfl qD (Ef.buildSliceD (enc := encI) (parts := [.tmp 83]) [_] tab_ok rfl rfl rfl rfl rfl rfl rfl rfl qD qD (fun a84 => ?_))
       refine ⟨by first | exact RLe.refl _ | assumption, qS, ?_⟩
       refine' WA.yl 1 rfl qK rfl rfl qD (Yl.load1 tab_ok rfl rfl rfl (fun _ => rfl) ?r15 rfl ?h15) qS qR ?_
       case r15 => apply Rd.add; (exact Rd.blk 2 rfl)
       case h15 => rfl
       refine WA.eff 6 rfl (by kernel_rfl) rfl rfl (by decide) (Ef.appendD (enc := encI) (xs := ((List.range k).map fun (t : Nat) => atR v per inc (t : Int))) (ys := [atR v per inc (k : Int)]) 1 0 tab_ok rfl rfl rfl rfl rfl rfl rfl rfl rfl rfl rfl (fun _ _ => rfl) (by simp only [List.length_cons, List.length_nil]; omega) (by simp only [List.length_cons, List.length_nil]; omega) (fun a85 c85 ha85 => ?_))
       refine ⟨by first | exact RLe.refl _ | assumption, qS, ?_⟩
       refine WA.take 7 rfl qK qK qK rfl rfl qD (pureV_ok tab_ok rfl (fun _ => rfl)) qS qR ?_
       refine WA.effN 8 rfl qK rfl rfl (Ef.store 2 tab_ok rfl rfl rfl rfl rfl rfl rfl rfl ?_)
       refine ⟨by first | exact RLe.refl _ | assumption, qS, ?_⟩
       refine WA.done qK ?_
       refine WE.blk _ (WE.nxt (W.region _ (WG.run tab_ok 1 rfl ?_)))
       refine WG.y rfl rfl (by decide) (Yl.add rfl rfl rfl (fun _ => rfl) (by intro _; constructor <;> (try dsimp only) <;> omega)) ?_
       refine WG.run tab_ok 1 rfl (WG.nil ?_)
       refine WE.again ((k + 1, a85, c85)) (by dsimp only; omega) (by (try dsimp only); omega) ⟨rfl, rfl, rfl, rfl, rfl, rfl, rfl⟩ (RLe.refl _) (by dsimp only [setAll, List.set_cons_zero, List.set_cons_succ]; rw [e1]; exact List.Sublist.cons _ (List.Sublist.refl _))
    ·try dsimp only at hc4
     obtain rfl : k = s + (leastR ⟨v, per, inc⟩) := by omega
     refine W.exit ?_
     refine WE.then_exit (WE.then_exit (WE.blk_exit (WE.nxt ?_)))
     refine W.cap 0 rfl ?_
     intro hcp8
     rw [List.length_map] at hcp8
     refine W.freeze (enc := encI) (xs := (List.range (s + (leastR ⟨v, per, inc⟩))).map fun (t : Nat) => atR v per inc (t : Int)) 0 rfl ?_
     intro R1 hR1 hz
     refine W.seq (W.region _ ?_)
     refine' WG.y rfl rfl qD (Yl.load1 tab_ok rfl rfl rfl (fun _ => rfl) ?r16 rfl ?h16) ?_
     case r16 => (exact Rd.blk 0 rfl)
     case h16 => rfl
     refine WL.efN rfl rfl (Ef.store0 1 tab_ok rfl rfl rfl rfl rfl rfl rfl rfl ?_)
     refine WG.nil (WE.nxt (W.ret ?_))
     refine WE.retF tab_ok [_] rfl ⟨⟨_, _, _, rfl, rfl, rfl, ((by first | exact Rd.blk 0 rfl | exact Rd.blk 1 rfl | exact Rd.blk 2 rfl | exact Rd.blk 3 rfl | exact Rd.blk 4 rfl)), rfl⟩, trivial⟩ (hR1) ?_
     exact ⟨a8, c8, by rw [hnr]; unfold cuV; rw [hnl]; rfl, by rw [hnr]; exact hz, by rw [hnr]; exact hcp8, qS⟩

theorem Least02_C {R : Ro} {a : Option Addr} {c : Nat} {v : List Int} {per inc : Int} (ha : RS R 1 encI a v) (hvl : v.length ≤ 100000 ∧ per ≤ v.length) (hac : infL v ≠ -1 → v.length ≤ c) (hper : 1 ≤ per ∧ per ≤ 100000) (hinc : 0 ≤ inc ∧ inc ≤ 549755813888) (hv : ∀ x ∈ v, -2305843009213693952 ≤ x ∧ x ≤ 4611686018427387904) (hself : infL v = -1 → perR ⟨v, per, inc⟩ ((v.length : Int) - per) per = true) (hat : ∀ t, 0 ≤ t → t ≤ (v.length : Int) + per → infL v = -1 → 0 ≤ atR v per inc t ∧ atR v per inc t ≤ 1000000000000000) (w0 : World) (E : List Ent) : K.Fn Try.prog 75 [.agg #[.slice a v.length c, .int .i64 per, .int .i64 inc]] w0 R E (fun r R' E' => ∃ (f : Option Addr) (fc : Nat), r = cuV f fc (normR ⟨v, per, inc⟩) ∧ RS R' 1 encI f (normR ⟨v, per, inc⟩).vals ∧ E.Sublist E') := by
 refine (Least02K_C ha hvl hac hper hinc hv hself hat w0 E).mono ?_
 rintro _ R' E' - ⟨f, fc, rfl, hf, _, hsub⟩
 exact ⟨f, fc, rfl, hf, hsub⟩

theorem MadeK_C {R : Ro} {a : Option Addr} {c : Nat} {v : List Int} {per inc : Int} (ha : RS R 1 encI a v) (hvl : v.length ≤ 100000 ∧ per ≤ v.length) (hac : infL v ≠ -1 → v.length ≤ c) (hper : 1 ≤ per ∧ per ≤ 100000) (hinc : 0 ≤ inc ∧ inc ≤ 549755813888) (hv : ∀ x ∈ v, -2305843009213693952 ≤ x ∧ x ≤ 4611686018427387904) (hself : infL v = -1 → perR ⟨v, per, inc⟩ ((v.length : Int) - per) per = true) (hat : ∀ t, 0 ≤ t → t ≤ (v.length : Int) + per → infL v = -1 → 0 ≤ atR v per inc t ∧ atR v per inc t ≤ 1000000000000000) (hnb : (∀ x ∈ (normR ⟨v, per, inc⟩).vals, -2305843009213693952 ≤ x ∧ x ≤ 4611686018427387904) ∧ InR (normR ⟨v, per, inc⟩).per ∧ InR (normR ⟨v, per, inc⟩).inc) (w0 : World) (E : List Ent) : K.Fn Try.prog 47 [.agg #[.slice a v.length c, .int .i64 per, .int .i64 inc]] w0 R E (fun r R' E' => ∃ (f : Option Addr) (fc : Nat), r = cvV f fc (madeR ⟨v, per, inc⟩) ∧ RS R' 1 encI f (madeR ⟨v, per, inc⟩).1.vals ∧ (madeR ⟨v, per, inc⟩).1.vals.length ≤ fc ∧ E.Sublist E') := by
 refine Fn.enter (n := 12) Try.func47 rfl rfl (Nat.le_of_ble_eq_true rfl) rfl ?_
 refine W.seq (W.region _ ?_)
 refine WL.ef rfl rfl qD (Ef.box rfl rfl (fun b1 => ?_))
 refine WL.ef rfl rfl qD (Ef.alloc tab_ok rfl rfl (fun b2 => ?_))
 refine WG.run tab_ok 1 rfl (WG.nil (WE.nxt (W.seq (W.region _ ?_))))
 refine' WG.y rfl rfl qD (Yl.load1 tab_ok rfl rfl rfl (fun _ => rfl) ?r1 rfl ?h1) ?_
 case r1 => (exact Rd.blk 1 rfl)
 case h1 => rfl
 refine WL.call en75 rfl rfl qD (CallOp.mkT rfl rfl rfl rfl) (Least02K_C ha hvl hac hper hinc hv hself hat w0 _) ?_
 rintro _ R1 E1 hR1 ⟨f, fc, rfl, hf, hcp, hsub⟩
 refine WL.subE hsub ?_
 unfold cuV
 refine WL.ef rfl rfl qD (Ef.alloc tab_ok rfl rfl (fun b4 => ?_))
 refine WL.efN rfl rfl (Ef.store0 0 tab_ok rfl rfl rfl rfl rfl rfl rfl rfl ?_)
 refine WG.nil (WE.nxt (W.seq (W.seq (W.region _ ?_))))
 refine' WG.y rfl rfl qD (Yl.load1 tab_ok rfl rfl rfl (fun _ => rfl) ?r2 rfl ?h2) ?_
 case r2 => (exact Rd.blk 0 rfl)
 case h2 => rfl
 refine WG.callV en27 rfl rfl qD (CallOp.mk' rfl rfl rfl rfl) (fun _ => rfl) (fun hg => Valid_V hf hnb.2.1 hnb.2.2 hnb.1) ?_
 refine WG.run tab_ok 1 rfl (WG.nil (WE.nxt ?_))
 refine W.cond rfl (fun hc0 => ?_) (fun hc0 => ?_)
 ·try simp only [kk] at hc0
  have hm : madeR ⟨v, per, inc⟩ = (zcv, 3) := if_neg (by simpa using hc0)
  refine W.seq (W.region _ ?_)
  -- build
  refine WG.y rfl rfl qD (Yl.build (parts := []) tab_ok rfl rfl rfl rfl (fun _ => rfl) rfl rfl) ?_
  refine WL.efN rfl rfl (Ef.store0 1 tab_ok rfl rfl rfl rfl rfl rfl rfl rfl ?_)
  refine WG.run tab_ok 1 rfl (WG.nil (WE.nxt (W.ret (WE.then_ret ?_))))
  refine WE.retF tab_ok [_, _] rfl ⟨⟨_, _, _, rfl, rfl, rfl, ((by first | exact Rd.blk 0 rfl | exact Rd.blk 1 rfl | exact Rd.blk 2 rfl | exact Rd.blk 3 rfl | exact Rd.blk 4 rfl)), rfl⟩, rfl, trivial⟩ (hR1) ?_
  exact ⟨none, 0, by rw [hm]; rfl, by rw [hm]; exact rs_nil, by rw [hm]; exact Nat.le_refl _, qS⟩
 ·try simp only [kk] at hc0
  have hm : madeR ⟨v, per, inc⟩ = (normR ⟨v, per, inc⟩, 0) := if_pos (by simpa using hc0)
  refine W.skip (WE.nxt (W.seq (W.region _ ?_)))
  refine' WG.y rfl rfl qD (Yl.load1 tab_ok rfl rfl rfl (fun _ => rfl) ?r3 rfl ?h3) ?_
  case r3 => (exact Rd.blk 0 rfl)
  case h3 => rfl
  refine WL.efN rfl rfl (Ef.store0 1 tab_ok rfl rfl rfl rfl rfl rfl rfl rfl ?_)
  refine WG.run tab_ok 1 rfl (WG.nil (WE.nxt (W.ret ?_)))
  refine WE.retF tab_ok [_, _] rfl ⟨⟨_, _, _, rfl, rfl, rfl, ((by first | exact Rd.blk 0 rfl | exact Rd.blk 1 rfl | exact Rd.blk 2 rfl | exact Rd.blk 3 rfl | exact Rd.blk 4 rfl)), rfl⟩, rfl, trivial⟩ (hR1) ?_
  exact ⟨f, fc, by rw [hm]; rfl, by rw [hm]; exact hf, by rw [hm]; exact hcp, qS⟩

end Go.Proofs.Ytnackbfnmhkodaa

/- Chapter 19: checks, what others send, the curve. No condition. -/
set_option maxRecDepth 4000
set_option linter.unusedSimpArgs false
set_option linter.unusedVariables false
namespace Go.Proofs.Ytnackbfnmhkodaa
open Go Go.RowKit Go.Proofs.Ytnackbfnmhkodaa.K Go.Proofs.Ytnackbfnmhkodaa.M

end Go.Proofs.Ytnackbfnmhkodaa

/- Chapter 19: the curve. No condition. -/
set_option maxRecDepth 4000
set_option linter.unusedSimpArgs false
set_option linter.unusedVariables false
namespace Go.Proofs.Ytnackbfnmhkodaa
open Go Go.RowKit Go.Proofs.Ytnackbfnmhkodaa.K Go.Proofs.Ytnackbfnmhkodaa.M

end Go.Proofs.Ytnackbfnmhkodaa

/- Chapter 19: what its laws use. No condition. -/
set_option maxRecDepth 4000
set_option linter.unusedSimpArgs false
set_option linter.unusedVariables false
namespace Go.Proofs.Ytnackbfnmhkodaa
open Go Go.RowKit Go.Proofs.Ytnackbfnmhkodaa.K Go.Proofs.Ytnackbfnmhkodaa.M

def wgtF (hi : Int) (xs : List Int) (c : Nat) (i : Nat) : Int := 1 + mod (nth xs (c + i)) hi
theorem PickM_C {R : Ro} {b : Nat} {a : Option Addr} {cp : Nat} {xs : List Int} {c : Nat} (w0 : World) {n : Nat} {a2 : Option Addr} {c2 : Nat} {j : Nat} {F : List Ent} (ys : List Int) (hn : ys.length = n) (hn0 : 0 < n) (hn1 : n ≤ 1000000) (ha : RS R 1 encI a xs) (hy : F[j]? = some (.sl 3 1 a2 c2 (ys.map encI))) :
  K.Fn Try.prog 13 [.pointer (some ⟨b, 0, none⟩), .slice a2 n c2] w0 R (srcE b a cp xs c :: F) (fun v R' E' => ∃ e' N, E' = N ++ e' :: F ∧ RdPost (.int .i64 (nth ys (mod (nth xs c) n).toNat)) R (srcE b a cp xs (c + 1)) v R' e' N) := by
 subst hn; exact Pick_C w0 ha hy hn0 hn1

end Go.Proofs.Ytnackbfnmhkodaa

/- A curve with more values and a longer period. No condition. -/
set_option maxRecDepth 4000
set_option linter.unusedSimpArgs false
set_option linter.unusedVariables false
namespace Go.Proofs.Ytnackbfnmhkodaa
open Go Go.RowKit Go.Proofs.Ytnackbfnmhkodaa.K Go.Proofs.Ytnackbfnmhkodaa.M

theorem Longer_C {R : Ro} {fa : Option Addr} {fc : Nat} {F : Nat → Int} {S P : Nat} {I : Int} (hf : FC F S P I) (ha : RS R 1 encI fa (fvals F (S + P))) {more times : Nat} (hmo : more ≤ 100) (hti : 1 ≤ times ∧ times ≤ 10) (w0 : World) (E : List Ent) : K.Fn Try.prog 29 [.agg #[.slice fa (fvals F (S + P)).length fc, .int .i64 (P : Int), .int .i64 I], .int .i64 (more : Int), .int .i64 (times : Int)] w0 R E (fun v R' E' => ∃ (f : Option Addr) (c : Nat), v = .agg #[.slice f (fvals F (S + more + P * times)).length c, .int .i64 ((P * times : Nat) : Int), .int .i64 (I * (times : Int))] ∧ RS R' 1 encI f (fvals F (S + more + P * times)) ∧ (fvals F (S + more + P * times)).length ≤ c ∧ E.Sublist E') := by
 have hfl := fvals_len F (S + P)
 have hP := hf.hP
 have hn := hf.hn
 have hI := hf.hI
 have hkb : (times - 1) * P ≤ 9 * 120 := Nat.mul_le_mul (by omega) (by omega)
 have hkb2 : P * times ≤ 120 * 10 := Nat.mul_le_mul (by omega) (by omega)
 have hkb3 : ((times : Int) - 1) * (P : Int) = (((times - 1) * P : Nat) : Int) := by rw [Int.natCast_mul, show ((times - 1 : Nat) : Int) = (times : Int) - 1 by omega]
 have hkb4 : (P : Int) * (times : Int) = ((P * times : Nat) : Int) := by rw [Int.natCast_mul]
 have hkb5 : S + P + (more + (times - 1) * P) = S + more + P * times := by
  obtain ⟨t', rfl⟩ : ∃ t', times = t' + 1 := ⟨times - 1, by omega⟩
  rw [Nat.add_sub_cancel, Nat.mul_add, Nat.mul_comm P t']; omega
 have hIt : 0 ≤ I * (times : Int) ∧ I * (times : Int) ≤ 1073741824 * 10 := ⟨Int.mul_nonneg (by omega) (by omega), Int.mul_le_mul (by omega) (by omega) (by omega) (by omega)⟩
 have hlast := hf.hb (S + P - 1) (by omega)
 have hbd := hf.bound
 have g1 : (((fvals F (S + P)).length : Int) == 0) = false := by rw [beq_eq_false_iff_ne]; omega
 have g2 : (nth (fvals F (S + P)) (((fvals F (S + P)).length : Int) - 1).toNat == 4611686018427387904) = false := by
  rw [show (((fvals F (S + P)).length : Int) - 1).toNat = S + P - 1 by omega, fvals_nth F (by omega), beq_eq_false_iff_ne]; omega
 have g3 : decide ((P : Int) < 1) = false := decide_eq_false (by omega)
 have g4 : decide ((P : Int) > ((fvals F (S + P)).length : Int)) = false := decide_eq_false (by omega)
 refine Fn.enter (n := 87) Try.func29 rfl rfl (Nat.le_of_ble_eq_true rfl) rfl ?_
 refine W.seq (W.region _ ?_)
 refine WL.ef rfl rfl qD (Ef.box rfl rfl (fun b3 => ?_))
 refine WL.ef rfl rfl qD (Ef.alloc tab_ok rfl rfl (fun b6 => ?_))
 refine WG.nil (WE.nxt ?_)
 refine W.seqCut (β := Nat × Option Addr × Nat) (fun (b7, a12, c12) => True) (fun (b7, a12, c12) => [(1, true, .int .i64 (more : Int)), (2, true, .int .i64 (times : Int)), (3, true, .pointer (some ⟨b3, 0, none⟩)), (6, true, .pointer (some ⟨b6, 0, none⟩)), (7, true, .pointer (some ⟨b7, 0, none⟩))]) (fun _ => R) (fun (b7, a12, c12) => .blk b7 [.slice a12 (fvals F (S + P)).length c12, .int .i64 (P : Int), .int .i64 I] :: .sl 3 1 a12 c12 ((fvals F (S + P)).map encI) :: .blk b6 [.slice none 0 0, .int .i64 0, .int .i64 0] :: .blk b3 [.slice fa (fvals F (S + P)).length fc, .int .i64 (P : Int), .int .i64 I] :: E) ?_ ?_
 ·
  intro st hst
  obtain ⟨b7, a12, c12⟩ := st
  dsimp only
  refine W.seq (W.seq (W.region _ (WG.run tab_ok 1 rfl ?_)))
  refine' WG.y rfl rfl qD (Yl.load1 tab_ok rfl rfl rfl (fun _ => rfl) ?r1 rfl ?h1) ?_
  case r1 => apply Rd.add; (exact Rd.blk 3 rfl)
  case h1 => rfl
  refine WG.run tab_ok 3 rfl ?_
  refine WL.guardT rfl (by first | rfl | (simp only [g1, g2, g3]; done) | (simp only [g1, g2, g3]; rfl)) ?_
  refine WG.y rfl rfl qD (pureV_ok tab_ok rfl (fun _ => rfl)) ?_
  refine WL.guardT rfl (by first | rfl | (simp only [g1, g2, g3]; done) | (simp only [g1, g2, g3]; rfl)) ?_
  refine' WG.y rfl rfl qD (Yl.load1 tab_ok rfl rfl rfl (fun _ => rfl) ?r2 rfl ?h2) ?_
  case r2 => apply Rd.add; (exact Rd.blk 3 rfl)
  case h2 => rfl
  refine WL.guardT rfl (by first | rfl | (simp only [g1, g2, g3]; done) | (simp only [g1, g2, g3]; rfl)) ?_
  refine WG.y rfl rfl qD (pureV_ok tab_ok rfl (fun _ => rfl)) ?_
  refine WL.guardT rfl (by first | rfl | (simp only [g1, g2, g3]; done) | (simp only [g1, g2, g3]; rfl)) ?_
  refine' WG.y rfl rfl qD (Yl.load1 tab_ok rfl rfl rfl (fun _ => rfl) ?r3 rfl ?h3) ?_
  case r3 => apply Rd.add; (exact Rd.blk 3 rfl)
  case h3 => rfl
  refine WL.guardT rfl (by first | rfl | (simp only [g1, g2, g3]; done) | (simp only [g1, g2, g3]; rfl)) ?_
  refine WG.y rfl rfl qD (pureV_ok tab_ok rfl (fun _ => rfl)) ?_
  refine WL.guardT rfl (by first | rfl | (simp only [g1, g2, g3]; done) | (simp only [g1, g2, g3]; rfl)) ?_
  refine WG.y rfl rfl (by decide) (Yl.sub rfl rfl rfl (fun _ => rfl) (by intro _; constructor <;> (try dsimp only) <;> omega)) ?_
  refine WL.guardT rfl (by first | rfl | (simp only [g1, g2, g3]; done) | (simp only [g1, g2, g3]; rfl)) ?_
  refine WG.y rfl rfl (by decide) (Yl.index tab_ok rfl rfl rfl rfl rfl rfl (fun _ => rfl) (by intro _; constructor <;> (try dsimp only) <;> omega) (by intro _; first | exact fun _ _ _ _ => rfl | exact RS.has (by assumption) | exact fun _ _ _ _ => (by assumption) | exact HasMem.ownD 0 rfl | exact HasMem.ownD 1 rfl | exact HasMem.ownD 2 rfl | exact HasMem.ownD 3 rfl | exact HasMem.ownD 4 rfl)) ?_
  refine WL.guardT rfl (by first | rfl | (simp only [g1, g2, g3]; done) | (simp only [g1, g2, g3]; rfl)) ?_
  refine' WG.y rfl rfl qD (Yl.load1 tab_ok rfl rfl rfl (fun _ => rfl) ?r4 rfl ?h4) ?_
  case r4 => ((apply RS.rdD; assumption; ((try dsimp only) <;> omega)))
  case h4 => rfl
  refine WL.guardT rfl (by first | rfl | (simp only [g1, g2, g3]; done) | (simp only [g1, g2, g3]; rfl)) ?_
  refine WG.y rfl rfl qD (pureV_ok tab_ok rfl (fun _ => rfl)) ?_
  refine WG.y rfl rfl (by decide) (Yl.por rfl rfl rfl (fun _ => rfl) (by intro h1 h2; simp_all <;> omega)) ?_
  refine WG.run tab_ok 1 rfl ?_
  refine WL.guardT rfl (by first | rfl | (simp only [g1, g2, g3]; done) | (simp only [g1, g2, g3]; rfl)) ?_
  refine WG.y rfl rfl qD (pureV_ok tab_ok rfl (fun _ => rfl)) ?_
  refine WL.guardT rfl (by first | rfl | (simp only [g1, g2, g3]; done) | (simp only [g1, g2, g3]; rfl)) ?_
  refine' WG.y rfl rfl qD (Yl.load1 tab_ok rfl rfl rfl (fun _ => rfl) ?r5 rfl ?h5) ?_
  case r5 => apply Rd.add; (exact Rd.blk 3 rfl)
  case h5 => rfl
  refine WL.guardT rfl (by first | rfl | (simp only [g1, g2, g3]; done) | (simp only [g1, g2, g3]; rfl)) ?_
  refine WG.y rfl rfl qD (pureV_ok tab_ok rfl (fun _ => rfl)) ?_
  refine WG.y rfl rfl (by decide) (Yl.por rfl rfl rfl (fun _ => rfl) (by intro h1 h2; simp_all <;> omega)) ?_
  refine WG.run tab_ok 1 rfl ?_
  refine WL.guardT rfl (by first | rfl | (simp only [g1, g2, g3]; done) | (simp only [g1, g2, g3]; rfl)) ?_
  refine WG.y rfl rfl qD (pureV_ok tab_ok rfl (fun _ => rfl)) ?_
  refine WL.guardT rfl (by first | rfl | (simp only [g1, g2, g3]; done) | (simp only [g1, g2, g3]; rfl)) ?_
  refine' WG.y rfl rfl qD (Yl.load1 tab_ok rfl rfl rfl (fun _ => rfl) ?r6 rfl ?h6) ?_
  case r6 => apply Rd.add; (exact Rd.blk 3 rfl)
  case h6 => rfl
  refine WL.guardT rfl (by first | rfl | (simp only [g1, g2, g3]; done) | (simp only [g1, g2, g3]; rfl)) ?_
  refine WG.y rfl rfl qD (pureV_ok tab_ok rfl (fun _ => rfl)) ?_
  refine WL.guardT rfl (by first | rfl | (simp only [g1, g2, g3]; done) | (simp only [g1, g2, g3]; rfl)) ?_
  refine' WG.y rfl rfl qD (Yl.load1 tab_ok rfl rfl rfl (fun _ => rfl) ?r7 rfl ?h7) ?_
  case r7 => apply Rd.add; (exact Rd.blk 3 rfl)
  case h7 => rfl
  refine WL.guardT rfl (by first | rfl | (simp only [g1, g2, g3]; done) | (simp only [g1, g2, g3]; rfl)) ?_
  refine WG.y rfl rfl qD (pureV_ok tab_ok rfl (fun _ => rfl)) ?_
  refine WL.guardT rfl (by first | rfl | (simp only [g1, g2, g3]; done) | (simp only [g1, g2, g3]; rfl)) ?_
  refine WG.y rfl rfl qD (pureV_ok tab_ok rfl (fun _ => rfl)) ?_
  refine WG.y rfl rfl (by decide) (Yl.por rfl rfl rfl (fun _ => rfl) (by intro h1 h2; simp_all <;> omega)) ?_
  refine WG.nil (WE.nxt ?_)
  refine W.cond rfl (fun hc0 => ?_) (fun hc0 => ?_)
  ·try simp only [kk] at hc0
   rw [beq_eq_false_iff_ne] at g2
   rcases hc0 with ((h | h) | h) | h
   ·omega
   ·exact absurd h g2
   ·omega
   ·omega
  ·try simp only [kk] at hc0
   refine W.skip (WE.nxt (W.seq (W.seq (W.region _ (WG.run tab_ok 2 rfl ?_)))))
   refine WG.y rfl rfl (by decide) (Yl.sub rfl rfl rfl (fun _ => rfl) (by intro _; constructor <;> (try dsimp only) <;> omega)) ?_
   refine WG.run tab_ok 1 rfl ?_
   refine' WG.y rfl rfl qD (Yl.load1 tab_ok rfl rfl rfl (fun _ => rfl) ?r8 rfl ?h8) ?_
   case r8 => apply Rd.add; (exact Rd.blk 3 rfl)
   case h8 => rfl
   refine WG.y rfl rfl (by decide) (Yl.mul rfl rfl rfl (fun _ => rfl) (by intro _; constructor <;> (try dsimp only) <;> omega)) ?_
   rw [hkb3]
   refine WG.y rfl rfl (by decide) (Yl.add rfl rfl rfl (fun _ => rfl) (by intro _; constructor <;> (try dsimp only) <;> omega)) ?_
   rw [show (more : Int) + (((times - 1) * P : Nat) : Int) = (((more + (times - 1) * P) - 0 : Nat) : Int) by omega]
   refine WG.run tab_ok 1 rfl (WG.nil (WE.nxt (W.block ?_)))
   refine W.loopK (β := Nat × Option Addr × Nat) (fun (i, a12, c12) => i ≤ (more + (times - 1) * P)) (fun (i, a12, c12) => [(8, true, .int .i64 (((more + (times - 1) * P) - i : Nat) : Int))]) [2, 3, 6, 7] [_, _, _, _] [] _ rfl (fun (i, a12, c12) => [(0, .blk b7 [.slice a12 (fvals F (S + P + i)).length c12, .int .i64 (P : Int), .int .i64 I]), (1, .sl 3 1 a12 c12 ((fvals F (S + P + i)).map encI))]) (fun (i, a12, c12) => (more + (times - 1) * P) - i) ((0, a12, c12)) (Nat.zero_le _) ⟨rfl, rfl, rfl, rfl, rfl, rfl⟩ qS ?_
   intro st hst
   obtain ⟨i, a12, c12⟩ := st
   dsimp only [zipE, setAll, List.cons_append, List.nil_append, List.set_cons_zero, List.set_cons_succ] at hst ⊢
   
   refine W.seq (W.seq (W.region _ (WG.run tab_ok 2 rfl (WG.nil (WE.nxt ?_)))))
   refine W.condD rfl (fun hc1 => ?_) (fun hc1 => ?_)
   ·try dsimp only at hc1
    have hil : i < more + (times - 1) * P := by omega
    have hvl : (fvals F (S + P + i)).length = S + P + i := fvals_len F _
    have hnx : nth (fvals F (S + P + i)) ((((fvals F (S + P + i)).length : Int) - (P : Int)).toNat) + I = F (S + P + i) := by
     rw [show (((fvals F (S + P + i)).length : Int) - (P : Int)).toNat = S + i by omega, fvals_nth F (by omega), ← hf.hg (S + i) (by omega)]
     congr 1; omega
    have hb9 := hbd (S + P + i)
    have hb8 := hbd (S + i)
    have hn8 := hf.nonneg (S + i)
    have hv8 : nth (fvals F (S + P + i)) ((((fvals F (S + P + i)).length : Int) - (P : Int)).toNat) = F (S + i) := by
     rw [show (((fvals F (S + P + i)).length : Int) - (P : Int)).toNat = S + i by omega, fvals_nth F (by omega)]
    have e1 : fvals F (S + P + (i + 1)) = fvals F (S + P + i) ++ [nth (fvals F (S + P + i)) ((((fvals F (S + P + i)).length : Int) - (P : Int)).toNat) + I] := by rw [hnx]; exact fvals_snoc F _
    refine W.skip (WE.nxt (W.seq (W.block ?_)))
    refine W.regionH _ (ES := [.blk b3 [.slice fa (fvals F (S + P)).length fc, .int .i64 (P : Int), .int .i64 I]]) mixed ?_
    refine WA.take 0 rfl qK qK qK rfl rfl qD (pureV_ok tab_ok rfl (fun _ => rfl)) qS qR ?_
    refine WA.take 2 rfl qK qK qK rfl rfl qD (pureV_ok tab_ok rfl (fun _ => rfl)) qS qR ?_
    refine WA.take 4 rfl qK qK qK rfl rfl qD (pureV_ok tab_ok rfl (fun _ => rfl)) qS qR ?_
    refine WA.take 7 rfl qK qK qK rfl rfl qD (pureV_ok tab_ok rfl (fun _ => rfl)) qS qR ?_
    refine' WA.take 8 rfl qK qK qK rfl rfl qD (Yl.load1 tab_ok rfl rfl rfl (fun _ => rfl) ?r9 rfl ?h9) qS qR ?_
    case r9 => apply Rd.add; (exact Rd.blk 0 rfl)
    case h9 => rfl
    refine WA.take 12 rfl qK qK qK rfl rfl qD (pureV_ok tab_ok rfl (fun _ => rfl)) qS qR ?_
    refine' WA.take 13 rfl qK qK qK rfl rfl qD (Yl.load1 tab_ok rfl rfl rfl (fun _ => rfl) ?r10 rfl ?h10) qS qR ?_
    case r10 => apply Rd.add; (exact Rd.blk 0 rfl)
    case h10 => rfl
    refine WA.br3 (i := 1) (j := 3) (k := 5) qK ?_ ?_ ?_
    ·
     refine' WS.yl rfl rfl rfl qD (Yl.load1 tab_ok rfl rfl rfl (fun _ => rfl) ?r11 rfl ?h11) qS qR ?_
     case r11 => apply Rd.add; (exact Rd.blk 0 rfl)
     case h11 => rfl
     refine WA.br2 (i := 3) (j := 5) qK ?_ ?_
     ·
      refine' WS.yl rfl rfl rfl qD (Yl.load1 tab_ok rfl rfl rfl (fun _ => rfl) ?r12 rfl ?h12) qS qR ?_
      case r12 => apply Rd.add; (exact Rd.blk 0 rfl)
      case h12 => rfl
      refine' WA.yl 5 rfl qK rfl rfl qD (Yl.load1 tab_ok rfl rfl rfl (fun _ => rfl) ?r13 rfl ?h13) qS qR ?_
      case r13 => apply Rd.add; (exact Rd.blk 0 rfl)
      case h13 => rfl
      refine WA.take 6 rfl qK qK qK rfl rfl qD (pureV_ok tab_ok rfl (fun _ => rfl)) qS qR ?_
      refine WA.take 9 rfl (by kernel_rfl) (by kernel_rfl) (by kernel_rfl) rfl rfl (by decide) (Yl.sub rfl rfl rfl (fun _ => rfl) (by intro _; constructor <;> (try dsimp only) <;> omega)) qS (by first | exact RLe.refl _ | assumption) ?_
      refine WA.yl 10 rfl (by kernel_rfl) rfl rfl (by decide) (Yl.index tab_ok rfl rfl rfl rfl rfl rfl (fun _ => rfl) (by intro _; constructor <;> (try dsimp only) <;> omega) (by intro _; first | exact fun _ _ _ _ => rfl | exact RS.has (by assumption) | exact fun _ _ _ _ => (by assumption) | exact HasMem.ownD 0 rfl | exact HasMem.ownD 1 rfl | exact HasMem.ownD 2 rfl | exact HasMem.ownD 3 rfl | exact HasMem.ownD 4 rfl)) qS (by first | exact RLe.refl _ | assumption) ?_
      refine' WA.yl 11 rfl qK rfl rfl qD (Yl.load1 tab_ok rfl rfl rfl (fun _ => rfl) ?r14 rfl ?h14) qS qR ?_
      case r14 => (exact Rd.slD 1 rfl (by (try dsimp only) <;> omega))
      case h14 => rfl
      refine WA.take 14 rfl (by kernel_rfl) (by kernel_rfl) (by kernel_rfl) rfl rfl (by decide) (Yl.add rfl rfl rfl (fun _ => rfl) (by intro _; constructor <;> (try dsimp only) <;> omega)) qS (by first | exact RLe.refl _ | assumption) ?_
      refine WA.eff 15 rfl qK rfl rfl qD (Ef.buildSliceD (enc := encI) (parts := [.tmp 72]) [_] tab_ok rfl rfl rfl rfl rfl rfl rfl rfl qD qD (fun a73 => ?_))
      refine ⟨by first | exact RLe.refl _ | assumption, qS, ?_⟩
      refine WA.eff 16 rfl (by kernel_rfl) rfl rfl (by decide) (Ef.appendD 2 0 tab_ok rfl rfl rfl rfl rfl rfl rfl rfl rfl rfl rfl (fun _ _ => rfl) (by simp only [List.length_cons, List.length_nil]; omega) (by simp only [List.length_cons, List.length_nil]; omega) (fun a74 c74 ha74 => ?_))
      refine ⟨by first | exact RLe.refl _ | assumption, qS, ?_⟩
      refine WA.take 17 rfl qK qK qK rfl rfl qD (pureV_ok tab_ok rfl (fun _ => rfl)) qS qR ?_
      refine WA.effN 18 rfl qK rfl rfl (Ef.store 1 tab_ok rfl rfl rfl rfl rfl rfl rfl rfl ?_)
      refine ⟨by first | exact RLe.refl _ | assumption, qS, ?_⟩
      refine WA.done qK ?_
      refine WE.blk _ (WE.nxt (W.region _ (WG.run tab_ok 1 rfl ?_)))
      refine WG.y rfl rfl (by decide) (Yl.sub rfl rfl rfl (fun _ => rfl) (by intro _; constructor <;> (try dsimp only) <;> omega)) ?_
      rw [show (((more + (times - 1) * P) - i : Nat) : Int) - 1 = (((more + (times - 1) * P) - (i + 1) : Nat) : Int) by omega]
      refine WG.run tab_ok 1 rfl (WG.nil ?_)
      refine WE.again ((i + 1, a74, c74)) (by dsimp only; omega) (by (try dsimp only); omega) ⟨rfl, rfl, rfl, rfl, rfl, rfl⟩ (RLe.refl _) (by dsimp only [setAll, List.set_cons_zero, List.set_cons_succ]; rw [e1, List.length_append]; exact qS)
     ·
      refine' WS.yl rfl rfl rfl qD (Yl.load1 tab_ok rfl rfl rfl (fun _ => rfl) ?r15 rfl ?h15) qS qR ?_
      case r15 => apply Rd.add; (exact Rd.blk 0 rfl)
      case h15 => rfl
      refine WA.take 6 rfl qK qK qK rfl rfl qD (pureV_ok tab_ok rfl (fun _ => rfl)) qS qR ?_
      refine WA.take 9 rfl (by kernel_rfl) (by kernel_rfl) (by kernel_rfl) rfl rfl (by decide) (Yl.sub rfl rfl rfl (fun _ => rfl) (by intro _; constructor <;> (try dsimp only) <;> omega)) qS (by first | exact RLe.refl _ | assumption) ?_
      refine' WA.yl 3 rfl qK rfl rfl qD (Yl.load1 tab_ok rfl rfl rfl (fun _ => rfl) ?r16 rfl ?h16) qS qR ?_
      case r16 => apply Rd.add; (exact Rd.blk 0 rfl)
      case h16 => rfl
      refine WA.yl 10 rfl (by kernel_rfl) rfl rfl (by decide) (Yl.index tab_ok rfl rfl rfl rfl rfl rfl (fun _ => rfl) (by intro _; constructor <;> (try dsimp only) <;> omega) (by intro _; first | exact fun _ _ _ _ => rfl | exact RS.has (by assumption) | exact fun _ _ _ _ => (by assumption) | exact HasMem.ownD 0 rfl | exact HasMem.ownD 1 rfl | exact HasMem.ownD 2 rfl | exact HasMem.ownD 3 rfl | exact HasMem.ownD 4 rfl)) qS (by first | exact RLe.refl _ | assumption) ?_
      refine' WA.yl 11 rfl qK rfl rfl qD (Yl.load1 tab_ok rfl rfl rfl (fun _ => rfl) ?r17 rfl ?h17) qS qR ?_
      case r17 => (exact Rd.slD 1 rfl (by (try dsimp only) <;> omega))
      case h17 => rfl
      refine WA.take 14 rfl (by kernel_rfl) (by kernel_rfl) (by kernel_rfl) rfl rfl (by decide) (Yl.add rfl rfl rfl (fun _ => rfl) (by intro _; constructor <;> (try dsimp only) <;> omega)) qS (by first | exact RLe.refl _ | assumption) ?_
      refine WA.eff 15 rfl qK rfl rfl qD (Ef.buildSliceD (enc := encI) (parts := [.tmp 72]) [_] tab_ok rfl rfl rfl rfl rfl rfl rfl rfl qD qD (fun a73 => ?_))
      refine ⟨by first | exact RLe.refl _ | assumption, qS, ?_⟩
      refine WA.eff 16 rfl (by kernel_rfl) rfl rfl (by decide) (Ef.appendD 2 0 tab_ok rfl rfl rfl rfl rfl rfl rfl rfl rfl rfl rfl (fun _ _ => rfl) (by simp only [List.length_cons, List.length_nil]; omega) (by simp only [List.length_cons, List.length_nil]; omega) (fun a74 c74 ha74 => ?_))
      refine ⟨by first | exact RLe.refl _ | assumption, qS, ?_⟩
      refine WA.take 17 rfl qK qK qK rfl rfl qD (pureV_ok tab_ok rfl (fun _ => rfl)) qS qR ?_
      refine WA.effN 18 rfl qK rfl rfl (Ef.store 1 tab_ok rfl rfl rfl rfl rfl rfl rfl rfl ?_)
      refine ⟨by first | exact RLe.refl _ | assumption, qS, ?_⟩
      refine WA.done qK ?_
      refine WE.blk _ (WE.nxt (W.region _ (WG.run tab_ok 1 rfl ?_)))
      refine WG.y rfl rfl (by decide) (Yl.sub rfl rfl rfl (fun _ => rfl) (by intro _; constructor <;> (try dsimp only) <;> omega)) ?_
      rw [show (((more + (times - 1) * P) - i : Nat) : Int) - 1 = (((more + (times - 1) * P) - (i + 1) : Nat) : Int) by omega]
      refine WG.run tab_ok 1 rfl (WG.nil ?_)
      refine WE.again ((i + 1, a74, c74)) (by dsimp only; omega) (by (try dsimp only); omega) ⟨rfl, rfl, rfl, rfl, rfl, rfl⟩ (RLe.refl _) (by dsimp only [setAll, List.set_cons_zero, List.set_cons_succ]; rw [e1, List.length_append]; exact qS)
    ·
     refine' WS.yl rfl rfl rfl qD (Yl.load1 tab_ok rfl rfl rfl (fun _ => rfl) ?r18 rfl ?h18) qS qR ?_
     case r18 => apply Rd.add; (exact Rd.blk 0 rfl)
     case h18 => rfl
     refine WA.br2 (i := 1) (j := 5) qK ?_ ?_
     ·
      refine' WS.yl rfl rfl rfl qD (Yl.load1 tab_ok rfl rfl rfl (fun _ => rfl) ?r19 rfl ?h19) qS qR ?_
      case r19 => apply Rd.add; (exact Rd.blk 0 rfl)
      case h19 => rfl
      refine' WA.yl 5 rfl qK rfl rfl qD (Yl.load1 tab_ok rfl rfl rfl (fun _ => rfl) ?r20 rfl ?h20) qS qR ?_
      case r20 => apply Rd.add; (exact Rd.blk 0 rfl)
      case h20 => rfl
      refine WA.take 6 rfl qK qK qK rfl rfl qD (pureV_ok tab_ok rfl (fun _ => rfl)) qS qR ?_
      refine WA.take 9 rfl (by kernel_rfl) (by kernel_rfl) (by kernel_rfl) rfl rfl (by decide) (Yl.sub rfl rfl rfl (fun _ => rfl) (by intro _; constructor <;> (try dsimp only) <;> omega)) qS (by first | exact RLe.refl _ | assumption) ?_
      refine WA.yl 10 rfl (by kernel_rfl) rfl rfl (by decide) (Yl.index tab_ok rfl rfl rfl rfl rfl rfl (fun _ => rfl) (by intro _; constructor <;> (try dsimp only) <;> omega) (by intro _; first | exact fun _ _ _ _ => rfl | exact RS.has (by assumption) | exact fun _ _ _ _ => (by assumption) | exact HasMem.ownD 0 rfl | exact HasMem.ownD 1 rfl | exact HasMem.ownD 2 rfl | exact HasMem.ownD 3 rfl | exact HasMem.ownD 4 rfl)) qS (by first | exact RLe.refl _ | assumption) ?_
      refine' WA.yl 11 rfl qK rfl rfl qD (Yl.load1 tab_ok rfl rfl rfl (fun _ => rfl) ?r21 rfl ?h21) qS qR ?_
      case r21 => (exact Rd.slD 1 rfl (by (try dsimp only) <;> omega))
      case h21 => rfl
      refine WA.take 14 rfl (by kernel_rfl) (by kernel_rfl) (by kernel_rfl) rfl rfl (by decide) (Yl.add rfl rfl rfl (fun _ => rfl) (by intro _; constructor <;> (try dsimp only) <;> omega)) qS (by first | exact RLe.refl _ | assumption) ?_
      refine WA.eff 15 rfl qK rfl rfl qD (Ef.buildSliceD (enc := encI) (parts := [.tmp 72]) [_] tab_ok rfl rfl rfl rfl rfl rfl rfl rfl qD qD (fun a73 => ?_))
      refine ⟨by first | exact RLe.refl _ | assumption, qS, ?_⟩
      refine WA.eff 16 rfl (by kernel_rfl) rfl rfl (by decide) (Ef.appendD 2 0 tab_ok rfl rfl rfl rfl rfl rfl rfl rfl rfl rfl rfl (fun _ _ => rfl) (by simp only [List.length_cons, List.length_nil]; omega) (by simp only [List.length_cons, List.length_nil]; omega) (fun a74 c74 ha74 => ?_))
      refine ⟨by first | exact RLe.refl _ | assumption, qS, ?_⟩
      refine WA.take 17 rfl qK qK qK rfl rfl qD (pureV_ok tab_ok rfl (fun _ => rfl)) qS qR ?_
      refine WA.effN 18 rfl qK rfl rfl (Ef.store 1 tab_ok rfl rfl rfl rfl rfl rfl rfl rfl ?_)
      refine ⟨by first | exact RLe.refl _ | assumption, qS, ?_⟩
      refine WA.done qK ?_
      refine WE.blk _ (WE.nxt (W.region _ (WG.run tab_ok 1 rfl ?_)))
      refine WG.y rfl rfl (by decide) (Yl.sub rfl rfl rfl (fun _ => rfl) (by intro _; constructor <;> (try dsimp only) <;> omega)) ?_
      rw [show (((more + (times - 1) * P) - i : Nat) : Int) - 1 = (((more + (times - 1) * P) - (i + 1) : Nat) : Int) by omega]
      refine WG.run tab_ok 1 rfl (WG.nil ?_)
      refine WE.again ((i + 1, a74, c74)) (by dsimp only; omega) (by (try dsimp only); omega) ⟨rfl, rfl, rfl, rfl, rfl, rfl⟩ (RLe.refl _) (by dsimp only [setAll, List.set_cons_zero, List.set_cons_succ]; rw [e1, List.length_append]; exact qS)
     ·
      refine' WS.yl rfl rfl rfl qD (Yl.load1 tab_ok rfl rfl rfl (fun _ => rfl) ?r22 rfl ?h22) qS qR ?_
      case r22 => apply Rd.add; (exact Rd.blk 0 rfl)
      case h22 => rfl
      refine WA.take 6 rfl qK qK qK rfl rfl qD (pureV_ok tab_ok rfl (fun _ => rfl)) qS qR ?_
      refine WA.take 9 rfl (by kernel_rfl) (by kernel_rfl) (by kernel_rfl) rfl rfl (by decide) (Yl.sub rfl rfl rfl (fun _ => rfl) (by intro _; constructor <;> (try dsimp only) <;> omega)) qS (by first | exact RLe.refl _ | assumption) ?_
      refine WA.br2 (i := 1) (j := 10) qK ?_ ?_
      ·
       refine' WS.yl rfl rfl rfl qD (Yl.load1 tab_ok rfl rfl rfl (fun _ => rfl) ?r23 rfl ?h23) qS qR ?_
       case r23 => apply Rd.add; (exact Rd.blk 0 rfl)
       case h23 => rfl
       refine WA.yl 10 rfl (by kernel_rfl) rfl rfl (by decide) (Yl.index tab_ok rfl rfl rfl rfl rfl rfl (fun _ => rfl) (by intro _; constructor <;> (try dsimp only) <;> omega) (by intro _; first | exact fun _ _ _ _ => rfl | exact RS.has (by assumption) | exact fun _ _ _ _ => (by assumption) | exact HasMem.ownD 0 rfl | exact HasMem.ownD 1 rfl | exact HasMem.ownD 2 rfl | exact HasMem.ownD 3 rfl | exact HasMem.ownD 4 rfl)) qS (by first | exact RLe.refl _ | assumption) ?_
       refine' WA.yl 11 rfl qK rfl rfl qD (Yl.load1 tab_ok rfl rfl rfl (fun _ => rfl) ?r24 rfl ?h24) qS qR ?_
       case r24 => (exact Rd.slD 1 rfl (by (try dsimp only) <;> omega))
       case h24 => rfl
       refine WA.take 14 rfl (by kernel_rfl) (by kernel_rfl) (by kernel_rfl) rfl rfl (by decide) (Yl.add rfl rfl rfl (fun _ => rfl) (by intro _; constructor <;> (try dsimp only) <;> omega)) qS (by first | exact RLe.refl _ | assumption) ?_
       refine WA.eff 15 rfl qK rfl rfl qD (Ef.buildSliceD (enc := encI) (parts := [.tmp 72]) [_] tab_ok rfl rfl rfl rfl rfl rfl rfl rfl qD qD (fun a73 => ?_))
       refine ⟨by first | exact RLe.refl _ | assumption, qS, ?_⟩
       refine WA.eff 16 rfl (by kernel_rfl) rfl rfl (by decide) (Ef.appendD 2 0 tab_ok rfl rfl rfl rfl rfl rfl rfl rfl rfl rfl rfl (fun _ _ => rfl) (by simp only [List.length_cons, List.length_nil]; omega) (by simp only [List.length_cons, List.length_nil]; omega) (fun a74 c74 ha74 => ?_))
       refine ⟨by first | exact RLe.refl _ | assumption, qS, ?_⟩
       refine WA.take 17 rfl qK qK qK rfl rfl qD (pureV_ok tab_ok rfl (fun _ => rfl)) qS qR ?_
       refine WA.effN 18 rfl qK rfl rfl (Ef.store 1 tab_ok rfl rfl rfl rfl rfl rfl rfl rfl ?_)
       refine ⟨by first | exact RLe.refl _ | assumption, qS, ?_⟩
       refine WA.done qK ?_
       refine WE.blk _ (WE.nxt (W.region _ (WG.run tab_ok 1 rfl ?_)))
       refine WG.y rfl rfl (by decide) (Yl.sub rfl rfl rfl (fun _ => rfl) (by intro _; constructor <;> (try dsimp only) <;> omega)) ?_
       rw [show (((more + (times - 1) * P) - i : Nat) : Int) - 1 = (((more + (times - 1) * P) - (i + 1) : Nat) : Int) by omega]
       refine WG.run tab_ok 1 rfl (WG.nil ?_)
       refine WE.again ((i + 1, a74, c74)) (by dsimp only; omega) (by (try dsimp only); omega) ⟨rfl, rfl, rfl, rfl, rfl, rfl⟩ (RLe.refl _) (by dsimp only [setAll, List.set_cons_zero, List.set_cons_succ]; rw [e1, List.length_append]; exact qS)
      ·
       refine WS.yl rfl rfl rfl (by decide) (Yl.index tab_ok rfl rfl rfl rfl rfl rfl (fun _ => rfl) (by intro _; constructor <;> (try dsimp only) <;> omega) (by intro _; first | exact fun _ _ _ _ => rfl | exact RS.has (by assumption) | exact fun _ _ _ _ => (by assumption) | exact HasMem.ownD 0 rfl | exact HasMem.ownD 1 rfl | exact HasMem.ownD 2 rfl | exact HasMem.ownD 3 rfl | exact HasMem.ownD 4 rfl)) qS (by first | exact RLe.refl _ | assumption) ?_
       refine WA.br2 (i := 1) (j := 11) qK ?_ ?_
       ·
        refine' WS.yl rfl rfl rfl qD (Yl.load1 tab_ok rfl rfl rfl (fun _ => rfl) ?r25 rfl ?h25) qS qR ?_
        case r25 => apply Rd.add; (exact Rd.blk 0 rfl)
        case h25 => rfl
        refine' WA.yl 11 rfl qK rfl rfl qD (Yl.load1 tab_ok rfl rfl rfl (fun _ => rfl) ?r26 rfl ?h26) qS qR ?_
        case r26 => (exact Rd.slD 1 rfl (by (try dsimp only) <;> omega))
        case h26 => rfl
        refine WA.take 14 rfl (by kernel_rfl) (by kernel_rfl) (by kernel_rfl) rfl rfl (by decide) (Yl.add rfl rfl rfl (fun _ => rfl) (by intro _; constructor <;> (try dsimp only) <;> omega)) qS (by first | exact RLe.refl _ | assumption) ?_
        refine WA.eff 15 rfl qK rfl rfl qD (Ef.buildSliceD (enc := encI) (parts := [.tmp 72]) [_] tab_ok rfl rfl rfl rfl rfl rfl rfl rfl qD qD (fun a73 => ?_))
        refine ⟨by first | exact RLe.refl _ | assumption, qS, ?_⟩
        refine WA.eff 16 rfl (by kernel_rfl) rfl rfl (by decide) (Ef.appendD 2 0 tab_ok rfl rfl rfl rfl rfl rfl rfl rfl rfl rfl rfl (fun _ _ => rfl) (by simp only [List.length_cons, List.length_nil]; omega) (by simp only [List.length_cons, List.length_nil]; omega) (fun a74 c74 ha74 => ?_))
        refine ⟨by first | exact RLe.refl _ | assumption, qS, ?_⟩
        refine WA.take 17 rfl qK qK qK rfl rfl qD (pureV_ok tab_ok rfl (fun _ => rfl)) qS qR ?_
        refine WA.effN 18 rfl qK rfl rfl (Ef.store 1 tab_ok rfl rfl rfl rfl rfl rfl rfl rfl ?_)
        refine ⟨by first | exact RLe.refl _ | assumption, qS, ?_⟩
        refine WA.done qK ?_
        refine WE.blk _ (WE.nxt (W.region _ (WG.run tab_ok 1 rfl ?_)))
        refine WG.y rfl rfl (by decide) (Yl.sub rfl rfl rfl (fun _ => rfl) (by intro _; constructor <;> (try dsimp only) <;> omega)) ?_
        rw [show (((more + (times - 1) * P) - i : Nat) : Int) - 1 = (((more + (times - 1) * P) - (i + 1) : Nat) : Int) by omega]
        refine WG.run tab_ok 1 rfl (WG.nil ?_)
        refine WE.again ((i + 1, a74, c74)) (by dsimp only; omega) (by (try dsimp only); omega) ⟨rfl, rfl, rfl, rfl, rfl, rfl⟩ (RLe.refl _) (by dsimp only [setAll, List.set_cons_zero, List.set_cons_succ]; rw [e1, List.length_append]; exact qS)
       ·
        refine' WS.yl rfl rfl rfl qD (Yl.load1 tab_ok rfl rfl rfl (fun _ => rfl) ?r27 rfl ?h27) qS qR ?_
        case r27 => (exact Rd.slD 1 rfl (by (try dsimp only) <;> omega))
        case h27 => rfl
        refine WA.take 14 rfl (by kernel_rfl) (by kernel_rfl) (by kernel_rfl) rfl rfl (by decide) (Yl.add rfl rfl rfl (fun _ => rfl) (by intro _; constructor <;> (try dsimp only) <;> omega)) qS (by first | exact RLe.refl _ | assumption) ?_
        refine WA.br2 (i := 1) (j := 15) qK ?_ ?_
        ·
         refine' WS.yl rfl rfl rfl qD (Yl.load1 tab_ok rfl rfl rfl (fun _ => rfl) ?r28 rfl ?h28) qS qR ?_
         case r28 => apply Rd.add; (exact Rd.blk 0 rfl)
         case h28 => rfl
         refine WA.eff 15 rfl qK rfl rfl qD (Ef.buildSliceD (enc := encI) (parts := [.tmp 72]) [_] tab_ok rfl rfl rfl rfl rfl rfl rfl rfl qD qD (fun a73 => ?_))
         refine ⟨by first | exact RLe.refl _ | assumption, qS, ?_⟩
         refine WA.eff 16 rfl (by kernel_rfl) rfl rfl (by decide) (Ef.appendD 2 0 tab_ok rfl rfl rfl rfl rfl rfl rfl rfl rfl rfl rfl (fun _ _ => rfl) (by simp only [List.length_cons, List.length_nil]; omega) (by simp only [List.length_cons, List.length_nil]; omega) (fun a74 c74 ha74 => ?_))
         refine ⟨by first | exact RLe.refl _ | assumption, qS, ?_⟩
         refine WA.take 17 rfl qK qK qK rfl rfl qD (pureV_ok tab_ok rfl (fun _ => rfl)) qS qR ?_
         refine WA.effN 18 rfl qK rfl rfl (Ef.store 1 tab_ok rfl rfl rfl rfl rfl rfl rfl rfl ?_)
         refine ⟨by first | exact RLe.refl _ | assumption, qS, ?_⟩
         refine WA.done qK ?_
         refine WE.blk _ (WE.nxt (W.region _ (WG.run tab_ok 1 rfl ?_)))
         refine WG.y rfl rfl (by decide) (Yl.sub rfl rfl rfl (fun _ => rfl) (by intro _; constructor <;> (try dsimp only) <;> omega)) ?_
         rw [show (((more + (times - 1) * P) - i : Nat) : Int) - 1 = (((more + (times - 1) * P) - (i + 1) : Nat) : Int) by omega]
         refine WG.run tab_ok 1 rfl (WG.nil ?_)
         refine WE.again ((i + 1, a74, c74)) (by dsimp only; omega) (by (try dsimp only); omega) ⟨rfl, rfl, rfl, rfl, rfl, rfl⟩ (RLe.refl _) (by dsimp only [setAll, List.set_cons_zero, List.set_cons_succ]; rw [e1, List.length_append]; exact qS)
        ·
         refine WS.eff rfl rfl rfl qD (Ef.buildSliceD (enc := encI) (parts := [.tmp 72]) [_] tab_ok rfl rfl rfl rfl rfl rfl rfl rfl qD qD (fun a73 => ?_))
         refine ⟨by first | exact RLe.refl _ | assumption, qS, ?_⟩
         refine' WA.yl 1 rfl qK rfl rfl qD (Yl.load1 tab_ok rfl rfl rfl (fun _ => rfl) ?r29 rfl ?h29) qS qR ?_
         case r29 => apply Rd.add; (exact Rd.blk 1 rfl)
         case h29 => rfl
         refine WA.eff 16 rfl (by kernel_rfl) rfl rfl (by decide) (Ef.appendD 2 0 tab_ok rfl rfl rfl rfl rfl rfl rfl rfl rfl rfl rfl (fun _ _ => rfl) (by simp only [List.length_cons, List.length_nil]; omega) (by simp only [List.length_cons, List.length_nil]; omega) (fun a74 c74 ha74 => ?_))
         refine ⟨by first | exact RLe.refl _ | assumption, qS, ?_⟩
         refine WA.take 17 rfl qK qK qK rfl rfl qD (pureV_ok tab_ok rfl (fun _ => rfl)) qS qR ?_
         refine WA.effN 18 rfl qK rfl rfl (Ef.store 1 tab_ok rfl rfl rfl rfl rfl rfl rfl rfl ?_)
         refine ⟨by first | exact RLe.refl _ | assumption, qS, ?_⟩
         refine WA.done qK ?_
         refine WE.blk _ (WE.nxt (W.region _ (WG.run tab_ok 1 rfl ?_)))
         refine WG.y rfl rfl (by decide) (Yl.sub rfl rfl rfl (fun _ => rfl) (by intro _; constructor <;> (try dsimp only) <;> omega)) ?_
         rw [show (((more + (times - 1) * P) - i : Nat) : Int) - 1 = (((more + (times - 1) * P) - (i + 1) : Nat) : Int) by omega]
         refine WG.run tab_ok 1 rfl (WG.nil ?_)
         refine WE.again ((i + 1, a74, c74)) (by dsimp only; omega) (by (try dsimp only); omega) ⟨rfl, rfl, rfl, rfl, rfl, rfl⟩ (RLe.refl _) (by dsimp only [setAll, List.set_cons_zero, List.set_cons_succ]; rw [e1, List.length_append]; exact qS)
    ·
     refine' WS.yl rfl rfl rfl qD (Yl.load1 tab_ok rfl rfl rfl (fun _ => rfl) ?r30 rfl ?h30) qS qR ?_
     case r30 => apply Rd.add; (exact Rd.blk 0 rfl)
     case h30 => rfl
     refine WA.take 6 rfl qK qK qK rfl rfl qD (pureV_ok tab_ok rfl (fun _ => rfl)) qS qR ?_
     refine WA.take 9 rfl (by kernel_rfl) (by kernel_rfl) (by kernel_rfl) rfl rfl (by decide) (Yl.sub rfl rfl rfl (fun _ => rfl) (by intro _; constructor <;> (try dsimp only) <;> omega)) qS (by first | exact RLe.refl _ | assumption) ?_
     refine WA.br2 (i := 1) (j := 3) qK ?_ ?_
     ·
      refine' WS.yl rfl rfl rfl qD (Yl.load1 tab_ok rfl rfl rfl (fun _ => rfl) ?r31 rfl ?h31) qS qR ?_
      case r31 => apply Rd.add; (exact Rd.blk 0 rfl)
      case h31 => rfl
      refine' WA.yl 3 rfl qK rfl rfl qD (Yl.load1 tab_ok rfl rfl rfl (fun _ => rfl) ?r32 rfl ?h32) qS qR ?_
      case r32 => apply Rd.add; (exact Rd.blk 0 rfl)
      case h32 => rfl
      refine WA.yl 10 rfl (by kernel_rfl) rfl rfl (by decide) (Yl.index tab_ok rfl rfl rfl rfl rfl rfl (fun _ => rfl) (by intro _; constructor <;> (try dsimp only) <;> omega) (by intro _; first | exact fun _ _ _ _ => rfl | exact RS.has (by assumption) | exact fun _ _ _ _ => (by assumption) | exact HasMem.ownD 0 rfl | exact HasMem.ownD 1 rfl | exact HasMem.ownD 2 rfl | exact HasMem.ownD 3 rfl | exact HasMem.ownD 4 rfl)) qS (by first | exact RLe.refl _ | assumption) ?_
      refine' WA.yl 11 rfl qK rfl rfl qD (Yl.load1 tab_ok rfl rfl rfl (fun _ => rfl) ?r33 rfl ?h33) qS qR ?_
      case r33 => (exact Rd.slD 1 rfl (by (try dsimp only) <;> omega))
      case h33 => rfl
      refine WA.take 14 rfl (by kernel_rfl) (by kernel_rfl) (by kernel_rfl) rfl rfl (by decide) (Yl.add rfl rfl rfl (fun _ => rfl) (by intro _; constructor <;> (try dsimp only) <;> omega)) qS (by first | exact RLe.refl _ | assumption) ?_
      refine WA.eff 15 rfl qK rfl rfl qD (Ef.buildSliceD (enc := encI) (parts := [.tmp 72]) [_] tab_ok rfl rfl rfl rfl rfl rfl rfl rfl qD qD (fun a73 => ?_))
      refine ⟨by first | exact RLe.refl _ | assumption, qS, ?_⟩
      refine WA.eff 16 rfl (by kernel_rfl) rfl rfl (by decide) (Ef.appendD 2 0 tab_ok rfl rfl rfl rfl rfl rfl rfl rfl rfl rfl rfl (fun _ _ => rfl) (by simp only [List.length_cons, List.length_nil]; omega) (by simp only [List.length_cons, List.length_nil]; omega) (fun a74 c74 ha74 => ?_))
      refine ⟨by first | exact RLe.refl _ | assumption, qS, ?_⟩
      refine WA.take 17 rfl qK qK qK rfl rfl qD (pureV_ok tab_ok rfl (fun _ => rfl)) qS qR ?_
      refine WA.effN 18 rfl qK rfl rfl (Ef.store 1 tab_ok rfl rfl rfl rfl rfl rfl rfl rfl ?_)
      refine ⟨by first | exact RLe.refl _ | assumption, qS, ?_⟩
      refine WA.done qK ?_
      refine WE.blk _ (WE.nxt (W.region _ (WG.run tab_ok 1 rfl ?_)))
      refine WG.y rfl rfl (by decide) (Yl.sub rfl rfl rfl (fun _ => rfl) (by intro _; constructor <;> (try dsimp only) <;> omega)) ?_
      rw [show (((more + (times - 1) * P) - i : Nat) : Int) - 1 = (((more + (times - 1) * P) - (i + 1) : Nat) : Int) by omega]
      refine WG.run tab_ok 1 rfl (WG.nil ?_)
      refine WE.again ((i + 1, a74, c74)) (by dsimp only; omega) (by (try dsimp only); omega) ⟨rfl, rfl, rfl, rfl, rfl, rfl⟩ (RLe.refl _) (by dsimp only [setAll, List.set_cons_zero, List.set_cons_succ]; rw [e1, List.length_append]; exact qS)
     ·
      refine' WS.yl rfl rfl rfl qD (Yl.load1 tab_ok rfl rfl rfl (fun _ => rfl) ?r34 rfl ?h34) qS qR ?_
      case r34 => apply Rd.add; (exact Rd.blk 0 rfl)
      case h34 => rfl
      refine WA.br2 (i := 1) (j := 10) qK ?_ ?_
      ·
       refine' WS.yl rfl rfl rfl qD (Yl.load1 tab_ok rfl rfl rfl (fun _ => rfl) ?r35 rfl ?h35) qS qR ?_
       case r35 => apply Rd.add; (exact Rd.blk 0 rfl)
       case h35 => rfl
       refine WA.yl 10 rfl (by kernel_rfl) rfl rfl (by decide) (Yl.index tab_ok rfl rfl rfl rfl rfl rfl (fun _ => rfl) (by intro _; constructor <;> (try dsimp only) <;> omega) (by intro _; first | exact fun _ _ _ _ => rfl | exact RS.has (by assumption) | exact fun _ _ _ _ => (by assumption) | exact HasMem.ownD 0 rfl | exact HasMem.ownD 1 rfl | exact HasMem.ownD 2 rfl | exact HasMem.ownD 3 rfl | exact HasMem.ownD 4 rfl)) qS (by first | exact RLe.refl _ | assumption) ?_
       refine' WA.yl 11 rfl qK rfl rfl qD (Yl.load1 tab_ok rfl rfl rfl (fun _ => rfl) ?r36 rfl ?h36) qS qR ?_
       case r36 => (exact Rd.slD 1 rfl (by (try dsimp only) <;> omega))
       case h36 => rfl
       refine WA.take 14 rfl (by kernel_rfl) (by kernel_rfl) (by kernel_rfl) rfl rfl (by decide) (Yl.add rfl rfl rfl (fun _ => rfl) (by intro _; constructor <;> (try dsimp only) <;> omega)) qS (by first | exact RLe.refl _ | assumption) ?_
       refine WA.eff 15 rfl qK rfl rfl qD (Ef.buildSliceD (enc := encI) (parts := [.tmp 72]) [_] tab_ok rfl rfl rfl rfl rfl rfl rfl rfl qD qD (fun a73 => ?_))
       refine ⟨by first | exact RLe.refl _ | assumption, qS, ?_⟩
       refine WA.eff 16 rfl (by kernel_rfl) rfl rfl (by decide) (Ef.appendD 2 0 tab_ok rfl rfl rfl rfl rfl rfl rfl rfl rfl rfl rfl (fun _ _ => rfl) (by simp only [List.length_cons, List.length_nil]; omega) (by simp only [List.length_cons, List.length_nil]; omega) (fun a74 c74 ha74 => ?_))
       refine ⟨by first | exact RLe.refl _ | assumption, qS, ?_⟩
       refine WA.take 17 rfl qK qK qK rfl rfl qD (pureV_ok tab_ok rfl (fun _ => rfl)) qS qR ?_
       refine WA.effN 18 rfl qK rfl rfl (Ef.store 1 tab_ok rfl rfl rfl rfl rfl rfl rfl rfl ?_)
       refine ⟨by first | exact RLe.refl _ | assumption, qS, ?_⟩
       refine WA.done qK ?_
       refine WE.blk _ (WE.nxt (W.region _ (WG.run tab_ok 1 rfl ?_)))
       refine WG.y rfl rfl (by decide) (Yl.sub rfl rfl rfl (fun _ => rfl) (by intro _; constructor <;> (try dsimp only) <;> omega)) ?_
       rw [show (((more + (times - 1) * P) - i : Nat) : Int) - 1 = (((more + (times - 1) * P) - (i + 1) : Nat) : Int) by omega]
       refine WG.run tab_ok 1 rfl (WG.nil ?_)
       refine WE.again ((i + 1, a74, c74)) (by dsimp only; omega) (by (try dsimp only); omega) ⟨rfl, rfl, rfl, rfl, rfl, rfl⟩ (RLe.refl _) (by dsimp only [setAll, List.set_cons_zero, List.set_cons_succ]; rw [e1, List.length_append]; exact qS)
      ·
       refine WS.yl rfl rfl rfl (by decide) (Yl.index tab_ok rfl rfl rfl rfl rfl rfl (fun _ => rfl) (by intro _; constructor <;> (try dsimp only) <;> omega) (by intro _; first | exact fun _ _ _ _ => rfl | exact RS.has (by assumption) | exact fun _ _ _ _ => (by assumption) | exact HasMem.ownD 0 rfl | exact HasMem.ownD 1 rfl | exact HasMem.ownD 2 rfl | exact HasMem.ownD 3 rfl | exact HasMem.ownD 4 rfl)) qS (by first | exact RLe.refl _ | assumption) ?_
       refine WA.br2 (i := 1) (j := 11) qK ?_ ?_
       ·
        refine' WS.yl rfl rfl rfl qD (Yl.load1 tab_ok rfl rfl rfl (fun _ => rfl) ?r37 rfl ?h37) qS qR ?_
        case r37 => apply Rd.add; (exact Rd.blk 0 rfl)
        case h37 => rfl
        refine' WA.yl 11 rfl qK rfl rfl qD (Yl.load1 tab_ok rfl rfl rfl (fun _ => rfl) ?r38 rfl ?h38) qS qR ?_
        case r38 => (exact Rd.slD 1 rfl (by (try dsimp only) <;> omega))
        case h38 => rfl
        refine WA.take 14 rfl (by kernel_rfl) (by kernel_rfl) (by kernel_rfl) rfl rfl (by decide) (Yl.add rfl rfl rfl (fun _ => rfl) (by intro _; constructor <;> (try dsimp only) <;> omega)) qS (by first | exact RLe.refl _ | assumption) ?_
        refine WA.eff 15 rfl qK rfl rfl qD (Ef.buildSliceD (enc := encI) (parts := [.tmp 72]) [_] tab_ok rfl rfl rfl rfl rfl rfl rfl rfl qD qD (fun a73 => ?_))
        refine ⟨by first | exact RLe.refl _ | assumption, qS, ?_⟩
        refine WA.eff 16 rfl (by kernel_rfl) rfl rfl (by decide) (Ef.appendD 2 0 tab_ok rfl rfl rfl rfl rfl rfl rfl rfl rfl rfl rfl (fun _ _ => rfl) (by simp only [List.length_cons, List.length_nil]; omega) (by simp only [List.length_cons, List.length_nil]; omega) (fun a74 c74 ha74 => ?_))
        refine ⟨by first | exact RLe.refl _ | assumption, qS, ?_⟩
        refine WA.take 17 rfl qK qK qK rfl rfl qD (pureV_ok tab_ok rfl (fun _ => rfl)) qS qR ?_
        refine WA.effN 18 rfl qK rfl rfl (Ef.store 1 tab_ok rfl rfl rfl rfl rfl rfl rfl rfl ?_)
        refine ⟨by first | exact RLe.refl _ | assumption, qS, ?_⟩
        refine WA.done qK ?_
        refine WE.blk _ (WE.nxt (W.region _ (WG.run tab_ok 1 rfl ?_)))
        refine WG.y rfl rfl (by decide) (Yl.sub rfl rfl rfl (fun _ => rfl) (by intro _; constructor <;> (try dsimp only) <;> omega)) ?_
        rw [show (((more + (times - 1) * P) - i : Nat) : Int) - 1 = (((more + (times - 1) * P) - (i + 1) : Nat) : Int) by omega]
        refine WG.run tab_ok 1 rfl (WG.nil ?_)
        refine WE.again ((i + 1, a74, c74)) (by dsimp only; omega) (by (try dsimp only); omega) ⟨rfl, rfl, rfl, rfl, rfl, rfl⟩ (RLe.refl _) (by dsimp only [setAll, List.set_cons_zero, List.set_cons_succ]; rw [e1, List.length_append]; exact qS)
       ·
        refine' WS.yl rfl rfl rfl qD (Yl.load1 tab_ok rfl rfl rfl (fun _ => rfl) ?r39 rfl ?h39) qS qR ?_
        case r39 => (exact Rd.slD 1 rfl (by (try dsimp only) <;> omega))
        case h39 => rfl
        refine WA.take 14 rfl (by kernel_rfl) (by kernel_rfl) (by kernel_rfl) rfl rfl (by decide) (Yl.add rfl rfl rfl (fun _ => rfl) (by intro _; constructor <;> (try dsimp only) <;> omega)) qS (by first | exact RLe.refl _ | assumption) ?_
        refine WA.br2 (i := 1) (j := 15) qK ?_ ?_
        ·
         refine' WS.yl rfl rfl rfl qD (Yl.load1 tab_ok rfl rfl rfl (fun _ => rfl) ?r40 rfl ?h40) qS qR ?_
         case r40 => apply Rd.add; (exact Rd.blk 0 rfl)
         case h40 => rfl
         refine WA.eff 15 rfl qK rfl rfl qD (Ef.buildSliceD (enc := encI) (parts := [.tmp 72]) [_] tab_ok rfl rfl rfl rfl rfl rfl rfl rfl qD qD (fun a73 => ?_))
         refine ⟨by first | exact RLe.refl _ | assumption, qS, ?_⟩
         refine WA.eff 16 rfl (by kernel_rfl) rfl rfl (by decide) (Ef.appendD 2 0 tab_ok rfl rfl rfl rfl rfl rfl rfl rfl rfl rfl rfl (fun _ _ => rfl) (by simp only [List.length_cons, List.length_nil]; omega) (by simp only [List.length_cons, List.length_nil]; omega) (fun a74 c74 ha74 => ?_))
         refine ⟨by first | exact RLe.refl _ | assumption, qS, ?_⟩
         refine WA.take 17 rfl qK qK qK rfl rfl qD (pureV_ok tab_ok rfl (fun _ => rfl)) qS qR ?_
         refine WA.effN 18 rfl qK rfl rfl (Ef.store 1 tab_ok rfl rfl rfl rfl rfl rfl rfl rfl ?_)
         refine ⟨by first | exact RLe.refl _ | assumption, qS, ?_⟩
         refine WA.done qK ?_
         refine WE.blk _ (WE.nxt (W.region _ (WG.run tab_ok 1 rfl ?_)))
         refine WG.y rfl rfl (by decide) (Yl.sub rfl rfl rfl (fun _ => rfl) (by intro _; constructor <;> (try dsimp only) <;> omega)) ?_
         rw [show (((more + (times - 1) * P) - i : Nat) : Int) - 1 = (((more + (times - 1) * P) - (i + 1) : Nat) : Int) by omega]
         refine WG.run tab_ok 1 rfl (WG.nil ?_)
         refine WE.again ((i + 1, a74, c74)) (by dsimp only; omega) (by (try dsimp only); omega) ⟨rfl, rfl, rfl, rfl, rfl, rfl⟩ (RLe.refl _) (by dsimp only [setAll, List.set_cons_zero, List.set_cons_succ]; rw [e1, List.length_append]; exact qS)
        ·
         refine WS.eff rfl rfl rfl qD (Ef.buildSliceD (enc := encI) (parts := [.tmp 72]) [_] tab_ok rfl rfl rfl rfl rfl rfl rfl rfl qD qD (fun a73 => ?_))
         refine ⟨by first | exact RLe.refl _ | assumption, qS, ?_⟩
         refine' WA.yl 1 rfl qK rfl rfl qD (Yl.load1 tab_ok rfl rfl rfl (fun _ => rfl) ?r41 rfl ?h41) qS qR ?_
         case r41 => apply Rd.add; (exact Rd.blk 1 rfl)
         case h41 => rfl
         refine WA.eff 16 rfl (by kernel_rfl) rfl rfl (by decide) (Ef.appendD 2 0 tab_ok rfl rfl rfl rfl rfl rfl rfl rfl rfl rfl rfl (fun _ _ => rfl) (by simp only [List.length_cons, List.length_nil]; omega) (by simp only [List.length_cons, List.length_nil]; omega) (fun a74 c74 ha74 => ?_))
         refine ⟨by first | exact RLe.refl _ | assumption, qS, ?_⟩
         refine WA.take 17 rfl qK qK qK rfl rfl qD (pureV_ok tab_ok rfl (fun _ => rfl)) qS qR ?_
         refine WA.effN 18 rfl qK rfl rfl (Ef.store 1 tab_ok rfl rfl rfl rfl rfl rfl rfl rfl ?_)
         refine ⟨by first | exact RLe.refl _ | assumption, qS, ?_⟩
         refine WA.done qK ?_
         refine WE.blk _ (WE.nxt (W.region _ (WG.run tab_ok 1 rfl ?_)))
         refine WG.y rfl rfl (by decide) (Yl.sub rfl rfl rfl (fun _ => rfl) (by intro _; constructor <;> (try dsimp only) <;> omega)) ?_
         rw [show (((more + (times - 1) * P) - i : Nat) : Int) - 1 = (((more + (times - 1) * P) - (i + 1) : Nat) : Int) by omega]
         refine WG.run tab_ok 1 rfl (WG.nil ?_)
         refine WE.again ((i + 1, a74, c74)) (by dsimp only; omega) (by (try dsimp only); omega) ⟨rfl, rfl, rfl, rfl, rfl, rfl⟩ (RLe.refl _) (by dsimp only [setAll, List.set_cons_zero, List.set_cons_succ]; rw [e1, List.length_append]; exact qS)
   ·try dsimp only at hc1
    obtain rfl : i = more + (times - 1) * P := by omega
    rw [hkb5]
    refine W.cap 1 rfl ?_
    intro hcp
    rw [List.length_map] at hcp
    refine W.freeze (enc := encI) (xs := fvals F (S + more + P * times)) 1 rfl ?_
    intro R1 hR1 hff
    refine W.exit ?_
    refine WE.then_exit (WE.then_exit (WE.blk_exit (WE.nxt (W.seq ?_))))
    refine W.regionH _ (ES := [.blk b3 [.slice fa (fvals F (S + P)).length fc, .int .i64 (P : Int), .int .i64 I]]) mixed ?_
    refine WA.take 0 rfl qK qK qK rfl rfl qD (pureV_ok tab_ok rfl (fun _ => rfl)) qS qR ?_
    refine' WA.take 1 rfl qK qK qK rfl rfl qD (Yl.load1 tab_ok rfl rfl rfl (fun _ => rfl) ?r42 rfl ?h42) qS qR ?_
    case r42 => apply Rd.add; (exact Rd.blk 0 rfl)
    case h42 => rfl
    refine WA.take 2 rfl qK qK qK rfl rfl qD (pureV_ok tab_ok rfl (fun _ => rfl)) qS qR ?_
    refine WA.take 3 rfl (by kernel_rfl) (by kernel_rfl) (by kernel_rfl) rfl rfl (by decide) (Yl.mul rfl rfl rfl (fun _ => rfl) (by intro _; constructor <;> (try dsimp only) <;> omega)) qS (by first | exact RLe.refl _ | assumption) ?_
    refine WA.take 4 rfl qK qK qK rfl rfl qD (pureV_ok tab_ok rfl (fun _ => rfl)) qS qR ?_
    refine' WA.take 5 rfl qK qK qK rfl rfl qD (Yl.load1 tab_ok rfl rfl rfl (fun _ => rfl) ?r43 rfl ?h43) qS qR ?_
    case r43 => apply Rd.add; (exact Rd.blk 0 rfl)
    case h43 => rfl
    refine WA.take 6 rfl qK qK qK rfl rfl qD (pureV_ok tab_ok rfl (fun _ => rfl)) qS qR ?_
    refine WA.take 7 rfl (by kernel_rfl) (by kernel_rfl) (by kernel_rfl) rfl rfl (by decide) (Yl.mul rfl rfl rfl (fun _ => rfl) (by intro _; constructor <;> (try dsimp only) <;> omega)) qS (by first | exact RLe.refl _ | assumption) ?_
    refine WA.take 8 rfl qK qK qK rfl rfl qD (pureV_ok tab_ok rfl (fun _ => rfl)) qS qR ?_
    refine WA.effN 9 rfl qK rfl rfl (Ef.store 0 tab_ok rfl rfl rfl rfl rfl rfl rfl rfl ?_)
    refine ⟨by first | exact RLe.refl _ | assumption, qS, ?_⟩
    refine WA.take 10 rfl qK qK qK rfl rfl qD (pureV_ok tab_ok rfl (fun _ => rfl)) qS qR ?_
    refine WA.effN 11 rfl qK rfl rfl (Ef.store 0 tab_ok rfl rfl rfl rfl rfl rfl rfl rfl ?_)
    refine ⟨by first | exact RLe.refl _ | assumption, qS, ?_⟩
    refine WA.done qK ?_
    refine WE.nxt (W.seq (W.region _ ?_))
    refine' WG.y rfl rfl qD (Yl.load1 tab_ok rfl rfl rfl (fun _ => rfl) ?r44 rfl ?h44) ?_
    case r44 => (exact Rd.blk 0 rfl)
    case h44 => rfl
    refine WL.efN rfl rfl (Ef.store0 1 tab_ok rfl rfl rfl rfl rfl rfl rfl rfl ?_)
    refine WG.nil (WE.nxt (W.ret ?_))
    refine WE.retF tab_ok [_] rfl ⟨⟨_, _, _, rfl, rfl, rfl, ((by first | exact Rd.blk 0 rfl | exact Rd.blk 1 rfl | exact Rd.blk 2 rfl | exact Rd.blk 3 rfl | exact Rd.blk 4 rfl)), rfl⟩, trivial⟩ ((by first | exact hR1 | exact RLe.refl _)) ?_
    exact ⟨a12, c12, by rw [← hkb4]; rfl, hff, hcp, qS⟩
 ·
  refine W.regionH _ (ES := [.blk b3 [.slice fa (fvals F (S + P)).length fc, .int .i64 (P : Int), .int .i64 I]]) mixed ?_
  refine WA.take 1 rfl qK qK qK rfl rfl qD (pureV_ok tab_ok rfl (fun _ => rfl)) qS qR ?_
  refine' WA.take 2 rfl qK qK qK rfl rfl qD (Yl.load1 tab_ok rfl rfl rfl (fun _ => rfl) ?r45 rfl ?h45) qS qR ?_
  case r45 => apply Rd.add; (exact Rd.blk 0 rfl)
  case h45 => rfl
  refine WA.take 4 rfl qK qK qK rfl rfl qD (pureV_ok tab_ok rfl (fun _ => rfl)) qS qR ?_
  refine' WA.take 5 rfl qK qK qK rfl rfl qD (Yl.load1 tab_ok rfl rfl rfl (fun _ => rfl) ?r46 rfl ?h46) qS qR ?_
  case r46 => apply Rd.add; (exact Rd.blk 0 rfl)
  case h46 => rfl
  refine WA.take 6 rfl qK qK qK rfl rfl qD (pureV_ok tab_ok rfl (fun _ => rfl)) qS qR ?_
  refine' WA.take 7 rfl qK qK qK rfl rfl qD (Yl.load1 tab_ok rfl rfl rfl (fun _ => rfl) ?r47 rfl ?h47) qS qR ?_
  case r47 => apply Rd.add; (exact Rd.blk 0 rfl)
  case h47 => rfl
  refine WA.br2 (i := 0) (j := 9) qK ?_ ?_
  ·
   refine WS.eff rfl rfl rfl qD (Ef.buildSliceD (enc := encI) (parts := []) [] tab_ok rfl rfl rfl rfl rfl rfl rfl rfl qD qD (fun a9 => ?_))
   refine ⟨by first | exact RLe.refl _ | assumption, qS, ?_⟩
   refine WA.br2 (i := 3) (j := 9) qK ?_ ?_
   ·
    refine WS.eff rfl rfl rfl (by decide) (Ef.cloneL (enc := encI) 0 tab_ok rfl rfl rfl rfl rfl rfl rfl rfl rfl rfl ha (fun _ _ => rfl) (by dsimp only; omega) (by omega) (fun a12 c12 ha12 => ?_))
    refine ⟨by first | exact RLe.refl _ | assumption, qS, ?_⟩
    -- build
    refine WA.take 8 rfl qK qK qK rfl rfl qD (Yl.build (parts := [(0, .tmp 12), (1, .tmp 14), (2, .tmp 16)]) tab_ok rfl rfl rfl rfl (fun _ => rfl) rfl rfl) qS qR ?_
    refine WA.eff 9 rfl qK rfl rfl qD (Ef.alloc tab_ok rfl rfl (fun b7 => ?_))
    refine ⟨by first | exact RLe.refl _ | assumption, qS, ?_⟩
    refine WA.effN 10 rfl qK rfl rfl (Ef.store0 0 tab_ok rfl rfl rfl rfl rfl rfl rfl rfl ?_)
    refine ⟨by first | exact RLe.refl _ | assumption, qS, ?_⟩
    refine WA.done qK ?_
    refine WE.cutP (b7, a12, c12) trivial ⟨rfl, rfl, rfl, rfl, rfl, rfl⟩ (RLe.refl _) (by dsimp only; first | exact List.Perm.refl _ | exact List.Perm.swap _ _ _)
   ·
    refine WS.eff rfl rfl rfl qD (Ef.alloc tab_ok rfl rfl (fun b7 => ?_))
    refine ⟨by first | exact RLe.refl _ | assumption, qS, ?_⟩
    refine WA.eff 3 rfl (by kernel_rfl) rfl rfl (by decide) (Ef.cloneL (enc := encI) 1 tab_ok rfl rfl rfl rfl rfl rfl rfl rfl rfl rfl ha (fun _ _ => rfl) (by dsimp only; omega) (by omega) (fun a12 c12 ha12 => ?_))
    refine ⟨by first | exact RLe.refl _ | assumption, qS, ?_⟩
    -- build
    refine WA.take 8 rfl qK qK qK rfl rfl qD (Yl.build (parts := [(0, .tmp 12), (1, .tmp 14), (2, .tmp 16)]) tab_ok rfl rfl rfl rfl (fun _ => rfl) rfl rfl) qS qR ?_
    refine WA.effN 10 rfl qK rfl rfl (Ef.store0 0 tab_ok rfl rfl rfl rfl rfl rfl rfl rfl ?_)
    refine ⟨by first | exact RLe.refl _ | assumption, qS, ?_⟩
    refine WA.done qK ?_
    refine WE.cutP (b7, a12, c12) trivial ⟨rfl, rfl, rfl, rfl, rfl, rfl⟩ (RLe.refl _) (by dsimp only; first | exact List.Perm.refl _ | exact List.Perm.swap _ _ _)
  ·
   refine WS.eff rfl rfl rfl qD (Ef.alloc tab_ok rfl rfl (fun b7 => ?_))
   refine ⟨by first | exact RLe.refl _ | assumption, qS, ?_⟩
   refine WA.eff 0 rfl qK rfl rfl qD (Ef.buildSliceD (enc := encI) (parts := []) [] tab_ok rfl rfl rfl rfl rfl rfl rfl rfl qD qD (fun a9 => ?_))
   refine ⟨by first | exact RLe.refl _ | assumption, qS, ?_⟩
   refine WA.eff 3 rfl (by kernel_rfl) rfl rfl (by decide) (Ef.cloneL (enc := encI) 0 tab_ok rfl rfl rfl rfl rfl rfl rfl rfl rfl rfl ha (fun _ _ => rfl) (by dsimp only; omega) (by omega) (fun a12 c12 ha12 => ?_))
   refine ⟨by first | exact RLe.refl _ | assumption, qS, ?_⟩
   -- build
   refine WA.take 8 rfl qK qK qK rfl rfl qD (Yl.build (parts := [(0, .tmp 12), (1, .tmp 14), (2, .tmp 16)]) tab_ok rfl rfl rfl rfl (fun _ => rfl) rfl rfl) qS qR ?_
   refine WA.effN 10 rfl qK rfl rfl (Ef.store0 1 tab_ok rfl rfl rfl rfl rfl rfl rfl rfl ?_)
   refine ⟨by first | exact RLe.refl _ | assumption, qS, ?_⟩
   refine WA.done qK ?_
   refine WE.cutP (b7, a12, c12) trivial ⟨rfl, rfl, rfl, rfl, rfl, rfl⟩ (RLe.refl _) (by dsimp only; first | exact List.Perm.refl _ | exact List.Perm.swap _ _ _)

theorem LongerV_C {R : Ro} {fa : Option Addr} {fc : Nat} {c : Cv} (hs : SmallC c) (hfin : finB c = true) (h1 : c.vals.length ≤ 20) (h2 : c.per ≤ 4) (h3 : c.inc ≤ 50) (h4 : ∀ x ∈ c.vals, x ≤ 200) (ha : RS R 1 encI fa c.vals) {mi ti : Int} (hm : 0 ≤ mi ∧ mi ≤ 3) (ht : 1 ≤ ti ∧ ti ≤ 2) (w0 : World) (E : List Ent) : K.Fn Try.prog 29 [.agg #[.slice fa c.vals.length fc, .int .i64 c.per, .int .i64 c.inc], .int .i64 mi, .int .i64 ti] w0 R E (fun v R' E' => ∃ (f : Option Addr) (fc : Nat) (cv : Cv), v = .agg #[.slice f cv.vals.length fc, .int .i64 cv.per, .int .i64 cv.inc] ∧ RS R' 1 encI f cv.vals ∧ SmallC cv ∧ finB cv = true ∧ cv.vals.length ≤ fc ∧ E.Sublist E') := by
 obtain ⟨more, rfl⟩ := Int.eq_ofNat_of_zero_le hm.1
 obtain ⟨times, rfl⟩ := Int.eq_ofNat_of_zero_le (show 0 ≤ ti by omega)
 rcases valid_cases hs.valid with ⟨S, P, e, hl, hp, hfc, _⟩ | ⟨_, _, _, _, _, _, _, hf⟩
 ·generalize cvF c = G at e hfc
  have hP := hfc.hP
  have hb : ∀ t, t < S + P → G t ≤ 200 := fun t htl => by
   have := h4 (nth c.vals t) (nth_mem (by omega))
   rw [e, fvals_nth G htl] at this
   exact this
  have hsl := small_longer hfc (by omega) (by omega) (by omega) hb (show more ≤ 3 by omega) (show 1 ≤ times ∧ times ≤ 2 by omega)
  have hfl : finB ⟨fvals G (S + more + P * times), ((P * times : Nat) : Int), c.inc * (times : Int)⟩ = true := by
   unfold finB
   have e0 : P ≤ P * times := by have := Nat.mul_le_mul_left P (show 1 ≤ times by omega); omega
   have e1 : P * times ≤ 2 * P := by have := Nat.mul_le_mul_left P (show times ≤ 2 by omega); omega
   dsimp only
   rw [fvals_len, fvals_nth G (by omega), bne_iff_ne]
   have := hfc.bound (S + more + P * times - 1)
   have := hfc.hn
   unfold INF
   omega
  have ev : c.vals = fvals G (S + P) := congrArg Cv.vals e
  rw [ev] at ha
  rw [ev, hp]
  refine K.Fn.mono (Longer_C hfc ha (more := more) (times := times) qO qO w0 E) ?_
  rintro v R' E' - ⟨f, fc', rfl, hff, hcp, hsub⟩
  exact ⟨f, fc', _, rfl, hff, hsl, hfl, hcp, hsub⟩
 ·rw [hfin] at hf; cases hf

end Go.Proofs.Ytnackbfnmhkodaa
