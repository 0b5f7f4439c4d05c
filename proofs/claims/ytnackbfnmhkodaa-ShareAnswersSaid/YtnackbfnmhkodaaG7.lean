/- ShareAnswers: for every input the law returns true, and the input reads afterwards as it read before. No condition. -/
import Derived.Test.YtnackbfnmhkodaaG6
/- Shares of any curves at any theta. No condition. -/
set_option maxRecDepth 4000
set_option linter.unusedSimpArgs false
set_option linter.unusedVariables false
namespace Go.Proofs.Ytnackbfnmhkodaa
open Go Go.RowKit Go.Proofs.Ytnackbfnmhkodaa.K Go.Proofs.Ytnackbfnmhkodaa.M

def restE (cf cg : Cv) : Cv × Int := if validB cf = true ∧ validB cg = true then (zcv, 2) else (zcv, 1)
theorem normC_err {c : Cv} (h : (normC c).2 ≠ 0) : validB c = false ∧ (normC c).2 = 1 := by
 cases hv : validB c with
 | true => rw [show normC c = (normR c, 0) from if_pos hv] at h; exact absurd rfl h
 | false => exact ⟨rfl, by rw [show normC c = (zcv, 1) from if_neg (by simp [hv])]⟩
theorem normC_ok {c : Cv} (h : (normC c).2 = 0) : validB c = true := by
 cases hv : validB c with
 | true => rfl
 | false => rw [show normC c = (zcv, 1) from if_neg (by simp [hv])] at h; cases h

theorem SRestE_C {R : Ro} {fa : Option Addr} {fc : Nat} {cf : Cv} (ha : RS R 1 encI fa cf.vals) (hla : cf.vals.length ≤ 100000) {ga : Option Addr} {gc : Nat} {cg : Cv} (hb : RS R 1 encI ga cg.vals) (hlb : cg.vals.length ≤ 100000) {k : Int} (he : ¬ (validB cf = true ∧ validB cg = true ∧ 0 ≤ k ∧ k ≤ 1048576)) (w0 : World) (E : List Ent) : K.Fn Try.prog 14 [.agg #[.slice fa cf.vals.length fc, .int .i64 cf.per, .int .i64 cf.inc], .agg #[.slice ga cg.vals.length gc, .int .i64 cg.per, .int .i64 cg.inc], .int .i64 k] w0 R E (fun r R' E' => ∃ (f : Option Addr) (fc : Nat), r = cvV f fc (restE cf cg) ∧ RS R' 1 encI f (restE cf cg).1.vals ∧ E.Sublist E') := by
 refine Fn.enter (n := 154) Try.func14 rfl rfl (Nat.le_of_ble_eq_true rfl) rfl ?_
 refine W.seq (W.region _ ?_)
 refine WL.ef rfl rfl qD (Ef.box rfl rfl (fun b3 => ?_))
 refine WL.ef rfl rfl qD (Ef.box rfl rfl (fun b4 => ?_))
 refine WL.ef rfl rfl qD (Ef.alloc tab_ok rfl rfl (fun b6 => ?_))
 refine WG.run tab_ok 1 rfl (WG.nil (WE.nxt (W.seq (W.region _ ?_))))
 refine' WG.y rfl rfl qD (Yl.load1 tab_ok rfl rfl rfl (fun _ => rfl) ?r1 rfl ?h1) ?_
 case r1 => (exact Rd.blk 2 rfl)
 case h1 => rfl
 refine WL.call en32 rfl rfl qD (CallOp.mkT rfl rfl rfl rfl) (CNormalG_C ha hla w0 _) ?_
 rintro _ R1 _ hR1 ⟨ax1, kx1, rfl, hax1, hsubx1⟩
 refine WL.subE hsubx1 ?_
 unfold cvV
 have hb := hb.mono hR1
 refine WG.run tab_ok 3 rfl ?_
 refine WL.ef rfl rfl qD (Ef.alloc tab_ok rfl rfl (fun b8 => ?_))
 refine WL.efN rfl rfl (Ef.store0 0 tab_ok rfl rfl rfl rfl rfl rfl rfl rfl ?_)
 refine WG.run tab_ok 1 rfl (WG.nil (WE.nxt (W.seq (W.seq (W.region _ (WG.run tab_ok 2 rfl (WG.nil (WE.nxt ?_))))))))
 refine W.condN rfl (fun hc0 => ?_) (fun hc0 => ?_)
 ·try dsimp only at hc0
  obtain ⟨hv, he1⟩ := normC_err hc0
  have hd : restE cf cg = (zcv, 1) := if_neg (fun h => by rw [hv] at h; exact absurd h.1 (by decide))
  refine W.seq (W.region _ ?_)
  -- build
  refine WG.y rfl rfl qD (Yl.build (parts := []) tab_ok rfl rfl rfl rfl (fun _ => rfl) rfl rfl) ?_
  refine WG.run tab_ok 1 rfl ?_
  refine WL.efN rfl rfl (Ef.store0 1 tab_ok rfl rfl rfl rfl rfl rfl rfl rfl ?_)
  refine WG.run tab_ok 1 rfl (WG.nil (WE.nxt (W.ret (WE.then_ret ?_))))
  refine WE.retF tab_ok [_, _] rfl ⟨⟨_, _, _, rfl, rfl, rfl, ((by first | exact Rd.blk 0 rfl | exact Rd.blk 1 rfl | exact Rd.blk 2 rfl | exact Rd.blk 3 rfl | exact Rd.blk 4 rfl | exact Rd.blk 5 rfl)), rfl⟩, rfl, trivial⟩ ((by first | exact hR1 | exact hR1.trans hR2)) ?_
  exact ⟨none, 0, by rw [hd, he1]; rfl, by rw [hd]; exact rs_nil, qS⟩
 ·try dsimp only at hc0
  have hv1 := normC_ok hc0
  refine W.skip (WE.nxt (W.seq (W.region _ ?_)))
  refine' WG.y rfl rfl qD (Yl.load1 tab_ok rfl rfl rfl (fun _ => rfl) ?r2 rfl ?h2) ?_
  case r2 => (exact Rd.blk 2 rfl)
  case h2 => rfl
  refine WL.call en32 rfl rfl qD (CallOp.mkT rfl rfl rfl rfl) (CNormalG_C hb hlb w0 _) ?_
  rintro _ R2 _ hR2 ⟨ax2, kx2, rfl, hax2, hsubx2⟩
  refine WL.subE hsubx2 ?_
  unfold cvV
  refine WG.run tab_ok 3 rfl ?_
  refine WL.ef rfl rfl qD (Ef.alloc tab_ok rfl rfl (fun b10 => ?_))
  refine WL.efN rfl rfl (Ef.store0 0 tab_ok rfl rfl rfl rfl rfl rfl rfl rfl ?_)
  refine WG.run tab_ok 1 rfl (WG.nil (WE.nxt (W.seq (W.seq (W.region _ (WG.run tab_ok 2 rfl (WG.nil (WE.nxt ?_))))))))
  refine W.condN rfl (fun hc1 => ?_) (fun hc1 => ?_)
  ·try dsimp only at hc1
   obtain ⟨hv, he1⟩ := normC_err hc1
   have hd : restE cf cg = (zcv, 1) := if_neg (fun h => by rw [hv] at h; exact absurd h.2 (by decide))
   refine W.seq (W.region _ ?_)
   -- build
   refine WG.y rfl rfl qD (Yl.build (parts := []) tab_ok rfl rfl rfl rfl (fun _ => rfl) rfl rfl) ?_
   refine WG.run tab_ok 1 rfl ?_
   refine WL.efN rfl rfl (Ef.store0 2 tab_ok rfl rfl rfl rfl rfl rfl rfl rfl ?_)
   refine WG.run tab_ok 1 rfl (WG.nil (WE.nxt (W.ret (WE.then_ret ?_))))
   refine WE.retF tab_ok [_, _] rfl ⟨⟨_, _, _, rfl, rfl, rfl, ((by first | exact Rd.blk 0 rfl | exact Rd.blk 1 rfl | exact Rd.blk 2 rfl | exact Rd.blk 3 rfl | exact Rd.blk 4 rfl | exact Rd.blk 5 rfl)), rfl⟩, rfl, trivial⟩ ((by first | exact hR1 | exact hR1.trans hR2)) ?_
   exact ⟨none, 0, by rw [hd, he1]; rfl, by rw [hd]; exact rs_nil, qS⟩
  ·try dsimp only at hc1
   have hv2 := normC_ok hc1
   refine W.skip (WE.nxt (W.seq (W.seq (W.region _ (WG.run tab_ok 3 rfl ?_)))))
   refine WG.y rfl rfl qD (pureV_ok tab_ok rfl qE) ?_
   refine WG.y rfl rfl qD (pureV_ok tab_ok rfl qE) ?_
   refine WG.y rfl rfl (by decide) (Yl.por rfl rfl rfl (fun _ => rfl) (by intro h1 h2; simp_all <;> omega)) ?_
   refine WG.nil (WE.nxt ?_)
   refine W.cond rfl (fun hc2 => ?_) (fun hc2 => ?_)
   ·try simp only [kk] at hc2
    have hd : restE cf cg = (zcv, 2) := if_pos ⟨hv1, hv2⟩
    refine W.seq (W.region _ ?_)
    -- build
    refine WG.y rfl rfl qD (Yl.build (parts := []) tab_ok rfl rfl rfl rfl (fun _ => rfl) rfl rfl) ?_
    refine WL.efN rfl rfl (Ef.store0 2 tab_ok rfl rfl rfl rfl rfl rfl rfl rfl ?_)
    refine WG.run tab_ok 1 rfl (WG.nil (WE.nxt (W.ret (WE.then_ret ?_))))
    refine WE.retF tab_ok [_, _] rfl ⟨⟨_, _, _, rfl, rfl, rfl, ((by first | exact Rd.blk 0 rfl | exact Rd.blk 1 rfl | exact Rd.blk 2 rfl | exact Rd.blk 3 rfl | exact Rd.blk 4 rfl | exact Rd.blk 5 rfl)), rfl⟩, rfl, trivial⟩ ((by first | exact hR1 | exact hR1.trans hR2)) ?_
    exact ⟨none, 0, by rw [hd]; rfl, by rw [hd]; exact rs_nil, qS⟩
   ·try simp only [kk] at hc2
    exact absurd ⟨hv1, hv2, by omega, by omega⟩ he

theorem RRestE_C {R : Ro} {fa : Option Addr} {fc : Nat} {cf : Cv} (ha : RS R 1 encI fa cf.vals) (hla : cf.vals.length ≤ 100000) {ga : Option Addr} {gc : Nat} {cg : Cv} (hb : RS R 1 encI ga cg.vals) (hlb : cg.vals.length ≤ 100000) {k : Int} (he : ¬ (validB cf = true ∧ validB cg = true ∧ 0 ≤ k ∧ k ≤ 1048576)) (w0 : World) (E : List Ent) : K.Fn Try.prog 15 [.agg #[.slice fa cf.vals.length fc, .int .i64 cf.per, .int .i64 cf.inc], .agg #[.slice ga cg.vals.length gc, .int .i64 cg.per, .int .i64 cg.inc], .int .i64 k] w0 R E (fun r R' E' => ∃ (f : Option Addr) (fc : Nat), r = cvV f fc (restE cf cg) ∧ RS R' 1 encI f (restE cf cg).1.vals ∧ (restE cf cg).1.vals.length ≤ fc ∧ E.Sublist E') := by
 refine Fn.enter (n := 166) Try.func15 rfl rfl (Nat.le_of_ble_eq_true rfl) rfl ?_
 refine W.seq (W.region _ ?_)
 refine WL.ef rfl rfl qD (Ef.box rfl rfl (fun b3 => ?_))
 refine WL.ef rfl rfl qD (Ef.box rfl rfl (fun b4 => ?_))
 refine WL.ef rfl rfl qD (Ef.alloc tab_ok rfl rfl (fun b6 => ?_))
 refine WG.run tab_ok 1 rfl (WG.nil (WE.nxt (W.seq (W.seq (W.region _ ?_)))))
 refine' WG.y rfl rfl qD (Yl.load1 tab_ok rfl rfl rfl (fun _ => rfl) ?r1 rfl ?h1) ?_
 case r1 => (exact Rd.blk 2 rfl)
 case h1 => rfl
 refine WG.callV (v := .bool (validB cf)) en27 rfl rfl qD (CallOp.mk' rfl rfl rfl rfl) (fun _ => rfl) (fun hg => ValidA_V (c := fc) ha) ?_
 refine WG.run tab_ok 2 rfl ?_
 refine' WG.y rfl rfl qD (Yl.loadG tab_ok rfl rfl rfl qE ?r2 rfl ?h2 ?g2) ?_
 case r2 => (exact Rd.blkC 1 rfl)
 case h2 => rfl
 case g2 => exact fun _ => trivial
 refine WG.callV (v := .bool (validB cg)) en27 rfl rfl qD (CallOp.mk' rfl rfl rfl rfl) qE (fun hg => ValidA_V (c := gc) hb) ?_
 refine WG.y rfl rfl qD (pureV_ok tab_ok rfl qE) ?_
 refine WG.y rfl rfl (by decide) (Yl.por rfl rfl rfl (fun _ => rfl) (by intro h1 h2; simp_all <;> omega)) ?_
 refine WG.nil (WE.nxt ?_)
 refine W.cond rfl (fun hc0 => ?_) (fun hc0 => ?_)
 ·try simp only [kk] at hc0
  have hd : restE cf cg = (zcv, 1) := if_neg (fun h => by simp [h.1, h.2] at hc0)
  refine W.seq (W.region _ ?_)
  -- build
  refine WG.y rfl rfl qD (Yl.build (parts := []) tab_ok rfl rfl rfl rfl (fun _ => rfl) rfl rfl) ?_
  refine WL.efN rfl rfl (Ef.store0 0 tab_ok rfl rfl rfl rfl rfl rfl rfl rfl ?_)
  refine WG.run tab_ok 1 rfl (WG.nil (WE.nxt (W.ret (WE.then_ret ?_))))
  refine WE.retF tab_ok [_, _] rfl ⟨⟨_, _, _, rfl, rfl, rfl, ((by first | exact Rd.blk 0 rfl | exact Rd.blk 1 rfl | exact Rd.blk 2 rfl | exact Rd.blk 3 rfl | exact Rd.blk 4 rfl | exact Rd.blk 5 rfl)), rfl⟩, rfl, trivial⟩ (RLe.refl _) ?_
  exact ⟨none, 0, by rw [hd]; rfl, by rw [hd]; exact rs_nil, by rw [hd]; exact Nat.le_refl _, qS⟩
 ·try simp only [kk] at hc0
  have hv1 : validB cf = true := by
   cases h : validB cf with
   | true => rfl
   | false => simp [h] at hc0
  have hv2 : validB cg = true := by
   cases h : validB cg with
   | true => rfl
   | false => simp [h] at hc0
  refine W.skip (WE.nxt (W.seq (W.seq (W.region _ (WG.run tab_ok 3 rfl ?_)))))
  refine WG.y rfl rfl qD (pureV_ok tab_ok rfl qE) ?_
  refine WG.y rfl rfl qD (pureV_ok tab_ok rfl qE) ?_
  refine WG.y rfl rfl (by decide) (Yl.por rfl rfl rfl (fun _ => rfl) (by intro h1 h2; simp_all <;> omega)) ?_
  refine WG.nil (WE.nxt ?_)
  refine W.cond rfl (fun hc1 => ?_) (fun hc1 => ?_)
  ·try simp only [kk] at hc1
   have hd : restE cf cg = (zcv, 2) := if_pos ⟨hv1, hv2⟩
   refine W.seq (W.region _ ?_)
   -- build
   refine WG.y rfl rfl qD (Yl.build (parts := []) tab_ok rfl rfl rfl rfl (fun _ => rfl) rfl rfl) ?_
   refine WL.efN rfl rfl (Ef.store0 0 tab_ok rfl rfl rfl rfl rfl rfl rfl rfl ?_)
   refine WG.run tab_ok 1 rfl (WG.nil (WE.nxt (W.ret (WE.then_ret ?_))))
   refine WE.retF tab_ok [_, _] rfl ⟨⟨_, _, _, rfl, rfl, rfl, ((by first | exact Rd.blk 0 rfl | exact Rd.blk 1 rfl | exact Rd.blk 2 rfl | exact Rd.blk 3 rfl | exact Rd.blk 4 rfl | exact Rd.blk 5 rfl)), rfl⟩, rfl, trivial⟩ (RLe.refl _) ?_
   exact ⟨none, 0, by rw [hd]; rfl, by rw [hd]; exact rs_nil, by rw [hd]; exact Nat.le_refl _, qS⟩
  ·try simp only [kk] at hc1
   exact absurd ⟨hv1, hv2, by omega, by omega⟩ he

def leastE (ca cb co : Cv) : Int := if validB ca = true ∧ validB cb = true ∧ validB co = true then 2 else 1

theorem SLeastE_C {R : Ro} {fa : Option Addr} {fc : Nat} {ca : Cv} (ha : RS R 1 encI fa ca.vals) (hla : ca.vals.length ≤ 100000) {ga : Option Addr} {gc : Nat} {cb : Cv} (hb : RS R 1 encI ga cb.vals) (hlb : cb.vals.length ≤ 100000) {oa : Option Addr} {oc : Nat} {co : Cv} (ho : RS R 1 encI oa co.vals) (hlo : co.vals.length ≤ 100000) {most : Int} (he : ¬ (validB ca = true ∧ validB cb = true ∧ validB co = true ∧ 0 ≤ most ∧ most ≤ 50)) (w0 : World) (E : List Ent) : K.Fn Try.prog 17 [.agg #[.slice fa ca.vals.length fc, .int .i64 ca.per, .int .i64 ca.inc], .agg #[.slice ga cb.vals.length gc, .int .i64 cb.per, .int .i64 cb.inc], .agg #[.slice oa co.vals.length oc, .int .i64 co.per, .int .i64 co.inc], .int .i64 most] w0 R E (fun r R' E' => r = .tuple #[.int .i64 0, .agg #[.bool false, .int .i64 0, .int .i64 0], .int .i64 (leastE ca cb co)] ∧ E.Sublist E') := by
 refine Fn.enter (n := 87) Try.func17 rfl rfl (Nat.le_of_ble_eq_true rfl) rfl ?_
 refine W.seq (W.region _ ?_)
 refine WL.ef rfl rfl qD (Ef.box rfl rfl (fun b4 => ?_))
 refine WL.ef rfl rfl qD (Ef.box rfl rfl (fun b5 => ?_))
 refine WL.ef rfl rfl qD (Ef.box rfl rfl (fun b6 => ?_))
 refine WG.run tab_ok 1 rfl ?_
 refine WL.ef rfl rfl qD (Ef.alloc tab_ok rfl rfl (fun b9 => ?_))
 refine WG.run tab_ok 1 rfl (WG.nil (WE.nxt (W.seq (W.seq (W.region _ ?_)))))
 refine' WG.y rfl rfl qD (Yl.load1 tab_ok rfl rfl rfl (fun _ => rfl) ?r1 rfl ?h1) ?_
 case r1 => (exact Rd.blk 3 rfl)
 case h1 => rfl
 refine WG.callV (v := .bool (validB ca)) en48 rfl rfl qD (CallOp.mk' rfl rfl rfl rfl) (fun _ => rfl) (fun hg => CValidG_V (fc := fc) ha hla) ?_
 refine WG.run tab_ok 2 rfl ?_
 refine' WG.y rfl rfl qD (Yl.loadG tab_ok rfl rfl rfl qE ?r2 rfl ?h2 ?g2) ?_
 case r2 => (exact Rd.blkC 2 rfl)
 case h2 => rfl
 case g2 => exact fun _ => trivial
 refine WG.callV (v := .bool (validB cb)) en48 rfl rfl qD (CallOp.mk' rfl rfl rfl rfl) qE (fun hg => CValidG_V (fc := gc) hb hlb) ?_
 refine WG.y rfl rfl qD (pureV_ok tab_ok rfl qE) ?_
 refine WG.y rfl rfl (by decide) (Yl.por rfl rfl rfl (fun _ => rfl) (by intro h1 h2; simp_all <;> omega)) ?_
 refine WG.run tab_ok 1 rfl ?_
 refine' WG.y rfl rfl qD (Yl.loadG tab_ok rfl rfl rfl qE ?r3 rfl ?h3 ?g3) ?_
 case r3 => (exact Rd.blkC 1 rfl)
 case h3 => rfl
 case g3 => exact fun _ => trivial
 refine WG.callV (v := .bool (validB co)) en48 rfl rfl qD (CallOp.mk' rfl rfl rfl rfl) qE (fun hg => CValidG_V (fc := oc) ho hlo) ?_
 refine WG.y rfl rfl qD (pureV_ok tab_ok rfl qE) ?_
 refine WG.y rfl rfl (by decide) (Yl.por rfl rfl rfl (fun _ => rfl) (by intro h1 h2; simp_all <;> omega)) ?_
 refine WG.nil (WE.nxt ?_)
 refine W.cond rfl (fun hc0 => ?_) (fun hc0 => ?_)
 ·try simp only [kk] at hc0
  have hd : leastE ca cb co = 1 := if_neg (fun h => by simp [h.1, h.2.1, h.2.2] at hc0)
  refine W.seq (W.region _ ?_)
  -- build
  refine WG.y rfl rfl qD (Yl.build (parts := []) tab_ok rfl rfl rfl rfl (fun _ => rfl) rfl rfl) ?_
  refine WG.run tab_ok 1 rfl ?_
  refine WL.efN rfl rfl (Ef.store0 0 tab_ok rfl rfl rfl rfl rfl rfl rfl rfl ?_)
  refine WG.run tab_ok 1 rfl (WG.nil (WE.nxt (W.ret (WE.then_ret ?_))))
  refine WE.retF tab_ok [_, _, _] rfl ⟨rfl, ⟨_, _, _, rfl, rfl, rfl, ((by first | exact Rd.blk 0 rfl | exact Rd.blk 1 rfl | exact Rd.blk 2 rfl | exact Rd.blk 3 rfl | exact Rd.blk 4 rfl | exact Rd.blk 5 rfl)), rfl⟩, rfl, trivial⟩ (RLe.refl _) ?_
  exact ⟨by rw [hd]; rfl, qS⟩
 ·try simp only [kk] at hc0
  have hv : validB ca = true ∧ validB cb = true ∧ validB co = true := by
   cases h1 : validB ca with
   | false => simp [h1] at hc0
   | true =>
    cases h2 : validB cb with
    | false => simp [h1, h2] at hc0
    | true =>
     cases h3 : validB co with
     | false => simp [h1, h2, h3] at hc0
     | true => exact ⟨rfl, rfl, rfl⟩
  refine W.skip (WE.nxt (W.seq (W.seq (W.region _ (WG.run tab_ok 3 rfl ?_)))))
  refine WG.y rfl rfl qD (pureV_ok tab_ok rfl qE) ?_
  refine WG.y rfl rfl qD (pureV_ok tab_ok rfl qE) ?_
  refine WG.y rfl rfl (by decide) (Yl.por rfl rfl rfl (fun _ => rfl) (by intro h1 h2; simp_all <;> omega)) ?_
  refine WG.nil (WE.nxt ?_)
  refine W.cond rfl (fun hc1 => ?_) (fun hc1 => ?_)
  ·try simp only [kk] at hc1
   have hd : leastE ca cb co = 2 := if_pos hv
   refine W.seq (W.region _ ?_)
   -- build
   refine WG.y rfl rfl qD (Yl.build (parts := []) tab_ok rfl rfl rfl rfl (fun _ => rfl) rfl rfl) ?_
   refine WG.run tab_ok 1 rfl ?_
   refine WL.efN rfl rfl (Ef.store0 0 tab_ok rfl rfl rfl rfl rfl rfl rfl rfl ?_)
   refine WG.run tab_ok 1 rfl (WG.nil (WE.nxt (W.ret (WE.then_ret ?_))))
   refine WE.retF tab_ok [_, _, _] rfl ⟨rfl, ⟨_, _, _, rfl, rfl, rfl, ((by first | exact Rd.blk 0 rfl | exact Rd.blk 1 rfl | exact Rd.blk 2 rfl | exact Rd.blk 3 rfl | exact Rd.blk 4 rfl | exact Rd.blk 5 rfl)), rfl⟩, rfl, trivial⟩ (RLe.refl _) ?_
   exact ⟨by rw [hd]; rfl, qS⟩
  ·try simp only [kk] at hc1
   exact absurd ⟨hv.1, hv.2.1, hv.2.2, by omega, by omega⟩ he

theorem RLeastE_C {R : Ro} {fa : Option Addr} {fc : Nat} {ca : Cv} (ha : RS R 1 encI fa ca.vals) (hla : ca.vals.length ≤ 100000) {ga : Option Addr} {gc : Nat} {cb : Cv} (hb : RS R 1 encI ga cb.vals) (hlb : cb.vals.length ≤ 100000) {oa : Option Addr} {oc : Nat} {co : Cv} (ho : RS R 1 encI oa co.vals) (hlo : co.vals.length ≤ 100000) {most : Int} (he : ¬ (validB ca = true ∧ validB cb = true ∧ validB co = true ∧ 0 ≤ most ∧ most ≤ 50)) (w0 : World) (E : List Ent) : K.Fn Try.prog 18 [.agg #[.slice fa ca.vals.length fc, .int .i64 ca.per, .int .i64 ca.inc], .agg #[.slice ga cb.vals.length gc, .int .i64 cb.per, .int .i64 cb.inc], .agg #[.slice oa co.vals.length oc, .int .i64 co.per, .int .i64 co.inc], .int .i64 most] w0 R E (fun r R' E' => r = .tuple #[.int .i64 0, .agg #[.bool false, .int .i64 0, .int .i64 0], .int .i64 (leastE ca cb co)] ∧ E.Sublist E') := by
 refine Fn.enter (n := 96) Try.func18 rfl rfl (Nat.le_of_ble_eq_true rfl) rfl ?_
 refine W.seq (W.region _ ?_)
 refine WL.ef rfl rfl qD (Ef.box rfl rfl (fun b4 => ?_))
 refine WL.ef rfl rfl qD (Ef.box rfl rfl (fun b5 => ?_))
 refine WL.ef rfl rfl qD (Ef.box rfl rfl (fun b6 => ?_))
 refine WG.run tab_ok 1 rfl ?_
 refine WL.ef rfl rfl qD (Ef.alloc tab_ok rfl rfl (fun b9 => ?_))
 refine WG.run tab_ok 1 rfl (WG.nil (WE.nxt (W.seq (W.seq (W.region _ ?_)))))
 refine' WG.y rfl rfl qD (Yl.load1 tab_ok rfl rfl rfl (fun _ => rfl) ?r1 rfl ?h1) ?_
 case r1 => (exact Rd.blk 3 rfl)
 case h1 => rfl
 refine WG.callV (v := .bool (validB ca)) en27 rfl rfl qD (CallOp.mk' rfl rfl rfl rfl) (fun _ => rfl) (fun hg => ValidA_V (c := fc) ha) ?_
 refine WG.run tab_ok 2 rfl ?_
 refine' WG.y rfl rfl qD (Yl.loadG tab_ok rfl rfl rfl qE ?r2 rfl ?h2 ?g2) ?_
 case r2 => (exact Rd.blkC 2 rfl)
 case h2 => rfl
 case g2 => exact fun _ => trivial
 refine WG.callV (v := .bool (validB cb)) en27 rfl rfl qD (CallOp.mk' rfl rfl rfl rfl) qE (fun hg => ValidA_V (c := gc) hb) ?_
 refine WG.y rfl rfl qD (pureV_ok tab_ok rfl qE) ?_
 refine WG.y rfl rfl (by decide) (Yl.por rfl rfl rfl (fun _ => rfl) (by intro h1 h2; simp_all <;> omega)) ?_
 refine WG.run tab_ok 1 rfl ?_
 refine' WG.y rfl rfl qD (Yl.loadG tab_ok rfl rfl rfl qE ?r3 rfl ?h3 ?g3) ?_
 case r3 => (exact Rd.blkC 1 rfl)
 case h3 => rfl
 case g3 => exact fun _ => trivial
 refine WG.callV (v := .bool (validB co)) en27 rfl rfl qD (CallOp.mk' rfl rfl rfl rfl) qE (fun hg => ValidA_V (c := oc) ho) ?_
 refine WG.y rfl rfl qD (pureV_ok tab_ok rfl qE) ?_
 refine WG.y rfl rfl (by decide) (Yl.por rfl rfl rfl (fun _ => rfl) (by intro h1 h2; simp_all <;> omega)) ?_
 refine WG.nil (WE.nxt ?_)
 refine W.cond rfl (fun hc0 => ?_) (fun hc0 => ?_)
 ·try simp only [kk] at hc0
  have hd : leastE ca cb co = 1 := if_neg (fun h => by simp [h.1, h.2.1, h.2.2] at hc0)
  refine W.seq (W.region _ ?_)
  -- build
  refine WG.y rfl rfl qD (Yl.build (parts := []) tab_ok rfl rfl rfl rfl (fun _ => rfl) rfl rfl) ?_
  refine WG.run tab_ok 1 rfl ?_
  refine WL.efN rfl rfl (Ef.store0 0 tab_ok rfl rfl rfl rfl rfl rfl rfl rfl ?_)
  refine WG.run tab_ok 1 rfl (WG.nil (WE.nxt (W.ret (WE.then_ret ?_))))
  refine WE.retF tab_ok [_, _, _] rfl ⟨rfl, ⟨_, _, _, rfl, rfl, rfl, ((by first | exact Rd.blk 0 rfl | exact Rd.blk 1 rfl | exact Rd.blk 2 rfl | exact Rd.blk 3 rfl | exact Rd.blk 4 rfl | exact Rd.blk 5 rfl)), rfl⟩, rfl, trivial⟩ (RLe.refl _) ?_
  exact ⟨by rw [hd]; rfl, qS⟩
 ·try simp only [kk] at hc0
  have hv : validB ca = true ∧ validB cb = true ∧ validB co = true := by
   cases h1 : validB ca with
   | false => simp [h1] at hc0
   | true =>
    cases h2 : validB cb with
    | false => simp [h1, h2] at hc0
    | true =>
     cases h3 : validB co with
     | false => simp [h1, h2, h3] at hc0
     | true => exact ⟨rfl, rfl, rfl⟩
  refine W.skip (WE.nxt (W.seq (W.seq (W.region _ (WG.run tab_ok 3 rfl ?_)))))
  refine WG.y rfl rfl qD (pureV_ok tab_ok rfl qE) ?_
  refine WG.y rfl rfl qD (pureV_ok tab_ok rfl qE) ?_
  refine WG.y rfl rfl (by decide) (Yl.por rfl rfl rfl (fun _ => rfl) (by intro h1 h2; simp_all <;> omega)) ?_
  refine WG.nil (WE.nxt ?_)
  refine W.cond rfl (fun hc1 => ?_) (fun hc1 => ?_)
  ·try simp only [kk] at hc1
   have hd : leastE ca cb co = 2 := if_pos hv
   refine W.seq (W.region _ ?_)
   -- build
   refine WG.y rfl rfl qD (Yl.build (parts := []) tab_ok rfl rfl rfl rfl (fun _ => rfl) rfl rfl) ?_
   refine WG.run tab_ok 1 rfl ?_
   refine WL.efN rfl rfl (Ef.store0 0 tab_ok rfl rfl rfl rfl rfl rfl rfl rfl ?_)
   refine WG.run tab_ok 1 rfl (WG.nil (WE.nxt (W.ret (WE.then_ret ?_))))
   refine WE.retF tab_ok [_, _, _] rfl ⟨rfl, ⟨_, _, _, rfl, rfl, rfl, ((by first | exact Rd.blk 0 rfl | exact Rd.blk 1 rfl | exact Rd.blk 2 rfl | exact Rd.blk 3 rfl | exact Rd.blk 4 rfl | exact Rd.blk 5 rfl)), rfl⟩, rfl, trivial⟩ (RLe.refl _) ?_
   exact ⟨by rw [hd]; rfl, qS⟩
  ·try simp only [kk] at hc1
   exact absurd ⟨hv.1, hv.2.1, hv.2.2, by omega, by omega⟩ he

def restA (cf cg : Cv) (k : Int) : Cv × Int := if validB cf = true ∧ validB cg = true ∧ 0 ≤ k ∧ k ≤ 1048576 then shareN (normR cf) (normR cg) k.toNat else restE cf cg
theorem SRestA_C {R : Ro} {fa : Option Addr} {fc : Nat} {cf : Cv} (ha : RS R 1 encI fa cf.vals) (hla : cf.vals.length ≤ 100000) {ga : Option Addr} {gc : Nat} {cg : Cv} (hb : RS R 1 encI ga cg.vals) (hlb : cg.vals.length ≤ 100000) (k : Int) (w0 : World) (E : List Ent) : K.Fn Try.prog 14 [.agg #[.slice fa cf.vals.length fc, .int .i64 cf.per, .int .i64 cf.inc], .agg #[.slice ga cg.vals.length gc, .int .i64 cg.per, .int .i64 cg.inc], .int .i64 k] w0 R E (fun r R' E' => ∃ (f : Option Addr) (fc : Nat), r = cvV f fc (restA cf cg k) ∧ RS R' 1 encI f (restA cf cg k).1.vals ∧ E.Sublist E') := by
 by_cases h : validB cf = true ∧ validB cg = true ∧ 0 ≤ k ∧ k ≤ 1048576
 ·rw [show restA cf cg k = shareN (normR cf) (normR cg) k.toNat from if_pos h]
  have h2 := SRestG_C (fc := fc) (gc := gc) (th := k.toNat) h.1 ha h.2.1 hb (by omega) w0 E
  rw [Int.toNat_of_nonneg h.2.2.1] at h2
  exact h2
 ·rw [show restA cf cg k = restE cf cg from if_neg h]
  exact SRestE_C ha hla hb hlb h w0 E
theorem RRestA_C {R : Ro} {fa : Option Addr} {fc : Nat} {cf : Cv} (ha : RS R 1 encI fa cf.vals) (hla : cf.vals.length ≤ 100000) (hca : cf.vals.length ≤ fc) {ga : Option Addr} {gc : Nat} {cg : Cv} (hb : RS R 1 encI ga cg.vals) (hlb : cg.vals.length ≤ 100000) (hcb : cg.vals.length ≤ gc) (k : Int) (w0 : World) (E : List Ent) : K.Fn Try.prog 15 [.agg #[.slice fa cf.vals.length fc, .int .i64 cf.per, .int .i64 cf.inc], .agg #[.slice ga cg.vals.length gc, .int .i64 cg.per, .int .i64 cg.inc], .int .i64 k] w0 R E (fun r R' E' => ∃ (f : Option Addr) (fc : Nat), r = cvV f fc (restA cf cg k) ∧ RS R' 1 encI f (restA cf cg k).1.vals ∧ (restA cf cg k).1.vals.length ≤ fc ∧ E.Sublist E') := by
 by_cases h : validB cf = true ∧ validB cg = true ∧ 0 ≤ k ∧ k ≤ 1048576
 ·rw [show restA cf cg k = shareN (normR cf) (normR cg) k.toNat from if_pos h, share_ref (norm_nrm h.1).valid (norm_nrm h.2.1).valid]
  have h2 := Rest17K_C (fc := fc) (gc := gc) (th := k.toNat) h.1 ha hca h.2.1 hb hcb (by omega) w0 E
  rw [Int.toNat_of_nonneg h.2.2.1] at h2
  exact h2
 ·rw [show restA cf cg k = restE cf cg from if_neg h]
  exact RRestE_C ha hla hb hlb h w0 E

def leastA (ca cb co : Cv) (most : Int) : (Int × Bool × Int × Int) × Int :=
 if validB ca = true ∧ validB cb = true ∧ validB co = true ∧ 0 ≤ most ∧ most ≤ 50 then outD (leastGo (normR ca) (normR cb) (normR co) (most.toNat + 1) 0 none) else ((0, false, 0, 0), leastE ca cb co)
theorem SLeastA_C {R : Ro} {fa : Option Addr} {fc : Nat} {ca : Cv} (ha : RS R 1 encI fa ca.vals) (hla : ca.vals.length ≤ 100000) {ga : Option Addr} {gc : Nat} {cb : Cv} (hb : RS R 1 encI ga cb.vals) (hlb : cb.vals.length ≤ 100000) {oa : Option Addr} {oc : Nat} {co : Cv} (ho : RS R 1 encI oa co.vals) (hlo : co.vals.length ≤ 100000) (most : Int) (w0 : World) (E : List Ent) : K.Fn Try.prog 17 [.agg #[.slice fa ca.vals.length fc, .int .i64 ca.per, .int .i64 ca.inc], .agg #[.slice ga cb.vals.length gc, .int .i64 cb.per, .int .i64 cb.inc], .agg #[.slice oa co.vals.length oc, .int .i64 co.per, .int .i64 co.inc], .int .i64 most] w0 R E (fun r R' E' => r = .tuple #[.int .i64 (leastA ca cb co most).1.1, .agg #[.bool (leastA ca cb co most).1.2.1, .int .i64 (leastA ca cb co most).1.2.2.1, .int .i64 (leastA ca cb co most).1.2.2.2], .int .i64 (leastA ca cb co most).2] ∧ E.Sublist E') := by
 by_cases h : validB ca = true ∧ validB cb = true ∧ validB co = true ∧ 0 ≤ most ∧ most ≤ 50
 ·rw [show leastA ca cb co most = outD (leastGo (normR ca) (normR cb) (normR co) (most.toNat + 1) 0 none) from if_pos h]
  have h2 := SLeastG_C (fc := fc) (gc := gc) (oc := oc) (most := most.toNat) h.1 ha h.2.1 hb h.2.2.1 ho (by omega) w0 E
  rw [Int.toNat_of_nonneg h.2.2.2.1] at h2
  exact h2
 ·rw [show leastA ca cb co most = ((0, false, 0, 0), leastE ca cb co) from if_neg h]
  exact SLeastE_C ha hla hb hlb ho hlo h w0 E
theorem RLeastA_C {R : Ro} {fa : Option Addr} {fc : Nat} {ca : Cv} (ha : RS R 1 encI fa ca.vals) (hla : ca.vals.length ≤ 100000) (hca : ca.vals.length ≤ fc) {ga : Option Addr} {gc : Nat} {cb : Cv} (hb : RS R 1 encI ga cb.vals) (hlb : cb.vals.length ≤ 100000) (hcb : cb.vals.length ≤ gc) {oa : Option Addr} {oc : Nat} {co : Cv} (ho : RS R 1 encI oa co.vals) (hlo : co.vals.length ≤ 100000) (hco : co.vals.length ≤ oc) (most : Int) (w0 : World) (E : List Ent) : K.Fn Try.prog 18 [.agg #[.slice fa ca.vals.length fc, .int .i64 ca.per, .int .i64 ca.inc], .agg #[.slice ga cb.vals.length gc, .int .i64 cb.per, .int .i64 cb.inc], .agg #[.slice oa co.vals.length oc, .int .i64 co.per, .int .i64 co.inc], .int .i64 most] w0 R E (fun r R' E' => r = .tuple #[.int .i64 (leastA ca cb co most).1.1, .agg #[.bool (leastA ca cb co most).1.2.1, .int .i64 (leastA ca cb co most).1.2.2.1, .int .i64 (leastA ca cb co most).1.2.2.2], .int .i64 (leastA ca cb co most).2] ∧ E.Sublist E') := by
 by_cases h : validB ca = true ∧ validB cb = true ∧ validB co = true ∧ 0 ≤ most ∧ most ≤ 50
 ·rw [show leastA ca cb co most = outD (leastGo (normR ca) (normR cb) (normR co) (most.toNat + 1) 0 none) from if_pos h]
  have h2 := RLeast17_C (fc := fc) (gc := gc) (oc := oc) (most := most.toNat) h.1 ha hca h.2.1 hb hcb h.2.2.1 ho hco (by omega) w0 E
  rw [Int.toNat_of_nonneg h.2.2.2.1] at h2
  exact h2
 ·rw [show leastA ca cb co most = ((0, false, 0, 0), leastE ca cb co) from if_neg h]
  exact RLeastE_C ha hla hb hlb ho hlo h w0 E

end Go.Proofs.Ytnackbfnmhkodaa

/- The answers about shares. No condition. -/
set_option maxRecDepth 4000
set_option linter.unusedSimpArgs false
set_option linter.unusedVariables false
namespace Go.Proofs.Ytnackbfnmhkodaa
open Go Go.RowKit Go.Proofs.Ytnackbfnmhkodaa.K Go.Proofs.Ytnackbfnmhkodaa.M

theorem trio41 : Trio Try.prog 41 := ⟨_, _, _, Try.underlying41, by kernel_rfl, by kernel_rfl, ⟨by decide, by decide, by decide⟩, ⟨rfl, rfl, rfl⟩, Try.underlying4, ⟨_, Try.underlying3⟩, ⟨_, Try.underlying3⟩, fun xs w v h => run_part_plain w (by kernel_rfl) h, fun xs w v h => run_part_plain w (by kernel_rfl) h, fun xs w v h => run_part_plain w (by kernel_rfl) h⟩

set_option maxHeartbeats 1000000 in
theorem ShareAnswers_F {R : Ro} {ra oa : Option Addr} {rc oc : Nat} {r1 o1 : Cv} {n : Int} {a : Option Addr} {c : Nat} {xs : List Int} (hr : RS R 1 encI ra r1.vals) (hrc : r1.vals.length ≤ rc) (ho : RS R 1 encI oa o1.vals) (hoc : o1.vals.length ≤ oc) (ha : RS R 1 encI a xs) (hc : xs.length ≤ c) (w0 : World) : K.Fn Try.prog 3 [.agg #[.slice ra r1.vals.length rc, .int .i64 r1.per, .int .i64 r1.inc], .agg #[.slice oa o1.vals.length oc, .int .i64 o1.per, .int .i64 o1.inc], .int .i64 n, .slice a xs.length c] w0 R [] (fun v _ _ => v = .bool true) := by
 refine Fn.enter (n := 162) Try.func3 rfl rfl (Nat.le_of_ble_eq_true rfl) rfl ?_
 refine W.seq (W.region _ ?_)
 refine WL.ef rfl rfl qD (Ef.box rfl rfl (fun b4 => ?_))
 refine WL.ef rfl rfl qD (Ef.box rfl rfl (fun b5 => ?_))
 refine WG.run tab_ok 1 rfl (WG.nil (WE.nxt (W.seq (W.seq (W.region _ ?_)))))
 refine' WG.y rfl rfl qD (Yl.load1 tab_ok rfl rfl rfl (fun _ => rfl) ?r1 rfl ?h1) ?_
 case r1 => (exact Rd.blk 1 rfl)
 case h1 => rfl
 refine WG.callV (v := .bool (decide ((r1.vals.length : Int) ≤ 800))) en5 rfl rfl qD (CallOp.mk' rfl rfl rfl rfl) (fun _ => rfl) (fun hg => SmallK_V) ?_
 refine WG.run tab_ok 2 rfl ?_
 refine' WG.y rfl rfl qD (Yl.loadG tab_ok rfl rfl rfl qE ?r2 rfl ?h2 ?g2) ?_
 case r2 => (exact Rd.blkC 0 rfl)
 case h2 => rfl
 case g2 => exact fun _ => trivial
 refine WG.callV (v := .bool (decide ((o1.vals.length : Int) ≤ 800))) en5 rfl rfl qD (CallOp.mk' rfl rfl rfl rfl) qE (fun hg => SmallK_V) ?_
 refine WG.y rfl rfl qD (pureV_ok tab_ok rfl qE) ?_
 refine WG.y rfl rfl (by decide) (Yl.por rfl rfl rfl (fun _ => rfl) (by intro h1 h2; simp_all <;> omega)) ?_
 refine WG.nil (WE.nxt ?_)
 refine W.cond rfl (fun hc0 => ?_) (fun hc0 => ?_)
 ·try simp only [kk] at hc0
  refine W.seq (W.region _ ?_)
  refine WL.call en6 rfl rfl qD (CallOp.mkT rfl rfl rfl rfl) (Awake17_C w0 _) ?_
  rintro _ R9 E9 hR9 ⟨rfl, hsub9⟩
  refine WL.subE hsub9 ?_
  refine WG.run tab_ok 1 rfl (WG.nil (WE.nxt (W.ret (WE.then_ret ?_))))
  refine WE.retF tab_ok [_] rfl ⟨rfl, trivial⟩ ((by first | exact RLe.refl _ | assumption | exact hRz1.trans (hRz2.trans (hR36.trans (hRRp.trans (hRk.trans hR9)))))) ?_
  exact rfl
 ·try simp only [kk] at hc0
  refine W.skip (WE.nxt (W.seq (W.region _ (WG.run tab_ok 1 rfl ?_))))
  refine WL.call en7 rfl rfl qD (CallOp.mkT rfl rfl rfl rfl) (New_C w0 _ hc) ?_
  rintro _ _ _ - ⟨b, rfl, rfl, rfl⟩
  have hz := ha.take 2000
  refine WG.run tab_ok 1 rfl (WG.nil (WE.nxt (W.seq (W.region _ (WG.run tab_ok 1 rfl ?_)))))
  refine WL.callAt 0 en8 rfl rfl qD (CallOp.mkT rfl rfl rfl rfl) rfl (Zero_C w0 hz (most := 7) qD _) ?_
  rintro _ Rz1 _ _ hRz1 ⟨f1, k1, n1, v1, rfl, hf1, hs1, hfn1, h01, hcp1, rfl, rfl⟩
  have hz := hz.mono hRz1
  have hr := hr.mono hRz1
  have ho := ho.mono hRz1
  refine WG.run tab_ok 1 rfl ?_
  refine WL.callAt 0 en8 rfl rfl qD (CallOp.mkT rfl rfl rfl rfl) rfl (Zero_C w0 hz (most := 6) qD _) ?_
  rintro _ Rz2 _ _ hRz2 ⟨f2, k2, n2, v2, rfl, hf2, hs2, hfn2, h02, hcp2, rfl, rfl⟩
  have hz := hz.mono hRz2
  have hr := hr.mono hRz2
  have ho := ho.mono hRz2
  have hf1 := hf1.mono hRz2
  refine WL.ef rfl rfl qD (Ef.alloc tab_ok rfl rfl (fun b10 => ?_))
  refine WL.ef rfl rfl qD (Ef.alloc tab_ok rfl rfl (fun b11 => ?_))
  refine WL.efN rfl rfl (Ef.store0 1 tab_ok rfl rfl rfl rfl rfl rfl rfl rfl ?_)
  refine WL.efN rfl rfl (Ef.store0 0 tab_ok rfl rfl rfl rfl rfl rfl rfl rfl ?_)
  refine WG.nil (WE.nxt (W.seq ?_))
  refine W.freezeBlk 0 rfl ?_
  intro R3 hR3 hb11
  refine W.freezeBlk 0 rfl ?_
  intro R4 hR4 hb10
  refine W.freezeBlk 1 rfl ?_
  intro R5 hR5 hb5
  refine W.freezeBlk 1 rfl ?_
  intro R6 hR6 hb4
  have hR36 := hR3.trans (hR4.trans (hR5.trans hR6))
  have hb5 := hR6 _ _ hb5
  have hb10 := hR6 _ _ (hR5 _ _ hb10)
  have hb11 := hR6 _ _ (hR5 _ _ (hR4 _ _ hb11))
  have hz := hz.mono hR36
  have hr := hr.mono hR36
  have ho := ho.mono hR36
  have hf1 := hf1.mono hR36
  have hf2 := hf2.mono hR36
  refine W.seq ?_
  refine W.regionH _ (ES := []) mixed ?_
  refine' WA.take 0 rfl qK qK qK rfl rfl qD (Yl.load1 tab_ok rfl rfl rfl (fun _ => rfl) ?r3 rfl ?h3) qS qR ?_
  case r3 => (exact Rd.ro qU)
  case h3 => rfl
  refine' WA.take 1 rfl qK qK qK rfl rfl qD (Yl.load1 tab_ok rfl rfl rfl (fun _ => rfl) ?r4 rfl ?h4) qS qR ?_
  case r4 => (exact Rd.ro qU)
  case h4 => rfl
  -- build
  refine WA.take 2 rfl qK qK qK rfl rfl qD (Yl.buildArr (parts := [(0, .tmp 43), (1, .tmp 44)]) tab_ok rfl rfl rfl rfl rfl (fun _ => rfl) rfl) qS qR ?_
  refine' WA.take 3 rfl qK qK qK rfl rfl qD (Yl.load1 tab_ok rfl rfl rfl (fun _ => rfl) ?r5 rfl ?h5) qS qR ?_
  case r5 => (exact Rd.ro qU)
  case h5 => rfl
  refine' WA.take 4 rfl qK qK qK rfl rfl qD (Yl.load1 tab_ok rfl rfl rfl (fun _ => rfl) ?r6 rfl ?h6) qS qR ?_
  case r6 => (exact Rd.ro qU)
  case h6 => rfl
  -- build
  refine WA.take 5 rfl qK qK qK rfl rfl qD (Yl.buildArr (parts := [(0, .tmp 46), (1, .tmp 47)]) tab_ok rfl rfl rfl rfl rfl (fun _ => rfl) rfl) qS qR ?_
  refine' WA.take 6 rfl qK qK qK rfl rfl qD (Yl.load1 tab_ok rfl rfl rfl (fun _ => rfl) ?r7 rfl ?h7) qS qR ?_
  case r7 => (exact Rd.ro qU)
  case h7 => rfl
  refine' WA.take 7 rfl qK qK qK rfl rfl qD (Yl.load1 tab_ok rfl rfl rfl (fun _ => rfl) ?r8 rfl ?h8) qS qR ?_
  case r8 => (exact Rd.ro qU)
  case h8 => rfl
  -- build
  refine WA.take 8 rfl qK qK qK rfl rfl qD (Yl.buildArr (parts := [(0, .tmp 49), (1, .tmp 50)]) tab_ok rfl rfl rfl rfl rfl (fun _ => rfl) rfl) qS qR ?_
  refine WA.take 9 rfl qK qK qK rfl rfl qD (pureV_ok tab_ok rfl (fun _ => rfl)) qS qR ?_
  refine' WA.take 10 rfl qK qK qK rfl rfl qD (Yl.load1 tab_ok rfl rfl rfl (fun _ => rfl) ?r9 rfl ?h9) qS qR ?_
  case r9 => (exact Rd.ro qU)
  case h9 => rfl
  refine' WA.take 12 rfl qK qK qK rfl rfl qD (Yl.load1 tab_ok rfl rfl rfl (fun _ => rfl) ?r10 rfl ?h10) qS qR ?_
  case r10 => (exact Rd.ro qU)
  case h10 => rfl
  refine WA.take 14 rfl qK qK qK rfl rfl qD (pureV_ok tab_ok rfl (fun _ => rfl)) qS qR ?_
  refine WA.take 16 rfl qK qK qK rfl rfl qD (pureV_ok tab_ok rfl (fun _ => rfl)) qS qR ?_
  refine WA.take 19 rfl qK qK qK rfl rfl qD (pureV_ok tab_ok rfl (fun _ => rfl)) qS qR ?_
  refine WA.take 21 rfl qK qK qK rfl rfl qD (pureV_ok tab_ok rfl (fun _ => rfl)) qS qR ?_
  refine WA.take 26 rfl qK qK qK rfl rfl qD (pureV_ok tab_ok rfl (fun _ => rfl)) qS qR ?_
  refine WA.callAt 0 11 rfl qK en9 rfl rfl qD (CallOp.mkT rfl rfl rfl rfl) rfl (Bent_C w0 hz hs1.valid hf1 _) ?_
  rintro _ Rh3 _ _ h3 ⟨f3, k3, n3, v3, rfl, hf3, hl3, hcp3, rfl, rfl⟩
  have hz := hz.mono h3
  have hr := hr.mono h3
  have ho := ho.mono h3
  have hf1 := hf1.mono h3
  have hf2 := hf2.mono h3
  have g3 := h3
  refine ⟨g3, qS, ?_⟩
  -- build
  refine WA.take 13 rfl qK qK qK rfl rfl qD (Yl.buildArr (parts := [(0, .tmp 54), (1, .tmp 55)]) tab_ok rfl rfl rfl rfl rfl (fun _ => rfl) rfl) qS qR ?_
  refine WA.callAt 0 15 rfl qK en10 rfl rfl qD (CallOp.mkT rfl rfl rfl rfl) rfl (KCurve_C w0 hz (most := 6) qD _) ?_
  rintro _ Rh4 _ _ h4 ⟨f4, k4, n4, v4, rfl, hf4, hs4, hcp4, rfl, rfl⟩
  have hz := hz.mono h4
  have hr := hr.mono h4
  have ho := ho.mono h4
  have hf1 := hf1.mono h4
  have hf2 := hf2.mono h4
  have hf3 := hf3.mono h4
  have g4 := g3.trans h4
  refine ⟨g4, qS, ?_⟩
  refine WA.callAt 0 17 rfl qK en10 rfl rfl qD (CallOp.mkT rfl rfl rfl rfl) rfl (KCurve_C w0 hz (most := 6) qD _) ?_
  rintro _ Rh5 _ _ h5 ⟨f5, k5, n5, v5, rfl, hf5, hs5, hcp5, rfl, rfl⟩
  have hz := hz.mono h5
  have hr := hr.mono h5
  have ho := ho.mono h5
  have hf1 := hf1.mono h5
  have hf2 := hf2.mono h5
  have hf3 := hf3.mono h5
  have hf4 := hf4.mono h5
  have g5 := g4.trans h5
  refine ⟨g5, qS, ?_⟩
  -- build
  refine WA.take 18 rfl qK qK qK rfl rfl qD (Yl.buildArr (parts := [(0, .tmp 58), (1, .tmp 60)]) tab_ok rfl rfl rfl rfl rfl (fun _ => rfl) rfl) qS qR ?_
  refine WA.callAt 0 20 rfl qK en11 rfl rfl qD (CallOp.mkT rfl rfl rfl rfl) rfl (Steps_C w0 hz _) ?_
  rintro _ Rh6 _ _ h6 ⟨f6, k6, n6, v6, rfl, hf6, hl6, hcp6, rfl, rfl⟩
  have hz := hz.mono h6
  have hr := hr.mono h6
  have ho := ho.mono h6
  have hf1 := hf1.mono h6
  have hf2 := hf2.mono h6
  have hf3 := hf3.mono h6
  have hf4 := hf4.mono h6
  have hf5 := hf5.mono h6
  have g6 := g5.trans h6
  refine ⟨g6, qS, ?_⟩
  refine WA.callAt 0 22 rfl qK en11 rfl rfl qD (CallOp.mkT rfl rfl rfl rfl) rfl (Steps_C w0 hz _) ?_
  rintro _ Rh7 _ _ h7 ⟨f7, k7, n7, v7, rfl, hf7, hl7, hcp7, rfl, rfl⟩
  have hz := hz.mono h7
  have hr := hr.mono h7
  have ho := ho.mono h7
  have hf1 := hf1.mono h7
  have hf2 := hf2.mono h7
  have hf3 := hf3.mono h7
  have hf4 := hf4.mono h7
  have hf5 := hf5.mono h7
  have hf6 := hf6.mono h7
  have g7 := g6.trans h7
  refine ⟨g7, qS, ?_⟩
  -- build
  refine WA.take 23 rfl qK qK qK rfl rfl qD (Yl.buildArr (parts := [(0, .tmp 63), (1, .tmp 65)]) tab_ok rfl rfl rfl rfl rfl (fun _ => rfl) rfl) qS qR ?_
  refine WA.eff 24 rfl qK rfl rfl qD (Ef.buildSliceD (enc := enc2C) (parts := [.tmp 45, .tmp 48, .tmp 51, .tmp 56, .tmp 61, .tmp 66]) [(⟨f1, k1, v1⟩, ⟨f2, k2, v2⟩), (⟨ra, rc, r1⟩, ⟨f2, k2, v2⟩), (⟨f1, k1, v1⟩, ⟨oa, oc, o1⟩), (⟨f3, k3, v3⟩, ⟨f2, k2, v2⟩), (⟨f4, k4, v4⟩, ⟨f5, k5, v5⟩), (⟨f6, k6, v6⟩, ⟨f7, k7, v7⟩)] tab_ok rfl rfl rfl rfl rfl rfl rfl rfl qD qD (fun a67 => ?_))
  refine ⟨by first | exact RLe.refl _ | assumption, qS, ?_⟩
  refine WA.take 25 rfl qK qK qK rfl rfl qD (pureV_ok tab_ok rfl (fun _ => rfl)) qS qR ?_
  refine WA.done qK ?_
  refine WE.freeze (enc := enc2C) (xs := ([(⟨f1, k1, v1⟩, ⟨f2, k2, v2⟩), (⟨ra, rc, r1⟩, ⟨f2, k2, v2⟩), (⟨f1, k1, v1⟩, ⟨oa, oc, o1⟩), (⟨f3, k3, v3⟩, ⟨f2, k2, v2⟩), (⟨f4, k4, v4⟩, ⟨f5, k5, v5⟩), (⟨f6, k6, v6⟩, ⟨f7, k7, v7⟩)] : List (CvS × CvS))) 0 rfl ?_
  intro Rp hRp hL
  have hRRp : RLe R6 Rp := g7.trans hRp
  have hz := hz.mono hRp
  have hr := hr.mono hRp
  have ho := ho.mono hRp
  have hf1 := hf1.mono hRp
  have hf2 := hf2.mono hRp
  have hf3 := hf3.mono hRp
  have hf4 := hf4.mono hRp
  have hf5 := hf5.mono hRp
  have hf6 := hf6.mono hRp
  have hf7 := hf7.mono hRp
  have hv1 := valid_range hs1.valid
  have hv2 := valid_range hs2.valid
  have hv4 := valid_range hs4.valid
  have hv5 := valid_range hs5.valid
  have hall : ∀ x ∈ ([(⟨f1, k1, v1⟩, ⟨f2, k2, v2⟩), (⟨ra, rc, r1⟩, ⟨f2, k2, v2⟩), (⟨f1, k1, v1⟩, ⟨oa, oc, o1⟩), (⟨f3, k3, v3⟩, ⟨f2, k2, v2⟩), (⟨f4, k4, v4⟩, ⟨f5, k5, v5⟩), (⟨f6, k6, v6⟩, ⟨f7, k7, v7⟩)] : List (CvS × CvS)), OkC Rp x.1 ∧ OkC Rp x.2 := by
   have p1 : OkC Rp ⟨f1, k1, v1⟩ := ⟨hf1, by (try dsimp only); omega, hcp1⟩
   have p2 : OkC Rp ⟨f2, k2, v2⟩ := ⟨hf2, by (try dsimp only); omega, hcp2⟩
   have p3 : OkC Rp ⟨ra, rc, r1⟩ := ⟨hr, by (try dsimp only); omega, hrc⟩
   have p4 : OkC Rp ⟨oa, oc, o1⟩ := ⟨ho, by (try dsimp only); omega, hoc⟩
   have p5 : OkC Rp ⟨f3, k3, v3⟩ := ⟨hf3, by (try dsimp only); omega, hcp3⟩
   have p6 : OkC Rp ⟨f4, k4, v4⟩ := ⟨hf4, by (try dsimp only); omega, hcp4⟩
   have p7 : OkC Rp ⟨f5, k5, v5⟩ := ⟨hf5, by (try dsimp only); omega, hcp5⟩
   have p8 : OkC Rp ⟨f6, k6, v6⟩ := ⟨hf6, by (try dsimp only); omega, hcp6⟩
   have p9 : OkC Rp ⟨f7, k7, v7⟩ := ⟨hf7, by (try dsimp only); omega, hcp7⟩
   simp only [List.mem_cons, List.not_mem_nil, or_false, forall_eq_or_imp, forall_eq]
   exact ⟨⟨p1, p2⟩, ⟨p3, p2⟩, ⟨p1, p4⟩, ⟨p5, p2⟩, ⟨p6, p7⟩, ⟨p8, p9⟩⟩
  have hLl : ([(⟨f1, k1, v1⟩, ⟨f2, k2, v2⟩), (⟨ra, rc, r1⟩, ⟨f2, k2, v2⟩), (⟨f1, k1, v1⟩, ⟨oa, oc, o1⟩), (⟨f3, k3, v3⟩, ⟨f2, k2, v2⟩), (⟨f4, k4, v4⟩, ⟨f5, k5, v5⟩), (⟨f6, k6, v6⟩, ⟨f7, k7, v7⟩)] : List (CvS × CvS)).length = 6 := rfl
  generalize hPL : ([(⟨f1, k1, v1⟩, ⟨f2, k2, v2⟩), (⟨ra, rc, r1⟩, ⟨f2, k2, v2⟩), (⟨f1, k1, v1⟩, ⟨oa, oc, o1⟩), (⟨f3, k3, v3⟩, ⟨f2, k2, v2⟩), (⟨f4, k4, v4⟩, ⟨f5, k5, v5⟩), (⟨f6, k6, v6⟩, ⟨f7, k7, v7⟩)] : List (CvS × CvS)) = L at hL hall hLl ⊢
  refine WE.nxt (W.block ?_)
  refine W.loopR (β := Nat × Nat × Ro) (fun (j, cn, Rk) => j ≤ L.length ∧ RLe Rp Rk) (fun (j, cn, Rk) => [(69, true, .int .i64 (j : Int))]) [2, 9, 67, 68] [_, _, _, _] [] _ rfl (fun (j, cn, Rk) => [(0, srcE b a c (xs.take 2000) cn)]) (fun (j, cn, Rk) => Rk) (fun (j, cn, Rk) => L.length - j) ((0, n7, Rp)) (⟨Nat.zero_le _, RLe.refl _⟩) ⟨rfl, rfl, rfl, rfl, rfl, rfl⟩ (RLe.refl _) qS ?_
  intro zz hst
  obtain ⟨j, cn, Rk⟩ := zz
  dsimp only [zipE, setAll, List.cons_append, List.nil_append, List.set_cons_zero, List.set_cons_succ] at hst ⊢
  obtain ⟨hj, hRk⟩ := hst
  have hz := hz.mono hRk
  have hL := hL.mono hRk
  have hall : ∀ x ∈ L, OkC Rk x.1 ∧ OkC Rk x.2 := fun x hx => ⟨(hall x hx).1.mono hRk, (hall x hx).2.mono hRk⟩
  refine W.seq (W.region _ (WG.run tab_ok 1 rfl (WG.nil (WE.nxt (W.seq ?_)))))
  refine W.condD rfl (fun hc1 => ?_) (fun hc1 => ?_)
  ·try dsimp only at hc1
   have hjl : j < L.length := by omega
   obtain ⟨ho1, ho2⟩ := hall _ (nth_mem (xs := L) (k := j) hjl)
   generalize hx : nth L j = x at ho1 ho2
   obtain ⟨⟨fx, kx, c1⟩, ⟨gx, lx, c2⟩⟩ := x
   have hl1 : c1.vals.length ≤ 1000 := ho1.2.1
   have hl2 : c2.vals.length ≤ 1000 := ho2.2.1
   refine W.skip (WE.nxt (W.seq (W.block (W.seq (W.region _ ?_)))))
   refine WG.y rfl rfl (by decide) (Yl.indexN tab_ok rfl rfl rfl rfl rfl rfl (fun _ => rfl) (by intro _; (try dsimp only) <;> omega) (by intro _; first | exact fun _ _ _ _ => rfl | exact RS.has (by assumption) | exact fun _ _ _ _ => (by assumption) | exact HasMem.ownD 0 rfl | exact HasMem.ownD 1 rfl | exact HasMem.ownD 2 rfl | exact HasMem.ownD 3 rfl | exact HasMem.ownD 4 rfl | exact HasMem.ownD 5 rfl)) ?_
   refine' WG.y rfl rfl qD (Yl.load1 tab_ok rfl rfl rfl (fun _ => rfl) ?r11 rfl ?h11) ?_
   case r11 => ((apply RS.rdD; assumption; ((try dsimp only) <;> omega)))
   case h11 => rfl
   rw [hx]
   refine WL.ef rfl rfl qD (Ef.alloc tab_ok rfl rfl (fun b13 => ?_))
   refine WL.efN rfl rfl (Ef.store0 0 tab_ok rfl rfl rfl rfl rfl rfl rfl rfl ?_)
   refine WG.nil (WE.nxt (W.seq ?_))
   refine W.freezeBlk 0 rfl ?_
   intro R7 hR7 hb13
   have hz := hz.mono hR7
   have ho1 := ho1.mono hR7
   have ho2 := ho2.mono hR7
   refine W.seq (W.region _ (WG.run tab_ok 2 rfl ?_))
   refine WL.callAt 0 en12 rfl rfl qD (CallOp.mkT rfl rfl rfl rfl) rfl (N_C w0 hz (by constructor <;> decide) _) ?_
   rintro _ _ _ _ - ⟨rfl, rfl, rfl, rfl⟩
   refine WG.run tab_ok 1 rfl ?_
   refine WL.ef rfl rfl qD (Ef.buildSliceD (enc := encI) (parts := [.const (.int .i64 (-1)), .const (.int .i64 0), .const (.int .i64 391), .const (.int .i64 399), .const (.int .i64 400), .const (.int .i64 1048576), .const (.int .i64 1048577)]) [_, _, _, _, _, _, _] tab_ok rfl rfl rfl rfl rfl rfl rfl rfl qD qD (fun a77 => ?_))
   refine WL.callAt 1 en13 rfl rfl qD (CallOp.mkT rfl rfl rfl rfl) rfl (PickM_C (j := 0) w0 ([-1, 0, 391, 399, 400, 1048576, 1048577] : List Int) rfl qD qD hz rfl) ?_
   rintro _ _ _ _ - ⟨rfl, rfl, rfl, rfl⟩
   refine WL.ef rfl rfl qD (Ef.buildSliceD (enc := encI) (parts := [.tmp 73, .tmp 75, .tmp 78]) [_, _, _] tab_ok rfl rfl rfl rfl rfl rfl rfl rfl qD qD (fun a79 => ?_))
   refine WG.run tab_ok 2 rfl ?_
   refine WL.freeze (enc := encI) (xs := [n, mod (nth (xs.take 2000) cn) 12, nth ([-1, 0, 391, 399, 400, 1048576, 1048577] : List Int) (mod (nth (xs.take 2000) (cn + 1)) ((7 : Nat) : Int)).toNat]) 0 rfl ?_
   intro R8 hR8 hks
   generalize hke : ([n, mod (nth (xs.take 2000) cn) 12, nth ([-1, 0, 391, 399, 400, 1048576, 1048577] : List Int) (mod (nth (xs.take 2000) (cn + 1)) ((7 : Nat) : Int)).toNat] : List Int) = ks at hks ⊢
   have hkl : ks.length = 3 := by rw [← hke]; rfl
   have hb13 := hR8 _ _ hb13
   have hz := hz.mono hR8
   have ho1 := ho1.mono hR8
   have ho2 := ho2.mono hR8
   refine WG.nil (WE.nxt (W.block ?_))
   refine W.loopR (β := Nat × Ro) (fun (i, Rm) => i ≤ 3 ∧ RLe R8 Rm) (fun (i, Rm) => [(81, true, .int .i64 (i : Int))]) [2, 9, 13, 67, 68, 69, 79, 80] [_, _, _, _, _, _, _, _] [] _ rfl (fun (i, Rm) => []) (fun (i, Rm) => Rm) (fun (i, Rm) => 3 - i) ((0, R8)) (⟨Nat.zero_le _, RLe.refl _⟩) ⟨rfl, rfl, rfl, rfl, rfl, rfl, rfl, rfl, rfl, rfl⟩ (RLe.refl _) qS ?_
   intro yy hst
   obtain ⟨i, Rm⟩ := yy
   dsimp only [zipE, setAll, List.cons_append, List.nil_append, List.set_cons_zero, List.set_cons_succ] at hst ⊢
   obtain ⟨hi, hRm⟩ := hst
   have hks := hks.mono hRm
   have hz := hz.mono hRm
   have ho1 := ho1.mono hRm
   have ho2 := ho2.mono hRm
   have hb13 := hRm _ _ hb13
   refine W.seq (W.region _ (WG.run tab_ok 1 rfl (WG.nil (WE.nxt (W.seq ?_)))))
   refine W.condD rfl (fun hc2 => ?_) (fun hc2 => ?_)
   ·try dsimp only at hc2
    have hil : i < 3 := by omega
    refine W.skip (WE.nxt (W.seq (W.block (W.seq (W.region _ ?_)))))
    refine WG.y rfl rfl (by decide) (Yl.indexN tab_ok rfl rfl rfl rfl rfl rfl (fun _ => rfl) (by intro _; (try dsimp only) <;> omega) (by intro _; first | exact fun _ _ _ _ => rfl | exact RS.has (by assumption) | exact fun _ _ _ _ => (by assumption) | exact HasMem.ownD 0 rfl | exact HasMem.ownD 1 rfl | exact HasMem.ownD 2 rfl | exact HasMem.ownD 3 rfl | exact HasMem.ownD 4 rfl | exact HasMem.ownD 5 rfl)) ?_
    refine' WG.y rfl rfl qD (Yl.load1 tab_ok rfl rfl rfl (fun _ => rfl) ?r12 rfl ?h12) ?_
    case r12 => ((apply RS.rdD; assumption; ((try dsimp only) <;> omega)))
    case h12 => rfl
    refine WG.run tab_ok 1 rfl (WG.nil (WE.nxt (W.seq (W.region _ ?_))))
    refine WG.y rfl rfl (by decide) (Yl.indexArr tab_ok rfl rfl rfl rfl rfl rfl (fun _ => rfl) (by intro _; constructor <;> (try dsimp only) <;> omega)) ?_
    refine' WG.y rfl rfl qD (Yl.load1 tab_ok rfl rfl rfl (fun _ => rfl) ?r13 rfl ?h13) ?_
    case r13 => apply Rd.add; (exact Rd.ro qU)
    case h13 => rfl
    refine WG.y rfl rfl (by decide) (Yl.indexArr tab_ok rfl rfl rfl rfl rfl rfl (fun _ => rfl) (by intro _; constructor <;> (try dsimp only) <;> omega)) ?_
    refine' WG.y rfl rfl qD (Yl.load1 tab_ok rfl rfl rfl (fun _ => rfl) ?r14 rfl ?h14) ?_
    case r14 => apply Rd.add; (exact Rd.ro qU)
    case h14 => rfl
    refine WG.run tab_ok 1 rfl ?_
    refine WL.call en14 rfl rfl qD (CallOp.mkT rfl rfl rfl rfl) (SRestA_C (cf := c1) (cg := c2) ho1.1 qO ho2.1 qO (nth ks i) w0 _) ?_
    rintro _ Ra _ hRa ⟨fa, ka, rfl, hfa, hsuba⟩
    refine WL.subE hsuba ?_
    unfold cvV
    have ho1 := ho1.mono hRa
    have ho2 := ho2.mono hRa
    have hb13 := hRa _ _ hb13
    refine WG.run tab_ok 3 rfl ?_
    refine WL.ef rfl rfl qD (Ef.alloc tab_ok rfl rfl (fun b16 => ?_))
    refine WL.efN rfl rfl (Ef.store0 0 tab_ok rfl rfl rfl rfl rfl rfl rfl rfl ?_)
    refine WG.run tab_ok 1 rfl (WG.nil (WE.nxt (W.seq (W.region _ ?_))))
    refine WG.y rfl rfl (by decide) (Yl.indexArr tab_ok rfl rfl rfl rfl rfl rfl (fun _ => rfl) (by intro _; constructor <;> (try dsimp only) <;> omega)) ?_
    refine' WG.y rfl rfl qD (Yl.load1 tab_ok rfl rfl rfl (fun _ => rfl) ?r15 rfl ?h15) ?_
    case r15 => apply Rd.add; (exact Rd.ro qU)
    case h15 => rfl
    refine WG.y rfl rfl (by decide) (Yl.indexArr tab_ok rfl rfl rfl rfl rfl rfl (fun _ => rfl) (by intro _; constructor <;> (try dsimp only) <;> omega)) ?_
    refine' WG.y rfl rfl qD (Yl.load1 tab_ok rfl rfl rfl (fun _ => rfl) ?r16 rfl ?h16) ?_
    case r16 => apply Rd.add; (exact Rd.ro qU)
    case h16 => rfl
    refine WG.run tab_ok 1 rfl ?_
    refine WL.call en15 rfl rfl qD (CallOp.mkT rfl rfl rfl rfl) (RRestA_C (cf := c1) (cg := c2) ho1.1 qO ho1.2.2 ho2.1 qO ho2.2.2 (nth ks i) w0 _) ?_
    rintro _ Rb _ hRb ⟨fb, kb, rfl, hfb, hkb, hsubb⟩
    refine WL.subE hsubb ?_
    unfold cvV
    have hfa := hfa.mono hRb
    generalize restA c1 c2 (nth ks i) = q at hfa hfb hkb ⊢
    refine WG.run tab_ok 3 rfl ?_
    refine WL.ef rfl rfl qD (Ef.alloc tab_ok rfl rfl (fun b18 => ?_))
    refine WL.efN rfl rfl (Ef.store0 0 tab_ok rfl rfl rfl rfl rfl rfl rfl rfl ?_)
    refine WG.run tab_ok 1 rfl (WG.nil (WE.nxt (W.seq (W.region _ (WG.run tab_ok 4 rfl ?_)))))
    refine' WG.y rfl rfl qD (Yl.loadG tab_ok rfl rfl rfl qE ?r17 rfl ?h17 ?g17) ?_
    case r17 => (exact Rd.blkC 1 rfl)
    case h17 => rfl
    case g17 => exact fun _ => trivial
    refine' WG.y rfl rfl qD (Yl.loadG tab_ok rfl rfl rfl qE ?r18 rfl ?h18 ?g18) ?_
    case r18 => (exact Rd.blkC 0 rfl)
    case h18 => rfl
    case g18 => exact fun _ => trivial
    refine WG.callV (v := .bool true) en16 rfl rfl (by decide) (CallOp.mk' rfl rfl rfl rfl) qE (fun hg => by have h := Same02_V (ca := ka) (cb := kb) (p1 := q.1.per) (i1 := q.1.inc) (p2 := q.1.per) (i2 := q.1.inc) hfa hfb; rw [decide_eq_true ⟨rfl, rfl, rfl⟩] at h; exact h) ?_
    refine WG.y rfl rfl qD (pureV_ok tab_ok rfl qE) ?_
    refine WG.y rfl rfl (by decide) (Yl.por rfl rfl rfl (fun _ => rfl) (by intro h1 h2; simp_all <;> omega)) ?_
    refine WG.nil (WE.nxt ?_)
    refine W.cond rfl (fun hc3 => ?_) (fun hc3 => ?_)
    ·try simp only [kk] at hc3
     (simp at hc3; done)
    ·try simp only [kk] at hc3
     refine W.skip (WE.blk _ (WE.nxt (W.region _ ?_)))
     refine WG.y rfl rfl (by decide) (Yl.add rfl rfl rfl (fun _ => rfl) (by intro _; constructor <;> (try dsimp only) <;> omega)) ?_
     refine WG.run tab_ok 1 rfl (WG.nil ?_)
     refine WE.again ((i + 1, Rb)) (⟨by (try dsimp only); omega, hRm.trans (hRa.trans hRb)⟩) (by (try dsimp only); omega) ⟨rfl, rfl, rfl, rfl, rfl, rfl, rfl, rfl, rfl, rfl⟩ (RLe.refl _) qS
   ·try dsimp only at hc2
    refine W.exit ?_
    refine WE.then_exit (WE.then_exit (WE.blk_exit (WE.nxt (W.seq (W.region _ (WG.run tab_ok 1 rfl ?_))))))
    refine WL.callAt 1 en10 rfl rfl qD (CallOp.mkT rfl rfl rfl rfl) rfl (KCurve_C w0 hz (most := 4) qD _) ?_
    rintro _ Rc _ _ hRc ⟨f8, k8, n8, v8, rfl, hf8, hs8, hcp8, rfl, rfl⟩
    have hz := hz.mono hRc
    have ho1 := ho1.mono hRc
    have ho2 := ho2.mono hRc
    have hb13 := hRc _ _ hb13
    have hv8 := valid_range hs8.valid
    refine WG.run tab_ok 2 rfl ?_
    refine WL.ef rfl rfl qD (Ef.buildSliceD (enc := encI) (parts := [.const (.int .i64 (-1)), .const (.int .i64 0), .const (.int .i64 3), .const (.int .i64 6), .const (.int .i64 51), .tmp 116]) [_, _, _, _, _, _] tab_ok rfl rfl rfl rfl rfl rfl rfl rfl qD qD (fun a117 => ?_))
    refine WL.callAt 2 en13 rfl rfl qD (CallOp.mkT rfl rfl rfl rfl) rfl (PickM_C (j := 0) w0 ([-1, 0, 3, 6, 51, n] : List Int) rfl qD qD hz rfl) ?_
    rintro _ _ _ _ - ⟨rfl, rfl, rfl, rfl⟩
    generalize nth ([-1, 0, 3, 6, 51, n] : List Int) (mod (nth (xs.take 2000) n8) ((6 : Nat) : Int)).toNat = most
    refine WL.ef rfl rfl qD (Ef.alloc tab_ok rfl rfl (fun b20 => ?_))
    refine WL.efN rfl rfl (Ef.store0 0 tab_ok rfl rfl rfl rfl rfl rfl rfl rfl ?_)
    refine WG.run tab_ok 1 rfl (WG.nil (WE.nxt (W.seq (W.seq (W.region _ (WG.run tab_ok 3 rfl ?_))))))
    refine WG.y rfl rfl qD (pureV_ok tab_ok rfl qE) ?_
    refine WG.y rfl rfl qD (pureV_ok tab_ok rfl qE) ?_
    refine WG.y rfl rfl (by decide) (Yl.pand rfl rfl rfl (fun _ => rfl) (by intro h1 h2; simp_all <;> omega)) ?_
    refine WG.nil (WE.nxt ?_)
    refine W.cond rfl (fun hc4 => ?_) (fun hc4 => ?_)
    ·try simp only [kk] at hc4
     refine W.region _ (WG.run tab_ok 1 rfl (WG.nil (WE.nxt (W.seq (W.region _ ?_)))))
     refine' WG.y rfl rfl qD (Yl.load1 tab_ok rfl rfl rfl (fun _ => rfl) ?r19 rfl ?h19) ?_
     case r19 => (exact Rd.blk 0 rfl)
     case h19 => rfl
     refine WG.y rfl rfl (by decide) (Yl.indexArr tab_ok rfl rfl rfl rfl rfl rfl (fun _ => rfl) (by intro _; constructor <;> (try dsimp only) <;> omega)) ?_
     refine' WG.y rfl rfl qD (Yl.load1 tab_ok rfl rfl rfl (fun _ => rfl) ?r20 rfl ?h20) ?_
     case r20 => apply Rd.add; (exact Rd.ro qU)
     case h20 => rfl
     refine WG.y rfl rfl (by decide) (Yl.indexArr tab_ok rfl rfl rfl rfl rfl rfl (fun _ => rfl) (by intro _; constructor <;> (try dsimp only) <;> omega)) ?_
     refine' WG.y rfl rfl qD (Yl.load1 tab_ok rfl rfl rfl (fun _ => rfl) ?r21 rfl ?h21) ?_
     case r21 => apply Rd.add; (exact Rd.ro qU)
     case h21 => rfl
     refine WG.run tab_ok 1 rfl ?_
     refine WL.call en17 rfl rfl qD (CallOp.mkT rfl rfl rfl rfl) (SLeastA_C (ca := v8) (cb := c1) (co := c2) hf8 qO ho1.1 qO ho2.1 qO _ w0 _) ?_
     rintro _ Rw _ hRw ⟨rfl, hsubd⟩
     refine WL.subE hsubd ?_
     have hf8 := hf8.mono hRw
     have ho1 := ho1.mono hRw
     have ho2 := ho2.mono hRw
     have hb13 := hRw _ _ hb13
     refine WG.run tab_ok 4 rfl ?_
     refine WL.ef rfl rfl qD (Ef.alloc tab_ok rfl rfl (fun b23 => ?_))
     refine WG.run tab_ok 1 rfl ?_
     refine WL.efN rfl rfl (Ef.store0 0 tab_ok rfl rfl rfl rfl rfl rfl rfl rfl ?_)
     refine WG.run tab_ok 1 rfl (WG.nil (WE.nxt (W.seq (W.region _ ?_))))
     refine' WG.y rfl rfl qD (Yl.load1 tab_ok rfl rfl rfl (fun _ => rfl) ?r22 rfl ?h22) ?_
     case r22 => (exact Rd.blk 1 rfl)
     case h22 => rfl
     refine WG.y rfl rfl (by decide) (Yl.indexArr tab_ok rfl rfl rfl rfl rfl rfl (fun _ => rfl) (by intro _; constructor <;> (try dsimp only) <;> omega)) ?_
     refine' WG.y rfl rfl qD (Yl.load1 tab_ok rfl rfl rfl (fun _ => rfl) ?r23 rfl ?h23) ?_
     case r23 => apply Rd.add; (exact Rd.ro qU)
     case h23 => rfl
     refine WG.y rfl rfl (by decide) (Yl.indexArr tab_ok rfl rfl rfl rfl rfl rfl (fun _ => rfl) (by intro _; constructor <;> (try dsimp only) <;> omega)) ?_
     refine' WG.y rfl rfl qD (Yl.load1 tab_ok rfl rfl rfl (fun _ => rfl) ?r24 rfl ?h24) ?_
     case r24 => apply Rd.add; (exact Rd.ro qU)
     case h24 => rfl
     refine WG.run tab_ok 1 rfl ?_
     refine WL.call en18 rfl rfl qD (CallOp.mkT rfl rfl rfl rfl) (RLeastA_C (ca := v8) (cb := c1) (co := c2) hf8 qO hcp8 ho1.1 qO ho1.2.2 ho2.1 qO ho2.2.2 _ w0 _) ?_
     rintro _ Rv _ hRv ⟨rfl, hsube⟩
     refine WL.subE hsube ?_
     refine WG.run tab_ok 4 rfl ?_
     refine WL.ef rfl rfl qD (Ef.alloc tab_ok rfl rfl (fun b26 => ?_))
     refine WG.run tab_ok 1 rfl ?_
     refine WL.efN rfl rfl (Ef.store0 0 tab_ok rfl rfl rfl rfl rfl rfl rfl rfl ?_)
     refine WG.run tab_ok 1 rfl (WG.nil (WE.nxt (W.seq (W.region _ (WG.run tab_ok 4 rfl ?_)))))
     refine' WG.y rfl rfl qD (Yl.loadG tab_ok rfl rfl rfl qE ?r25 rfl ?h25 ?g25) ?_
     case r25 => (exact Rd.blkC 1 rfl)
     case h25 => rfl
     case g25 => exact fun _ => trivial
     refine' WG.y rfl rfl qD (Yl.loadG tab_ok rfl rfl rfl qE ?r26 rfl ?h26 ?g26) ?_
     case r26 => (exact Rd.blkC 0 rfl)
     case h26 => rfl
     case g26 => exact fun _ => trivial
     refine WG.y rfl rfl qD (Yl.neTrio trio41 rfl rfl rfl qE) ?_
     refine WG.y rfl rfl (by decide) (Yl.por rfl rfl rfl (fun _ => rfl) (by intro h1 h2; simp_all <;> omega)) ?_
     refine WG.run tab_ok 1 rfl ?_
     refine WG.y rfl rfl qD (pureV_ok tab_ok rfl qE) ?_
     refine WG.y rfl rfl qD (pureV_ok tab_ok rfl qE) ?_
     refine WG.y rfl rfl qD (pureV_ok tab_ok rfl qE) ?_
     refine WG.y rfl rfl (by decide) (Yl.por rfl rfl rfl (fun _ => rfl) (by intro h1 h2; simp_all <;> omega)) ?_
     refine WG.nil (WE.nxt ?_)
     refine W.cond rfl (fun hc5 => ?_) (fun hc5 => ?_)
     ·try simp only [kk] at hc5
      (simp at hc5; done)
     ·try simp only [kk] at hc5
      refine W.skip (WE.blk _ (WE.nxt (W.region _ ?_)))
      refine WG.y rfl rfl (by decide) (Yl.add rfl rfl rfl (fun _ => rfl) (by intro _; constructor <;> (try dsimp only) <;> omega)) ?_
      refine WG.run tab_ok 1 rfl (WG.nil ?_)
      refine WE.again ((j + 1, n8 + 1, Rv)) (⟨by (try dsimp only); omega, hRk.trans (hR7.trans (hR8.trans (hRm.trans (hRc.trans (hRw.trans hRv)))))⟩) (by (try dsimp only); omega) ⟨rfl, rfl, rfl, rfl, rfl, rfl⟩ (RLe.refl _) qS
    ·try simp only [kk] at hc4
     refine W.skip (WE.nxt (W.seq (W.region _ ?_)))
     refine' WG.y rfl rfl qD (Yl.load1 tab_ok rfl rfl rfl (fun _ => rfl) ?r27 rfl ?h27) ?_
     case r27 => (exact Rd.blk 0 rfl)
     case h27 => rfl
     refine WG.y rfl rfl (by decide) (Yl.indexArr tab_ok rfl rfl rfl rfl rfl rfl (fun _ => rfl) (by intro _; constructor <;> (try dsimp only) <;> omega)) ?_
     refine' WG.y rfl rfl qD (Yl.load1 tab_ok rfl rfl rfl (fun _ => rfl) ?r28 rfl ?h28) ?_
     case r28 => apply Rd.add; (exact Rd.ro qU)
     case h28 => rfl
     refine WG.y rfl rfl (by decide) (Yl.indexArr tab_ok rfl rfl rfl rfl rfl rfl (fun _ => rfl) (by intro _; constructor <;> (try dsimp only) <;> omega)) ?_
     refine' WG.y rfl rfl qD (Yl.load1 tab_ok rfl rfl rfl (fun _ => rfl) ?r29 rfl ?h29) ?_
     case r29 => apply Rd.add; (exact Rd.ro qU)
     case h29 => rfl
     refine WG.run tab_ok 1 rfl ?_
     refine WL.call en17 rfl rfl qD (CallOp.mkT rfl rfl rfl rfl) (SLeastA_C (ca := v8) (cb := c1) (co := c2) hf8 qO ho1.1 qO ho2.1 qO _ w0 _) ?_
     rintro _ Rw _ hRw ⟨rfl, hsubd⟩
     refine WL.subE hsubd ?_
     have hf8 := hf8.mono hRw
     have ho1 := ho1.mono hRw
     have ho2 := ho2.mono hRw
     have hb13 := hRw _ _ hb13
     refine WG.run tab_ok 4 rfl ?_
     refine WL.ef rfl rfl qD (Ef.alloc tab_ok rfl rfl (fun b23 => ?_))
     refine WG.run tab_ok 1 rfl ?_
     refine WL.efN rfl rfl (Ef.store0 0 tab_ok rfl rfl rfl rfl rfl rfl rfl rfl ?_)
     refine WG.run tab_ok 1 rfl (WG.nil (WE.nxt (W.seq (W.region _ ?_))))
     refine' WG.y rfl rfl qD (Yl.load1 tab_ok rfl rfl rfl (fun _ => rfl) ?r30 rfl ?h30) ?_
     case r30 => (exact Rd.blk 1 rfl)
     case h30 => rfl
     refine WG.y rfl rfl (by decide) (Yl.indexArr tab_ok rfl rfl rfl rfl rfl rfl (fun _ => rfl) (by intro _; constructor <;> (try dsimp only) <;> omega)) ?_
     refine' WG.y rfl rfl qD (Yl.load1 tab_ok rfl rfl rfl (fun _ => rfl) ?r31 rfl ?h31) ?_
     case r31 => apply Rd.add; (exact Rd.ro qU)
     case h31 => rfl
     refine WG.y rfl rfl (by decide) (Yl.indexArr tab_ok rfl rfl rfl rfl rfl rfl (fun _ => rfl) (by intro _; constructor <;> (try dsimp only) <;> omega)) ?_
     refine' WG.y rfl rfl qD (Yl.load1 tab_ok rfl rfl rfl (fun _ => rfl) ?r32 rfl ?h32) ?_
     case r32 => apply Rd.add; (exact Rd.ro qU)
     case h32 => rfl
     refine WG.run tab_ok 1 rfl ?_
     refine WL.call en18 rfl rfl qD (CallOp.mkT rfl rfl rfl rfl) (RLeastA_C (ca := v8) (cb := c1) (co := c2) hf8 qO hcp8 ho1.1 qO ho1.2.2 ho2.1 qO ho2.2.2 _ w0 _) ?_
     rintro _ Rv _ hRv ⟨rfl, hsube⟩
     refine WL.subE hsube ?_
     refine WG.run tab_ok 4 rfl ?_
     refine WL.ef rfl rfl qD (Ef.alloc tab_ok rfl rfl (fun b26 => ?_))
     refine WG.run tab_ok 1 rfl ?_
     refine WL.efN rfl rfl (Ef.store0 0 tab_ok rfl rfl rfl rfl rfl rfl rfl rfl ?_)
     refine WG.run tab_ok 1 rfl (WG.nil (WE.nxt (W.seq (W.region _ (WG.run tab_ok 4 rfl ?_)))))
     refine' WG.y rfl rfl qD (Yl.loadG tab_ok rfl rfl rfl qE ?r33 rfl ?h33 ?g33) ?_
     case r33 => (exact Rd.blkC 1 rfl)
     case h33 => rfl
     case g33 => exact fun _ => trivial
     refine' WG.y rfl rfl qD (Yl.loadG tab_ok rfl rfl rfl qE ?r34 rfl ?h34 ?g34) ?_
     case r34 => (exact Rd.blkC 0 rfl)
     case h34 => rfl
     case g34 => exact fun _ => trivial
     refine WG.y rfl rfl qD (Yl.neTrio trio41 rfl rfl rfl qE) ?_
     refine WG.y rfl rfl (by decide) (Yl.por rfl rfl rfl (fun _ => rfl) (by intro h1 h2; simp_all <;> omega)) ?_
     refine WG.run tab_ok 1 rfl ?_
     refine WG.y rfl rfl qD (pureV_ok tab_ok rfl qE) ?_
     refine WG.y rfl rfl qD (pureV_ok tab_ok rfl qE) ?_
     refine WG.y rfl rfl qD (pureV_ok tab_ok rfl qE) ?_
     refine WG.y rfl rfl (by decide) (Yl.por rfl rfl rfl (fun _ => rfl) (by intro h1 h2; simp_all <;> omega)) ?_
     refine WG.nil (WE.nxt ?_)
     refine W.cond rfl (fun hc6 => ?_) (fun hc6 => ?_)
     ·try simp only [kk] at hc6
      (simp at hc6; done)
     ·try simp only [kk] at hc6
      refine W.skip (WE.blk _ (WE.nxt (W.region _ ?_)))
      refine WG.y rfl rfl (by decide) (Yl.add rfl rfl rfl (fun _ => rfl) (by intro _; constructor <;> (try dsimp only) <;> omega)) ?_
      refine WG.run tab_ok 1 rfl (WG.nil ?_)
      refine WE.again ((j + 1, n8 + 1, Rv)) (⟨by (try dsimp only); omega, hRk.trans (hR7.trans (hR8.trans (hRm.trans (hRc.trans (hRw.trans hRv)))))⟩) (by (try dsimp only); omega) ⟨rfl, rfl, rfl, rfl, rfl, rfl⟩ (RLe.refl _) qS
  ·try dsimp only at hc1
   refine W.exit ?_
   refine WE.then_exit (WE.then_exit (WE.blk_exit (WE.nxt (W.seq (W.region _ ?_)))))
   refine WL.call en6 rfl rfl qD (CallOp.mkT rfl rfl rfl rfl) (Awake17_C w0 _) ?_
   rintro _ R9 E9 hR9 ⟨rfl, hsub9⟩
   refine WL.subE hsub9 ?_
   refine WG.run tab_ok 1 rfl (WG.nil (WE.nxt (W.ret ?_)))
   refine WE.retF tab_ok [_] rfl ⟨rfl, trivial⟩ ((by first | exact RLe.refl _ | assumption | exact hRz1.trans (hRz2.trans (hR36.trans (hRRp.trans (hRk.trans hR9)))))) ?_
   exact rfl

end Go.Proofs.Ytnackbfnmhkodaa

/- ShareAnswers: for every input the law returns true, and the input reads afterwards as it read before. No condition. -/
namespace Go.Proofs.Ytnackbfnmhkodaa
open Go Go.RowKit Go.ChangeShapes Go.WideShapes Go.ChangeAt Go.WideElems Go.Maps Go.Proofs.Ytnackbfnmhkodaa.K Go.Proofs.Ytnackbfnmhkodaa.M
namespace shareAnswers
theorem own : ownKnob Try.prog.godebug = none := by kernel_rfl
theorem laidOut : laidOutB Try.prog = true := by kernel_rfl
theorem readable : (Try.f3.params.toList).all (fun t => Try.prog.readableRec t && decide (t < Try.prog.types.size)) = true := by kernel_rfl
theorem cellsI : Try.prog.cellsOf 3 = 1 := by kernel_rfl
section
variable {H : Type} {enc : TypeId × Value → H}
theorem flat_ints : Flat enc Try.prog 3 1 := flat_int Try.underlying3
theorem cells_ints : Try.prog.cellsOf 3 = 1 := by kernel_rfl
theorem opn_cv : Opn enc Try.prog 24 3 encC OkI := opn_curve Try.underlying24 (by kernel_rfl) rfl rfl rfl (by kernel_rfl) (by kernel_rfl) rfl rfl rfl Try.underlying22 Try.underlying3
end
set_option maxRecDepth 100000 in
theorem lifted (os : Os) (started : os.Started) (H : Type) (enc : TypeId × Value → H) :
    ReturnsInHanded {} Try.checked os 3 .any (Rows.shareAnswersSpec.pre6 enc Try.prog Try.f3 Rows.shareAnswersRow.domain false) (Rows.shareAnswersSpec.post enc Try.prog Try.f3 false true false false) := by
  refine returnsInHanded_of_change (C := Try.checked) own started (by kernel_rfl) Try.func3
    (ChangeSpec.witness6 (enc := enc) (C := Try.checked) false ⟨#[], #[.agg #[.slice none 0 0, .int .i64 0, .int .i64 0], .agg #[.slice none 0 0, .int .i64 0, .int .i64 0], .int .i64 0, .slice none 0 0], []⟩ 8 (by kernel_rfl) (by kernel_rfl) (by kernel_rfl) (by kernel_rfl)) ?_
  intro W base args ds gs before hval0 hW _ _
  have hval : ∀ (j : Nat) t v, Try.f3.params[j]? = some t → args[j]? = some v → Value.okWide Try.prog W .any base t v := hval0
  have hW' := hW
  obtain ⟨p, q, hA0, hV, rfl, _, _⟩ := hW
  have hA : DataW.TrodAll enc Try.prog W 0 (fun _ => true) true Try.f3.params.toList args.toList ds p := hA0
  have hA1 := hA
  obtain ⟨rfl, rfl⟩ := trodVars_none hV
  simp only [List.append_nil] at hW'
  have hlt : ∀ x ∈ p, x.block < W.heap.size := fun x hx => by simpa using hW'.lt x hx
  have hcarry : ∀ W', Below W.heap.size W W' → DataW.TrodAll enc Try.prog W' 0 (fun b => decide (b < W.heap.size)) true Try.f3.params.toList args.toList ds p := fun W' hb => carryAll laidOut readable hA1 hb hlt
  clear hA0 hval0 hA1
  rw [Try.params3] at hA
  obtain ⟨v0, vs0, d0, ds0, p0, q0, e0, rfl, e20, h0, t0⟩ := trodAll_cons hA
  obtain ⟨v1, vs1, d1, ds1, p1, q1, rfl, rfl, e21, h1, t1⟩ := trodAll_cons t0
  obtain ⟨v2, vs2, d2, ds2, p2, q2, rfl, rfl, e22, h2, t2⟩ := trodAll_cons t1
  obtain ⟨v3, vs3, d3, ds3, p3, q3, rfl, rfl, e23, h3, t3⟩ := trodAll_cons t2
  obtain ⟨rfl, rfl, _⟩ := trodAll_nil t3
  have hargs : args = #[v0, v1, v2, v3] := by rw [← Array.toArray_toList (xs := args), e0]
  subst hargs
  obtain ⟨s0, rfl, k0⟩ := opn_cv.top Try.underlying24 (hval 0 24 _ rfl rfl) h0
  obtain ⟨s1, rfl, k1⟩ := opn_cv.top Try.underlying24 (hval 1 24 _ rfl rfl) h1
  obtain ⟨z2, rfl, _, _, w2⟩ := open_int Try.underlying3 (hval 2 3 _ rfl rfl) h2
  have r2 : InR z2 := bounds_i64 w2
  obtain ⟨a3, cp3, zs3, rfl, c3, l3, m3, r3⟩ := open_flat Try.underlying22 (by decide) cells_ints flat_ints (hval 3 22 _ rfl rfl) h3
  have g3 : RS (roOf W) 1 encI a3 (zs3.map decI) := RS.ofFlat m3 l3 decI_enc
  have n3 : (zs3.map decI).length = zs3.length := by simp
  rw [← n3] at c3
  have hcall := lift_calls (P := Try.prog) (f := 3) (args := [.agg #[.slice s0.a s0.cv.vals.length s0.cap, .int .i64 s0.cv.per, .int .i64 s0.cv.inc], .agg #[.slice s1.a s1.cv.vals.length s1.cap, .int .i64 s1.cv.per, .int .i64 s1.cv.inc], .int .i64 z2, .slice a3 (zs3.map decI).length cp3]) (W := W) (ShareAnswers_F k0.1 k0.2.1 k1.1 k1.2.1 g3 c3 W)
  simp only [List.length_map] at hcall
  refine hcall.mono fun e W' ⟨he, hb⟩ => ?_
  subst he
  exact ⟨_, rfl, ⟨_, _, _, [], _, [], hW', trodAll_mk1 (shut_bool Try.underlying4 _), hcarry W' hb, rfl, hb.frame _, fun h => by cases h⟩⟩
end shareAnswers
theorem shareAnswers_holds : Rows.ShareAnswersSaid :=
  OpenClaim.holds_of_wide 3 Try.f3 rfl rfl rfl rfl rfl rfl rfl ⟨rfl, rfl, rfl, rfl, rfl⟩ rfl rfl rfl rfl rfl (by kernel_rfl) Try.func3 (by kernel_rfl)
    (of_decide_eq_true (by kernel_rfl)) (by unfold Func.isWrapper; first | (rw [if_pos (by decide +kernel)]; kernel_rfl) | (rw [if_neg (by decide +kernel)]; exact ⟨rfl, rfl⟩))
    (fun os started H enc _ => shareAnswers.lifted os started H enc)
end Go.Proofs.Ytnackbfnmhkodaa
