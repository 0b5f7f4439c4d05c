/- ShareZero: for every list of numbers the law returns true, and the list reads afterwards as it read before. No condition. -/
import Derived.Test.YtolmmfphdieilaaG6
/- Shares at theta 0, without others, of greater others. No condition. -/
set_option linter.unusedSimpArgs false
set_option linter.unusedVariables false
namespace Go.Proofs.Ytolmmfphdieilaa
open Go Go.RowKit Go.Proofs.Ytolmmfphdieilaa.K Go.Proofs.Ytolmmfphdieilaa.M

theorem fin_of17 {F : Nat → Int} {s p : Nat} {q : Int} (h : FC F s p q) : finB ⟨fvals F (s + p), p, q⟩ = true := by
  have hP := h.hP
  unfold finB
  dsimp only
  rw [fvals_len, fvals_nth F (by omega), bne_iff_ne]
  exact h.fin (by omega)

set_option maxHeartbeats 4000000 in
theorem ShareZero_F {R : Ro} {a : Option Addr} {c : Nat} {xs : List Int} (ha : RS R 1 encI a xs) (hc : xs.length ≤ c) (w0 : World) : K.Fn Try.prog 3 [.slice a xs.length c] w0 R [] (fun v _ _ => v = .bool true) := by
  refine Fn.enter (n := 142) Try.func3 rfl rfl (Nat.le_of_ble_eq_true rfl) rfl ?_
  refine W.seq ?_
  refine W.region _ ?_
  refine WG.run tab_ok 1 rfl ?_
  refine WG.nil ?_
  refine WE.nxt ?_
  refine W.seq ?_
  refine W.region _ ?_
  refine WG.run tab_ok 1 rfl ?_
  refine WL.call en10 rfl rfl (by decide) (CallOp.mkT rfl rfl rfl rfl) (New_C w0 _ hc) ?_
  rintro _ _ _ - ⟨b, rfl, rfl, rfl⟩
  have hz := ha.take 2000
  refine WG.run tab_ok 1 rfl ?_
  refine WG.nil ?_
  refine WE.nxt ?_
  refine W.seq ?_
  refine W.region _ ?_
  refine WG.run tab_ok 1 rfl ?_
  refine WL.callAt 0 en11 rfl rfl (by decide) (CallOp.mkT rfl rfl rfl rfl) rfl (Zero_C w0 hz (most := 5) (by decide) _) ?_
  rintro _ R1 _ _ hR1 ⟨fz1, kz1, n1, v1, rfl, hzv1, hsm1, hfn1, hz01, hcp1, rfl, rfl⟩
  have hz := hz.mono hR1
  refine WG.run tab_ok 1 rfl ?_
  refine WL.callAt 0 en11 rfl rfl (by decide) (CallOp.mkT rfl rfl rfl rfl) rfl (Zero_C w0 hz (most := 5) (by decide) _) ?_
  rintro _ R2 _ _ hR2 ⟨fz2, kz2, n2, v2, rfl, hzv2, hsm2, hfn2, hz02, hcp2, rfl, rfl⟩
  have hz := hz.mono hR2
  have hzv1 := hzv1.mono hR2
  refine WG.run tab_ok 1 rfl ?_
  refine WL.callAt 0 en12 rfl rfl (by decide) (CallOp.mkT rfl rfl rfl rfl) rfl (N_C w0 hz (by constructor <;> decide) _) ?_
  rintro _ _ _ _ - ⟨rfl, rfl, rfl, rfl⟩
  obtain ⟨th, hth, hth2⟩ : ∃ th : Nat, mod (nth (xs.take 2000) n2) 9 = (th : Int) ∧ th < 9 := by
    have := mod_range (nth (xs.take 2000) n2) (show (1 : Int) ≤ 9 by decide)
    exact ⟨(mod (nth (xs.take 2000) n2) 9).toNat, by omega, by omega⟩
  rw [hth]
  have h00 : cvF v1 0 ≤ cvF v2 0 := by
    have l1 := (valid_range hsm1.valid).2.1
    have l2 := (valid_range hsm2.valid).2.1
    rw [cvF_low (show 0 < v1.vals.length by omega), cvF_low (show 0 < v2.vals.length by omega), hz01, hz02]
    exact Int.le_refl _
  refine WL.ef rfl rfl (by decide) (Ef.alloc tab_ok rfl rfl (fun b4 => ?_))
  refine WL.ef rfl rfl (by decide) (Ef.alloc tab_ok rfl rfl (fun b5 => ?_))
  refine WL.efN rfl rfl (Ef.store0 1 tab_ok rfl rfl rfl rfl rfl rfl rfl rfl ?_)
  refine WL.efN rfl rfl (Ef.store0 0 tab_ok rfl rfl rfl rfl rfl rfl rfl rfl ?_)
  refine WG.run tab_ok 1 rfl ?_
  refine WG.nil ?_
  refine WE.nxt ?_
  refine W.seq ?_
  refine W.region _ ?_
  refine WL.call en13 rfl rfl (by decide) (CallOp.mkT rfl rfl rfl rfl) (Flat02_C (k := 0) (by decide) w0 _) ?_
  rintro _ R3 _ hR3 ⟨fz, fzc, rfl, hfz, hsubz⟩
  refine WL.subE hsubz ?_
  rw [flat_zero] at hfz ⊢
  unfold cvV
  dsimp only at hfz ⊢
  have hz := hz.mono hR3
  have hzv1 := hzv1.mono hR3
  have hzv2 := hzv2.mono hR3
  refine WG.run tab_ok 3 rfl ?_
  refine WL.ef rfl rfl (by decide) (Ef.alloc tab_ok rfl rfl (fun b7 => ?_))
  refine WL.efN rfl rfl (Ef.store0 0 tab_ok rfl rfl rfl rfl rfl rfl rfl rfl ?_)
  refine WG.run tab_ok 1 rfl ?_
  refine WG.nil ?_
  refine WE.nxt ?_
  refine W.seq ?_
  refine W.region _ ?_
  refine' WG.y rfl rfl (by decide) (Yl.load1 tab_ok rfl rfl rfl (fun _ => rfl) ?r1 rfl ?h1) ?_
  case r1 => (exact Rd.blk 2 rfl)
  case h1 => rfl
  refine' WG.y rfl rfl (by decide) (Yl.load1 tab_ok rfl rfl rfl (fun _ => rfl) ?r2 rfl ?h2) ?_
  case r2 => (exact Rd.blk 1 rfl)
  case h2 => rfl
  refine WL.call en14 rfl rfl (by decide) (CallOp.mkT rfl rfl rfl rfl) (SRestG_C (cf := v1) (cg := v2) (th := 0) hsm1.valid hzv1 hsm2.valid hzv2 (by decide) w0 _) ?_
  rintro _ R4 _ hR4 ⟨fx1, kx1, rfl, hfx1, hsubx1⟩
  refine WL.subE hsubx1 ?_
  unfold cvV
  have hz := hz.mono hR4
  have hzv1 := hzv1.mono hR4
  have hzv2 := hzv2.mono hR4
  have hfz := hfz.mono hR4
  refine WG.run tab_ok 3 rfl ?_
  refine WL.ef rfl rfl (by decide) (Ef.alloc tab_ok rfl rfl (fun b9 => ?_))
  refine WL.efN rfl rfl (Ef.store0 0 tab_ok rfl rfl rfl rfl rfl rfl rfl rfl ?_)
  refine WG.run tab_ok 1 rfl ?_
  refine WG.nil ?_
  refine WE.nxt ?_
  refine W.seq ?_
  refine W.region _ ?_
  refine' WG.y rfl rfl (by decide) (Yl.load1 tab_ok rfl rfl rfl (fun _ => rfl) ?r3 rfl ?h3) ?_
  case r3 => (exact Rd.blk 3 rfl)
  case h3 => rfl
  refine' WG.y rfl rfl (by decide) (Yl.load1 tab_ok rfl rfl rfl (fun _ => rfl) ?r4 rfl ?h4) ?_
  case r4 => (exact Rd.blk 2 rfl)
  case h4 => rfl
  refine WL.call en15 rfl rfl (by decide) (CallOp.mkT rfl rfl rfl rfl) (Above06_C hsm1.valid hzv1 hcp1 hsm2.valid hzv2 hcp2 hfn1 hfn2 h00 w0 _) ?_
  rintro _ R5 _ hR5 ⟨fx2, kx2, rfl, hfx2, hsubx2⟩
  refine WL.subE hsubx2 ?_
  unfold cvV
  have hz := hz.mono hR5
  have hzv1 := hzv1.mono hR5
  have hzv2 := hzv2.mono hR5
  have hfz := hfz.mono hR5
  have hfx1 := hfx1.mono hR5
  generalize (shareN (normR v1) (normR v2) 0) = qa at hfx1 hfx2 ⊢
  refine WG.run tab_ok 3 rfl ?_
  refine WL.ef rfl rfl (by decide) (Ef.alloc tab_ok rfl rfl (fun b11 => ?_))
  refine WL.efN rfl rfl (Ef.store0 0 tab_ok rfl rfl rfl rfl rfl rfl rfl rfl ?_)
  refine WG.run tab_ok 1 rfl ?_
  refine WG.nil ?_
  refine WE.nxt ?_
  refine W.seq ?_
  refine W.seq ?_
  refine W.region _ ?_
  refine WG.run tab_ok 4 rfl ?_
  refine WL.guardT rfl (by first | rfl | decide | simp) ?_
  refine' WG.y rfl rfl (by decide) (Yl.load1 tab_ok rfl rfl rfl (fun _ => rfl) ?r5 rfl ?h5) ?_
  case r5 => (exact Rd.blk 1 rfl)
  case h5 => rfl
  refine WL.guardT rfl (by first | rfl | decide | simp) ?_
  refine' WG.y rfl rfl (by decide) (Yl.load1 tab_ok rfl rfl rfl (fun _ => rfl) ?r6 rfl ?h6) ?_
  case r6 => (exact Rd.blk 0 rfl)
  case h6 => rfl
  refine WL.guardT rfl (by first | rfl | decide | simp) ?_
  refine WG.callV (v := .bool true) en16 rfl rfl (by decide) (CallOp.mk' rfl rfl rfl rfl) (fun _ => rfl) (fun hg => by have h := Same02_V (ca := kx1) (cb := kx2) (p1 := qa.1.per) (i1 := qa.1.inc) (p2 := qa.1.per) (i2 := qa.1.inc) hfx1 hfx2; rw [decide_eq_true ⟨rfl, rfl, rfl⟩] at h; exact h) ?_
  refine WL.guardT rfl (by first | rfl | decide | simp) ?_
  refine WG.y rfl rfl (by decide) (pureV_ok tab_ok rfl (fun _ => rfl)) ?_
  refine WG.y rfl rfl (by decide) (Yl.por rfl rfl rfl (fun _ => rfl) (by first | exact fun _ _ => rfl | ((try generalize decide ((t : Int) ≤ (th : Int)) = k5); (try generalize decide ((t : Int) > (th : Int)) = k6); (try generalize ((if t ≤ th then 0 else cvF v1 t) != 0) = k7); (try generalize ((if t ≤ th then 0 else cvF v1 t) != cvF v1 t) = k8); (try revert k5); (try revert k6); (try revert k7); (try revert k8); (try generalize (q1.2 == 0) = k1); (try generalize (q2.2 == 0) = k2); (try generalize (q1.2 != 0) = k3); (try generalize (q2.2 != 0) = k4); (try revert k1); (try revert k2); (try revert k3); (try revert k4); decide) | (intro h1 h2; simp_all))) ?_
  refine WG.nil ?_
  refine WE.nxt ?_
  refine W.cond rfl (fun hc0 => ?_) (fun hc0 => ?_)
  · try simp only [decide_eq_true_eq, decide_eq_false_iff_not, beq_iff_eq, bne_iff_ne, beq_eq_false_iff_ne, bne_eq_false_iff_eq, ne_eq, Bool.or_eq_true, Bool.or_eq_false_iff, Bool.and_eq_true, Bool.and_eq_false_imp, Bool.not_eq_true, Bool.not_eq_true', Bool.not_eq_false', Classical.not_not, Int.not_lt, Int.not_le, gt_iff_lt, ge_iff_le] at hc0
    (simp at hc0; done)
  · try simp only [decide_eq_true_eq, decide_eq_false_iff_not, beq_iff_eq, bne_iff_ne, beq_eq_false_iff_ne, bne_eq_false_iff_eq, ne_eq, Bool.or_eq_true, Bool.or_eq_false_iff, Bool.and_eq_true, Bool.and_eq_false_imp, Bool.not_eq_true, Bool.not_eq_true', Bool.not_eq_false', Classical.not_not, Int.not_lt, Int.not_le, gt_iff_lt, ge_iff_le] at hc0
    refine W.skip ?_
    refine WE.nxt ?_
    refine W.seq ?_
    refine W.region _ ?_
    refine' WG.y rfl rfl (by decide) (Yl.load1 tab_ok rfl rfl rfl (fun _ => rfl) ?r7 rfl ?h7) ?_
    case r7 => (exact Rd.blk 4 rfl)
    case h7 => rfl
    refine' WG.y rfl rfl (by decide) (Yl.load1 tab_ok rfl rfl rfl (fun _ => rfl) ?r8 rfl ?h8) ?_
    case r8 => (exact Rd.blk 2 rfl)
    case h8 => rfl
    refine WG.run tab_ok 1 rfl ?_
    refine WL.call en14 rfl rfl (by decide) (CallOp.mkT rfl rfl rfl rfl) (SRestG_C (cf := v1) (cg := zeroC) (th := th) hsm1.valid hzv1 zero_nrm.valid hfz (by omega) w0 _) ?_
    rintro _ R6 _ hR6 ⟨fx3, kx3, rfl, hfx3, hsubx3⟩
    refine WL.subE hsubx3 ?_
    unfold cvV
    obtain ⟨cz, hcz, hvz, hcvz⟩ := share_alone (th := th) hsm1 hfn1 (by omega)
    rw [show normR zeroC = zeroC from zero_nrm.norm, hcz] at hfx3 ⊢
    dsimp only at hfx3 ⊢
    have hz := hz.mono hR6
    have hzv1 := hzv1.mono hR6
    have hzv2 := hzv2.mono hR6
    refine WG.run tab_ok 3 rfl ?_
    refine WL.ef rfl rfl (by decide) (Ef.alloc tab_ok rfl rfl (fun b13 => ?_))
    refine WL.efN rfl rfl (Ef.store0 0 tab_ok rfl rfl rfl rfl rfl rfl rfl rfl ?_)
    refine WG.run tab_ok 1 rfl ?_
    refine WG.nil ?_
    refine WE.nxt ?_
    refine W.seq ?_
    refine W.seq ?_
    refine W.region _ ?_
    refine WG.run tab_ok 2 rfl ?_
    refine WG.nil ?_
    refine WE.nxt ?_
    refine W.condN rfl (fun hc1 => ?_) (fun hc1 => ?_)
    · try dsimp only at hc1
      (simp at hc1; done)
    · try dsimp only at hc1
      refine W.skip ?_
      refine WE.nxt ?_
      refine W.seq ?_
      refine W.seq ?_
      refine W.region _ ?_
      refine WG.run tab_ok 1 rfl ?_
      refine WG.nil ?_
      refine WE.nxt ?_
      refine W.block ?_
      refine W.loopK (β := Nat) (fun t => t ≤ 60) (fun t => [(15, true, .int .i64 (t : Int))]) [3, 4, 5, 6, 9, 11, 13] [_, _, _, _, _, _, _] [] _ rfl (fun t => []) (fun t => 60 - t) (0) (Nat.zero_le _) ⟨rfl, rfl, rfl, rfl, rfl, rfl, rfl, rfl, rfl⟩ qS ?_
      intro t hst
      dsimp only [zipE, setAll, List.cons_append, List.nil_append, List.set_cons_zero, List.set_cons_succ] at hst ⊢
      
      refine W.seq ?_
      refine W.seq ?_
      refine W.region _ ?_
      refine WG.run tab_ok 2 rfl ?_
      refine WG.nil ?_
      refine WE.nxt ?_
      refine W.condD rfl (fun hc2 => ?_) (fun hc2 => ?_)
      · try dsimp only at hc2
        refine W.skip ?_
        refine WE.nxt ?_
        refine W.seq ?_
        refine W.block ?_
        refine W.seq ?_
        refine W.region _ ?_
        refine' WG.y rfl rfl (by decide) (Yl.load1 tab_ok rfl rfl rfl (fun _ => rfl) ?r9 rfl ?h9) ?_
        case r9 => (exact Rd.blk 0 rfl)
        case h9 => rfl
        refine WG.run tab_ok 1 rfl ?_
        refine WG.callV (v := .tuple #[.int .i64 (if t ≤ th then 0 else cvF v1 t), .int .i64 0]) en17 rfl rfl (by decide) (CallOp.mk' rfl rfl rfl rfl) (fun _ => rfl) (fun hg => by have h := Value_V (fc := kx3) hvz hfx3 (t := t) (by omega); rw [hcvz] at h; exact h) ?_
        refine WG.run tab_ok 5 rfl ?_
        refine WG.nil ?_
        refine WE.nxt ?_
        refine W.seq ?_
        refine W.region _ ?_
        refine WG.run tab_ok 3 rfl ?_
        refine WG.y rfl rfl (by decide) (pureV_ok tab_ok rfl (by first | exact fun _ => rfl | exact fun h => h | ((try generalize decide ((t : Int) ≤ (th : Int)) = k5); (try generalize decide ((t : Int) > (th : Int)) = k6); (try generalize ((if t ≤ th then 0 else cvF v1 t) != 0) = k7); (try generalize ((if t ≤ th then 0 else cvF v1 t) != cvF v1 t) = k8); (try revert k5); (try revert k6); (try revert k7); (try revert k8); (try generalize (q1.2 == 0) = k1); (try generalize (q2.2 == 0) = k2); (try generalize (q1.2 != 0) = k3); (try generalize (q2.2 != 0) = k4); (try revert k1); (try revert k2); (try revert k3); (try revert k4); decide) | (intro h; simp_all))) ?_
        refine WG.y rfl rfl (by decide) (pureV_ok tab_ok rfl (by first | exact fun _ => rfl | exact fun h => h | ((try generalize decide ((t : Int) ≤ (th : Int)) = k5); (try generalize decide ((t : Int) > (th : Int)) = k6); (try generalize ((if t ≤ th then 0 else cvF v1 t) != 0) = k7); (try generalize ((if t ≤ th then 0 else cvF v1 t) != cvF v1 t) = k8); (try revert k5); (try revert k6); (try revert k7); (try revert k8); (try generalize (q1.2 == 0) = k1); (try generalize (q2.2 == 0) = k2); (try generalize (q1.2 != 0) = k3); (try generalize (q2.2 != 0) = k4); (try revert k1); (try revert k2); (try revert k3); (try revert k4); decide) | (intro h; simp_all))) ?_
        refine WG.y rfl rfl (by decide) (pureV_ok tab_ok rfl (by first | exact fun _ => rfl | exact fun h => h | ((try generalize decide ((t : Int) ≤ (th : Int)) = k5); (try generalize decide ((t : Int) > (th : Int)) = k6); (try generalize ((if t ≤ th then 0 else cvF v1 t) != 0) = k7); (try generalize ((if t ≤ th then 0 else cvF v1 t) != cvF v1 t) = k8); (try revert k5); (try revert k6); (try revert k7); (try revert k8); (try generalize (q1.2 == 0) = k1); (try generalize (q2.2 == 0) = k2); (try generalize (q1.2 != 0) = k3); (try generalize (q2.2 != 0) = k4); (try revert k1); (try revert k2); (try revert k3); (try revert k4); decide) | (intro h; simp_all))) ?_
        refine WG.y rfl rfl (by decide) (pureV_ok tab_ok rfl (by first | exact fun _ => rfl | exact fun h => h | ((try generalize decide ((t : Int) ≤ (th : Int)) = k5); (try generalize decide ((t : Int) > (th : Int)) = k6); (try generalize ((if t ≤ th then 0 else cvF v1 t) != 0) = k7); (try generalize ((if t ≤ th then 0 else cvF v1 t) != cvF v1 t) = k8); (try revert k5); (try revert k6); (try revert k7); (try revert k8); (try generalize (q1.2 == 0) = k1); (try generalize (q2.2 == 0) = k2); (try generalize (q1.2 != 0) = k3); (try generalize (q2.2 != 0) = k4); (try revert k1); (try revert k2); (try revert k3); (try revert k4); decide) | (intro h; simp_all))) ?_
        refine WG.y rfl rfl (by decide) (pureV_ok tab_ok rfl (by first | exact fun _ => rfl | exact fun h => h | ((try generalize decide ((t : Int) ≤ (th : Int)) = k5); (try generalize decide ((t : Int) > (th : Int)) = k6); (try generalize ((if t ≤ th then 0 else cvF v1 t) != 0) = k7); (try generalize ((if t ≤ th then 0 else cvF v1 t) != cvF v1 t) = k8); (try revert k5); (try revert k6); (try revert k7); (try revert k8); (try generalize (q1.2 == 0) = k1); (try generalize (q2.2 == 0) = k2); (try generalize (q1.2 != 0) = k3); (try generalize (q2.2 != 0) = k4); (try revert k1); (try revert k2); (try revert k3); (try revert k4); decide) | (intro h; simp_all))) ?_
        refine WG.y rfl rfl (by decide) (pureV_ok tab_ok rfl (by first | exact fun _ => rfl | exact fun h => h | ((try generalize decide ((t : Int) ≤ (th : Int)) = k5); (try generalize decide ((t : Int) > (th : Int)) = k6); (try generalize ((if t ≤ th then 0 else cvF v1 t) != 0) = k7); (try generalize ((if t ≤ th then 0 else cvF v1 t) != cvF v1 t) = k8); (try revert k5); (try revert k6); (try revert k7); (try revert k8); (try generalize (q1.2 == 0) = k1); (try generalize (q2.2 == 0) = k2); (try generalize (q1.2 != 0) = k3); (try generalize (q2.2 != 0) = k4); (try revert k1); (try revert k2); (try revert k3); (try revert k4); decide) | (intro h; simp_all))) ?_
        refine WG.y rfl rfl (by decide) (Yl.pand rfl rfl rfl (by first | exact fun _ => rfl | exact fun h => h | ((try generalize decide ((t : Int) ≤ (th : Int)) = k5); (try generalize decide ((t : Int) > (th : Int)) = k6); (try generalize ((if t ≤ th then 0 else cvF v1 t) != 0) = k7); (try generalize ((if t ≤ th then 0 else cvF v1 t) != cvF v1 t) = k8); (try revert k5); (try revert k6); (try revert k7); (try revert k8); (try generalize (q1.2 == 0) = k1); (try generalize (q2.2 == 0) = k2); (try generalize (q1.2 != 0) = k3); (try generalize (q2.2 != 0) = k4); (try revert k1); (try revert k2); (try revert k3); (try revert k4); decide) | (intro h; simp_all)) (by first | exact fun _ _ => rfl | ((try generalize decide ((t : Int) ≤ (th : Int)) = k5); (try generalize decide ((t : Int) > (th : Int)) = k6); (try generalize ((if t ≤ th then 0 else cvF v1 t) != 0) = k7); (try generalize ((if t ≤ th then 0 else cvF v1 t) != cvF v1 t) = k8); (try revert k5); (try revert k6); (try revert k7); (try revert k8); (try generalize (q1.2 == 0) = k1); (try generalize (q2.2 == 0) = k2); (try generalize (q1.2 != 0) = k3); (try generalize (q2.2 != 0) = k4); (try revert k1); (try revert k2); (try revert k3); (try revert k4); decide) | (intro h1 h2; simp_all))) ?_
        refine WG.y rfl rfl (by decide) (Yl.por rfl rfl rfl (fun _ => rfl) (by first | exact fun _ _ => rfl | ((try generalize decide ((t : Int) ≤ (th : Int)) = k5); (try generalize decide ((t : Int) > (th : Int)) = k6); (try generalize ((if t ≤ th then 0 else cvF v1 t) != 0) = k7); (try generalize ((if t ≤ th then 0 else cvF v1 t) != cvF v1 t) = k8); (try revert k5); (try revert k6); (try revert k7); (try revert k8); (try generalize (q1.2 == 0) = k1); (try generalize (q2.2 == 0) = k2); (try generalize (q1.2 != 0) = k3); (try generalize (q2.2 != 0) = k4); (try revert k1); (try revert k2); (try revert k3); (try revert k4); decide) | (intro h1 h2; simp_all))) ?_
        refine WG.run tab_ok 1 rfl ?_
        refine WG.y rfl rfl (by decide) (pureV_ok tab_ok rfl (by first | exact fun _ => rfl | exact fun h => h | ((try generalize decide ((t : Int) ≤ (th : Int)) = k5); (try generalize decide ((t : Int) > (th : Int)) = k6); (try generalize ((if t ≤ th then 0 else cvF v1 t) != 0) = k7); (try generalize ((if t ≤ th then 0 else cvF v1 t) != cvF v1 t) = k8); (try revert k5); (try revert k6); (try revert k7); (try revert k8); (try generalize (q1.2 == 0) = k1); (try generalize (q2.2 == 0) = k2); (try generalize (q1.2 != 0) = k3); (try generalize (q2.2 != 0) = k4); (try revert k1); (try revert k2); (try revert k3); (try revert k4); decide) | (intro h; simp_all))) ?_
        refine WG.y rfl rfl (by decide) (pureV_ok tab_ok rfl (by first | exact fun _ => rfl | exact fun h => h | ((try generalize decide ((t : Int) ≤ (th : Int)) = k5); (try generalize decide ((t : Int) > (th : Int)) = k6); (try generalize ((if t ≤ th then 0 else cvF v1 t) != 0) = k7); (try generalize ((if t ≤ th then 0 else cvF v1 t) != cvF v1 t) = k8); (try revert k5); (try revert k6); (try revert k7); (try revert k8); (try generalize (q1.2 == 0) = k1); (try generalize (q2.2 == 0) = k2); (try generalize (q1.2 != 0) = k3); (try generalize (q2.2 != 0) = k4); (try revert k1); (try revert k2); (try revert k3); (try revert k4); decide) | (intro h; simp_all))) ?_
        refine WG.y rfl rfl (by decide) (pureV_ok tab_ok rfl (by first | exact fun _ => rfl | exact fun h => h | ((try generalize decide ((t : Int) ≤ (th : Int)) = k5); (try generalize decide ((t : Int) > (th : Int)) = k6); (try generalize ((if t ≤ th then 0 else cvF v1 t) != 0) = k7); (try generalize ((if t ≤ th then 0 else cvF v1 t) != cvF v1 t) = k8); (try revert k5); (try revert k6); (try revert k7); (try revert k8); (try generalize (q1.2 == 0) = k1); (try generalize (q2.2 == 0) = k2); (try generalize (q1.2 != 0) = k3); (try generalize (q2.2 != 0) = k4); (try revert k1); (try revert k2); (try revert k3); (try revert k4); decide) | (intro h; simp_all))) ?_
        refine WG.y rfl rfl (by decide) (pureV_ok tab_ok rfl (by first | exact fun _ => rfl | exact fun h => h | ((try generalize decide ((t : Int) ≤ (th : Int)) = k5); (try generalize decide ((t : Int) > (th : Int)) = k6); (try generalize ((if t ≤ th then 0 else cvF v1 t) != 0) = k7); (try generalize ((if t ≤ th then 0 else cvF v1 t) != cvF v1 t) = k8); (try revert k5); (try revert k6); (try revert k7); (try revert k8); (try generalize (q1.2 == 0) = k1); (try generalize (q2.2 == 0) = k2); (try generalize (q1.2 != 0) = k3); (try generalize (q2.2 != 0) = k4); (try revert k1); (try revert k2); (try revert k3); (try revert k4); decide) | (intro h; simp_all))) ?_
        refine WG.y rfl rfl (by decide) (pureV_ok tab_ok rfl (by first | exact fun _ => rfl | exact fun h => h | ((try generalize decide ((t : Int) ≤ (th : Int)) = k5); (try generalize decide ((t : Int) > (th : Int)) = k6); (try generalize ((if t ≤ th then 0 else cvF v1 t) != 0) = k7); (try generalize ((if t ≤ th then 0 else cvF v1 t) != cvF v1 t) = k8); (try revert k5); (try revert k6); (try revert k7); (try revert k8); (try generalize (q1.2 == 0) = k1); (try generalize (q2.2 == 0) = k2); (try generalize (q1.2 != 0) = k3); (try generalize (q2.2 != 0) = k4); (try revert k1); (try revert k2); (try revert k3); (try revert k4); decide) | (intro h; simp_all))) ?_
        refine' WG.y rfl rfl (by decide) (Yl.loadG tab_ok rfl rfl rfl (by first | exact fun _ => rfl | exact fun h => h | ((try generalize decide ((t : Int) ≤ (th : Int)) = k5); (try generalize decide ((t : Int) > (th : Int)) = k6); (try generalize ((if t ≤ th then 0 else cvF v1 t) != 0) = k7); (try generalize ((if t ≤ th then 0 else cvF v1 t) != cvF v1 t) = k8); (try revert k5); (try revert k6); (try revert k7); (try revert k8); (try generalize (q1.2 == 0) = k1); (try generalize (q2.2 == 0) = k2); (try generalize (q1.2 != 0) = k3); (try generalize (q2.2 != 0) = k4); (try revert k1); (try revert k2); (try revert k3); (try revert k4); decide) | (intro h; simp_all)) ?r10 rfl ?h10 ?g10) ?_
        case r10 => (exact Rd.blkC 5 rfl)
        case h10 => rfl
        case g10 => exact fun _ => trivial
        refine WG.y rfl rfl (by decide) (pureV_ok tab_ok rfl (by first | exact fun _ => rfl | exact fun h => h | ((try generalize decide ((t : Int) ≤ (th : Int)) = k5); (try generalize decide ((t : Int) > (th : Int)) = k6); (try generalize ((if t ≤ th then 0 else cvF v1 t) != 0) = k7); (try generalize ((if t ≤ th then 0 else cvF v1 t) != cvF v1 t) = k8); (try revert k5); (try revert k6); (try revert k7); (try revert k8); (try generalize (q1.2 == 0) = k1); (try generalize (q2.2 == 0) = k2); (try generalize (q1.2 != 0) = k3); (try generalize (q2.2 != 0) = k4); (try revert k1); (try revert k2); (try revert k3); (try revert k4); decide) | (intro h; simp_all))) ?_
        refine WG.callV en18 rfl rfl (by decide) (CallOp.mk' rfl rfl rfl rfl) (by first | exact fun _ => rfl | exact fun h => h | ((try generalize decide ((t : Int) ≤ (th : Int)) = k5); (try generalize decide ((t : Int) > (th : Int)) = k6); (try generalize ((if t ≤ th then 0 else cvF v1 t) != 0) = k7); (try generalize ((if t ≤ th then 0 else cvF v1 t) != cvF v1 t) = k8); (try revert k5); (try revert k6); (try revert k7); (try revert k8); (try generalize (q1.2 == 0) = k1); (try generalize (q2.2 == 0) = k2); (try generalize (q1.2 != 0) = k3); (try generalize (q2.2 != 0) = k4); (try revert k1); (try revert k2); (try revert k3); (try revert k4); decide) | (intro h; simp_all)) (fun hg => AtG_V hsm1.valid hzv1 (t := t) (by omega)) ?_
        refine WG.y rfl rfl (by decide) (pureV_ok tab_ok rfl (by first | exact fun _ => rfl | exact fun h => h | ((try generalize decide ((t : Int) ≤ (th : Int)) = k5); (try generalize decide ((t : Int) > (th : Int)) = k6); (try generalize ((if t ≤ th then 0 else cvF v1 t) != 0) = k7); (try generalize ((if t ≤ th then 0 else cvF v1 t) != cvF v1 t) = k8); (try revert k5); (try revert k6); (try revert k7); (try revert k8); (try generalize (q1.2 == 0) = k1); (try generalize (q2.2 == 0) = k2); (try generalize (q1.2 != 0) = k3); (try generalize (q2.2 != 0) = k4); (try revert k1); (try revert k2); (try revert k3); (try revert k4); decide) | (intro h; simp_all))) ?_
        refine WG.y rfl rfl (by decide) (Yl.pand rfl rfl rfl (by first | exact fun _ => rfl | exact fun h => h | ((try generalize decide ((t : Int) ≤ (th : Int)) = k5); (try generalize decide ((t : Int) > (th : Int)) = k6); (try generalize ((if t ≤ th then 0 else cvF v1 t) != 0) = k7); (try generalize ((if t ≤ th then 0 else cvF v1 t) != cvF v1 t) = k8); (try revert k5); (try revert k6); (try revert k7); (try revert k8); (try generalize (q1.2 == 0) = k1); (try generalize (q2.2 == 0) = k2); (try generalize (q1.2 != 0) = k3); (try generalize (q2.2 != 0) = k4); (try revert k1); (try revert k2); (try revert k3); (try revert k4); decide) | (intro h; simp_all)) (by first | exact fun _ _ => rfl | ((try generalize decide ((t : Int) ≤ (th : Int)) = k5); (try generalize decide ((t : Int) > (th : Int)) = k6); (try generalize ((if t ≤ th then 0 else cvF v1 t) != 0) = k7); (try generalize ((if t ≤ th then 0 else cvF v1 t) != cvF v1 t) = k8); (try revert k5); (try revert k6); (try revert k7); (try revert k8); (try generalize (q1.2 == 0) = k1); (try generalize (q2.2 == 0) = k2); (try generalize (q1.2 != 0) = k3); (try generalize (q2.2 != 0) = k4); (try revert k1); (try revert k2); (try revert k3); (try revert k4); decide) | (intro h1 h2; simp_all))) ?_
        refine WG.y rfl rfl (by decide) (Yl.por rfl rfl rfl (fun _ => rfl) (by first | exact fun _ _ => rfl | ((try generalize decide ((t : Int) ≤ (th : Int)) = k5); (try generalize decide ((t : Int) > (th : Int)) = k6); (try generalize ((if t ≤ th then 0 else cvF v1 t) != 0) = k7); (try generalize ((if t ≤ th then 0 else cvF v1 t) != cvF v1 t) = k8); (try revert k5); (try revert k6); (try revert k7); (try revert k8); (try generalize (q1.2 == 0) = k1); (try generalize (q2.2 == 0) = k2); (try generalize (q1.2 != 0) = k3); (try generalize (q2.2 != 0) = k4); (try revert k1); (try revert k2); (try revert k3); (try revert k4); decide) | (intro h1 h2; simp_all))) ?_
        refine WG.nil ?_
        refine WE.nxt ?_
        refine W.cond rfl (fun hc3 => ?_) (fun hc3 => ?_)
        · try simp only [decide_eq_true_eq, decide_eq_false_iff_not, beq_iff_eq, bne_iff_ne, beq_eq_false_iff_ne, bne_eq_false_iff_eq, ne_eq, Bool.or_eq_true, Bool.or_eq_false_iff, Bool.and_eq_true, Bool.and_eq_false_imp, Bool.not_eq_true, Bool.not_eq_true', Bool.not_eq_false', Classical.not_not, Int.not_lt, Int.not_le, gt_iff_lt, ge_iff_le] at hc3
          exfalso
          by_cases h : t ≤ th
          · have h2 : ¬ th < t := by omega
            simp [h, h2] at hc3
          · have h2 : th < t := by omega
            simp [h, h2] at hc3
        · try simp only [decide_eq_true_eq, decide_eq_false_iff_not, beq_iff_eq, bne_iff_ne, beq_eq_false_iff_ne, bne_eq_false_iff_eq, ne_eq, Bool.or_eq_true, Bool.or_eq_false_iff, Bool.and_eq_true, Bool.and_eq_false_imp, Bool.not_eq_true, Bool.not_eq_true', Bool.not_eq_false', Classical.not_not, Int.not_lt, Int.not_le, gt_iff_lt, ge_iff_le] at hc3
          refine W.skip ?_
          refine WE.blk _ ?_
          refine WE.nxt ?_
          refine W.region _ ?_
          refine WG.run tab_ok 1 rfl ?_
          refine WG.y rfl rfl (by decide) (Yl.add rfl rfl rfl (fun _ => rfl) (by intro _; constructor <;> (try dsimp only) <;> omega)) ?_
          refine WG.run tab_ok 1 rfl ?_
          refine WG.nil ?_
          refine WE.again (t + 1) (by omega) (by (try dsimp only); omega) ⟨rfl, rfl, rfl, rfl, rfl, rfl, rfl, rfl, rfl⟩ (RLe.refl _) qS
      · try dsimp only at hc2
        obtain rfl : t = 60 := by omega
        refine W.exit ?_
        refine WE.then_exit ?_
        refine WE.then_exit ?_
        refine WE.blk_exit ?_
        refine WE.nxt ?_
        refine W.freezeBlk 4 rfl ?_
        intro R7 hR7 hb5
        refine W.freezeBlk 4 rfl ?_
        intro R8 hR8 hb4
        have hb5 := hR8 _ _ hb5
        have hR78 := hR7.trans hR8
        have hz := hz.mono hR78
        have hzv1 := hzv1.mono hR78
        have hzv2 := hzv2.mono hR78
        refine W.seqCut (β := Ro × Nat × Nat × Nat × Option Addr × Nat × Cv) (fun (Rk, b18, b11, b9, fm, km, m) => RLe R8 Rk ∧ RS Rk 1 encI fm m.vals ∧ validB m = true ∧ finB m = true ∧ ∀ t, cvF v2 t ≤ cvF m t) (fun (Rk, b18, b11, b9, fm, km, m) => [(4, true, .pointer (some ⟨b4, 0, none⟩)), (5, true, .pointer (some ⟨b5, 0, none⟩)), (6, true, .int .i64 (th : Int)), (9, true, .pointer (some ⟨b9, 0, none⟩)), (11, true, .pointer (some ⟨b11, 0, none⟩)), (18, true, .pointer (some ⟨b18, 0, none⟩)), (19, true, .int .i64 0)]) (fun (Rk, _) => Rk) (fun (_, b18, b11, b9, fm, km, m) => [.blk b18 [.slice fm m.vals.length km, .int .i64 m.per, .int .i64 m.inc], .blk b11 [.slice fx2 qa.1.vals.length kx2, .int .i64 qa.1.per, .int .i64 qa.1.inc], .blk b9 [.slice fx1 qa.1.vals.length kx1, .int .i64 qa.1.per, .int .i64 qa.1.inc]]) ?_ ?_
        ·
          intro zz hst
          obtain ⟨Rk, b18, b11, b9, fm, km, m⟩ := zz
          obtain ⟨hRk, hm, hvm, hfm, hlem⟩ := hst
          dsimp only at hRk hm hvm hfm hlem ⊢
          have hb4 := hRk _ _ hb4
          have hb5 := hRk _ _ hb5
          have hzv1 := hzv1.mono hRk
          have hzv2 := hzv2.mono hRk
          refine W.seq ?_
          refine W.region _ ?_
          refine' WG.y rfl rfl (by decide) (Yl.load1 tab_ok rfl rfl rfl (fun _ => rfl) ?r11 rfl ?h11) ?_
          case r11 => (exact Rd.ro (by assumption))
          case h11 => rfl
          refine' WG.y rfl rfl (by decide) (Yl.load1 tab_ok rfl rfl rfl (fun _ => rfl) ?r12 rfl ?h12) ?_
          case r12 => (exact Rd.ro (by assumption))
          case h12 => rfl
          refine WG.run tab_ok 1 rfl ?_
          refine WL.call en14 rfl rfl (by decide) (CallOp.mkT rfl rfl rfl rfl) (SRestG_C (cf := v1) (cg := v2) (th := th) hsm1.valid hzv1 hsm2.valid hzv2 (by omega) w0 _) ?_
          rintro _ R10 _ hR10 ⟨fx4, kx4, rfl, hfx4, hsubx4⟩
          refine WL.subE hsubx4 ?_
          unfold cvV
          have hb4 := hR10 _ _ hb4
          have hb5 := hR10 _ _ hb5
          have hzv1 := hzv1.mono hR10
          have hzv2 := hzv2.mono hR10
          have hm := hm.mono hR10
          refine WG.run tab_ok 3 rfl ?_
          refine WL.efN rfl rfl (Ef.store0 2 tab_ok rfl rfl rfl rfl rfl rfl rfl rfl ?_)
          refine WG.run tab_ok 1 rfl ?_
          refine WG.nil ?_
          refine WE.nxt ?_
          refine W.seq ?_
          refine W.region _ ?_
          refine' WG.y rfl rfl (by decide) (Yl.load1 tab_ok rfl rfl rfl (fun _ => rfl) ?r13 rfl ?h13) ?_
          case r13 => (exact Rd.ro (by assumption))
          case h13 => rfl
          refine' WG.y rfl rfl (by decide) (Yl.load1 tab_ok rfl rfl rfl (fun _ => rfl) ?r14 rfl ?h14) ?_
          case r14 => (exact Rd.blk 0 rfl)
          case h14 => rfl
          refine WG.run tab_ok 1 rfl ?_
          refine WL.call en14 rfl rfl (by decide) (CallOp.mkT rfl rfl rfl rfl) (SRestG_C (cf := v1) (cg := m) (th := th) hsm1.valid hzv1 hvm hm (by omega) w0 _) ?_
          rintro _ R11 _ hR11 ⟨fx5, kx5, rfl, hfx5, hsubx5⟩
          refine WL.subE hsubx5 ?_
          unfold cvV
          have n1 := norm_valid hsm1.valid
          have n2 := norm_valid hsm2.valid
          have n3 := norm_valid hvm
          have g1 : finB (normR v1) = true := by rw [n1.2.2.2.1]; exact hfn1
          have g2 : finB (normR v2) = true := by rw [n2.2.2.2.1]; exact hfn2
          have g3 : finB (normR m) = true := by rw [n3.2.2.2.1]; exact hfm
          have hzv1 := hzv1.mono hR11
          have hfx4 := hfx4.mono hR11
          refine WG.run tab_ok 3 rfl ?_
          refine WL.efN rfl rfl (Ef.store0 1 tab_ok rfl rfl rfl rfl rfl rfl rfl rfl ?_)
          refine WG.run tab_ok 1 rfl ?_
          refine WG.nil ?_
          refine WE.nxt ?_
          refine W.seq ?_
          have hat0 : ((shareN (normR v1) (normR v2) th).2 == 0) = true → FnV Try.prog 18 [.agg #[.slice fx4 (shareN (normR v1) (normR v2) th).1.vals.length kx4, .int .i64 (shareN (normR v1) (normR v2) th).1.per, .int .i64 (shareN (normR v1) (normR v2) th).1.inc], .int .i64 (th : Int)] R11 (.int .i64 0) := fun h => by
            obtain ⟨y1, y2, y3, y4⟩ := share_inf (th := th) n1.1 n2.1 g1 g2 (Prod.ext rfl (eq_of_beq h) : (shareN (normR v1) (normR v2) th) = ((shareN (normR v1) (normR v2) th).1, 0))
            have h5 := AtG_V (fc := kx4) y1 hfx4 (t := th) (by omega)
            rw [y3 th (Nat.le_refl _)] at h5
            exact h5
          have hmost : ((shareN (normR v1) (normR m) th).2 == 0) = true → ((shareN (normR v1) (normR v2) th).2 == 0) = true → FnV Try.prog 20 [.agg #[.slice fx5 (shareN (normR v1) (normR m) th).1.vals.length kx5, .int .i64 (shareN (normR v1) (normR m) th).1.per, .int .i64 (shareN (normR v1) (normR m) th).1.inc], .agg #[.slice fx4 (shareN (normR v1) (normR v2) th).1.vals.length kx4, .int .i64 (shareN (normR v1) (normR v2) th).1.per, .int .i64 (shareN (normR v1) (normR v2) th).1.inc]] R11 (.bool true) := fun hC hB => by
            have h1 : (shareN (normR v1) (normR v2) th) = ((shareN (normR v1) (normR v2) th).1, 0) := Prod.ext rfl (eq_of_beq hB)
            have h2 : (shareN (normR v1) (normR m) th) = ((shareN (normR v1) (normR m) th).1, 0) := Prod.ext rfl (eq_of_beq hC)
            obtain ⟨y1, y2, _, _⟩ := share_inf (th := th) n1.1 n2.1 g1 g2 h1
            obtain ⟨z1, z2, _, _⟩ := share_inf (th := th) n1.1 n3.1 g1 g3 h2
            have hle := share_less (th := th) n1.1 n2.1 n3.1 g1 g2 g3 (fun t => by rw [n2.2.1, n3.2.1]; exact hlem t) h1 h2
            have k1 := hfx4
            have k2 := hfx5
            generalize (shareN (normR v1) (normR v2) th).1 = cB at k1 y1 y2 hle ⊢
            generalize (shareN (normR v1) (normR m) th).1 = cC at k2 z1 z2 hle ⊢
            rcases valid_cases y1 with ⟨S1, P1, e1, _, p1, f1, _⟩ | ⟨_, _, _, _, _, _, _, f⟩
            · rcases valid_cases z1 with ⟨S2, P2, e2, _, p2, f2, _⟩ | ⟨_, _, _, _, _, _, _, f⟩
              · generalize cvF cB = FB at e1 f1 hle
                generalize cvF cC = FC2 at e2 f2 hle
                generalize cB.inc = iB at e1 f1
                generalize cC.inc = iC at e2 f2
                subst e1
                subst e2
                exact AtMost_V k2 k1 f2.valid' f1.valid' f2.hg f1.hg (fun t ht => ⟨f2.nonneg t, by have := f2.bound t; omega⟩) (fun t ht => ⟨f1.nonneg t, by have := f1.bound t; omega⟩) hle
              · rw [z2] at f; cases f
            · rw [y2] at f; cases f
          generalize (shareN (normR v1) (normR v2) th) = q1 at *
          generalize (shareN (normR v1) (normR m) th) = q2 at *
          refine W.seq ?_
          refine W.region _ ?_
          refine WG.run tab_ok 3 rfl ?_
          refine WG.y rfl rfl (by decide) (pureV_ok tab_ok rfl (by first | exact fun _ => rfl | exact fun h => h | ((try generalize decide ((t : Int) ≤ (th : Int)) = k5); (try generalize decide ((t : Int) > (th : Int)) = k6); (try generalize ((if t ≤ th then 0 else cvF v1 t) != 0) = k7); (try generalize ((if t ≤ th then 0 else cvF v1 t) != cvF v1 t) = k8); (try revert k5); (try revert k6); (try revert k7); (try revert k8); (try generalize (q1.2 == 0) = k1); (try generalize (q2.2 == 0) = k2); (try generalize (q1.2 != 0) = k3); (try generalize (q2.2 != 0) = k4); (try revert k1); (try revert k2); (try revert k3); (try revert k4); decide) | (intro h; simp_all))) ?_
          refine WG.y rfl rfl (by decide) (pureV_ok tab_ok rfl (by first | exact fun _ => rfl | exact fun h => h | ((try generalize decide ((t : Int) ≤ (th : Int)) = k5); (try generalize decide ((t : Int) > (th : Int)) = k6); (try generalize ((if t ≤ th then 0 else cvF v1 t) != 0) = k7); (try generalize ((if t ≤ th then 0 else cvF v1 t) != cvF v1 t) = k8); (try revert k5); (try revert k6); (try revert k7); (try revert k8); (try generalize (q1.2 == 0) = k1); (try generalize (q2.2 == 0) = k2); (try generalize (q1.2 != 0) = k3); (try generalize (q2.2 != 0) = k4); (try revert k1); (try revert k2); (try revert k3); (try revert k4); decide) | (intro h; simp_all))) ?_
          refine WG.y rfl rfl (by decide) (pureV_ok tab_ok rfl (by first | exact fun _ => rfl | exact fun h => h | ((try generalize decide ((t : Int) ≤ (th : Int)) = k5); (try generalize decide ((t : Int) > (th : Int)) = k6); (try generalize ((if t ≤ th then 0 else cvF v1 t) != 0) = k7); (try generalize ((if t ≤ th then 0 else cvF v1 t) != cvF v1 t) = k8); (try revert k5); (try revert k6); (try revert k7); (try revert k8); (try generalize (q1.2 == 0) = k1); (try generalize (q2.2 == 0) = k2); (try generalize (q1.2 != 0) = k3); (try generalize (q2.2 != 0) = k4); (try revert k1); (try revert k2); (try revert k3); (try revert k4); decide) | (intro h; simp_all))) ?_
          refine' WG.y rfl rfl (by decide) (Yl.loadG tab_ok rfl rfl rfl (by first | exact fun _ => rfl | exact fun h => h | ((try generalize decide ((t : Int) ≤ (th : Int)) = k5); (try generalize decide ((t : Int) > (th : Int)) = k6); (try generalize ((if t ≤ th then 0 else cvF v1 t) != 0) = k7); (try generalize ((if t ≤ th then 0 else cvF v1 t) != cvF v1 t) = k8); (try revert k5); (try revert k6); (try revert k7); (try revert k8); (try generalize (q1.2 == 0) = k1); (try generalize (q2.2 == 0) = k2); (try generalize (q1.2 != 0) = k3); (try generalize (q2.2 != 0) = k4); (try revert k1); (try revert k2); (try revert k3); (try revert k4); decide) | (intro h; simp_all)) ?r15 rfl ?h15 ?g15) ?_
          case r15 => (exact Rd.blkC 2 rfl)
          case h15 => rfl
          case g15 => exact fun _ => trivial
          refine WG.y rfl rfl (by decide) (pureV_ok tab_ok rfl (by first | exact fun _ => rfl | exact fun h => h | ((try generalize decide ((t : Int) ≤ (th : Int)) = k5); (try generalize decide ((t : Int) > (th : Int)) = k6); (try generalize ((if t ≤ th then 0 else cvF v1 t) != 0) = k7); (try generalize ((if t ≤ th then 0 else cvF v1 t) != cvF v1 t) = k8); (try revert k5); (try revert k6); (try revert k7); (try revert k8); (try generalize (q1.2 == 0) = k1); (try generalize (q2.2 == 0) = k2); (try generalize (q1.2 != 0) = k3); (try generalize (q2.2 != 0) = k4); (try revert k1); (try revert k2); (try revert k3); (try revert k4); decide) | (intro h; simp_all))) ?_
          refine WG.callV (v := .int .i64 0) en18 rfl rfl (by decide) (CallOp.mk' rfl rfl rfl rfl) (by first | exact fun _ => rfl | exact fun h => h | ((try generalize decide ((t : Int) ≤ (th : Int)) = k5); (try generalize decide ((t : Int) > (th : Int)) = k6); (try generalize ((if t ≤ th then 0 else cvF v1 t) != 0) = k7); (try generalize ((if t ≤ th then 0 else cvF v1 t) != cvF v1 t) = k8); (try revert k5); (try revert k6); (try revert k7); (try revert k8); (try generalize (q1.2 == 0) = k1); (try generalize (q2.2 == 0) = k2); (try generalize (q1.2 != 0) = k3); (try generalize (q2.2 != 0) = k4); (try revert k1); (try revert k2); (try revert k3); (try revert k4); decide) | (intro h; simp_all)) (fun hg => hat0 (by simp at hg; simp_all)) ?_
          refine WG.y rfl rfl (by decide) (pureV_ok tab_ok rfl (by first | exact fun _ => rfl | exact fun h => h | ((try generalize decide ((t : Int) ≤ (th : Int)) = k5); (try generalize decide ((t : Int) > (th : Int)) = k6); (try generalize ((if t ≤ th then 0 else cvF v1 t) != 0) = k7); (try generalize ((if t ≤ th then 0 else cvF v1 t) != cvF v1 t) = k8); (try revert k5); (try revert k6); (try revert k7); (try revert k8); (try generalize (q1.2 == 0) = k1); (try generalize (q2.2 == 0) = k2); (try generalize (q1.2 != 0) = k3); (try generalize (q2.2 != 0) = k4); (try revert k1); (try revert k2); (try revert k3); (try revert k4); decide) | (intro h; simp_all))) ?_
          refine WG.y rfl rfl (by decide) (Yl.pand rfl rfl rfl (by first | exact fun _ => rfl | exact fun h => h | ((try generalize decide ((t : Int) ≤ (th : Int)) = k5); (try generalize decide ((t : Int) > (th : Int)) = k6); (try generalize ((if t ≤ th then 0 else cvF v1 t) != 0) = k7); (try generalize ((if t ≤ th then 0 else cvF v1 t) != cvF v1 t) = k8); (try revert k5); (try revert k6); (try revert k7); (try revert k8); (try generalize (q1.2 == 0) = k1); (try generalize (q2.2 == 0) = k2); (try generalize (q1.2 != 0) = k3); (try generalize (q2.2 != 0) = k4); (try revert k1); (try revert k2); (try revert k3); (try revert k4); decide) | (intro h; simp_all)) (by first | exact fun _ _ => rfl | ((try generalize decide ((t : Int) ≤ (th : Int)) = k5); (try generalize decide ((t : Int) > (th : Int)) = k6); (try generalize ((if t ≤ th then 0 else cvF v1 t) != 0) = k7); (try generalize ((if t ≤ th then 0 else cvF v1 t) != cvF v1 t) = k8); (try revert k5); (try revert k6); (try revert k7); (try revert k8); (try generalize (q1.2 == 0) = k1); (try generalize (q2.2 == 0) = k2); (try generalize (q1.2 != 0) = k3); (try generalize (q2.2 != 0) = k4); (try revert k1); (try revert k2); (try revert k3); (try revert k4); decide) | (intro h1 h2; simp_all))) ?_
          refine WG.y rfl rfl (by decide) (Yl.por rfl rfl rfl (fun _ => rfl) (by first | exact fun _ _ => rfl | ((try generalize decide ((t : Int) ≤ (th : Int)) = k5); (try generalize decide ((t : Int) > (th : Int)) = k6); (try generalize ((if t ≤ th then 0 else cvF v1 t) != 0) = k7); (try generalize ((if t ≤ th then 0 else cvF v1 t) != cvF v1 t) = k8); (try revert k5); (try revert k6); (try revert k7); (try revert k8); (try generalize (q1.2 == 0) = k1); (try generalize (q2.2 == 0) = k2); (try generalize (q1.2 != 0) = k3); (try generalize (q2.2 != 0) = k4); (try revert k1); (try revert k2); (try revert k3); (try revert k4); decide) | (intro h1 h2; simp_all))) ?_
          refine WG.nil ?_
          refine WE.nxt ?_
          refine W.cond rfl (fun hc4 => ?_) (fun hc4 => ?_)
          · try simp only [decide_eq_true_eq, decide_eq_false_iff_not, beq_iff_eq, bne_iff_ne, beq_eq_false_iff_ne, bne_eq_false_iff_eq, ne_eq, Bool.or_eq_true, Bool.or_eq_false_iff, Bool.and_eq_true, Bool.and_eq_false_imp, Bool.not_eq_true, Bool.not_eq_true', Bool.not_eq_false', Classical.not_not, Int.not_lt, Int.not_le, gt_iff_lt, ge_iff_le] at hc4
            (simp at hc4; done)
          · try simp only [decide_eq_true_eq, decide_eq_false_iff_not, beq_iff_eq, bne_iff_ne, beq_eq_false_iff_ne, bne_eq_false_iff_eq, ne_eq, Bool.or_eq_true, Bool.or_eq_false_iff, Bool.and_eq_true, Bool.and_eq_false_imp, Bool.not_eq_true, Bool.not_eq_true', Bool.not_eq_false', Classical.not_not, Int.not_lt, Int.not_le, gt_iff_lt, ge_iff_le] at hc4
            refine W.skip ?_
            refine WE.nxt ?_
            refine W.seq ?_
            refine W.region _ ?_
            refine WG.run tab_ok 3 rfl ?_
            refine WG.y rfl rfl (by decide) (pureV_ok tab_ok rfl (by first | exact fun _ => rfl | exact fun h => h | ((try generalize decide ((t : Int) ≤ (th : Int)) = k5); (try generalize decide ((t : Int) > (th : Int)) = k6); (try generalize ((if t ≤ th then 0 else cvF v1 t) != 0) = k7); (try generalize ((if t ≤ th then 0 else cvF v1 t) != cvF v1 t) = k8); (try revert k5); (try revert k6); (try revert k7); (try revert k8); (try generalize (q1.2 == 0) = k1); (try generalize (q2.2 == 0) = k2); (try generalize (q1.2 != 0) = k3); (try generalize (q2.2 != 0) = k4); (try revert k1); (try revert k2); (try revert k3); (try revert k4); decide) | (intro h; simp_all))) ?_
            refine WG.y rfl rfl (by decide) (pureV_ok tab_ok rfl (by first | exact fun _ => rfl | exact fun h => h | ((try generalize decide ((t : Int) ≤ (th : Int)) = k5); (try generalize decide ((t : Int) > (th : Int)) = k6); (try generalize ((if t ≤ th then 0 else cvF v1 t) != 0) = k7); (try generalize ((if t ≤ th then 0 else cvF v1 t) != cvF v1 t) = k8); (try revert k5); (try revert k6); (try revert k7); (try revert k8); (try generalize (q1.2 == 0) = k1); (try generalize (q2.2 == 0) = k2); (try generalize (q1.2 != 0) = k3); (try generalize (q2.2 != 0) = k4); (try revert k1); (try revert k2); (try revert k3); (try revert k4); decide) | (intro h; simp_all))) ?_
            refine WG.y rfl rfl (by decide) (Yl.por rfl rfl rfl (fun _ => rfl) (by first | exact fun _ _ => rfl | ((try generalize decide ((t : Int) ≤ (th : Int)) = k5); (try generalize decide ((t : Int) > (th : Int)) = k6); (try generalize ((if t ≤ th then 0 else cvF v1 t) != 0) = k7); (try generalize ((if t ≤ th then 0 else cvF v1 t) != cvF v1 t) = k8); (try revert k5); (try revert k6); (try revert k7); (try revert k8); (try generalize (q1.2 == 0) = k1); (try generalize (q2.2 == 0) = k2); (try generalize (q1.2 != 0) = k3); (try generalize (q2.2 != 0) = k4); (try revert k1); (try revert k2); (try revert k3); (try revert k4); decide) | (intro h1 h2; simp_all))) ?_
            refine WG.run tab_ok 1 rfl ?_
            refine' WG.y rfl rfl (by decide) (Yl.loadG tab_ok rfl rfl rfl (by first | exact fun _ => rfl | exact fun h => h | ((try generalize decide ((t : Int) ≤ (th : Int)) = k5); (try generalize decide ((t : Int) > (th : Int)) = k6); (try generalize ((if t ≤ th then 0 else cvF v1 t) != 0) = k7); (try generalize ((if t ≤ th then 0 else cvF v1 t) != cvF v1 t) = k8); (try revert k5); (try revert k6); (try revert k7); (try revert k8); (try generalize (q1.2 == 0) = k1); (try generalize (q2.2 == 0) = k2); (try generalize (q1.2 != 0) = k3); (try generalize (q2.2 != 0) = k4); (try revert k1); (try revert k2); (try revert k3); (try revert k4); decide) | (intro h; simp_all)) ?r16 rfl ?h16 ?g16) ?_
            case r16 => (exact Rd.blkC 1 rfl)
            case h16 => rfl
            case g16 => exact fun _ => trivial
            refine' WG.y rfl rfl (by decide) (Yl.loadG tab_ok rfl rfl rfl (by first | exact fun _ => rfl | exact fun h => h | ((try generalize decide ((t : Int) ≤ (th : Int)) = k5); (try generalize decide ((t : Int) > (th : Int)) = k6); (try generalize ((if t ≤ th then 0 else cvF v1 t) != 0) = k7); (try generalize ((if t ≤ th then 0 else cvF v1 t) != cvF v1 t) = k8); (try revert k5); (try revert k6); (try revert k7); (try revert k8); (try generalize (q1.2 == 0) = k1); (try generalize (q2.2 == 0) = k2); (try generalize (q1.2 != 0) = k3); (try generalize (q2.2 != 0) = k4); (try revert k1); (try revert k2); (try revert k3); (try revert k4); decide) | (intro h; simp_all)) ?r17 rfl ?h17 ?g17) ?_
            case r17 => (exact Rd.blkC 2 rfl)
            case h17 => rfl
            case g17 => exact fun _ => trivial
            refine WG.callV (v := .bool true) en20 rfl rfl (by decide) (CallOp.mk' rfl rfl rfl rfl) (by first | exact fun _ => rfl | exact fun h => h | ((try generalize decide ((t : Int) ≤ (th : Int)) = k5); (try generalize decide ((t : Int) > (th : Int)) = k6); (try generalize ((if t ≤ th then 0 else cvF v1 t) != 0) = k7); (try generalize ((if t ≤ th then 0 else cvF v1 t) != cvF v1 t) = k8); (try revert k5); (try revert k6); (try revert k7); (try revert k8); (try generalize (q1.2 == 0) = k1); (try generalize (q2.2 == 0) = k2); (try generalize (q1.2 != 0) = k3); (try generalize (q2.2 != 0) = k4); (try revert k1); (try revert k2); (try revert k3); (try revert k4); decide) | (intro h; simp_all)) (fun hg => hmost (by simp at hg; simp_all) (by simp at hg; simp_all)) ?_
            refine WG.y rfl rfl (by decide) (Yl.por rfl rfl rfl (fun _ => rfl) (by first | exact fun _ _ => rfl | ((try generalize decide ((t : Int) ≤ (th : Int)) = k5); (try generalize decide ((t : Int) > (th : Int)) = k6); (try generalize ((if t ≤ th then 0 else cvF v1 t) != 0) = k7); (try generalize ((if t ≤ th then 0 else cvF v1 t) != cvF v1 t) = k8); (try revert k5); (try revert k6); (try revert k7); (try revert k8); (try generalize (q1.2 == 0) = k1); (try generalize (q2.2 == 0) = k2); (try generalize (q1.2 != 0) = k3); (try generalize (q2.2 != 0) = k4); (try revert k1); (try revert k2); (try revert k3); (try revert k4); decide) | (intro h1 h2; simp_all))) ?_
            refine WG.run tab_ok 1 rfl ?_
            refine WL.guardT rfl (by first | rfl | simp | ((try generalize decide ((t : Int) ≤ (th : Int)) = k5); (try generalize decide ((t : Int) > (th : Int)) = k6); (try generalize ((if t ≤ th then 0 else cvF v1 t) != 0) = k7); (try generalize ((if t ≤ th then 0 else cvF v1 t) != cvF v1 t) = k8); (try revert k5); (try revert k6); (try revert k7); (try revert k8); (try generalize (q1.2 == 0) = k1); (try generalize (q2.2 == 0) = k2); (try generalize (q1.2 != 0) = k3); (try generalize (q2.2 != 0) = k4); (try revert k1); (try revert k2); (try revert k3); (try revert k4); decide)) ?_
            refine WL.call en21 rfl rfl (by decide) (CallOp.mkT rfl rfl rfl rfl) (Awake17_C w0 _) ?_
            rintro _ R12 E9 hR12 ⟨rfl, hsub9⟩
            refine WL.subE hsub9 ?_
            refine WG.y rfl rfl (by decide) (Yl.pand rfl rfl rfl (fun _ => rfl) (by first | exact fun _ _ => rfl | ((try generalize decide ((t : Int) ≤ (th : Int)) = k5); (try generalize decide ((t : Int) > (th : Int)) = k6); (try generalize ((if t ≤ th then 0 else cvF v1 t) != 0) = k7); (try generalize ((if t ≤ th then 0 else cvF v1 t) != cvF v1 t) = k8); (try revert k5); (try revert k6); (try revert k7); (try revert k8); (try generalize (q1.2 == 0) = k1); (try generalize (q2.2 == 0) = k2); (try generalize (q1.2 != 0) = k3); (try generalize (q2.2 != 0) = k4); (try revert k1); (try revert k2); (try revert k3); (try revert k4); decide) | (intro h1 h2; simp_all))) ?_
            refine WG.run tab_ok 1 rfl ?_
            refine WG.nil ?_
            refine WE.nxt ?_
            refine W.ret ?_
            refine WE.retF tab_ok [_] rfl ⟨rfl, trivial⟩ ((by first | exact RLe.refl _ | exact hR1.trans (hR2.trans (hR3.trans (hR4.trans (hR5.trans (hR6.trans (hR78.trans (hRk.trans (hR10.trans (hR11.trans hR12))))))))))) ?_
            exact congrArg Value.bool (by simp)
        ·
          refine W.regionH _ (ES := []) mixed ?_
          refine' WA.take 0 rfl (by kernel_rfl) (by kernel_rfl) (by kernel_rfl) rfl rfl (by decide) (Yl.load1 tab_ok rfl rfl rfl (fun _ => rfl) ?r18 rfl ?h18) qS (by first | exact RLe.refl _ | assumption) ?_
          case r18 => exact Rd.ro hb5
          case h18 => rfl
          refine WA.take 1 rfl (by kernel_rfl) (by kernel_rfl) (by kernel_rfl) rfl rfl (by decide) (pureV_ok tab_ok rfl (fun _ => rfl)) qS (by first | exact RLe.refl _ | assumption) ?_
          refine WA.br2 (i := 2) (j := 7) (by kernel_rfl) ?_ ?_
          ·
            refine WS.callAt 4 rfl en11 rfl rfl (by decide) (CallOp.mkT rfl rfl rfl rfl) rfl (Zero_C w0 hz (most := 3) (by decide) _) ?_
            rintro _ R3x _ _ hR3x ⟨fz3, kz3, n3, v3, rfl, hzv3, hsm3, hfn3, hz03, hcp3, rfl, rfl⟩
            have hz := hz.mono hR3x
            have hzv1 := hzv1.mono hR3x
            have hzv2 := hzv2.mono hR3x
            refine ⟨hR3x, qS, ?_⟩
            refine WA.br2 (i := 3) (j := 7) (by kernel_rfl) ?_ ?_
            ·
              refine WS.callG rfl en19 rfl (by first | rfl | decide) rfl (by decide) (CallOp.mkT rfl rfl rfl rfl) (Sum05_C (c := v2) (d := v3) hsm2 hfn2 hzv2 hcp2 hsm3 hfn3 hzv3 hcp3 w0 _) ?_
              rintro _ R9 E9 hR9 ⟨fsm, ksm, s, p, q, rfl, hfs, hfcs, hsubS⟩
              have hR39 := hR3x.trans hR9
              refine ⟨hR39, List.nil_sublist _, ?_⟩
              refine WA.subE hsubS ?_
              
              refine WA.take 4 rfl (by kernel_rfl) (by kernel_rfl) (by kernel_rfl) rfl rfl (by decide) (pureV_ok tab_ok rfl (fun _ => rfl)) qS (by first | exact RLe.refl _ | assumption) ?_
              refine WA.take 5 rfl (by kernel_rfl) (by kernel_rfl) (by kernel_rfl) rfl rfl (by decide) (pureV_ok tab_ok rfl (fun _ => rfl)) qS (by first | exact RLe.refl _ | assumption) ?_
              refine WA.take 6 rfl (by kernel_rfl) (by kernel_rfl) (by kernel_rfl) rfl rfl (by decide) (pureV_ok tab_ok rfl (fun _ => rfl)) qS (by first | exact RLe.refl _ | assumption) ?_
              refine WA.eff 7 rfl (by kernel_rfl) rfl rfl (by decide) (Ef.alloc tab_ok rfl rfl (fun b18 => ?_))
              refine ⟨by first | exact RLe.refl _ | assumption, qS, ?_⟩
              refine WA.effN 8 rfl (by kernel_rfl) rfl rfl (Ef.store0 0 tab_ok rfl rfl rfl rfl rfl rfl rfl rfl ?_)
              refine ⟨by first | exact RLe.refl _ | assumption, qS, ?_⟩
              refine WA.take 9 rfl (by kernel_rfl) (by kernel_rfl) (by kernel_rfl) rfl rfl (by decide) (pureV_ok tab_ok rfl (fun _ => rfl)) qS (by first | exact RLe.refl _ | assumption) ?_
              refine WA.done (by kernel_rfl) ?_
              refine WE.cut (R9, b18, b11, b9, fsm, ksm, ⟨fvals (plusF (normR v2) (normR v3)) (s + p), (p : Int), q⟩) ⟨hR39, hfs, hfcs.valid', fin_of17 hfcs, fun t => by
                rw [cvF_fc hfcs, (small_sum hsm2 hfn2 hsm3 hfn3).2.2.1 t]
                have := (cvF_bound hsm3.valid t).1
                omega⟩ ⟨rfl, rfl, rfl, rfl, rfl, rfl, rfl, rfl⟩ (RLe.refl _) qS
            ·
              refine WS.eff rfl rfl rfl (by decide) (Ef.alloc tab_ok rfl rfl (fun b18 => ?_))
              refine ⟨by first | exact RLe.refl _ | assumption, qS, ?_⟩
              refine WA.callG 3 rfl (by kernel_rfl) en19 rfl (by first | rfl | decide) rfl (by decide) (CallOp.mkT rfl rfl rfl rfl) (Sum05_C (c := v2) (d := v3) hsm2 hfn2 hzv2 hcp2 hsm3 hfn3 hzv3 hcp3 w0 _) ?_
              rintro _ R9 E9 hR9 ⟨fsm, ksm, s, p, q, rfl, hfs, hfcs, hsubS⟩
              have hR39 := hR3x.trans hR9
              refine ⟨hR39, List.nil_sublist _, ?_⟩
              refine WA.subE hsubS ?_
              
              refine WA.take 4 rfl (by kernel_rfl) (by kernel_rfl) (by kernel_rfl) rfl rfl (by decide) (pureV_ok tab_ok rfl (fun _ => rfl)) qS (by first | exact RLe.refl _ | assumption) ?_
              refine WA.take 5 rfl (by kernel_rfl) (by kernel_rfl) (by kernel_rfl) rfl rfl (by decide) (pureV_ok tab_ok rfl (fun _ => rfl)) qS (by first | exact RLe.refl _ | assumption) ?_
              refine WA.take 6 rfl (by kernel_rfl) (by kernel_rfl) (by kernel_rfl) rfl rfl (by decide) (pureV_ok tab_ok rfl (fun _ => rfl)) qS (by first | exact RLe.refl _ | assumption) ?_
              refine WA.effN 8 rfl (by kernel_rfl) rfl rfl (Ef.store0 0 tab_ok rfl rfl rfl rfl rfl rfl rfl rfl ?_)
              refine ⟨by first | exact RLe.refl _ | assumption, qS, ?_⟩
              refine WA.take 9 rfl (by kernel_rfl) (by kernel_rfl) (by kernel_rfl) rfl rfl (by decide) (pureV_ok tab_ok rfl (fun _ => rfl)) qS (by first | exact RLe.refl _ | assumption) ?_
              refine WA.done (by kernel_rfl) ?_
              refine WE.cut (R9, b18, b11, b9, fsm, ksm, ⟨fvals (plusF (normR v2) (normR v3)) (s + p), (p : Int), q⟩) ⟨hR39, hfs, hfcs.valid', fin_of17 hfcs, fun t => by
                rw [cvF_fc hfcs, (small_sum hsm2 hfn2 hsm3 hfn3).2.2.1 t]
                have := (cvF_bound hsm3.valid t).1
                omega⟩ ⟨rfl, rfl, rfl, rfl, rfl, rfl, rfl, rfl⟩ (RLe.refl _) qS
          ·
            refine WS.eff rfl rfl rfl (by decide) (Ef.alloc tab_ok rfl rfl (fun b18 => ?_))
            refine ⟨by first | exact RLe.refl _ | assumption, qS, ?_⟩
            refine WA.callAt 5 2 rfl (by kernel_rfl) en11 rfl rfl (by decide) (CallOp.mkT rfl rfl rfl rfl) rfl (Zero_C w0 hz (most := 3) (by decide) _) ?_
            rintro _ R3x _ _ hR3x ⟨fz3, kz3, n3, v3, rfl, hzv3, hsm3, hfn3, hz03, hcp3, rfl, rfl⟩
            have hz := hz.mono hR3x
            have hzv1 := hzv1.mono hR3x
            have hzv2 := hzv2.mono hR3x
            refine ⟨hR3x, qS, ?_⟩
            refine WA.callG 3 rfl (by kernel_rfl) en19 rfl (by first | rfl | decide) rfl (by decide) (CallOp.mkT rfl rfl rfl rfl) (Sum05_C (c := v2) (d := v3) hsm2 hfn2 hzv2 hcp2 hsm3 hfn3 hzv3 hcp3 w0 _) ?_
            rintro _ R9 E9 hR9 ⟨fsm, ksm, s, p, q, rfl, hfs, hfcs, hsubS⟩
            have hR39 := hR3x.trans hR9
            refine ⟨hR39, List.nil_sublist _, ?_⟩
            refine WA.subE hsubS ?_
            
            refine WA.take 4 rfl (by kernel_rfl) (by kernel_rfl) (by kernel_rfl) rfl rfl (by decide) (pureV_ok tab_ok rfl (fun _ => rfl)) qS (by first | exact RLe.refl _ | assumption) ?_
            refine WA.take 5 rfl (by kernel_rfl) (by kernel_rfl) (by kernel_rfl) rfl rfl (by decide) (pureV_ok tab_ok rfl (fun _ => rfl)) qS (by first | exact RLe.refl _ | assumption) ?_
            refine WA.take 6 rfl (by kernel_rfl) (by kernel_rfl) (by kernel_rfl) rfl rfl (by decide) (pureV_ok tab_ok rfl (fun _ => rfl)) qS (by first | exact RLe.refl _ | assumption) ?_
            refine WA.effN 8 rfl (by kernel_rfl) rfl rfl (Ef.store0 0 tab_ok rfl rfl rfl rfl rfl rfl rfl rfl ?_)
            refine ⟨by first | exact RLe.refl _ | assumption, qS, ?_⟩
            refine WA.take 9 rfl (by kernel_rfl) (by kernel_rfl) (by kernel_rfl) rfl rfl (by decide) (pureV_ok tab_ok rfl (fun _ => rfl)) qS (by first | exact RLe.refl _ | assumption) ?_
            refine WA.done (by kernel_rfl) ?_
            refine WE.cut (R9, b18, b11, b9, fsm, ksm, ⟨fvals (plusF (normR v2) (normR v3)) (s + p), (p : Int), q⟩) ⟨hR39, hfs, hfcs.valid', fin_of17 hfcs, fun t => by
              rw [cvF_fc hfcs, (small_sum hsm2 hfn2 hsm3 hfn3).2.2.1 t]
              have := (cvF_bound hsm3.valid t).1
              omega⟩ ⟨rfl, rfl, rfl, rfl, rfl, rfl, rfl, rfl⟩ (RLe.refl _) qS

end Go.Proofs.Ytolmmfphdieilaa

/- ShareZero: for every list of numbers the law returns true, and the list reads afterwards as it read before. No condition. -/
namespace Go.Proofs.Ytolmmfphdieilaa
open Go Go.RowKit Go.ChangeShapes Go.WideShapes Go.ChangeAt Go.WideElems Go.Maps Go.Proofs.Ytolmmfphdieilaa.K
namespace shareZero
theorem law : LawI Try.prog 3 := fun ha hc w0 => ShareZero_F ha hc w0
theorem own : ownKnob Try.prog.godebug = none := by kernel_rfl
theorem laidOut : laidOutB Try.prog = true := by kernel_rfl
theorem cellsI : Try.prog.cellsOf 3 = 1 := by kernel_rfl
set_option maxRecDepth 100000 in
theorem lifted (os : Os) (started : os.Started) (H : Type) (enc : TypeId × Value → H) :
    ReturnsInHanded {} Try.checked os 3 .any (Rows.shareZeroSpec.pre6 enc Try.prog Try.f3 Rows.shareZeroRow.domain false) (Rows.shareZeroSpec.post enc Try.prog Try.f3 false true false false) := by
  refine returnsInHanded_of_change (C := Try.checked) own started (by kernel_rfl) Try.func3
    (ChangeSpec.witness6 (enc := enc) (C := Try.checked) false ⟨#[], #[.slice none 0 0], []⟩ 8 (by kernel_rfl) (by kernel_rfl) (by kernel_rfl) (by kernel_rfl)) ?_
  intro W base args ds gs before hval0 hW _ _
  have hval : ∀ (j : Nat) t v, Try.f3.params[j]? = some t → args[j]? = some v → Value.okWide Try.prog W .any base t v := hval0
  have hW' := hW
  obtain ⟨p, q, hA0, hV, rfl, _, _⟩ := hW
  have hA : DataW.TrodAll enc Try.prog W 0 (fun _ => true) true Try.f3.params.toList args.toList ds p := hA0
  rw [Try.params3] at hA hval
  obtain ⟨v0, d0, rfl, rfl, h0⟩ := trodAll_one hA
  obtain ⟨rfl, rfl⟩ := trodVars_none hV
  have h0k := h0
  obtain ⟨fuel, hf⟩ := h0
  clear hA0 hval0
  simp only [List.append_nil] at hW'
  have hlt : ∀ x ∈ p, x.block < W.heap.size := fun x hx => by simpa using hW'.lt x hx
  have hargs : ∀ W', Below W.heap.size W W' → DataW.Trod enc Try.prog W' 0 (fun b => decide (b < W.heap.size)) true 22 v0 d0 p := fun W' hb =>
    Below.trod laidOut (by kernel_rfl) (of_decide_eq_true (by kernel_rfl)) h0k hb hlt
  obtain ⟨a0, len, cap, rfl⟩ := okWide_slice Try.underlying22 (hval 0 22 v0 rfl rfl)
  rcases open_ints Try.underlying22 Try.underlying3 cellsI hf with ⟨hcs, hx⟩ | ⟨a, len', cap', zs, hcs, _, hl, hm, hz, hx, hcell, hwz⟩
  · simp [Value.cells] at hcs
    obtain ⟨rfl, rfl, rfl⟩ := hcs
    simp only [Prod.mk.injEq] at hx
    obtain ⟨rfl, rfl⟩ := hx
    refine (law.nil W).mono fun e W' ⟨he, hb⟩ => ?_
    subst he
    exact ⟨_, rfl, ⟨_, _, _, [], _, [], hW', trodAll_mk1 (shut_bool Try.underlying4 _), trodAll_mk1 (hargs W' hb), rfl, hb.frame _, fun h => by cases h⟩⟩
  · simp [Value.cells] at hcs
    obtain ⟨rfl, rfl, rfl⟩ := hcs
    simp only [Prod.mk.injEq] at hx
    obtain ⟨rfl, rfl⟩ := hx
    simp only [if_true] at hz
    refine (law.some (len := len) hcell (by rw [hz]; simp only [maxLen] at hm; omega) hz hl).mono fun e W' ⟨he, hb⟩ => ?_
    subst he
    exact ⟨_, rfl, ⟨_, _, _, [], _, [], hW', trodAll_mk1 (shut_bool Try.underlying4 _), trodAll_mk1 (hargs W' hb), rfl, hb.frame _, fun h => by cases h⟩⟩
end shareZero
theorem shareZero_holds : Rows.ShareZeroSaid :=
  OpenClaim.holds_of_wide 3 Try.f3 rfl rfl rfl rfl rfl rfl rfl ⟨rfl, rfl, rfl, rfl, rfl⟩ rfl rfl rfl rfl rfl (by kernel_rfl) Try.func3 (by kernel_rfl)
    (of_decide_eq_true (by kernel_rfl)) (by unfold Func.isWrapper; first | (rw [if_pos (by decide +kernel)]; kernel_rfl) | (rw [if_neg (by decide +kernel)]; exact ⟨rfl, rfl⟩))
    (fun os started H enc _ => shareZero.lifted os started H enc)
end Go.Proofs.Ytolmmfphdieilaa
