/- Rules and walks, joined from 12 texts: the first of them says: Curves raised, totals. No condition. -/
import Derived.Test.YtolmmfphdieilaaG4
/- Curves raised, totals. No condition. -/
set_option linter.unusedSimpArgs false
set_option linter.unusedVariables false
namespace Go.Proofs.Ytolmmfphdieilaa
open Go Go.RowKit Go.Proofs.Ytolmmfphdieilaa.K Go.Proofs.Ytolmmfphdieilaa.M

theorem POne_C {R : Ro} {fa : Option Addr} {fc : Nat} {cf : Cv} (hvf : validB cf = true) (ha : RS R 1 encI fa cf.vals) {k low high : Int} (hk : low ≤ k ∧ k ≤ high) (w0 : World) (E : List Ent) : K.Fn Try.prog 127 [.agg #[.slice fa cf.vals.length fc, .int .i64 cf.per, .int .i64 cf.inc], .int .i64 k, .int .i64 low, .int .i64 high] w0 R E (fun r R' E' => ∃ (f : Option Addr) (fc : Nat), r = cvV f fc (normR cf, 0) ∧ RS R' 1 encI f ((normR cf, (0 : Int))).1.vals ∧ E.Sublist E') := by
  refine Fn.enter (n := 31) Try.func127 rfl rfl (Nat.le_of_ble_eq_true rfl) rfl ?_
  refine W.seq ?_
  refine W.region _ ?_
  refine WL.ef rfl rfl (by decide) (Ef.box rfl rfl (fun b4 => ?_))
  refine WL.ef rfl rfl (by decide) (Ef.alloc tab_ok rfl rfl (fun b8 => ?_))
  refine WG.run tab_ok 1 rfl ?_
  refine WG.nil ?_
  refine WE.nxt ?_
  refine W.seq ?_
  refine W.region _ ?_
  refine' WG.y rfl rfl (by decide) (Yl.load1 tab_ok rfl rfl rfl (fun _ => rfl) ?r1 rfl ?h1) ?_
  case r1 => (exact Rd.blk 1 rfl)
  case h1 => rfl
  refine WL.call en52 rfl rfl (by decide) (CallOp.mkT rfl rfl rfl rfl) (CNormalV_C hvf ha w0 _) ?_
  rintro _ R1 _ hR1 ⟨fa1x, ca1x, rfl, ha1x, hsub⟩
  refine WL.subE hsub ?_
  unfold cvV
  dsimp only at ha1x ⊢
  
  refine WG.run tab_ok 3 rfl ?_
  refine WL.ef rfl rfl (by decide) (Ef.alloc tab_ok rfl rfl (fun b10 => ?_))
  refine WL.efN rfl rfl (Ef.store0 0 tab_ok rfl rfl rfl rfl rfl rfl rfl rfl ?_)
  refine WG.run tab_ok 1 rfl ?_
  refine WG.nil ?_
  refine WE.nxt ?_
  refine W.seq ?_
  refine W.seq ?_
  refine W.region _ ?_
  refine WG.run tab_ok 2 rfl ?_
  refine WG.nil ?_
  refine WE.nxt ?_
  refine W.condN rfl (fun hc0 => ?_) (fun hc0 => ?_)
  · try dsimp only at hc0
    exact absurd rfl hc0
  · try dsimp only at hc0
    refine W.skip ?_
    refine WE.nxt ?_
    refine W.seq ?_
    refine W.seq ?_
    refine W.region _ ?_
    refine WG.run tab_ok 4 rfl ?_
    refine WG.y rfl rfl (by decide) (pureV_ok tab_ok rfl qE) ?_
    refine WG.y rfl rfl (by decide) (pureV_ok tab_ok rfl qE) ?_
    refine WG.y rfl rfl (by decide) (pureV_ok tab_ok rfl qE) ?_
    refine WG.y rfl rfl (by decide) (Yl.por rfl rfl rfl (fun _ => rfl) (by intro h1 h2; simp_all <;> omega)) ?_
    refine WG.nil ?_
    refine WE.nxt ?_
    refine W.cond rfl (fun hc1 => ?_) (fun hc1 => ?_)
    · try simp only [decide_eq_true_eq, decide_eq_false_iff_not, beq_iff_eq, bne_iff_ne, beq_eq_false_iff_ne, bne_eq_false_iff_eq, ne_eq, Bool.or_eq_true, Bool.or_eq_false_iff, Bool.and_eq_true, Bool.and_eq_false_imp, Bool.not_eq_true, Bool.not_eq_true', Bool.not_eq_false', Classical.not_not, Int.not_lt, Int.not_le, gt_iff_lt, ge_iff_le] at hc1
      omega
    · try simp only [decide_eq_true_eq, decide_eq_false_iff_not, beq_iff_eq, bne_iff_ne, beq_eq_false_iff_ne, bne_eq_false_iff_eq, ne_eq, Bool.or_eq_true, Bool.or_eq_false_iff, Bool.and_eq_true, Bool.and_eq_false_imp, Bool.not_eq_true, Bool.not_eq_true', Bool.not_eq_false', Classical.not_not, Int.not_lt, Int.not_le, gt_iff_lt, ge_iff_le] at hc1
      refine W.skip ?_
      refine WE.nxt ?_
      refine W.seq ?_
      refine W.region _ ?_
      refine' WG.y rfl rfl (by decide) (Yl.load1 tab_ok rfl rfl rfl (fun _ => rfl) ?r2 rfl ?h2) ?_
      case r2 => (exact Rd.blk 0 rfl)
      case h2 => rfl
      refine WL.efN rfl rfl (Ef.store0 1 tab_ok rfl rfl rfl rfl rfl rfl rfl rfl ?_)
      refine WG.run tab_ok 1 rfl ?_
      refine WG.nil ?_
      refine WE.nxt ?_
      refine W.ret ?_
      refine WE.retF tab_ok [_, _] rfl ⟨⟨_, _, _, rfl, rfl, rfl, ((by first | exact Rd.blk 0 rfl | exact Rd.blk 1 rfl | exact Rd.blk 2 rfl | exact Rd.blk 3 rfl | exact Rd.blk 4 rfl)), rfl⟩, rfl, trivial⟩ (hR1) ?_
      exact ⟨_, _, rfl, ha1x, qS⟩

theorem RaiseF_V {R : Ro} {fa : Option Addr} {fc : Nat} {cf : Cv} (hvf : validB cf = true) (ha : RS R 1 encI fa cf.vals) {b6 b3 : Nat} {k : Int} (h6 : R b6 = some [.slice fa cf.vals.length fc, .int .i64 cf.per, .int .i64 cf.inc]) (h3 : R b3 = some [.int .i64 k]) (hk : 0 ≤ k ∧ k ≤ 1073741824) {t : Nat} (ht : t ≤ 1000000) : FnV Try.prog 128 [.int .i64 (t : Int), .pointer (some ⟨b6, 0, none⟩), .pointer (some ⟨b3, 0, none⟩)] R (.int .i64 (raiseF cf k t)) := by
  refine Fn.toV (fun w0 E => ?_)
  have hbf := cvF_bound hvf t
  have i1 := isInf_iff hvf (t := t) (by omega)
  unfold INF at hbf
  refine Fn.enter (n := 12) Try.func128 rfl rfl (Nat.le_of_ble_eq_true rfl) rfl ?_
  refine W.seq ?_
  refine W.region _ ?_
  refine WG.run tab_ok 1 rfl ?_
  refine WG.nil ?_
  refine WE.nxt ?_
  refine W.seq ?_
  refine W.seq ?_
  refine W.region _ ?_
  refine WG.run tab_ok 2 rfl ?_
  refine WG.nil ?_
  refine WE.nxt ?_
  refine W.condE rfl (fun hc0 => ?_) (fun hc0 => ?_)
  · try dsimp only at hc0
    obtain rfl : t = 0 := by omega
    have hpl : raiseF cf k 0 = 0 := if_pos rfl
    refine W.seq ?_
    refine W.region _ ?_
    refine WG.run tab_ok 1 rfl ?_
    refine WG.nil ?_
    refine WE.nxt ?_
    refine W.ret ?_
    refine WE.then_ret ?_
    refine WE.subE (E' := E) qS ?_
    refine WE.retF tab_ok [_] rfl ⟨rfl, trivial⟩ (RLe.refl _) ?_
    exact ⟨by rw [hpl]; rfl, rfl⟩
  · try dsimp only at hc0
    have hpl : raiseF cf k t = if cvF cf t = 4611686018427387904 ∨ k = 4611686018427387904 then 4611686018427387904 else cvF cf t + k := by
      have e : raiseF cf k t = if isInf cf t then INF else cvF cf t + k := if_neg (by omega)
      rw [e]
      by_cases h : isInf cf t
      · rw [if_pos h]; exact (if_pos (.inl (i1.1 h))).symm
      · rw [if_neg h]; exact (if_neg (fun hh => hh.elim (fun x => h (i1.2 x)) (fun x => by omega))).symm
    refine W.skip ?_
    refine WE.nxt ?_
    refine W.seq ?_
    refine W.regionQ _ mixed (by kernel_rfl) ?_
    refine' WG.y rfl rfl (by decide) (Yl.load1 tab_ok rfl rfl rfl (fun _ => rfl) ?r1 rfl ?h1) ?_
    case r1 => exact Rd.ro h6
    case h1 => rfl
    refine WG.run tab_ok 1 rfl ?_
    refine WG.callV en68 rfl rfl (by decide) (CallOp.mk' rfl rfl rfl rfl) (fun _ => rfl) (fun hg => WAtG_V hvf ha (by omega)) ?_
    refine' WG.y rfl rfl (by decide) (Yl.load1 tab_ok rfl rfl rfl (fun _ => rfl) ?r2 rfl ?h2) ?_
    case r2 => exact Rd.ro h3
    case h2 => rfl
    refine WG.callV en129 rfl rfl (by decide) (CallOp.mk' rfl rfl rfl rfl) (fun _ => rfl) (fun hg => WPlus_V (by omega) (by omega)) ?_
    refine WG.run tab_ok 1 rfl ?_
    refine WG.nil ?_
    refine WE.nxt ?_
    refine W.ret ?_
    refine WE.subE (E' := E) qS ?_
    refine WE.retF tab_ok [_] rfl ⟨rfl, trivial⟩ (RLe.refl _) ?_
    exact ⟨by rw [hpl]; rfl, rfl⟩

set_option maxHeartbeats 1000000 in
theorem PRaise_C {R : Ro} {fa : Option Addr} {fc : Nat} {cf : Cv} (hvf : validB cf = true) (ha : RS R 1 encI fa cf.vals) {k : Int} (hk : 0 ≤ k ∧ k ≤ 1073741824) (w0 : World) (E : List Ent) : K.Fn Try.prog 95 [.agg #[.slice fa cf.vals.length fc, .int .i64 cf.per, .int .i64 cf.inc], .int .i64 k] w0 R E (fun r R' E' => ∃ (f : Option Addr) (fc : Nat), r = cvV f fc (raiseC cf k) ∧ RS R' 1 encI f (raiseC cf k).1.vals ∧ E.Sublist E') := by
  have hnf := norm_nrm hvf
  obtain ⟨_, f1, f2, f3, f4, f5, f6, f7⟩ := valid_range hnf.valid
  have hst := stN_lt hnf.valid
  have hd : raiseC cf k = mbuild (raiseF (normR cf) k) (max 1 (stN (normR cf))) (normR cf).per.toNat (normR cf).inc := by unfold raiseC MAXV; rw [if_neg (by rw [hvf]; simp), if_neg (by omega)]
  have hperI : (((normR cf).per.toNat : Nat) : Int) = (normR cf).per := by omega
  have hmx : (if (1 : Int) < (stN (normR cf) : Int) then (stN (normR cf) : Int) else (1 : Int)) = ((max 1 (stN (normR cf)) : Nat) : Int) := by split <;> omega
  have hpb : ∀ t : Nat, t ≤ 1000 → (raiseF (normR cf) k) t = INF ∨ (0 ≤ (raiseF (normR cf) k) t ∧ (raiseF (normR cf) k) t ≤ 1000000000000000) := fun t ht => by
    unfold raiseF
    by_cases h0 : t = 0
    · rw [if_pos h0]; right; omega
    · rw [if_neg h0]
      by_cases h : isInf (normR cf) t
      · rw [if_pos h]; exact .inl rfl
      · rw [if_neg h]
        have a1 := fin_part hnf.valid h (show t ≤ 1000000000 by omega)
        right; omega
  refine Fn.enter (n := 31) Try.func95 rfl rfl (Nat.le_of_ble_eq_true rfl) rfl ?_
  refine W.seq ?_
  refine W.region _ ?_
  refine WL.ef rfl rfl (by decide) (Ef.box rfl rfl (fun b2 => ?_))
  refine WL.ef rfl rfl (by decide) (Ef.box rfl rfl (fun b3 => ?_))
  refine WL.ef rfl rfl (by decide) (Ef.alloc tab_ok rfl rfl (fun b4 => ?_))
  refine WG.run tab_ok 1 rfl ?_
  refine WG.nil ?_
  refine WE.nxt ?_
  refine W.seq ?_
  refine W.region _ ?_
  refine' WG.y rfl rfl (by decide) (Yl.load1 tab_ok rfl rfl rfl (fun _ => rfl) ?r1 rfl ?h1) ?_
  case r1 => (exact Rd.blk 2 rfl)
  case h1 => rfl
  refine' WG.y rfl rfl (by decide) (Yl.load1 tab_ok rfl rfl rfl (fun _ => rfl) ?r2 rfl ?h2) ?_
  case r2 => (exact Rd.blk 1 rfl)
  case h2 => rfl
  refine WL.call en127 rfl rfl (by decide) (CallOp.mkT rfl rfl rfl rfl) (POne_C hvf ha (by omega) w0 _) ?_
  rintro _ R1 _ hR1 ⟨a1, c1, rfl, hx1, hsub⟩
  refine WL.subE hsub ?_
  unfold cvV
  dsimp only at hx1 ⊢
  refine WG.run tab_ok 3 rfl ?_
  refine WL.ef rfl rfl (by decide) (Ef.alloc tab_ok rfl rfl (fun b6 => ?_))
  refine WL.efN rfl rfl (Ef.store0 0 tab_ok rfl rfl rfl rfl rfl rfl rfl rfl ?_)
  refine WG.run tab_ok 1 rfl ?_
  refine WG.nil ?_
  refine WE.nxt ?_
  refine W.seq ?_
  refine W.seq ?_
  refine W.region _ ?_
  refine WG.run tab_ok 2 rfl ?_
  refine WG.nil ?_
  refine WE.nxt ?_
  refine W.condN rfl (fun hc0 => ?_) (fun hc0 => ?_)
  · try dsimp only at hc0
    exact absurd rfl hc0
  · try dsimp only at hc0
    refine W.skip ?_
    refine WE.nxt ?_
    refine W.seq ?_
    refine W.region _ ?_
    refine WG.run tab_ok 2 rfl ?_
    refine WG.nil ?_
    refine WE.nxt ?_
    refine W.freezeBlk 0 rfl ?_
    intro R2 hR2 h6
    refine W.freezeBlk 1 rfl ?_
    intro R3 hR3 h3
    have h6 := hR3 _ _ h6
    have hx1 := hx1.mono (hR2.trans hR3)
    have hF : ∀ t : Nat, t < max 1 (stN (normR cf)) + (normR cf).per.toNat → FnV Try.prog 128 ((#[] : Array Value).toList ++ [.int .i64 (t : Int)] ++ (#[.pointer (some ⟨b6, 0, none⟩), .pointer (some ⟨b3, 0, none⟩)] : Array Value).toList) R3 (.int .i64 ((raiseF (normR cf) k) t)) := fun t ht => RaiseF_V hnf.valid hx1 h6 h3 hk (by omega)
    refine W.seq ?_
    refine W.regionH _ (ES := []) mixed ?_
    refine WA.take 0 rfl (by kernel_rfl) (by kernel_rfl) (by kernel_rfl) rfl rfl (by decide) (pureV_ok tab_ok rfl (fun _ => rfl)) qS (by first | exact RLe.refl _ | assumption) ?_
    refine' WA.take 1 rfl (by kernel_rfl) (by kernel_rfl) (by kernel_rfl) rfl rfl (by decide) (Yl.load1 tab_ok rfl rfl rfl (fun _ => rfl) ?r3 rfl ?h3) qS (by first | exact RLe.refl _ | assumption) ?_
    case r3 => (exact Rd.ro (by assumption))
    case h3 => rfl
    refine WA.take 4 rfl (by kernel_rfl) (by kernel_rfl) (by kernel_rfl) rfl rfl (by decide) (pureV_ok tab_ok rfl (fun _ => rfl)) qS (by first | exact RLe.refl _ | assumption) ?_
    refine' WA.take 5 rfl (by kernel_rfl) (by kernel_rfl) (by kernel_rfl) rfl rfl (by decide) (Yl.load1 tab_ok rfl rfl rfl (fun _ => rfl) ?r4 rfl ?h4) qS (by first | exact RLe.refl _ | assumption) ?_
    case r4 => apply Rd.add; (exact Rd.ro (by assumption))
    case h4 => rfl
    refine WA.take 6 rfl (by kernel_rfl) (by kernel_rfl) (by kernel_rfl) rfl rfl (by decide) (pureV_ok tab_ok rfl (fun _ => rfl)) qS (by first | exact RLe.refl _ | assumption) ?_
    refine' WA.take 7 rfl (by kernel_rfl) (by kernel_rfl) (by kernel_rfl) rfl rfl (by decide) (Yl.load1 tab_ok rfl rfl rfl (fun _ => rfl) ?r5 rfl ?h5) qS (by first | exact RLe.refl _ | assumption) ?_
    case r5 => apply Rd.add; (exact Rd.ro (by assumption))
    case h5 => rfl
    refine WA.callG 2 rfl (by kernel_rfl) en55 rfl (by first | rfl | decide) rfl (by decide) (CallOp.mkT rfl rfl rfl rfl) ((WStartG_V hnf.valid hx1).toFn) ?_
    rintro _ _ _ - ⟨rfl, rfl, rfl⟩
    refine ⟨by first | exact RLe.refl _ | assumption, qS, ?_⟩
    refine WA.take 3 rfl (by kernel_rfl) (by kernel_rfl) (by kernel_rfl) rfl rfl (by decide) (pureV_ok tab_ok rfl (fun _ => rfl)) qS (by first | exact RLe.refl _ | assumption) ?_
    refine WA.callG 8 rfl (by kernel_rfl) en60 rfl (by first | rfl | decide) rfl (by decide) (CallOp.mkT rfl rfl rfl rfl) (hmx ▸ hperI ▸ Build_C (S := max 1 (stN (normR cf))) (P := (normR cf).per.toNat) (F := (raiseF (normR cf) k)) en128 (by omega) (by omega) (by omega) (fun t ht => hpb t (by omega)) hF w0 _) ?_
    rintro _ R4 E4 hR4 ⟨fr, frc, rfl, hfr, hsub⟩
    refine ⟨hR4, List.nil_sublist _, ?_⟩
    refine WA.subE hsub ?_
    rw [← hd] at hfr ⊢
    unfold cvV
    refine WA.take 9 rfl (by kernel_rfl) (by kernel_rfl) (by kernel_rfl) rfl rfl (by decide) (pureV_ok tab_ok rfl (fun _ => rfl)) qS (by first | exact RLe.refl _ | assumption) ?_
    refine WA.take 10 rfl (by kernel_rfl) (by kernel_rfl) (by kernel_rfl) rfl rfl (by decide) (pureV_ok tab_ok rfl (fun _ => rfl)) qS (by first | exact RLe.refl _ | assumption) ?_
    refine WA.effN 11 rfl (by kernel_rfl) rfl rfl (Ef.store0 0 tab_ok rfl rfl rfl rfl rfl rfl rfl rfl ?_)
    refine ⟨by first | exact RLe.refl _ | assumption, qS, ?_⟩
    refine WA.take 12 rfl (by kernel_rfl) (by kernel_rfl) (by kernel_rfl) rfl rfl (by decide) (pureV_ok tab_ok rfl (fun _ => rfl)) qS (by first | exact RLe.refl _ | assumption) ?_
    refine WA.done (by kernel_rfl) ?_
    refine WE.nxt ?_
    refine W.ret ?_
    refine WE.retF tab_ok [_, _] rfl ⟨⟨_, _, _, rfl, rfl, rfl, ((by first | exact Rd.blk 0 rfl | exact Rd.blk 1 rfl | exact Rd.blk 2 rfl | exact Rd.blk 3 rfl | exact Rd.blk 4 rfl | exact Rd.blk 5 rfl)), rfl⟩, rfl, trivial⟩ ((by first | exact hR1.trans (hR2.trans (hR3.trans hR4)))) ?_
    exact ⟨fr, frc, rfl, hfr, qS⟩

theorem FlatF_V {R : Ro} {b1 : Nat} {k : Int} (h1 : R b1 = some [.int .i64 k]) (hk : 0 ≤ k ∧ k ≤ 1073741824) {t : Nat} (ht : t ≤ 1000000) : FnV Try.prog 108 [.int .i64 (t : Int), .pointer (some ⟨b1, 0, none⟩)] R (.int .i64 (flatF k t)) := by
  refine Fn.toV (fun w0 E => ?_)
  have hfl : k * (if (1 : Int) < (t : Int) then (1 : Int) else (t : Int)) = flatF k t := by
    unfold flatF
    by_cases h : t = 0
    · subst h; simp
    · rw [if_neg h, show (if (1 : Int) < (t : Int) then (1 : Int) else (t : Int)) = 1 by split <;> omega, Int.mul_one]
  have hfb : 0 ≤ flatF k t ∧ flatF k t ≤ 1073741824 := by unfold flatF; split <;> omega
  refine Fn.enter (n := 8) Try.func108 rfl rfl (Nat.le_of_ble_eq_true rfl) rfl ?_
  refine W.seq ?_
  refine W.region _ ?_
  refine WG.run tab_ok 1 rfl ?_
  refine WG.nil ?_
  refine WE.nxt ?_
  refine W.seq ?_
  refine W.region _ ?_
  refine' WG.y rfl rfl (by decide) (Yl.load1 tab_ok rfl rfl rfl (fun _ => rfl) ?r1 rfl ?h1) ?_
  case r1 => exact Rd.ro h1
  case h1 => rfl
  refine WG.run tab_ok 2 rfl ?_
  refine WG.y rfl rfl (by decide) (Yl.mul rfl rfl rfl (fun _ => rfl) (by intro _; constructor <;> (try dsimp only) <;> omega)) ?_
  refine WG.run tab_ok 1 rfl ?_
  refine WG.nil ?_
  refine WE.nxt ?_
  refine W.ret ?_
  refine WE.subE (E' := E) qS ?_
  refine WE.retF tab_ok [_] rfl ⟨rfl, trivial⟩ (RLe.refl _) ?_
  exact ⟨by rw [← hfl]; rfl, rfl⟩

theorem CFlat_C {R : Ro} {k : Int} (hk : 0 ≤ k ∧ k ≤ 1073741824) (w0 : World) (E : List Ent) : K.Fn Try.prog 58 [.int .i64 k] w0 R E (fun r R' E' => ∃ (f : Option Addr) (fc : Nat), r = cvV f fc (flatC k) ∧ RS R' 1 encI f (flatC k).1.vals ∧ E.Sublist E') := by
  have hd : flatC k = mbuild (flatF k) 1 1 0 := rfl
  refine Fn.enter (n := 14) Try.func58 rfl rfl (Nat.le_of_ble_eq_true rfl) rfl ?_
  refine W.seq ?_
  refine W.region _ ?_
  refine WL.ef rfl rfl (by decide) (Ef.box rfl rfl (fun b1 => ?_))
  refine WL.ef rfl rfl (by decide) (Ef.alloc tab_ok rfl rfl (fun b2 => ?_))
  refine WG.run tab_ok 1 rfl ?_
  refine WG.nil ?_
  refine WE.nxt ?_
  refine W.seq ?_
  refine W.seq ?_
  refine W.region _ ?_
  refine' WG.y rfl rfl (by decide) (Yl.load1 tab_ok rfl rfl rfl (fun _ => rfl) ?r1 rfl ?h1) ?_
  case r1 => (exact Rd.blk 1 rfl)
  case h1 => rfl
  refine WG.run tab_ok 1 rfl ?_
  refine WG.nil ?_
  refine WE.nxt ?_
  refine W.condD rfl (fun hc0 => ?_) (fun hc0 => ?_)
  · try dsimp only at hc0
    omega
  · try dsimp only at hc0
    refine W.skip ?_
    refine WE.nxt ?_
    refine W.seq ?_
    refine W.seq ?_
    refine W.region _ ?_
    refine' WG.y rfl rfl (by decide) (Yl.load1 tab_ok rfl rfl rfl (fun _ => rfl) ?r2 rfl ?h2) ?_
    case r2 => (exact Rd.blk 1 rfl)
    case h2 => rfl
    refine WG.run tab_ok 1 rfl ?_
    refine WG.nil ?_
    refine WE.nxt ?_
    refine W.condD rfl (fun hc1 => ?_) (fun hc1 => ?_)
    · try dsimp only at hc1
      omega
    · try dsimp only at hc1
      refine W.skip ?_
      refine WE.nxt ?_
      refine W.freezeBlk 1 rfl ?_
      intro R2 hR2 h1
      have hF : ∀ t : Nat, t < 1 + 1 → FnV Try.prog 108 ((#[] : Array Value).toList ++ [.int .i64 (t : Int)] ++ (#[.pointer (some ⟨b1, 0, none⟩)] : Array Value).toList) R2 (.int .i64 (flatF k t)) := fun t ht => FlatF_V h1 hk (by omega)
      refine W.seq ?_
      refine W.region _ ?_
      refine WG.run tab_ok 1 rfl ?_
      refine WL.call en60 rfl rfl (by decide) (CallOp.mkT rfl rfl rfl rfl) (Build_C (S := 1) (P := 1) (F := flatF k) en108 (by omega) (by omega) (by omega) (fun t ht => .inr (flatF_bound hk t)) hF w0 _) ?_
      rintro _ R4 E4 hR4 ⟨fr, frc, rfl, hfr, hsub⟩
      refine WL.subE hsub ?_
      rw [← hd] at hfr ⊢
      unfold cvV
      refine WG.run tab_ok 2 rfl ?_
      refine WL.efN rfl rfl (Ef.store0 0 tab_ok rfl rfl rfl rfl rfl rfl rfl rfl ?_)
      refine WG.run tab_ok 1 rfl ?_
      refine WG.nil ?_
      refine WE.nxt ?_
      refine W.ret ?_
      refine WE.retF tab_ok [_, _] rfl ⟨⟨_, _, _, rfl, rfl, rfl, ((by first | exact Rd.blk 0 rfl | exact Rd.blk 1 rfl | exact Rd.blk 2 rfl | exact Rd.blk 3 rfl)), rfl⟩, rfl, trivial⟩ (hR2.trans hR4) ?_
      exact ⟨fr, frc, rfl, hfr, qS⟩

set_option maxHeartbeats 1000000 in
theorem PTotal_C {R : Ro} {la : Option Addr} {lc : Nat} {ls : List CvS} (hla : RS R 3 encC la ls) (hls : ∀ x ∈ ls, RS R 1 encI x.a x.cv.vals ∧ validB x.cv = true) (w0 : World) (E : List Ent) : K.Fn Try.prog 94 [.slice la ls.length lc] w0 R E (fun r R' E' => ∃ (f : Option Addr) (fc : Nat), r = cvV f fc (totalC (ls.map CvS.cv)) ∧ RS R' 1 encI f (totalC (ls.map CvS.cv)).1.vals ∧ E.Sublist E') := by
  have hll := hla.len
  have hz0 : flatC 0 = (zeroC, 0) := flat_zero
  refine Fn.enter (n := 31) Try.func94 rfl rfl (Nat.le_of_ble_eq_true rfl) rfl ?_
  refine W.seq ?_
  refine W.region _ ?_
  refine WL.ef rfl rfl (by decide) (Ef.alloc tab_ok rfl rfl (fun b2 => ?_))
  refine WG.run tab_ok 1 rfl ?_
  refine WG.nil ?_
  refine WE.nxt ?_
  refine W.seq ?_
  refine W.region _ ?_
  refine WL.call en58 rfl rfl (by decide) (CallOp.mkT rfl rfl rfl rfl) (CFlat_C (k := 0) (by decide) w0 _) ?_
  rintro _ R1 _ hR1 ⟨fz, fzc, rfl, hfz, hsub⟩
  refine WL.subE hsub ?_
  rw [hz0] at hfz ⊢
  unfold cvV
  dsimp only at hfz ⊢
  refine WG.run tab_ok 3 rfl ?_
  refine WL.ef rfl rfl (by decide) (Ef.alloc tab_ok rfl rfl (fun b4 => ?_))
  refine WL.efN rfl rfl (Ef.store0 0 tab_ok rfl rfl rfl rfl rfl rfl rfl rfl ?_)
  refine WG.run tab_ok 1 rfl ?_
  refine WG.nil ?_
  refine WE.nxt ?_
  refine W.seq ?_
  refine W.seq ?_
  refine W.region _ ?_
  refine WG.run tab_ok 3 rfl ?_
  refine WG.nil ?_
  refine WE.nxt ?_
  refine W.block ?_
  refine W.loopR (β := Nat × Cv × Option Addr × Nat × Ro) (fun (i, s, sa, sc, Rk) => i ≤ ls.length ∧ RLe R1 Rk ∧ Nrm s ∧ RS Rk 1 encI sa s.vals ∧ totalC (ls.map CvS.cv) = totalGo s ((ls.map CvS.cv).drop i)) (fun (i, s, sa, sc, Rk) => [(5, true, .int .i64 0), (14, true, .int .i64 (i : Int))]) [2, 4, 12, 13] [_, _, _, _] [] _ rfl (fun (i, s, sa, sc, Rk) => [(0, .blk b4 [.slice sa s.vals.length sc, .int .i64 s.per, .int .i64 s.inc])]) (fun (i, s, sa, sc, Rk) => Rk) (fun (i, s, sa, sc, Rk) => ls.length - i) ((0, zeroC, fz, fzc, R1)) (⟨Nat.zero_le _, RLe.refl _, zero_nrm, hfz, rfl⟩) ⟨rfl, rfl, rfl, rfl, rfl, rfl, rfl⟩ (RLe.refl _) qS ?_
  intro zz hst
  obtain ⟨i, s, sa, sc, Rk⟩ := zz
  dsimp only [zipE, setAll, List.cons_append, List.nil_append, List.set_cons_zero, List.set_cons_succ] at hst ⊢
  obtain ⟨hi, hRk, hns, hsa, htot⟩ := hst
  have hla := hla.mono (hR1.trans hRk)
  refine W.seq ?_
  refine W.region _ ?_
  refine WG.run tab_ok 1 rfl ?_
  refine WG.nil ?_
  refine WE.nxt ?_
  refine W.seq ?_
  refine W.condD rfl (fun hc0 => ?_) (fun hc0 => ?_)
  · try dsimp only at hc0
    have hil : i < ls.length := by omega
    have hxi := hls _ (nth_mem hil)
    have hvx := hxi.2
    have hxa := hxi.1.mono (hR1.trans hRk)
    refine W.skip ?_
    refine WE.nxt ?_
    refine W.seq ?_
    refine W.block ?_
    refine W.seq ?_
    refine W.region _ ?_
    refine WG.y rfl rfl (by decide) (Yl.indexN tab_ok rfl rfl rfl rfl rfl rfl (fun _ => rfl) (by intro _; (try dsimp only) <;> omega) (by intro _; first | exact fun _ _ _ _ => rfl | exact RS.has (by assumption) | exact fun _ _ _ _ => (by assumption) | exact HasMem.ownD 0 rfl | exact HasMem.ownD 1 rfl | exact HasMem.ownD 2 rfl | exact HasMem.ownD 3 rfl | exact HasMem.ownD 4 rfl | exact HasMem.ownD 5 rfl)) ?_
    refine' WG.y rfl rfl (by decide) (Yl.load1 tab_ok rfl rfl rfl (fun _ => rfl) ?r1 rfl ?h1) ?_
    case r1 => ((apply RS.rdD; assumption; ((try dsimp only) <;> omega)))
    case h1 => rfl
    refine WL.ef rfl rfl (by decide) (Ef.alloc tab_ok rfl rfl (fun b7 => ?_))
    refine WL.efN rfl rfl (Ef.store0 0 tab_ok rfl rfl rfl rfl rfl rfl rfl rfl ?_)
    refine WG.nil ?_
    refine WE.nxt ?_
    refine W.seq ?_
    refine W.region _ ?_
    refine' WG.y rfl rfl (by decide) (Yl.load1 tab_ok rfl rfl rfl (fun _ => rfl) ?r2 rfl ?h2) ?_
    case r2 => (exact Rd.blk 1 rfl)
    case h2 => rfl
    refine' WG.y rfl rfl (by decide) (Yl.load1 tab_ok rfl rfl rfl (fun _ => rfl) ?r3 rfl ?h3) ?_
    case r3 => (exact Rd.blk 0 rfl)
    case h3 => rfl
    refine WL.call en126 rfl rfl (by decide) (CallOp.mkT rfl rfl rfl rfl) (PSum_C hns.valid hsa hvx hxa w0 _) ?_
    rintro _ R2 _ hR2 ⟨fr, frc, rfl, hfr, hsub⟩
    refine WL.subE hsub ?_
    unfold cvV
    have hgo : totalC (ls.map CvS.cv) = if (sumC s (nth ls i).cv).2 ≠ 0 then (zcv, (sumC s (nth ls i).cv).2) else totalGo (sumC s (nth ls i).cv).1 ((ls.map CvS.cv).drop (i + 1)) := by
      rw [htot, drop_map_cons hil]
      rfl
    have hsr := sum_res hns.valid hvx
    generalize sumC s (nth ls i).cv = sr at hfr hgo hsr ⊢
    obtain ⟨sv, se⟩ := sr
    dsimp only at hfr hgo hsr ⊢
    refine WG.run tab_ok 3 rfl ?_
    refine WL.efN rfl rfl (Ef.store0 1 tab_ok rfl rfl rfl rfl rfl rfl rfl rfl ?_)
    refine WG.run tab_ok 1 rfl ?_
    refine WG.nil ?_
    refine WE.nxt ?_
    refine W.seq ?_
    refine W.region _ ?_
    refine WG.run tab_ok 2 rfl ?_
    refine WG.nil ?_
    refine WE.nxt ?_
    refine W.condN rfl (fun hc1 => ?_) (fun hc1 => ?_)
    · try dsimp only at hc1
      have hd : totalC (ls.map CvS.cv) = (zcv, se) := by rw [hgo, if_pos hc1]
      refine W.seq ?_
      refine W.region _ ?_
      -- build
      refine WG.y rfl rfl (by decide) (Yl.build (parts := []) tab_ok rfl rfl rfl rfl (fun _ => rfl) rfl rfl) ?_
      refine WG.run tab_ok 1 rfl ?_
      refine WL.efN rfl rfl (Ef.store0 2 tab_ok rfl rfl rfl rfl rfl rfl rfl rfl ?_)
      refine WG.run tab_ok 1 rfl ?_
      refine WG.nil ?_
      refine WE.nxt ?_
      refine W.ret ?_
      refine WE.blk_ret ?_
      refine WE.then_ret ?_
      refine WE.then_ret ?_
      refine WE.blk_ret ?_
      refine WE.then_ret ?_
      refine WE.retF tab_ok [_, _] rfl ⟨⟨_, _, _, rfl, rfl, rfl, ((by first | exact Rd.blk 0 rfl | exact Rd.blk 1 rfl | exact Rd.blk 2 rfl | exact Rd.blk 3 rfl | exact Rd.blk 4 rfl | exact Rd.blk 5 rfl)), rfl⟩, rfl, trivial⟩ ((by first | exact hR1.trans (hRk.trans hR2) | exact hR1.trans hRk)) ?_
      exact ⟨none, 0, by rw [hd]; rfl, by rw [hd]; exact rs_nil, qS⟩
    · try dsimp only at hc1
      have hd2 : totalC (ls.map CvS.cv) = totalGo sv ((ls.map CvS.cv).drop (i + 1)) := by rw [hgo, if_neg (fun h => h hc1)]
      obtain ⟨rfl, hnsv⟩ : se = 0 ∧ Nrm sv := by
        rcases hsr with h | ⟨c, h1, h2, _⟩
        · have := congrArg Prod.snd h; dsimp only at this; omega
        · have e1 := congrArg Prod.fst h1
          have e2 := congrArg Prod.snd h1
          dsimp only at e1 e2
          exact ⟨e2, by rw [e1]; exact h2⟩
      refine W.skip ?_
      refine WE.blk _ ?_
      refine WE.nxt ?_
      refine W.region _ ?_
      refine WG.y rfl rfl (by decide) (Yl.add rfl rfl rfl (fun _ => rfl) (by intro _; constructor <;> (try dsimp only) <;> omega)) ?_
      refine WG.run tab_ok 1 rfl ?_
      refine WG.nil ?_
      refine WE.again ((i + 1, sv, fr, frc, R2)) (⟨by dsimp only; omega, hRk.trans hR2, hnsv, hfr, hd2⟩) (by (try dsimp only); omega) ⟨rfl, rfl, rfl, rfl, rfl, rfl, rfl⟩ (RLe.refl _) qS
  · try dsimp only at hc0
    obtain rfl : i = ls.length := by omega
    have hd : totalC (ls.map CvS.cv) = (s, 0) := by rw [htot, List.drop_eq_nil_of_le (by simp)]; rfl
    refine W.exit ?_
    refine WE.then_exit ?_
    refine WE.then_exit ?_
    refine WE.blk_exit ?_
    refine WE.nxt ?_
    refine W.seq ?_
    refine W.region _ ?_
    refine' WG.y rfl rfl (by decide) (Yl.load1 tab_ok rfl rfl rfl (fun _ => rfl) ?r4 rfl ?h4) ?_
    case r4 => (exact Rd.blk 0 rfl)
    case h4 => rfl
    refine WG.run tab_ok 1 rfl ?_
    refine WL.efN rfl rfl (Ef.store0 1 tab_ok rfl rfl rfl rfl rfl rfl rfl rfl ?_)
    refine WG.run tab_ok 1 rfl ?_
    refine WG.nil ?_
    refine WE.nxt ?_
    refine W.ret ?_
    refine WE.retF tab_ok [_, _] rfl ⟨⟨_, _, _, rfl, rfl, rfl, ((by first | exact Rd.blk 0 rfl | exact Rd.blk 1 rfl | exact Rd.blk 2 rfl | exact Rd.blk 3 rfl | exact Rd.blk 4 rfl | exact Rd.blk 5 rfl)), rfl⟩, rfl, trivial⟩ ((by first | exact hR1.trans (hRk.trans hR2) | exact hR1.trans hRk)) ?_
    exact ⟨sa, sc, by rw [hd]; rfl, by rw [hd]; exact hsa, qS⟩

end Go.Proofs.Ytolmmfphdieilaa

/- What a curve leaves of a line. No condition. -/
set_option linter.unusedSimpArgs false
set_option linter.unusedVariables false
namespace Go.Proofs.Ytolmmfphdieilaa
open Go Go.RowKit Go.Proofs.Ytolmmfphdieilaa.K Go.Proofs.Ytolmmfphdieilaa.M

theorem ComOne_V {R : Ro} {P2 : Nat} {p : Int} (hp : p = (P2 : Int)) (hb : 0 < P2 ∧ P2 ≤ 1000) : FnV Try.prog 53 [.int .i64 1, .int .i64 p] R (.int .i64 p) := by
  subst hp
  have h := Common_V (R := R) (a := 1) (b := P2) (by omega) (by omega)
  rw [show 1 / Nat.gcd 1 P2 * P2 = P2 by rw [Nat.gcd_one_left]; simp] at h
  exact h

set_option maxHeartbeats 1000000 in
theorem RBoth_C {R : Ro} {la : Option Addr} {lc : Nat} {cap : Int} (hcap : 1 ≤ cap ∧ cap ≤ 4000) (hla : RS R 1 encI la (lineC cap).vals) {ga : Option Addr} {gc : Nat} {cg : Cv} (hvg : validB cg = true) (hb : RS R 1 encI ga cg.vals) (w0 : World) (E : List Ent) : K.Fn Try.prog 130 [.agg #[.slice la (lineC cap).vals.length lc, .int .i64 (lineC cap).per, .int .i64 (lineC cap).inc], .agg #[.slice ga cg.vals.length gc, .int .i64 cg.per, .int .i64 cg.inc]] w0 R E (fun v R' E' => ∃ (a1 a2 : Option Addr) (c1 c2 : Nat), v = .tuple #[.agg #[.slice a1 (lineC cap).vals.length c1, .int .i64 (lineC cap).per, .int .i64 (lineC cap).inc, .slice a2 (normR cg).vals.length c2, .int .i64 (normR cg).per, .int .i64 (normR cg).inc, .int .i64 (stN (normR cg) : Int), .int .i64 (normR cg).per, .int .i64 (driftL cap (normR cg))], .int .i64 0] ∧ RS R' 1 encI a1 (lineC cap).vals ∧ RS R' 1 encI a2 (normR cg).vals ∧ E.Sublist E') := by
  obtain ⟨hln, hlcv, hlf, hls⟩ := line_facts (cap := cap) (by omega)
  have hlnn : normR (lineC cap) = lineC cap := hln.norm
  have hng := norm_nrm hvg
  obtain ⟨_, g1, g2, g3, g4, g5, g6, g7⟩ := valid_range hng.valid
  have hst := stN_lt hng.valid
  obtain ⟨P2, hP2⟩ := Int.eq_ofNat_of_zero_le (show 0 ≤ (normR cg).per by omega)
  have hmx : (if (stN (lineC cap) : Int) < (stN (normR cg) : Int) then (stN (normR cg) : Int) else (stN (lineC cap) : Int)) = (stN (normR cg) : Int) := by rw [hls]; split <;> omega
  have hcom : ((1 / Nat.gcd 1 P2 * P2 : Nat) : Int) = (normR cg).per := by rw [hP2, Nat.gcd_one_left]; simp
  have hmul := mulB (a := (normR cg).per) (b := cap) (A := 120) (B := 4000) (by omega) (by omega)
  have hdv : (normR cg).per / (normR cg).per = 1 := Int.ediv_self (by omega)
  have hlp : (lineC cap).per = 1 := rfl
  have hli : (lineC cap).inc = cap := rfl
  have hdr : (normR cg).per / (lineC cap).per * (lineC cap).inc - (normR cg).per / (normR cg).per * (normR cg).inc = driftL cap (normR cg) := by rw [hdv, hlp, hli, Int.ediv_one, Int.one_mul]; rfl
  have ha1 : (normR cg).per / (lineC cap).per * (lineC cap).inc = (normR cg).per * cap := by rw [hlp, hli, Int.ediv_one]
  have ha2 : (normR cg).per / (normR cg).per * (normR cg).inc = (normR cg).inc := by rw [hdv, Int.one_mul]
  have ha0 : 0 ≤ (normR cg).per / (lineC cap).per ∧ (normR cg).per / (lineC cap).per ≤ 120 := by rw [hlp, Int.ediv_one]; omega
  refine Fn.enter (n := 64) Try.func130 rfl rfl (Nat.le_of_ble_eq_true rfl) rfl ?_
  refine W.seq ?_
  refine W.region _ ?_
  refine WL.ef rfl rfl (by decide) (Ef.box rfl rfl (fun b2 => ?_))
  refine WL.ef rfl rfl (by decide) (Ef.box rfl rfl (fun b3 => ?_))
  refine WL.ef rfl rfl (by decide) (Ef.alloc tab_ok rfl rfl (fun b4 => ?_))
  refine WG.run tab_ok 1 rfl ?_
  refine WG.nil ?_
  refine WE.nxt ?_
  refine W.seq ?_
  refine W.region _ ?_
  refine' WG.y rfl rfl (by decide) (Yl.load1 tab_ok rfl rfl rfl (fun _ => rfl) ?r1 rfl ?h1) ?_
  case r1 => (exact Rd.blk 2 rfl)
  case h1 => rfl
  refine WL.call en52 rfl rfl (by decide) (CallOp.mkT rfl rfl rfl rfl) (CNormalV_C hln.valid hla w0 _) ?_
  rintro _ R1 _ hR1 ⟨fa1x, ca1x, rfl, ha1x, hsub⟩
  refine WL.subE hsub ?_
  unfold cvV
  rw [hlnn] at ha1x ⊢
  dsimp only at ha1x ⊢
  have hb := hb.mono hR1
  refine WG.run tab_ok 3 rfl ?_
  refine WL.ef rfl rfl (by decide) (Ef.alloc tab_ok rfl rfl (fun b6 => ?_))
  refine WL.efN rfl rfl (Ef.store0 0 tab_ok rfl rfl rfl rfl rfl rfl rfl rfl ?_)
  refine WG.run tab_ok 1 rfl ?_
  refine WG.nil ?_
  refine WE.nxt ?_
  refine W.seq ?_
  refine W.seq ?_
  refine W.region _ ?_
  refine WG.run tab_ok 2 rfl ?_
  refine WG.nil ?_
  refine WE.nxt ?_
  refine W.condN rfl (fun hc0 => ?_) (fun hc0 => ?_)
  · try dsimp only at hc0
    exact absurd rfl hc0
  · try dsimp only at hc0
    refine W.skip ?_
    refine WE.nxt ?_
    refine W.seq ?_
    refine W.region _ ?_
    refine' WG.y rfl rfl (by decide) (Yl.load1 tab_ok rfl rfl rfl (fun _ => rfl) ?r2 rfl ?h2) ?_
    case r2 => (exact Rd.blk 2 rfl)
    case h2 => rfl
    refine WL.call en52 rfl rfl (by decide) (CallOp.mkT rfl rfl rfl rfl) (CNormalV_C hvg hb w0 _) ?_
    rintro _ R2 _ hR2 ⟨fa2x, ca2x, rfl, ha2x, hsub⟩
    refine WL.subE hsub ?_
    unfold cvV
    dsimp only at ha2x ⊢
    have ha1x := ha1x.mono hR2
    refine WG.run tab_ok 3 rfl ?_
    refine WL.ef rfl rfl (by decide) (Ef.alloc tab_ok rfl rfl (fun b8 => ?_))
    refine WL.efN rfl rfl (Ef.store0 0 tab_ok rfl rfl rfl rfl rfl rfl rfl rfl ?_)
    refine WG.run tab_ok 1 rfl ?_
    refine WG.nil ?_
    refine WE.nxt ?_
    refine W.seq ?_
    refine W.seq ?_
    refine W.region _ ?_
    refine WG.run tab_ok 2 rfl ?_
    refine WG.nil ?_
    refine WE.nxt ?_
    refine W.condN rfl (fun hc1 => ?_) (fun hc1 => ?_)
    · try dsimp only at hc1
      exact absurd rfl hc1
    · try dsimp only at hc1
      refine W.skip ?_
      refine WE.nxt ?_
      refine W.seqCut (β := Nat) (fun b9 => True) (fun b9 => [(4, true, .pointer (some ⟨b4, 0, none⟩)), (6, true, .pointer (some ⟨b6, 0, none⟩)), (8, true, .pointer (some ⟨b8, 0, none⟩)), (9, true, .pointer (some ⟨b9, 0, none⟩))]) (fun _ => R2) (fun b9 => .blk b9 [.slice fa1x (lineC cap).vals.length ca1x, .int .i64 (lineC cap).per, .int .i64 (lineC cap).inc, .slice fa2x (normR cg).vals.length ca2x, .int .i64 (normR cg).per, .int .i64 (normR cg).inc, .int .i64 (stN (normR cg) : Int), .int .i64 (normR cg).per, .int .i64 0] :: .blk b8 [.slice fa2x (normR cg).vals.length ca2x, .int .i64 (normR cg).per, .int .i64 (normR cg).inc] :: .blk b6 [.slice fa1x (lineC cap).vals.length ca1x, .int .i64 (lineC cap).per, .int .i64 (lineC cap).inc] :: .blk b4 [.slice none 0 0, .int .i64 0, .int .i64 0, .slice none 0 0, .int .i64 0, .int .i64 0, .int .i64 0, .int .i64 0, .int .i64 0] :: E) ?_ ?_
      ·
        intro b9 hst
        
        refine W.seq ?_
        refine W.seq ?_
        refine W.region _ ?_
        refine WG.run tab_ok 1 rfl ?_
        refine' WG.y rfl rfl (by decide) (Yl.load1 tab_ok rfl rfl rfl (fun _ => rfl) ?r3 rfl ?h3) ?_
        case r3 => apply Rd.add; (exact Rd.blk 0 rfl)
        case h3 => rfl
        refine WG.run tab_ok 1 rfl ?_
        refine WG.nil ?_
        refine WE.nxt ?_
        refine W.condD rfl (fun hc2 => ?_) (fun hc2 => ?_)
        · try dsimp only at hc2
          omega
        · try dsimp only at hc2
          refine W.skip ?_
          refine WE.nxt ?_
          refine W.seq ?_
          refine W.regionH _ (ES := [.blk b8 [.slice fa2x (normR cg).vals.length ca2x, .int .i64 (normR cg).per, .int .i64 (normR cg).inc], .blk b6 [.slice fa1x (lineC cap).vals.length ca1x, .int .i64 (lineC cap).per, .int .i64 (lineC cap).inc]]) mixed ?_
          refine WA.take 0 rfl (by kernel_rfl) (by kernel_rfl) (by kernel_rfl) rfl rfl (by decide) (pureV_ok tab_ok rfl (fun _ => rfl)) qS (by first | exact RLe.refl _ | assumption) ?_
          refine WA.take 2 rfl (by kernel_rfl) (by kernel_rfl) (by kernel_rfl) rfl rfl (by decide) (pureV_ok tab_ok rfl (fun _ => rfl)) qS (by first | exact RLe.refl _ | assumption) ?_
          refine' WA.take 3 rfl (by kernel_rfl) (by kernel_rfl) (by kernel_rfl) rfl rfl (by decide) (Yl.load1 tab_ok rfl rfl rfl (fun _ => rfl) ?r4 rfl ?h4) qS (by first | exact RLe.refl _ | assumption) ?_
          case r4 => apply Rd.add; (exact Rd.blk 1 rfl)
          case h4 => rfl
          refine WA.take 5 rfl (by kernel_rfl) (by kernel_rfl) (by kernel_rfl) rfl rfl (by decide) (pureV_ok tab_ok rfl (fun _ => rfl)) qS (by first | exact RLe.refl _ | assumption) ?_
          refine' WA.take 6 rfl (by kernel_rfl) (by kernel_rfl) (by kernel_rfl) rfl rfl (by decide) (Yl.load1 tab_ok rfl rfl rfl (fun _ => rfl) ?r5 rfl ?h5) qS (by first | exact RLe.refl _ | assumption) ?_
          case r5 => apply Rd.add; (exact Rd.blk 1 rfl)
          case h5 => rfl
          refine WA.take 8 rfl (by kernel_rfl) (by kernel_rfl) (by kernel_rfl) rfl rfl (by decide) (pureV_ok tab_ok rfl (fun _ => rfl)) qS (by first | exact RLe.refl _ | assumption) ?_
          refine WA.take 10 rfl (by kernel_rfl) (by kernel_rfl) (by kernel_rfl) rfl rfl (by decide) (pureV_ok tab_ok rfl (fun _ => rfl)) qS (by first | exact RLe.refl _ | assumption) ?_
          refine' WA.take 11 rfl (by kernel_rfl) (by kernel_rfl) (by kernel_rfl) rfl rfl (by decide) (Yl.load1 tab_ok rfl rfl rfl (fun _ => rfl) ?r6 rfl ?h6) qS (by first | exact RLe.refl _ | assumption) ?_
          case r6 => apply Rd.add; (exact Rd.blk 0 rfl)
          case h6 => rfl
          refine WA.take 13 rfl (by kernel_rfl) (by kernel_rfl) (by kernel_rfl) rfl rfl (by decide) (pureV_ok tab_ok rfl (fun _ => rfl)) qS (by first | exact RLe.refl _ | assumption) ?_
          refine' WA.take 14 rfl (by kernel_rfl) (by kernel_rfl) (by kernel_rfl) rfl rfl (by decide) (Yl.load1 tab_ok rfl rfl rfl (fun _ => rfl) ?r7 rfl ?h7) qS (by first | exact RLe.refl _ | assumption) ?_
          case r7 => apply Rd.add; (exact Rd.blk 0 rfl)
          case h7 => rfl
          refine WA.br2 (i := 1) (j := 9) (by kernel_rfl) ?_ ?_
          ·
            refine' WS.yl rfl rfl rfl (by decide) (Yl.load1 tab_ok rfl rfl rfl (fun _ => rfl) ?r8 rfl ?h8) qS (RLe.refl _) ?_
            case r8 => apply Rd.add; (exact Rd.blk 0 rfl)
            case h8 => rfl
            refine WA.take 4 rfl (by kernel_rfl) (by kernel_rfl) (by kernel_rfl) rfl rfl (by decide) (Yl.quo rfl rfl rfl (fun _ => rfl) (by intro _; constructor <;> (try dsimp only) <;> omega) (by intro _; omega)) qS (by first | exact RLe.refl _ | assumption) ?_
            refine WA.take 7 rfl (by kernel_rfl) (by kernel_rfl) (by kernel_rfl) rfl rfl (by decide) (Yl.mul rfl rfl rfl (fun _ => rfl) (by intro _; constructor <;> (try dsimp only) <;> omega)) qS (by first | exact RLe.refl _ | assumption) ?_
            refine' WA.yl 9 rfl (by kernel_rfl) rfl rfl (by decide) (Yl.load1 tab_ok rfl rfl rfl (fun _ => rfl) ?r9 rfl ?h9) qS (RLe.refl _) ?_
            case r9 => apply Rd.add; (exact Rd.blk 0 rfl)
            case h9 => rfl
            refine WA.take 12 rfl (by kernel_rfl) (by kernel_rfl) (by kernel_rfl) rfl rfl (by decide) (Yl.quo rfl rfl rfl (fun _ => rfl) (by intro _; constructor <;> (try dsimp only) <;> omega) (by intro _; omega)) qS (by first | exact RLe.refl _ | assumption) ?_
            refine WA.take 15 rfl (by kernel_rfl) (by kernel_rfl) (by kernel_rfl) rfl rfl (by decide) (Yl.mul rfl rfl rfl (fun _ => rfl) (by intro _; constructor <;> (try dsimp only) <;> omega)) qS (by first | exact RLe.refl _ | assumption) ?_
            refine WA.take 16 rfl (by kernel_rfl) (by kernel_rfl) (by kernel_rfl) rfl rfl (by decide) (Yl.sub rfl rfl rfl (fun _ => rfl) (by intro _; constructor <;> (try dsimp only) <;> omega)) qS (by first | exact RLe.refl _ | assumption) ?_
            refine WA.take 17 rfl (by kernel_rfl) (by kernel_rfl) (by kernel_rfl) rfl rfl (by decide) (pureV_ok tab_ok rfl (fun _ => rfl)) qS (by first | exact RLe.refl _ | assumption) ?_
            refine WA.effN 18 rfl (by kernel_rfl) rfl rfl (Ef.store 0 tab_ok rfl rfl rfl rfl rfl rfl rfl rfl ?_)
            refine ⟨by first | exact RLe.refl _ | assumption, qS, ?_⟩
            refine WA.done (by kernel_rfl) ?_
            refine WE.nxt ?_
            refine W.seq ?_
            refine W.region _ ?_
            refine' WG.y rfl rfl (by decide) (Yl.load1 tab_ok rfl rfl rfl (fun _ => rfl) ?r10 rfl ?h10) ?_
            case r10 => (exact Rd.blk 0 rfl)
            case h10 => rfl
            refine WL.efN rfl rfl (Ef.store0 3 tab_ok rfl rfl rfl rfl rfl rfl rfl rfl ?_)
            refine WG.run tab_ok 1 rfl ?_
            refine WG.nil ?_
            refine WE.nxt ?_
            refine W.ret ?_
            refine WE.retF tab_ok [_, _] rfl ⟨⟨_, _, _, rfl, rfl, rfl, ((by first | exact Rd.blk 0 rfl | exact Rd.blk 1 rfl | exact Rd.blk 2 rfl | exact Rd.blk 3 rfl | exact Rd.blk 4 rfl | exact Rd.blk 5 rfl | exact Rd.blk 6 rfl)), rfl⟩, rfl, trivial⟩ (hR1.trans hR2) ?_
            exact ⟨_, _, _, _, by first | rfl | (rw [hdr]; rfl), ha1x, ha2x, qS⟩
          ·
            refine' WS.yl rfl rfl rfl (by decide) (Yl.load1 tab_ok rfl rfl rfl (fun _ => rfl) ?r11 rfl ?h11) qS (RLe.refl _) ?_
            case r11 => apply Rd.add; (exact Rd.blk 0 rfl)
            case h11 => rfl
            refine WA.take 12 rfl (by kernel_rfl) (by kernel_rfl) (by kernel_rfl) rfl rfl (by decide) (Yl.quo rfl rfl rfl (fun _ => rfl) (by intro _; constructor <;> (try dsimp only) <;> omega) (by intro _; omega)) qS (by first | exact RLe.refl _ | assumption) ?_
            refine WA.take 15 rfl (by kernel_rfl) (by kernel_rfl) (by kernel_rfl) rfl rfl (by decide) (Yl.mul rfl rfl rfl (fun _ => rfl) (by intro _; constructor <;> (try dsimp only) <;> omega)) qS (by first | exact RLe.refl _ | assumption) ?_
            refine' WA.yl 1 rfl (by kernel_rfl) rfl rfl (by decide) (Yl.load1 tab_ok rfl rfl rfl (fun _ => rfl) ?r12 rfl ?h12) qS (RLe.refl _) ?_
            case r12 => apply Rd.add; (exact Rd.blk 0 rfl)
            case h12 => rfl
            refine WA.take 4 rfl (by kernel_rfl) (by kernel_rfl) (by kernel_rfl) rfl rfl (by decide) (Yl.quo rfl rfl rfl (fun _ => rfl) (by intro _; constructor <;> (try dsimp only) <;> omega) (by intro _; omega)) qS (by first | exact RLe.refl _ | assumption) ?_
            refine WA.take 7 rfl (by kernel_rfl) (by kernel_rfl) (by kernel_rfl) rfl rfl (by decide) (Yl.mul rfl rfl rfl (fun _ => rfl) (by intro _; constructor <;> (try dsimp only) <;> omega)) qS (by first | exact RLe.refl _ | assumption) ?_
            refine WA.take 16 rfl (by kernel_rfl) (by kernel_rfl) (by kernel_rfl) rfl rfl (by decide) (Yl.sub rfl rfl rfl (fun _ => rfl) (by intro _; constructor <;> (try dsimp only) <;> omega)) qS (by first | exact RLe.refl _ | assumption) ?_
            refine WA.take 17 rfl (by kernel_rfl) (by kernel_rfl) (by kernel_rfl) rfl rfl (by decide) (pureV_ok tab_ok rfl (fun _ => rfl)) qS (by first | exact RLe.refl _ | assumption) ?_
            refine WA.effN 18 rfl (by kernel_rfl) rfl rfl (Ef.store 0 tab_ok rfl rfl rfl rfl rfl rfl rfl rfl ?_)
            refine ⟨by first | exact RLe.refl _ | assumption, qS, ?_⟩
            refine WA.done (by kernel_rfl) ?_
            refine WE.nxt ?_
            refine W.seq ?_
            refine W.region _ ?_
            refine' WG.y rfl rfl (by decide) (Yl.load1 tab_ok rfl rfl rfl (fun _ => rfl) ?r13 rfl ?h13) ?_
            case r13 => (exact Rd.blk 0 rfl)
            case h13 => rfl
            refine WL.efN rfl rfl (Ef.store0 3 tab_ok rfl rfl rfl rfl rfl rfl rfl rfl ?_)
            refine WG.run tab_ok 1 rfl ?_
            refine WG.nil ?_
            refine WE.nxt ?_
            refine W.ret ?_
            refine WE.retF tab_ok [_, _] rfl ⟨⟨_, _, _, rfl, rfl, rfl, ((by first | exact Rd.blk 0 rfl | exact Rd.blk 1 rfl | exact Rd.blk 2 rfl | exact Rd.blk 3 rfl | exact Rd.blk 4 rfl | exact Rd.blk 5 rfl | exact Rd.blk 6 rfl)), rfl⟩, rfl, trivial⟩ (hR1.trans hR2) ?_
            exact ⟨_, _, _, _, by first | rfl | (rw [hdr]; rfl), ha1x, ha2x, qS⟩
      ·
        refine W.regionH _ (ES := [.blk b8 [.slice fa2x (normR cg).vals.length ca2x, .int .i64 (normR cg).per, .int .i64 (normR cg).inc], .blk b6 [.slice fa1x (lineC cap).vals.length ca1x, .int .i64 (lineC cap).per, .int .i64 (lineC cap).inc]]) mixed ?_
        refine' WA.take 0 rfl (by kernel_rfl) (by kernel_rfl) (by kernel_rfl) rfl rfl (by decide) (Yl.load1 tab_ok rfl rfl rfl (fun _ => rfl) ?r14 rfl ?h14) qS (by first | exact RLe.refl _ | assumption) ?_
        case r14 => (exact Rd.blk 1 rfl)
        case h14 => rfl
        refine' WA.take 1 rfl (by kernel_rfl) (by kernel_rfl) (by kernel_rfl) rfl rfl (by decide) (Yl.load1 tab_ok rfl rfl rfl (fun _ => rfl) ?r15 rfl ?h15) qS (by first | exact RLe.refl _ | assumption) ?_
        case r15 => (exact Rd.blk 0 rfl)
        case h15 => rfl
        refine' WA.take 2 rfl (by kernel_rfl) (by kernel_rfl) (by kernel_rfl) rfl rfl (by decide) (Yl.load1 tab_ok rfl rfl rfl (fun _ => rfl) ?r16 rfl ?h16) qS (by first | exact RLe.refl _ | assumption) ?_
        case r16 => (exact Rd.blk 1 rfl)
        case h16 => rfl
        refine' WA.take 4 rfl (by kernel_rfl) (by kernel_rfl) (by kernel_rfl) rfl rfl (by decide) (Yl.load1 tab_ok rfl rfl rfl (fun _ => rfl) ?r17 rfl ?h17) qS (by first | exact RLe.refl _ | assumption) ?_
        case r17 => (exact Rd.blk 0 rfl)
        case h17 => rfl
        refine WA.take 7 rfl (by kernel_rfl) (by kernel_rfl) (by kernel_rfl) rfl rfl (by decide) (pureV_ok tab_ok rfl (fun _ => rfl)) qS (by first | exact RLe.refl _ | assumption) ?_
        refine' WA.take 8 rfl (by kernel_rfl) (by kernel_rfl) (by kernel_rfl) rfl rfl (by decide) (Yl.load1 tab_ok rfl rfl rfl (fun _ => rfl) ?r18 rfl ?h18) qS (by first | exact RLe.refl _ | assumption) ?_
        case r18 => apply Rd.add; (exact Rd.blk 1 rfl)
        case h18 => rfl
        refine WA.take 9 rfl (by kernel_rfl) (by kernel_rfl) (by kernel_rfl) rfl rfl (by decide) (pureV_ok tab_ok rfl (fun _ => rfl)) qS (by first | exact RLe.refl _ | assumption) ?_
        refine' WA.take 10 rfl (by kernel_rfl) (by kernel_rfl) (by kernel_rfl) rfl rfl (by decide) (Yl.load1 tab_ok rfl rfl rfl (fun _ => rfl) ?r19 rfl ?h19) qS (by first | exact RLe.refl _ | assumption) ?_
        case r19 => apply Rd.add; (exact Rd.blk 0 rfl)
        case h19 => rfl
        refine WA.br2 (i := 3) (j := 13) (by kernel_rfl) ?_ ?_
        ·
          refine WS.callG rfl en55 rfl (by first | rfl | decide) rfl (by decide) (CallOp.mkT rfl rfl rfl rfl) ((WStartG_V hln.valid ha1x).toFn) ?_
          rintro _ _ _ - ⟨rfl, rfl, rfl⟩
          refine ⟨by first | exact RLe.refl _ | assumption, qS, ?_⟩
          refine WA.br2 (i := 5) (j := 13) (by kernel_rfl) ?_ ?_
          ·
            refine WS.callG rfl en55 rfl (by first | rfl | decide) rfl (by decide) (CallOp.mkT rfl rfl rfl rfl) ((WStartG_V hng.valid ha2x).toFn) ?_
            rintro _ _ _ - ⟨rfl, rfl, rfl⟩
            refine ⟨by first | exact RLe.refl _ | assumption, qS, ?_⟩
            refine WA.take 6 rfl (by kernel_rfl) (by kernel_rfl) (by kernel_rfl) rfl rfl (by decide) (pureV_ok tab_ok rfl (fun _ => rfl)) qS (by first | exact RLe.refl _ | assumption) ?_
            refine WA.br2 (i := 11) (j := 13) (by kernel_rfl) ?_ ?_
            ·
              refine WS.callG rfl en53 rfl (by first | rfl | decide) rfl (by decide) (CallOp.mkT rfl rfl rfl rfl) ((ComOne_V hP2 (by omega)).toFn) ?_
              rintro _ _ _ - ⟨rfl, rfl, rfl⟩
              refine ⟨by first | exact RLe.refl _ | assumption, qS, ?_⟩
              -- build
              refine WA.take 12 rfl (by kernel_rfl) (by kernel_rfl) (by kernel_rfl) rfl rfl (by decide) (Yl.build (parts := [(0, .tmp 28), (1, .tmp 29), (2, .tmp 34), (3, .tmp 39)]) tab_ok rfl rfl rfl rfl (fun _ => rfl) rfl rfl) qS (by first | exact RLe.refl _ | assumption) ?_
              refine WA.eff 13 rfl (by kernel_rfl) rfl rfl (by decide) (Ef.alloc tab_ok rfl rfl (fun b9 => ?_))
              refine ⟨by first | exact RLe.refl _ | assumption, qS, ?_⟩
              refine WA.effN 14 rfl (by kernel_rfl) rfl rfl (Ef.store0 0 tab_ok rfl rfl rfl rfl rfl rfl rfl rfl ?_)
              refine ⟨by first | exact RLe.refl _ | assumption, qS, ?_⟩
              refine WA.done (by kernel_rfl) ?_
              (rw [hmx]; refine WE.cut b9 trivial ⟨rfl, rfl, rfl, rfl, rfl⟩ (RLe.refl _) qS)
            ·
              refine WS.eff rfl rfl rfl (by decide) (Ef.alloc tab_ok rfl rfl (fun b9 => ?_))
              refine ⟨by first | exact RLe.refl _ | assumption, qS, ?_⟩
              refine WA.callG 11 rfl (by kernel_rfl) en53 rfl (by first | rfl | decide) rfl (by decide) (CallOp.mkT rfl rfl rfl rfl) ((ComOne_V hP2 (by omega)).toFn) ?_
              rintro _ _ _ - ⟨rfl, rfl, rfl⟩
              refine ⟨by first | exact RLe.refl _ | assumption, qS, ?_⟩
              -- build
              refine WA.take 12 rfl (by kernel_rfl) (by kernel_rfl) (by kernel_rfl) rfl rfl (by decide) (Yl.build (parts := [(0, .tmp 28), (1, .tmp 29), (2, .tmp 34), (3, .tmp 39)]) tab_ok rfl rfl rfl rfl (fun _ => rfl) rfl rfl) qS (by first | exact RLe.refl _ | assumption) ?_
              refine WA.effN 14 rfl (by kernel_rfl) rfl rfl (Ef.store0 0 tab_ok rfl rfl rfl rfl rfl rfl rfl rfl ?_)
              refine ⟨by first | exact RLe.refl _ | assumption, qS, ?_⟩
              refine WA.done (by kernel_rfl) ?_
              (rw [hmx]; refine WE.cut b9 trivial ⟨rfl, rfl, rfl, rfl, rfl⟩ (RLe.refl _) qS)
          ·
            refine WS.eff rfl rfl rfl (by decide) (Ef.alloc tab_ok rfl rfl (fun b9 => ?_))
            refine ⟨by first | exact RLe.refl _ | assumption, qS, ?_⟩
            refine WA.callG 5 rfl (by kernel_rfl) en55 rfl (by first | rfl | decide) rfl (by decide) (CallOp.mkT rfl rfl rfl rfl) ((WStartG_V hng.valid ha2x).toFn) ?_
            rintro _ _ _ - ⟨rfl, rfl, rfl⟩
            refine ⟨by first | exact RLe.refl _ | assumption, qS, ?_⟩
            refine WA.take 6 rfl (by kernel_rfl) (by kernel_rfl) (by kernel_rfl) rfl rfl (by decide) (pureV_ok tab_ok rfl (fun _ => rfl)) qS (by first | exact RLe.refl _ | assumption) ?_
            refine WA.callG 11 rfl (by kernel_rfl) en53 rfl (by first | rfl | decide) rfl (by decide) (CallOp.mkT rfl rfl rfl rfl) ((ComOne_V hP2 (by omega)).toFn) ?_
            rintro _ _ _ - ⟨rfl, rfl, rfl⟩
            refine ⟨by first | exact RLe.refl _ | assumption, qS, ?_⟩
            -- build
            refine WA.take 12 rfl (by kernel_rfl) (by kernel_rfl) (by kernel_rfl) rfl rfl (by decide) (Yl.build (parts := [(0, .tmp 28), (1, .tmp 29), (2, .tmp 34), (3, .tmp 39)]) tab_ok rfl rfl rfl rfl (fun _ => rfl) rfl rfl) qS (by first | exact RLe.refl _ | assumption) ?_
            refine WA.effN 14 rfl (by kernel_rfl) rfl rfl (Ef.store0 0 tab_ok rfl rfl rfl rfl rfl rfl rfl rfl ?_)
            refine ⟨by first | exact RLe.refl _ | assumption, qS, ?_⟩
            refine WA.done (by kernel_rfl) ?_
            (rw [hmx]; refine WE.cut b9 trivial ⟨rfl, rfl, rfl, rfl, rfl⟩ (RLe.refl _) qS)
        ·
          refine WS.eff rfl rfl rfl (by decide) (Ef.alloc tab_ok rfl rfl (fun b9 => ?_))
          refine ⟨by first | exact RLe.refl _ | assumption, qS, ?_⟩
          refine WA.callG 3 rfl (by kernel_rfl) en55 rfl (by first | rfl | decide) rfl (by decide) (CallOp.mkT rfl rfl rfl rfl) ((WStartG_V hln.valid ha1x).toFn) ?_
          rintro _ _ _ - ⟨rfl, rfl, rfl⟩
          refine ⟨by first | exact RLe.refl _ | assumption, qS, ?_⟩
          refine WA.callG 5 rfl (by kernel_rfl) en55 rfl (by first | rfl | decide) rfl (by decide) (CallOp.mkT rfl rfl rfl rfl) ((WStartG_V hng.valid ha2x).toFn) ?_
          rintro _ _ _ - ⟨rfl, rfl, rfl⟩
          refine ⟨by first | exact RLe.refl _ | assumption, qS, ?_⟩
          refine WA.take 6 rfl (by kernel_rfl) (by kernel_rfl) (by kernel_rfl) rfl rfl (by decide) (pureV_ok tab_ok rfl (fun _ => rfl)) qS (by first | exact RLe.refl _ | assumption) ?_
          refine WA.callG 11 rfl (by kernel_rfl) en53 rfl (by first | rfl | decide) rfl (by decide) (CallOp.mkT rfl rfl rfl rfl) ((ComOne_V hP2 (by omega)).toFn) ?_
          rintro _ _ _ - ⟨rfl, rfl, rfl⟩
          refine ⟨by first | exact RLe.refl _ | assumption, qS, ?_⟩
          -- build
          refine WA.take 12 rfl (by kernel_rfl) (by kernel_rfl) (by kernel_rfl) rfl rfl (by decide) (Yl.build (parts := [(0, .tmp 28), (1, .tmp 29), (2, .tmp 34), (3, .tmp 39)]) tab_ok rfl rfl rfl rfl (fun _ => rfl) rfl rfl) qS (by first | exact RLe.refl _ | assumption) ?_
          refine WA.effN 14 rfl (by kernel_rfl) rfl rfl (Ef.store0 0 tab_ok rfl rfl rfl rfl rfl rfl rfl rfl ?_)
          refine ⟨by first | exact RLe.refl _ | assumption, qS, ?_⟩
          refine WA.done (by kernel_rfl) ?_
          (rw [hmx]; refine WE.cut b9 trivial ⟨rfl, rfl, rfl, rfl, rfl⟩ (RLe.refl _) qS)

theorem RawG_V {R : Ro} {a1 : Option Addr} {c1 : Nat} {cap : Int} (hcap : 1 ≤ cap ∧ cap ≤ 4000) (hx1 : RS R 1 encI a1 (lineC cap).vals) {a2 : Option Addr} {c2 : Nat} {b : Cv} (hvb : validB b = true) (hx2 : RS R 1 encI a2 b.vals) {t : Nat} (ht : t ≤ 10000) : FnV Try.prog 131 [.agg #[.slice a1 (lineC cap).vals.length c1, .int .i64 (lineC cap).per, .int .i64 (lineC cap).inc, .slice a2 b.vals.length c2, .int .i64 b.per, .int .i64 b.inc, .int .i64 (stN b : Int), .int .i64 b.per, .int .i64 (driftL cap b)], .int .i64 (t : Int)] R (.int .i64 (rawL cap b t)) := by
  refine Fn.toV (fun w0 E => ?_)
  obtain ⟨hln, hlcv, hlf, hls⟩ := line_facts (cap := cap) (by omega)
  have hlnn : normR (lineC cap) = lineC cap := hln.norm
  have hbb := cvF_bound hvb t
  have i1 := isInf_iff hvb (t := t) (by omega)
  have hm := mulB (a := cap) (b := (t : Int)) (A := 4000) (B := 10000) (by omega) (by omega)
  have hlt : cvF (lineC cap) t = cap * (t : Int) := by rw [hlcv]
  unfold INF at hbb
  refine Fn.enter (n := 25) Try.func131 rfl rfl (Nat.le_of_ble_eq_true rfl) rfl ?_
  refine W.seq ?_
  refine W.region _ ?_
  refine WL.ef rfl rfl (by decide) (Ef.box rfl rfl (fun b2 => ?_))
  refine WG.run tab_ok 1 rfl ?_
  refine WG.nil ?_
  refine WE.nxt ?_
  refine W.seq ?_
  refine W.regionQ _ mixed (by kernel_rfl) ?_
  refine WG.run tab_ok 1 rfl ?_
  refine' WG.y rfl rfl (by decide) (Yl.load1 tab_ok rfl rfl rfl (fun _ => rfl) ?r1 rfl ?h1) ?_
  case r1 => apply Rd.add; (exact Rd.blk 0 rfl)
  case h1 => rfl
  refine WG.run tab_ok 1 rfl ?_
  refine WG.callV en68 rfl rfl (by decide) (CallOp.mk' rfl rfl rfl rfl) (fun _ => rfl) (fun hg => by have h := WAtG_V (fc := c1) hln.valid hx1 (t := t) (by omega); rw [hlt] at h; exact h) ?_
  refine WG.run tab_ok 1 rfl ?_
  refine' WG.y rfl rfl (by decide) (Yl.load1 tab_ok rfl rfl rfl (fun _ => rfl) ?r2 rfl ?h2) ?_
  case r2 => apply Rd.add; (exact Rd.blk 0 rfl)
  case h2 => rfl
  refine WG.run tab_ok 1 rfl ?_
  refine WG.callV en68 rfl rfl (by decide) (CallOp.mk' rfl rfl rfl rfl) (fun _ => rfl) (fun hg => WAtG_V hvb hx2 (by omega)) ?_
  refine WG.run tab_ok 2 rfl ?_
  refine WG.nil ?_
  refine WE.nxt ?_
  refine W.seq ?_
  refine W.block ?_
  refine W.seq ?_
  refine W.region _ ?_
  refine WG.run tab_ok 3 rfl ?_
  refine WG.nil ?_
  refine WE.nxt ?_
  refine W.condE rfl (fun hc0 => ?_) (fun hc0 => ?_)
  · try dsimp only at hc0
    have hr : rawL cap b t = 0 := if_pos (i1.2 hc0)
    refine W.seq ?_
    refine W.region _ ?_
    refine WG.run tab_ok 1 rfl ?_
    refine WG.nil ?_
    refine WE.nxt ?_
    refine W.ret ?_
    refine WE.blk_ret ?_
    refine WE.then_ret ?_
    refine WE.subE (E' := E) qS ?_
    refine WE.retF tab_ok [_] rfl ⟨rfl, trivial⟩ (RLe.refl _) ?_
    exact ⟨by rw [hr]; rfl, rfl⟩
  · try dsimp only at hc0
    have hr : rawL cap b t = cap * (t : Int) - cvF b t := if_neg (fun h => hc0 (i1.1 h))
    refine W.seq ?_
    refine W.region _ ?_
    refine WG.run tab_ok 3 rfl ?_
    refine WG.nil ?_
    refine WE.nxt ?_
    refine W.condE rfl (fun hc1 => ?_) (fun hc1 => ?_)
    · try dsimp only at hc1
      exfalso; omega
    · try dsimp only at hc1
      refine W.skip ?_
      refine WE.blk _ ?_
      refine WE.nxt ?_
      refine W.seq ?_
      refine W.region _ ?_
      refine WG.run tab_ok 2 rfl ?_
      refine WG.y rfl rfl (by decide) (Yl.sub rfl rfl rfl (fun _ => rfl) (by intro _; constructor <;> (try dsimp only) <;> omega)) ?_
      refine WG.run tab_ok 1 rfl ?_
      refine WG.nil ?_
      refine WE.nxt ?_
      refine W.ret ?_
      refine WE.subE (E' := E) qS ?_
      refine WE.retF tab_ok [_] rfl ⟨rfl, trivial⟩ (RLe.refl _) ?_
      exact ⟨by rw [hr]; rfl, rfl⟩

theorem RestF_V {R : Ro} {b11 : Nat} {a : Option Addr} {c : Nat} {xs : List Int} (h11 : R b11 = some [.slice a xs.length c]) (hx : RS R 1 encI a xs) {t : Nat} (ht : t < xs.length) : FnV Try.prog 132 [.int .i64 (t : Int), .pointer (some ⟨b11, 0, none⟩)] R (.int .i64 (nth xs t)) := by
  refine Fn.toV (fun w0 E => ?_)
  have hla := hx.len
  refine Fn.enter (n := 8) Try.func132 rfl rfl (Nat.le_of_ble_eq_true rfl) rfl ?_
  refine W.seq ?_
  refine W.region _ ?_
  refine WG.run tab_ok 1 rfl ?_
  refine WG.nil ?_
  refine WE.nxt ?_
  refine W.seq ?_
  refine W.region _ ?_
  refine' WG.y rfl rfl (by decide) (Yl.load1 tab_ok rfl rfl rfl (fun _ => rfl) ?r1 rfl ?h1) ?_
  case r1 => exact Rd.ro h11
  case h1 => rfl
  refine WG.run tab_ok 1 rfl ?_
  refine WG.y rfl rfl (by decide) (Yl.indexN tab_ok rfl rfl rfl rfl rfl rfl (fun _ => rfl) (by intro _; (try dsimp only) <;> omega) (by intro _; first | exact fun _ _ _ _ => rfl | exact RS.has (by assumption) | exact fun _ _ _ _ => (by assumption) | exact HasMem.ownD 0 rfl | exact HasMem.ownD 1 rfl)) ?_
  refine' WG.y rfl rfl (by decide) (Yl.load1 tab_ok rfl rfl rfl (fun _ => rfl) ?r2 rfl ?h2) ?_
  case r2 => ((apply RS.rdD; assumption; ((try dsimp only) <;> omega)))
  case h2 => rfl
  refine WG.run tab_ok 1 rfl ?_
  refine WG.nil ?_
  refine WE.nxt ?_
  refine W.ret ?_
  refine WE.subE (E' := E) qS ?_
  refine WE.retF tab_ok [_] rfl ⟨rfl, trivial⟩ (RLe.refl _) ?_
  exact ⟨rfl, rfl⟩

set_option maxHeartbeats 2000000 in
theorem Rest_C {R : Ro} {la : Option Addr} {lc : Nat} {cap : Int} (hcap : 1 ≤ cap ∧ cap ≤ 4000) (hla : RS R 1 encI la (lineC cap).vals) {ga : Option Addr} {gc : Nat} {cg : Cv} (hvg : validB cg = true) (hb : RS R 1 encI ga cg.vals) (w0 : World) (E : List Ent) : K.Fn Try.prog 96 [.agg #[.slice la (lineC cap).vals.length lc, .int .i64 (lineC cap).per, .int .i64 (lineC cap).inc], .agg #[.slice ga cg.vals.length gc, .int .i64 cg.per, .int .i64 cg.inc]] w0 R E (fun r R' E' => ∃ (f : Option Addr) (fc : Nat), r = cvV f fc (restC cap cg) ∧ RS R' 1 encI f (restC cap cg).1.vals ∧ E.Sublist E') := by
  obtain ⟨hln, hlcv, hlf, hls⟩ := line_facts (cap := cap) (by omega)
  have hlnn : normR (lineC cap) = lineC cap := hln.norm
  have hng := norm_nrm hvg
  obtain ⟨_, g1, g2, g3, g4, g5, g6, g7⟩ := valid_range hng.valid
  have hst := stN_lt hng.valid
  obtain ⟨P2, hP2⟩ := Int.eq_ofNat_of_zero_le (show 0 ≤ (normR cg).per by omega)
  have hmul := mulB (a := (normR cg).per) (b := cap) (A := 120) (B := 4000) (by omega) (by omega)
  have hdb : -2000000000 ≤ driftL cap (normR cg) ∧ driftL cap (normR cg) ≤ 480000 := by unfold driftL; omega
  have hperI : (((normR cg).per.toNat : Nat) : Int) = (normR cg).per := by omega
  have hfr := fun t (ht : t ≤ 10000) => rawL_range (cap := cap) (b := normR cg) (by omega) hng.valid ht
  have hmr := fun t (ht : t ≤ 10000) => mostV_range (cap := cap) (b := normR cg) (s := stN (normR cg)) (by omega) hng.valid ht
  have htr := fun t (ht : t ≤ 10000) => tailV_range (cap := cap) (b := normR cg) (s := stN (normR cg)) (by omega) hng.valid ht
  unfold INF at htr
  refine Fn.enter (n := 99) Try.func96 rfl rfl (Nat.le_of_ble_eq_true rfl) rfl ?_
  refine W.seq ?_
  refine W.region _ ?_
  refine WL.ef rfl rfl (by decide) (Ef.box rfl rfl (fun b2 => ?_))
  refine WL.ef rfl rfl (by decide) (Ef.box rfl rfl (fun b3 => ?_))
  refine WL.ef rfl rfl (by decide) (Ef.alloc tab_ok rfl rfl (fun b4 => ?_))
  refine WG.run tab_ok 1 rfl ?_
  refine WG.nil ?_
  refine WE.nxt ?_
  refine W.seq ?_
  refine W.region _ ?_
  refine' WG.y rfl rfl (by decide) (Yl.load1 tab_ok rfl rfl rfl (fun _ => rfl) ?r1 rfl ?h1) ?_
  case r1 => (exact Rd.blk 2 rfl)
  case h1 => rfl
  refine' WG.y rfl rfl (by decide) (Yl.load1 tab_ok rfl rfl rfl (fun _ => rfl) ?r2 rfl ?h2) ?_
  case r2 => (exact Rd.blk 1 rfl)
  case h2 => rfl
  refine WL.call en130 rfl rfl (by decide) (CallOp.mkT rfl rfl rfl rfl) (RBoth_C hcap hla hvg hb w0 _) ?_
  rintro _ R1 _ hR1 ⟨a1, a2, c1, c2, rfl, hx1, hx2, hsub⟩
  refine WL.subE hsub ?_
  refine WG.run tab_ok 3 rfl ?_
  refine WL.ef rfl rfl (by decide) (Ef.alloc tab_ok rfl rfl (fun b6 => ?_))
  refine WL.efN rfl rfl (Ef.store0 0 tab_ok rfl rfl rfl rfl rfl rfl rfl rfl ?_)
  refine WG.run tab_ok 1 rfl ?_
  refine WG.nil ?_
  refine WE.nxt ?_
  refine W.seq ?_
  refine W.seq ?_
  refine W.region _ ?_
  refine WG.run tab_ok 2 rfl ?_
  refine WG.nil ?_
  refine WE.nxt ?_
  refine W.condN rfl (fun hc0 => ?_) (fun hc0 => ?_)
  · try dsimp only at hc0
    exact absurd rfl hc0
  · try dsimp only at hc0
    refine W.skip ?_
    refine WE.nxt ?_
    refine W.seq ?_
    refine W.region _ ?_
    refine WG.run tab_ok 1 rfl ?_
    refine' WG.y rfl rfl (by decide) (Yl.load1 tab_ok rfl rfl rfl (fun _ => rfl) ?r3 rfl ?h3) ?_
    case r3 => apply Rd.add; (exact Rd.blk 0 rfl)
    case h3 => rfl
    refine WG.run tab_ok 1 rfl ?_
    refine' WG.y rfl rfl (by decide) (Yl.load1 tab_ok rfl rfl rfl (fun _ => rfl) ?r4 rfl ?h4) ?_
    case r4 => apply Rd.add; (exact Rd.blk 0 rfl)
    case h4 => rfl
    refine WG.y rfl rfl (by decide) (Yl.add rfl rfl rfl (fun _ => rfl) (by intro _; constructor <;> (try dsimp only) <;> omega)) ?_
    refine WG.run tab_ok 3 rfl ?_
    refine WG.nil ?_
    refine WE.nxt ?_
    refine W.seqCut (β := Nat × Nat × Int) (fun (x, y, z) => ((finB (normR cg) = true ∧ 0 < driftL cap (normR cg)) ∧ x = 400 ∧ y = (normR cg).per.toNat ∧ z = driftL cap (normR cg)) ∨ (¬ (finB (normR cg) = true ∧ 0 < driftL cap (normR cg)) ∧ x = (stN (normR cg)) + (normR cg).per.toNat ∧ y = 1 ∧ z = 0)) (fun (x, y, z) => [(4, true, .pointer (some ⟨b4, 0, none⟩)), (6, true, .pointer (some ⟨b6, 0, none⟩)), (8, true, .int .i64 (x : Int)), (9, true, .int .i64 (y : Int)), (10, true, .int .i64 z)]) (fun _ => R1) (fun _ => .blk b6 [.slice a1 (lineC cap).vals.length c1, .int .i64 (lineC cap).per, .int .i64 (lineC cap).inc, .slice a2 (normR cg).vals.length c2, .int .i64 (normR cg).per, .int .i64 (normR cg).inc, .int .i64 (stN (normR cg) : Int), .int .i64 (normR cg).per, .int .i64 (driftL cap (normR cg))] :: .blk b4 [.slice none 0 0, .int .i64 0, .int .i64 0] :: E) ?_ ?_
    ·
      intro st hst
      obtain ⟨from_, per, inc⟩ := st
      dsimp only at hst ⊢
      have hcs := hst
      have hst := stN_lt hng.valid
      have hfp : from_ ≤ 400 ∧ 1 ≤ per ∧ per ≤ 120 ∧ 0 ≤ inc ∧ inc ≤ 480000 := by rcases hcs with ⟨h1, h2, h3, h4⟩ | ⟨h1, h2, h3, h4⟩ <;> omega
      refine W.seq ?_
      refine W.region _ ?_
      refine WG.run tab_ok 2 rfl ?_
      refine WG.y rfl rfl (by decide) (Yl.add rfl rfl rfl (fun _ => rfl) (by intro _; constructor <;> (try dsimp only) <;> omega)) ?_
      refine WL.ef rfl rfl (by decide) (Ef.makeSliceD (enc := encI) 0 tab_ok rfl rfl rfl rfl rfl rfl (by (try dsimp only) <;> omega) (by (try dsimp only) <;> omega) (by (try dsimp only) <;> omega) (by (try dsimp only) <;> omega) (by decide) rfl rfl (fun a53 => ?_))
      refine WL.ef rfl rfl (by decide) (Ef.alloc tab_ok rfl rfl (fun b11 => ?_))
      refine WL.efN rfl rfl (Ef.store0 0 tab_ok rfl rfl rfl rfl rfl rfl rfl rfl ?_)
      refine WG.nil ?_
      refine WE.nxt ?_
      have e3 : ((from_ : Int) + (per : Int)).toNat = from_ + per := by omega
      rw [e3, ← partV_zero (restF cap (normR cg))]
      refine W.seq ?_
      refine W.region _ ?_
      refine WG.run tab_ok 2 rfl ?_
      refine WG.nil ?_
      refine WE.nxt ?_
      refine W.seq ?_
      refine W.seq ?_
      refine W.region _ ?_
      refine' WG.y rfl rfl (by decide) (Yl.load1 tab_ok rfl rfl rfl (fun _ => rfl) ?r5 rfl ?h5) ?_
      case r5 => (exact Rd.blk 0 rfl)
      case h5 => rfl
      refine WG.run tab_ok 2 rfl ?_
      refine WG.nil ?_
      refine WE.nxt ?_
      refine W.block ?_
      refine W.loopK (β := Nat) (fun t => t ≤ from_ + per ∧ ((finB (normR cg) = true ∧ 0 < driftL cap (normR cg)) → 400 < t → ¬ tailF (rawL cap (normR cg)) (stN (normR cg)) (400 - (stN (normR cg))) < mostF (rawL cap (normR cg)) (stN (normR cg)))) (fun t => [(12, true, .int .i64 (mostV (rawL cap (normR cg)) (stN (normR cg)) t)), (13, true, .int .i64 (tailV (rawL cap (normR cg)) (stN (normR cg)) t)), (56, true, .int .i64 (t : Int))]) [4, 6, 8, 9, 10, 11, 55] [_, _, _, _, _, _, _] [] _ rfl (fun t => [(1, .sl 3 1 (some ⟨a53, 0, none⟩) (from_ + per) ((partV (restF cap (normR cg)) t (from_ + per)).map encI))]) (fun t => from_ + per - t) (0) (⟨Nat.zero_le _, fun _ h => by omega⟩) ⟨vint (by unfold mostV; rw [Nat.zero_min]; rfl), vint (by unfold tailV; rw [if_pos (Nat.zero_le _)]; rfl), rfl, rfl, rfl, rfl, rfl, rfl, rfl, rfl, rfl⟩ qS ?_
      intro t hst
      dsimp only [zipE, setAll, List.cons_append, List.nil_append, List.set_cons_zero, List.set_cons_succ] at hst ⊢
      have hlp := hst
      refine W.seq ?_
      refine W.region _ ?_
      refine WG.run tab_ok 1 rfl ?_
      refine WG.nil ?_
      refine WE.nxt ?_
      refine W.seq ?_
      refine W.condD rfl (fun hc1 => ?_) (fun hc1 => ?_)
      · try dsimp only at hc1
        have htn : t < from_ + per := by omega
        have hpl := partV_len (restF cap (normR cg)) (t := t) (n := from_ + per) (by omega)
        have hset := partV_set (restF cap (normR cg)) htn
        have hr1 := hfr t (by omega)
        have hm1 := hmr t (by omega)
        have ht1 := htr t (by omega)
        have hval := rest_vals (cap := cap) (b := normR cg) (s := (stN (normR cg))) (t := t)
        refine W.skip ?_
        refine WE.nxt ?_
        refine W.seq ?_
        refine W.block ?_
        refine W.seq ?_
        refine W.region _ ?_
        refine WG.run tab_ok 2 rfl ?_
        refine WG.nil ?_
        refine WE.nxt ?_
        refine W.seq ?_
        refine W.region _ ?_
        refine' WG.y rfl rfl (by decide) (Yl.load1 tab_ok rfl rfl rfl (fun _ => rfl) ?r6 rfl ?h6) ?_
        case r6 => (exact Rd.blk 2 rfl)
        case h6 => rfl
        refine WG.run tab_ok 1 rfl ?_
        refine WG.callV en131 rfl rfl (by decide) (CallOp.mk' rfl rfl rfl rfl) (fun _ => rfl) (fun hg => RawG_V hcap hx1 hng.valid hx2 (by omega)) ?_
        refine WG.run tab_ok 1 rfl ?_
        refine WG.nil ?_
        refine WE.nxt ?_
        refine W.seq ?_
        refine W.seq ?_
        refine W.region _ ?_
        refine WG.run tab_ok 2 rfl ?_
        refine' WG.y rfl rfl (by decide) (Yl.load1 tab_ok rfl rfl rfl (fun _ => rfl) ?r7 rfl ?h7) ?_
        case r7 => apply Rd.add; (exact Rd.blk 2 rfl)
        case h7 => rfl
        refine WG.run tab_ok 1 rfl ?_
        refine WG.nil ?_
        refine WE.nxt ?_
        refine W.condD rfl (fun hc2 => ?_) (fun hc2 => ?_)
        · try dsimp only at hc2
          have hge : (stN (normR cg)) ≤ t := by omega
          have htl : (if tailV (rawL cap (normR cg)) (stN (normR cg)) t < (rawL cap (normR cg)) t then (rawL cap (normR cg)) t else tailV (rawL cap (normR cg)) (stN (normR cg)) t) = tailV (rawL cap (normR cg)) (stN (normR cg)) (t + 1) := by rw [tailV_succ hge (by unfold INF; omega)]; split <;> omega
          have hms := mostV_high (f := (rawL cap (normR cg))) hge
          rw [hms] at hval
          have hvx : (if mostV (rawL cap (normR cg)) (stN (normR cg)) t < tailV (rawL cap (normR cg)) (stN (normR cg)) (t + 1) then tailV (rawL cap (normR cg)) (stN (normR cg)) (t + 1) else mostV (rawL cap (normR cg)) (stN (normR cg)) t) = (restF cap (normR cg)) t := by rw [← hval]; split <;> omega
          refine W.region _ ?_
          refine WG.run tab_ok 4 rfl ?_
          rw [htl]
          refine WG.nil ?_
          refine WE.nxt ?_
          refine W.seq ?_
          refine W.region _ ?_
          refine' WG.y rfl rfl (by decide) (Yl.load1 tab_ok rfl rfl rfl (fun _ => rfl) ?r8 rfl ?h8) ?_
          case r8 => (exact Rd.blk 0 rfl)
          case h8 => rfl
          refine WG.run tab_ok 4 rfl ?_
          rw [hvx]
          refine WG.y rfl rfl (by decide) (Yl.indexN tab_ok rfl rfl rfl rfl rfl rfl (fun _ => rfl) (by intro _; (try dsimp only) <;> omega) (by intro _; first | exact fun _ _ _ _ => rfl | exact RS.has (by assumption) | exact fun _ _ _ _ => (by assumption) | exact HasMem.ownD 0 rfl | exact HasMem.ownD 1 rfl | exact HasMem.ownD 2 rfl | exact HasMem.ownD 3 rfl | exact HasMem.ownD 4 rfl | exact HasMem.ownD 5 rfl | exact HasMem.ownD 6 rfl | exact HasMem.ownD 7 rfl)) ?_
          refine WL.efN rfl rfl (Ef.storeD _ 1 tab_ok rfl rfl rfl rfl rfl (by (try dsimp only) <;> omega) rfl rfl rfl rfl ?_)
          refine WG.nil ?_
          refine WE.nxt ?_
          refine W.seq ?_
          refine W.region _ ?_
          refine WG.run tab_ok 4 rfl ?_
          refine WG.y rfl rfl (by decide) (pureV_ok tab_ok rfl qE) ?_
          refine WG.y rfl rfl (by decide) (pureV_ok tab_ok rfl qE) ?_
          refine WG.y rfl rfl (by decide) (Yl.pand rfl rfl rfl (fun _ => rfl) (by intro h1 h2; simp_all <;> omega)) ?_
          refine WG.run tab_ok 1 rfl ?_
          refine WG.y rfl rfl (by decide) (pureV_ok tab_ok rfl qE) ?_
          refine WG.y rfl rfl (by decide) (pureV_ok tab_ok rfl qE) ?_
          refine WG.y rfl rfl (by decide) (pureV_ok tab_ok rfl qE) ?_
          refine WG.y rfl rfl (by decide) (Yl.pand rfl rfl rfl (fun _ => rfl) (by intro h1 h2; simp_all <;> omega)) ?_
          refine WG.nil ?_
          refine WE.nxt ?_
          refine W.cond rfl (fun hc3 => ?_) (fun hc3 => ?_)
          · try simp only [decide_eq_true_eq, decide_eq_false_iff_not, beq_iff_eq, bne_iff_ne, beq_eq_false_iff_ne, bne_eq_false_iff_eq, ne_eq, Bool.or_eq_true, Bool.or_eq_false_iff, Bool.and_eq_true, Bool.and_eq_false_imp, Bool.not_eq_true, Bool.not_eq_true', Bool.not_eq_false', Classical.not_not, Int.not_lt, Int.not_le, gt_iff_lt, ge_iff_le] at hc3
            have hd : restC cap cg = (zcv, 3) := by
              unfold restC
              rw [if_neg (by rw [hvg]; simp)]
              rcases hcs with ⟨h1, rfl, rfl, rfl⟩ | ⟨h1, rfl, rfl, rfl⟩
              · obtain rfl : t = 400 := by omega
                rw [if_pos h1, if_pos]
                have h2 := hc3.2
                unfold tailV mostV at h2
                rw [if_neg (by omega), show 400 + 1 - 1 - (stN (normR cg)) = 400 - (stN (normR cg)) by omega, show min 400 (stN (normR cg)) = (stN (normR cg)) by omega] at h2
                exact h2
              · omega
            refine W.seq ?_
            refine W.region _ ?_
            -- build
            refine WG.y rfl rfl (by decide) (Yl.build (parts := []) tab_ok rfl rfl rfl rfl (fun _ => rfl) rfl rfl) ?_
            refine WL.efN rfl rfl (Ef.store0 3 tab_ok rfl rfl rfl rfl rfl rfl rfl rfl ?_)
            refine WG.run tab_ok 1 rfl ?_
            refine WG.nil ?_
            refine WE.nxt ?_
            refine W.ret ?_
            refine WE.blk_ret ?_
            refine WE.then_ret ?_
            refine WE.then_ret ?_
            refine WE.blk_ret ?_
            refine WE.then_ret ?_
            refine WE.retF tab_ok [_, _] rfl ⟨⟨_, _, _, rfl, rfl, rfl, ((by first | exact Rd.blk 0 rfl | exact Rd.blk 1 rfl | exact Rd.blk 2 rfl | exact Rd.blk 3 rfl | exact Rd.blk 4 rfl | exact Rd.blk 5 rfl | exact Rd.blk 6 rfl | exact Rd.blk 7 rfl)), rfl⟩, rfl, trivial⟩ ((by first | exact hR1 | exact hR1.trans (hR2.trans (hR3.trans hR4)))) ?_
            exact ⟨none, 0, by rw [hd]; rfl, by rw [hd]; exact rs_nil, qS⟩
          · try simp only [decide_eq_true_eq, decide_eq_false_iff_not, beq_iff_eq, bne_iff_ne, beq_eq_false_iff_ne, bne_eq_false_iff_eq, ne_eq, Bool.or_eq_true, Bool.or_eq_false_iff, Bool.and_eq_true, Bool.and_eq_false_imp, Bool.not_eq_true, Bool.not_eq_true', Bool.not_eq_false', Classical.not_not, Int.not_lt, Int.not_le, gt_iff_lt, ge_iff_le] at hc3
            have hnx : (finB (normR cg) = true ∧ 0 < driftL cap (normR cg)) → 400 < t + 1 → ¬ tailF (rawL cap (normR cg)) (stN (normR cg)) (400 - (stN (normR cg))) < mostF (rawL cap (normR cg)) (stN (normR cg)) := fun h1 h2 => by
              by_cases e : t = 400
              · subst e
                rcases hcs with ⟨_, rfl, rfl, rfl⟩ | ⟨h3, _⟩
                · intro h4
                  have h5 : ¬ tailV (rawL cap (normR cg)) (stN (normR cg)) (400 + 1) < mostV (rawL cap (normR cg)) (stN (normR cg)) 400 := fun hh => by
                    (have := hc3 ⟨rfl, h1.2⟩; omega)
                  unfold tailV mostV at h5
                  rw [if_neg (by omega), show 400 + 1 - 1 - (stN (normR cg)) = 400 - (stN (normR cg)) by omega, show min 400 (stN (normR cg)) = (stN (normR cg)) by omega] at h5
                  exact h5 h4
                · exact absurd h1 h3
              · exact hlp.2 h1 (by omega)
            refine W.skip ?_
            refine WE.blk _ ?_
            refine WE.nxt ?_
            refine W.region _ ?_
            refine WG.y rfl rfl (by decide) (Yl.add rfl rfl rfl (fun _ => rfl) (by intro _; constructor <;> (try dsimp only) <;> omega)) ?_
            refine WG.run tab_ok 1 rfl ?_
            refine WG.nil ?_
            refine WE.again (t + 1) (⟨by omega, hnx⟩) (by (try dsimp only); omega) ⟨vint hms.symm, rfl, rfl, rfl, rfl, rfl, rfl, rfl, rfl, rfl, rfl⟩ (RLe.refl _) (by dsimp only [setAll, List.set_cons_zero, List.set_cons_succ]; rw [hset]; exact List.Sublist.refl _)
        · try dsimp only at hc2
          have hlt : t < (stN (normR cg)) := by omega
          have hml : (if mostV (rawL cap (normR cg)) (stN (normR cg)) t < (rawL cap (normR cg)) t then (rawL cap (normR cg)) t else mostV (rawL cap (normR cg)) (stN (normR cg)) t) = mostV (rawL cap (normR cg)) (stN (normR cg)) (t + 1) := by rw [mostV_succ hlt]; split <;> omega
          have hts := tailV_low (f := (rawL cap (normR cg))) hlt
          rw [hts] at hval
          have hvx : (if mostV (rawL cap (normR cg)) (stN (normR cg)) (t + 1) < tailV (rawL cap (normR cg)) (stN (normR cg)) t then tailV (rawL cap (normR cg)) (stN (normR cg)) t else mostV (rawL cap (normR cg)) (stN (normR cg)) (t + 1)) = (restF cap (normR cg)) t := by rw [← hval]; split <;> omega
          refine W.region _ ?_
          refine WG.run tab_ok 4 rfl ?_
          rw [hml]
          refine WG.nil ?_
          refine WE.nxt ?_
          refine W.seq ?_
          refine W.region _ ?_
          refine' WG.y rfl rfl (by decide) (Yl.load1 tab_ok rfl rfl rfl (fun _ => rfl) ?r9 rfl ?h9) ?_
          case r9 => (exact Rd.blk 0 rfl)
          case h9 => rfl
          refine WG.run tab_ok 4 rfl ?_
          rw [hvx]
          refine WG.y rfl rfl (by decide) (Yl.indexN tab_ok rfl rfl rfl rfl rfl rfl (fun _ => rfl) (by intro _; (try dsimp only) <;> omega) (by intro _; first | exact fun _ _ _ _ => rfl | exact RS.has (by assumption) | exact fun _ _ _ _ => (by assumption) | exact HasMem.ownD 0 rfl | exact HasMem.ownD 1 rfl | exact HasMem.ownD 2 rfl | exact HasMem.ownD 3 rfl | exact HasMem.ownD 4 rfl | exact HasMem.ownD 5 rfl | exact HasMem.ownD 6 rfl | exact HasMem.ownD 7 rfl)) ?_
          refine WL.efN rfl rfl (Ef.storeD _ 1 tab_ok rfl rfl rfl rfl rfl (by (try dsimp only) <;> omega) rfl rfl rfl rfl ?_)
          refine WG.nil ?_
          refine WE.nxt ?_
          refine W.seq ?_
          refine W.region _ ?_
          refine WG.run tab_ok 4 rfl ?_
          refine WG.y rfl rfl (by decide) (pureV_ok tab_ok rfl qE) ?_
          refine WG.y rfl rfl (by decide) (pureV_ok tab_ok rfl qE) ?_
          refine WG.y rfl rfl (by decide) (Yl.pand rfl rfl rfl (fun _ => rfl) (by intro h1 h2; simp_all <;> omega)) ?_
          refine WG.run tab_ok 1 rfl ?_
          refine WG.y rfl rfl (by decide) (pureV_ok tab_ok rfl qE) ?_
          refine WG.y rfl rfl (by decide) (pureV_ok tab_ok rfl qE) ?_
          refine WG.y rfl rfl (by decide) (pureV_ok tab_ok rfl qE) ?_
          refine WG.y rfl rfl (by decide) (Yl.pand rfl rfl rfl (fun _ => rfl) (by intro h1 h2; simp_all <;> omega)) ?_
          refine WG.nil ?_
          refine WE.nxt ?_
          refine W.cond rfl (fun hc4 => ?_) (fun hc4 => ?_)
          · try simp only [decide_eq_true_eq, decide_eq_false_iff_not, beq_iff_eq, bne_iff_ne, beq_eq_false_iff_ne, bne_eq_false_iff_eq, ne_eq, Bool.or_eq_true, Bool.or_eq_false_iff, Bool.and_eq_true, Bool.and_eq_false_imp, Bool.not_eq_true, Bool.not_eq_true', Bool.not_eq_false', Classical.not_not, Int.not_lt, Int.not_le, gt_iff_lt, ge_iff_le] at hc4
            exfalso; rcases hcs with ⟨h1, rfl, rfl, rfl⟩ | ⟨h1, rfl, rfl, rfl⟩ <;> omega
          · try simp only [decide_eq_true_eq, decide_eq_false_iff_not, beq_iff_eq, bne_iff_ne, beq_eq_false_iff_ne, bne_eq_false_iff_eq, ne_eq, Bool.or_eq_true, Bool.or_eq_false_iff, Bool.and_eq_true, Bool.and_eq_false_imp, Bool.not_eq_true, Bool.not_eq_true', Bool.not_eq_false', Classical.not_not, Int.not_lt, Int.not_le, gt_iff_lt, ge_iff_le] at hc4
            have hnx : (finB (normR cg) = true ∧ 0 < driftL cap (normR cg)) → 400 < t + 1 → ¬ tailF (rawL cap (normR cg)) (stN (normR cg)) (400 - (stN (normR cg))) < mostF (rawL cap (normR cg)) (stN (normR cg)) := fun h1 h2 => hlp.2 h1 (by omega)
            refine W.skip ?_
            refine WE.blk _ ?_
            refine WE.nxt ?_
            refine W.region _ ?_
            refine WG.y rfl rfl (by decide) (Yl.add rfl rfl rfl (fun _ => rfl) (by intro _; constructor <;> (try dsimp only) <;> omega)) ?_
            refine WG.run tab_ok 1 rfl ?_
            refine WG.nil ?_
            refine WE.again (t + 1) (⟨by omega, hnx⟩) (by (try dsimp only); omega) ⟨rfl, vint hts.symm, rfl, rfl, rfl, rfl, rfl, rfl, rfl, rfl, rfl⟩ (RLe.refl _) (by dsimp only [setAll, List.set_cons_zero, List.set_cons_succ]; rw [hset]; exact List.Sublist.refl _)
      · try dsimp only at hc1
        obtain rfl : t = from_ + per := by omega
        rw [partV_all]
        have hd : restC cap cg = mbuild (restF cap (normR cg)) from_ per inc := by
          unfold restC
          rw [if_neg (by rw [hvg]; simp)]
          rcases hcs with ⟨h1, rfl, rfl, rfl⟩ | ⟨h1, rfl, rfl, rfl⟩
          · rw [if_pos h1, if_neg (hlp.2 h1 (by omega))]
          · rw [if_neg h1]
        have hrb : ∀ t : Nat, t ≤ 1000 → 0 ≤ (restF cap (normR cg)) t ∧ (restF cap (normR cg)) t ≤ 1000000000000000 := fun t ht => by
          have h1 := restF_bound (cap := cap) (b := normR cg) (by omega) hng.valid t
          have h2 := mulB (a := cap) (b := (t : Int)) (A := 4000) (B := 1000) (by omega) (by omega)
          omega
        refine W.exit ?_
        refine WE.then_exit ?_
        refine WE.then_exit ?_
        refine WE.blk_exit ?_
        refine WE.nxt ?_
        refine W.freeze (enc := encI) (xs := fvals (restF cap (normR cg)) (from_ + per)) 1 rfl ?_
        intro R2 hR2 hxs
        refine W.freezeBlk 0 rfl ?_
        intro R3 hR3 h11
        have hxs := hxs.mono hR3
        have hfl := fvals_len (restF cap (normR cg)) (from_ + per)
        have h11' := h11
        rw [← hfl] at h11'
        have hF : ∀ t : Nat, t < from_ + per → FnV Try.prog 132 ((#[] : Array Value).toList ++ [.int .i64 (t : Int)] ++ (#[.pointer (some ⟨b11, 0, none⟩)] : Array Value).toList) R3 (.int .i64 ((restF cap (normR cg)) t)) := fun t ht => by
          have h := RestF_V h11' hxs (t := t) (by omega)
          rw [fvals_nth _ ht] at h
          exact h
        refine W.seq ?_
        refine W.region _ ?_
        refine WG.run tab_ok 4 rfl ?_
        refine WL.call en60 rfl rfl (by decide) (CallOp.mkT rfl rfl rfl rfl) (Build_C (S := from_) (P := per) (I := inc) (F := (restF cap (normR cg))) en132 (by omega) (by omega) (by omega) (fun t ht => .inr (hrb t (by omega))) hF w0 _) ?_
        rintro _ R4 E4 hR4 ⟨fr, frc, rfl, hfr4, hsub⟩
        refine WL.subE hsub ?_
        rw [← hd] at hfr4 ⊢
        unfold cvV
        refine WG.run tab_ok 2 rfl ?_
        refine WL.efN rfl rfl (Ef.store0 1 tab_ok rfl rfl rfl rfl rfl rfl rfl rfl ?_)
        refine WG.run tab_ok 1 rfl ?_
        refine WG.nil ?_
        refine WE.nxt ?_
        refine W.ret ?_
        refine WE.retF tab_ok [_, _] rfl ⟨⟨_, _, _, rfl, rfl, rfl, ((by first | exact Rd.blk 0 rfl | exact Rd.blk 1 rfl | exact Rd.blk 2 rfl | exact Rd.blk 3 rfl | exact Rd.blk 4 rfl | exact Rd.blk 5 rfl | exact Rd.blk 6 rfl | exact Rd.blk 7 rfl)), rfl⟩, rfl, trivial⟩ ((by first | exact hR1 | exact hR1.trans (hR2.trans (hR3.trans hR4)))) ?_
        exact ⟨fr, frc, rfl, hfr4, qS⟩
    ·
      refine W.seq ?_
      refine W.region _ ?_
      refine WG.run tab_ok 1 rfl ?_
      refine' WG.y rfl rfl (by decide) (Yl.load1 tab_ok rfl rfl rfl (fun _ => rfl) ?r10 rfl ?h10) ?_
      case r10 => apply Rd.add; (exact Rd.blk 0 rfl)
      case h10 => rfl
      refine WG.callV (v := .bool true) en57 rfl rfl (by decide) (CallOp.mk' rfl rfl rfl rfl) (fun _ => rfl) (fun hg => by have h := WFiniteG_V (fc := c1) hln.valid hx1; rw [hlf] at h; exact h) ?_
      refine WG.run tab_ok 1 rfl ?_
      refine WG.y rfl rfl (by decide) (pureV_ok tab_ok rfl qE) ?_
      refine' WG.y rfl rfl (by decide) (Yl.loadG tab_ok rfl rfl rfl qE ?r11 rfl ?h11 ?g11) ?_
      case r11 => apply Rd.addC; (exact Rd.blkC 0 rfl)
      case h11 => rfl
      case g11 => exact fun _ => trivial
      refine WG.callV en57 rfl rfl (by decide) (CallOp.mk' rfl rfl rfl rfl) qE (fun hg => WFiniteG_V hng.valid hx2) ?_
      refine WG.y rfl rfl (by decide) (Yl.pand rfl rfl rfl (fun _ => rfl) (by intro h1 h2; simp_all <;> omega)) ?_
      refine WG.run tab_ok 1 rfl ?_
      refine WG.y rfl rfl (by decide) (pureV_ok tab_ok rfl qE) ?_
      refine' WG.y rfl rfl (by decide) (Yl.loadG tab_ok rfl rfl rfl qE ?r12 rfl ?h12 ?g12) ?_
      case r12 => apply Rd.addC; (exact Rd.blkC 0 rfl)
      case h12 => rfl
      case g12 => exact fun _ => trivial
      refine WG.y rfl rfl (by decide) (pureV_ok tab_ok rfl qE) ?_
      refine WG.y rfl rfl (by decide) (Yl.pand rfl rfl rfl (fun _ => rfl) (by intro h1 h2; simp_all <;> omega)) ?_
      refine WG.nil ?_
      refine WE.nxt ?_
      refine W.cond rfl (fun hc5 => ?_) (fun hc5 => ?_)
      · try simp only [decide_eq_true_eq, decide_eq_false_iff_not, beq_iff_eq, bne_iff_ne, beq_eq_false_iff_ne, bne_eq_false_iff_eq, ne_eq, Bool.or_eq_true, Bool.or_eq_false_iff, Bool.and_eq_true, Bool.and_eq_false_imp, Bool.not_eq_true, Bool.not_eq_true', Bool.not_eq_false', Classical.not_not, Int.not_lt, Int.not_le, gt_iff_lt, ge_iff_le] at hc5
        obtain ⟨_, m1, m2, _⟩ := line_facts (cap := cap) (by omega)
        have hdc : (finB (normR cg) = true ∧ 0 < driftL cap (normR cg)) := by first | exact ⟨hc5.1.2, hc5.2⟩ | exact hc5 | exact ⟨hc5.1, hc5.2⟩
        have hmx4 : (if (400 : Int) < (stN (normR cg) : Int) + (normR cg).per then (stN (normR cg) : Int) + (normR cg).per else (400 : Int)) = 400 := if_neg (by omega)
        refine W.regionQ _ mixed (by kernel_rfl) ?_
        refine WG.run tab_ok 3 rfl ?_
        refine' WG.y rfl rfl (by decide) (Yl.load1 tab_ok rfl rfl rfl (fun _ => rfl) ?r13 rfl ?h13) ?_
        case r13 => apply Rd.add; (exact Rd.blk 0 rfl)
        case h13 => rfl
        refine WG.run tab_ok 1 rfl ?_
        refine' WG.y rfl rfl (by decide) (Yl.load1 tab_ok rfl rfl rfl (fun _ => rfl) ?r14 rfl ?h14) ?_
        case r14 => apply Rd.add; (exact Rd.blk 0 rfl)
        case h14 => rfl
        refine WG.run tab_ok 3 rfl ?_
        refine WG.nil ?_
        refine WE.cut (400, (normR cg).per.toNat, driftL cap (normR cg)) (.inl ⟨hdc, rfl, rfl, rfl⟩) ⟨rfl, rfl, vint (by rw [hmx4]; rfl), vint hperI.symm, rfl, rfl⟩ (RLe.refl _) qS
      · try simp only [decide_eq_true_eq, decide_eq_false_iff_not, beq_iff_eq, bne_iff_ne, beq_eq_false_iff_ne, bne_eq_false_iff_eq, ne_eq, Bool.or_eq_true, Bool.or_eq_false_iff, Bool.and_eq_true, Bool.and_eq_false_imp, Bool.not_eq_true, Bool.not_eq_true', Bool.not_eq_false', Classical.not_not, Int.not_lt, Int.not_le, gt_iff_lt, ge_iff_le] at hc5
        have hdc : ¬ (finB (normR cg) = true ∧ 0 < driftL cap (normR cg)) := fun h => by first | exact hc5 h | exact hc5 h.1 h.2 | (have := hc5 h.1; have := h.2; omega) | (have := hc5 ⟨rfl, h.1⟩; have := h.2; omega) | (have := hc5 ⟨trivial, h.1⟩; have := h.2; omega) | (have := hc5 rfl h.1; have := h.2; omega)
        refine W.skip ?_
        refine WE.cut (stN (normR cg) + (normR cg).per.toNat, 1, 0) (.inr ⟨hdc, rfl, rfl, rfl⟩) ⟨rfl, rfl, vint (by omega), rfl, rfl, rfl⟩ (RLe.refl _) qS

end Go.Proofs.Ytolmmfphdieilaa

/- Chapter 18: the curve of a class. No condition. -/
set_option linter.unusedSimpArgs false
set_option linter.unusedVariables false
namespace Go.Proofs.Ytolmmfphdieilaa
open Go Go.RowKit Go.Proofs.Ytolmmfphdieilaa.K Go.Proofs.Ytolmmfphdieilaa.M

theorem PTotal_len {R : Ro} {la : Option Addr} {lc l : Nat} {ls : List CvS} (hl : ls.length = l) (hla : RS R 3 encC la ls) (hls : ∀ x ∈ ls, RS R 1 encI x.a x.cv.vals ∧ validB x.cv = true) (w0 : World) (E : List Ent) : K.Fn Try.prog 94 [.slice la l lc] w0 R E (fun r R' E' => ∃ (f : Option Addr) (fc : Nat), r = cvV f fc (totalC (ls.map CvS.cv)) ∧ RS R' 1 encI f (totalC (ls.map CvS.cv)).1.vals ∧ E.Sublist E') := by
  subst hl; exact PTotal_C hla hls w0 E

set_option maxHeartbeats 1000000 in
theorem PCurve_C {R : Ro} {la za : Option Addr} {lc zc : Nat} {ls : List CvS} {z : List Sz} (hla : RS R 3 encC la ls) (hlc : ls.length ≤ lc) (hls : ∀ x ∈ ls, RS R 1 encI x.a x.cv.vals ∧ x.cv.vals.length ≤ 100000) (hzr : RS R 2 encZ za z) (hzc : z.length ≤ zc) {cap cls : Int} (w0 : World) (E : List Ent) : K.Fn Try.prog 45 [.int .i64 cap, .int .i64 cls, .slice la ls.length lc, .slice za z.length zc] w0 R E (fun r R' E' => ∃ (f : Option Addr) (fc : Nat), r = cvV f fc (prioC cap cls (ls.map CvS.cv) z) ∧ RS R' 1 encI f (prioC cap cls (ls.map CvS.cv) z).1.vals ∧ E.Sublist E') := by
  have hll := hla.len
  have hlz := hzr.len
  refine Fn.enter (n := 92) Try.func45 rfl rfl (Nat.le_of_ble_eq_true rfl) rfl ?_
  refine W.seq ?_
  refine W.region _ ?_
  refine WL.ef rfl rfl (by decide) (Ef.alloc tab_ok rfl rfl (fun b8 => ?_))
  refine WG.run tab_ok 1 rfl ?_
  refine WG.nil ?_
  refine WE.nxt ?_
  refine W.seq ?_
  refine W.seq ?_
  refine W.region _ ?_
  refine WG.run tab_ok 3 rfl ?_
  refine WG.callV en47 rfl rfl (by decide) (CallOp.mk' rfl rfl rfl rfl) (fun _ => rfl) (fun hg => CheckP_V hzr) ?_
  refine WG.run tab_ok 1 rfl ?_
  refine WG.nil ?_
  refine WE.nxt ?_
  refine W.seq ?_
  refine W.region _ ?_
  refine WG.run tab_ok 2 rfl ?_
  refine WG.nil ?_
  refine WE.nxt ?_
  refine W.condN rfl (fun hc0 => ?_) (fun hc0 => ?_)
  · try dsimp only at hc0
    have hd : (prioC cap cls (ls.map CvS.cv) z) = (zcv, chk18 cap cls z) := if_pos hc0
    refine W.seq ?_
    refine W.region _ ?_
    -- build
    refine WG.y rfl rfl (by decide) (Yl.build (parts := []) tab_ok rfl rfl rfl rfl (fun _ => rfl) rfl rfl) ?_
    refine WG.run tab_ok 1 rfl ?_
    refine WL.efN rfl rfl (Ef.store0 0 tab_ok rfl rfl rfl rfl rfl rfl rfl rfl ?_)
    refine WG.run tab_ok 1 rfl ?_
    refine WG.nil ?_
    refine WE.nxt ?_
    refine W.ret ?_
    refine WE.then_ret ?_
    refine WE.retF tab_ok [_, _] rfl ⟨⟨_, _, _, rfl, rfl, rfl, ((by first | exact Rd.blk 0 rfl | exact Rd.blk 1 rfl | exact Rd.blk 2 rfl | exact Rd.blk 3 rfl | exact Rd.blk 4 rfl | exact Rd.blk 5 rfl | exact Rd.blk 6 rfl)), rfl⟩, rfl, trivial⟩ ((by first | exact RLe.refl _ | exact hRm | exact hRm.trans (hR3.trans hR4))) ?_
    exact ⟨none, 0, by rw [hd]; rfl, by rw [hd]; exact rs_nil, qS⟩
  · try dsimp only at hc0
    obtain ⟨p1, p2, p3, p4, p5, hz⟩ := chk18_ok hc0
    have hmap : (ls.map CvS.cv).length = ls.length := by simp
    refine W.skip ?_
    refine WE.nxt ?_
    refine W.seq ?_
    refine W.seq ?_
    refine W.region _ ?_
    refine WG.run tab_ok 5 rfl ?_
    refine WG.nil ?_
    refine WE.nxt ?_
    refine W.condN rfl (fun hc1 => ?_) (fun hc1 => ?_)
    · try dsimp only at hc1
      have hd : (prioC cap cls (ls.map CvS.cv) z) = (zcv, 2) := by unfold prioC; rw [if_neg (fun h => h hc0), if_pos (by rw [hmap]; omega)]
      refine W.seq ?_
      refine W.region _ ?_
      -- build
      refine WG.y rfl rfl (by decide) (Yl.build (parts := []) tab_ok rfl rfl rfl rfl (fun _ => rfl) rfl rfl) ?_
      refine WL.efN rfl rfl (Ef.store0 0 tab_ok rfl rfl rfl rfl rfl rfl rfl rfl ?_)
      refine WG.run tab_ok 1 rfl ?_
      refine WG.nil ?_
      refine WE.nxt ?_
      refine W.ret ?_
      refine WE.then_ret ?_
      refine WE.retF tab_ok [_, _] rfl ⟨⟨_, _, _, rfl, rfl, rfl, ((by first | exact Rd.blk 0 rfl | exact Rd.blk 1 rfl | exact Rd.blk 2 rfl | exact Rd.blk 3 rfl | exact Rd.blk 4 rfl | exact Rd.blk 5 rfl | exact Rd.blk 6 rfl)), rfl⟩, rfl, trivial⟩ ((by first | exact RLe.refl _ | exact hRm | exact hRm.trans (hR3.trans hR4))) ?_
      exact ⟨none, 0, by rw [hd]; rfl, by rw [hd]; exact rs_nil, qS⟩
    · try dsimp only at hc1
      have hle : ls.length = z.length := by omega
      refine W.skip ?_
      refine WE.nxt ?_
      refine W.seq ?_
      refine W.seq ?_
      refine W.region _ ?_
      refine WG.run tab_ok 3 rfl ?_
      refine WG.nil ?_
      refine WE.nxt ?_
      refine W.block ?_
      refine W.loopK (β := Nat) (fun i => i ≤ ls.length ∧ ∀ j, j < i → validB (nth ls j).cv = true) (fun i => [(35, true, .int .i64 (i : Int))]) [0, 1, 2, 3, 8, 33, 34] [_, _, _, _, _, _, _] [] _ rfl (fun i => []) (fun i => ls.length - i) (0) (⟨Nat.zero_le _, fun j hj => by omega⟩) ⟨rfl, rfl, rfl, rfl, rfl, rfl, rfl, rfl, rfl⟩ qS ?_
      intro i hst
      dsimp only [zipE, setAll, List.cons_append, List.nil_append, List.set_cons_zero, List.set_cons_succ] at hst ⊢
      
      refine W.seq ?_
      refine W.region _ ?_
      refine WG.run tab_ok 1 rfl ?_
      refine WG.nil ?_
      refine WE.nxt ?_
      refine W.seq ?_
      refine W.condD rfl (fun hc2 => ?_) (fun hc2 => ?_)
      · try dsimp only at hc2
        have hil : i < ls.length := by omega
        have hxi := hls _ (nth_mem hil)
        refine W.skip ?_
        refine WE.nxt ?_
        refine W.seq ?_
        refine W.block ?_
        refine W.seq ?_
        refine W.region _ ?_
        refine WG.y rfl rfl (by decide) (Yl.indexN tab_ok rfl rfl rfl rfl rfl rfl (fun _ => rfl) (by intro _; (try dsimp only) <;> omega) (by intro _; first | exact fun _ _ _ _ => rfl | exact RS.has (by assumption) | exact fun _ _ _ _ => (by assumption) | exact HasMem.ownD 0 rfl | exact HasMem.ownD 1 rfl | exact HasMem.ownD 2 rfl | exact HasMem.ownD 3 rfl | exact HasMem.ownD 4 rfl | exact HasMem.ownD 5 rfl | exact HasMem.ownD 6 rfl)) ?_
        refine' WG.y rfl rfl (by decide) (Yl.load1 tab_ok rfl rfl rfl (fun _ => rfl) ?r1 rfl ?h1) ?_
        case r1 => ((apply RS.rdD; assumption; ((try dsimp only) <;> omega)))
        case h1 => rfl
        refine WL.ef rfl rfl (by decide) (Ef.alloc tab_ok rfl rfl (fun b12 => ?_))
        refine WL.efN rfl rfl (Ef.store0 0 tab_ok rfl rfl rfl rfl rfl rfl rfl rfl ?_)
        refine WG.nil ?_
        refine WE.nxt ?_
        refine W.seq ?_
        refine W.region _ ?_
        refine' WG.y rfl rfl (by decide) (Yl.load1 tab_ok rfl rfl rfl (fun _ => rfl) ?r2 rfl ?h2) ?_
        case r2 => (exact Rd.blk 0 rfl)
        case h2 => rfl
        refine WG.callV en67 rfl rfl (by decide) (CallOp.mk' rfl rfl rfl rfl) (fun _ => rfl) (fun hg => CValidG_V hxi.1 hxi.2) ?_
        refine WG.run tab_ok 1 rfl ?_
        refine WG.nil ?_
        refine WE.nxt ?_
        refine W.cond rfl (fun hc3 => ?_) (fun hc3 => ?_)
        · try simp only [decide_eq_true_eq, decide_eq_false_iff_not, beq_iff_eq, bne_iff_ne, beq_eq_false_iff_ne, bne_eq_false_iff_eq, ne_eq, Bool.or_eq_true, Bool.or_eq_false_iff, Bool.and_eq_true, Bool.and_eq_false_imp, Bool.not_eq_true, Bool.not_eq_true', Bool.not_eq_false', Classical.not_not, Int.not_lt, Int.not_le, gt_iff_lt, ge_iff_le] at hc3
          have hno : allV (ls.map CvS.cv) = false := by
            rw [← Bool.not_eq_true, allV_iff]
            intro h
            have := h _ (List.mem_map_of_mem (nth_mem hil))
            simp [this] at hc3
          have hd : (prioC cap cls (ls.map CvS.cv) z) = (zcv, 1) := by unfold prioC; rw [if_neg (fun h => h hc0), if_neg (by rw [hmap]; omega), if_pos hno]
          refine W.seq ?_
          refine W.region _ ?_
          -- build
          refine WG.y rfl rfl (by decide) (Yl.build (parts := []) tab_ok rfl rfl rfl rfl (fun _ => rfl) rfl rfl) ?_
          refine WL.efN rfl rfl (Ef.store0 1 tab_ok rfl rfl rfl rfl rfl rfl rfl rfl ?_)
          refine WG.run tab_ok 1 rfl ?_
          refine WG.nil ?_
          refine WE.nxt ?_
          refine W.ret ?_
          refine WE.blk_ret ?_
          refine WE.then_ret ?_
          refine WE.then_ret ?_
          refine WE.blk_ret ?_
          refine WE.then_ret ?_
          refine WE.retF tab_ok [_, _] rfl ⟨⟨_, _, _, rfl, rfl, rfl, ((by first | exact Rd.blk 0 rfl | exact Rd.blk 1 rfl | exact Rd.blk 2 rfl | exact Rd.blk 3 rfl | exact Rd.blk 4 rfl | exact Rd.blk 5 rfl | exact Rd.blk 6 rfl)), rfl⟩, rfl, trivial⟩ ((by first | exact RLe.refl _ | exact hRm | exact hRm.trans (hR3.trans hR4))) ?_
          exact ⟨none, 0, by rw [hd]; rfl, by rw [hd]; exact rs_nil, qS⟩
        · try simp only [decide_eq_true_eq, decide_eq_false_iff_not, beq_iff_eq, bne_iff_ne, beq_eq_false_iff_ne, bne_eq_false_iff_eq, ne_eq, Bool.or_eq_true, Bool.or_eq_false_iff, Bool.and_eq_true, Bool.and_eq_false_imp, Bool.not_eq_true, Bool.not_eq_true', Bool.not_eq_false', Classical.not_not, Int.not_lt, Int.not_le, gt_iff_lt, ge_iff_le] at hc3
          have hvi : validB (nth ls i).cv = true := by simpa using hc3
          refine W.skip ?_
          refine WE.blk _ ?_
          refine WE.nxt ?_
          refine W.region _ ?_
          refine WG.y rfl rfl (by decide) (Yl.add rfl rfl rfl (fun _ => rfl) (by intro _; constructor <;> (try dsimp only) <;> omega)) ?_
          refine WG.run tab_ok 1 rfl ?_
          refine WG.nil ?_
          refine WE.again (i + 1) (⟨by omega, fun j hj => by
            by_cases e : j = i
            · subst e; exact hvi
            · exact hst.2 j (by omega)⟩) (by (try dsimp only); omega) ⟨rfl, rfl, rfl, rfl, rfl, rfl, rfl, rfl, rfl⟩ (RLe.refl _) qS
      · try dsimp only at hc2
        obtain rfl : i = ls.length := by omega
        have hav : ∀ c ∈ ls.map CvS.cv, validB c = true := fun c hc => by
          obtain ⟨x, hx, rfl⟩ := List.mem_map.1 hc
          obtain ⟨j, hj, rfl⟩ := List.getElem_of_mem hx
          have := hst.2 j hj
          rw [nth_eq hj] at this
          exact this
        have hav2 : allV (ls.map CvS.cv) = true := allV_iff.2 hav
        refine W.exit ?_
        refine WE.then_exit ?_
        refine WE.then_exit ?_
        refine WE.blk_exit ?_
        refine WE.nxt ?_
        refine W.seq ?_
        refine W.region _ ?_
        refine WG.run tab_ok 1 rfl ?_
        refine WG.nil ?_
        refine WE.nxt ?_
        refine W.seq ?_
        refine W.seq ?_
        refine W.region _ ?_
        refine WG.run tab_ok 2 rfl ?_
        refine WG.y rfl rfl (by decide) (Yl.add rfl rfl rfl (fun _ => rfl) (by intro _; constructor <;> (try dsimp only) <;> omega)) ?_
        refine WG.y rfl rfl (by decide) (Yl.sliceL tab_ok rfl rfl rfl rfl rfl rfl (fun _ => rfl) (by intro _; omega)) ?_
        have hdl : (z.drop (cls + 1).toNat).length = z.length - (cls + 1).toNat := List.length_drop
        rw [← hdl]
        have hzdr := hzr.subL (l := (cls + 1).toNat) (cap := zc) (by omega) hzc
        refine WG.run tab_ok 2 rfl ?_
        refine WG.nil ?_
        refine WE.nxt ?_
        refine W.block ?_
        refine W.loopK (β := Nat) (fun k => k ≤ z.length - (cls + 1).toNat) (fun k => [(13, true, .int .i64 (mostF (blkF cls z) k)), (49, true, .int .i64 (k : Int))]) [0, 1, 2, 8, 47, 48] [_, _, _, _, _, _] [] _ rfl (fun k => []) (fun k => z.length - (cls + 1).toNat - k) (0) (Nat.zero_le _) ⟨rfl, rfl, rfl, rfl, rfl, rfl, rfl, rfl, rfl⟩ qS ?_
        intro k hst
        dsimp only [zipE, setAll, List.cons_append, List.nil_append, List.set_cons_zero, List.set_cons_succ] at hst ⊢
        
        refine W.seq ?_
        refine W.region _ ?_
        refine WG.run tab_ok 1 rfl ?_
        refine WG.nil ?_
        refine WE.nxt ?_
        refine W.seq ?_
        refine W.condD rfl (fun hc4 => ?_) (fun hc4 => ?_)
        · try dsimp only at hc4
          have hkl : k < z.length - (cls + 1).toNat := by omega
          have hkd : k < (z.drop (cls + 1).toNat).length := by rw [List.length_drop]; exact hkl
          have hzd := hz _ (List.mem_of_mem_drop (nth_mem hkd))
          have hmk := blk_range (cls := cls) hz (n := k) (by omega)
          have hmx : (if mostF (blkF cls z) k < (nth (z.drop (cls + 1).toNat) k).most - 1 then (nth (z.drop (cls + 1).toNat) k).most - 1 else mostF (blkF cls z) k) = mostF (blkF cls z) (k + 1) := by
            show _ = max (mostF (blkF cls z) k) (blkF cls z k)
            unfold blkF
            split <;> omega
          refine W.skip ?_
          refine WE.nxt ?_
          refine W.seq ?_
          refine W.block ?_
          refine W.seq ?_
          refine W.region _ ?_
          refine WG.y rfl rfl (by decide) (Yl.indexN tab_ok rfl rfl rfl rfl rfl rfl (fun _ => rfl) (by intro _; (try dsimp only) <;> omega) (by intro _; first | exact fun _ _ _ _ => rfl | exact RS.has (by assumption) | exact fun _ _ _ _ => (by assumption) | exact HasMem.ownD 0 rfl | exact HasMem.ownD 1 rfl | exact HasMem.ownD 2 rfl | exact HasMem.ownD 3 rfl | exact HasMem.ownD 4 rfl | exact HasMem.ownD 5 rfl | exact HasMem.ownD 6 rfl)) ?_
          refine' WG.y rfl rfl (by decide) (Yl.load1 tab_ok rfl rfl rfl (fun _ => rfl) ?r3 rfl ?h3) ?_
          case r3 => ((apply RS.rdD; assumption; ((try dsimp only) <;> omega)))
          case h3 => rfl
          refine WL.ef rfl rfl (by decide) (Ef.alloc tab_ok rfl rfl (fun b15 => ?_))
          refine WL.efN rfl rfl (Ef.store0 0 tab_ok rfl rfl rfl rfl rfl rfl rfl rfl ?_)
          refine WG.nil ?_
          refine WE.nxt ?_
          refine W.region _ ?_
          refine WG.run tab_ok 2 rfl ?_
          refine' WG.y rfl rfl (by decide) (Yl.load1 tab_ok rfl rfl rfl (fun _ => rfl) ?r4 rfl ?h4) ?_
          case r4 => apply Rd.add; (exact Rd.blk 0 rfl)
          case h4 => rfl
          refine WG.y rfl rfl (by decide) (Yl.sub rfl rfl rfl (fun _ => rfl) (by intro _; constructor <;> (try dsimp only) <;> omega)) ?_
          refine WG.run tab_ok 2 rfl ?_
          refine WG.nil ?_
          refine WE.blk _ ?_
          refine WE.nxt ?_
          refine W.region _ ?_
          refine WG.y rfl rfl (by decide) (Yl.add rfl rfl rfl (fun _ => rfl) (by intro _; constructor <;> (try dsimp only) <;> omega)) ?_
          refine WG.run tab_ok 1 rfl ?_
          refine WG.nil ?_
          refine WE.again (k + 1) (by omega) (by (try dsimp only); omega) ⟨vint hmx, rfl, rfl, rfl, rfl, rfl, rfl, rfl, rfl⟩ (RLe.refl _) qS
        · try dsimp only at hc4
          obtain rfl : k = z.length - (cls + 1).toNat := by omega
          have hbk : 0 ≤ blkN cls z ∧ blkN cls z ≤ 1499 := blk_range hz (Nat.le_refl _)
          have hmr := mid_res (l := (ls.map CvS.cv).take cls.toNat) (fun c hc => hav c (List.mem_of_mem_take hc)) (k := blkN cls z) (by unfold MAXV; omega)
          have htr := total_res ((ls.map CvS.cv).take cls.toNat) zeroC zero_nrm.valid zero_nrm (fun c hc => hav c (List.mem_of_mem_take hc))
          rw [show mostF (blkF cls z) (z.length - (cls + 1).toNat) = blkN cls z from rfl]
          refine W.exit ?_
          refine WE.then_exit ?_
          refine WE.then_exit ?_
          refine WE.blk_exit ?_
          refine WE.nxt ?_
          refine W.seq ?_
          refine W.region _ ?_
          refine WG.run tab_ok 2 rfl ?_
          refine WG.y rfl rfl (by decide) (Yl.sliceH tab_ok rfl rfl rfl rfl rfl (fun _ => rfl) (by intro _; omega) rfl) ?_
          refine WL.call en94 rfl rfl (by decide) (CallOp.mkT rfl rfl rfl rfl) (PTotal_len (ls := ls.take cls.toNat) (by rw [List.length_take]; omega) (hla.take _) (fun x hx => ⟨(hls x (List.mem_of_mem_take hx)).1, hav x.cv (List.mem_map_of_mem (List.mem_of_mem_take hx))⟩) w0 _) ?_
          rintro _ R1 _ hR1 ⟨ft, ftc, rfl, hft, hsub⟩
          refine WL.subE hsub ?_
          rw [List.map_take] at hft ⊢
          unfold cvV
          refine WG.run tab_ok 3 rfl ?_
          refine WL.ef rfl rfl (by decide) (Ef.alloc tab_ok rfl rfl (fun b16 => ?_))
          refine WL.efN rfl rfl (Ef.store0 0 tab_ok rfl rfl rfl rfl rfl rfl rfl rfl ?_)
          refine WG.run tab_ok 1 rfl ?_
          refine WG.nil ?_
          refine WE.nxt ?_
          refine W.seqCut (β := (Cv × Int) × Option Addr × Nat × Ro × Nat) (fun (mid, fm, fmc, Rm, b16) => RLe R Rm ∧ RS Rm 1 encI fm mid.1.vals ∧ (midC (totalC ((ls.map CvS.cv).take cls.toNat)) (blkN cls z)) = mid) (fun (mid, fm, fmc, Rm, b16) => [(0, true, .int .i64 cap), (8, true, .pointer (some ⟨b8, 0, none⟩)), (16, true, .pointer (some ⟨b16, 0, none⟩)), (17, true, .int .i64 mid.2)]) (fun (mid, fm, fmc, Rm, b16) => Rm) (fun (mid, fm, fmc, Rm, b16) => .blk b16 [.slice fm mid.1.vals.length fmc, .int .i64 mid.1.per, .int .i64 mid.1.inc] :: .blk b8 [.slice none 0 0, .int .i64 0, .int .i64 0] :: E) ?_ ?_
          ·
            intro st hst
            obtain ⟨mid, fm, fmc, Rm, b16⟩ := st
            obtain ⟨hRm, hm, hmid⟩ := hst
            dsimp only at hRm hm ⊢
            refine W.seq ?_
            refine W.seq ?_
            refine W.region _ ?_
            refine WG.run tab_ok 2 rfl ?_
            refine WG.nil ?_
            refine WE.nxt ?_
            refine W.condN rfl (fun hc5 => ?_) (fun hc5 => ?_)
            · try dsimp only at hc5
              have hd : (prioC cap cls (ls.map CvS.cv) z) = (zcv, mid.2) := by unfold prioC; rw [if_neg (fun h => h hc0), if_neg (by rw [hmap]; omega), if_neg (by rw [hav2]; decide), hmid, if_pos hc5]
              refine W.seq ?_
              refine W.region _ ?_
              -- build
              refine WG.y rfl rfl (by decide) (Yl.build (parts := []) tab_ok rfl rfl rfl rfl (fun _ => rfl) rfl rfl) ?_
              refine WG.run tab_ok 1 rfl ?_
              refine WL.efN rfl rfl (Ef.store0 1 tab_ok rfl rfl rfl rfl rfl rfl rfl rfl ?_)
              refine WG.run tab_ok 1 rfl ?_
              refine WG.nil ?_
              refine WE.nxt ?_
              refine W.ret ?_
              refine WE.then_ret ?_
              refine WE.retF tab_ok [_, _] rfl ⟨⟨_, _, _, rfl, rfl, rfl, ((by first | exact Rd.blk 0 rfl | exact Rd.blk 1 rfl | exact Rd.blk 2 rfl | exact Rd.blk 3 rfl | exact Rd.blk 4 rfl | exact Rd.blk 5 rfl | exact Rd.blk 6 rfl)), rfl⟩, rfl, trivial⟩ ((by first | exact RLe.refl _ | exact hRm | exact hRm.trans (hR3.trans hR4))) ?_
              exact ⟨none, 0, by rw [hd]; rfl, by rw [hd]; exact rs_nil, qS⟩
            · try dsimp only at hc5
              have hd : (prioC cap cls (ls.map CvS.cv) z) = restC cap mid.1 := by unfold prioC; rw [if_neg (fun h => h hc0), if_neg (by rw [hmap]; omega), if_neg (by rw [hav2]; decide), hmid, if_neg (fun h => h hc5)]
              have hmv : validB mid.1 = true := by
                rw [← hmid] at hc5 ⊢
                rcases hmr with h | ⟨c, h1, h2⟩
                · rw [h] at hc5; exact absurd hc5 (by decide)
                · rw [h1]; exact h2.valid
              refine W.skip ?_
              refine WE.nxt ?_
              refine W.seq ?_
              refine W.region _ ?_
              refine WG.run tab_ok 1 rfl ?_
              refine WL.call en31 rfl rfl (by decide) (CallOp.mkT rfl rfl rfl rfl) (Serve_ok (cap := cap) w0 (by omega) _) ?_
              rintro _ _ E2 - ⟨g, rfl, rfl, hsub⟩
              refine WL.subE hsub ?_
              refine WL.freeze (enc := encI) (xs := (lineC cap).vals) 0 rfl ?_
              intro R3 hR3 hsv
              have hm := hm.mono hR3
              refine WG.run tab_ok 3 rfl ?_
              refine WL.ef rfl rfl (by decide) (Ef.alloc tab_ok rfl rfl (fun b18 => ?_))
              refine WL.efN rfl rfl (Ef.store0 0 tab_ok rfl rfl rfl rfl rfl rfl rfl rfl ?_)
              refine WG.run tab_ok 1 rfl ?_
              refine WG.nil ?_
              refine WE.nxt ?_
              refine W.seq ?_
              refine W.seq ?_
              refine W.region _ ?_
              refine WG.run tab_ok 2 rfl ?_
              refine WG.nil ?_
              refine WE.nxt ?_
              refine W.condN rfl (fun hc6 => ?_) (fun hc6 => ?_)
              · try dsimp only at hc6
                exact absurd rfl hc6
              · try dsimp only at hc6
                refine W.skip ?_
                refine WE.nxt ?_
                refine W.seq ?_
                refine W.region _ ?_
                refine' WG.y rfl rfl (by decide) (Yl.load1 tab_ok rfl rfl rfl (fun _ => rfl) ?r5 rfl ?h5) ?_
                case r5 => (exact Rd.blk 0 rfl)
                case h5 => rfl
                refine' WG.y rfl rfl (by decide) (Yl.load1 tab_ok rfl rfl rfl (fun _ => rfl) ?r6 rfl ?h6) ?_
                case r6 => (exact Rd.blk 1 rfl)
                case h6 => rfl
                refine WL.call en96 rfl rfl (by decide) (CallOp.mkT rfl rfl rfl rfl) (Rest_C (lc := 1) (by omega) hsv (cg := mid.1) hmv hm w0 _) ?_
                rintro _ R4 E4 hR4 ⟨fr, frc, rfl, hfr, hsub⟩
                refine WL.subE hsub ?_
                unfold cvV
                refine WG.run tab_ok 2 rfl ?_
                refine WL.efN rfl rfl (Ef.store0 2 tab_ok rfl rfl rfl rfl rfl rfl rfl rfl ?_)
                refine WG.run tab_ok 1 rfl ?_
                refine WG.nil ?_
                refine WE.nxt ?_
                refine W.ret ?_
                refine WE.retF tab_ok [_, _] rfl ⟨⟨_, _, _, rfl, rfl, rfl, ((by first | exact Rd.blk 0 rfl | exact Rd.blk 1 rfl | exact Rd.blk 2 rfl | exact Rd.blk 3 rfl | exact Rd.blk 4 rfl | exact Rd.blk 5 rfl | exact Rd.blk 6 rfl)), rfl⟩, rfl, trivial⟩ ((by first | exact RLe.refl _ | exact hRm | exact hRm.trans (hR3.trans hR4))) ?_
                exact ⟨fr, frc, by rw [hd]; rfl, by rw [hd]; exact hfr, qS⟩
          ·
            refine W.seq ?_
            refine W.region _ ?_
            refine WG.run tab_ok 2 rfl ?_
            refine WG.nil ?_
            refine WE.nxt ?_
            refine W.condE rfl (fun hc7 => ?_) (fun hc7 => ?_)
            · try dsimp only at hc7
              have hme : (midC (totalC ((ls.map CvS.cv).take cls.toNat)) (blkN cls z)) = raiseC (totalC ((ls.map CvS.cv).take cls.toNat)).1 (blkN cls z) := if_pos hc7
              have htv : validB (totalC ((ls.map CvS.cv).take cls.toNat)).1 = true := by
                rcases htr with h | ⟨c, h1, h2, _⟩
                · rw [show totalC ((ls.map CvS.cv).take cls.toNat) = (zcv, 3) from h] at hc7; exact absurd hc7 (by decide)
                · rw [show totalC ((ls.map CvS.cv).take cls.toNat) = (c, 0) from h1]; exact h2.valid
              refine W.region _ ?_
              refine' WG.y rfl rfl (by decide) (Yl.load1 tab_ok rfl rfl rfl (fun _ => rfl) ?r7 rfl ?h7) ?_
              case r7 => (exact Rd.blk 0 rfl)
              case h7 => rfl
              refine WG.run tab_ok 1 rfl ?_
              refine WL.call en95 rfl rfl (by decide) (CallOp.mkT rfl rfl rfl rfl) (PRaise_C (cf := (totalC ((ls.map CvS.cv).take cls.toNat)).1) (k := blkN cls z) htv hft (by omega) w0 _) ?_
              rintro _ R2 _ hR2 ⟨fm, fmc, rfl, hfm, hsub⟩
              refine WL.subE hsub ?_
              unfold cvV
              refine WG.run tab_ok 3 rfl ?_
              refine WL.efN rfl rfl (Ef.store0 0 tab_ok rfl rfl rfl rfl rfl rfl rfl rfl ?_)
              refine WG.run tab_ok 1 rfl ?_
              refine WG.nil ?_
              refine WE.cut (raiseC (totalC ((ls.map CvS.cv).take cls.toNat)).1 (blkN cls z), fm, fmc, R2, b16) ⟨hR1.trans hR2, hfm, hme⟩ ⟨rfl, rfl, rfl, rfl, rfl⟩ (RLe.refl _) qS
            · try dsimp only at hc7
              have hme : (midC (totalC ((ls.map CvS.cv).take cls.toNat)) (blkN cls z)) = totalC ((ls.map CvS.cv).take cls.toNat) := if_neg hc7
              refine W.skip ?_
              refine WE.cut (totalC ((ls.map CvS.cv).take cls.toNat), ft, ftc, R1, b16) ⟨hR1, hft, hme⟩ ⟨rfl, rfl, rfl, rfl, rfl⟩ (RLe.refl _) qS

end Go.Proofs.Ytolmmfphdieilaa

/- Time slots, plain: the curves of the program and of the reference are the same. No condition. -/
namespace Go.Proofs.Ytolmmfphdieilaa.M
open Go Go.Proofs.Ytolmmfphdieilaa.K

def chkT (cap cls : Int) (tb : List Int) (z : List Sz) : Int := if chk18 cap cls z ≠ 0 then 2 else if okT z.length tb = false then 2 else 0
def someT (cls : Int) (tb : List Int) : Bool := tb.any fun c => c == cls
def allT (cls : Int) (tb : List Int) : Bool := tb.all fun c => c == cls
def lineF (cap lost : Int) (t : Nat) : Int := max 0 (cap * t - lost)
def slotC (cap cls : Int) (tb : List Int) (z : List Sz) : Cv × Int :=
  if chkT cap cls tb z ≠ 0 then (zcv, chkT cap cls tb z)
  else if someT cls tb = false ∨ (nth z cls.toNat).most < 1 then (zcv, 5)
  else if allT cls tb = true then (if 400 * cap < (nth z cls.toNat).most - 1 then (zcv, 3) else madeR ⟨fvals (lineF cap ((nth z cls.toNat).most - 1)) 401, 1, cap⟩)
  else madeR ⟨fvals (slotF cap ((nth z cls.toNat).most - 1) (mineT tb cls) tb.length) (3 * tb.length + tb.length), tb.length,
    slotF cap ((nth z cls.toNat).most - 1) (mineT tb cls) tb.length (4 * tb.length - 1) - slotF cap ((nth z cls.toNat).most - 1) (mineT tb cls) tb.length (3 * tb.length - 1)⟩
section
variable {cap lost : Int}
variable {mine : Nat → Bool} {n : Nat}
end
end Go.Proofs.Ytolmmfphdieilaa.M

/- Time slots: what the walks want. No condition. -/
namespace Go.Proofs.Ytolmmfphdieilaa.M
open Go Go.Proofs.Ytolmmfphdieilaa.K

def aheadP (tb : List Int) (cls : Int) (t n : Nat) : Bool := decide (cls < 0) || nth tb ((t + n) % tb.length) != cls
def aheadV (tb : List Int) (cls : Int) (t : Nat) : Int × Bool := if aheadN tb cls t = -1 then (0, false) else (aheadN tb cls t, true)
def clsN (tb : List Int) (k : Nat) : Int := (tb.take k).foldl (fun m c => if m < c + 1 then c + 1 else m) 1
/-- what room a packet of a class has at the beginning of a tick -/
def roomT (cap : Int) (tb : List Int) (cls t : Int) : Int :=
  if cap < 1 ∨ 4000 < cap ∨ tb.length < 1 ∨ 40 < tb.length ∨ t < 0 ∨ 2000 < t then 0
  else if (aheadV tb cls t.toNat).2 = false then 1073741824 else (aheadV tb cls t.toNat).1 * cap
/-- how many ticks of the part that goes on -/
def rowS (mine : Nat → Bool) (a : Nat) : Nat → Nat
  | 0 => 0
  | d + 1 => if mine (a + d) = true then rowS mine a d + 1 else 0
end Go.Proofs.Ytolmmfphdieilaa.M

/- Time slots, plain: a class's curve is what it is served, and greater packets have a lesser one. No condition. -/
namespace Go.Proofs.Ytolmmfphdieilaa.M
open Go Go.Proofs.Ytolmmfphdieilaa.K

theorem FC.valid {F : Nat → Int} {S P : Nat} {I : Int} (h : FC F S P I) : validB ⟨fvals F (S + P), P, I⟩ = true := by
  have hP := h.hP
  have hn := h.hn
  have hI := h.hI
  rw [validB_iff]
  dsimp only
  rw [fvals_len]
  refine ⟨⟨by omega, by omega, by omega, by omega, by omega, by omega, by unfold MAXV; omega⟩, fun i hi => ?_, ?_⟩
  · rw [fvals_nth F hi]
    have a := h.nonneg i
    have b := h.hb i hi
    refine ⟨.inr ⟨a, by unfold MAXV; omega⟩, ?_⟩
    by_cases h0 : i = 0
    · exact .inl h0
    · right
      rw [fvals_nth F (by omega)]
      exact h.mono (show i - 1 ≤ i by omega)
  · rw [fvals_nth F (by omega), if_neg (h.fin (by omega)), Int.toNat_natCast, fvals_nth F (by omega)]
    have h1 := h.hg (S + P - P) (by omega)
    have h2 := h.mono (show S + P - 1 ≤ S + P - P + P by omega)
    omega
end Go.Proofs.Ytolmmfphdieilaa.M

/- Chapter 21: the choice. No condition. -/
set_option linter.unusedSimpArgs false
set_option linter.unusedVariables false
namespace Go.Proofs.Ytolmmfphdieilaa
open Go Go.RowKit Go.Proofs.Ytolmmfphdieilaa.K Go.Proofs.Ytolmmfphdieilaa.M

end Go.Proofs.Ytolmmfphdieilaa

/- Chapter 21: runs of the reference. No condition. -/
set_option linter.unusedSimpArgs false
set_option linter.unusedVariables false
namespace Go.Proofs.Ytolmmfphdieilaa
open Go Go.RowKit Go.Proofs.Ytolmmfphdieilaa.K Go.Proofs.Ytolmmfphdieilaa.M

end Go.Proofs.Ytolmmfphdieilaa

/- Chapter 18: runs. No condition. -/
set_option linter.unusedSimpArgs false
set_option linter.unusedVariables false
namespace Go.Proofs.Ytolmmfphdieilaa
open Go Go.RowKit Go.Proofs.Ytolmmfphdieilaa.K Go.Proofs.Ytolmmfphdieilaa.M

theorem Pri1_C {b5 n : Nat} {R : Ro} {sb : Nat} {pa : Option Addr} {pc bg : Nat} {ps : List Pkt} {ms : MS} (w0 : World) (hp : RS R 3 encP pa ps) (hb : ms.begun.length = ps.length) (hsort : ps.Pairwise fun a b => a.time ≤ b.time) (h5 : R b5 = some [.int .i64 (n : Int)]) (hn : 1 ≤ n ∧ n ≤ 1000) (hgd : goodB ps ms) (F : List Ent) :
    K.Fn Try.prog 124 [.pointer (some ⟨sb, 0, none⟩), .pointer (some ⟨b5, 0, none⟩)] w0 R (stE sb pa ps.length pc bg ms :: .sl 4 1 (some ⟨bg, 0, none⟩) ps.length (ms.begun.map encB) :: F) (fun v R' E' => v = .int .i64 (prioCh ps n ms ()).1 ∧ R = R' ∧ E' = stE sb pa ps.length pc bg { ms with before := (prioCh ps n ms ()).2.1 } :: .sl 4 1 (some ⟨bg, 0, none⟩) ps.length (ms.begun.map encB) :: F) := by
  have hch : prioCh ps n ms () = (prioFrom (nextW ps ms) n 0, skipTo ms.begun ms.before, ()) := rfl
  have hla := hp.len
  refine Fn.enter (n := 17) Try.func124 rfl rfl (Nat.le_of_ble_eq_true rfl) rfl ?_
  refine W.seq ?_
  refine W.region _ ?_
  refine WG.run tab_ok 1 rfl ?_
  refine WG.nil ?_
  refine WE.nxt ?_
  refine W.seq ?_
  refine W.seq ?_
  refine W.region _ ?_
  refine' WG.y rfl rfl (by decide) (Yl.load1 tab_ok rfl rfl rfl (fun _ => rfl) ?r1 rfl ?h1) ?_
  case r1 => exact Rd.ro h5
  case h1 => rfl
  refine WG.run tab_ok 1 rfl ?_
  refine WG.nil ?_
  refine WE.nxt ?_
  refine W.block ?_
  refine W.loopK (β := Nat) (fun c => c ≤ n ∧ prioFrom (nextW ps ms) (n - c) c = prioFrom (nextW ps ms) n 0) (fun c => [(7, true, .int .i64 (c : Int))]) [0, 6] [_, _] [] _ rfl (fun c => [(0, stE sb pa ps.length pc bg { ms with before := bfN ms c })]) (fun c => n - c) (0) (⟨Nat.zero_le _, rfl⟩) ⟨rfl, rfl, rfl, rfl⟩ qS ?_
  intro c hst
  dsimp only [zipE, setAll, List.cons_append, List.nil_append, List.set_cons_zero, List.set_cons_succ] at hst ⊢
  
  refine W.seq ?_
  refine W.region _ ?_
  refine WG.run tab_ok 1 rfl ?_
  refine WG.nil ?_
  refine WE.nxt ?_
  refine W.seq ?_
  refine W.condD rfl (fun hc0 => ?_) (fun hc0 => ?_)
  · try dsimp only at hc0
    have hcn : c < n := by omega
    have hgo := hst.2
    rw [show n - c = (n - (c + 1)) + 1 by omega] at hgo
    simp only [prioFrom] at hgo
    refine W.skip ?_
    refine WE.nxt ?_
    refine W.seq ?_
    refine W.block ?_
    refine W.seq ?_
    refine W.region _ ?_
    refine WG.run tab_ok 2 rfl ?_
    refine WG.nil ?_
    refine WE.nxt ?_
    refine W.seq ?_
    refine W.region _ ?_
    refine WG.run tab_ok 2 rfl ?_
    refine WL.call en125 rfl rfl (by decide) (CallOp.mkT rfl rfl rfl rfl) (Next_C (ms := { ms with before := bfN ms c }) w0 hp hb (bfN_good hgd hb c) hsort _ _) ?_
    rintro _ _ _ - ⟨rfl, rfl, rfl⟩
    dsimp only
    rw [bfN_skip hgd hb c, show skipTo ms.begun ms.before = bfN ms (c + 1) from (if_neg (by omega)).symm, show nextW ps { ms with before := bfN ms c } (c : Int) = nextW ps ms (c : Int) from rfl]
    have hnl := nextW_lt ps ms (c : Int)
    refine WG.run tab_ok 1 rfl ?_
    refine WG.nil ?_
    refine WE.nxt ?_
    refine W.seq ?_
    refine W.region _ ?_
    refine WG.run tab_ok 2 rfl ?_
    refine WG.nil ?_
    refine WE.nxt ?_
    refine W.condD rfl (fun hc1 => ?_) (fun hc1 => ?_)
    · try dsimp only at hc1
      rw [if_pos hc1] at hgo
      have hbn : bfN ms (c + 1) = skipTo ms.begun ms.before := if_neg (by omega)
      refine W.seq ?_
      refine W.region _ ?_
      refine WG.run tab_ok 2 rfl ?_
      refine WG.nil ?_
      refine WE.nxt ?_
      refine W.ret ?_
      refine WE.blk_ret ?_
      refine WE.then_ret ?_
      refine WE.then_ret ?_
      refine WE.blk_ret ?_
      refine WE.then_ret ?_
      refine WE.retF tab_ok [_] rfl ⟨rfl, trivial⟩ (RLe.refl _) ?_
      exact ⟨by rw [hch]; dsimp only; rw [← hgo]; try rfl, rfl, by rw [hch]; dsimp only; rw [← hbn]⟩
    · try dsimp only at hc1
      rw [if_neg (by omega)] at hgo
      refine W.skip ?_
      refine WE.blk _ ?_
      refine WE.nxt ?_
      refine W.region _ ?_
      refine WG.y rfl rfl (by decide) (Yl.add rfl rfl rfl (fun _ => rfl) (by intro _; constructor <;> (try dsimp only) <;> omega)) ?_
      refine WG.run tab_ok 1 rfl ?_
      refine WG.nil ?_
      refine WE.again (c + 1) (⟨by omega, hgo⟩) (by (try dsimp only); omega) ⟨rfl, rfl, rfl, rfl⟩ (RLe.refl _) qS
  · try dsimp only at hc0
    obtain rfl : c = n := by omega
    have hgo := hst.2
    rw [Nat.sub_self] at hgo
    have hgo : prioFrom (nextW ps ms) c 0 = -1 := by rw [← hgo]; rfl
    have hbn : bfN ms c = skipTo ms.begun ms.before := if_neg (by omega)
    refine W.exit ?_
    refine WE.then_exit ?_
    refine WE.then_exit ?_
    refine WE.blk_exit ?_
    refine WE.nxt ?_
    refine W.seq ?_
    refine W.region _ ?_
    refine WG.run tab_ok 1 rfl ?_
    refine WG.nil ?_
    refine WE.nxt ?_
    refine W.ret ?_
    refine WE.retF tab_ok [_] rfl ⟨rfl, trivial⟩ (RLe.refl _) ?_
    exact ⟨by rw [hch]; dsimp only; rw [← hgo]; try rfl, rfl, by rw [hch]; dsimp only; rw [← hbn]⟩

theorem PRun_ok {R : Ro} {pa : Option Addr} {pc : Nat} {ps : List Pkt} (hp : RS R 3 encP pa ps) {cap : Int} {ticks nc : Nat} (w0 : World) (hl0 : lrunE cap nc ticks ps = 0) (E : List Ent) :
    K.Fn Try.prog 93 [.int .i64 cap, .int .i64 (nc : Int), .slice pa ps.length pc, .int .i64 (ticks : Int)] w0 R E
      (fun v R' E' => ∃ (rows : List Sl) (gd go : Nat) (s : M.RS Unit), s = mrun ps (prioCh ps nc) cap nc ticks () ∧ v = .tuple #[.agg #[.slice (some ⟨gd, 0, none⟩) ps.length ps.length, .slice (some ⟨go, 0, none⟩) nc nc], .int .i64 0] ∧ rows.map Sl.xs = s.sent ∧ (∀ r ∈ rows, r.a.isSome = true) ∧ Inv ps nc (fun ms _ => goodB ps ms) (ticks + 1) (ticks * cap) s ∧
        (.sl 3 1 (some ⟨gd, 0, none⟩) ps.length (s.done.map encI) :: .sl 22 1 (some ⟨go, 0, none⟩) nc (rows.map encS) :: (rows.map (rowE 3) ++ E)).Sublist E') := by
  obtain ⟨hok, hvv, hck, c1, c2, c3, c4, c5, c6, hs, hf⟩ := lrunE_ok hl0
  have hla := hp.len
  refine Fn.enter (n := 33) Try.func93 rfl rfl (Nat.le_of_ble_eq_true rfl) rfl ?_
  refine W.seq ?_
  refine W.region _ ?_
  refine WL.ef rfl rfl (by decide) (Ef.box rfl rfl (fun b5 => ?_))
  refine WL.ef rfl rfl (by decide) (Ef.alloc tab_ok rfl rfl (fun b8 => ?_))
  refine WG.run tab_ok 1 rfl ?_
  refine WG.nil ?_
  refine WE.nxt ?_
  refine W.seq ?_
  refine W.seq ?_
  refine W.region _ ?_
  refine WG.run tab_ok 1 rfl ?_
  refine WG.callV en77 rfl rfl (by decide) (CallOp.mk' rfl rfl rfl rfl) (fun _ => rfl) (fun hg => hvv ▸ Validate_V hp) ?_
  refine WG.run tab_ok 1 rfl ?_
  refine WG.nil ?_
  refine WE.nxt ?_
  refine W.seq ?_
  refine W.region _ ?_
  refine WG.run tab_ok 2 rfl ?_
  refine WG.nil ?_
  refine WE.nxt ?_
  refine W.condN rfl (fun hc0 => ?_) (fun hc0 => ?_)
  · try dsimp only at hc0
    exact absurd rfl hc0
  · try dsimp only at hc0
    refine W.skip ?_
    refine WE.nxt ?_
    refine W.seq ?_
    refine W.seq ?_
    refine W.region _ ?_
    refine WG.run tab_ok 1 rfl ?_
    refine' WG.y rfl rfl (by decide) (Yl.load1 tab_ok rfl rfl rfl (fun _ => rfl) ?r1 rfl ?h1) ?_
    case r1 => (exact Rd.blk 1 rfl)
    case h1 => rfl
    refine WG.run tab_ok 2 rfl ?_
    refine WG.callV en80 rfl rfl (by decide) (CallOp.mk' rfl rfl rfl rfl) (fun _ => rfl) (fun hg => hck ▸ Check_V hp) ?_
    refine WG.run tab_ok 1 rfl ?_
    refine WG.nil ?_
    refine WE.nxt ?_
    refine W.seq ?_
    refine W.region _ ?_
    refine WG.run tab_ok 2 rfl ?_
    refine WG.nil ?_
    refine WE.nxt ?_
    refine W.condN rfl (fun hc1 => ?_) (fun hc1 => ?_)
    · try dsimp only at hc1
      exact absurd rfl hc1
    · try dsimp only at hc1
      refine W.skip ?_
      refine WE.nxt ?_
      refine W.freezeBlk 1 rfl ?_
      intro R1 hR1 h5
      have hp := hp.mono hR1
      refine W.seq ?_
      refine W.region _ ?_
      refine WG.run tab_ok 1 rfl ?_
      refine' WG.y rfl rfl (by decide) (Yl.load1 tab_ok rfl rfl rfl (fun _ => rfl) ?r2 rfl ?h2) ?_
      case r2 => exact Rd.ro h5
      case h2 => rfl
      refine WG.run tab_ok 3 rfl ?_
      have hrun := fun F => MRun_C (pc := pc) (g := 124) (first := #[]) (capd := #[.pointer (some ⟨b5, 0, none⟩)]) (ch := prioCh ps nc) (good := fun ms _ => goodB ps ms) (classes := nc) (cap := cap) (ticks := ticks) (X := fun _ => []) (sg := ()) w0 hp (prio_fair hok.sorted).toGood ⟨by have := hok.len; omega, fun p hp => by have := hs p hp; have := hf p hp; omega⟩ (prio_start _) (by omega) (by omega) (by omega) en124 (fun sb bg ms sg F hgd hbl l1 l2 n1 n2 => Pri1_C w0 hp hbl hok.sorted h5 ⟨by omega, by omega⟩ hgd F) F
      simp only [List.nil_append] at hrun
      refine WL.call en81 rfl rfl (by decide) (CallOp.mkT rfl rfl rfl rfl) (hrun _) ?_
      rintro _ _ E2 - ⟨rows, gd, go, s, hsr, rfl, rfl, h1, h2, h3, hsub⟩
      refine WL.subE hsub ?_
      refine WL.perm (List.perm_middle (l₁ := _ :: _ :: rows.map (rowE 3))) ?_
      refine WL.efN rfl rfl (Ef.store0 0 tab_ok rfl rfl rfl rfl rfl rfl rfl rfl ?_)
      refine WG.run tab_ok 1 rfl ?_
      refine WG.nil ?_
      refine WE.nxt ?_
      refine W.ret ?_
      refine WE.retF tab_ok [_, _] rfl ⟨⟨_, _, _, rfl, rfl, rfl, ((by first | exact Rd.blk 0 rfl | exact Rd.blk 1 rfl | exact Rd.blk 2 rfl | exact Rd.blk 3 rfl | exact Rd.blk 4 rfl | exact Rd.blk 5 rfl)), rfl⟩, rfl, trivial⟩ (hR1) ?_
      exact ⟨rows, gd, go, s, hsr, rfl, h1, h2, h3, qS⟩

end Go.Proofs.Ytolmmfphdieilaa

/- Chapter 18: what its laws use. No condition. -/
set_option linter.unusedSimpArgs false
set_option linter.unusedVariables false
namespace Go.Proofs.Ytolmmfphdieilaa
open Go Go.RowKit Go.Proofs.Ytolmmfphdieilaa.K Go.Proofs.Ytolmmfphdieilaa.M

theorem prio_done : (mrun ([⟨1, 0, 25⟩, ⟨0, 1, 10⟩, ⟨1, 1, 5⟩] : List Pkt) (prioCh ([⟨1, 0, 25⟩, ⟨0, 1, 10⟩, ⟨1, 1, 5⟩] : List Pkt) 2) 10 2 5 ()).done = [2, 3, 3] := by kernel_rfl
theorem prio_c0 : prioC 10 0 ([⟨[0, 14], 1, 0⟩, ⟨[0, 30], 1, 0⟩] : List Cv) ([⟨1, 14⟩, ⟨1, 20⟩] : List Sz) = (⟨[0, 0, 1], 1, 10⟩, 0) := by kernel_rfl
theorem prio_c1 : prioC 10 1 ([⟨[0, 14], 1, 0⟩, ⟨[0, 30], 1, 0⟩] : List Cv) ([⟨1, 14⟩, ⟨1, 20⟩] : List Sz) = (⟨[0, 0, 6], 1, 10⟩, 0) := by kernel_rfl

set_option maxHeartbeats 1000000 in
theorem Awake18_C {R : Ro} (w0 : World) (E : List Ent) : K.Fn Try.prog 42 [] w0 R E (fun v R' E' => v = .bool true ∧ E.Sublist E') := by
  refine Fn.enter (n := 81) Try.func42 rfl rfl (Nat.le_of_ble_eq_true rfl) rfl ?_
  refine W.seq ?_
  refine W.region _ ?_
  refine WG.run tab_ok 1 rfl ?_
  refine WG.nil ?_
  refine WE.nxt ?_
  refine W.seq ?_
  refine W.region _ ?_
  -- build
  refine WG.y rfl rfl (by decide) (Yl.build (parts := [(0, .const (.int .i64 1)), (2, .const (.int .i64 25))]) tab_ok rfl rfl rfl rfl (fun _ => rfl) rfl rfl) ?_
  -- build
  refine WG.y rfl rfl (by decide) (Yl.build (parts := [(1, .const (.int .i64 1)), (2, .const (.int .i64 10))]) tab_ok rfl rfl rfl rfl (fun _ => rfl) rfl rfl) ?_
  -- build
  refine WG.y rfl rfl (by decide) (Yl.build (parts := [(0, .const (.int .i64 1)), (1, .const (.int .i64 1)), (2, .const (.int .i64 5))]) tab_ok rfl rfl rfl rfl (fun _ => rfl) rfl rfl) ?_
  refine WL.ef rfl rfl (by decide) (Ef.buildSliceD (enc := encP) (parts := [.tmp 10, .tmp 11, .tmp 12]) [⟨_, _, _⟩, ⟨_, _, _⟩, ⟨_, _, _⟩] tab_ok rfl rfl rfl rfl rfl rfl rfl rfl (by decide) (by decide) (fun a13 => ?_))
  refine WL.freeze (enc := encP) (xs := ([⟨1, 0, 25⟩, ⟨0, 1, 10⟩, ⟨1, 1, 5⟩] : List Pkt)) 0 rfl ?_
  intro R1 hR1 hp
  refine WL.call en93 rfl rfl (by decide) (CallOp.mkT rfl rfl rfl rfl) (PRun_ok (ps := ([⟨1, 0, 25⟩, ⟨0, 1, 10⟩, ⟨1, 1, 5⟩] : List Pkt)) (cap := 10) (ticks := 5) (nc := 2) hp w0 (by decide) _) ?_
  rintro _ R2 E2 hR2 ⟨rows, gd, go, s, hs, rfl, h1, h2, h3, hsub⟩
  refine WL.subE hsub ?_
  refine WL.freeze (enc := encI) (xs := s.done) 0 rfl ?_
  intro Rq hRq hdn
  have hdone : s.done = [2, 3, 3] := by rw [hs]; exact prio_done
  rw [hdone] at hdn
  refine WL.subE (List.Sublist.cons _ (List.sublist_append_right _ _)) ?_
  refine WG.run tab_ok 3 rfl ?_
  refine WL.ef rfl rfl (by decide) (Ef.alloc tab_ok rfl rfl (fun b1 => ?_))
  refine WL.efN rfl rfl (Ef.store0 0 tab_ok rfl rfl rfl rfl rfl rfl rfl rfl ?_)
  refine WG.run tab_ok 1 rfl ?_
  refine WG.nil ?_
  refine WE.nxt ?_
  refine W.seq ?_
  refine W.region _ ?_
  refine WL.ef rfl rfl (by decide) (Ef.buildSliceD (enc := encI) (parts := [.const (.int .i64 0), .const (.int .i64 14)]) [_, _] tab_ok rfl rfl rfl rfl rfl rfl rfl rfl (by decide) (by decide) (fun a17 => ?_))
  refine WL.freeze (enc := encI) (xs := ([0, 14] : List Int)) 0 rfl ?_
  intro R3 hR3 hc1
  -- build
  refine WG.y rfl rfl (by decide) (Yl.build (parts := [(0, .tmp 17), (1, .const (.int .i64 1))]) tab_ok rfl rfl rfl rfl (fun _ => rfl) rfl rfl) ?_
  refine WL.ef rfl rfl (by decide) (Ef.buildSliceD (enc := encI) (parts := [.const (.int .i64 0), .const (.int .i64 30)]) [_, _] tab_ok rfl rfl rfl rfl rfl rfl rfl rfl (by decide) (by decide) (fun a19 => ?_))
  refine WL.freeze (enc := encI) (xs := ([0, 30] : List Int)) 0 rfl ?_
  intro R4 hR4 hc2
  have hc1 := hc1.mono hR4
  -- build
  refine WG.y rfl rfl (by decide) (Yl.build (parts := [(0, .tmp 19), (1, .const (.int .i64 1))]) tab_ok rfl rfl rfl rfl (fun _ => rfl) rfl rfl) ?_
  refine WL.ef rfl rfl (by decide) (Ef.buildSliceD (enc := encC) (parts := [.tmp 18, .tmp 20]) [(⟨some ⟨a17, 0, none⟩, 2, ⟨[0, 14], 1, 0⟩⟩ : CvS), ⟨some ⟨a19, 0, none⟩, 2, ⟨[0, 30], 1, 0⟩⟩] tab_ok rfl rfl rfl rfl rfl rfl rfl rfl (by decide) (by decide) (fun a21 => ?_))
  refine WL.freeze (enc := encC) (xs := ([⟨some ⟨a17, 0, none⟩, 2, ⟨[0, 14], 1, 0⟩⟩, ⟨some ⟨a19, 0, none⟩, 2, ⟨[0, 30], 1, 0⟩⟩] : List CvS)) 0 rfl ?_
  intro R5 hR5 hlc
  have hc1 := hc1.mono hR5
  have hc2 := hc2.mono hR5
  refine WG.run tab_ok 1 rfl ?_
  refine WG.nil ?_
  refine WE.nxt ?_
  refine W.seq ?_
  refine W.region _ ?_
  -- build
  refine WG.y rfl rfl (by decide) (Yl.build (parts := [(0, .const (.int .i64 1)), (1, .const (.int .i64 14))]) tab_ok rfl rfl rfl rfl (fun _ => rfl) rfl rfl) ?_
  -- build
  refine WG.y rfl rfl (by decide) (Yl.build (parts := [(0, .const (.int .i64 1)), (1, .const (.int .i64 20))]) tab_ok rfl rfl rfl rfl (fun _ => rfl) rfl rfl) ?_
  refine WL.ef rfl rfl (by decide) (Ef.buildSliceD (enc := encZ) (parts := [.tmp 22, .tmp 23]) [⟨_, _⟩, ⟨_, _⟩] tab_ok rfl rfl rfl rfl rfl rfl rfl rfl (by decide) (by decide) (fun a24 => ?_))
  refine WL.freeze (enc := encZ) (xs := ([⟨1, 14⟩, ⟨1, 20⟩] : List Sz)) 0 rfl ?_
  intro R6 hR6 hzz
  have hlc := hlc.mono hR6
  have hdn := hdn.mono (hR3.trans (hR4.trans (hR5.trans hR6)))
  have hls : ∀ x ∈ ([⟨some ⟨a17, 0, none⟩, 2, ⟨[0, 14], 1, 0⟩⟩, ⟨some ⟨a19, 0, none⟩, 2, ⟨[0, 30], 1, 0⟩⟩] : List CvS), RS R6 1 encI x.a x.cv.vals ∧ x.cv.vals.length ≤ 100000 := fun x hx => by
    simp only [List.mem_cons, List.not_mem_nil, or_false] at hx
    rcases hx with rfl | rfl
    · exact ⟨hc1.mono hR6, by show 2 ≤ 100000; decide⟩
    · exact ⟨hc2.mono hR6, by show 2 ≤ 100000; decide⟩
  refine WG.run tab_ok 1 rfl ?_
  refine WG.nil ?_
  refine WE.nxt ?_
  refine W.seq ?_
  refine W.region _ ?_
  refine WG.run tab_ok 2 rfl ?_
  refine WL.call en45 rfl rfl (by decide) (CallOp.mkT rfl rfl rfl rfl) (PCurve_C (ls := ([⟨some ⟨a17, 0, none⟩, 2, ⟨[0, 14], 1, 0⟩⟩, ⟨some ⟨a19, 0, none⟩, 2, ⟨[0, 30], 1, 0⟩⟩] : List CvS)) (z := ([⟨1, 14⟩, ⟨1, 20⟩] : List Sz)) (cap := 10) (cls := 0) hlc (Nat.le_refl 2) hls hzz (Nat.le_refl 2) w0 _) ?_
  rintro _ R7 E3 hR7 ⟨f1, fc1, rfl, hf1, hsub2⟩
  rw [show List.map CvS.cv ([⟨some ⟨a17, 0, none⟩, 2, ⟨[0, 14], 1, 0⟩⟩, ⟨some ⟨a19, 0, none⟩, 2, ⟨[0, 30], 1, 0⟩⟩] : List CvS) = ([⟨[0, 14], 1, 0⟩, ⟨[0, 30], 1, 0⟩] : List Cv) from rfl, prio_c0] at hf1 ⊢
  refine WL.subE hsub2 ?_
  unfold cvV
  have hdn := hdn.mono hR7
  have hlc := hlc.mono hR7
  have hzz := hzz.mono hR7
  have hls : ∀ x ∈ ([⟨some ⟨a17, 0, none⟩, 2, ⟨[0, 14], 1, 0⟩⟩, ⟨some ⟨a19, 0, none⟩, 2, ⟨[0, 30], 1, 0⟩⟩] : List CvS), RS R7 1 encI x.a x.cv.vals ∧ x.cv.vals.length ≤ 100000 := fun x hx => ⟨(hls x hx).1.mono hR7, (hls x hx).2⟩
  refine WG.run tab_ok 3 rfl ?_
  refine WL.ef rfl rfl (by decide) (Ef.alloc tab_ok rfl rfl (fun b5 => ?_))
  refine WL.efN rfl rfl (Ef.store0 0 tab_ok rfl rfl rfl rfl rfl rfl rfl rfl ?_)
  refine WG.run tab_ok 1 rfl ?_
  refine WG.nil ?_
  refine WE.nxt ?_
  refine W.seq ?_
  refine W.region _ ?_
  refine WG.run tab_ok 2 rfl ?_
  refine WL.call en45 rfl rfl (by decide) (CallOp.mkT rfl rfl rfl rfl) (PCurve_C (ls := ([⟨some ⟨a17, 0, none⟩, 2, ⟨[0, 14], 1, 0⟩⟩, ⟨some ⟨a19, 0, none⟩, 2, ⟨[0, 30], 1, 0⟩⟩] : List CvS)) (z := ([⟨1, 14⟩, ⟨1, 20⟩] : List Sz)) (cap := 10) (cls := 1) hlc (Nat.le_refl 2) hls hzz (Nat.le_refl 2) w0 _) ?_
  rintro _ R8 E3 hR8 ⟨f2, fc2, rfl, hf2, hsub2⟩
  rw [show List.map CvS.cv ([⟨some ⟨a17, 0, none⟩, 2, ⟨[0, 14], 1, 0⟩⟩, ⟨some ⟨a19, 0, none⟩, 2, ⟨[0, 30], 1, 0⟩⟩] : List CvS) = ([⟨[0, 14], 1, 0⟩, ⟨[0, 30], 1, 0⟩] : List Cv) from rfl, prio_c1] at hf2 ⊢
  refine WL.subE hsub2 ?_
  unfold cvV
  have hdn := hdn.mono hR8
  have hf1 := hf1.mono hR8
  have hls : ∀ x ∈ ([⟨some ⟨a17, 0, none⟩, 2, ⟨[0, 14], 1, 0⟩⟩, ⟨some ⟨a19, 0, none⟩, 2, ⟨[0, 30], 1, 0⟩⟩] : List CvS), RS R8 1 encI x.a x.cv.vals ∧ x.cv.vals.length ≤ 100000 := fun x hx => ⟨(hls x hx).1.mono hR8, (hls x hx).2⟩
  refine WG.run tab_ok 3 rfl ?_
  refine WL.ef rfl rfl (by decide) (Ef.alloc tab_ok rfl rfl (fun b7 => ?_))
  refine WL.efN rfl rfl (Ef.store0 0 tab_ok rfl rfl rfl rfl rfl rfl rfl rfl ?_)
  refine WG.run tab_ok 1 rfl ?_
  refine WG.nil ?_
  refine WE.nxt ?_
  refine W.seq ?_
  refine W.region _ ?_
  refine WG.run tab_ok 3 rfl ?_
  refine WL.guardT rfl (by rfl) ?_
  refine WG.y rfl rfl (by decide) (pureV_ok tab_ok rfl (fun _ => rfl)) ?_
  refine WL.guardT rfl (by rfl) ?_
  refine' WG.y rfl rfl (by decide) (Yl.load1 tab_ok rfl rfl rfl (fun _ => rfl) ?r1 rfl ?h1) ?_
  case r1 => apply Rd.add; (exact Rd.blk 2 rfl)
  case h1 => rfl
  refine WL.guardT rfl (by rfl) ?_
  refine WL.ef rfl rfl (by decide) (Ef.buildSliceD (enc := encI) (parts := [.const (.int .i64 2), .const (.int .i64 3), .const (.int .i64 3)]) [_, _, _] tab_ok rfl rfl rfl rfl rfl rfl rfl rfl (by decide) (by decide) (fun a42 => ?_))
  refine WL.freeze (enc := encI) (xs := ([2, 3, 3] : List Int)) 0 rfl ?_
  intro R9 hR9 hl1
  have hdn := hdn.mono hR9
  have hf1 := hf1.mono hR9
  have hf2 := hf2.mono hR9
  refine WL.guardT rfl (by rfl) ?_
  refine WG.callV (v := .bool true) en92 rfl rfl (by decide) (CallOp.mk' rfl rfl rfl rfl) (fun _ => rfl) (fun hg => by
    have h := Ints_V (ca := 3) (cb := 3) hdn hl1
    exact h) ?_
  refine WG.y rfl rfl (by decide) (Yl.pand rfl rfl rfl (fun _ => rfl) (by intro h1 h2; simp_all <;> omega)) ?_
  refine WG.run tab_ok 1 rfl ?_
  refine WL.guardT rfl (by rfl) ?_
  refine WG.y rfl rfl (by decide) (pureV_ok tab_ok rfl (fun _ => rfl)) ?_
  refine WL.guardT rfl (by rfl) ?_
  refine WG.y rfl rfl (by decide) (pureV_ok tab_ok rfl (fun _ => rfl)) ?_
  refine WG.y rfl rfl (by decide) (Yl.pand rfl rfl rfl (fun _ => rfl) (by intro h1 h2; simp_all <;> omega)) ?_
  refine WG.run tab_ok 1 rfl ?_
  refine WL.guardT rfl (by rfl) ?_
  refine' WG.y rfl rfl (by decide) (Yl.load1 tab_ok rfl rfl rfl (fun _ => rfl) ?r2 rfl ?h2) ?_
  case r2 => (exact Rd.blk 1 rfl)
  case h2 => rfl
  refine WL.guardT rfl (by rfl) ?_
  refine WG.callV (v := .bool true) en71 rfl rfl (by decide) (CallOp.mk' rfl rfl rfl rfl) (fun _ => rfl) (fun hg => by
    have h := Valid_V (per := 1) (inc := 10) (c := fc1) hf1 (by constructor <;> decide) (by constructor <;> decide) (by decide)
    exact h) ?_
  refine WG.y rfl rfl (by decide) (Yl.pand rfl rfl rfl (fun _ => rfl) (by intro h1 h2; simp_all <;> omega)) ?_
  refine WG.run tab_ok 1 rfl ?_
  refine WL.guardT rfl (by rfl) ?_
  refine' WG.y rfl rfl (by decide) (Yl.load1 tab_ok rfl rfl rfl (fun _ => rfl) ?r3 rfl ?h3) ?_
  case r3 => (exact Rd.blk 1 rfl)
  case h3 => rfl
  refine WL.guardT rfl (by rfl) ?_
  refine WG.callV (v := .int .i64 1) en18 rfl rfl (by decide) (CallOp.mk' rfl rfl rfl rfl) (fun _ => rfl) (fun hg => by
    have h := At_V (t := 2) (per := 1) (inc := 10) (c := fc1) hf1 (by constructor <;> decide) ⟨by constructor <;> decide, by decide⟩ (by decide) (by decide)
    exact h) ?_
  refine WL.guardT rfl (by rfl) ?_
  refine WG.y rfl rfl (by decide) (pureV_ok tab_ok rfl (fun _ => rfl)) ?_
  refine WG.y rfl rfl (by decide) (Yl.pand rfl rfl rfl (fun _ => rfl) (by intro h1 h2; simp_all <;> omega)) ?_
  refine WG.run tab_ok 1 rfl ?_
  refine WL.guardT rfl (by rfl) ?_
  refine' WG.y rfl rfl (by decide) (Yl.load1 tab_ok rfl rfl rfl (fun _ => rfl) ?r4 rfl ?h4) ?_
  case r4 => (exact Rd.blk 1 rfl)
  case h4 => rfl
  refine WL.guardT rfl (by rfl) ?_
  refine WG.callV (v := .int .i64 21) en18 rfl rfl (by decide) (CallOp.mk' rfl rfl rfl rfl) (fun _ => rfl) (fun hg => by
    have h := At_V (t := 4) (per := 1) (inc := 10) (c := fc1) hf1 (by constructor <;> decide) ⟨by constructor <;> decide, by decide⟩ (by decide) (by decide)
    exact h) ?_
  refine WL.guardT rfl (by rfl) ?_
  refine WG.y rfl rfl (by decide) (pureV_ok tab_ok rfl (fun _ => rfl)) ?_
  refine WG.y rfl rfl (by decide) (Yl.pand rfl rfl rfl (fun _ => rfl) (by intro h1 h2; simp_all <;> omega)) ?_
  refine WG.run tab_ok 1 rfl ?_
  refine WL.guardT rfl (by rfl) ?_
  refine WG.y rfl rfl (by decide) (pureV_ok tab_ok rfl (fun _ => rfl)) ?_
  refine WL.guardT rfl (by rfl) ?_
  refine WG.y rfl rfl (by decide) (pureV_ok tab_ok rfl (fun _ => rfl)) ?_
  refine WG.y rfl rfl (by decide) (Yl.pand rfl rfl rfl (fun _ => rfl) (by intro h1 h2; simp_all <;> omega)) ?_
  refine WG.run tab_ok 1 rfl ?_
  refine WL.guardT rfl (by rfl) ?_
  refine' WG.y rfl rfl (by decide) (Yl.load1 tab_ok rfl rfl rfl (fun _ => rfl) ?r5 rfl ?h5) ?_
  case r5 => (exact Rd.blk 0 rfl)
  case h5 => rfl
  refine WL.guardT rfl (by rfl) ?_
  refine WG.callV (v := .bool true) en71 rfl rfl (by decide) (CallOp.mk' rfl rfl rfl rfl) (fun _ => rfl) (fun hg => by
    have h := Valid_V (per := 1) (inc := 10) (c := fc2) hf2 (by constructor <;> decide) (by constructor <;> decide) (by decide)
    exact h) ?_
  refine WG.y rfl rfl (by decide) (Yl.pand rfl rfl rfl (fun _ => rfl) (by intro h1 h2; simp_all <;> omega)) ?_
  refine WG.run tab_ok 1 rfl ?_
  refine WL.guardT rfl (by rfl) ?_
  refine' WG.y rfl rfl (by decide) (Yl.load1 tab_ok rfl rfl rfl (fun _ => rfl) ?r6 rfl ?h6) ?_
  case r6 => (exact Rd.blk 0 rfl)
  case h6 => rfl
  refine WL.guardT rfl (by rfl) ?_
  refine WG.callV (v := .int .i64 0) en18 rfl rfl (by decide) (CallOp.mk' rfl rfl rfl rfl) (fun _ => rfl) (fun hg => by
    have h := At_V (t := 1) (per := 1) (inc := 10) (c := fc2) hf2 (by constructor <;> decide) ⟨by constructor <;> decide, by decide⟩ (by decide) (by decide)
    exact h) ?_
  refine WL.guardT rfl (by rfl) ?_
  refine WG.y rfl rfl (by decide) (pureV_ok tab_ok rfl (fun _ => rfl)) ?_
  refine WG.y rfl rfl (by decide) (Yl.pand rfl rfl rfl (fun _ => rfl) (by intro h1 h2; simp_all <;> omega)) ?_
  refine WG.run tab_ok 1 rfl ?_
  refine WL.guardT rfl (by rfl) ?_
  refine' WG.y rfl rfl (by decide) (Yl.load1 tab_ok rfl rfl rfl (fun _ => rfl) ?r7 rfl ?h7) ?_
  case r7 => (exact Rd.blk 0 rfl)
  case h7 => rfl
  refine WL.guardT rfl (by rfl) ?_
  refine WG.callV (v := .int .i64 16) en18 rfl rfl (by decide) (CallOp.mk' rfl rfl rfl rfl) (fun _ => rfl) (fun hg => by
    have h := At_V (t := 3) (per := 1) (inc := 10) (c := fc2) hf2 (by constructor <;> decide) ⟨by constructor <;> decide, by decide⟩ (by decide) (by decide)
    exact h) ?_
  refine WL.guardT rfl (by rfl) ?_
  refine WG.y rfl rfl (by decide) (pureV_ok tab_ok rfl (fun _ => rfl)) ?_
  refine WG.y rfl rfl (by decide) (Yl.pand rfl rfl rfl (fun _ => rfl) (by intro h1 h2; simp_all <;> omega)) ?_
  refine WG.run tab_ok 1 rfl ?_
  refine WG.nil ?_
  refine WE.nxt ?_
  refine W.ret ?_
  refine WE.retF tab_ok [_] rfl ⟨rfl, trivial⟩ (hR1.trans (hR2.trans (hRq.trans (hR3.trans (hR4.trans (hR5.trans (hR6.trans (hR7.trans (hR8.trans hR9))))))))) ?_
  exact ⟨rfl, qS⟩

end Go.Proofs.Ytolmmfphdieilaa

/- Four operations of which any may come first. No condition. -/
namespace Go.Proofs.Ytolmmfphdieilaa.K
open Go Go.RowKit
variable {P : Program} {T : Tab} {n : Nat} {env : Env} {w0 : World} {R : Ro} {E : List Ent} {Q : Exit → Act → World → Prop}
variable {ops : List Oper} {ES : List Ent} {R0 : Ro} {fuel : Nat} {listed : Array Bool}
theorem WA.br4 {i j k l : Nat} (hr : Region.ready .any ops.toArray listed = [i, j, k, l]) (h1 : WS P ops Q ES R0 w0 fuel listed n env R E i) (h2 : WS P ops Q ES R0 w0 fuel listed n env R E j) (h3 : WS P ops Q ES R0 w0 fuel listed n env R E k) (h4 : WS P ops Q ES R0 w0 fuel listed n env R E l) : WA P ops Q ES R0 w0 (fuel + 1) listed n env R E := by
  intro a w hk hm
  refine wpAnyH_all hr (by simp) fun m hm' => ?_
  simp only [List.mem_cons, List.not_mem_nil, or_false] at hm'
  rcases hm' with rfl | rfl | rfl | rfl
  · exact h1 a w hk hm
  · exact h2 a w hk hm
  · exact h3 a w hk hm
  · exact h4 a w hk hm
theorem WE.retFS {E' : List Ent} (hE : E'.Sublist E) (hT : TabOk P T) {fn : Func} {Post : Value → Ro → List Ent → Prop} {R0 : Ro} {rs : List ResultVar} (vs : List Value) (hr : fn.results = rs.toArray) (h : ResAll T env R E rs vs) (hR : RLe R0 R) (hp : Post (resVal vs) R E') (hds : markOf env = none := by rfl) :
    WE (bodyPost P fn (FnR w0 R0 Post)) .ret n env w0 R E := fun _ _ hk hm => ⟨by rw [hk.defers]; unfold dsOf; rw [hds], resVal vs, results_ok hT hr hk hm h, resVal vs, R, E', rfl, hR, hm.sub (RLe.refl R) hE, hp⟩
end Go.Proofs.Ytolmmfphdieilaa.K

/- A curve with more values and a longer period. No condition. -/
set_option linter.unusedSimpArgs false
set_option linter.unusedVariables false
namespace Go.Proofs.Ytolmmfphdieilaa
open Go Go.RowKit Go.Proofs.Ytolmmfphdieilaa.K Go.Proofs.Ytolmmfphdieilaa.M

theorem Longer_C {R : Ro} {fa : Option Addr} {fc : Nat} {F : Nat → Int} {S P : Nat} {I : Int} (hf : FC F S P I) (ha : RS R 1 encI fa (fvals F (S + P))) {more times : Nat} (hmo : more ≤ 100) (hti : 1 ≤ times ∧ times ≤ 10) (w0 : World) (E : List Ent) : K.Fn Try.prog 72 [.agg #[.slice fa (fvals F (S + P)).length fc, .int .i64 (P : Int), .int .i64 I], .int .i64 (more : Int), .int .i64 (times : Int)] w0 R E (fun v R' E' => ∃ (f : Option Addr) (c : Nat), v = .agg #[.slice f (fvals F (S + more + P * times)).length c, .int .i64 ((P * times : Nat) : Int), .int .i64 (I * (times : Int))] ∧ RS R' 1 encI f (fvals F (S + more + P * times)) ∧ (fvals F (S + more + P * times)).length ≤ c ∧ E.Sublist E') := by
  have hfl := fvals_len F (S + P)
  have hP := hf.hP
  have hn := hf.hn
  have hI := hf.hI
  have hkb : (times - 1) * P ≤ 9 * 120 := Nat.mul_le_mul (by omega) (by omega)
  have hkb2 : P * times ≤ 120 * 10 := Nat.mul_le_mul (by omega) (by omega)
  have hkb3 : ((times : Int) - 1) * (P : Int) = (((times - 1) * P : Nat) : Int) := by rw [Int.natCast_mul, show ((times - 1 : Nat) : Int) = (times : Int) - 1 by omega]
  have hkb4 : (P : Int) * (times : Int) = ((P * times : Nat) : Int) := by rw [Int.natCast_mul]
  have hkb5 : S + P + (more + (times - 1) * P) = S + more + P * times := by
    obtain ⟨t', rfl⟩ : ∃ t', times = t' + 1 := ⟨times - 1, by omega⟩
    rw [Nat.add_sub_cancel, Nat.mul_add, Nat.mul_comm P t']; omega
  have hIt : 0 ≤ I * (times : Int) ∧ I * (times : Int) ≤ 1073741824 * 10 := ⟨Int.mul_nonneg (by omega) (by omega), Int.mul_le_mul (by omega) (by omega) (by omega) (by omega)⟩
  have hlast := hf.hb (S + P - 1) (by omega)
  have hbd := hf.bound
  have g1 : (((fvals F (S + P)).length : Int) == 0) = false := by rw [beq_eq_false_iff_ne]; omega
  have g2 : (nth (fvals F (S + P)) (((fvals F (S + P)).length : Int) - 1).toNat == 4611686018427387904) = false := by
    rw [show (((fvals F (S + P)).length : Int) - 1).toNat = S + P - 1 by omega, fvals_nth F (by omega), beq_eq_false_iff_ne]; omega
  have g3 : decide ((P : Int) < 1) = false := decide_eq_false (by omega)
  have g4 : decide ((P : Int) > ((fvals F (S + P)).length : Int)) = false := decide_eq_false (by omega)
  refine Fn.enter (n := 87) Try.func72 rfl rfl (Nat.le_of_ble_eq_true rfl) rfl ?_
  refine W.seq ?_
  refine W.region _ ?_
  refine WL.ef rfl rfl (by decide) (Ef.box rfl rfl (fun b3 => ?_))
  refine WL.ef rfl rfl (by decide) (Ef.alloc tab_ok rfl rfl (fun b6 => ?_))
  refine WG.nil ?_
  refine WE.nxt ?_
  refine W.seqCut (β := Nat × Option Addr × Nat) (fun (b7, a12, c12) => True) (fun (b7, a12, c12) => [(1, true, .int .i64 (more : Int)), (2, true, .int .i64 (times : Int)), (3, true, .pointer (some ⟨b3, 0, none⟩)), (6, true, .pointer (some ⟨b6, 0, none⟩)), (7, true, .pointer (some ⟨b7, 0, none⟩))]) (fun _ => R) (fun (b7, a12, c12) => .blk b7 [.slice a12 (fvals F (S + P)).length c12, .int .i64 (P : Int), .int .i64 I] :: .sl 3 1 a12 c12 ((fvals F (S + P)).map encI) :: .blk b6 [.slice none 0 0, .int .i64 0, .int .i64 0] :: .blk b3 [.slice fa (fvals F (S + P)).length fc, .int .i64 (P : Int), .int .i64 I] :: E) ?_ ?_
  ·
    intro st hst
    obtain ⟨b7, a12, c12⟩ := st
    dsimp only
    refine W.seq ?_
    refine W.seq ?_
    refine W.region _ ?_
    refine WG.run tab_ok 1 rfl ?_
    refine' WG.y rfl rfl (by decide) (Yl.load1 tab_ok rfl rfl rfl (fun _ => rfl) ?r1 rfl ?h1) ?_
    case r1 => apply Rd.add; (exact Rd.blk 3 rfl)
    case h1 => rfl
    refine WG.run tab_ok 3 rfl ?_
    refine WL.guardT rfl (by first | rfl | (simp only [g1, g2, g3]; done) | (simp only [g1, g2, g3]; rfl)) ?_
    refine WG.y rfl rfl (by decide) (pureV_ok tab_ok rfl (fun _ => rfl)) ?_
    refine WL.guardT rfl (by first | rfl | (simp only [g1, g2, g3]; done) | (simp only [g1, g2, g3]; rfl)) ?_
    refine' WG.y rfl rfl (by decide) (Yl.load1 tab_ok rfl rfl rfl (fun _ => rfl) ?r2 rfl ?h2) ?_
    case r2 => apply Rd.add; (exact Rd.blk 3 rfl)
    case h2 => rfl
    refine WL.guardT rfl (by first | rfl | (simp only [g1, g2, g3]; done) | (simp only [g1, g2, g3]; rfl)) ?_
    refine WG.y rfl rfl (by decide) (pureV_ok tab_ok rfl (fun _ => rfl)) ?_
    refine WL.guardT rfl (by first | rfl | (simp only [g1, g2, g3]; done) | (simp only [g1, g2, g3]; rfl)) ?_
    refine' WG.y rfl rfl (by decide) (Yl.load1 tab_ok rfl rfl rfl (fun _ => rfl) ?r3 rfl ?h3) ?_
    case r3 => apply Rd.add; (exact Rd.blk 3 rfl)
    case h3 => rfl
    refine WL.guardT rfl (by first | rfl | (simp only [g1, g2, g3]; done) | (simp only [g1, g2, g3]; rfl)) ?_
    refine WG.y rfl rfl (by decide) (pureV_ok tab_ok rfl (fun _ => rfl)) ?_
    refine WL.guardT rfl (by first | rfl | (simp only [g1, g2, g3]; done) | (simp only [g1, g2, g3]; rfl)) ?_
    refine WG.y rfl rfl (by decide) (Yl.sub rfl rfl rfl (fun _ => rfl) (by intro _; constructor <;> (try dsimp only) <;> omega)) ?_
    refine WL.guardT rfl (by first | rfl | (simp only [g1, g2, g3]; done) | (simp only [g1, g2, g3]; rfl)) ?_
    refine WG.y rfl rfl (by decide) (Yl.index tab_ok rfl rfl rfl rfl rfl rfl (fun _ => rfl) (by intro _; constructor <;> (try dsimp only) <;> omega) (by intro _; first | exact fun _ _ _ _ => rfl | exact RS.has (by assumption) | exact fun _ _ _ _ => (by assumption) | exact HasMem.ownD 0 rfl | exact HasMem.ownD 1 rfl | exact HasMem.ownD 2 rfl | exact HasMem.ownD 3 rfl | exact HasMem.ownD 4 rfl)) ?_
    refine WL.guardT rfl (by first | rfl | (simp only [g1, g2, g3]; done) | (simp only [g1, g2, g3]; rfl)) ?_
    refine' WG.y rfl rfl (by decide) (Yl.load1 tab_ok rfl rfl rfl (fun _ => rfl) ?r4 rfl ?h4) ?_
    case r4 => ((apply RS.rdD; assumption; ((try dsimp only) <;> omega)))
    case h4 => rfl
    refine WL.guardT rfl (by first | rfl | (simp only [g1, g2, g3]; done) | (simp only [g1, g2, g3]; rfl)) ?_
    refine WG.y rfl rfl (by decide) (pureV_ok tab_ok rfl (fun _ => rfl)) ?_
    refine WG.y rfl rfl (by decide) (Yl.por rfl rfl rfl (fun _ => rfl) (by intro h1 h2; simp_all <;> omega)) ?_
    refine WG.run tab_ok 1 rfl ?_
    refine WL.guardT rfl (by first | rfl | (simp only [g1, g2, g3]; done) | (simp only [g1, g2, g3]; rfl)) ?_
    refine WG.y rfl rfl (by decide) (pureV_ok tab_ok rfl (fun _ => rfl)) ?_
    refine WL.guardT rfl (by first | rfl | (simp only [g1, g2, g3]; done) | (simp only [g1, g2, g3]; rfl)) ?_
    refine' WG.y rfl rfl (by decide) (Yl.load1 tab_ok rfl rfl rfl (fun _ => rfl) ?r5 rfl ?h5) ?_
    case r5 => apply Rd.add; (exact Rd.blk 3 rfl)
    case h5 => rfl
    refine WL.guardT rfl (by first | rfl | (simp only [g1, g2, g3]; done) | (simp only [g1, g2, g3]; rfl)) ?_
    refine WG.y rfl rfl (by decide) (pureV_ok tab_ok rfl (fun _ => rfl)) ?_
    refine WG.y rfl rfl (by decide) (Yl.por rfl rfl rfl (fun _ => rfl) (by intro h1 h2; simp_all <;> omega)) ?_
    refine WG.run tab_ok 1 rfl ?_
    refine WL.guardT rfl (by first | rfl | (simp only [g1, g2, g3]; done) | (simp only [g1, g2, g3]; rfl)) ?_
    refine WG.y rfl rfl (by decide) (pureV_ok tab_ok rfl (fun _ => rfl)) ?_
    refine WL.guardT rfl (by first | rfl | (simp only [g1, g2, g3]; done) | (simp only [g1, g2, g3]; rfl)) ?_
    refine' WG.y rfl rfl (by decide) (Yl.load1 tab_ok rfl rfl rfl (fun _ => rfl) ?r6 rfl ?h6) ?_
    case r6 => apply Rd.add; (exact Rd.blk 3 rfl)
    case h6 => rfl
    refine WL.guardT rfl (by first | rfl | (simp only [g1, g2, g3]; done) | (simp only [g1, g2, g3]; rfl)) ?_
    refine WG.y rfl rfl (by decide) (pureV_ok tab_ok rfl (fun _ => rfl)) ?_
    refine WL.guardT rfl (by first | rfl | (simp only [g1, g2, g3]; done) | (simp only [g1, g2, g3]; rfl)) ?_
    refine' WG.y rfl rfl (by decide) (Yl.load1 tab_ok rfl rfl rfl (fun _ => rfl) ?r7 rfl ?h7) ?_
    case r7 => apply Rd.add; (exact Rd.blk 3 rfl)
    case h7 => rfl
    refine WL.guardT rfl (by first | rfl | (simp only [g1, g2, g3]; done) | (simp only [g1, g2, g3]; rfl)) ?_
    refine WG.y rfl rfl (by decide) (pureV_ok tab_ok rfl (fun _ => rfl)) ?_
    refine WL.guardT rfl (by first | rfl | (simp only [g1, g2, g3]; done) | (simp only [g1, g2, g3]; rfl)) ?_
    refine WG.y rfl rfl (by decide) (pureV_ok tab_ok rfl (fun _ => rfl)) ?_
    refine WG.y rfl rfl (by decide) (Yl.por rfl rfl rfl (fun _ => rfl) (by intro h1 h2; simp_all <;> omega)) ?_
    refine WG.nil ?_
    refine WE.nxt ?_
    refine W.cond rfl (fun hc0 => ?_) (fun hc0 => ?_)
    · try simp only [decide_eq_true_eq, decide_eq_false_iff_not, beq_iff_eq, bne_iff_ne, beq_eq_false_iff_ne, bne_eq_false_iff_eq, ne_eq, Bool.or_eq_true, Bool.or_eq_false_iff, Bool.and_eq_true, Bool.and_eq_false_imp, Bool.not_eq_true, Bool.not_eq_true', Bool.not_eq_false', Classical.not_not, Int.not_lt, Int.not_le, gt_iff_lt, ge_iff_le] at hc0
      rw [beq_eq_false_iff_ne] at g2
      rcases hc0 with ((h | h) | h) | h
      · omega
      · exact absurd h g2
      · omega
      · omega
    · try simp only [decide_eq_true_eq, decide_eq_false_iff_not, beq_iff_eq, bne_iff_ne, beq_eq_false_iff_ne, bne_eq_false_iff_eq, ne_eq, Bool.or_eq_true, Bool.or_eq_false_iff, Bool.and_eq_true, Bool.and_eq_false_imp, Bool.not_eq_true, Bool.not_eq_true', Bool.not_eq_false', Classical.not_not, Int.not_lt, Int.not_le, gt_iff_lt, ge_iff_le] at hc0
      refine W.skip ?_
      refine WE.nxt ?_
      refine W.seq ?_
      refine W.seq ?_
      refine W.region _ ?_
      refine WG.run tab_ok 2 rfl ?_
      refine WG.y rfl rfl (by decide) (Yl.sub rfl rfl rfl (fun _ => rfl) (by intro _; constructor <;> (try dsimp only) <;> omega)) ?_
      refine WG.run tab_ok 1 rfl ?_
      refine' WG.y rfl rfl (by decide) (Yl.load1 tab_ok rfl rfl rfl (fun _ => rfl) ?r8 rfl ?h8) ?_
      case r8 => apply Rd.add; (exact Rd.blk 3 rfl)
      case h8 => rfl
      refine WG.y rfl rfl (by decide) (Yl.mul rfl rfl rfl (fun _ => rfl) (by intro _; constructor <;> (try dsimp only) <;> omega)) ?_
      rw [hkb3]
      refine WG.y rfl rfl (by decide) (Yl.add rfl rfl rfl (fun _ => rfl) (by intro _; constructor <;> (try dsimp only) <;> omega)) ?_
      rw [show (more : Int) + (((times - 1) * P : Nat) : Int) = (((more + (times - 1) * P) - 0 : Nat) : Int) by omega]
      refine WG.run tab_ok 1 rfl ?_
      refine WG.nil ?_
      refine WE.nxt ?_
      refine W.block ?_
      refine W.loopK (β := Nat × Option Addr × Nat) (fun (i, a12, c12) => i ≤ (more + (times - 1) * P)) (fun (i, a12, c12) => [(8, true, .int .i64 (((more + (times - 1) * P) - i : Nat) : Int))]) [2, 3, 6, 7] [_, _, _, _] [] _ rfl (fun (i, a12, c12) => [(0, .blk b7 [.slice a12 (fvals F (S + P + i)).length c12, .int .i64 (P : Int), .int .i64 I]), (1, .sl 3 1 a12 c12 ((fvals F (S + P + i)).map encI))]) (fun (i, a12, c12) => (more + (times - 1) * P) - i) ((0, a12, c12)) (Nat.zero_le _) ⟨rfl, rfl, rfl, rfl, rfl, rfl⟩ qS ?_
      intro st hst
      obtain ⟨i, a12, c12⟩ := st
      dsimp only [zipE, setAll, List.cons_append, List.nil_append, List.set_cons_zero, List.set_cons_succ] at hst ⊢
      
      refine W.seq ?_
      refine W.seq ?_
      refine W.region _ ?_
      refine WG.run tab_ok 2 rfl ?_
      refine WG.nil ?_
      refine WE.nxt ?_
      refine W.condD rfl (fun hc1 => ?_) (fun hc1 => ?_)
      · try dsimp only at hc1
        have hil : i < more + (times - 1) * P := by omega
        have hvl : (fvals F (S + P + i)).length = S + P + i := fvals_len F _
        have hnx : nth (fvals F (S + P + i)) ((((fvals F (S + P + i)).length : Int) - (P : Int)).toNat) + I = F (S + P + i) := by
          rw [show (((fvals F (S + P + i)).length : Int) - (P : Int)).toNat = S + i by omega, fvals_nth F (by omega), ← hf.hg (S + i) (by omega)]
          congr 1; omega
        have hb9 := hbd (S + P + i)
        have hb8 := hbd (S + i)
        have hn8 := hf.nonneg (S + i)
        have hv8 : nth (fvals F (S + P + i)) ((((fvals F (S + P + i)).length : Int) - (P : Int)).toNat) = F (S + i) := by
          rw [show (((fvals F (S + P + i)).length : Int) - (P : Int)).toNat = S + i by omega, fvals_nth F (by omega)]
        have e1 : fvals F (S + P + (i + 1)) = fvals F (S + P + i) ++ [nth (fvals F (S + P + i)) ((((fvals F (S + P + i)).length : Int) - (P : Int)).toNat) + I] := by rw [hnx]; exact fvals_snoc F _
        refine W.skip ?_
        refine WE.nxt ?_
        refine W.seq ?_
        refine W.block ?_
        refine W.regionH _ (ES := [.blk b3 [.slice fa (fvals F (S + P)).length fc, .int .i64 (P : Int), .int .i64 I]]) mixed ?_
        refine WA.take 0 rfl (by kernel_rfl) (by kernel_rfl) (by kernel_rfl) rfl rfl (by decide) (pureV_ok tab_ok rfl (fun _ => rfl)) qS (by first | exact RLe.refl _ | assumption) ?_
        refine WA.take 2 rfl (by kernel_rfl) (by kernel_rfl) (by kernel_rfl) rfl rfl (by decide) (pureV_ok tab_ok rfl (fun _ => rfl)) qS (by first | exact RLe.refl _ | assumption) ?_
        refine WA.take 4 rfl (by kernel_rfl) (by kernel_rfl) (by kernel_rfl) rfl rfl (by decide) (pureV_ok tab_ok rfl (fun _ => rfl)) qS (by first | exact RLe.refl _ | assumption) ?_
        refine WA.take 7 rfl (by kernel_rfl) (by kernel_rfl) (by kernel_rfl) rfl rfl (by decide) (pureV_ok tab_ok rfl (fun _ => rfl)) qS (by first | exact RLe.refl _ | assumption) ?_
        refine' WA.take 8 rfl (by kernel_rfl) (by kernel_rfl) (by kernel_rfl) rfl rfl (by decide) (Yl.load1 tab_ok rfl rfl rfl (fun _ => rfl) ?r9 rfl ?h9) qS (by first | exact RLe.refl _ | assumption) ?_
        case r9 => apply Rd.add; (exact Rd.blk 0 rfl)
        case h9 => rfl
        refine WA.take 12 rfl (by kernel_rfl) (by kernel_rfl) (by kernel_rfl) rfl rfl (by decide) (pureV_ok tab_ok rfl (fun _ => rfl)) qS (by first | exact RLe.refl _ | assumption) ?_
        refine' WA.take 13 rfl (by kernel_rfl) (by kernel_rfl) (by kernel_rfl) rfl rfl (by decide) (Yl.load1 tab_ok rfl rfl rfl (fun _ => rfl) ?r10 rfl ?h10) qS (by first | exact RLe.refl _ | assumption) ?_
        case r10 => apply Rd.add; (exact Rd.blk 0 rfl)
        case h10 => rfl
        refine WA.br3 (i := 1) (j := 3) (k := 5) (by kernel_rfl) ?_ ?_ ?_
        ·
          refine' WS.yl rfl rfl rfl (by decide) (Yl.load1 tab_ok rfl rfl rfl (fun _ => rfl) ?r11 rfl ?h11) qS (RLe.refl _) ?_
          case r11 => apply Rd.add; (exact Rd.blk 0 rfl)
          case h11 => rfl
          refine WA.br2 (i := 3) (j := 5) (by kernel_rfl) ?_ ?_
          ·
            refine' WS.yl rfl rfl rfl (by decide) (Yl.load1 tab_ok rfl rfl rfl (fun _ => rfl) ?r12 rfl ?h12) qS (RLe.refl _) ?_
            case r12 => apply Rd.add; (exact Rd.blk 0 rfl)
            case h12 => rfl
            refine' WA.yl 5 rfl (by kernel_rfl) rfl rfl (by decide) (Yl.load1 tab_ok rfl rfl rfl (fun _ => rfl) ?r13 rfl ?h13) qS (RLe.refl _) ?_
            case r13 => apply Rd.add; (exact Rd.blk 0 rfl)
            case h13 => rfl
            refine WA.take 6 rfl (by kernel_rfl) (by kernel_rfl) (by kernel_rfl) rfl rfl (by decide) (pureV_ok tab_ok rfl (fun _ => rfl)) qS (by first | exact RLe.refl _ | assumption) ?_
            refine WA.take 9 rfl (by kernel_rfl) (by kernel_rfl) (by kernel_rfl) rfl rfl (by decide) (Yl.sub rfl rfl rfl (fun _ => rfl) (by intro _; constructor <;> (try dsimp only) <;> omega)) qS (by first | exact RLe.refl _ | assumption) ?_
            refine WA.yl 10 rfl (by kernel_rfl) rfl rfl (by decide) (Yl.index tab_ok rfl rfl rfl rfl rfl rfl (fun _ => rfl) (by intro _; constructor <;> (try dsimp only) <;> omega) (by intro _; first | exact fun _ _ _ _ => rfl | exact RS.has (by assumption) | exact fun _ _ _ _ => (by assumption) | exact HasMem.ownD 0 rfl | exact HasMem.ownD 1 rfl | exact HasMem.ownD 2 rfl | exact HasMem.ownD 3 rfl | exact HasMem.ownD 4 rfl)) qS (RLe.refl _) ?_
            refine' WA.yl 11 rfl (by kernel_rfl) rfl rfl (by decide) (Yl.load1 tab_ok rfl rfl rfl (fun _ => rfl) ?r14 rfl ?h14) qS (RLe.refl _) ?_
            case r14 => (exact Rd.slD 1 rfl (by (try dsimp only) <;> omega))
            case h14 => rfl
            refine WA.take 14 rfl (by kernel_rfl) (by kernel_rfl) (by kernel_rfl) rfl rfl (by decide) (Yl.add rfl rfl rfl (fun _ => rfl) (by intro _; constructor <;> (try dsimp only) <;> omega)) qS (by first | exact RLe.refl _ | assumption) ?_
            refine WA.eff 15 rfl (by kernel_rfl) rfl rfl (by decide) (Ef.buildSliceD (enc := encI) (parts := [.tmp 72]) [_] tab_ok rfl rfl rfl rfl rfl rfl rfl rfl (by decide) (by decide) (fun a73 => ?_))
            refine ⟨by first | exact RLe.refl _ | assumption, qS, ?_⟩
            refine WA.eff 16 rfl (by kernel_rfl) rfl rfl (by decide) (Ef.appendD 2 0 tab_ok rfl rfl rfl rfl rfl rfl rfl rfl rfl rfl rfl (fun _ _ => rfl) (by simp only [List.length_cons, List.length_nil]; omega) (by simp only [List.length_cons, List.length_nil]; omega) (fun a74 c74 ha74 => ?_))
            refine ⟨by first | exact RLe.refl _ | assumption, qS, ?_⟩
            refine WA.take 17 rfl (by kernel_rfl) (by kernel_rfl) (by kernel_rfl) rfl rfl (by decide) (pureV_ok tab_ok rfl (fun _ => rfl)) qS (by first | exact RLe.refl _ | assumption) ?_
            refine WA.effN 18 rfl (by kernel_rfl) rfl rfl (Ef.store 1 tab_ok rfl rfl rfl rfl rfl rfl rfl rfl ?_)
            refine ⟨by first | exact RLe.refl _ | assumption, qS, ?_⟩
            refine WA.done (by kernel_rfl) ?_
            refine WE.blk _ ?_
            refine WE.nxt ?_
            refine W.region _ ?_
            refine WG.run tab_ok 1 rfl ?_
            refine WG.y rfl rfl (by decide) (Yl.sub rfl rfl rfl (fun _ => rfl) (by intro _; constructor <;> (try dsimp only) <;> omega)) ?_
            rw [show (((more + (times - 1) * P) - i : Nat) : Int) - 1 = (((more + (times - 1) * P) - (i + 1) : Nat) : Int) by omega]
            refine WG.run tab_ok 1 rfl ?_
            refine WG.nil ?_
            refine WE.again ((i + 1, a74, c74)) (by dsimp only; omega) (by (try dsimp only); omega) ⟨rfl, rfl, rfl, rfl, rfl, rfl⟩ (RLe.refl _) (by dsimp only [setAll, List.set_cons_zero, List.set_cons_succ]; rw [e1, List.length_append]; exact qS)
          ·
            refine' WS.yl rfl rfl rfl (by decide) (Yl.load1 tab_ok rfl rfl rfl (fun _ => rfl) ?r15 rfl ?h15) qS (RLe.refl _) ?_
            case r15 => apply Rd.add; (exact Rd.blk 0 rfl)
            case h15 => rfl
            refine WA.take 6 rfl (by kernel_rfl) (by kernel_rfl) (by kernel_rfl) rfl rfl (by decide) (pureV_ok tab_ok rfl (fun _ => rfl)) qS (by first | exact RLe.refl _ | assumption) ?_
            refine WA.take 9 rfl (by kernel_rfl) (by kernel_rfl) (by kernel_rfl) rfl rfl (by decide) (Yl.sub rfl rfl rfl (fun _ => rfl) (by intro _; constructor <;> (try dsimp only) <;> omega)) qS (by first | exact RLe.refl _ | assumption) ?_
            refine' WA.yl 3 rfl (by kernel_rfl) rfl rfl (by decide) (Yl.load1 tab_ok rfl rfl rfl (fun _ => rfl) ?r16 rfl ?h16) qS (RLe.refl _) ?_
            case r16 => apply Rd.add; (exact Rd.blk 0 rfl)
            case h16 => rfl
            refine WA.yl 10 rfl (by kernel_rfl) rfl rfl (by decide) (Yl.index tab_ok rfl rfl rfl rfl rfl rfl (fun _ => rfl) (by intro _; constructor <;> (try dsimp only) <;> omega) (by intro _; first | exact fun _ _ _ _ => rfl | exact RS.has (by assumption) | exact fun _ _ _ _ => (by assumption) | exact HasMem.ownD 0 rfl | exact HasMem.ownD 1 rfl | exact HasMem.ownD 2 rfl | exact HasMem.ownD 3 rfl | exact HasMem.ownD 4 rfl)) qS (RLe.refl _) ?_
            refine' WA.yl 11 rfl (by kernel_rfl) rfl rfl (by decide) (Yl.load1 tab_ok rfl rfl rfl (fun _ => rfl) ?r17 rfl ?h17) qS (RLe.refl _) ?_
            case r17 => (exact Rd.slD 1 rfl (by (try dsimp only) <;> omega))
            case h17 => rfl
            refine WA.take 14 rfl (by kernel_rfl) (by kernel_rfl) (by kernel_rfl) rfl rfl (by decide) (Yl.add rfl rfl rfl (fun _ => rfl) (by intro _; constructor <;> (try dsimp only) <;> omega)) qS (by first | exact RLe.refl _ | assumption) ?_
            refine WA.eff 15 rfl (by kernel_rfl) rfl rfl (by decide) (Ef.buildSliceD (enc := encI) (parts := [.tmp 72]) [_] tab_ok rfl rfl rfl rfl rfl rfl rfl rfl (by decide) (by decide) (fun a73 => ?_))
            refine ⟨by first | exact RLe.refl _ | assumption, qS, ?_⟩
            refine WA.eff 16 rfl (by kernel_rfl) rfl rfl (by decide) (Ef.appendD 2 0 tab_ok rfl rfl rfl rfl rfl rfl rfl rfl rfl rfl rfl (fun _ _ => rfl) (by simp only [List.length_cons, List.length_nil]; omega) (by simp only [List.length_cons, List.length_nil]; omega) (fun a74 c74 ha74 => ?_))
            refine ⟨by first | exact RLe.refl _ | assumption, qS, ?_⟩
            refine WA.take 17 rfl (by kernel_rfl) (by kernel_rfl) (by kernel_rfl) rfl rfl (by decide) (pureV_ok tab_ok rfl (fun _ => rfl)) qS (by first | exact RLe.refl _ | assumption) ?_
            refine WA.effN 18 rfl (by kernel_rfl) rfl rfl (Ef.store 1 tab_ok rfl rfl rfl rfl rfl rfl rfl rfl ?_)
            refine ⟨by first | exact RLe.refl _ | assumption, qS, ?_⟩
            refine WA.done (by kernel_rfl) ?_
            refine WE.blk _ ?_
            refine WE.nxt ?_
            refine W.region _ ?_
            refine WG.run tab_ok 1 rfl ?_
            refine WG.y rfl rfl (by decide) (Yl.sub rfl rfl rfl (fun _ => rfl) (by intro _; constructor <;> (try dsimp only) <;> omega)) ?_
            rw [show (((more + (times - 1) * P) - i : Nat) : Int) - 1 = (((more + (times - 1) * P) - (i + 1) : Nat) : Int) by omega]
            refine WG.run tab_ok 1 rfl ?_
            refine WG.nil ?_
            refine WE.again ((i + 1, a74, c74)) (by dsimp only; omega) (by (try dsimp only); omega) ⟨rfl, rfl, rfl, rfl, rfl, rfl⟩ (RLe.refl _) (by dsimp only [setAll, List.set_cons_zero, List.set_cons_succ]; rw [e1, List.length_append]; exact qS)
        ·
          refine' WS.yl rfl rfl rfl (by decide) (Yl.load1 tab_ok rfl rfl rfl (fun _ => rfl) ?r18 rfl ?h18) qS (RLe.refl _) ?_
          case r18 => apply Rd.add; (exact Rd.blk 0 rfl)
          case h18 => rfl
          refine WA.br2 (i := 1) (j := 5) (by kernel_rfl) ?_ ?_
          ·
            refine' WS.yl rfl rfl rfl (by decide) (Yl.load1 tab_ok rfl rfl rfl (fun _ => rfl) ?r19 rfl ?h19) qS (RLe.refl _) ?_
            case r19 => apply Rd.add; (exact Rd.blk 0 rfl)
            case h19 => rfl
            refine' WA.yl 5 rfl (by kernel_rfl) rfl rfl (by decide) (Yl.load1 tab_ok rfl rfl rfl (fun _ => rfl) ?r20 rfl ?h20) qS (RLe.refl _) ?_
            case r20 => apply Rd.add; (exact Rd.blk 0 rfl)
            case h20 => rfl
            refine WA.take 6 rfl (by kernel_rfl) (by kernel_rfl) (by kernel_rfl) rfl rfl (by decide) (pureV_ok tab_ok rfl (fun _ => rfl)) qS (by first | exact RLe.refl _ | assumption) ?_
            refine WA.take 9 rfl (by kernel_rfl) (by kernel_rfl) (by kernel_rfl) rfl rfl (by decide) (Yl.sub rfl rfl rfl (fun _ => rfl) (by intro _; constructor <;> (try dsimp only) <;> omega)) qS (by first | exact RLe.refl _ | assumption) ?_
            refine WA.yl 10 rfl (by kernel_rfl) rfl rfl (by decide) (Yl.index tab_ok rfl rfl rfl rfl rfl rfl (fun _ => rfl) (by intro _; constructor <;> (try dsimp only) <;> omega) (by intro _; first | exact fun _ _ _ _ => rfl | exact RS.has (by assumption) | exact fun _ _ _ _ => (by assumption) | exact HasMem.ownD 0 rfl | exact HasMem.ownD 1 rfl | exact HasMem.ownD 2 rfl | exact HasMem.ownD 3 rfl | exact HasMem.ownD 4 rfl)) qS (RLe.refl _) ?_
            refine' WA.yl 11 rfl (by kernel_rfl) rfl rfl (by decide) (Yl.load1 tab_ok rfl rfl rfl (fun _ => rfl) ?r21 rfl ?h21) qS (RLe.refl _) ?_
            case r21 => (exact Rd.slD 1 rfl (by (try dsimp only) <;> omega))
            case h21 => rfl
            refine WA.take 14 rfl (by kernel_rfl) (by kernel_rfl) (by kernel_rfl) rfl rfl (by decide) (Yl.add rfl rfl rfl (fun _ => rfl) (by intro _; constructor <;> (try dsimp only) <;> omega)) qS (by first | exact RLe.refl _ | assumption) ?_
            refine WA.eff 15 rfl (by kernel_rfl) rfl rfl (by decide) (Ef.buildSliceD (enc := encI) (parts := [.tmp 72]) [_] tab_ok rfl rfl rfl rfl rfl rfl rfl rfl (by decide) (by decide) (fun a73 => ?_))
            refine ⟨by first | exact RLe.refl _ | assumption, qS, ?_⟩
            refine WA.eff 16 rfl (by kernel_rfl) rfl rfl (by decide) (Ef.appendD 2 0 tab_ok rfl rfl rfl rfl rfl rfl rfl rfl rfl rfl rfl (fun _ _ => rfl) (by simp only [List.length_cons, List.length_nil]; omega) (by simp only [List.length_cons, List.length_nil]; omega) (fun a74 c74 ha74 => ?_))
            refine ⟨by first | exact RLe.refl _ | assumption, qS, ?_⟩
            refine WA.take 17 rfl (by kernel_rfl) (by kernel_rfl) (by kernel_rfl) rfl rfl (by decide) (pureV_ok tab_ok rfl (fun _ => rfl)) qS (by first | exact RLe.refl _ | assumption) ?_
            refine WA.effN 18 rfl (by kernel_rfl) rfl rfl (Ef.store 1 tab_ok rfl rfl rfl rfl rfl rfl rfl rfl ?_)
            refine ⟨by first | exact RLe.refl _ | assumption, qS, ?_⟩
            refine WA.done (by kernel_rfl) ?_
            refine WE.blk _ ?_
            refine WE.nxt ?_
            refine W.region _ ?_
            refine WG.run tab_ok 1 rfl ?_
            refine WG.y rfl rfl (by decide) (Yl.sub rfl rfl rfl (fun _ => rfl) (by intro _; constructor <;> (try dsimp only) <;> omega)) ?_
            rw [show (((more + (times - 1) * P) - i : Nat) : Int) - 1 = (((more + (times - 1) * P) - (i + 1) : Nat) : Int) by omega]
            refine WG.run tab_ok 1 rfl ?_
            refine WG.nil ?_
            refine WE.again ((i + 1, a74, c74)) (by dsimp only; omega) (by (try dsimp only); omega) ⟨rfl, rfl, rfl, rfl, rfl, rfl⟩ (RLe.refl _) (by dsimp only [setAll, List.set_cons_zero, List.set_cons_succ]; rw [e1, List.length_append]; exact qS)
          ·
            refine' WS.yl rfl rfl rfl (by decide) (Yl.load1 tab_ok rfl rfl rfl (fun _ => rfl) ?r22 rfl ?h22) qS (RLe.refl _) ?_
            case r22 => apply Rd.add; (exact Rd.blk 0 rfl)
            case h22 => rfl
            refine WA.take 6 rfl (by kernel_rfl) (by kernel_rfl) (by kernel_rfl) rfl rfl (by decide) (pureV_ok tab_ok rfl (fun _ => rfl)) qS (by first | exact RLe.refl _ | assumption) ?_
            refine WA.take 9 rfl (by kernel_rfl) (by kernel_rfl) (by kernel_rfl) rfl rfl (by decide) (Yl.sub rfl rfl rfl (fun _ => rfl) (by intro _; constructor <;> (try dsimp only) <;> omega)) qS (by first | exact RLe.refl _ | assumption) ?_
            refine WA.br2 (i := 1) (j := 10) (by kernel_rfl) ?_ ?_
            ·
              refine' WS.yl rfl rfl rfl (by decide) (Yl.load1 tab_ok rfl rfl rfl (fun _ => rfl) ?r23 rfl ?h23) qS (RLe.refl _) ?_
              case r23 => apply Rd.add; (exact Rd.blk 0 rfl)
              case h23 => rfl
              refine WA.yl 10 rfl (by kernel_rfl) rfl rfl (by decide) (Yl.index tab_ok rfl rfl rfl rfl rfl rfl (fun _ => rfl) (by intro _; constructor <;> (try dsimp only) <;> omega) (by intro _; first | exact fun _ _ _ _ => rfl | exact RS.has (by assumption) | exact fun _ _ _ _ => (by assumption) | exact HasMem.ownD 0 rfl | exact HasMem.ownD 1 rfl | exact HasMem.ownD 2 rfl | exact HasMem.ownD 3 rfl | exact HasMem.ownD 4 rfl)) qS (RLe.refl _) ?_
              refine' WA.yl 11 rfl (by kernel_rfl) rfl rfl (by decide) (Yl.load1 tab_ok rfl rfl rfl (fun _ => rfl) ?r24 rfl ?h24) qS (RLe.refl _) ?_
              case r24 => (exact Rd.slD 1 rfl (by (try dsimp only) <;> omega))
              case h24 => rfl
              refine WA.take 14 rfl (by kernel_rfl) (by kernel_rfl) (by kernel_rfl) rfl rfl (by decide) (Yl.add rfl rfl rfl (fun _ => rfl) (by intro _; constructor <;> (try dsimp only) <;> omega)) qS (by first | exact RLe.refl _ | assumption) ?_
              refine WA.eff 15 rfl (by kernel_rfl) rfl rfl (by decide) (Ef.buildSliceD (enc := encI) (parts := [.tmp 72]) [_] tab_ok rfl rfl rfl rfl rfl rfl rfl rfl (by decide) (by decide) (fun a73 => ?_))
              refine ⟨by first | exact RLe.refl _ | assumption, qS, ?_⟩
              refine WA.eff 16 rfl (by kernel_rfl) rfl rfl (by decide) (Ef.appendD 2 0 tab_ok rfl rfl rfl rfl rfl rfl rfl rfl rfl rfl rfl (fun _ _ => rfl) (by simp only [List.length_cons, List.length_nil]; omega) (by simp only [List.length_cons, List.length_nil]; omega) (fun a74 c74 ha74 => ?_))
              refine ⟨by first | exact RLe.refl _ | assumption, qS, ?_⟩
              refine WA.take 17 rfl (by kernel_rfl) (by kernel_rfl) (by kernel_rfl) rfl rfl (by decide) (pureV_ok tab_ok rfl (fun _ => rfl)) qS (by first | exact RLe.refl _ | assumption) ?_
              refine WA.effN 18 rfl (by kernel_rfl) rfl rfl (Ef.store 1 tab_ok rfl rfl rfl rfl rfl rfl rfl rfl ?_)
              refine ⟨by first | exact RLe.refl _ | assumption, qS, ?_⟩
              refine WA.done (by kernel_rfl) ?_
              refine WE.blk _ ?_
              refine WE.nxt ?_
              refine W.region _ ?_
              refine WG.run tab_ok 1 rfl ?_
              refine WG.y rfl rfl (by decide) (Yl.sub rfl rfl rfl (fun _ => rfl) (by intro _; constructor <;> (try dsimp only) <;> omega)) ?_
              rw [show (((more + (times - 1) * P) - i : Nat) : Int) - 1 = (((more + (times - 1) * P) - (i + 1) : Nat) : Int) by omega]
              refine WG.run tab_ok 1 rfl ?_
              refine WG.nil ?_
              refine WE.again ((i + 1, a74, c74)) (by dsimp only; omega) (by (try dsimp only); omega) ⟨rfl, rfl, rfl, rfl, rfl, rfl⟩ (RLe.refl _) (by dsimp only [setAll, List.set_cons_zero, List.set_cons_succ]; rw [e1, List.length_append]; exact qS)
            ·
              refine WS.yl rfl rfl rfl (by decide) (Yl.index tab_ok rfl rfl rfl rfl rfl rfl (fun _ => rfl) (by intro _; constructor <;> (try dsimp only) <;> omega) (by intro _; first | exact fun _ _ _ _ => rfl | exact RS.has (by assumption) | exact fun _ _ _ _ => (by assumption) | exact HasMem.ownD 0 rfl | exact HasMem.ownD 1 rfl | exact HasMem.ownD 2 rfl | exact HasMem.ownD 3 rfl | exact HasMem.ownD 4 rfl)) qS (RLe.refl _) ?_
              refine WA.br2 (i := 1) (j := 11) (by kernel_rfl) ?_ ?_
              ·
                refine' WS.yl rfl rfl rfl (by decide) (Yl.load1 tab_ok rfl rfl rfl (fun _ => rfl) ?r25 rfl ?h25) qS (RLe.refl _) ?_
                case r25 => apply Rd.add; (exact Rd.blk 0 rfl)
                case h25 => rfl
                refine' WA.yl 11 rfl (by kernel_rfl) rfl rfl (by decide) (Yl.load1 tab_ok rfl rfl rfl (fun _ => rfl) ?r26 rfl ?h26) qS (RLe.refl _) ?_
                case r26 => (exact Rd.slD 1 rfl (by (try dsimp only) <;> omega))
                case h26 => rfl
                refine WA.take 14 rfl (by kernel_rfl) (by kernel_rfl) (by kernel_rfl) rfl rfl (by decide) (Yl.add rfl rfl rfl (fun _ => rfl) (by intro _; constructor <;> (try dsimp only) <;> omega)) qS (by first | exact RLe.refl _ | assumption) ?_
                refine WA.eff 15 rfl (by kernel_rfl) rfl rfl (by decide) (Ef.buildSliceD (enc := encI) (parts := [.tmp 72]) [_] tab_ok rfl rfl rfl rfl rfl rfl rfl rfl (by decide) (by decide) (fun a73 => ?_))
                refine ⟨by first | exact RLe.refl _ | assumption, qS, ?_⟩
                refine WA.eff 16 rfl (by kernel_rfl) rfl rfl (by decide) (Ef.appendD 2 0 tab_ok rfl rfl rfl rfl rfl rfl rfl rfl rfl rfl rfl (fun _ _ => rfl) (by simp only [List.length_cons, List.length_nil]; omega) (by simp only [List.length_cons, List.length_nil]; omega) (fun a74 c74 ha74 => ?_))
                refine ⟨by first | exact RLe.refl _ | assumption, qS, ?_⟩
                refine WA.take 17 rfl (by kernel_rfl) (by kernel_rfl) (by kernel_rfl) rfl rfl (by decide) (pureV_ok tab_ok rfl (fun _ => rfl)) qS (by first | exact RLe.refl _ | assumption) ?_
                refine WA.effN 18 rfl (by kernel_rfl) rfl rfl (Ef.store 1 tab_ok rfl rfl rfl rfl rfl rfl rfl rfl ?_)
                refine ⟨by first | exact RLe.refl _ | assumption, qS, ?_⟩
                refine WA.done (by kernel_rfl) ?_
                refine WE.blk _ ?_
                refine WE.nxt ?_
                refine W.region _ ?_
                refine WG.run tab_ok 1 rfl ?_
                refine WG.y rfl rfl (by decide) (Yl.sub rfl rfl rfl (fun _ => rfl) (by intro _; constructor <;> (try dsimp only) <;> omega)) ?_
                rw [show (((more + (times - 1) * P) - i : Nat) : Int) - 1 = (((more + (times - 1) * P) - (i + 1) : Nat) : Int) by omega]
                refine WG.run tab_ok 1 rfl ?_
                refine WG.nil ?_
                refine WE.again ((i + 1, a74, c74)) (by dsimp only; omega) (by (try dsimp only); omega) ⟨rfl, rfl, rfl, rfl, rfl, rfl⟩ (RLe.refl _) (by dsimp only [setAll, List.set_cons_zero, List.set_cons_succ]; rw [e1, List.length_append]; exact qS)
              ·
                refine' WS.yl rfl rfl rfl (by decide) (Yl.load1 tab_ok rfl rfl rfl (fun _ => rfl) ?r27 rfl ?h27) qS (RLe.refl _) ?_
                case r27 => (exact Rd.slD 1 rfl (by (try dsimp only) <;> omega))
                case h27 => rfl
                refine WA.take 14 rfl (by kernel_rfl) (by kernel_rfl) (by kernel_rfl) rfl rfl (by decide) (Yl.add rfl rfl rfl (fun _ => rfl) (by intro _; constructor <;> (try dsimp only) <;> omega)) qS (by first | exact RLe.refl _ | assumption) ?_
                refine WA.br2 (i := 1) (j := 15) (by kernel_rfl) ?_ ?_
                ·
                  refine' WS.yl rfl rfl rfl (by decide) (Yl.load1 tab_ok rfl rfl rfl (fun _ => rfl) ?r28 rfl ?h28) qS (RLe.refl _) ?_
                  case r28 => apply Rd.add; (exact Rd.blk 0 rfl)
                  case h28 => rfl
                  refine WA.eff 15 rfl (by kernel_rfl) rfl rfl (by decide) (Ef.buildSliceD (enc := encI) (parts := [.tmp 72]) [_] tab_ok rfl rfl rfl rfl rfl rfl rfl rfl (by decide) (by decide) (fun a73 => ?_))
                  refine ⟨by first | exact RLe.refl _ | assumption, qS, ?_⟩
                  refine WA.eff 16 rfl (by kernel_rfl) rfl rfl (by decide) (Ef.appendD 2 0 tab_ok rfl rfl rfl rfl rfl rfl rfl rfl rfl rfl rfl (fun _ _ => rfl) (by simp only [List.length_cons, List.length_nil]; omega) (by simp only [List.length_cons, List.length_nil]; omega) (fun a74 c74 ha74 => ?_))
                  refine ⟨by first | exact RLe.refl _ | assumption, qS, ?_⟩
                  refine WA.take 17 rfl (by kernel_rfl) (by kernel_rfl) (by kernel_rfl) rfl rfl (by decide) (pureV_ok tab_ok rfl (fun _ => rfl)) qS (by first | exact RLe.refl _ | assumption) ?_
                  refine WA.effN 18 rfl (by kernel_rfl) rfl rfl (Ef.store 1 tab_ok rfl rfl rfl rfl rfl rfl rfl rfl ?_)
                  refine ⟨by first | exact RLe.refl _ | assumption, qS, ?_⟩
                  refine WA.done (by kernel_rfl) ?_
                  refine WE.blk _ ?_
                  refine WE.nxt ?_
                  refine W.region _ ?_
                  refine WG.run tab_ok 1 rfl ?_
                  refine WG.y rfl rfl (by decide) (Yl.sub rfl rfl rfl (fun _ => rfl) (by intro _; constructor <;> (try dsimp only) <;> omega)) ?_
                  rw [show (((more + (times - 1) * P) - i : Nat) : Int) - 1 = (((more + (times - 1) * P) - (i + 1) : Nat) : Int) by omega]
                  refine WG.run tab_ok 1 rfl ?_
                  refine WG.nil ?_
                  refine WE.again ((i + 1, a74, c74)) (by dsimp only; omega) (by (try dsimp only); omega) ⟨rfl, rfl, rfl, rfl, rfl, rfl⟩ (RLe.refl _) (by dsimp only [setAll, List.set_cons_zero, List.set_cons_succ]; rw [e1, List.length_append]; exact qS)
                ·
                  refine WS.eff rfl rfl rfl (by decide) (Ef.buildSliceD (enc := encI) (parts := [.tmp 72]) [_] tab_ok rfl rfl rfl rfl rfl rfl rfl rfl (by decide) (by decide) (fun a73 => ?_))
                  refine ⟨by first | exact RLe.refl _ | assumption, qS, ?_⟩
                  refine' WA.yl 1 rfl (by kernel_rfl) rfl rfl (by decide) (Yl.load1 tab_ok rfl rfl rfl (fun _ => rfl) ?r29 rfl ?h29) qS (RLe.refl _) ?_
                  case r29 => apply Rd.add; (exact Rd.blk 1 rfl)
                  case h29 => rfl
                  refine WA.eff 16 rfl (by kernel_rfl) rfl rfl (by decide) (Ef.appendD 2 0 tab_ok rfl rfl rfl rfl rfl rfl rfl rfl rfl rfl rfl (fun _ _ => rfl) (by simp only [List.length_cons, List.length_nil]; omega) (by simp only [List.length_cons, List.length_nil]; omega) (fun a74 c74 ha74 => ?_))
                  refine ⟨by first | exact RLe.refl _ | assumption, qS, ?_⟩
                  refine WA.take 17 rfl (by kernel_rfl) (by kernel_rfl) (by kernel_rfl) rfl rfl (by decide) (pureV_ok tab_ok rfl (fun _ => rfl)) qS (by first | exact RLe.refl _ | assumption) ?_
                  refine WA.effN 18 rfl (by kernel_rfl) rfl rfl (Ef.store 1 tab_ok rfl rfl rfl rfl rfl rfl rfl rfl ?_)
                  refine ⟨by first | exact RLe.refl _ | assumption, qS, ?_⟩
                  refine WA.done (by kernel_rfl) ?_
                  refine WE.blk _ ?_
                  refine WE.nxt ?_
                  refine W.region _ ?_
                  refine WG.run tab_ok 1 rfl ?_
                  refine WG.y rfl rfl (by decide) (Yl.sub rfl rfl rfl (fun _ => rfl) (by intro _; constructor <;> (try dsimp only) <;> omega)) ?_
                  rw [show (((more + (times - 1) * P) - i : Nat) : Int) - 1 = (((more + (times - 1) * P) - (i + 1) : Nat) : Int) by omega]
                  refine WG.run tab_ok 1 rfl ?_
                  refine WG.nil ?_
                  refine WE.again ((i + 1, a74, c74)) (by dsimp only; omega) (by (try dsimp only); omega) ⟨rfl, rfl, rfl, rfl, rfl, rfl⟩ (RLe.refl _) (by dsimp only [setAll, List.set_cons_zero, List.set_cons_succ]; rw [e1, List.length_append]; exact qS)
        ·
          refine' WS.yl rfl rfl rfl (by decide) (Yl.load1 tab_ok rfl rfl rfl (fun _ => rfl) ?r30 rfl ?h30) qS (RLe.refl _) ?_
          case r30 => apply Rd.add; (exact Rd.blk 0 rfl)
          case h30 => rfl
          refine WA.take 6 rfl (by kernel_rfl) (by kernel_rfl) (by kernel_rfl) rfl rfl (by decide) (pureV_ok tab_ok rfl (fun _ => rfl)) qS (by first | exact RLe.refl _ | assumption) ?_
          refine WA.take 9 rfl (by kernel_rfl) (by kernel_rfl) (by kernel_rfl) rfl rfl (by decide) (Yl.sub rfl rfl rfl (fun _ => rfl) (by intro _; constructor <;> (try dsimp only) <;> omega)) qS (by first | exact RLe.refl _ | assumption) ?_
          refine WA.br2 (i := 1) (j := 3) (by kernel_rfl) ?_ ?_
          ·
            refine' WS.yl rfl rfl rfl (by decide) (Yl.load1 tab_ok rfl rfl rfl (fun _ => rfl) ?r31 rfl ?h31) qS (RLe.refl _) ?_
            case r31 => apply Rd.add; (exact Rd.blk 0 rfl)
            case h31 => rfl
            refine' WA.yl 3 rfl (by kernel_rfl) rfl rfl (by decide) (Yl.load1 tab_ok rfl rfl rfl (fun _ => rfl) ?r32 rfl ?h32) qS (RLe.refl _) ?_
            case r32 => apply Rd.add; (exact Rd.blk 0 rfl)
            case h32 => rfl
            refine WA.yl 10 rfl (by kernel_rfl) rfl rfl (by decide) (Yl.index tab_ok rfl rfl rfl rfl rfl rfl (fun _ => rfl) (by intro _; constructor <;> (try dsimp only) <;> omega) (by intro _; first | exact fun _ _ _ _ => rfl | exact RS.has (by assumption) | exact fun _ _ _ _ => (by assumption) | exact HasMem.ownD 0 rfl | exact HasMem.ownD 1 rfl | exact HasMem.ownD 2 rfl | exact HasMem.ownD 3 rfl | exact HasMem.ownD 4 rfl)) qS (RLe.refl _) ?_
            refine' WA.yl 11 rfl (by kernel_rfl) rfl rfl (by decide) (Yl.load1 tab_ok rfl rfl rfl (fun _ => rfl) ?r33 rfl ?h33) qS (RLe.refl _) ?_
            case r33 => (exact Rd.slD 1 rfl (by (try dsimp only) <;> omega))
            case h33 => rfl
            refine WA.take 14 rfl (by kernel_rfl) (by kernel_rfl) (by kernel_rfl) rfl rfl (by decide) (Yl.add rfl rfl rfl (fun _ => rfl) (by intro _; constructor <;> (try dsimp only) <;> omega)) qS (by first | exact RLe.refl _ | assumption) ?_
            refine WA.eff 15 rfl (by kernel_rfl) rfl rfl (by decide) (Ef.buildSliceD (enc := encI) (parts := [.tmp 72]) [_] tab_ok rfl rfl rfl rfl rfl rfl rfl rfl (by decide) (by decide) (fun a73 => ?_))
            refine ⟨by first | exact RLe.refl _ | assumption, qS, ?_⟩
            refine WA.eff 16 rfl (by kernel_rfl) rfl rfl (by decide) (Ef.appendD 2 0 tab_ok rfl rfl rfl rfl rfl rfl rfl rfl rfl rfl rfl (fun _ _ => rfl) (by simp only [List.length_cons, List.length_nil]; omega) (by simp only [List.length_cons, List.length_nil]; omega) (fun a74 c74 ha74 => ?_))
            refine ⟨by first | exact RLe.refl _ | assumption, qS, ?_⟩
            refine WA.take 17 rfl (by kernel_rfl) (by kernel_rfl) (by kernel_rfl) rfl rfl (by decide) (pureV_ok tab_ok rfl (fun _ => rfl)) qS (by first | exact RLe.refl _ | assumption) ?_
            refine WA.effN 18 rfl (by kernel_rfl) rfl rfl (Ef.store 1 tab_ok rfl rfl rfl rfl rfl rfl rfl rfl ?_)
            refine ⟨by first | exact RLe.refl _ | assumption, qS, ?_⟩
            refine WA.done (by kernel_rfl) ?_
            refine WE.blk _ ?_
            refine WE.nxt ?_
            refine W.region _ ?_
            refine WG.run tab_ok 1 rfl ?_
            refine WG.y rfl rfl (by decide) (Yl.sub rfl rfl rfl (fun _ => rfl) (by intro _; constructor <;> (try dsimp only) <;> omega)) ?_
            rw [show (((more + (times - 1) * P) - i : Nat) : Int) - 1 = (((more + (times - 1) * P) - (i + 1) : Nat) : Int) by omega]
            refine WG.run tab_ok 1 rfl ?_
            refine WG.nil ?_
            refine WE.again ((i + 1, a74, c74)) (by dsimp only; omega) (by (try dsimp only); omega) ⟨rfl, rfl, rfl, rfl, rfl, rfl⟩ (RLe.refl _) (by dsimp only [setAll, List.set_cons_zero, List.set_cons_succ]; rw [e1, List.length_append]; exact qS)
          ·
            refine' WS.yl rfl rfl rfl (by decide) (Yl.load1 tab_ok rfl rfl rfl (fun _ => rfl) ?r34 rfl ?h34) qS (RLe.refl _) ?_
            case r34 => apply Rd.add; (exact Rd.blk 0 rfl)
            case h34 => rfl
            refine WA.br2 (i := 1) (j := 10) (by kernel_rfl) ?_ ?_
            ·
              refine' WS.yl rfl rfl rfl (by decide) (Yl.load1 tab_ok rfl rfl rfl (fun _ => rfl) ?r35 rfl ?h35) qS (RLe.refl _) ?_
              case r35 => apply Rd.add; (exact Rd.blk 0 rfl)
              case h35 => rfl
              refine WA.yl 10 rfl (by kernel_rfl) rfl rfl (by decide) (Yl.index tab_ok rfl rfl rfl rfl rfl rfl (fun _ => rfl) (by intro _; constructor <;> (try dsimp only) <;> omega) (by intro _; first | exact fun _ _ _ _ => rfl | exact RS.has (by assumption) | exact fun _ _ _ _ => (by assumption) | exact HasMem.ownD 0 rfl | exact HasMem.ownD 1 rfl | exact HasMem.ownD 2 rfl | exact HasMem.ownD 3 rfl | exact HasMem.ownD 4 rfl)) qS (RLe.refl _) ?_
              refine' WA.yl 11 rfl (by kernel_rfl) rfl rfl (by decide) (Yl.load1 tab_ok rfl rfl rfl (fun _ => rfl) ?r36 rfl ?h36) qS (RLe.refl _) ?_
              case r36 => (exact Rd.slD 1 rfl (by (try dsimp only) <;> omega))
              case h36 => rfl
              refine WA.take 14 rfl (by kernel_rfl) (by kernel_rfl) (by kernel_rfl) rfl rfl (by decide) (Yl.add rfl rfl rfl (fun _ => rfl) (by intro _; constructor <;> (try dsimp only) <;> omega)) qS (by first | exact RLe.refl _ | assumption) ?_
              refine WA.eff 15 rfl (by kernel_rfl) rfl rfl (by decide) (Ef.buildSliceD (enc := encI) (parts := [.tmp 72]) [_] tab_ok rfl rfl rfl rfl rfl rfl rfl rfl (by decide) (by decide) (fun a73 => ?_))
              refine ⟨by first | exact RLe.refl _ | assumption, qS, ?_⟩
              refine WA.eff 16 rfl (by kernel_rfl) rfl rfl (by decide) (Ef.appendD 2 0 tab_ok rfl rfl rfl rfl rfl rfl rfl rfl rfl rfl rfl (fun _ _ => rfl) (by simp only [List.length_cons, List.length_nil]; omega) (by simp only [List.length_cons, List.length_nil]; omega) (fun a74 c74 ha74 => ?_))
              refine ⟨by first | exact RLe.refl _ | assumption, qS, ?_⟩
              refine WA.take 17 rfl (by kernel_rfl) (by kernel_rfl) (by kernel_rfl) rfl rfl (by decide) (pureV_ok tab_ok rfl (fun _ => rfl)) qS (by first | exact RLe.refl _ | assumption) ?_
              refine WA.effN 18 rfl (by kernel_rfl) rfl rfl (Ef.store 1 tab_ok rfl rfl rfl rfl rfl rfl rfl rfl ?_)
              refine ⟨by first | exact RLe.refl _ | assumption, qS, ?_⟩
              refine WA.done (by kernel_rfl) ?_
              refine WE.blk _ ?_
              refine WE.nxt ?_
              refine W.region _ ?_
              refine WG.run tab_ok 1 rfl ?_
              refine WG.y rfl rfl (by decide) (Yl.sub rfl rfl rfl (fun _ => rfl) (by intro _; constructor <;> (try dsimp only) <;> omega)) ?_
              rw [show (((more + (times - 1) * P) - i : Nat) : Int) - 1 = (((more + (times - 1) * P) - (i + 1) : Nat) : Int) by omega]
              refine WG.run tab_ok 1 rfl ?_
              refine WG.nil ?_
              refine WE.again ((i + 1, a74, c74)) (by dsimp only; omega) (by (try dsimp only); omega) ⟨rfl, rfl, rfl, rfl, rfl, rfl⟩ (RLe.refl _) (by dsimp only [setAll, List.set_cons_zero, List.set_cons_succ]; rw [e1, List.length_append]; exact qS)
            ·
              refine WS.yl rfl rfl rfl (by decide) (Yl.index tab_ok rfl rfl rfl rfl rfl rfl (fun _ => rfl) (by intro _; constructor <;> (try dsimp only) <;> omega) (by intro _; first | exact fun _ _ _ _ => rfl | exact RS.has (by assumption) | exact fun _ _ _ _ => (by assumption) | exact HasMem.ownD 0 rfl | exact HasMem.ownD 1 rfl | exact HasMem.ownD 2 rfl | exact HasMem.ownD 3 rfl | exact HasMem.ownD 4 rfl)) qS (RLe.refl _) ?_
              refine WA.br2 (i := 1) (j := 11) (by kernel_rfl) ?_ ?_
              ·
                refine' WS.yl rfl rfl rfl (by decide) (Yl.load1 tab_ok rfl rfl rfl (fun _ => rfl) ?r37 rfl ?h37) qS (RLe.refl _) ?_
                case r37 => apply Rd.add; (exact Rd.blk 0 rfl)
                case h37 => rfl
                refine' WA.yl 11 rfl (by kernel_rfl) rfl rfl (by decide) (Yl.load1 tab_ok rfl rfl rfl (fun _ => rfl) ?r38 rfl ?h38) qS (RLe.refl _) ?_
                case r38 => (exact Rd.slD 1 rfl (by (try dsimp only) <;> omega))
                case h38 => rfl
                refine WA.take 14 rfl (by kernel_rfl) (by kernel_rfl) (by kernel_rfl) rfl rfl (by decide) (Yl.add rfl rfl rfl (fun _ => rfl) (by intro _; constructor <;> (try dsimp only) <;> omega)) qS (by first | exact RLe.refl _ | assumption) ?_
                refine WA.eff 15 rfl (by kernel_rfl) rfl rfl (by decide) (Ef.buildSliceD (enc := encI) (parts := [.tmp 72]) [_] tab_ok rfl rfl rfl rfl rfl rfl rfl rfl (by decide) (by decide) (fun a73 => ?_))
                refine ⟨by first | exact RLe.refl _ | assumption, qS, ?_⟩
                refine WA.eff 16 rfl (by kernel_rfl) rfl rfl (by decide) (Ef.appendD 2 0 tab_ok rfl rfl rfl rfl rfl rfl rfl rfl rfl rfl rfl (fun _ _ => rfl) (by simp only [List.length_cons, List.length_nil]; omega) (by simp only [List.length_cons, List.length_nil]; omega) (fun a74 c74 ha74 => ?_))
                refine ⟨by first | exact RLe.refl _ | assumption, qS, ?_⟩
                refine WA.take 17 rfl (by kernel_rfl) (by kernel_rfl) (by kernel_rfl) rfl rfl (by decide) (pureV_ok tab_ok rfl (fun _ => rfl)) qS (by first | exact RLe.refl _ | assumption) ?_
                refine WA.effN 18 rfl (by kernel_rfl) rfl rfl (Ef.store 1 tab_ok rfl rfl rfl rfl rfl rfl rfl rfl ?_)
                refine ⟨by first | exact RLe.refl _ | assumption, qS, ?_⟩
                refine WA.done (by kernel_rfl) ?_
                refine WE.blk _ ?_
                refine WE.nxt ?_
                refine W.region _ ?_
                refine WG.run tab_ok 1 rfl ?_
                refine WG.y rfl rfl (by decide) (Yl.sub rfl rfl rfl (fun _ => rfl) (by intro _; constructor <;> (try dsimp only) <;> omega)) ?_
                rw [show (((more + (times - 1) * P) - i : Nat) : Int) - 1 = (((more + (times - 1) * P) - (i + 1) : Nat) : Int) by omega]
                refine WG.run tab_ok 1 rfl ?_
                refine WG.nil ?_
                refine WE.again ((i + 1, a74, c74)) (by dsimp only; omega) (by (try dsimp only); omega) ⟨rfl, rfl, rfl, rfl, rfl, rfl⟩ (RLe.refl _) (by dsimp only [setAll, List.set_cons_zero, List.set_cons_succ]; rw [e1, List.length_append]; exact qS)
              ·
                refine' WS.yl rfl rfl rfl (by decide) (Yl.load1 tab_ok rfl rfl rfl (fun _ => rfl) ?r39 rfl ?h39) qS (RLe.refl _) ?_
                case r39 => (exact Rd.slD 1 rfl (by (try dsimp only) <;> omega))
                case h39 => rfl
                refine WA.take 14 rfl (by kernel_rfl) (by kernel_rfl) (by kernel_rfl) rfl rfl (by decide) (Yl.add rfl rfl rfl (fun _ => rfl) (by intro _; constructor <;> (try dsimp only) <;> omega)) qS (by first | exact RLe.refl _ | assumption) ?_
                refine WA.br2 (i := 1) (j := 15) (by kernel_rfl) ?_ ?_
                ·
                  refine' WS.yl rfl rfl rfl (by decide) (Yl.load1 tab_ok rfl rfl rfl (fun _ => rfl) ?r40 rfl ?h40) qS (RLe.refl _) ?_
                  case r40 => apply Rd.add; (exact Rd.blk 0 rfl)
                  case h40 => rfl
                  refine WA.eff 15 rfl (by kernel_rfl) rfl rfl (by decide) (Ef.buildSliceD (enc := encI) (parts := [.tmp 72]) [_] tab_ok rfl rfl rfl rfl rfl rfl rfl rfl (by decide) (by decide) (fun a73 => ?_))
                  refine ⟨by first | exact RLe.refl _ | assumption, qS, ?_⟩
                  refine WA.eff 16 rfl (by kernel_rfl) rfl rfl (by decide) (Ef.appendD 2 0 tab_ok rfl rfl rfl rfl rfl rfl rfl rfl rfl rfl rfl (fun _ _ => rfl) (by simp only [List.length_cons, List.length_nil]; omega) (by simp only [List.length_cons, List.length_nil]; omega) (fun a74 c74 ha74 => ?_))
                  refine ⟨by first | exact RLe.refl _ | assumption, qS, ?_⟩
                  refine WA.take 17 rfl (by kernel_rfl) (by kernel_rfl) (by kernel_rfl) rfl rfl (by decide) (pureV_ok tab_ok rfl (fun _ => rfl)) qS (by first | exact RLe.refl _ | assumption) ?_
                  refine WA.effN 18 rfl (by kernel_rfl) rfl rfl (Ef.store 1 tab_ok rfl rfl rfl rfl rfl rfl rfl rfl ?_)
                  refine ⟨by first | exact RLe.refl _ | assumption, qS, ?_⟩
                  refine WA.done (by kernel_rfl) ?_
                  refine WE.blk _ ?_
                  refine WE.nxt ?_
                  refine W.region _ ?_
                  refine WG.run tab_ok 1 rfl ?_
                  refine WG.y rfl rfl (by decide) (Yl.sub rfl rfl rfl (fun _ => rfl) (by intro _; constructor <;> (try dsimp only) <;> omega)) ?_
                  rw [show (((more + (times - 1) * P) - i : Nat) : Int) - 1 = (((more + (times - 1) * P) - (i + 1) : Nat) : Int) by omega]
                  refine WG.run tab_ok 1 rfl ?_
                  refine WG.nil ?_
                  refine WE.again ((i + 1, a74, c74)) (by dsimp only; omega) (by (try dsimp only); omega) ⟨rfl, rfl, rfl, rfl, rfl, rfl⟩ (RLe.refl _) (by dsimp only [setAll, List.set_cons_zero, List.set_cons_succ]; rw [e1, List.length_append]; exact qS)
                ·
                  refine WS.eff rfl rfl rfl (by decide) (Ef.buildSliceD (enc := encI) (parts := [.tmp 72]) [_] tab_ok rfl rfl rfl rfl rfl rfl rfl rfl (by decide) (by decide) (fun a73 => ?_))
                  refine ⟨by first | exact RLe.refl _ | assumption, qS, ?_⟩
                  refine' WA.yl 1 rfl (by kernel_rfl) rfl rfl (by decide) (Yl.load1 tab_ok rfl rfl rfl (fun _ => rfl) ?r41 rfl ?h41) qS (RLe.refl _) ?_
                  case r41 => apply Rd.add; (exact Rd.blk 1 rfl)
                  case h41 => rfl
                  refine WA.eff 16 rfl (by kernel_rfl) rfl rfl (by decide) (Ef.appendD 2 0 tab_ok rfl rfl rfl rfl rfl rfl rfl rfl rfl rfl rfl (fun _ _ => rfl) (by simp only [List.length_cons, List.length_nil]; omega) (by simp only [List.length_cons, List.length_nil]; omega) (fun a74 c74 ha74 => ?_))
                  refine ⟨by first | exact RLe.refl _ | assumption, qS, ?_⟩
                  refine WA.take 17 rfl (by kernel_rfl) (by kernel_rfl) (by kernel_rfl) rfl rfl (by decide) (pureV_ok tab_ok rfl (fun _ => rfl)) qS (by first | exact RLe.refl _ | assumption) ?_
                  refine WA.effN 18 rfl (by kernel_rfl) rfl rfl (Ef.store 1 tab_ok rfl rfl rfl rfl rfl rfl rfl rfl ?_)
                  refine ⟨by first | exact RLe.refl _ | assumption, qS, ?_⟩
                  refine WA.done (by kernel_rfl) ?_
                  refine WE.blk _ ?_
                  refine WE.nxt ?_
                  refine W.region _ ?_
                  refine WG.run tab_ok 1 rfl ?_
                  refine WG.y rfl rfl (by decide) (Yl.sub rfl rfl rfl (fun _ => rfl) (by intro _; constructor <;> (try dsimp only) <;> omega)) ?_
                  rw [show (((more + (times - 1) * P) - i : Nat) : Int) - 1 = (((more + (times - 1) * P) - (i + 1) : Nat) : Int) by omega]
                  refine WG.run tab_ok 1 rfl ?_
                  refine WG.nil ?_
                  refine WE.again ((i + 1, a74, c74)) (by dsimp only; omega) (by (try dsimp only); omega) ⟨rfl, rfl, rfl, rfl, rfl, rfl⟩ (RLe.refl _) (by dsimp only [setAll, List.set_cons_zero, List.set_cons_succ]; rw [e1, List.length_append]; exact qS)
      · try dsimp only at hc1
        obtain rfl : i = more + (times - 1) * P := by omega
        rw [hkb5]
        refine W.cap 1 rfl ?_
        intro hcp
        rw [List.length_map] at hcp
        refine W.freeze (enc := encI) (xs := fvals F (S + more + P * times)) 1 rfl ?_
        intro R1 hR1 hff
        refine W.exit ?_
        refine WE.then_exit ?_
        refine WE.then_exit ?_
        refine WE.blk_exit ?_
        refine WE.nxt ?_
        refine W.seq ?_
        refine W.regionH _ (ES := [.blk b3 [.slice fa (fvals F (S + P)).length fc, .int .i64 (P : Int), .int .i64 I]]) mixed ?_
        refine WA.take 0 rfl (by kernel_rfl) (by kernel_rfl) (by kernel_rfl) rfl rfl (by decide) (pureV_ok tab_ok rfl (fun _ => rfl)) qS (by first | exact RLe.refl _ | assumption) ?_
        refine' WA.take 1 rfl (by kernel_rfl) (by kernel_rfl) (by kernel_rfl) rfl rfl (by decide) (Yl.load1 tab_ok rfl rfl rfl (fun _ => rfl) ?r42 rfl ?h42) qS (by first | exact RLe.refl _ | assumption) ?_
        case r42 => apply Rd.add; (exact Rd.blk 0 rfl)
        case h42 => rfl
        refine WA.take 2 rfl (by kernel_rfl) (by kernel_rfl) (by kernel_rfl) rfl rfl (by decide) (pureV_ok tab_ok rfl (fun _ => rfl)) qS (by first | exact RLe.refl _ | assumption) ?_
        refine WA.take 3 rfl (by kernel_rfl) (by kernel_rfl) (by kernel_rfl) rfl rfl (by decide) (Yl.mul rfl rfl rfl (fun _ => rfl) (by intro _; constructor <;> (try dsimp only) <;> omega)) qS (by first | exact RLe.refl _ | assumption) ?_
        refine WA.take 4 rfl (by kernel_rfl) (by kernel_rfl) (by kernel_rfl) rfl rfl (by decide) (pureV_ok tab_ok rfl (fun _ => rfl)) qS (by first | exact RLe.refl _ | assumption) ?_
        refine' WA.take 5 rfl (by kernel_rfl) (by kernel_rfl) (by kernel_rfl) rfl rfl (by decide) (Yl.load1 tab_ok rfl rfl rfl (fun _ => rfl) ?r43 rfl ?h43) qS (by first | exact RLe.refl _ | assumption) ?_
        case r43 => apply Rd.add; (exact Rd.blk 0 rfl)
        case h43 => rfl
        refine WA.take 6 rfl (by kernel_rfl) (by kernel_rfl) (by kernel_rfl) rfl rfl (by decide) (pureV_ok tab_ok rfl (fun _ => rfl)) qS (by first | exact RLe.refl _ | assumption) ?_
        refine WA.take 7 rfl (by kernel_rfl) (by kernel_rfl) (by kernel_rfl) rfl rfl (by decide) (Yl.mul rfl rfl rfl (fun _ => rfl) (by intro _; constructor <;> (try dsimp only) <;> omega)) qS (by first | exact RLe.refl _ | assumption) ?_
        refine WA.take 8 rfl (by kernel_rfl) (by kernel_rfl) (by kernel_rfl) rfl rfl (by decide) (pureV_ok tab_ok rfl (fun _ => rfl)) qS (by first | exact RLe.refl _ | assumption) ?_
        refine WA.effN 9 rfl (by kernel_rfl) rfl rfl (Ef.store 0 tab_ok rfl rfl rfl rfl rfl rfl rfl rfl ?_)
        refine ⟨by first | exact RLe.refl _ | assumption, qS, ?_⟩
        refine WA.take 10 rfl (by kernel_rfl) (by kernel_rfl) (by kernel_rfl) rfl rfl (by decide) (pureV_ok tab_ok rfl (fun _ => rfl)) qS (by first | exact RLe.refl _ | assumption) ?_
        refine WA.effN 11 rfl (by kernel_rfl) rfl rfl (Ef.store 0 tab_ok rfl rfl rfl rfl rfl rfl rfl rfl ?_)
        refine ⟨by first | exact RLe.refl _ | assumption, qS, ?_⟩
        refine WA.done (by kernel_rfl) ?_
        refine WE.nxt ?_
        refine W.seq ?_
        refine W.region _ ?_
        refine' WG.y rfl rfl (by decide) (Yl.load1 tab_ok rfl rfl rfl (fun _ => rfl) ?r44 rfl ?h44) ?_
        case r44 => (exact Rd.blk 0 rfl)
        case h44 => rfl
        refine WL.efN rfl rfl (Ef.store0 1 tab_ok rfl rfl rfl rfl rfl rfl rfl rfl ?_)
        refine WG.nil ?_
        refine WE.nxt ?_
        refine W.ret ?_
        refine WE.retF tab_ok [_] rfl ⟨⟨_, _, _, rfl, rfl, rfl, ((by first | exact Rd.blk 0 rfl | exact Rd.blk 1 rfl | exact Rd.blk 2 rfl | exact Rd.blk 3 rfl | exact Rd.blk 4 rfl)), rfl⟩, trivial⟩ ((by first | exact hR1 | exact RLe.refl _)) ?_
        exact ⟨a12, c12, by rw [← hkb4]; rfl, hff, hcp, qS⟩
  ·
    refine W.regionH _ (ES := [.blk b3 [.slice fa (fvals F (S + P)).length fc, .int .i64 (P : Int), .int .i64 I]]) mixed ?_
    refine WA.take 1 rfl (by kernel_rfl) (by kernel_rfl) (by kernel_rfl) rfl rfl (by decide) (pureV_ok tab_ok rfl (fun _ => rfl)) qS (by first | exact RLe.refl _ | assumption) ?_
    refine' WA.take 2 rfl (by kernel_rfl) (by kernel_rfl) (by kernel_rfl) rfl rfl (by decide) (Yl.load1 tab_ok rfl rfl rfl (fun _ => rfl) ?r45 rfl ?h45) qS (by first | exact RLe.refl _ | assumption) ?_
    case r45 => apply Rd.add; (exact Rd.blk 0 rfl)
    case h45 => rfl
    refine WA.take 4 rfl (by kernel_rfl) (by kernel_rfl) (by kernel_rfl) rfl rfl (by decide) (pureV_ok tab_ok rfl (fun _ => rfl)) qS (by first | exact RLe.refl _ | assumption) ?_
    refine' WA.take 5 rfl (by kernel_rfl) (by kernel_rfl) (by kernel_rfl) rfl rfl (by decide) (Yl.load1 tab_ok rfl rfl rfl (fun _ => rfl) ?r46 rfl ?h46) qS (by first | exact RLe.refl _ | assumption) ?_
    case r46 => apply Rd.add; (exact Rd.blk 0 rfl)
    case h46 => rfl
    refine WA.take 6 rfl (by kernel_rfl) (by kernel_rfl) (by kernel_rfl) rfl rfl (by decide) (pureV_ok tab_ok rfl (fun _ => rfl)) qS (by first | exact RLe.refl _ | assumption) ?_
    refine' WA.take 7 rfl (by kernel_rfl) (by kernel_rfl) (by kernel_rfl) rfl rfl (by decide) (Yl.load1 tab_ok rfl rfl rfl (fun _ => rfl) ?r47 rfl ?h47) qS (by first | exact RLe.refl _ | assumption) ?_
    case r47 => apply Rd.add; (exact Rd.blk 0 rfl)
    case h47 => rfl
    refine WA.br2 (i := 0) (j := 9) (by kernel_rfl) ?_ ?_
    ·
      refine WS.eff rfl rfl rfl (by decide) (Ef.buildSliceD (enc := encI) (parts := []) [] tab_ok rfl rfl rfl rfl rfl rfl rfl rfl (by decide) (by decide) (fun a9 => ?_))
      refine ⟨by first | exact RLe.refl _ | assumption, qS, ?_⟩
      refine WA.br2 (i := 3) (j := 9) (by kernel_rfl) ?_ ?_
      ·
        refine WS.eff rfl rfl rfl (by decide) (Ef.cloneL (enc := encI) 0 tab_ok rfl rfl rfl rfl rfl rfl rfl rfl rfl rfl ha (fun _ _ => rfl) (by dsimp only; omega) (by omega) (fun a12 c12 ha12 => ?_))
        refine ⟨by first | exact RLe.refl _ | assumption, qS, ?_⟩
        -- build
        refine WA.take 8 rfl (by kernel_rfl) (by kernel_rfl) (by kernel_rfl) rfl rfl (by decide) (Yl.build (parts := [(0, .tmp 12), (1, .tmp 14), (2, .tmp 16)]) tab_ok rfl rfl rfl rfl (fun _ => rfl) rfl rfl) qS (by first | exact RLe.refl _ | assumption) ?_
        refine WA.eff 9 rfl (by kernel_rfl) rfl rfl (by decide) (Ef.alloc tab_ok rfl rfl (fun b7 => ?_))
        refine ⟨by first | exact RLe.refl _ | assumption, qS, ?_⟩
        refine WA.effN 10 rfl (by kernel_rfl) rfl rfl (Ef.store0 0 tab_ok rfl rfl rfl rfl rfl rfl rfl rfl ?_)
        refine ⟨by first | exact RLe.refl _ | assumption, qS, ?_⟩
        refine WA.done (by kernel_rfl) ?_
        refine WE.cutP (b7, a12, c12) trivial ⟨rfl, rfl, rfl, rfl, rfl, rfl⟩ (RLe.refl _) (by dsimp only; first | exact List.Perm.refl _ | exact List.Perm.swap _ _ _)
      ·
        refine WS.eff rfl rfl rfl (by decide) (Ef.alloc tab_ok rfl rfl (fun b7 => ?_))
        refine ⟨by first | exact RLe.refl _ | assumption, qS, ?_⟩
        refine WA.eff 3 rfl (by kernel_rfl) rfl rfl (by decide) (Ef.cloneL (enc := encI) 1 tab_ok rfl rfl rfl rfl rfl rfl rfl rfl rfl rfl ha (fun _ _ => rfl) (by dsimp only; omega) (by omega) (fun a12 c12 ha12 => ?_))
        refine ⟨by first | exact RLe.refl _ | assumption, qS, ?_⟩
        -- build
        refine WA.take 8 rfl (by kernel_rfl) (by kernel_rfl) (by kernel_rfl) rfl rfl (by decide) (Yl.build (parts := [(0, .tmp 12), (1, .tmp 14), (2, .tmp 16)]) tab_ok rfl rfl rfl rfl (fun _ => rfl) rfl rfl) qS (by first | exact RLe.refl _ | assumption) ?_
        refine WA.effN 10 rfl (by kernel_rfl) rfl rfl (Ef.store0 0 tab_ok rfl rfl rfl rfl rfl rfl rfl rfl ?_)
        refine ⟨by first | exact RLe.refl _ | assumption, qS, ?_⟩
        refine WA.done (by kernel_rfl) ?_
        refine WE.cutP (b7, a12, c12) trivial ⟨rfl, rfl, rfl, rfl, rfl, rfl⟩ (RLe.refl _) (by dsimp only; first | exact List.Perm.refl _ | exact List.Perm.swap _ _ _)
    ·
      refine WS.eff rfl rfl rfl (by decide) (Ef.alloc tab_ok rfl rfl (fun b7 => ?_))
      refine ⟨by first | exact RLe.refl _ | assumption, qS, ?_⟩
      refine WA.eff 0 rfl (by kernel_rfl) rfl rfl (by decide) (Ef.buildSliceD (enc := encI) (parts := []) [] tab_ok rfl rfl rfl rfl rfl rfl rfl rfl (by decide) (by decide) (fun a9 => ?_))
      refine ⟨by first | exact RLe.refl _ | assumption, qS, ?_⟩
      refine WA.eff 3 rfl (by kernel_rfl) rfl rfl (by decide) (Ef.cloneL (enc := encI) 0 tab_ok rfl rfl rfl rfl rfl rfl rfl rfl rfl rfl ha (fun _ _ => rfl) (by dsimp only; omega) (by omega) (fun a12 c12 ha12 => ?_))
      refine ⟨by first | exact RLe.refl _ | assumption, qS, ?_⟩
      -- build
      refine WA.take 8 rfl (by kernel_rfl) (by kernel_rfl) (by kernel_rfl) rfl rfl (by decide) (Yl.build (parts := [(0, .tmp 12), (1, .tmp 14), (2, .tmp 16)]) tab_ok rfl rfl rfl rfl (fun _ => rfl) rfl rfl) qS (by first | exact RLe.refl _ | assumption) ?_
      refine WA.effN 10 rfl (by kernel_rfl) rfl rfl (Ef.store0 1 tab_ok rfl rfl rfl rfl rfl rfl rfl rfl ?_)
      refine ⟨by first | exact RLe.refl _ | assumption, qS, ?_⟩
      refine WA.done (by kernel_rfl) ?_
      refine WE.cutP (b7, a12, c12) trivial ⟨rfl, rfl, rfl, rfl, rfl, rfl⟩ (RLe.refl _) (by dsimp only; first | exact List.Perm.refl _ | exact List.Perm.swap _ _ _)

theorem LongerV_C {R : Ro} {fa : Option Addr} {fc : Nat} {c : Cv} (hs : SmallC c) (hfin : finB c = true) (h1 : c.vals.length ≤ 20) (h2 : c.per ≤ 4) (h3 : c.inc ≤ 50) (h4 : ∀ x ∈ c.vals, x ≤ 200) (ha : RS R 1 encI fa c.vals) {mi ti : Int} (hm : 0 ≤ mi ∧ mi ≤ 3) (ht : 1 ≤ ti ∧ ti ≤ 2) (w0 : World) (E : List Ent) : K.Fn Try.prog 72 [.agg #[.slice fa c.vals.length fc, .int .i64 c.per, .int .i64 c.inc], .int .i64 mi, .int .i64 ti] w0 R E (fun v R' E' => ∃ (f : Option Addr) (fc : Nat) (cv : Cv), v = .agg #[.slice f cv.vals.length fc, .int .i64 cv.per, .int .i64 cv.inc] ∧ RS R' 1 encI f cv.vals ∧ SmallC cv ∧ finB cv = true ∧ cv.vals.length ≤ fc ∧ E.Sublist E') := by
  obtain ⟨more, rfl⟩ := Int.eq_ofNat_of_zero_le hm.1
  obtain ⟨times, rfl⟩ := Int.eq_ofNat_of_zero_le (show 0 ≤ ti by omega)
  rcases valid_cases hs.valid with ⟨S, P, e, hl, hp, hfc, _⟩ | ⟨_, _, _, _, _, _, _, hf⟩
  · generalize cvF c = G at e hfc
    have hP := hfc.hP
    have hb : ∀ t, t < S + P → G t ≤ 200 := fun t htl => by
      have := h4 (nth c.vals t) (nth_mem (by omega))
      rw [e, fvals_nth G htl] at this
      exact this
    have hsl := small_longer hfc (by omega) (by omega) (by omega) hb (show more ≤ 3 by omega) (show 1 ≤ times ∧ times ≤ 2 by omega)
    have hfl : finB ⟨fvals G (S + more + P * times), ((P * times : Nat) : Int), c.inc * (times : Int)⟩ = true := by
      unfold finB
      have e0 : P ≤ P * times := by have := Nat.mul_le_mul_left P (show 1 ≤ times by omega); omega
      have e1 : P * times ≤ 2 * P := by have := Nat.mul_le_mul_left P (show times ≤ 2 by omega); omega
      dsimp only
      rw [fvals_len, fvals_nth G (by omega), bne_iff_ne]
      have := hfc.bound (S + more + P * times - 1)
      have := hfc.hn
      unfold INF
      omega
    have ev : c.vals = fvals G (S + P) := congrArg Cv.vals e
    rw [ev] at ha
    rw [ev, hp]
    refine K.Fn.mono (Longer_C hfc ha (more := more) (times := times) (by omega) (by omega) w0 E) ?_
    rintro v R' E' - ⟨f, fc', rfl, hff, hcp, hsub⟩
    exact ⟨f, fc', _, rfl, hff, hsl, hfl, hcp, hsub⟩
  · rw [hfin] at hf; cases hf

end Go.Proofs.Ytolmmfphdieilaa
