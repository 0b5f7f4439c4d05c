/- PriorityRuns: for every input the law returns true, and the input reads afterwards as it read before. No condition. -/
import Derived.Test.YtnaeefefggmomaaG5
/- Curves raised, totals. No condition. -/
set_option linter.unusedSimpArgs false
set_option linter.unusedVariables false
namespace Go.Proofs.Ytnaeefefggmomaa
open Go Go.RowKit Go.Proofs.Ytnaeefefggmomaa.K Go.Proofs.Ytnaeefefggmomaa.M

theorem POne_C {R : Ro} {fa : Option Addr} {fc : Nat} {cf : Cv} (hvf : validB cf = true) (ha : RS R 1 encI fa cf.vals) {k low high : Int} (hk : low ≤ k ∧ k ≤ high) (w0 : World) (E : List Ent) : K.Fn Try.prog 140 [.agg #[.slice fa cf.vals.length fc, .int .i64 cf.per, .int .i64 cf.inc], .int .i64 k, .int .i64 low, .int .i64 high] w0 R E (fun r R' E' => ∃ (f : Option Addr) (fc : Nat), r = cvV f fc (normR cf, 0) ∧ RS R' 1 encI f ((normR cf, (0 : Int))).1.vals ∧ E.Sublist E') := by
  refine Fn.enter (n := 31) Try.func140 rfl rfl (Nat.le_of_ble_eq_true rfl) rfl ?_
  refine W.seq ?_
  refine W.region _ ?_
  refine WL.ef rfl rfl (by decide) (Ef.box rfl rfl (fun b4 => ?_))
  refine WL.ef rfl rfl (by decide) (Ef.alloc tab_ok rfl rfl (fun b8 => ?_))
  refine WG.run tab_ok 1 rfl ?_
  refine WG.nil ?_
  refine WE.nxt ?_
  refine W.seq ?_
  refine W.region _ ?_
  refine' WG.y rfl rfl (by decide) (Yl.load1 tab_ok rfl rfl rfl (fun _ => rfl) ?r1 rfl ?h1) ?_
  case r1 => (first | exact Rd.blk 0 rfl | exact Rd.blk 1 rfl | exact Rd.blk 2 rfl | exact Rd.blk 3 rfl | exact Rd.blk 4 rfl)
  case h1 => rfl
  refine WL.call en153 rfl rfl (by decide) (CallOp.mkT rfl rfl rfl rfl) (CNormalV_C hvf ha w0 _) ?_
  rintro _ R1 _ hR1 ⟨fa1x, ca1x, rfl, ha1x, hsub⟩
  refine WL.subE hsub ?_
  unfold cvV
  dsimp only at ha1x ⊢
  
  refine WG.run tab_ok 3 rfl ?_
  refine WL.ef rfl rfl (by decide) (Ef.alloc tab_ok rfl rfl (fun b10 => ?_))
  first | refine WL.efN rfl rfl (Ef.store0 0 tab_ok rfl rfl rfl rfl rfl rfl rfl rfl ?_) | refine WL.efN rfl rfl (Ef.store0 1 tab_ok rfl rfl rfl rfl rfl rfl rfl rfl ?_) | refine WL.efN rfl rfl (Ef.store0 2 tab_ok rfl rfl rfl rfl rfl rfl rfl rfl ?_) | refine WL.efN rfl rfl (Ef.store0 3 tab_ok rfl rfl rfl rfl rfl rfl rfl rfl ?_) | refine WL.efN rfl rfl (Ef.store0 4 tab_ok rfl rfl rfl rfl rfl rfl rfl rfl ?_)
  refine WG.run tab_ok 1 rfl ?_
  refine WG.nil ?_
  refine WE.nxt ?_
  refine W.seq ?_
  refine W.seq ?_
  refine W.region _ ?_
  refine WG.run tab_ok 2 rfl ?_
  refine WG.nil ?_
  refine WE.nxt ?_
  refine W.condN rfl (fun hc0 => ?_) (fun hc0 => ?_)
  · try dsimp only at hc0
    first | done | exact absurd rfl hc0 | (simp at hc0; done)
  · try dsimp only at hc0
    refine W.skip ?_
    refine WE.nxt ?_
    refine W.seq ?_
    refine W.seq ?_
    refine W.region _ ?_
    refine WG.run tab_ok 4 rfl ?_
    refine WG.y rfl rfl (by decide) (pureV_ok tab_ok rfl (by first | exact fun _ => rfl | exact fun h => h | (intro h; simp_all))) ?_
    refine WG.y rfl rfl (by decide) (pureV_ok tab_ok rfl (by first | exact fun _ => rfl | exact fun h => h | (intro h; simp_all))) ?_
    refine WG.y rfl rfl (by decide) (pureV_ok tab_ok rfl (by first | exact fun _ => rfl | exact fun h => h | (intro h; simp_all))) ?_
    refine WG.y rfl rfl (by decide) (Yl.por rfl rfl rfl (fun _ => rfl) (by intro h1 h2; simp_all <;> omega)) ?_
    refine WG.nil ?_
    refine WE.nxt ?_
    refine W.cond rfl (fun hc1 => ?_) (fun hc1 => ?_)
    · try simp only [decide_eq_true_eq, decide_eq_false_iff_not, beq_iff_eq, bne_iff_ne, beq_eq_false_iff_ne, bne_eq_false_iff_eq, ne_eq, Bool.or_eq_true, Bool.or_eq_false_iff, Bool.and_eq_true, Bool.and_eq_false_imp, Bool.not_eq_true, Bool.not_eq_true', Bool.not_eq_false', Classical.not_not, Int.not_lt, Int.not_le, gt_iff_lt, ge_iff_le] at hc1
      omega
    · try simp only [decide_eq_true_eq, decide_eq_false_iff_not, beq_iff_eq, bne_iff_ne, beq_eq_false_iff_ne, bne_eq_false_iff_eq, ne_eq, Bool.or_eq_true, Bool.or_eq_false_iff, Bool.and_eq_true, Bool.and_eq_false_imp, Bool.not_eq_true, Bool.not_eq_true', Bool.not_eq_false', Classical.not_not, Int.not_lt, Int.not_le, gt_iff_lt, ge_iff_le] at hc1
      refine W.skip ?_
      refine WE.nxt ?_
      refine W.seq ?_
      refine W.region _ ?_
      refine' WG.y rfl rfl (by decide) (Yl.load1 tab_ok rfl rfl rfl (fun _ => rfl) ?r2 rfl ?h2) ?_
      case r2 => (first | exact Rd.blk 0 rfl | exact Rd.blk 1 rfl | exact Rd.blk 2 rfl | exact Rd.blk 3 rfl | exact Rd.blk 4 rfl)
      case h2 => rfl
      first | refine WL.efN rfl rfl (Ef.store0 0 tab_ok rfl rfl rfl rfl rfl rfl rfl rfl ?_) | refine WL.efN rfl rfl (Ef.store0 1 tab_ok rfl rfl rfl rfl rfl rfl rfl rfl ?_) | refine WL.efN rfl rfl (Ef.store0 2 tab_ok rfl rfl rfl rfl rfl rfl rfl rfl ?_) | refine WL.efN rfl rfl (Ef.store0 3 tab_ok rfl rfl rfl rfl rfl rfl rfl rfl ?_) | refine WL.efN rfl rfl (Ef.store0 4 tab_ok rfl rfl rfl rfl rfl rfl rfl rfl ?_)
      refine WG.run tab_ok 1 rfl ?_
      refine WG.nil ?_
      refine WE.nxt ?_
      refine W.ret ?_
      refine WE.retF tab_ok [_, _] rfl ⟨⟨_, _, _, rfl, rfl, rfl, ((by first | exact Rd.blk 0 rfl | exact Rd.blk 1 rfl | exact Rd.blk 2 rfl | exact Rd.blk 3 rfl | exact Rd.blk 4 rfl)), rfl⟩, rfl, trivial⟩ (hR1) ?_
      exact ⟨_, _, rfl, ha1x, (by (repeat (first | exact List.Sublist.refl _ | exact List.nil_sublist _ | apply List.Sublist.cons_cons | apply List.Sublist.cons)); done)⟩

theorem RaiseF_V {R : Ro} {fa : Option Addr} {fc : Nat} {cf : Cv} (hvf : validB cf = true) (ha : RS R 1 encI fa cf.vals) {b6 b3 : Nat} {k : Int} (h6 : R b6 = some [.slice fa cf.vals.length fc, .int .i64 cf.per, .int .i64 cf.inc]) (h3 : R b3 = some [.int .i64 k]) (hk : 0 ≤ k ∧ k ≤ 1073741824) {t : Nat} (ht : t ≤ 1000000) : FnV Try.prog 141 [.int .i64 (t : Int), .pointer (some ⟨b6, 0, none⟩), .pointer (some ⟨b3, 0, none⟩)] R (.int .i64 (raiseF cf k t)) := by
  refine Fn.toV (fun w0 E => ?_)
  have hbf := cvF_bound hvf t
  have i1 := isInf_iff hvf (t := t) (by omega)
  unfold INF at hbf
  refine Fn.enter (n := 12) Try.func141 rfl rfl (Nat.le_of_ble_eq_true rfl) rfl ?_
  refine W.seq ?_
  refine W.region _ ?_
  refine WG.run tab_ok 1 rfl ?_
  refine WG.nil ?_
  refine WE.nxt ?_
  refine W.seq ?_
  refine W.seq ?_
  refine W.region _ ?_
  refine WG.run tab_ok 2 rfl ?_
  refine WG.nil ?_
  refine WE.nxt ?_
  refine W.condE rfl (fun hc0 => ?_) (fun hc0 => ?_)
  · try dsimp only at hc0
    obtain rfl : t = 0 := by omega
    have hpl : raiseF cf k 0 = 0 := if_pos rfl
    refine W.seq ?_
    refine W.region _ ?_
    refine WG.run tab_ok 1 rfl ?_
    refine WG.nil ?_
    refine WE.nxt ?_
    refine W.ret ?_
    refine WE.then_ret ?_
    refine WE.subE (E' := E) (by (repeat (first | exact List.Sublist.refl _ | exact List.nil_sublist _ | apply List.Sublist.cons_cons | apply List.Sublist.cons)); done) ?_
    refine WE.retF tab_ok [_] rfl ⟨rfl, trivial⟩ (RLe.refl _) ?_
    exact ⟨by rw [hpl]; rfl, rfl⟩
  · try dsimp only at hc0
    have hpl : raiseF cf k t = if cvF cf t = 4611686018427387904 ∨ k = 4611686018427387904 then 4611686018427387904 else cvF cf t + k := by
      have e : raiseF cf k t = if isInf cf t then INF else cvF cf t + k := if_neg (by omega)
      rw [e]
      by_cases h : isInf cf t
      · rw [if_pos h]; exact (if_pos (.inl (i1.1 h))).symm
      · rw [if_neg h]; exact (if_neg (fun hh => hh.elim (fun x => h (i1.2 x)) (fun x => by omega))).symm
    refine W.skip ?_
    refine WE.nxt ?_
    refine W.seq ?_
    refine W.regionQ _ mixed (by kernel_rfl) ?_
    refine' WG.y rfl rfl (by decide) (Yl.load1 tab_ok rfl rfl rfl (fun _ => rfl) ?r1 rfl ?h1) ?_
    case r1 => exact Rd.ro h6
    case h1 => rfl
    refine WG.run tab_ok 1 rfl ?_
    refine WG.callV en118 rfl rfl (by decide) (CallOp.mk' rfl rfl rfl rfl) (fun _ => rfl) (fun hg => WAtG_V hvf ha (by omega)) ?_
    refine' WG.y rfl rfl (by decide) (Yl.load1 tab_ok rfl rfl rfl (fun _ => rfl) ?r2 rfl ?h2) ?_
    case r2 => exact Rd.ro h3
    case h2 => rfl
    refine WG.callV en142 rfl rfl (by decide) (CallOp.mk' rfl rfl rfl rfl) (fun _ => rfl) (fun hg => WPlus_V (by omega) (by omega)) ?_
    refine WG.run tab_ok 1 rfl ?_
    refine WG.nil ?_
    refine WE.nxt ?_
    refine W.ret ?_
    refine WE.subE (E' := E) (by (repeat (first | exact List.Sublist.refl _ | exact List.nil_sublist _ | apply List.Sublist.cons_cons | apply List.Sublist.cons)); done) ?_
    refine WE.retF tab_ok [_] rfl ⟨rfl, trivial⟩ (RLe.refl _) ?_
    exact ⟨by rw [hpl]; rfl, rfl⟩

set_option maxHeartbeats 1000000 in
theorem PRaise_C {R : Ro} {fa : Option Addr} {fc : Nat} {cf : Cv} (hvf : validB cf = true) (ha : RS R 1 encI fa cf.vals) {k : Int} (hk : 0 ≤ k ∧ k ≤ 1073741824) (w0 : World) (E : List Ent) : K.Fn Try.prog 99 [.agg #[.slice fa cf.vals.length fc, .int .i64 cf.per, .int .i64 cf.inc], .int .i64 k] w0 R E (fun r R' E' => ∃ (f : Option Addr) (fc : Nat), r = cvV f fc (raiseC cf k) ∧ RS R' 1 encI f (raiseC cf k).1.vals ∧ E.Sublist E') := by
  have hnf := norm_nrm hvf
  obtain ⟨_, f1, f2, f3, f4, f5, f6, f7⟩ := valid_range hnf.valid
  have hst := stN_lt hnf.valid
  have hd : raiseC cf k = mbuild (raiseF (normR cf) k) (max 1 (stN (normR cf))) (normR cf).per.toNat (normR cf).inc := by unfold raiseC MAXV; rw [if_neg (by rw [hvf]; simp), if_neg (by omega)]
  have hperI : (((normR cf).per.toNat : Nat) : Int) = (normR cf).per := by omega
  have hmx : (if (1 : Int) < (stN (normR cf) : Int) then (stN (normR cf) : Int) else (1 : Int)) = ((max 1 (stN (normR cf)) : Nat) : Int) := by split <;> omega
  have hpb : ∀ t : Nat, t ≤ 1000 → (raiseF (normR cf) k) t = INF ∨ (0 ≤ (raiseF (normR cf) k) t ∧ (raiseF (normR cf) k) t ≤ 1000000000000000) := fun t ht => by
    unfold raiseF
    by_cases h0 : t = 0
    · rw [if_pos h0]; right; omega
    · rw [if_neg h0]
      by_cases h : isInf (normR cf) t
      · rw [if_pos h]; exact .inl rfl
      · rw [if_neg h]
        have a1 := fin_part hnf.valid h (show t ≤ 1000000000 by omega)
        right; omega
  refine Fn.enter (n := 31) Try.func99 rfl rfl (Nat.le_of_ble_eq_true rfl) rfl ?_
  refine W.seq ?_
  refine W.region _ ?_
  refine WL.ef rfl rfl (by decide) (Ef.box rfl rfl (fun b2 => ?_))
  refine WL.ef rfl rfl (by decide) (Ef.box rfl rfl (fun b3 => ?_))
  refine WL.ef rfl rfl (by decide) (Ef.alloc tab_ok rfl rfl (fun b4 => ?_))
  refine WG.run tab_ok 1 rfl ?_
  refine WG.nil ?_
  refine WE.nxt ?_
  refine W.seq ?_
  refine W.region _ ?_
  refine' WG.y rfl rfl (by decide) (Yl.load1 tab_ok rfl rfl rfl (fun _ => rfl) ?r1 rfl ?h1) ?_
  case r1 => (first | exact Rd.ro (by assumption) | exact Rd.blk 0 rfl | exact Rd.blk 1 rfl | exact Rd.blk 2 rfl | exact Rd.blk 3 rfl | exact Rd.blk 4 rfl | exact Rd.blk 5 rfl)
  case h1 => rfl
  refine' WG.y rfl rfl (by decide) (Yl.load1 tab_ok rfl rfl rfl (fun _ => rfl) ?r2 rfl ?h2) ?_
  case r2 => (first | exact Rd.ro (by assumption) | exact Rd.blk 0 rfl | exact Rd.blk 1 rfl | exact Rd.blk 2 rfl | exact Rd.blk 3 rfl | exact Rd.blk 4 rfl | exact Rd.blk 5 rfl)
  case h2 => rfl
  refine WL.call en140 rfl rfl (by decide) (CallOp.mkT rfl rfl rfl rfl) (POne_C hvf ha (by omega) w0 _) ?_
  rintro _ R1 _ hR1 ⟨a1, c1, rfl, hx1, hsub⟩
  refine WL.subE hsub ?_
  unfold cvV
  dsimp only at hx1 ⊢
  refine WG.run tab_ok 3 rfl ?_
  refine WL.ef rfl rfl (by decide) (Ef.alloc tab_ok rfl rfl (fun b6 => ?_))
  first | refine WL.efN rfl rfl (Ef.store0 0 tab_ok rfl rfl rfl rfl rfl rfl rfl rfl ?_) | refine WL.efN rfl rfl (Ef.store0 1 tab_ok rfl rfl rfl rfl rfl rfl rfl rfl ?_) | refine WL.efN rfl rfl (Ef.store0 2 tab_ok rfl rfl rfl rfl rfl rfl rfl rfl ?_) | refine WL.efN rfl rfl (Ef.store0 3 tab_ok rfl rfl rfl rfl rfl rfl rfl rfl ?_) | refine WL.efN rfl rfl (Ef.store0 4 tab_ok rfl rfl rfl rfl rfl rfl rfl rfl ?_) | refine WL.efN rfl rfl (Ef.store0 5 tab_ok rfl rfl rfl rfl rfl rfl rfl rfl ?_)
  refine WG.run tab_ok 1 rfl ?_
  refine WG.nil ?_
  refine WE.nxt ?_
  refine W.seq ?_
  refine W.seq ?_
  refine W.region _ ?_
  refine WG.run tab_ok 2 rfl ?_
  refine WG.nil ?_
  refine WE.nxt ?_
  refine W.condN rfl (fun hc0 => ?_) (fun hc0 => ?_)
  · try dsimp only at hc0
    first | done | exact absurd rfl hc0 | (simp at hc0; done)
  · try dsimp only at hc0
    refine W.skip ?_
    refine WE.nxt ?_
    refine W.seq ?_
    refine W.region _ ?_
    refine WG.run tab_ok 2 rfl ?_
    refine WG.nil ?_
    refine WE.nxt ?_
    refine W.freezeBlk 0 rfl ?_
    intro R2 hR2 h6
    refine W.freezeBlk 1 rfl ?_
    intro R3 hR3 h3
    have h6 := hR3 _ _ h6
    have hx1 := hx1.mono (hR2.trans hR3)
    have hF : ∀ t : Nat, t < max 1 (stN (normR cf)) + (normR cf).per.toNat → FnV Try.prog 141 ((#[] : Array Value).toList ++ [.int .i64 (t : Int)] ++ (#[.pointer (some ⟨b6, 0, none⟩), .pointer (some ⟨b3, 0, none⟩)] : Array Value).toList) R3 (.int .i64 ((raiseF (normR cf) k) t)) := fun t ht => RaiseF_V hnf.valid hx1 h6 h3 hk (by omega)
    refine W.seq ?_
    refine W.regionH _ (ES := []) mixed ?_
    refine WA.take 0 rfl (by kernel_rfl) (by kernel_rfl) (by kernel_rfl) rfl rfl (by decide) (pureV_ok tab_ok rfl (fun _ => rfl)) (by (repeat (first | exact List.Sublist.refl _ | exact List.nil_sublist _ | apply List.Sublist.cons_cons | apply List.Sublist.cons)); done) (by first | exact RLe.refl _ | assumption) ?_
    refine' WA.take 1 rfl (by kernel_rfl) (by kernel_rfl) (by kernel_rfl) rfl rfl (by decide) (Yl.load1 tab_ok rfl rfl rfl (fun _ => rfl) ?r3 rfl ?h3) (by (repeat (first | exact List.Sublist.refl _ | exact List.nil_sublist _ | apply List.Sublist.cons_cons | apply List.Sublist.cons)); done) (by first | exact RLe.refl _ | assumption) ?_
    case r3 => (first | exact Rd.ro (by assumption) | exact Rd.blk 0 rfl | exact Rd.blk 1 rfl | exact Rd.blk 2 rfl | exact Rd.blk 3 rfl | exact Rd.blk 4 rfl | exact Rd.blk 5 rfl)
    case h3 => rfl
    refine WA.take 4 rfl (by kernel_rfl) (by kernel_rfl) (by kernel_rfl) rfl rfl (by decide) (pureV_ok tab_ok rfl (fun _ => rfl)) (by (repeat (first | exact List.Sublist.refl _ | exact List.nil_sublist _ | apply List.Sublist.cons_cons | apply List.Sublist.cons)); done) (by first | exact RLe.refl _ | assumption) ?_
    refine' WA.take 5 rfl (by kernel_rfl) (by kernel_rfl) (by kernel_rfl) rfl rfl (by decide) (Yl.load1 tab_ok rfl rfl rfl (fun _ => rfl) ?r4 rfl ?h4) (by (repeat (first | exact List.Sublist.refl _ | exact List.nil_sublist _ | apply List.Sublist.cons_cons | apply List.Sublist.cons)); done) (by first | exact RLe.refl _ | assumption) ?_
    case r4 => apply Rd.add; (first | exact Rd.ro (by assumption) | exact Rd.blk 0 rfl | exact Rd.blk 1 rfl | exact Rd.blk 2 rfl | exact Rd.blk 3 rfl | exact Rd.blk 4 rfl | exact Rd.blk 5 rfl)
    case h4 => rfl
    refine WA.take 6 rfl (by kernel_rfl) (by kernel_rfl) (by kernel_rfl) rfl rfl (by decide) (pureV_ok tab_ok rfl (fun _ => rfl)) (by (repeat (first | exact List.Sublist.refl _ | exact List.nil_sublist _ | apply List.Sublist.cons_cons | apply List.Sublist.cons)); done) (by first | exact RLe.refl _ | assumption) ?_
    refine' WA.take 7 rfl (by kernel_rfl) (by kernel_rfl) (by kernel_rfl) rfl rfl (by decide) (Yl.load1 tab_ok rfl rfl rfl (fun _ => rfl) ?r5 rfl ?h5) (by (repeat (first | exact List.Sublist.refl _ | exact List.nil_sublist _ | apply List.Sublist.cons_cons | apply List.Sublist.cons)); done) (by first | exact RLe.refl _ | assumption) ?_
    case r5 => apply Rd.add; (first | exact Rd.ro (by assumption) | exact Rd.blk 0 rfl | exact Rd.blk 1 rfl | exact Rd.blk 2 rfl | exact Rd.blk 3 rfl | exact Rd.blk 4 rfl | exact Rd.blk 5 rfl)
    case h5 => rfl
    refine WA.callG 2 rfl (by kernel_rfl) en143 rfl (by first | rfl | decide) rfl (by decide) (CallOp.mkT rfl rfl rfl rfl) ((WStartG_V hnf.valid hx1).toFn) ?_
    rintro _ _ _ - ⟨rfl, rfl, rfl⟩
    refine ⟨by first | exact RLe.refl _ | assumption, (by (repeat (first | exact List.Sublist.refl _ | exact List.nil_sublist _ | apply List.Sublist.cons_cons | apply List.Sublist.cons)); done), ?_⟩
    refine WA.take 3 rfl (by kernel_rfl) (by kernel_rfl) (by kernel_rfl) rfl rfl (by decide) (pureV_ok tab_ok rfl (fun _ => rfl)) (by (repeat (first | exact List.Sublist.refl _ | exact List.nil_sublist _ | apply List.Sublist.cons_cons | apply List.Sublist.cons)); done) (by first | exact RLe.refl _ | assumption) ?_
    refine WA.callG 8 rfl (by kernel_rfl) en81 rfl (by first | rfl | decide) rfl (by decide) (CallOp.mkT rfl rfl rfl rfl) (hmx ▸ hperI ▸ Build_C (S := max 1 (stN (normR cf))) (P := (normR cf).per.toNat) (F := (raiseF (normR cf) k)) en141 (by omega) (by omega) (by omega) (fun t ht => hpb t (by omega)) hF w0 _) ?_
    rintro _ R4 E4 hR4 ⟨fr, frc, rfl, hfr, hsub⟩
    refine ⟨hR4, List.nil_sublist _, ?_⟩
    refine WA.subE hsub ?_
    rw [← hd] at hfr ⊢
    unfold cvV
    refine WA.take 9 rfl (by kernel_rfl) (by kernel_rfl) (by kernel_rfl) rfl rfl (by decide) (pureV_ok tab_ok rfl (fun _ => rfl)) (by (repeat (first | exact List.Sublist.refl _ | exact List.nil_sublist _ | apply List.Sublist.cons_cons | apply List.Sublist.cons)); done) (by first | exact RLe.refl _ | assumption) ?_
    refine WA.take 10 rfl (by kernel_rfl) (by kernel_rfl) (by kernel_rfl) rfl rfl (by decide) (pureV_ok tab_ok rfl (fun _ => rfl)) (by (repeat (first | exact List.Sublist.refl _ | exact List.nil_sublist _ | apply List.Sublist.cons_cons | apply List.Sublist.cons)); done) (by first | exact RLe.refl _ | assumption) ?_
    first | refine WA.effN 11 rfl (by kernel_rfl) rfl rfl (Ef.store0 0 tab_ok rfl rfl rfl rfl rfl rfl rfl rfl ?_) | refine WA.effN 11 rfl (by kernel_rfl) rfl rfl (Ef.store0 1 tab_ok rfl rfl rfl rfl rfl rfl rfl rfl ?_) | refine WA.effN 11 rfl (by kernel_rfl) rfl rfl (Ef.store0 2 tab_ok rfl rfl rfl rfl rfl rfl rfl rfl ?_) | refine WA.effN 11 rfl (by kernel_rfl) rfl rfl (Ef.store0 3 tab_ok rfl rfl rfl rfl rfl rfl rfl rfl ?_) | refine WA.effN 11 rfl (by kernel_rfl) rfl rfl (Ef.store0 4 tab_ok rfl rfl rfl rfl rfl rfl rfl rfl ?_) | refine WA.effN 11 rfl (by kernel_rfl) rfl rfl (Ef.store0 5 tab_ok rfl rfl rfl rfl rfl rfl rfl rfl ?_)
    refine ⟨by first | exact RLe.refl _ | assumption, (by (repeat (first | exact List.Sublist.refl _ | exact List.nil_sublist _ | apply List.Sublist.cons_cons | apply List.Sublist.cons)); done), ?_⟩
    refine WA.take 12 rfl (by kernel_rfl) (by kernel_rfl) (by kernel_rfl) rfl rfl (by decide) (pureV_ok tab_ok rfl (fun _ => rfl)) (by (repeat (first | exact List.Sublist.refl _ | exact List.nil_sublist _ | apply List.Sublist.cons_cons | apply List.Sublist.cons)); done) (by first | exact RLe.refl _ | assumption) ?_
    refine WA.done (by kernel_rfl) ?_
    refine WE.nxt ?_
    refine W.ret ?_
    refine WE.retF tab_ok [_, _] rfl ⟨⟨_, _, _, rfl, rfl, rfl, ((by first | exact Rd.blk 0 rfl | exact Rd.blk 1 rfl | exact Rd.blk 2 rfl | exact Rd.blk 3 rfl | exact Rd.blk 4 rfl | exact Rd.blk 5 rfl)), rfl⟩, rfl, trivial⟩ ((by first | exact hR1.trans (hR2.trans (hR3.trans hR4)))) ?_
    exact ⟨fr, frc, rfl, hfr, (by (repeat (first | exact List.Sublist.refl _ | exact List.nil_sublist _ | apply List.Sublist.cons_cons | apply List.Sublist.cons)); done)⟩

theorem FlatF_V {R : Ro} {b1 : Nat} {k : Int} (h1 : R b1 = some [.int .i64 k]) (hk : 0 ≤ k ∧ k ≤ 1073741824) {t : Nat} (ht : t ≤ 1000000) : FnV Try.prog 160 [.int .i64 (t : Int), .pointer (some ⟨b1, 0, none⟩)] R (.int .i64 (flatF k t)) := by
  refine Fn.toV (fun w0 E => ?_)
  have hfl : k * (if (1 : Int) < (t : Int) then (1 : Int) else (t : Int)) = flatF k t := by
    unfold flatF
    by_cases h : t = 0
    · subst h; simp
    · rw [if_neg h, show (if (1 : Int) < (t : Int) then (1 : Int) else (t : Int)) = 1 by split <;> omega, Int.mul_one]
  have hfb : 0 ≤ flatF k t ∧ flatF k t ≤ 1073741824 := by unfold flatF; split <;> omega
  refine Fn.enter (n := 8) Try.func160 rfl rfl (Nat.le_of_ble_eq_true rfl) rfl ?_
  refine W.seq ?_
  refine W.region _ ?_
  refine WG.run tab_ok 1 rfl ?_
  refine WG.nil ?_
  refine WE.nxt ?_
  refine W.seq ?_
  refine W.region _ ?_
  refine' WG.y rfl rfl (by decide) (Yl.load1 tab_ok rfl rfl rfl (fun _ => rfl) ?r1 rfl ?h1) ?_
  case r1 => exact Rd.ro h1
  case h1 => rfl
  refine WG.run tab_ok 2 rfl ?_
  refine WG.y rfl rfl (by decide) (Yl.mul rfl rfl rfl (fun _ => rfl) (by intro _; constructor <;> (try dsimp only) <;> omega)) ?_
  refine WG.run tab_ok 1 rfl ?_
  refine WG.nil ?_
  refine WE.nxt ?_
  refine W.ret ?_
  refine WE.subE (E' := E) (by (repeat (first | exact List.Sublist.refl _ | exact List.nil_sublist _ | apply List.Sublist.cons_cons | apply List.Sublist.cons)); done) ?_
  refine WE.retF tab_ok [_] rfl ⟨rfl, trivial⟩ (RLe.refl _) ?_
  exact ⟨by rw [← hfl]; rfl, rfl⟩

theorem CFlat_C {R : Ro} {k : Int} (hk : 0 ≤ k ∧ k ≤ 1073741824) (w0 : World) (E : List Ent) : K.Fn Try.prog 138 [.int .i64 k] w0 R E (fun r R' E' => ∃ (f : Option Addr) (fc : Nat), r = cvV f fc (flatC k) ∧ RS R' 1 encI f (flatC k).1.vals ∧ E.Sublist E') := by
  have hd : flatC k = mbuild (flatF k) 1 1 0 := rfl
  refine Fn.enter (n := 14) Try.func138 rfl rfl (Nat.le_of_ble_eq_true rfl) rfl ?_
  refine W.seq ?_
  refine W.region _ ?_
  refine WL.ef rfl rfl (by decide) (Ef.box rfl rfl (fun b1 => ?_))
  refine WL.ef rfl rfl (by decide) (Ef.alloc tab_ok rfl rfl (fun b2 => ?_))
  refine WG.run tab_ok 1 rfl ?_
  refine WG.nil ?_
  refine WE.nxt ?_
  refine W.seq ?_
  refine W.seq ?_
  refine W.region _ ?_
  refine' WG.y rfl rfl (by decide) (Yl.load1 tab_ok rfl rfl rfl (fun _ => rfl) ?r1 rfl ?h1) ?_
  case r1 => (first | exact Rd.ro (by assumption) | exact Rd.blk 0 rfl | exact Rd.blk 1 rfl | exact Rd.blk 2 rfl | exact Rd.blk 3 rfl)
  case h1 => rfl
  refine WG.run tab_ok 1 rfl ?_
  refine WG.nil ?_
  refine WE.nxt ?_
  refine W.condD rfl (fun hc0 => ?_) (fun hc0 => ?_)
  · try dsimp only at hc0
    omega
  · try dsimp only at hc0
    refine W.skip ?_
    refine WE.nxt ?_
    refine W.seq ?_
    refine W.seq ?_
    refine W.region _ ?_
    refine' WG.y rfl rfl (by decide) (Yl.load1 tab_ok rfl rfl rfl (fun _ => rfl) ?r2 rfl ?h2) ?_
    case r2 => (first | exact Rd.ro (by assumption) | exact Rd.blk 0 rfl | exact Rd.blk 1 rfl | exact Rd.blk 2 rfl | exact Rd.blk 3 rfl)
    case h2 => rfl
    refine WG.run tab_ok 1 rfl ?_
    refine WG.nil ?_
    refine WE.nxt ?_
    refine W.condD rfl (fun hc1 => ?_) (fun hc1 => ?_)
    · try dsimp only at hc1
      omega
    · try dsimp only at hc1
      refine W.skip ?_
      refine WE.nxt ?_
      refine W.freezeBlk 1 rfl ?_
      intro R2 hR2 h1
      have hF : ∀ t : Nat, t < 1 + 1 → FnV Try.prog 160 ((#[] : Array Value).toList ++ [.int .i64 (t : Int)] ++ (#[.pointer (some ⟨b1, 0, none⟩)] : Array Value).toList) R2 (.int .i64 (flatF k t)) := fun t ht => FlatF_V h1 hk (by omega)
      refine W.seq ?_
      refine W.region _ ?_
      refine WG.run tab_ok 1 rfl ?_
      refine WL.call en81 rfl rfl (by decide) (CallOp.mkT rfl rfl rfl rfl) (Build_C (S := 1) (P := 1) (F := flatF k) en160 (by omega) (by omega) (by omega) (fun t ht => .inr (flatF_bound hk t)) hF w0 _) ?_
      rintro _ R4 E4 hR4 ⟨fr, frc, rfl, hfr, hsub⟩
      refine WL.subE hsub ?_
      rw [← hd] at hfr ⊢
      unfold cvV
      refine WG.run tab_ok 2 rfl ?_
      first | refine WL.efN rfl rfl (Ef.store0 0 tab_ok rfl rfl rfl rfl rfl rfl rfl rfl ?_) | refine WL.efN rfl rfl (Ef.store0 1 tab_ok rfl rfl rfl rfl rfl rfl rfl rfl ?_) | refine WL.efN rfl rfl (Ef.store0 2 tab_ok rfl rfl rfl rfl rfl rfl rfl rfl ?_) | refine WL.efN rfl rfl (Ef.store0 3 tab_ok rfl rfl rfl rfl rfl rfl rfl rfl ?_)
      refine WG.run tab_ok 1 rfl ?_
      refine WG.nil ?_
      refine WE.nxt ?_
      refine W.ret ?_
      refine WE.retF tab_ok [_, _] rfl ⟨⟨_, _, _, rfl, rfl, rfl, ((by first | exact Rd.blk 0 rfl | exact Rd.blk 1 rfl | exact Rd.blk 2 rfl | exact Rd.blk 3 rfl)), rfl⟩, rfl, trivial⟩ (hR2.trans hR4) ?_
      exact ⟨fr, frc, rfl, hfr, (by (repeat (first | exact List.Sublist.refl _ | exact List.nil_sublist _ | apply List.Sublist.cons_cons | apply List.Sublist.cons)); done)⟩

set_option maxHeartbeats 1000000 in
theorem PTotal_C {R : Ro} {la : Option Addr} {lc : Nat} {ls : List CvS} (hla : RS R 3 encC la ls) (hls : ∀ x ∈ ls, RS R 1 encI x.a x.cv.vals ∧ validB x.cv = true) (w0 : World) (E : List Ent) : K.Fn Try.prog 98 [.slice la ls.length lc] w0 R E (fun r R' E' => ∃ (f : Option Addr) (fc : Nat), r = cvV f fc (totalC (ls.map CvS.cv)) ∧ RS R' 1 encI f (totalC (ls.map CvS.cv)).1.vals ∧ E.Sublist E') := by
  have hll := hla.len
  have hz0 : flatC 0 = (zeroC, 0) := flat_zero
  refine Fn.enter (n := 31) Try.func98 rfl rfl (Nat.le_of_ble_eq_true rfl) rfl ?_
  refine W.seq ?_
  refine W.region _ ?_
  refine WL.ef rfl rfl (by decide) (Ef.alloc tab_ok rfl rfl (fun b2 => ?_))
  refine WG.run tab_ok 1 rfl ?_
  refine WG.nil ?_
  refine WE.nxt ?_
  refine W.seq ?_
  refine W.region _ ?_
  refine WL.call en138 rfl rfl (by decide) (CallOp.mkT rfl rfl rfl rfl) (CFlat_C (k := 0) (by decide) w0 _) ?_
  rintro _ R1 _ hR1 ⟨fz, fzc, rfl, hfz, hsub⟩
  refine WL.subE hsub ?_
  rw [hz0] at hfz ⊢
  unfold cvV
  dsimp only at hfz ⊢
  refine WG.run tab_ok 3 rfl ?_
  refine WL.ef rfl rfl (by decide) (Ef.alloc tab_ok rfl rfl (fun b4 => ?_))
  first | refine WL.efN rfl rfl (Ef.store0 0 tab_ok rfl rfl rfl rfl rfl rfl rfl rfl ?_) | refine WL.efN rfl rfl (Ef.store0 1 tab_ok rfl rfl rfl rfl rfl rfl rfl rfl ?_) | refine WL.efN rfl rfl (Ef.store0 2 tab_ok rfl rfl rfl rfl rfl rfl rfl rfl ?_) | refine WL.efN rfl rfl (Ef.store0 3 tab_ok rfl rfl rfl rfl rfl rfl rfl rfl ?_) | refine WL.efN rfl rfl (Ef.store0 4 tab_ok rfl rfl rfl rfl rfl rfl rfl rfl ?_) | refine WL.efN rfl rfl (Ef.store0 5 tab_ok rfl rfl rfl rfl rfl rfl rfl rfl ?_)
  refine WG.run tab_ok 1 rfl ?_
  refine WG.nil ?_
  refine WE.nxt ?_
  refine W.seq ?_
  refine W.seq ?_
  refine W.region _ ?_
  refine WG.run tab_ok 3 rfl ?_
  refine WG.nil ?_
  refine WE.nxt ?_
  refine W.block ?_
  refine W.loopR (β := Nat × Cv × Option Addr × Nat × Ro) (fun (i, s, sa, sc, Rk) => i ≤ ls.length ∧ RLe R1 Rk ∧ Nrm s ∧ RS Rk 1 encI sa s.vals ∧ totalC (ls.map CvS.cv) = totalGo s ((ls.map CvS.cv).drop i)) (fun (i, s, sa, sc, Rk) => [(5, true, .int .i64 0), (14, true, .int .i64 (i : Int))]) [2, 4, 12, 13] [_, _, _, _] [] _ rfl (fun (i, s, sa, sc, Rk) => [(0, .blk b4 [.slice sa s.vals.length sc, .int .i64 s.per, .int .i64 s.inc])]) (fun (i, s, sa, sc, Rk) => Rk) (fun (i, s, sa, sc, Rk) => ls.length - i) ((0, zeroC, fz, fzc, R1)) (⟨Nat.zero_le _, RLe.refl _, zero_nrm, hfz, rfl⟩) ⟨rfl, rfl, rfl, rfl, rfl, rfl, rfl⟩ (RLe.refl _) (by (repeat (first | exact List.Sublist.refl _ | exact List.nil_sublist _ | apply List.Sublist.cons_cons | apply List.Sublist.cons)); done) ?_
  intro zz hst
  obtain ⟨i, s, sa, sc, Rk⟩ := zz
  dsimp only [zipE, setAll, List.cons_append, List.nil_append, List.set_cons_zero, List.set_cons_succ] at hst ⊢
  obtain ⟨hi, hRk, hns, hsa, htot⟩ := hst
  have hla := hla.mono (hR1.trans hRk)
  refine W.seq ?_
  refine W.region _ ?_
  refine WG.run tab_ok 1 rfl ?_
  refine WG.nil ?_
  refine WE.nxt ?_
  refine W.seq ?_
  refine W.condD rfl (fun hc0 => ?_) (fun hc0 => ?_)
  · try dsimp only at hc0
    have hil : i < ls.length := by omega
    have hxi := hls _ (nth_mem hil)
    have hvx := hxi.2
    have hxa := hxi.1.mono (hR1.trans hRk)
    refine W.skip ?_
    refine WE.nxt ?_
    refine W.seq ?_
    refine W.block ?_
    refine W.seq ?_
    refine W.region _ ?_
    refine WG.y rfl rfl (by decide) (Yl.indexN tab_ok rfl rfl rfl rfl rfl rfl (fun _ => rfl) (by intro _; (try dsimp only) <;> omega) (by intro _; first | exact fun _ _ _ _ => rfl | exact RS.has (by assumption) | exact fun _ _ _ _ => (by assumption) | exact HasMem.ownD 0 rfl | exact HasMem.ownD 1 rfl | exact HasMem.ownD 2 rfl | exact HasMem.ownD 3 rfl | exact HasMem.ownD 4 rfl | exact HasMem.ownD 5 rfl)) ?_
    refine' WG.y rfl rfl (by decide) (Yl.load1 tab_ok rfl rfl rfl (fun _ => rfl) ?r1 rfl ?h1) ?_
    case r1 => (first | (apply RS.rdD; assumption; ((try dsimp only) <;> omega)) | exact Rd.slD 0 rfl (by (try dsimp only) <;> omega) | exact Rd.slD 1 rfl (by (try dsimp only) <;> omega) | exact Rd.slD 2 rfl (by (try dsimp only) <;> omega) | exact Rd.slD 3 rfl (by (try dsimp only) <;> omega) | exact Rd.slD 4 rfl (by (try dsimp only) <;> omega) | exact Rd.slD 5 rfl (by (try dsimp only) <;> omega))
    case h1 => rfl
    refine WL.ef rfl rfl (by decide) (Ef.alloc tab_ok rfl rfl (fun b7 => ?_))
    first | refine WL.efN rfl rfl (Ef.store0 0 tab_ok rfl rfl rfl rfl rfl rfl rfl rfl ?_) | refine WL.efN rfl rfl (Ef.store0 1 tab_ok rfl rfl rfl rfl rfl rfl rfl rfl ?_) | refine WL.efN rfl rfl (Ef.store0 2 tab_ok rfl rfl rfl rfl rfl rfl rfl rfl ?_) | refine WL.efN rfl rfl (Ef.store0 3 tab_ok rfl rfl rfl rfl rfl rfl rfl rfl ?_) | refine WL.efN rfl rfl (Ef.store0 4 tab_ok rfl rfl rfl rfl rfl rfl rfl rfl ?_) | refine WL.efN rfl rfl (Ef.store0 5 tab_ok rfl rfl rfl rfl rfl rfl rfl rfl ?_)
    refine WG.nil ?_
    refine WE.nxt ?_
    refine W.seq ?_
    refine W.region _ ?_
    refine' WG.y rfl rfl (by decide) (Yl.load1 tab_ok rfl rfl rfl (fun _ => rfl) ?r2 rfl ?h2) ?_
    case r2 => (first | exact Rd.blk 0 rfl | exact Rd.blk 1 rfl | exact Rd.blk 2 rfl | exact Rd.blk 3 rfl | exact Rd.blk 4 rfl | exact Rd.blk 5 rfl)
    case h2 => rfl
    refine' WG.y rfl rfl (by decide) (Yl.load1 tab_ok rfl rfl rfl (fun _ => rfl) ?r3 rfl ?h3) ?_
    case r3 => (first | exact Rd.blk 0 rfl | exact Rd.blk 1 rfl | exact Rd.blk 2 rfl | exact Rd.blk 3 rfl | exact Rd.blk 4 rfl | exact Rd.blk 5 rfl)
    case h3 => rfl
    refine WL.call en139 rfl rfl (by decide) (CallOp.mkT rfl rfl rfl rfl) (PSum_C hns.valid hsa hvx hxa w0 _) ?_
    rintro _ R2 _ hR2 ⟨fr, frc, rfl, hfr, hsub⟩
    refine WL.subE hsub ?_
    unfold cvV
    have hgo : totalC (ls.map CvS.cv) = if (sumC s (nth ls i).cv).2 ≠ 0 then (zcv, (sumC s (nth ls i).cv).2) else totalGo (sumC s (nth ls i).cv).1 ((ls.map CvS.cv).drop (i + 1)) := by
      rw [htot, drop_map_cons hil]
      rfl
    have hsr := sum_res hns.valid hvx
    generalize sumC s (nth ls i).cv = sr at hfr hgo hsr ⊢
    obtain ⟨sv, se⟩ := sr
    dsimp only at hfr hgo hsr ⊢
    refine WG.run tab_ok 3 rfl ?_
    first | refine WL.efN rfl rfl (Ef.store0 0 tab_ok rfl rfl rfl rfl rfl rfl rfl rfl ?_) | refine WL.efN rfl rfl (Ef.store0 1 tab_ok rfl rfl rfl rfl rfl rfl rfl rfl ?_) | refine WL.efN rfl rfl (Ef.store0 2 tab_ok rfl rfl rfl rfl rfl rfl rfl rfl ?_) | refine WL.efN rfl rfl (Ef.store0 3 tab_ok rfl rfl rfl rfl rfl rfl rfl rfl ?_) | refine WL.efN rfl rfl (Ef.store0 4 tab_ok rfl rfl rfl rfl rfl rfl rfl rfl ?_) | refine WL.efN rfl rfl (Ef.store0 5 tab_ok rfl rfl rfl rfl rfl rfl rfl rfl ?_)
    refine WG.run tab_ok 1 rfl ?_
    refine WG.nil ?_
    refine WE.nxt ?_
    refine W.seq ?_
    refine W.region _ ?_
    refine WG.run tab_ok 2 rfl ?_
    refine WG.nil ?_
    refine WE.nxt ?_
    refine W.condN rfl (fun hc1 => ?_) (fun hc1 => ?_)
    · try dsimp only at hc1
      have hd : totalC (ls.map CvS.cv) = (zcv, se) := by rw [hgo, if_pos hc1]
      refine W.seq ?_
      refine W.region _ ?_
      -- build
      refine WG.y rfl rfl (by decide) (Yl.build (parts := []) tab_ok rfl rfl rfl rfl (fun _ => rfl) rfl rfl) ?_
      refine WG.run tab_ok 1 rfl ?_
      first | refine WL.efN rfl rfl (Ef.store0 0 tab_ok rfl rfl rfl rfl rfl rfl rfl rfl ?_) | refine WL.efN rfl rfl (Ef.store0 1 tab_ok rfl rfl rfl rfl rfl rfl rfl rfl ?_) | refine WL.efN rfl rfl (Ef.store0 2 tab_ok rfl rfl rfl rfl rfl rfl rfl rfl ?_) | refine WL.efN rfl rfl (Ef.store0 3 tab_ok rfl rfl rfl rfl rfl rfl rfl rfl ?_) | refine WL.efN rfl rfl (Ef.store0 4 tab_ok rfl rfl rfl rfl rfl rfl rfl rfl ?_) | refine WL.efN rfl rfl (Ef.store0 5 tab_ok rfl rfl rfl rfl rfl rfl rfl rfl ?_)
      refine WG.run tab_ok 1 rfl ?_
      refine WG.nil ?_
      refine WE.nxt ?_
      refine W.ret ?_
      refine WE.blk_ret ?_
      refine WE.then_ret ?_
      refine WE.then_ret ?_
      refine WE.blk_ret ?_
      refine WE.then_ret ?_
      refine WE.retF tab_ok [_, _] rfl ⟨⟨_, _, _, rfl, rfl, rfl, ((by first | exact Rd.blk 0 rfl | exact Rd.blk 1 rfl | exact Rd.blk 2 rfl | exact Rd.blk 3 rfl | exact Rd.blk 4 rfl | exact Rd.blk 5 rfl)), rfl⟩, rfl, trivial⟩ ((by first | exact hR1.trans (hRk.trans hR2) | exact hR1.trans hRk)) ?_
      exact ⟨none, 0, by rw [hd]; rfl, by rw [hd]; exact rs_nil, (by (repeat (first | exact List.Sublist.refl _ | exact List.nil_sublist _ | apply List.Sublist.cons_cons | apply List.Sublist.cons)); done)⟩
    · try dsimp only at hc1
      have hd2 : totalC (ls.map CvS.cv) = totalGo sv ((ls.map CvS.cv).drop (i + 1)) := by rw [hgo, if_neg (fun h => h hc1)]
      obtain ⟨rfl, hnsv⟩ : se = 0 ∧ Nrm sv := by
        rcases hsr with h | ⟨c, h1, h2, _⟩
        · have := congrArg Prod.snd h; dsimp only at this; omega
        · have e1 := congrArg Prod.fst h1
          have e2 := congrArg Prod.snd h1
          dsimp only at e1 e2
          exact ⟨e2, by rw [e1]; exact h2⟩
      refine W.skip ?_
      refine WE.blk _ ?_
      refine WE.nxt ?_
      refine W.region _ ?_
      refine WG.y rfl rfl (by decide) (Yl.add rfl rfl rfl (fun _ => rfl) (by intro _; constructor <;> (try dsimp only) <;> omega)) ?_
      refine WG.run tab_ok 1 rfl ?_
      refine WG.nil ?_
      refine WE.again ((i + 1, sv, fr, frc, R2)) (⟨by dsimp only; omega, hRk.trans hR2, hnsv, hfr, hd2⟩) (by (try dsimp only); omega) ⟨rfl, rfl, rfl, rfl, rfl, rfl, rfl⟩ (RLe.refl _) (by (repeat (first | exact List.Sublist.refl _ | exact List.nil_sublist _ | apply List.Sublist.cons_cons | apply List.Sublist.cons)); done)
  · try dsimp only at hc0
    obtain rfl : i = ls.length := by omega
    have hd : totalC (ls.map CvS.cv) = (s, 0) := by rw [htot, List.drop_eq_nil_of_le (by simp)]; rfl
    refine W.exit ?_
    refine WE.then_exit ?_
    refine WE.then_exit ?_
    refine WE.blk_exit ?_
    refine WE.nxt ?_
    refine W.seq ?_
    refine W.region _ ?_
    refine' WG.y rfl rfl (by decide) (Yl.load1 tab_ok rfl rfl rfl (fun _ => rfl) ?r4 rfl ?h4) ?_
    case r4 => (first | exact Rd.blk 0 rfl | exact Rd.blk 1 rfl | exact Rd.blk 2 rfl | exact Rd.blk 3 rfl | exact Rd.blk 4 rfl | exact Rd.blk 5 rfl)
    case h4 => rfl
    refine WG.run tab_ok 1 rfl ?_
    first | refine WL.efN rfl rfl (Ef.store0 0 tab_ok rfl rfl rfl rfl rfl rfl rfl rfl ?_) | refine WL.efN rfl rfl (Ef.store0 1 tab_ok rfl rfl rfl rfl rfl rfl rfl rfl ?_) | refine WL.efN rfl rfl (Ef.store0 2 tab_ok rfl rfl rfl rfl rfl rfl rfl rfl ?_) | refine WL.efN rfl rfl (Ef.store0 3 tab_ok rfl rfl rfl rfl rfl rfl rfl rfl ?_) | refine WL.efN rfl rfl (Ef.store0 4 tab_ok rfl rfl rfl rfl rfl rfl rfl rfl ?_) | refine WL.efN rfl rfl (Ef.store0 5 tab_ok rfl rfl rfl rfl rfl rfl rfl rfl ?_)
    refine WG.run tab_ok 1 rfl ?_
    refine WG.nil ?_
    refine WE.nxt ?_
    refine W.ret ?_
    refine WE.retF tab_ok [_, _] rfl ⟨⟨_, _, _, rfl, rfl, rfl, ((by first | exact Rd.blk 0 rfl | exact Rd.blk 1 rfl | exact Rd.blk 2 rfl | exact Rd.blk 3 rfl | exact Rd.blk 4 rfl | exact Rd.blk 5 rfl)), rfl⟩, rfl, trivial⟩ ((by first | exact hR1.trans (hRk.trans hR2) | exact hR1.trans hRk)) ?_
    exact ⟨sa, sc, by rw [hd]; rfl, by rw [hd]; exact hsa, (by (repeat (first | exact List.Sublist.refl _ | exact List.nil_sublist _ | apply List.Sublist.cons_cons | apply List.Sublist.cons)); done)⟩

end Go.Proofs.Ytnaeefefggmomaa

/- What a curve leaves of a line. No condition. -/
set_option linter.unusedSimpArgs false
set_option linter.unusedVariables false
namespace Go.Proofs.Ytnaeefefggmomaa
open Go Go.RowKit Go.Proofs.Ytnaeefefggmomaa.K Go.Proofs.Ytnaeefefggmomaa.M

theorem ComOne_V {R : Ro} {P2 : Nat} {p : Int} (hp : p = (P2 : Int)) (hb : 0 < P2 ∧ P2 ≤ 1000) : FnV Try.prog 154 [.int .i64 1, .int .i64 p] R (.int .i64 p) := by
  subst hp
  have h := Common_V (R := R) (a := 1) (b := P2) (by omega) (by omega)
  rw [show 1 / Nat.gcd 1 P2 * P2 = P2 by rw [Nat.gcd_one_left]; simp] at h
  exact h

set_option maxHeartbeats 1000000 in
theorem RBoth_C {R : Ro} {la : Option Addr} {lc : Nat} {cap : Int} (hcap : 1 ≤ cap ∧ cap ≤ 4000) (hla : RS R 1 encI la (lineC cap).vals) {ga : Option Addr} {gc : Nat} {cg : Cv} (hvg : validB cg = true) (hb : RS R 1 encI ga cg.vals) (w0 : World) (E : List Ent) : K.Fn Try.prog 144 [.agg #[.slice la (lineC cap).vals.length lc, .int .i64 (lineC cap).per, .int .i64 (lineC cap).inc], .agg #[.slice ga cg.vals.length gc, .int .i64 cg.per, .int .i64 cg.inc]] w0 R E (fun v R' E' => ∃ (a1 a2 : Option Addr) (c1 c2 : Nat), v = .tuple #[.agg #[.slice a1 (lineC cap).vals.length c1, .int .i64 (lineC cap).per, .int .i64 (lineC cap).inc, .slice a2 (normR cg).vals.length c2, .int .i64 (normR cg).per, .int .i64 (normR cg).inc, .int .i64 (stN (normR cg) : Int), .int .i64 (normR cg).per, .int .i64 (driftL cap (normR cg))], .int .i64 0] ∧ RS R' 1 encI a1 (lineC cap).vals ∧ RS R' 1 encI a2 (normR cg).vals ∧ E.Sublist E') := by
  obtain ⟨hln, hlcv, hlf, hls⟩ := line_facts (cap := cap) (by omega)
  have hlnn : normR (lineC cap) = lineC cap := hln.norm
  have hng := norm_nrm hvg
  obtain ⟨_, g1, g2, g3, g4, g5, g6, g7⟩ := valid_range hng.valid
  have hst := stN_lt hng.valid
  obtain ⟨P2, hP2⟩ := Int.eq_ofNat_of_zero_le (show 0 ≤ (normR cg).per by omega)
  have hmx : (if (stN (lineC cap) : Int) < (stN (normR cg) : Int) then (stN (normR cg) : Int) else (stN (lineC cap) : Int)) = (stN (normR cg) : Int) := by rw [hls]; split <;> omega
  have hcom : ((1 / Nat.gcd 1 P2 * P2 : Nat) : Int) = (normR cg).per := by rw [hP2, Nat.gcd_one_left]; simp
  have hmul := mulB (a := (normR cg).per) (b := cap) (A := 120) (B := 4000) (by omega) (by omega)
  have hdv : (normR cg).per / (normR cg).per = 1 := Int.ediv_self (by omega)
  have hlp : (lineC cap).per = 1 := rfl
  have hli : (lineC cap).inc = cap := rfl
  have hdr : (normR cg).per / (lineC cap).per * (lineC cap).inc - (normR cg).per / (normR cg).per * (normR cg).inc = driftL cap (normR cg) := by rw [hdv, hlp, hli, Int.ediv_one, Int.one_mul]; rfl
  have ha1 : (normR cg).per / (lineC cap).per * (lineC cap).inc = (normR cg).per * cap := by rw [hlp, hli, Int.ediv_one]
  have ha2 : (normR cg).per / (normR cg).per * (normR cg).inc = (normR cg).inc := by rw [hdv, Int.one_mul]
  have ha0 : 0 ≤ (normR cg).per / (lineC cap).per ∧ (normR cg).per / (lineC cap).per ≤ 120 := by rw [hlp, Int.ediv_one]; omega
  refine Fn.enter (n := 64) Try.func144 rfl rfl (Nat.le_of_ble_eq_true rfl) rfl ?_
  refine W.seq ?_
  refine W.region _ ?_
  refine WL.ef rfl rfl (by decide) (Ef.box rfl rfl (fun b2 => ?_))
  refine WL.ef rfl rfl (by decide) (Ef.box rfl rfl (fun b3 => ?_))
  refine WL.ef rfl rfl (by decide) (Ef.alloc tab_ok rfl rfl (fun b4 => ?_))
  refine WG.run tab_ok 1 rfl ?_
  refine WG.nil ?_
  refine WE.nxt ?_
  refine W.seq ?_
  refine W.region _ ?_
  refine' WG.y rfl rfl (by decide) (Yl.load1 tab_ok rfl rfl rfl (fun _ => rfl) ?r1 rfl ?h1) ?_
  case r1 => (first | exact Rd.blk 0 rfl | exact Rd.blk 1 rfl | exact Rd.blk 2 rfl | exact Rd.blk 3 rfl | exact Rd.blk 4 rfl | exact Rd.blk 5 rfl | exact Rd.blk 6 rfl)
  case h1 => rfl
  refine WL.call en153 rfl rfl (by decide) (CallOp.mkT rfl rfl rfl rfl) (CNormalV_C hln.valid hla w0 _) ?_
  rintro _ R1 _ hR1 ⟨fa1x, ca1x, rfl, ha1x, hsub⟩
  refine WL.subE hsub ?_
  unfold cvV
  rw [hlnn] at ha1x ⊢
  dsimp only at ha1x ⊢
  have hb := hb.mono hR1
  refine WG.run tab_ok 3 rfl ?_
  refine WL.ef rfl rfl (by decide) (Ef.alloc tab_ok rfl rfl (fun b6 => ?_))
  first | refine WL.efN rfl rfl (Ef.store0 0 tab_ok rfl rfl rfl rfl rfl rfl rfl rfl ?_) | refine WL.efN rfl rfl (Ef.store0 1 tab_ok rfl rfl rfl rfl rfl rfl rfl rfl ?_) | refine WL.efN rfl rfl (Ef.store0 2 tab_ok rfl rfl rfl rfl rfl rfl rfl rfl ?_) | refine WL.efN rfl rfl (Ef.store0 3 tab_ok rfl rfl rfl rfl rfl rfl rfl rfl ?_) | refine WL.efN rfl rfl (Ef.store0 4 tab_ok rfl rfl rfl rfl rfl rfl rfl rfl ?_) | refine WL.efN rfl rfl (Ef.store0 5 tab_ok rfl rfl rfl rfl rfl rfl rfl rfl ?_) | refine WL.efN rfl rfl (Ef.store0 6 tab_ok rfl rfl rfl rfl rfl rfl rfl rfl ?_)
  refine WG.run tab_ok 1 rfl ?_
  refine WG.nil ?_
  refine WE.nxt ?_
  refine W.seq ?_
  refine W.seq ?_
  refine W.region _ ?_
  refine WG.run tab_ok 2 rfl ?_
  refine WG.nil ?_
  refine WE.nxt ?_
  refine W.condN rfl (fun hc0 => ?_) (fun hc0 => ?_)
  · try dsimp only at hc0
    first | done | exact absurd rfl hc0 | (simp at hc0; done)
  · try dsimp only at hc0
    refine W.skip ?_
    refine WE.nxt ?_
    refine W.seq ?_
    refine W.region _ ?_
    refine' WG.y rfl rfl (by decide) (Yl.load1 tab_ok rfl rfl rfl (fun _ => rfl) ?r2 rfl ?h2) ?_
    case r2 => (first | exact Rd.blk 0 rfl | exact Rd.blk 1 rfl | exact Rd.blk 2 rfl | exact Rd.blk 3 rfl | exact Rd.blk 4 rfl | exact Rd.blk 5 rfl | exact Rd.blk 6 rfl)
    case h2 => rfl
    refine WL.call en153 rfl rfl (by decide) (CallOp.mkT rfl rfl rfl rfl) (CNormalV_C hvg hb w0 _) ?_
    rintro _ R2 _ hR2 ⟨fa2x, ca2x, rfl, ha2x, hsub⟩
    refine WL.subE hsub ?_
    unfold cvV
    dsimp only at ha2x ⊢
    have ha1x := ha1x.mono hR2
    refine WG.run tab_ok 3 rfl ?_
    refine WL.ef rfl rfl (by decide) (Ef.alloc tab_ok rfl rfl (fun b8 => ?_))
    first | refine WL.efN rfl rfl (Ef.store0 0 tab_ok rfl rfl rfl rfl rfl rfl rfl rfl ?_) | refine WL.efN rfl rfl (Ef.store0 1 tab_ok rfl rfl rfl rfl rfl rfl rfl rfl ?_) | refine WL.efN rfl rfl (Ef.store0 2 tab_ok rfl rfl rfl rfl rfl rfl rfl rfl ?_) | refine WL.efN rfl rfl (Ef.store0 3 tab_ok rfl rfl rfl rfl rfl rfl rfl rfl ?_) | refine WL.efN rfl rfl (Ef.store0 4 tab_ok rfl rfl rfl rfl rfl rfl rfl rfl ?_) | refine WL.efN rfl rfl (Ef.store0 5 tab_ok rfl rfl rfl rfl rfl rfl rfl rfl ?_) | refine WL.efN rfl rfl (Ef.store0 6 tab_ok rfl rfl rfl rfl rfl rfl rfl rfl ?_)
    refine WG.run tab_ok 1 rfl ?_
    refine WG.nil ?_
    refine WE.nxt ?_
    refine W.seq ?_
    refine W.seq ?_
    refine W.region _ ?_
    refine WG.run tab_ok 2 rfl ?_
    refine WG.nil ?_
    refine WE.nxt ?_
    refine W.condN rfl (fun hc1 => ?_) (fun hc1 => ?_)
    · try dsimp only at hc1
      first | done | exact absurd rfl hc1 | (simp at hc1; done)
    · try dsimp only at hc1
      refine W.skip ?_
      refine WE.nxt ?_
      refine W.seqCut (β := Nat) (fun b9 => True) (fun b9 => [(4, true, .pointer (some ⟨b4, 0, none⟩)), (6, true, .pointer (some ⟨b6, 0, none⟩)), (8, true, .pointer (some ⟨b8, 0, none⟩)), (9, true, .pointer (some ⟨b9, 0, none⟩))]) (fun _ => R2) (fun b9 => .blk b9 [.slice fa1x (lineC cap).vals.length ca1x, .int .i64 (lineC cap).per, .int .i64 (lineC cap).inc, .slice fa2x (normR cg).vals.length ca2x, .int .i64 (normR cg).per, .int .i64 (normR cg).inc, .int .i64 (stN (normR cg) : Int), .int .i64 (normR cg).per, .int .i64 0] :: .blk b8 [.slice fa2x (normR cg).vals.length ca2x, .int .i64 (normR cg).per, .int .i64 (normR cg).inc] :: .blk b6 [.slice fa1x (lineC cap).vals.length ca1x, .int .i64 (lineC cap).per, .int .i64 (lineC cap).inc] :: .blk b4 [.slice none 0 0, .int .i64 0, .int .i64 0, .slice none 0 0, .int .i64 0, .int .i64 0, .int .i64 0, .int .i64 0, .int .i64 0] :: E) ?_ ?_
      ·
        intro b9 hst
        
        refine W.seq ?_
        refine W.seq ?_
        refine W.region _ ?_
        refine WG.run tab_ok 1 rfl ?_
        refine' WG.y rfl rfl (by decide) (Yl.load1 tab_ok rfl rfl rfl (fun _ => rfl) ?r3 rfl ?h3) ?_
        case r3 => apply Rd.add; (first | exact Rd.blk 0 rfl | exact Rd.blk 1 rfl | exact Rd.blk 2 rfl | exact Rd.blk 3 rfl | exact Rd.blk 4 rfl | exact Rd.blk 5 rfl | exact Rd.blk 6 rfl | (apply RS.rdD; assumption; ((try dsimp only) <;> omega)) | exact Rd.slD 0 rfl (by (try dsimp only) <;> omega) | exact Rd.slD 1 rfl (by (try dsimp only) <;> omega) | exact Rd.slD 2 rfl (by (try dsimp only) <;> omega) | exact Rd.slD 3 rfl (by (try dsimp only) <;> omega) | exact Rd.slD 4 rfl (by (try dsimp only) <;> omega) | exact Rd.slD 5 rfl (by (try dsimp only) <;> omega) | exact Rd.slD 6 rfl (by (try dsimp only) <;> omega))
        case h3 => rfl
        refine WG.run tab_ok 1 rfl ?_
        refine WG.nil ?_
        refine WE.nxt ?_
        refine W.condD rfl (fun hc2 => ?_) (fun hc2 => ?_)
        · try dsimp only at hc2
          omega
        · try dsimp only at hc2
          refine W.skip ?_
          refine WE.nxt ?_
          refine W.seq ?_
          refine W.regionH _ (ES := [.blk b8 [.slice fa2x (normR cg).vals.length ca2x, .int .i64 (normR cg).per, .int .i64 (normR cg).inc], .blk b6 [.slice fa1x (lineC cap).vals.length ca1x, .int .i64 (lineC cap).per, .int .i64 (lineC cap).inc]]) mixed ?_
          refine WA.take 0 rfl (by kernel_rfl) (by kernel_rfl) (by kernel_rfl) rfl rfl (by decide) (pureV_ok tab_ok rfl (fun _ => rfl)) (by (repeat (first | exact List.Sublist.refl _ | exact List.nil_sublist _ | apply List.Sublist.cons_cons | apply List.Sublist.cons)); done) (by first | exact RLe.refl _ | assumption) ?_
          refine WA.take 2 rfl (by kernel_rfl) (by kernel_rfl) (by kernel_rfl) rfl rfl (by decide) (pureV_ok tab_ok rfl (fun _ => rfl)) (by (repeat (first | exact List.Sublist.refl _ | exact List.nil_sublist _ | apply List.Sublist.cons_cons | apply List.Sublist.cons)); done) (by first | exact RLe.refl _ | assumption) ?_
          refine' WA.take 3 rfl (by kernel_rfl) (by kernel_rfl) (by kernel_rfl) rfl rfl (by decide) (Yl.load1 tab_ok rfl rfl rfl (fun _ => rfl) ?r4 rfl ?h4) (by (repeat (first | exact List.Sublist.refl _ | exact List.nil_sublist _ | apply List.Sublist.cons_cons | apply List.Sublist.cons)); done) (by first | exact RLe.refl _ | assumption) ?_
          case r4 => apply Rd.add; (first | exact Rd.blk 0 rfl | exact Rd.blk 1 rfl | exact Rd.blk 2 rfl | exact Rd.blk 3 rfl | exact Rd.blk 4 rfl | exact Rd.blk 5 rfl | exact Rd.blk 6 rfl)
          case h4 => rfl
          refine WA.take 5 rfl (by kernel_rfl) (by kernel_rfl) (by kernel_rfl) rfl rfl (by decide) (pureV_ok tab_ok rfl (fun _ => rfl)) (by (repeat (first | exact List.Sublist.refl _ | exact List.nil_sublist _ | apply List.Sublist.cons_cons | apply List.Sublist.cons)); done) (by first | exact RLe.refl _ | assumption) ?_
          refine' WA.take 6 rfl (by kernel_rfl) (by kernel_rfl) (by kernel_rfl) rfl rfl (by decide) (Yl.load1 tab_ok rfl rfl rfl (fun _ => rfl) ?r5 rfl ?h5) (by (repeat (first | exact List.Sublist.refl _ | exact List.nil_sublist _ | apply List.Sublist.cons_cons | apply List.Sublist.cons)); done) (by first | exact RLe.refl _ | assumption) ?_
          case r5 => apply Rd.add; (first | exact Rd.blk 0 rfl | exact Rd.blk 1 rfl | exact Rd.blk 2 rfl | exact Rd.blk 3 rfl | exact Rd.blk 4 rfl | exact Rd.blk 5 rfl | exact Rd.blk 6 rfl)
          case h5 => rfl
          refine WA.take 8 rfl (by kernel_rfl) (by kernel_rfl) (by kernel_rfl) rfl rfl (by decide) (pureV_ok tab_ok rfl (fun _ => rfl)) (by (repeat (first | exact List.Sublist.refl _ | exact List.nil_sublist _ | apply List.Sublist.cons_cons | apply List.Sublist.cons)); done) (by first | exact RLe.refl _ | assumption) ?_
          refine WA.take 10 rfl (by kernel_rfl) (by kernel_rfl) (by kernel_rfl) rfl rfl (by decide) (pureV_ok tab_ok rfl (fun _ => rfl)) (by (repeat (first | exact List.Sublist.refl _ | exact List.nil_sublist _ | apply List.Sublist.cons_cons | apply List.Sublist.cons)); done) (by first | exact RLe.refl _ | assumption) ?_
          refine' WA.take 11 rfl (by kernel_rfl) (by kernel_rfl) (by kernel_rfl) rfl rfl (by decide) (Yl.load1 tab_ok rfl rfl rfl (fun _ => rfl) ?r6 rfl ?h6) (by (repeat (first | exact List.Sublist.refl _ | exact List.nil_sublist _ | apply List.Sublist.cons_cons | apply List.Sublist.cons)); done) (by first | exact RLe.refl _ | assumption) ?_
          case r6 => apply Rd.add; (first | exact Rd.blk 0 rfl | exact Rd.blk 1 rfl | exact Rd.blk 2 rfl | exact Rd.blk 3 rfl | exact Rd.blk 4 rfl | exact Rd.blk 5 rfl | exact Rd.blk 6 rfl)
          case h6 => rfl
          refine WA.take 13 rfl (by kernel_rfl) (by kernel_rfl) (by kernel_rfl) rfl rfl (by decide) (pureV_ok tab_ok rfl (fun _ => rfl)) (by (repeat (first | exact List.Sublist.refl _ | exact List.nil_sublist _ | apply List.Sublist.cons_cons | apply List.Sublist.cons)); done) (by first | exact RLe.refl _ | assumption) ?_
          refine' WA.take 14 rfl (by kernel_rfl) (by kernel_rfl) (by kernel_rfl) rfl rfl (by decide) (Yl.load1 tab_ok rfl rfl rfl (fun _ => rfl) ?r7 rfl ?h7) (by (repeat (first | exact List.Sublist.refl _ | exact List.nil_sublist _ | apply List.Sublist.cons_cons | apply List.Sublist.cons)); done) (by first | exact RLe.refl _ | assumption) ?_
          case r7 => apply Rd.add; (first | exact Rd.blk 0 rfl | exact Rd.blk 1 rfl | exact Rd.blk 2 rfl | exact Rd.blk 3 rfl | exact Rd.blk 4 rfl | exact Rd.blk 5 rfl | exact Rd.blk 6 rfl)
          case h7 => rfl
          refine WA.br2 (i := 1) (j := 9) (by kernel_rfl) ?_ ?_
          ·
            refine' WS.yl rfl rfl rfl (by decide) (Yl.load1 tab_ok rfl rfl rfl (fun _ => rfl) ?r8 rfl ?h8) (by (repeat (first | exact List.Sublist.refl _ | exact List.nil_sublist _ | apply List.Sublist.cons_cons | apply List.Sublist.cons)); done) (RLe.refl _) ?_
            case r8 => apply Rd.add; (first | exact Rd.blk 0 rfl | exact Rd.blk 1 rfl | exact Rd.blk 2 rfl | exact Rd.blk 3 rfl | exact Rd.blk 4 rfl | exact Rd.blk 5 rfl | exact Rd.blk 6 rfl | (apply RS.rdD; assumption; ((try dsimp only) <;> omega)) | exact Rd.slD 0 rfl (by (try dsimp only) <;> omega) | exact Rd.slD 1 rfl (by (try dsimp only) <;> omega) | exact Rd.slD 2 rfl (by (try dsimp only) <;> omega) | exact Rd.slD 3 rfl (by (try dsimp only) <;> omega) | exact Rd.slD 4 rfl (by (try dsimp only) <;> omega) | exact Rd.slD 5 rfl (by (try dsimp only) <;> omega) | exact Rd.slD 6 rfl (by (try dsimp only) <;> omega))
            case h8 => rfl
            refine WA.take 4 rfl (by kernel_rfl) (by kernel_rfl) (by kernel_rfl) rfl rfl (by decide) (Yl.quo rfl rfl rfl (fun _ => rfl) (by intro _; constructor <;> (try dsimp only) <;> omega) (by intro _; omega)) (by (repeat (first | exact List.Sublist.refl _ | exact List.nil_sublist _ | apply List.Sublist.cons_cons | apply List.Sublist.cons)); done) (by first | exact RLe.refl _ | assumption) ?_
            refine WA.take 7 rfl (by kernel_rfl) (by kernel_rfl) (by kernel_rfl) rfl rfl (by decide) (Yl.mul rfl rfl rfl (fun _ => rfl) (by intro _; constructor <;> (try dsimp only) <;> omega)) (by (repeat (first | exact List.Sublist.refl _ | exact List.nil_sublist _ | apply List.Sublist.cons_cons | apply List.Sublist.cons)); done) (by first | exact RLe.refl _ | assumption) ?_
            refine' WA.yl 9 rfl (by kernel_rfl) rfl rfl (by decide) (Yl.load1 tab_ok rfl rfl rfl (fun _ => rfl) ?r9 rfl ?h9) (by (repeat (first | exact List.Sublist.refl _ | exact List.nil_sublist _ | apply List.Sublist.cons_cons | apply List.Sublist.cons)); done) (RLe.refl _) ?_
            case r9 => apply Rd.add; (first | exact Rd.blk 0 rfl | exact Rd.blk 1 rfl | exact Rd.blk 2 rfl | exact Rd.blk 3 rfl | exact Rd.blk 4 rfl | exact Rd.blk 5 rfl | exact Rd.blk 6 rfl | (apply RS.rdD; assumption; ((try dsimp only) <;> omega)) | exact Rd.slD 0 rfl (by (try dsimp only) <;> omega) | exact Rd.slD 1 rfl (by (try dsimp only) <;> omega) | exact Rd.slD 2 rfl (by (try dsimp only) <;> omega) | exact Rd.slD 3 rfl (by (try dsimp only) <;> omega) | exact Rd.slD 4 rfl (by (try dsimp only) <;> omega) | exact Rd.slD 5 rfl (by (try dsimp only) <;> omega) | exact Rd.slD 6 rfl (by (try dsimp only) <;> omega))
            case h9 => rfl
            refine WA.take 12 rfl (by kernel_rfl) (by kernel_rfl) (by kernel_rfl) rfl rfl (by decide) (Yl.quo rfl rfl rfl (fun _ => rfl) (by intro _; constructor <;> (try dsimp only) <;> omega) (by intro _; omega)) (by (repeat (first | exact List.Sublist.refl _ | exact List.nil_sublist _ | apply List.Sublist.cons_cons | apply List.Sublist.cons)); done) (by first | exact RLe.refl _ | assumption) ?_
            refine WA.take 15 rfl (by kernel_rfl) (by kernel_rfl) (by kernel_rfl) rfl rfl (by decide) (Yl.mul rfl rfl rfl (fun _ => rfl) (by intro _; constructor <;> (try dsimp only) <;> omega)) (by (repeat (first | exact List.Sublist.refl _ | exact List.nil_sublist _ | apply List.Sublist.cons_cons | apply List.Sublist.cons)); done) (by first | exact RLe.refl _ | assumption) ?_
            refine WA.take 16 rfl (by kernel_rfl) (by kernel_rfl) (by kernel_rfl) rfl rfl (by decide) (Yl.sub rfl rfl rfl (fun _ => rfl) (by intro _; constructor <;> (try dsimp only) <;> omega)) (by (repeat (first | exact List.Sublist.refl _ | exact List.nil_sublist _ | apply List.Sublist.cons_cons | apply List.Sublist.cons)); done) (by first | exact RLe.refl _ | assumption) ?_
            refine WA.take 17 rfl (by kernel_rfl) (by kernel_rfl) (by kernel_rfl) rfl rfl (by decide) (pureV_ok tab_ok rfl (fun _ => rfl)) (by (repeat (first | exact List.Sublist.refl _ | exact List.nil_sublist _ | apply List.Sublist.cons_cons | apply List.Sublist.cons)); done) (by first | exact RLe.refl _ | assumption) ?_
            first | refine WA.effN 18 rfl (by kernel_rfl) rfl rfl (Ef.store 0 tab_ok rfl rfl rfl rfl rfl rfl rfl rfl ?_) | refine WA.effN 18 rfl (by kernel_rfl) rfl rfl (Ef.store 1 tab_ok rfl rfl rfl rfl rfl rfl rfl rfl ?_) | refine WA.effN 18 rfl (by kernel_rfl) rfl rfl (Ef.store 2 tab_ok rfl rfl rfl rfl rfl rfl rfl rfl ?_) | refine WA.effN 18 rfl (by kernel_rfl) rfl rfl (Ef.store 3 tab_ok rfl rfl rfl rfl rfl rfl rfl rfl ?_) | refine WA.effN 18 rfl (by kernel_rfl) rfl rfl (Ef.store 4 tab_ok rfl rfl rfl rfl rfl rfl rfl rfl ?_) | refine WA.effN 18 rfl (by kernel_rfl) rfl rfl (Ef.store 5 tab_ok rfl rfl rfl rfl rfl rfl rfl rfl ?_) | refine WA.effN 18 rfl (by kernel_rfl) rfl rfl (Ef.store 6 tab_ok rfl rfl rfl rfl rfl rfl rfl rfl ?_)
            refine ⟨by first | exact RLe.refl _ | assumption, (by (repeat (first | exact List.Sublist.refl _ | exact List.nil_sublist _ | apply List.Sublist.cons_cons | apply List.Sublist.cons)); done), ?_⟩
            refine WA.done (by kernel_rfl) ?_
            refine WE.nxt ?_
            refine W.seq ?_
            refine W.region _ ?_
            refine' WG.y rfl rfl (by decide) (Yl.load1 tab_ok rfl rfl rfl (fun _ => rfl) ?r10 rfl ?h10) ?_
            case r10 => (first | exact Rd.blk 0 rfl | exact Rd.blk 1 rfl | exact Rd.blk 2 rfl | exact Rd.blk 3 rfl | exact Rd.blk 4 rfl | exact Rd.blk 5 rfl | exact Rd.blk 6 rfl | (apply RS.rdD; assumption; ((try dsimp only) <;> omega)) | exact Rd.slD 0 rfl (by (try dsimp only) <;> omega) | exact Rd.slD 1 rfl (by (try dsimp only) <;> omega) | exact Rd.slD 2 rfl (by (try dsimp only) <;> omega) | exact Rd.slD 3 rfl (by (try dsimp only) <;> omega) | exact Rd.slD 4 rfl (by (try dsimp only) <;> omega) | exact Rd.slD 5 rfl (by (try dsimp only) <;> omega) | exact Rd.slD 6 rfl (by (try dsimp only) <;> omega))
            case h10 => rfl
            first | refine WL.efN rfl rfl (Ef.store0 0 tab_ok rfl rfl rfl rfl rfl rfl rfl rfl ?_) | refine WL.efN rfl rfl (Ef.store0 1 tab_ok rfl rfl rfl rfl rfl rfl rfl rfl ?_) | refine WL.efN rfl rfl (Ef.store0 2 tab_ok rfl rfl rfl rfl rfl rfl rfl rfl ?_) | refine WL.efN rfl rfl (Ef.store0 3 tab_ok rfl rfl rfl rfl rfl rfl rfl rfl ?_) | refine WL.efN rfl rfl (Ef.store0 4 tab_ok rfl rfl rfl rfl rfl rfl rfl rfl ?_) | refine WL.efN rfl rfl (Ef.store0 5 tab_ok rfl rfl rfl rfl rfl rfl rfl rfl ?_) | refine WL.efN rfl rfl (Ef.store0 6 tab_ok rfl rfl rfl rfl rfl rfl rfl rfl ?_)
            refine WG.run tab_ok 1 rfl ?_
            refine WG.nil ?_
            refine WE.nxt ?_
            refine W.ret ?_
            refine WE.retF tab_ok [_, _] rfl ⟨⟨_, _, _, rfl, rfl, rfl, ((by first | exact Rd.blk 0 rfl | exact Rd.blk 1 rfl | exact Rd.blk 2 rfl | exact Rd.blk 3 rfl | exact Rd.blk 4 rfl | exact Rd.blk 5 rfl | exact Rd.blk 6 rfl)), rfl⟩, rfl, trivial⟩ (hR1.trans hR2) ?_
            exact ⟨_, _, _, _, by first | rfl | (rw [hdr]; rfl), ha1x, ha2x, (by (repeat (first | exact List.Sublist.refl _ | exact List.nil_sublist _ | apply List.Sublist.cons_cons | apply List.Sublist.cons)); done)⟩
          ·
            refine' WS.yl rfl rfl rfl (by decide) (Yl.load1 tab_ok rfl rfl rfl (fun _ => rfl) ?r11 rfl ?h11) (by (repeat (first | exact List.Sublist.refl _ | exact List.nil_sublist _ | apply List.Sublist.cons_cons | apply List.Sublist.cons)); done) (RLe.refl _) ?_
            case r11 => apply Rd.add; (first | exact Rd.blk 0 rfl | exact Rd.blk 1 rfl | exact Rd.blk 2 rfl | exact Rd.blk 3 rfl | exact Rd.blk 4 rfl | exact Rd.blk 5 rfl | exact Rd.blk 6 rfl | (apply RS.rdD; assumption; ((try dsimp only) <;> omega)) | exact Rd.slD 0 rfl (by (try dsimp only) <;> omega) | exact Rd.slD 1 rfl (by (try dsimp only) <;> omega) | exact Rd.slD 2 rfl (by (try dsimp only) <;> omega) | exact Rd.slD 3 rfl (by (try dsimp only) <;> omega) | exact Rd.slD 4 rfl (by (try dsimp only) <;> omega) | exact Rd.slD 5 rfl (by (try dsimp only) <;> omega) | exact Rd.slD 6 rfl (by (try dsimp only) <;> omega))
            case h11 => rfl
            refine WA.take 12 rfl (by kernel_rfl) (by kernel_rfl) (by kernel_rfl) rfl rfl (by decide) (Yl.quo rfl rfl rfl (fun _ => rfl) (by intro _; constructor <;> (try dsimp only) <;> omega) (by intro _; omega)) (by (repeat (first | exact List.Sublist.refl _ | exact List.nil_sublist _ | apply List.Sublist.cons_cons | apply List.Sublist.cons)); done) (by first | exact RLe.refl _ | assumption) ?_
            refine WA.take 15 rfl (by kernel_rfl) (by kernel_rfl) (by kernel_rfl) rfl rfl (by decide) (Yl.mul rfl rfl rfl (fun _ => rfl) (by intro _; constructor <;> (try dsimp only) <;> omega)) (by (repeat (first | exact List.Sublist.refl _ | exact List.nil_sublist _ | apply List.Sublist.cons_cons | apply List.Sublist.cons)); done) (by first | exact RLe.refl _ | assumption) ?_
            refine' WA.yl 1 rfl (by kernel_rfl) rfl rfl (by decide) (Yl.load1 tab_ok rfl rfl rfl (fun _ => rfl) ?r12 rfl ?h12) (by (repeat (first | exact List.Sublist.refl _ | exact List.nil_sublist _ | apply List.Sublist.cons_cons | apply List.Sublist.cons)); done) (RLe.refl _) ?_
            case r12 => apply Rd.add; (first | exact Rd.blk 0 rfl | exact Rd.blk 1 rfl | exact Rd.blk 2 rfl | exact Rd.blk 3 rfl | exact Rd.blk 4 rfl | exact Rd.blk 5 rfl | exact Rd.blk 6 rfl | (apply RS.rdD; assumption; ((try dsimp only) <;> omega)) | exact Rd.slD 0 rfl (by (try dsimp only) <;> omega) | exact Rd.slD 1 rfl (by (try dsimp only) <;> omega) | exact Rd.slD 2 rfl (by (try dsimp only) <;> omega) | exact Rd.slD 3 rfl (by (try dsimp only) <;> omega) | exact Rd.slD 4 rfl (by (try dsimp only) <;> omega) | exact Rd.slD 5 rfl (by (try dsimp only) <;> omega) | exact Rd.slD 6 rfl (by (try dsimp only) <;> omega))
            case h12 => rfl
            refine WA.take 4 rfl (by kernel_rfl) (by kernel_rfl) (by kernel_rfl) rfl rfl (by decide) (Yl.quo rfl rfl rfl (fun _ => rfl) (by intro _; constructor <;> (try dsimp only) <;> omega) (by intro _; omega)) (by (repeat (first | exact List.Sublist.refl _ | exact List.nil_sublist _ | apply List.Sublist.cons_cons | apply List.Sublist.cons)); done) (by first | exact RLe.refl _ | assumption) ?_
            refine WA.take 7 rfl (by kernel_rfl) (by kernel_rfl) (by kernel_rfl) rfl rfl (by decide) (Yl.mul rfl rfl rfl (fun _ => rfl) (by intro _; constructor <;> (try dsimp only) <;> omega)) (by (repeat (first | exact List.Sublist.refl _ | exact List.nil_sublist _ | apply List.Sublist.cons_cons | apply List.Sublist.cons)); done) (by first | exact RLe.refl _ | assumption) ?_
            refine WA.take 16 rfl (by kernel_rfl) (by kernel_rfl) (by kernel_rfl) rfl rfl (by decide) (Yl.sub rfl rfl rfl (fun _ => rfl) (by intro _; constructor <;> (try dsimp only) <;> omega)) (by (repeat (first | exact List.Sublist.refl _ | exact List.nil_sublist _ | apply List.Sublist.cons_cons | apply List.Sublist.cons)); done) (by first | exact RLe.refl _ | assumption) ?_
            refine WA.take 17 rfl (by kernel_rfl) (by kernel_rfl) (by kernel_rfl) rfl rfl (by decide) (pureV_ok tab_ok rfl (fun _ => rfl)) (by (repeat (first | exact List.Sublist.refl _ | exact List.nil_sublist _ | apply List.Sublist.cons_cons | apply List.Sublist.cons)); done) (by first | exact RLe.refl _ | assumption) ?_
            first | refine WA.effN 18 rfl (by kernel_rfl) rfl rfl (Ef.store 0 tab_ok rfl rfl rfl rfl rfl rfl rfl rfl ?_) | refine WA.effN 18 rfl (by kernel_rfl) rfl rfl (Ef.store 1 tab_ok rfl rfl rfl rfl rfl rfl rfl rfl ?_) | refine WA.effN 18 rfl (by kernel_rfl) rfl rfl (Ef.store 2 tab_ok rfl rfl rfl rfl rfl rfl rfl rfl ?_) | refine WA.effN 18 rfl (by kernel_rfl) rfl rfl (Ef.store 3 tab_ok rfl rfl rfl rfl rfl rfl rfl rfl ?_) | refine WA.effN 18 rfl (by kernel_rfl) rfl rfl (Ef.store 4 tab_ok rfl rfl rfl rfl rfl rfl rfl rfl ?_) | refine WA.effN 18 rfl (by kernel_rfl) rfl rfl (Ef.store 5 tab_ok rfl rfl rfl rfl rfl rfl rfl rfl ?_) | refine WA.effN 18 rfl (by kernel_rfl) rfl rfl (Ef.store 6 tab_ok rfl rfl rfl rfl rfl rfl rfl rfl ?_)
            refine ⟨by first | exact RLe.refl _ | assumption, (by (repeat (first | exact List.Sublist.refl _ | exact List.nil_sublist _ | apply List.Sublist.cons_cons | apply List.Sublist.cons)); done), ?_⟩
            refine WA.done (by kernel_rfl) ?_
            refine WE.nxt ?_
            refine W.seq ?_
            refine W.region _ ?_
            refine' WG.y rfl rfl (by decide) (Yl.load1 tab_ok rfl rfl rfl (fun _ => rfl) ?r13 rfl ?h13) ?_
            case r13 => (first | exact Rd.blk 0 rfl | exact Rd.blk 1 rfl | exact Rd.blk 2 rfl | exact Rd.blk 3 rfl | exact Rd.blk 4 rfl | exact Rd.blk 5 rfl | exact Rd.blk 6 rfl | (apply RS.rdD; assumption; ((try dsimp only) <;> omega)) | exact Rd.slD 0 rfl (by (try dsimp only) <;> omega) | exact Rd.slD 1 rfl (by (try dsimp only) <;> omega) | exact Rd.slD 2 rfl (by (try dsimp only) <;> omega) | exact Rd.slD 3 rfl (by (try dsimp only) <;> omega) | exact Rd.slD 4 rfl (by (try dsimp only) <;> omega) | exact Rd.slD 5 rfl (by (try dsimp only) <;> omega) | exact Rd.slD 6 rfl (by (try dsimp only) <;> omega))
            case h13 => rfl
            first | refine WL.efN rfl rfl (Ef.store0 0 tab_ok rfl rfl rfl rfl rfl rfl rfl rfl ?_) | refine WL.efN rfl rfl (Ef.store0 1 tab_ok rfl rfl rfl rfl rfl rfl rfl rfl ?_) | refine WL.efN rfl rfl (Ef.store0 2 tab_ok rfl rfl rfl rfl rfl rfl rfl rfl ?_) | refine WL.efN rfl rfl (Ef.store0 3 tab_ok rfl rfl rfl rfl rfl rfl rfl rfl ?_) | refine WL.efN rfl rfl (Ef.store0 4 tab_ok rfl rfl rfl rfl rfl rfl rfl rfl ?_) | refine WL.efN rfl rfl (Ef.store0 5 tab_ok rfl rfl rfl rfl rfl rfl rfl rfl ?_) | refine WL.efN rfl rfl (Ef.store0 6 tab_ok rfl rfl rfl rfl rfl rfl rfl rfl ?_)
            refine WG.run tab_ok 1 rfl ?_
            refine WG.nil ?_
            refine WE.nxt ?_
            refine W.ret ?_
            refine WE.retF tab_ok [_, _] rfl ⟨⟨_, _, _, rfl, rfl, rfl, ((by first | exact Rd.blk 0 rfl | exact Rd.blk 1 rfl | exact Rd.blk 2 rfl | exact Rd.blk 3 rfl | exact Rd.blk 4 rfl | exact Rd.blk 5 rfl | exact Rd.blk 6 rfl)), rfl⟩, rfl, trivial⟩ (hR1.trans hR2) ?_
            exact ⟨_, _, _, _, by first | rfl | (rw [hdr]; rfl), ha1x, ha2x, (by (repeat (first | exact List.Sublist.refl _ | exact List.nil_sublist _ | apply List.Sublist.cons_cons | apply List.Sublist.cons)); done)⟩
      ·
        refine W.regionH _ (ES := [.blk b8 [.slice fa2x (normR cg).vals.length ca2x, .int .i64 (normR cg).per, .int .i64 (normR cg).inc], .blk b6 [.slice fa1x (lineC cap).vals.length ca1x, .int .i64 (lineC cap).per, .int .i64 (lineC cap).inc]]) mixed ?_
        refine' WA.take 0 rfl (by kernel_rfl) (by kernel_rfl) (by kernel_rfl) rfl rfl (by decide) (Yl.load1 tab_ok rfl rfl rfl (fun _ => rfl) ?r14 rfl ?h14) (by (repeat (first | exact List.Sublist.refl _ | exact List.nil_sublist _ | apply List.Sublist.cons_cons | apply List.Sublist.cons)); done) (by first | exact RLe.refl _ | assumption) ?_
        case r14 => (first | exact Rd.blk 0 rfl | exact Rd.blk 1 rfl | exact Rd.blk 2 rfl | exact Rd.blk 3 rfl | exact Rd.blk 4 rfl | exact Rd.blk 5 rfl | exact Rd.blk 6 rfl)
        case h14 => rfl
        refine' WA.take 1 rfl (by kernel_rfl) (by kernel_rfl) (by kernel_rfl) rfl rfl (by decide) (Yl.load1 tab_ok rfl rfl rfl (fun _ => rfl) ?r15 rfl ?h15) (by (repeat (first | exact List.Sublist.refl _ | exact List.nil_sublist _ | apply List.Sublist.cons_cons | apply List.Sublist.cons)); done) (by first | exact RLe.refl _ | assumption) ?_
        case r15 => (first | exact Rd.blk 0 rfl | exact Rd.blk 1 rfl | exact Rd.blk 2 rfl | exact Rd.blk 3 rfl | exact Rd.blk 4 rfl | exact Rd.blk 5 rfl | exact Rd.blk 6 rfl)
        case h15 => rfl
        refine' WA.take 2 rfl (by kernel_rfl) (by kernel_rfl) (by kernel_rfl) rfl rfl (by decide) (Yl.load1 tab_ok rfl rfl rfl (fun _ => rfl) ?r16 rfl ?h16) (by (repeat (first | exact List.Sublist.refl _ | exact List.nil_sublist _ | apply List.Sublist.cons_cons | apply List.Sublist.cons)); done) (by first | exact RLe.refl _ | assumption) ?_
        case r16 => (first | exact Rd.blk 0 rfl | exact Rd.blk 1 rfl | exact Rd.blk 2 rfl | exact Rd.blk 3 rfl | exact Rd.blk 4 rfl | exact Rd.blk 5 rfl | exact Rd.blk 6 rfl)
        case h16 => rfl
        refine' WA.take 4 rfl (by kernel_rfl) (by kernel_rfl) (by kernel_rfl) rfl rfl (by decide) (Yl.load1 tab_ok rfl rfl rfl (fun _ => rfl) ?r17 rfl ?h17) (by (repeat (first | exact List.Sublist.refl _ | exact List.nil_sublist _ | apply List.Sublist.cons_cons | apply List.Sublist.cons)); done) (by first | exact RLe.refl _ | assumption) ?_
        case r17 => (first | exact Rd.blk 0 rfl | exact Rd.blk 1 rfl | exact Rd.blk 2 rfl | exact Rd.blk 3 rfl | exact Rd.blk 4 rfl | exact Rd.blk 5 rfl | exact Rd.blk 6 rfl)
        case h17 => rfl
        refine WA.take 7 rfl (by kernel_rfl) (by kernel_rfl) (by kernel_rfl) rfl rfl (by decide) (pureV_ok tab_ok rfl (fun _ => rfl)) (by (repeat (first | exact List.Sublist.refl _ | exact List.nil_sublist _ | apply List.Sublist.cons_cons | apply List.Sublist.cons)); done) (by first | exact RLe.refl _ | assumption) ?_
        refine' WA.take 8 rfl (by kernel_rfl) (by kernel_rfl) (by kernel_rfl) rfl rfl (by decide) (Yl.load1 tab_ok rfl rfl rfl (fun _ => rfl) ?r18 rfl ?h18) (by (repeat (first | exact List.Sublist.refl _ | exact List.nil_sublist _ | apply List.Sublist.cons_cons | apply List.Sublist.cons)); done) (by first | exact RLe.refl _ | assumption) ?_
        case r18 => apply Rd.add; (first | exact Rd.blk 0 rfl | exact Rd.blk 1 rfl | exact Rd.blk 2 rfl | exact Rd.blk 3 rfl | exact Rd.blk 4 rfl | exact Rd.blk 5 rfl | exact Rd.blk 6 rfl)
        case h18 => rfl
        refine WA.take 9 rfl (by kernel_rfl) (by kernel_rfl) (by kernel_rfl) rfl rfl (by decide) (pureV_ok tab_ok rfl (fun _ => rfl)) (by (repeat (first | exact List.Sublist.refl _ | exact List.nil_sublist _ | apply List.Sublist.cons_cons | apply List.Sublist.cons)); done) (by first | exact RLe.refl _ | assumption) ?_
        refine' WA.take 10 rfl (by kernel_rfl) (by kernel_rfl) (by kernel_rfl) rfl rfl (by decide) (Yl.load1 tab_ok rfl rfl rfl (fun _ => rfl) ?r19 rfl ?h19) (by (repeat (first | exact List.Sublist.refl _ | exact List.nil_sublist _ | apply List.Sublist.cons_cons | apply List.Sublist.cons)); done) (by first | exact RLe.refl _ | assumption) ?_
        case r19 => apply Rd.add; (first | exact Rd.blk 0 rfl | exact Rd.blk 1 rfl | exact Rd.blk 2 rfl | exact Rd.blk 3 rfl | exact Rd.blk 4 rfl | exact Rd.blk 5 rfl | exact Rd.blk 6 rfl)
        case h19 => rfl
        refine WA.br2 (i := 3) (j := 13) (by kernel_rfl) ?_ ?_
        ·
          refine WS.callG rfl en143 rfl (by first | rfl | decide) rfl (by decide) (CallOp.mkT rfl rfl rfl rfl) ((WStartG_V hln.valid ha1x).toFn) ?_
          rintro _ _ _ - ⟨rfl, rfl, rfl⟩
          refine ⟨by first | exact RLe.refl _ | assumption, (by (repeat (first | exact List.Sublist.refl _ | exact List.nil_sublist _ | apply List.Sublist.cons_cons | apply List.Sublist.cons)); done), ?_⟩
          refine WA.br2 (i := 5) (j := 13) (by kernel_rfl) ?_ ?_
          ·
            refine WS.callG rfl en143 rfl (by first | rfl | decide) rfl (by decide) (CallOp.mkT rfl rfl rfl rfl) ((WStartG_V hng.valid ha2x).toFn) ?_
            rintro _ _ _ - ⟨rfl, rfl, rfl⟩
            refine ⟨by first | exact RLe.refl _ | assumption, (by (repeat (first | exact List.Sublist.refl _ | exact List.nil_sublist _ | apply List.Sublist.cons_cons | apply List.Sublist.cons)); done), ?_⟩
            refine WA.take 6 rfl (by kernel_rfl) (by kernel_rfl) (by kernel_rfl) rfl rfl (by decide) (pureV_ok tab_ok rfl (fun _ => rfl)) (by (repeat (first | exact List.Sublist.refl _ | exact List.nil_sublist _ | apply List.Sublist.cons_cons | apply List.Sublist.cons)); done) (by first | exact RLe.refl _ | assumption) ?_
            refine WA.br2 (i := 11) (j := 13) (by kernel_rfl) ?_ ?_
            ·
              refine WS.callG rfl en154 rfl (by first | rfl | decide) rfl (by decide) (CallOp.mkT rfl rfl rfl rfl) ((ComOne_V hP2 (by omega)).toFn) ?_
              rintro _ _ _ - ⟨rfl, rfl, rfl⟩
              refine ⟨by first | exact RLe.refl _ | assumption, (by (repeat (first | exact List.Sublist.refl _ | exact List.nil_sublist _ | apply List.Sublist.cons_cons | apply List.Sublist.cons)); done), ?_⟩
              -- build
              refine WA.take 12 rfl (by kernel_rfl) (by kernel_rfl) (by kernel_rfl) rfl rfl (by decide) (Yl.build (parts := [(0, .tmp 28), (1, .tmp 29), (2, .tmp 34), (3, .tmp 39)]) tab_ok rfl rfl rfl rfl (fun _ => rfl) rfl rfl) (by (repeat (first | exact List.Sublist.refl _ | exact List.nil_sublist _ | apply List.Sublist.cons_cons | apply List.Sublist.cons)); done) (by first | exact RLe.refl _ | assumption) ?_
              refine WA.eff 13 rfl (by kernel_rfl) rfl rfl (by decide) (Ef.alloc tab_ok rfl rfl (fun b9 => ?_))
              refine ⟨by first | exact RLe.refl _ | assumption, (by (repeat (first | exact List.Sublist.refl _ | exact List.nil_sublist _ | apply List.Sublist.cons_cons | apply List.Sublist.cons)); done), ?_⟩
              first | refine WA.effN 14 rfl (by kernel_rfl) rfl rfl (Ef.store0 0 tab_ok rfl rfl rfl rfl rfl rfl rfl rfl ?_) | refine WA.effN 14 rfl (by kernel_rfl) rfl rfl (Ef.store0 1 tab_ok rfl rfl rfl rfl rfl rfl rfl rfl ?_) | refine WA.effN 14 rfl (by kernel_rfl) rfl rfl (Ef.store0 2 tab_ok rfl rfl rfl rfl rfl rfl rfl rfl ?_) | refine WA.effN 14 rfl (by kernel_rfl) rfl rfl (Ef.store0 3 tab_ok rfl rfl rfl rfl rfl rfl rfl rfl ?_) | refine WA.effN 14 rfl (by kernel_rfl) rfl rfl (Ef.store0 4 tab_ok rfl rfl rfl rfl rfl rfl rfl rfl ?_) | refine WA.effN 14 rfl (by kernel_rfl) rfl rfl (Ef.store0 5 tab_ok rfl rfl rfl rfl rfl rfl rfl rfl ?_) | refine WA.effN 14 rfl (by kernel_rfl) rfl rfl (Ef.store0 6 tab_ok rfl rfl rfl rfl rfl rfl rfl rfl ?_)
              refine ⟨by first | exact RLe.refl _ | assumption, (by (repeat (first | exact List.Sublist.refl _ | exact List.nil_sublist _ | apply List.Sublist.cons_cons | apply List.Sublist.cons)); done), ?_⟩
              refine WA.done (by kernel_rfl) ?_
              first | (rw [hmx]; refine WE.cut b9 trivial ⟨rfl, rfl, rfl, rfl, rfl⟩ (RLe.refl _) (by (repeat (first | exact List.Sublist.refl _ | exact List.nil_sublist _ | apply List.Sublist.cons_cons | apply List.Sublist.cons)); done)) | refine WE.cut b9 trivial ⟨rfl, rfl, rfl, rfl, rfl⟩ (RLe.refl _) (by (repeat (first | exact List.Sublist.refl _ | exact List.nil_sublist _ | apply List.Sublist.cons_cons | apply List.Sublist.cons)); done)
            ·
              refine WS.eff rfl rfl rfl (by decide) (Ef.alloc tab_ok rfl rfl (fun b9 => ?_))
              refine ⟨RLe.refl _, (by (repeat (first | exact List.Sublist.refl _ | exact List.nil_sublist _ | apply List.Sublist.cons_cons | apply List.Sublist.cons)); done), ?_⟩
              refine WA.callG 11 rfl (by kernel_rfl) en154 rfl (by first | rfl | decide) rfl (by decide) (CallOp.mkT rfl rfl rfl rfl) ((ComOne_V hP2 (by omega)).toFn) ?_
              rintro _ _ _ - ⟨rfl, rfl, rfl⟩
              refine ⟨by first | exact RLe.refl _ | assumption, (by (repeat (first | exact List.Sublist.refl _ | exact List.nil_sublist _ | apply List.Sublist.cons_cons | apply List.Sublist.cons)); done), ?_⟩
              -- build
              refine WA.take 12 rfl (by kernel_rfl) (by kernel_rfl) (by kernel_rfl) rfl rfl (by decide) (Yl.build (parts := [(0, .tmp 28), (1, .tmp 29), (2, .tmp 34), (3, .tmp 39)]) tab_ok rfl rfl rfl rfl (fun _ => rfl) rfl rfl) (by (repeat (first | exact List.Sublist.refl _ | exact List.nil_sublist _ | apply List.Sublist.cons_cons | apply List.Sublist.cons)); done) (by first | exact RLe.refl _ | assumption) ?_
              first | refine WA.effN 14 rfl (by kernel_rfl) rfl rfl (Ef.store0 0 tab_ok rfl rfl rfl rfl rfl rfl rfl rfl ?_) | refine WA.effN 14 rfl (by kernel_rfl) rfl rfl (Ef.store0 1 tab_ok rfl rfl rfl rfl rfl rfl rfl rfl ?_) | refine WA.effN 14 rfl (by kernel_rfl) rfl rfl (Ef.store0 2 tab_ok rfl rfl rfl rfl rfl rfl rfl rfl ?_) | refine WA.effN 14 rfl (by kernel_rfl) rfl rfl (Ef.store0 3 tab_ok rfl rfl rfl rfl rfl rfl rfl rfl ?_) | refine WA.effN 14 rfl (by kernel_rfl) rfl rfl (Ef.store0 4 tab_ok rfl rfl rfl rfl rfl rfl rfl rfl ?_) | refine WA.effN 14 rfl (by kernel_rfl) rfl rfl (Ef.store0 5 tab_ok rfl rfl rfl rfl rfl rfl rfl rfl ?_) | refine WA.effN 14 rfl (by kernel_rfl) rfl rfl (Ef.store0 6 tab_ok rfl rfl rfl rfl rfl rfl rfl rfl ?_)
              refine ⟨by first | exact RLe.refl _ | assumption, (by (repeat (first | exact List.Sublist.refl _ | exact List.nil_sublist _ | apply List.Sublist.cons_cons | apply List.Sublist.cons)); done), ?_⟩
              refine WA.done (by kernel_rfl) ?_
              first | (rw [hmx]; refine WE.cut b9 trivial ⟨rfl, rfl, rfl, rfl, rfl⟩ (RLe.refl _) (by (repeat (first | exact List.Sublist.refl _ | exact List.nil_sublist _ | apply List.Sublist.cons_cons | apply List.Sublist.cons)); done)) | refine WE.cut b9 trivial ⟨rfl, rfl, rfl, rfl, rfl⟩ (RLe.refl _) (by (repeat (first | exact List.Sublist.refl _ | exact List.nil_sublist _ | apply List.Sublist.cons_cons | apply List.Sublist.cons)); done)
          ·
            refine WS.eff rfl rfl rfl (by decide) (Ef.alloc tab_ok rfl rfl (fun b9 => ?_))
            refine ⟨RLe.refl _, (by (repeat (first | exact List.Sublist.refl _ | exact List.nil_sublist _ | apply List.Sublist.cons_cons | apply List.Sublist.cons)); done), ?_⟩
            refine WA.callG 5 rfl (by kernel_rfl) en143 rfl (by first | rfl | decide) rfl (by decide) (CallOp.mkT rfl rfl rfl rfl) ((WStartG_V hng.valid ha2x).toFn) ?_
            rintro _ _ _ - ⟨rfl, rfl, rfl⟩
            refine ⟨by first | exact RLe.refl _ | assumption, (by (repeat (first | exact List.Sublist.refl _ | exact List.nil_sublist _ | apply List.Sublist.cons_cons | apply List.Sublist.cons)); done), ?_⟩
            refine WA.take 6 rfl (by kernel_rfl) (by kernel_rfl) (by kernel_rfl) rfl rfl (by decide) (pureV_ok tab_ok rfl (fun _ => rfl)) (by (repeat (first | exact List.Sublist.refl _ | exact List.nil_sublist _ | apply List.Sublist.cons_cons | apply List.Sublist.cons)); done) (by first | exact RLe.refl _ | assumption) ?_
            refine WA.callG 11 rfl (by kernel_rfl) en154 rfl (by first | rfl | decide) rfl (by decide) (CallOp.mkT rfl rfl rfl rfl) ((ComOne_V hP2 (by omega)).toFn) ?_
            rintro _ _ _ - ⟨rfl, rfl, rfl⟩
            refine ⟨by first | exact RLe.refl _ | assumption, (by (repeat (first | exact List.Sublist.refl _ | exact List.nil_sublist _ | apply List.Sublist.cons_cons | apply List.Sublist.cons)); done), ?_⟩
            -- build
            refine WA.take 12 rfl (by kernel_rfl) (by kernel_rfl) (by kernel_rfl) rfl rfl (by decide) (Yl.build (parts := [(0, .tmp 28), (1, .tmp 29), (2, .tmp 34), (3, .tmp 39)]) tab_ok rfl rfl rfl rfl (fun _ => rfl) rfl rfl) (by (repeat (first | exact List.Sublist.refl _ | exact List.nil_sublist _ | apply List.Sublist.cons_cons | apply List.Sublist.cons)); done) (by first | exact RLe.refl _ | assumption) ?_
            first | refine WA.effN 14 rfl (by kernel_rfl) rfl rfl (Ef.store0 0 tab_ok rfl rfl rfl rfl rfl rfl rfl rfl ?_) | refine WA.effN 14 rfl (by kernel_rfl) rfl rfl (Ef.store0 1 tab_ok rfl rfl rfl rfl rfl rfl rfl rfl ?_) | refine WA.effN 14 rfl (by kernel_rfl) rfl rfl (Ef.store0 2 tab_ok rfl rfl rfl rfl rfl rfl rfl rfl ?_) | refine WA.effN 14 rfl (by kernel_rfl) rfl rfl (Ef.store0 3 tab_ok rfl rfl rfl rfl rfl rfl rfl rfl ?_) | refine WA.effN 14 rfl (by kernel_rfl) rfl rfl (Ef.store0 4 tab_ok rfl rfl rfl rfl rfl rfl rfl rfl ?_) | refine WA.effN 14 rfl (by kernel_rfl) rfl rfl (Ef.store0 5 tab_ok rfl rfl rfl rfl rfl rfl rfl rfl ?_) | refine WA.effN 14 rfl (by kernel_rfl) rfl rfl (Ef.store0 6 tab_ok rfl rfl rfl rfl rfl rfl rfl rfl ?_)
            refine ⟨by first | exact RLe.refl _ | assumption, (by (repeat (first | exact List.Sublist.refl _ | exact List.nil_sublist _ | apply List.Sublist.cons_cons | apply List.Sublist.cons)); done), ?_⟩
            refine WA.done (by kernel_rfl) ?_
            first | (rw [hmx]; refine WE.cut b9 trivial ⟨rfl, rfl, rfl, rfl, rfl⟩ (RLe.refl _) (by (repeat (first | exact List.Sublist.refl _ | exact List.nil_sublist _ | apply List.Sublist.cons_cons | apply List.Sublist.cons)); done)) | refine WE.cut b9 trivial ⟨rfl, rfl, rfl, rfl, rfl⟩ (RLe.refl _) (by (repeat (first | exact List.Sublist.refl _ | exact List.nil_sublist _ | apply List.Sublist.cons_cons | apply List.Sublist.cons)); done)
        ·
          refine WS.eff rfl rfl rfl (by decide) (Ef.alloc tab_ok rfl rfl (fun b9 => ?_))
          refine ⟨RLe.refl _, (by (repeat (first | exact List.Sublist.refl _ | exact List.nil_sublist _ | apply List.Sublist.cons_cons | apply List.Sublist.cons)); done), ?_⟩
          refine WA.callG 3 rfl (by kernel_rfl) en143 rfl (by first | rfl | decide) rfl (by decide) (CallOp.mkT rfl rfl rfl rfl) ((WStartG_V hln.valid ha1x).toFn) ?_
          rintro _ _ _ - ⟨rfl, rfl, rfl⟩
          refine ⟨by first | exact RLe.refl _ | assumption, (by (repeat (first | exact List.Sublist.refl _ | exact List.nil_sublist _ | apply List.Sublist.cons_cons | apply List.Sublist.cons)); done), ?_⟩
          refine WA.callG 5 rfl (by kernel_rfl) en143 rfl (by first | rfl | decide) rfl (by decide) (CallOp.mkT rfl rfl rfl rfl) ((WStartG_V hng.valid ha2x).toFn) ?_
          rintro _ _ _ - ⟨rfl, rfl, rfl⟩
          refine ⟨by first | exact RLe.refl _ | assumption, (by (repeat (first | exact List.Sublist.refl _ | exact List.nil_sublist _ | apply List.Sublist.cons_cons | apply List.Sublist.cons)); done), ?_⟩
          refine WA.take 6 rfl (by kernel_rfl) (by kernel_rfl) (by kernel_rfl) rfl rfl (by decide) (pureV_ok tab_ok rfl (fun _ => rfl)) (by (repeat (first | exact List.Sublist.refl _ | exact List.nil_sublist _ | apply List.Sublist.cons_cons | apply List.Sublist.cons)); done) (by first | exact RLe.refl _ | assumption) ?_
          refine WA.callG 11 rfl (by kernel_rfl) en154 rfl (by first | rfl | decide) rfl (by decide) (CallOp.mkT rfl rfl rfl rfl) ((ComOne_V hP2 (by omega)).toFn) ?_
          rintro _ _ _ - ⟨rfl, rfl, rfl⟩
          refine ⟨by first | exact RLe.refl _ | assumption, (by (repeat (first | exact List.Sublist.refl _ | exact List.nil_sublist _ | apply List.Sublist.cons_cons | apply List.Sublist.cons)); done), ?_⟩
          -- build
          refine WA.take 12 rfl (by kernel_rfl) (by kernel_rfl) (by kernel_rfl) rfl rfl (by decide) (Yl.build (parts := [(0, .tmp 28), (1, .tmp 29), (2, .tmp 34), (3, .tmp 39)]) tab_ok rfl rfl rfl rfl (fun _ => rfl) rfl rfl) (by (repeat (first | exact List.Sublist.refl _ | exact List.nil_sublist _ | apply List.Sublist.cons_cons | apply List.Sublist.cons)); done) (by first | exact RLe.refl _ | assumption) ?_
          first | refine WA.effN 14 rfl (by kernel_rfl) rfl rfl (Ef.store0 0 tab_ok rfl rfl rfl rfl rfl rfl rfl rfl ?_) | refine WA.effN 14 rfl (by kernel_rfl) rfl rfl (Ef.store0 1 tab_ok rfl rfl rfl rfl rfl rfl rfl rfl ?_) | refine WA.effN 14 rfl (by kernel_rfl) rfl rfl (Ef.store0 2 tab_ok rfl rfl rfl rfl rfl rfl rfl rfl ?_) | refine WA.effN 14 rfl (by kernel_rfl) rfl rfl (Ef.store0 3 tab_ok rfl rfl rfl rfl rfl rfl rfl rfl ?_) | refine WA.effN 14 rfl (by kernel_rfl) rfl rfl (Ef.store0 4 tab_ok rfl rfl rfl rfl rfl rfl rfl rfl ?_) | refine WA.effN 14 rfl (by kernel_rfl) rfl rfl (Ef.store0 5 tab_ok rfl rfl rfl rfl rfl rfl rfl rfl ?_) | refine WA.effN 14 rfl (by kernel_rfl) rfl rfl (Ef.store0 6 tab_ok rfl rfl rfl rfl rfl rfl rfl rfl ?_)
          refine ⟨by first | exact RLe.refl _ | assumption, (by (repeat (first | exact List.Sublist.refl _ | exact List.nil_sublist _ | apply List.Sublist.cons_cons | apply List.Sublist.cons)); done), ?_⟩
          refine WA.done (by kernel_rfl) ?_
          first | (rw [hmx]; refine WE.cut b9 trivial ⟨rfl, rfl, rfl, rfl, rfl⟩ (RLe.refl _) (by (repeat (first | exact List.Sublist.refl _ | exact List.nil_sublist _ | apply List.Sublist.cons_cons | apply List.Sublist.cons)); done)) | refine WE.cut b9 trivial ⟨rfl, rfl, rfl, rfl, rfl⟩ (RLe.refl _) (by (repeat (first | exact List.Sublist.refl _ | exact List.nil_sublist _ | apply List.Sublist.cons_cons | apply List.Sublist.cons)); done)

theorem RawG_V {R : Ro} {a1 : Option Addr} {c1 : Nat} {cap : Int} (hcap : 1 ≤ cap ∧ cap ≤ 4000) (hx1 : RS R 1 encI a1 (lineC cap).vals) {a2 : Option Addr} {c2 : Nat} {b : Cv} (hvb : validB b = true) (hx2 : RS R 1 encI a2 b.vals) {t : Nat} (ht : t ≤ 10000) : FnV Try.prog 146 [.agg #[.slice a1 (lineC cap).vals.length c1, .int .i64 (lineC cap).per, .int .i64 (lineC cap).inc, .slice a2 b.vals.length c2, .int .i64 b.per, .int .i64 b.inc, .int .i64 (stN b : Int), .int .i64 b.per, .int .i64 (driftL cap b)], .int .i64 (t : Int)] R (.int .i64 (rawL cap b t)) := by
  refine Fn.toV (fun w0 E => ?_)
  obtain ⟨hln, hlcv, hlf, hls⟩ := line_facts (cap := cap) (by omega)
  have hlnn : normR (lineC cap) = lineC cap := hln.norm
  have hbb := cvF_bound hvb t
  have i1 := isInf_iff hvb (t := t) (by omega)
  have hm := mulB (a := cap) (b := (t : Int)) (A := 4000) (B := 10000) (by omega) (by omega)
  have hlt : cvF (lineC cap) t = cap * (t : Int) := by rw [hlcv]
  unfold INF at hbb
  refine Fn.enter (n := 25) Try.func146 rfl rfl (Nat.le_of_ble_eq_true rfl) rfl ?_
  refine W.seq ?_
  refine W.region _ ?_
  refine WL.ef rfl rfl (by decide) (Ef.box rfl rfl (fun b2 => ?_))
  refine WG.run tab_ok 1 rfl ?_
  refine WG.nil ?_
  refine WE.nxt ?_
  refine W.seq ?_
  refine W.regionQ _ mixed (by kernel_rfl) ?_
  refine WG.run tab_ok 1 rfl ?_
  refine' WG.y rfl rfl (by decide) (Yl.load1 tab_ok rfl rfl rfl (fun _ => rfl) ?r1 rfl ?h1) ?_
  case r1 => apply Rd.add; (first | exact Rd.blk 0 rfl | exact Rd.blk 1 rfl)
  case h1 => rfl
  refine WG.run tab_ok 1 rfl ?_
  refine WG.callV en118 rfl rfl (by decide) (CallOp.mk' rfl rfl rfl rfl) (fun _ => rfl) (fun hg => by have h := WAtG_V (fc := c1) hln.valid hx1 (t := t) (by omega); rw [hlt] at h; exact h) ?_
  refine WG.run tab_ok 1 rfl ?_
  refine' WG.y rfl rfl (by decide) (Yl.load1 tab_ok rfl rfl rfl (fun _ => rfl) ?r2 rfl ?h2) ?_
  case r2 => apply Rd.add; (first | exact Rd.blk 0 rfl | exact Rd.blk 1 rfl)
  case h2 => rfl
  refine WG.run tab_ok 1 rfl ?_
  refine WG.callV en118 rfl rfl (by decide) (CallOp.mk' rfl rfl rfl rfl) (fun _ => rfl) (fun hg => WAtG_V hvb hx2 (by omega)) ?_
  refine WG.run tab_ok 2 rfl ?_
  refine WG.nil ?_
  refine WE.nxt ?_
  refine W.seq ?_
  refine W.block ?_
  refine W.seq ?_
  refine W.region _ ?_
  refine WG.run tab_ok 3 rfl ?_
  refine WG.nil ?_
  refine WE.nxt ?_
  refine W.condE rfl (fun hc0 => ?_) (fun hc0 => ?_)
  · try dsimp only at hc0
    have hr : rawL cap b t = 0 := if_pos (i1.2 hc0)
    refine W.seq ?_
    refine W.region _ ?_
    refine WG.run tab_ok 1 rfl ?_
    refine WG.nil ?_
    refine WE.nxt ?_
    refine W.ret ?_
    refine WE.blk_ret ?_
    refine WE.then_ret ?_
    refine WE.subE (E' := E) (by (repeat (first | exact List.Sublist.refl _ | exact List.nil_sublist _ | apply List.Sublist.cons_cons | apply List.Sublist.cons)); done) ?_
    refine WE.retF tab_ok [_] rfl ⟨rfl, trivial⟩ (RLe.refl _) ?_
    exact ⟨by rw [hr]; rfl, rfl⟩
  · try dsimp only at hc0
    have hr : rawL cap b t = cap * (t : Int) - cvF b t := if_neg (fun h => hc0 (i1.1 h))
    refine W.seq ?_
    refine W.region _ ?_
    refine WG.run tab_ok 3 rfl ?_
    refine WG.nil ?_
    refine WE.nxt ?_
    refine W.condE rfl (fun hc1 => ?_) (fun hc1 => ?_)
    · try dsimp only at hc1
      exfalso; omega
    · try dsimp only at hc1
      refine W.skip ?_
      refine WE.blk _ ?_
      refine WE.nxt ?_
      refine W.seq ?_
      refine W.region _ ?_
      refine WG.run tab_ok 2 rfl ?_
      refine WG.y rfl rfl (by decide) (Yl.sub rfl rfl rfl (fun _ => rfl) (by intro _; constructor <;> (try dsimp only) <;> omega)) ?_
      refine WG.run tab_ok 1 rfl ?_
      refine WG.nil ?_
      refine WE.nxt ?_
      refine W.ret ?_
      refine WE.subE (E' := E) (by (repeat (first | exact List.Sublist.refl _ | exact List.nil_sublist _ | apply List.Sublist.cons_cons | apply List.Sublist.cons)); done) ?_
      refine WE.retF tab_ok [_] rfl ⟨rfl, trivial⟩ (RLe.refl _) ?_
      exact ⟨by rw [hr]; rfl, rfl⟩

theorem RestF_V {R : Ro} {b11 : Nat} {a : Option Addr} {c : Nat} {xs : List Int} (h11 : R b11 = some [.slice a xs.length c]) (hx : RS R 1 encI a xs) {t : Nat} (ht : t < xs.length) : FnV Try.prog 147 [.int .i64 (t : Int), .pointer (some ⟨b11, 0, none⟩)] R (.int .i64 (nth xs t)) := by
  refine Fn.toV (fun w0 E => ?_)
  have hla := hx.len
  refine Fn.enter (n := 8) Try.func147 rfl rfl (Nat.le_of_ble_eq_true rfl) rfl ?_
  refine W.seq ?_
  refine W.region _ ?_
  refine WG.run tab_ok 1 rfl ?_
  refine WG.nil ?_
  refine WE.nxt ?_
  refine W.seq ?_
  refine W.region _ ?_
  refine' WG.y rfl rfl (by decide) (Yl.load1 tab_ok rfl rfl rfl (fun _ => rfl) ?r1 rfl ?h1) ?_
  case r1 => exact Rd.ro h11
  case h1 => rfl
  refine WG.run tab_ok 1 rfl ?_
  refine WG.y rfl rfl (by decide) (Yl.indexN tab_ok rfl rfl rfl rfl rfl rfl (fun _ => rfl) (by intro _; (try dsimp only) <;> omega) (by intro _; first | exact fun _ _ _ _ => rfl | exact RS.has (by assumption) | exact fun _ _ _ _ => (by assumption) | exact HasMem.ownD 0 rfl | exact HasMem.ownD 1 rfl)) ?_
  refine' WG.y rfl rfl (by decide) (Yl.load1 tab_ok rfl rfl rfl (fun _ => rfl) ?r2 rfl ?h2) ?_
  case r2 => (first | (apply RS.rdD; assumption; ((try dsimp only) <;> omega)) | exact Rd.slD 0 rfl (by (try dsimp only) <;> omega) | exact Rd.slD 1 rfl (by (try dsimp only) <;> omega))
  case h2 => rfl
  refine WG.run tab_ok 1 rfl ?_
  refine WG.nil ?_
  refine WE.nxt ?_
  refine W.ret ?_
  refine WE.subE (E' := E) (by (repeat (first | exact List.Sublist.refl _ | exact List.nil_sublist _ | apply List.Sublist.cons_cons | apply List.Sublist.cons)); done) ?_
  refine WE.retF tab_ok [_] rfl ⟨rfl, trivial⟩ (RLe.refl _) ?_
  exact ⟨rfl, rfl⟩

set_option maxHeartbeats 2000000 in
theorem Rest_C {R : Ro} {la : Option Addr} {lc : Nat} {cap : Int} (hcap : 1 ≤ cap ∧ cap ≤ 4000) (hla : RS R 1 encI la (lineC cap).vals) {ga : Option Addr} {gc : Nat} {cg : Cv} (hvg : validB cg = true) (hb : RS R 1 encI ga cg.vals) (w0 : World) (E : List Ent) : K.Fn Try.prog 100 [.agg #[.slice la (lineC cap).vals.length lc, .int .i64 (lineC cap).per, .int .i64 (lineC cap).inc], .agg #[.slice ga cg.vals.length gc, .int .i64 cg.per, .int .i64 cg.inc]] w0 R E (fun r R' E' => ∃ (f : Option Addr) (fc : Nat), r = cvV f fc (restC cap cg) ∧ RS R' 1 encI f (restC cap cg).1.vals ∧ E.Sublist E') := by
  obtain ⟨hln, hlcv, hlf, hls⟩ := line_facts (cap := cap) (by omega)
  have hlnn : normR (lineC cap) = lineC cap := hln.norm
  have hng := norm_nrm hvg
  obtain ⟨_, g1, g2, g3, g4, g5, g6, g7⟩ := valid_range hng.valid
  have hst := stN_lt hng.valid
  obtain ⟨P2, hP2⟩ := Int.eq_ofNat_of_zero_le (show 0 ≤ (normR cg).per by omega)
  have hmul := mulB (a := (normR cg).per) (b := cap) (A := 120) (B := 4000) (by omega) (by omega)
  have hdb : -2000000000 ≤ driftL cap (normR cg) ∧ driftL cap (normR cg) ≤ 480000 := by unfold driftL; omega
  have hperI : (((normR cg).per.toNat : Nat) : Int) = (normR cg).per := by omega
  have hfr := fun t (ht : t ≤ 10000) => rawL_range (cap := cap) (b := normR cg) (by omega) hng.valid ht
  have hmr := fun t (ht : t ≤ 10000) => mostV_range (cap := cap) (b := normR cg) (s := stN (normR cg)) (by omega) hng.valid ht
  have htr := fun t (ht : t ≤ 10000) => tailV_range (cap := cap) (b := normR cg) (s := stN (normR cg)) (by omega) hng.valid ht
  unfold INF at htr
  refine Fn.enter (n := 99) Try.func100 rfl rfl (Nat.le_of_ble_eq_true rfl) rfl ?_
  refine W.seq ?_
  refine W.region _ ?_
  refine WL.ef rfl rfl (by decide) (Ef.box rfl rfl (fun b2 => ?_))
  refine WL.ef rfl rfl (by decide) (Ef.box rfl rfl (fun b3 => ?_))
  refine WL.ef rfl rfl (by decide) (Ef.alloc tab_ok rfl rfl (fun b4 => ?_))
  refine WG.run tab_ok 1 rfl ?_
  refine WG.nil ?_
  refine WE.nxt ?_
  refine W.seq ?_
  refine W.region _ ?_
  refine' WG.y rfl rfl (by decide) (Yl.load1 tab_ok rfl rfl rfl (fun _ => rfl) ?r1 rfl ?h1) ?_
  case r1 => (first | exact Rd.ro (by assumption) | exact Rd.blk 0 rfl | exact Rd.blk 1 rfl | exact Rd.blk 2 rfl | exact Rd.blk 3 rfl | exact Rd.blk 4 rfl | exact Rd.blk 5 rfl | exact Rd.blk 6 rfl | exact Rd.blk 7 rfl)
  case h1 => rfl
  refine' WG.y rfl rfl (by decide) (Yl.load1 tab_ok rfl rfl rfl (fun _ => rfl) ?r2 rfl ?h2) ?_
  case r2 => (first | exact Rd.ro (by assumption) | exact Rd.blk 0 rfl | exact Rd.blk 1 rfl | exact Rd.blk 2 rfl | exact Rd.blk 3 rfl | exact Rd.blk 4 rfl | exact Rd.blk 5 rfl | exact Rd.blk 6 rfl | exact Rd.blk 7 rfl)
  case h2 => rfl
  refine WL.call en144 rfl rfl (by decide) (CallOp.mkT rfl rfl rfl rfl) (RBoth_C hcap hla hvg hb w0 _) ?_
  rintro _ R1 _ hR1 ⟨a1, a2, c1, c2, rfl, hx1, hx2, hsub⟩
  refine WL.subE hsub ?_
  refine WG.run tab_ok 3 rfl ?_
  refine WL.ef rfl rfl (by decide) (Ef.alloc tab_ok rfl rfl (fun b6 => ?_))
  first | refine WL.efN rfl rfl (Ef.store0 0 tab_ok rfl rfl rfl rfl rfl rfl rfl rfl ?_) | refine WL.efN rfl rfl (Ef.store0 1 tab_ok rfl rfl rfl rfl rfl rfl rfl rfl ?_) | refine WL.efN rfl rfl (Ef.store0 2 tab_ok rfl rfl rfl rfl rfl rfl rfl rfl ?_) | refine WL.efN rfl rfl (Ef.store0 3 tab_ok rfl rfl rfl rfl rfl rfl rfl rfl ?_) | refine WL.efN rfl rfl (Ef.store0 4 tab_ok rfl rfl rfl rfl rfl rfl rfl rfl ?_) | refine WL.efN rfl rfl (Ef.store0 5 tab_ok rfl rfl rfl rfl rfl rfl rfl rfl ?_) | refine WL.efN rfl rfl (Ef.store0 6 tab_ok rfl rfl rfl rfl rfl rfl rfl rfl ?_) | refine WL.efN rfl rfl (Ef.store0 7 tab_ok rfl rfl rfl rfl rfl rfl rfl rfl ?_)
  refine WG.run tab_ok 1 rfl ?_
  refine WG.nil ?_
  refine WE.nxt ?_
  refine W.seq ?_
  refine W.seq ?_
  refine W.region _ ?_
  refine WG.run tab_ok 2 rfl ?_
  refine WG.nil ?_
  refine WE.nxt ?_
  refine W.condN rfl (fun hc0 => ?_) (fun hc0 => ?_)
  · try dsimp only at hc0
    first | done | exact absurd rfl hc0 | (simp at hc0; done)
  · try dsimp only at hc0
    refine W.skip ?_
    refine WE.nxt ?_
    refine W.seq ?_
    refine W.region _ ?_
    refine WG.run tab_ok 1 rfl ?_
    refine' WG.y rfl rfl (by decide) (Yl.load1 tab_ok rfl rfl rfl (fun _ => rfl) ?r3 rfl ?h3) ?_
    case r3 => apply Rd.add; (first | exact Rd.ro (by assumption) | exact Rd.blk 0 rfl | exact Rd.blk 1 rfl | exact Rd.blk 2 rfl | exact Rd.blk 3 rfl | exact Rd.blk 4 rfl | exact Rd.blk 5 rfl | exact Rd.blk 6 rfl | exact Rd.blk 7 rfl)
    case h3 => rfl
    refine WG.run tab_ok 1 rfl ?_
    refine' WG.y rfl rfl (by decide) (Yl.load1 tab_ok rfl rfl rfl (fun _ => rfl) ?r4 rfl ?h4) ?_
    case r4 => apply Rd.add; (first | exact Rd.ro (by assumption) | exact Rd.blk 0 rfl | exact Rd.blk 1 rfl | exact Rd.blk 2 rfl | exact Rd.blk 3 rfl | exact Rd.blk 4 rfl | exact Rd.blk 5 rfl | exact Rd.blk 6 rfl | exact Rd.blk 7 rfl)
    case h4 => rfl
    refine WG.y rfl rfl (by decide) (Yl.add rfl rfl rfl (fun _ => rfl) (by intro _; constructor <;> (try dsimp only) <;> omega)) ?_
    refine WG.run tab_ok 3 rfl ?_
    refine WG.nil ?_
    refine WE.nxt ?_
    refine W.seqCut (β := Nat × Nat × Int) (fun (x, y, z) => ((finB (normR cg) = true ∧ 0 < driftL cap (normR cg)) ∧ x = 400 ∧ y = (normR cg).per.toNat ∧ z = driftL cap (normR cg)) ∨ (¬ (finB (normR cg) = true ∧ 0 < driftL cap (normR cg)) ∧ x = (stN (normR cg)) + (normR cg).per.toNat ∧ y = 1 ∧ z = 0)) (fun (x, y, z) => [(4, true, .pointer (some ⟨b4, 0, none⟩)), (6, true, .pointer (some ⟨b6, 0, none⟩)), (8, true, .int .i64 (x : Int)), (9, true, .int .i64 (y : Int)), (10, true, .int .i64 z)]) (fun _ => R1) (fun _ => .blk b6 [.slice a1 (lineC cap).vals.length c1, .int .i64 (lineC cap).per, .int .i64 (lineC cap).inc, .slice a2 (normR cg).vals.length c2, .int .i64 (normR cg).per, .int .i64 (normR cg).inc, .int .i64 (stN (normR cg) : Int), .int .i64 (normR cg).per, .int .i64 (driftL cap (normR cg))] :: .blk b4 [.slice none 0 0, .int .i64 0, .int .i64 0] :: E) ?_ ?_
    ·
      intro st hst
      obtain ⟨from_, per, inc⟩ := st
      dsimp only at hst ⊢
      have hcs := hst
      have hst := stN_lt hng.valid
      have hfp : from_ ≤ 400 ∧ 1 ≤ per ∧ per ≤ 120 ∧ 0 ≤ inc ∧ inc ≤ 480000 := by rcases hcs with ⟨h1, h2, h3, h4⟩ | ⟨h1, h2, h3, h4⟩ <;> omega
      refine W.seq ?_
      refine W.region _ ?_
      refine WG.run tab_ok 2 rfl ?_
      refine WG.y rfl rfl (by decide) (Yl.add rfl rfl rfl (fun _ => rfl) (by intro _; constructor <;> (try dsimp only) <;> omega)) ?_
      refine WL.ef rfl rfl (by decide) (Ef.makeSliceD (enc := encI) 0 tab_ok rfl rfl rfl rfl rfl rfl (by (try dsimp only) <;> omega) (by (try dsimp only) <;> omega) (by (try dsimp only) <;> omega) (by (try dsimp only) <;> omega) (by decide) rfl rfl (fun a53 => ?_))
      refine WL.ef rfl rfl (by decide) (Ef.alloc tab_ok rfl rfl (fun b11 => ?_))
      first | refine WL.efN rfl rfl (Ef.store0 0 tab_ok rfl rfl rfl rfl rfl rfl rfl rfl ?_) | refine WL.efN rfl rfl (Ef.store0 1 tab_ok rfl rfl rfl rfl rfl rfl rfl rfl ?_) | refine WL.efN rfl rfl (Ef.store0 2 tab_ok rfl rfl rfl rfl rfl rfl rfl rfl ?_) | refine WL.efN rfl rfl (Ef.store0 3 tab_ok rfl rfl rfl rfl rfl rfl rfl rfl ?_) | refine WL.efN rfl rfl (Ef.store0 4 tab_ok rfl rfl rfl rfl rfl rfl rfl rfl ?_) | refine WL.efN rfl rfl (Ef.store0 5 tab_ok rfl rfl rfl rfl rfl rfl rfl rfl ?_) | refine WL.efN rfl rfl (Ef.store0 6 tab_ok rfl rfl rfl rfl rfl rfl rfl rfl ?_) | refine WL.efN rfl rfl (Ef.store0 7 tab_ok rfl rfl rfl rfl rfl rfl rfl rfl ?_)
      refine WG.nil ?_
      refine WE.nxt ?_
      have e3 : ((from_ : Int) + (per : Int)).toNat = from_ + per := by omega
      rw [e3, ← partV_zero (restF cap (normR cg))]
      refine W.seq ?_
      refine W.region _ ?_
      refine WG.run tab_ok 2 rfl ?_
      refine WG.nil ?_
      refine WE.nxt ?_
      refine W.seq ?_
      refine W.seq ?_
      refine W.region _ ?_
      refine' WG.y rfl rfl (by decide) (Yl.load1 tab_ok rfl rfl rfl (fun _ => rfl) ?r5 rfl ?h5) ?_
      case r5 => (first | exact Rd.ro (by assumption) | exact Rd.blk 0 rfl | exact Rd.blk 1 rfl | exact Rd.blk 2 rfl | exact Rd.blk 3 rfl | exact Rd.blk 4 rfl | exact Rd.blk 5 rfl | exact Rd.blk 6 rfl | exact Rd.blk 7 rfl)
      case h5 => rfl
      refine WG.run tab_ok 2 rfl ?_
      refine WG.nil ?_
      refine WE.nxt ?_
      refine W.block ?_
      refine W.loopK (β := Nat) (fun t => t ≤ from_ + per ∧ ((finB (normR cg) = true ∧ 0 < driftL cap (normR cg)) → 400 < t → ¬ tailF (rawL cap (normR cg)) (stN (normR cg)) (400 - (stN (normR cg))) < mostF (rawL cap (normR cg)) (stN (normR cg)))) (fun t => [(12, true, .int .i64 (mostV (rawL cap (normR cg)) (stN (normR cg)) t)), (13, true, .int .i64 (tailV (rawL cap (normR cg)) (stN (normR cg)) t)), (56, true, .int .i64 (t : Int))]) [4, 6, 8, 9, 10, 11, 55] [_, _, _, _, _, _, _] [] _ rfl (fun t => [(1, .sl 3 1 (some ⟨a53, 0, none⟩) (from_ + per) ((partV (restF cap (normR cg)) t (from_ + per)).map encI))]) (fun t => from_ + per - t) (0) (⟨Nat.zero_le _, fun _ h => by omega⟩) ⟨vint (by unfold mostV; rw [Nat.zero_min]; rfl), vint (by unfold tailV; rw [if_pos (Nat.zero_le _)]; rfl), rfl, rfl, rfl, rfl, rfl, rfl, rfl, rfl, rfl⟩ (by (repeat (first | exact List.Sublist.refl _ | exact List.nil_sublist _ | apply List.Sublist.cons_cons | apply List.Sublist.cons)); done) ?_
      intro t hst
      dsimp only [zipE, setAll, List.cons_append, List.nil_append, List.set_cons_zero, List.set_cons_succ] at hst ⊢
      have hlp := hst
      refine W.seq ?_
      refine W.region _ ?_
      refine WG.run tab_ok 1 rfl ?_
      refine WG.nil ?_
      refine WE.nxt ?_
      refine W.seq ?_
      refine W.condD rfl (fun hc1 => ?_) (fun hc1 => ?_)
      · try dsimp only at hc1
        have htn : t < from_ + per := by omega
        have hpl := partV_len (restF cap (normR cg)) (t := t) (n := from_ + per) (by omega)
        have hset := partV_set (restF cap (normR cg)) htn
        have hr1 := hfr t (by omega)
        have hm1 := hmr t (by omega)
        have ht1 := htr t (by omega)
        have hval := rest_vals (cap := cap) (b := normR cg) (s := (stN (normR cg))) (t := t)
        refine W.skip ?_
        refine WE.nxt ?_
        refine W.seq ?_
        refine W.block ?_
        refine W.seq ?_
        refine W.region _ ?_
        refine WG.run tab_ok 2 rfl ?_
        refine WG.nil ?_
        refine WE.nxt ?_
        refine W.seq ?_
        refine W.region _ ?_
        refine' WG.y rfl rfl (by decide) (Yl.load1 tab_ok rfl rfl rfl (fun _ => rfl) ?r6 rfl ?h6) ?_
        case r6 => (first | exact Rd.ro (by assumption) | exact Rd.blk 0 rfl | exact Rd.blk 1 rfl | exact Rd.blk 2 rfl | exact Rd.blk 3 rfl | exact Rd.blk 4 rfl | exact Rd.blk 5 rfl | exact Rd.blk 6 rfl | exact Rd.blk 7 rfl)
        case h6 => rfl
        refine WG.run tab_ok 1 rfl ?_
        refine WG.callV en146 rfl rfl (by decide) (CallOp.mk' rfl rfl rfl rfl) (fun _ => rfl) (fun hg => RawG_V hcap hx1 hng.valid hx2 (by omega)) ?_
        refine WG.run tab_ok 1 rfl ?_
        refine WG.nil ?_
        refine WE.nxt ?_
        refine W.seq ?_
        refine W.seq ?_
        refine W.region _ ?_
        refine WG.run tab_ok 2 rfl ?_
        refine' WG.y rfl rfl (by decide) (Yl.load1 tab_ok rfl rfl rfl (fun _ => rfl) ?r7 rfl ?h7) ?_
        case r7 => apply Rd.add; (first | exact Rd.ro (by assumption) | exact Rd.blk 0 rfl | exact Rd.blk 1 rfl | exact Rd.blk 2 rfl | exact Rd.blk 3 rfl | exact Rd.blk 4 rfl | exact Rd.blk 5 rfl | exact Rd.blk 6 rfl | exact Rd.blk 7 rfl)
        case h7 => rfl
        refine WG.run tab_ok 1 rfl ?_
        refine WG.nil ?_
        refine WE.nxt ?_
        refine W.condD rfl (fun hc2 => ?_) (fun hc2 => ?_)
        · try dsimp only at hc2
          have hge : (stN (normR cg)) ≤ t := by omega
          have htl : (if tailV (rawL cap (normR cg)) (stN (normR cg)) t < (rawL cap (normR cg)) t then (rawL cap (normR cg)) t else tailV (rawL cap (normR cg)) (stN (normR cg)) t) = tailV (rawL cap (normR cg)) (stN (normR cg)) (t + 1) := by rw [tailV_succ hge (by unfold INF; omega)]; split <;> omega
          have hms := mostV_high (f := (rawL cap (normR cg))) hge
          rw [hms] at hval
          have hvx : (if mostV (rawL cap (normR cg)) (stN (normR cg)) t < tailV (rawL cap (normR cg)) (stN (normR cg)) (t + 1) then tailV (rawL cap (normR cg)) (stN (normR cg)) (t + 1) else mostV (rawL cap (normR cg)) (stN (normR cg)) t) = (restF cap (normR cg)) t := by rw [← hval]; split <;> omega
          refine W.region _ ?_
          refine WG.run tab_ok 4 rfl ?_
          rw [htl]
          refine WG.nil ?_
          refine WE.nxt ?_
          refine W.seq ?_
          refine W.region _ ?_
          refine' WG.y rfl rfl (by decide) (Yl.load1 tab_ok rfl rfl rfl (fun _ => rfl) ?r8 rfl ?h8) ?_
          case r8 => (first | exact Rd.ro (by assumption) | exact Rd.blk 0 rfl | exact Rd.blk 1 rfl | exact Rd.blk 2 rfl | exact Rd.blk 3 rfl | exact Rd.blk 4 rfl | exact Rd.blk 5 rfl | exact Rd.blk 6 rfl | exact Rd.blk 7 rfl)
          case h8 => rfl
          refine WG.run tab_ok 4 rfl ?_
          rw [hvx]
          refine WG.y rfl rfl (by decide) (Yl.indexN tab_ok rfl rfl rfl rfl rfl rfl (fun _ => rfl) (by intro _; (try dsimp only) <;> omega) (by intro _; first | exact fun _ _ _ _ => rfl | exact RS.has (by assumption) | exact fun _ _ _ _ => (by assumption) | exact HasMem.ownD 0 rfl | exact HasMem.ownD 1 rfl | exact HasMem.ownD 2 rfl | exact HasMem.ownD 3 rfl | exact HasMem.ownD 4 rfl | exact HasMem.ownD 5 rfl | exact HasMem.ownD 6 rfl | exact HasMem.ownD 7 rfl)) ?_
          first | refine WL.efN rfl rfl (Ef.storeD _ 0 tab_ok rfl rfl rfl rfl rfl (by (try dsimp only) <;> omega) rfl rfl rfl rfl ?_) | refine WL.efN rfl rfl (Ef.storeD _ 1 tab_ok rfl rfl rfl rfl rfl (by (try dsimp only) <;> omega) rfl rfl rfl rfl ?_) | refine WL.efN rfl rfl (Ef.storeD _ 2 tab_ok rfl rfl rfl rfl rfl (by (try dsimp only) <;> omega) rfl rfl rfl rfl ?_) | refine WL.efN rfl rfl (Ef.storeD _ 3 tab_ok rfl rfl rfl rfl rfl (by (try dsimp only) <;> omega) rfl rfl rfl rfl ?_) | refine WL.efN rfl rfl (Ef.storeD _ 4 tab_ok rfl rfl rfl rfl rfl (by (try dsimp only) <;> omega) rfl rfl rfl rfl ?_) | refine WL.efN rfl rfl (Ef.storeD _ 5 tab_ok rfl rfl rfl rfl rfl (by (try dsimp only) <;> omega) rfl rfl rfl rfl ?_) | refine WL.efN rfl rfl (Ef.storeD _ 6 tab_ok rfl rfl rfl rfl rfl (by (try dsimp only) <;> omega) rfl rfl rfl rfl ?_) | refine WL.efN rfl rfl (Ef.storeD _ 7 tab_ok rfl rfl rfl rfl rfl (by (try dsimp only) <;> omega) rfl rfl rfl rfl ?_)
          refine WG.nil ?_
          refine WE.nxt ?_
          refine W.seq ?_
          refine W.region _ ?_
          refine WG.run tab_ok 4 rfl ?_
          refine WG.y rfl rfl (by decide) (pureV_ok tab_ok rfl (by first | exact fun _ => rfl | exact fun h => h | (intro h; simp_all))) ?_
          refine WG.y rfl rfl (by decide) (pureV_ok tab_ok rfl (by first | exact fun _ => rfl | exact fun h => h | (intro h; simp_all))) ?_
          refine WG.y rfl rfl (by decide) (Yl.pand rfl rfl rfl (fun _ => rfl) (by intro h1 h2; simp_all <;> omega)) ?_
          refine WG.run tab_ok 1 rfl ?_
          refine WG.y rfl rfl (by decide) (pureV_ok tab_ok rfl (by first | exact fun _ => rfl | exact fun h => h | (intro h; simp_all))) ?_
          refine WG.y rfl rfl (by decide) (pureV_ok tab_ok rfl (by first | exact fun _ => rfl | exact fun h => h | (intro h; simp_all))) ?_
          refine WG.y rfl rfl (by decide) (pureV_ok tab_ok rfl (by first | exact fun _ => rfl | exact fun h => h | (intro h; simp_all))) ?_
          refine WG.y rfl rfl (by decide) (Yl.pand rfl rfl rfl (fun _ => rfl) (by intro h1 h2; simp_all <;> omega)) ?_
          refine WG.nil ?_
          refine WE.nxt ?_
          refine W.cond rfl (fun hc3 => ?_) (fun hc3 => ?_)
          · try simp only [decide_eq_true_eq, decide_eq_false_iff_not, beq_iff_eq, bne_iff_ne, beq_eq_false_iff_ne, bne_eq_false_iff_eq, ne_eq, Bool.or_eq_true, Bool.or_eq_false_iff, Bool.and_eq_true, Bool.and_eq_false_imp, Bool.not_eq_true, Bool.not_eq_true', Bool.not_eq_false', Classical.not_not, Int.not_lt, Int.not_le, gt_iff_lt, ge_iff_le] at hc3
            have hd : restC cap cg = (zcv, 3) := by
              unfold restC
              rw [if_neg (by rw [hvg]; simp)]
              rcases hcs with ⟨h1, rfl, rfl, rfl⟩ | ⟨h1, rfl, rfl, rfl⟩
              · obtain rfl : t = 400 := by omega
                rw [if_pos h1, if_pos]
                have h2 := hc3.2
                unfold tailV mostV at h2
                rw [if_neg (by omega), show 400 + 1 - 1 - (stN (normR cg)) = 400 - (stN (normR cg)) by omega, show min 400 (stN (normR cg)) = (stN (normR cg)) by omega] at h2
                exact h2
              · omega
            refine W.seq ?_
            refine W.region _ ?_
            -- build
            refine WG.y rfl rfl (by decide) (Yl.build (parts := []) tab_ok rfl rfl rfl rfl (fun _ => rfl) rfl rfl) ?_
            first | refine WL.efN rfl rfl (Ef.store0 0 tab_ok rfl rfl rfl rfl rfl rfl rfl rfl ?_) | refine WL.efN rfl rfl (Ef.store0 1 tab_ok rfl rfl rfl rfl rfl rfl rfl rfl ?_) | refine WL.efN rfl rfl (Ef.store0 2 tab_ok rfl rfl rfl rfl rfl rfl rfl rfl ?_) | refine WL.efN rfl rfl (Ef.store0 3 tab_ok rfl rfl rfl rfl rfl rfl rfl rfl ?_) | refine WL.efN rfl rfl (Ef.store0 4 tab_ok rfl rfl rfl rfl rfl rfl rfl rfl ?_) | refine WL.efN rfl rfl (Ef.store0 5 tab_ok rfl rfl rfl rfl rfl rfl rfl rfl ?_) | refine WL.efN rfl rfl (Ef.store0 6 tab_ok rfl rfl rfl rfl rfl rfl rfl rfl ?_) | refine WL.efN rfl rfl (Ef.store0 7 tab_ok rfl rfl rfl rfl rfl rfl rfl rfl ?_)
            refine WG.run tab_ok 1 rfl ?_
            refine WG.nil ?_
            refine WE.nxt ?_
            refine W.ret ?_
            refine WE.blk_ret ?_
            refine WE.then_ret ?_
            refine WE.then_ret ?_
            refine WE.blk_ret ?_
            refine WE.then_ret ?_
            refine WE.retF tab_ok [_, _] rfl ⟨⟨_, _, _, rfl, rfl, rfl, ((by first | exact Rd.blk 0 rfl | exact Rd.blk 1 rfl | exact Rd.blk 2 rfl | exact Rd.blk 3 rfl | exact Rd.blk 4 rfl | exact Rd.blk 5 rfl | exact Rd.blk 6 rfl | exact Rd.blk 7 rfl)), rfl⟩, rfl, trivial⟩ ((by first | exact hR1 | exact hR1.trans (hR2.trans (hR3.trans hR4)))) ?_
            exact ⟨none, 0, by rw [hd]; rfl, by rw [hd]; exact rs_nil, (by (repeat (first | exact List.Sublist.refl _ | exact List.nil_sublist _ | apply List.Sublist.cons_cons | apply List.Sublist.cons)); done)⟩
          · try simp only [decide_eq_true_eq, decide_eq_false_iff_not, beq_iff_eq, bne_iff_ne, beq_eq_false_iff_ne, bne_eq_false_iff_eq, ne_eq, Bool.or_eq_true, Bool.or_eq_false_iff, Bool.and_eq_true, Bool.and_eq_false_imp, Bool.not_eq_true, Bool.not_eq_true', Bool.not_eq_false', Classical.not_not, Int.not_lt, Int.not_le, gt_iff_lt, ge_iff_le] at hc3
            have hnx : (finB (normR cg) = true ∧ 0 < driftL cap (normR cg)) → 400 < t + 1 → ¬ tailF (rawL cap (normR cg)) (stN (normR cg)) (400 - (stN (normR cg))) < mostF (rawL cap (normR cg)) (stN (normR cg)) := fun h1 h2 => by
              by_cases e : t = 400
              · subst e
                rcases hcs with ⟨_, rfl, rfl, rfl⟩ | ⟨h3, _⟩
                · intro h4
                  have h5 : ¬ tailV (rawL cap (normR cg)) (stN (normR cg)) (400 + 1) < mostV (rawL cap (normR cg)) (stN (normR cg)) 400 := fun hh => by
                    first | exact hc3 ⟨⟨rfl, h1.2⟩, hh⟩ | (have := hc3 ⟨rfl, h1.2⟩; omega) | (have := hc3 rfl h1.2; omega)
                  unfold tailV mostV at h5
                  rw [if_neg (by omega), show 400 + 1 - 1 - (stN (normR cg)) = 400 - (stN (normR cg)) by omega, show min 400 (stN (normR cg)) = (stN (normR cg)) by omega] at h5
                  exact h5 h4
                · exact absurd h1 h3
              · exact hlp.2 h1 (by omega)
            refine W.skip ?_
            refine WE.blk _ ?_
            refine WE.nxt ?_
            refine W.region _ ?_
            refine WG.y rfl rfl (by decide) (Yl.add rfl rfl rfl (fun _ => rfl) (by intro _; constructor <;> (try dsimp only) <;> omega)) ?_
            refine WG.run tab_ok 1 rfl ?_
            refine WG.nil ?_
            refine WE.again (t + 1) (⟨by omega, hnx⟩) (by (try dsimp only); omega) ⟨vint hms.symm, rfl, rfl, rfl, rfl, rfl, rfl, rfl, rfl, rfl, rfl⟩ (RLe.refl _) (by dsimp only [setAll, List.set_cons_zero, List.set_cons_succ]; rw [hset]; exact List.Sublist.refl _)
        · try dsimp only at hc2
          have hlt : t < (stN (normR cg)) := by omega
          have hml : (if mostV (rawL cap (normR cg)) (stN (normR cg)) t < (rawL cap (normR cg)) t then (rawL cap (normR cg)) t else mostV (rawL cap (normR cg)) (stN (normR cg)) t) = mostV (rawL cap (normR cg)) (stN (normR cg)) (t + 1) := by rw [mostV_succ hlt]; split <;> omega
          have hts := tailV_low (f := (rawL cap (normR cg))) hlt
          rw [hts] at hval
          have hvx : (if mostV (rawL cap (normR cg)) (stN (normR cg)) (t + 1) < tailV (rawL cap (normR cg)) (stN (normR cg)) t then tailV (rawL cap (normR cg)) (stN (normR cg)) t else mostV (rawL cap (normR cg)) (stN (normR cg)) (t + 1)) = (restF cap (normR cg)) t := by rw [← hval]; split <;> omega
          refine W.region _ ?_
          refine WG.run tab_ok 4 rfl ?_
          rw [hml]
          refine WG.nil ?_
          refine WE.nxt ?_
          refine W.seq ?_
          refine W.region _ ?_
          refine' WG.y rfl rfl (by decide) (Yl.load1 tab_ok rfl rfl rfl (fun _ => rfl) ?r9 rfl ?h9) ?_
          case r9 => (first | exact Rd.ro (by assumption) | exact Rd.blk 0 rfl | exact Rd.blk 1 rfl | exact Rd.blk 2 rfl | exact Rd.blk 3 rfl | exact Rd.blk 4 rfl | exact Rd.blk 5 rfl | exact Rd.blk 6 rfl | exact Rd.blk 7 rfl)
          case h9 => rfl
          refine WG.run tab_ok 4 rfl ?_
          rw [hvx]
          refine WG.y rfl rfl (by decide) (Yl.indexN tab_ok rfl rfl rfl rfl rfl rfl (fun _ => rfl) (by intro _; (try dsimp only) <;> omega) (by intro _; first | exact fun _ _ _ _ => rfl | exact RS.has (by assumption) | exact fun _ _ _ _ => (by assumption) | exact HasMem.ownD 0 rfl | exact HasMem.ownD 1 rfl | exact HasMem.ownD 2 rfl | exact HasMem.ownD 3 rfl | exact HasMem.ownD 4 rfl | exact HasMem.ownD 5 rfl | exact HasMem.ownD 6 rfl | exact HasMem.ownD 7 rfl)) ?_
          first | refine WL.efN rfl rfl (Ef.storeD _ 0 tab_ok rfl rfl rfl rfl rfl (by (try dsimp only) <;> omega) rfl rfl rfl rfl ?_) | refine WL.efN rfl rfl (Ef.storeD _ 1 tab_ok rfl rfl rfl rfl rfl (by (try dsimp only) <;> omega) rfl rfl rfl rfl ?_) | refine WL.efN rfl rfl (Ef.storeD _ 2 tab_ok rfl rfl rfl rfl rfl (by (try dsimp only) <;> omega) rfl rfl rfl rfl ?_) | refine WL.efN rfl rfl (Ef.storeD _ 3 tab_ok rfl rfl rfl rfl rfl (by (try dsimp only) <;> omega) rfl rfl rfl rfl ?_) | refine WL.efN rfl rfl (Ef.storeD _ 4 tab_ok rfl rfl rfl rfl rfl (by (try dsimp only) <;> omega) rfl rfl rfl rfl ?_) | refine WL.efN rfl rfl (Ef.storeD _ 5 tab_ok rfl rfl rfl rfl rfl (by (try dsimp only) <;> omega) rfl rfl rfl rfl ?_) | refine WL.efN rfl rfl (Ef.storeD _ 6 tab_ok rfl rfl rfl rfl rfl (by (try dsimp only) <;> omega) rfl rfl rfl rfl ?_) | refine WL.efN rfl rfl (Ef.storeD _ 7 tab_ok rfl rfl rfl rfl rfl (by (try dsimp only) <;> omega) rfl rfl rfl rfl ?_)
          refine WG.nil ?_
          refine WE.nxt ?_
          refine W.seq ?_
          refine W.region _ ?_
          refine WG.run tab_ok 4 rfl ?_
          refine WG.y rfl rfl (by decide) (pureV_ok tab_ok rfl (by first | exact fun _ => rfl | exact fun h => h | (intro h; simp_all))) ?_
          refine WG.y rfl rfl (by decide) (pureV_ok tab_ok rfl (by first | exact fun _ => rfl | exact fun h => h | (intro h; simp_all))) ?_
          refine WG.y rfl rfl (by decide) (Yl.pand rfl rfl rfl (fun _ => rfl) (by intro h1 h2; simp_all <;> omega)) ?_
          refine WG.run tab_ok 1 rfl ?_
          refine WG.y rfl rfl (by decide) (pureV_ok tab_ok rfl (by first | exact fun _ => rfl | exact fun h => h | (intro h; simp_all))) ?_
          refine WG.y rfl rfl (by decide) (pureV_ok tab_ok rfl (by first | exact fun _ => rfl | exact fun h => h | (intro h; simp_all))) ?_
          refine WG.y rfl rfl (by decide) (pureV_ok tab_ok rfl (by first | exact fun _ => rfl | exact fun h => h | (intro h; simp_all))) ?_
          refine WG.y rfl rfl (by decide) (Yl.pand rfl rfl rfl (fun _ => rfl) (by intro h1 h2; simp_all <;> omega)) ?_
          refine WG.nil ?_
          refine WE.nxt ?_
          refine W.cond rfl (fun hc4 => ?_) (fun hc4 => ?_)
          · try simp only [decide_eq_true_eq, decide_eq_false_iff_not, beq_iff_eq, bne_iff_ne, beq_eq_false_iff_ne, bne_eq_false_iff_eq, ne_eq, Bool.or_eq_true, Bool.or_eq_false_iff, Bool.and_eq_true, Bool.and_eq_false_imp, Bool.not_eq_true, Bool.not_eq_true', Bool.not_eq_false', Classical.not_not, Int.not_lt, Int.not_le, gt_iff_lt, ge_iff_le] at hc4
            exfalso; rcases hcs with ⟨h1, rfl, rfl, rfl⟩ | ⟨h1, rfl, rfl, rfl⟩ <;> omega
          · try simp only [decide_eq_true_eq, decide_eq_false_iff_not, beq_iff_eq, bne_iff_ne, beq_eq_false_iff_ne, bne_eq_false_iff_eq, ne_eq, Bool.or_eq_true, Bool.or_eq_false_iff, Bool.and_eq_true, Bool.and_eq_false_imp, Bool.not_eq_true, Bool.not_eq_true', Bool.not_eq_false', Classical.not_not, Int.not_lt, Int.not_le, gt_iff_lt, ge_iff_le] at hc4
            have hnx : (finB (normR cg) = true ∧ 0 < driftL cap (normR cg)) → 400 < t + 1 → ¬ tailF (rawL cap (normR cg)) (stN (normR cg)) (400 - (stN (normR cg))) < mostF (rawL cap (normR cg)) (stN (normR cg)) := fun h1 h2 => hlp.2 h1 (by omega)
            refine W.skip ?_
            refine WE.blk _ ?_
            refine WE.nxt ?_
            refine W.region _ ?_
            refine WG.y rfl rfl (by decide) (Yl.add rfl rfl rfl (fun _ => rfl) (by intro _; constructor <;> (try dsimp only) <;> omega)) ?_
            refine WG.run tab_ok 1 rfl ?_
            refine WG.nil ?_
            refine WE.again (t + 1) (⟨by omega, hnx⟩) (by (try dsimp only); omega) ⟨rfl, vint hts.symm, rfl, rfl, rfl, rfl, rfl, rfl, rfl, rfl, rfl⟩ (RLe.refl _) (by dsimp only [setAll, List.set_cons_zero, List.set_cons_succ]; rw [hset]; exact List.Sublist.refl _)
      · try dsimp only at hc1
        obtain rfl : t = from_ + per := by omega
        rw [partV_all]
        have hd : restC cap cg = mbuild (restF cap (normR cg)) from_ per inc := by
          unfold restC
          rw [if_neg (by rw [hvg]; simp)]
          rcases hcs with ⟨h1, rfl, rfl, rfl⟩ | ⟨h1, rfl, rfl, rfl⟩
          · rw [if_pos h1, if_neg (hlp.2 h1 (by omega))]
          · rw [if_neg h1]
        have hrb : ∀ t : Nat, t ≤ 1000 → 0 ≤ (restF cap (normR cg)) t ∧ (restF cap (normR cg)) t ≤ 1000000000000000 := fun t ht => by
          have h1 := restF_bound (cap := cap) (b := normR cg) (by omega) hng.valid t
          have h2 := mulB (a := cap) (b := (t : Int)) (A := 4000) (B := 1000) (by omega) (by omega)
          omega
        refine W.exit ?_
        refine WE.then_exit ?_
        refine WE.then_exit ?_
        refine WE.blk_exit ?_
        refine WE.nxt ?_
        refine W.freeze (enc := encI) (xs := fvals (restF cap (normR cg)) (from_ + per)) 1 rfl ?_
        intro R2 hR2 hxs
        refine W.freezeBlk 0 rfl ?_
        intro R3 hR3 h11
        have hxs := hxs.mono hR3
        have hfl := fvals_len (restF cap (normR cg)) (from_ + per)
        have h11' := h11
        rw [← hfl] at h11'
        have hF : ∀ t : Nat, t < from_ + per → FnV Try.prog 147 ((#[] : Array Value).toList ++ [.int .i64 (t : Int)] ++ (#[.pointer (some ⟨b11, 0, none⟩)] : Array Value).toList) R3 (.int .i64 ((restF cap (normR cg)) t)) := fun t ht => by
          have h := RestF_V h11' hxs (t := t) (by omega)
          rw [fvals_nth _ ht] at h
          exact h
        refine W.seq ?_
        refine W.region _ ?_
        refine WG.run tab_ok 4 rfl ?_
        refine WL.call en81 rfl rfl (by decide) (CallOp.mkT rfl rfl rfl rfl) (Build_C (S := from_) (P := per) (I := inc) (F := (restF cap (normR cg))) en147 (by omega) (by omega) (by omega) (fun t ht => .inr (hrb t (by omega))) hF w0 _) ?_
        rintro _ R4 E4 hR4 ⟨fr, frc, rfl, hfr4, hsub⟩
        refine WL.subE hsub ?_
        rw [← hd] at hfr4 ⊢
        unfold cvV
        refine WG.run tab_ok 2 rfl ?_
        first | refine WL.efN rfl rfl (Ef.store0 0 tab_ok rfl rfl rfl rfl rfl rfl rfl rfl ?_) | refine WL.efN rfl rfl (Ef.store0 1 tab_ok rfl rfl rfl rfl rfl rfl rfl rfl ?_) | refine WL.efN rfl rfl (Ef.store0 2 tab_ok rfl rfl rfl rfl rfl rfl rfl rfl ?_) | refine WL.efN rfl rfl (Ef.store0 3 tab_ok rfl rfl rfl rfl rfl rfl rfl rfl ?_) | refine WL.efN rfl rfl (Ef.store0 4 tab_ok rfl rfl rfl rfl rfl rfl rfl rfl ?_) | refine WL.efN rfl rfl (Ef.store0 5 tab_ok rfl rfl rfl rfl rfl rfl rfl rfl ?_) | refine WL.efN rfl rfl (Ef.store0 6 tab_ok rfl rfl rfl rfl rfl rfl rfl rfl ?_) | refine WL.efN rfl rfl (Ef.store0 7 tab_ok rfl rfl rfl rfl rfl rfl rfl rfl ?_)
        refine WG.run tab_ok 1 rfl ?_
        refine WG.nil ?_
        refine WE.nxt ?_
        refine W.ret ?_
        refine WE.retF tab_ok [_, _] rfl ⟨⟨_, _, _, rfl, rfl, rfl, ((by first | exact Rd.blk 0 rfl | exact Rd.blk 1 rfl | exact Rd.blk 2 rfl | exact Rd.blk 3 rfl | exact Rd.blk 4 rfl | exact Rd.blk 5 rfl | exact Rd.blk 6 rfl | exact Rd.blk 7 rfl)), rfl⟩, rfl, trivial⟩ ((by first | exact hR1 | exact hR1.trans (hR2.trans (hR3.trans hR4)))) ?_
        exact ⟨fr, frc, rfl, hfr4, (by (repeat (first | exact List.Sublist.refl _ | exact List.nil_sublist _ | apply List.Sublist.cons_cons | apply List.Sublist.cons)); done)⟩
    ·
      refine W.seq ?_
      refine W.region _ ?_
      refine WG.run tab_ok 1 rfl ?_
      refine' WG.y rfl rfl (by decide) (Yl.load1 tab_ok rfl rfl rfl (fun _ => rfl) ?r10 rfl ?h10) ?_
      case r10 => apply Rd.add; (first | exact Rd.ro (by assumption) | exact Rd.blk 0 rfl | exact Rd.blk 1 rfl | exact Rd.blk 2 rfl | exact Rd.blk 3 rfl | exact Rd.blk 4 rfl | exact Rd.blk 5 rfl | exact Rd.blk 6 rfl | exact Rd.blk 7 rfl)
      case h10 => rfl
      refine WG.callV (v := .bool true) en145 rfl rfl (by decide) (CallOp.mk' rfl rfl rfl rfl) (fun _ => rfl) (fun hg => by have h := WFiniteG_V (fc := c1) hln.valid hx1; rw [hlf] at h; exact h) ?_
      refine WG.run tab_ok 1 rfl ?_
      refine WG.y rfl rfl (by decide) (pureV_ok tab_ok rfl (by first | exact fun _ => rfl | exact fun h => h | (intro h; simp_all))) ?_
      refine' WG.y rfl rfl (by decide) (Yl.loadG tab_ok rfl rfl rfl (by first | exact fun _ => rfl | exact fun h => h | (intro h; simp_all)) ?r11 rfl ?h11 ?g11) ?_
      case r11 => apply Rd.addC; (first | exact fun _ => Rd.ro (by assumption) | exact Rd.blkC 0 rfl | exact Rd.blkC 1 rfl | exact Rd.blkC 2 rfl | exact Rd.blkC 3 rfl | exact Rd.blkC 4 rfl | exact Rd.blkC 5 rfl | exact Rd.blkC 6 rfl | exact Rd.blkC 7 rfl)
      case h11 => rfl
      case g11 => first | exact fun _ => trivial | (intro hg; (try simp only [decide_eq_true_eq, decide_eq_false_iff_not, beq_iff_eq, bne_iff_ne, beq_eq_false_iff_ne, bne_eq_false_iff_eq, ne_eq, Bool.or_eq_true, Bool.or_eq_false_iff, Bool.and_eq_true, Bool.and_eq_false_imp, Bool.not_eq_true, Bool.not_eq_true', Bool.not_eq_false', Classical.not_not, Int.not_lt, Int.not_le, gt_iff_lt, ge_iff_le] at hg); (try dsimp only); omega)
      refine WG.callV en145 rfl rfl (by decide) (CallOp.mk' rfl rfl rfl rfl) (by first | exact fun _ => rfl | exact fun h => h | (intro h; simp_all)) (fun hg => WFiniteG_V hng.valid hx2) ?_
      refine WG.y rfl rfl (by decide) (Yl.pand rfl rfl rfl (fun _ => rfl) (by intro h1 h2; simp_all <;> omega)) ?_
      refine WG.run tab_ok 1 rfl ?_
      refine WG.y rfl rfl (by decide) (pureV_ok tab_ok rfl (by first | exact fun _ => rfl | exact fun h => h | (intro h; simp_all))) ?_
      refine' WG.y rfl rfl (by decide) (Yl.loadG tab_ok rfl rfl rfl (by first | exact fun _ => rfl | exact fun h => h | (intro h; simp_all)) ?r12 rfl ?h12 ?g12) ?_
      case r12 => apply Rd.addC; (first | exact fun _ => Rd.ro (by assumption) | exact Rd.blkC 0 rfl | exact Rd.blkC 1 rfl | exact Rd.blkC 2 rfl | exact Rd.blkC 3 rfl | exact Rd.blkC 4 rfl | exact Rd.blkC 5 rfl | exact Rd.blkC 6 rfl | exact Rd.blkC 7 rfl)
      case h12 => rfl
      case g12 => first | exact fun _ => trivial | (intro hg; (try simp only [decide_eq_true_eq, decide_eq_false_iff_not, beq_iff_eq, bne_iff_ne, beq_eq_false_iff_ne, bne_eq_false_iff_eq, ne_eq, Bool.or_eq_true, Bool.or_eq_false_iff, Bool.and_eq_true, Bool.and_eq_false_imp, Bool.not_eq_true, Bool.not_eq_true', Bool.not_eq_false', Classical.not_not, Int.not_lt, Int.not_le, gt_iff_lt, ge_iff_le] at hg); (try dsimp only); omega)
      refine WG.y rfl rfl (by decide) (pureV_ok tab_ok rfl (by first | exact fun _ => rfl | exact fun h => h | (intro h; simp_all))) ?_
      refine WG.y rfl rfl (by decide) (Yl.pand rfl rfl rfl (fun _ => rfl) (by intro h1 h2; simp_all <;> omega)) ?_
      refine WG.nil ?_
      refine WE.nxt ?_
      refine W.cond rfl (fun hc5 => ?_) (fun hc5 => ?_)
      · try simp only [decide_eq_true_eq, decide_eq_false_iff_not, beq_iff_eq, bne_iff_ne, beq_eq_false_iff_ne, bne_eq_false_iff_eq, ne_eq, Bool.or_eq_true, Bool.or_eq_false_iff, Bool.and_eq_true, Bool.and_eq_false_imp, Bool.not_eq_true, Bool.not_eq_true', Bool.not_eq_false', Classical.not_not, Int.not_lt, Int.not_le, gt_iff_lt, ge_iff_le] at hc5
        obtain ⟨_, m1, m2, _⟩ := line_facts (cap := cap) (by omega)
        have hdc : (finB (normR cg) = true ∧ 0 < driftL cap (normR cg)) := by first | exact ⟨hc5.1.2, hc5.2⟩ | exact hc5 | exact ⟨hc5.1, hc5.2⟩
        have hmx4 : (if (400 : Int) < (stN (normR cg) : Int) + (normR cg).per then (stN (normR cg) : Int) + (normR cg).per else (400 : Int)) = 400 := if_neg (by omega)
        refine W.regionQ _ mixed (by kernel_rfl) ?_
        refine WG.run tab_ok 3 rfl ?_
        refine' WG.y rfl rfl (by decide) (Yl.load1 tab_ok rfl rfl rfl (fun _ => rfl) ?r13 rfl ?h13) ?_
        case r13 => apply Rd.add; (first | exact Rd.ro (by assumption) | exact Rd.blk 0 rfl | exact Rd.blk 1 rfl | exact Rd.blk 2 rfl | exact Rd.blk 3 rfl | exact Rd.blk 4 rfl | exact Rd.blk 5 rfl | exact Rd.blk 6 rfl | exact Rd.blk 7 rfl)
        case h13 => rfl
        refine WG.run tab_ok 1 rfl ?_
        refine' WG.y rfl rfl (by decide) (Yl.load1 tab_ok rfl rfl rfl (fun _ => rfl) ?r14 rfl ?h14) ?_
        case r14 => apply Rd.add; (first | exact Rd.ro (by assumption) | exact Rd.blk 0 rfl | exact Rd.blk 1 rfl | exact Rd.blk 2 rfl | exact Rd.blk 3 rfl | exact Rd.blk 4 rfl | exact Rd.blk 5 rfl | exact Rd.blk 6 rfl | exact Rd.blk 7 rfl)
        case h14 => rfl
        refine WG.run tab_ok 3 rfl ?_
        refine WG.nil ?_
        refine WE.cut (400, (normR cg).per.toNat, driftL cap (normR cg)) (.inl ⟨hdc, rfl, rfl, rfl⟩) ⟨rfl, rfl, vint (by rw [hmx4]; rfl), vint hperI.symm, rfl, rfl⟩ (RLe.refl _) (by (repeat (first | exact List.Sublist.refl _ | exact List.nil_sublist _ | apply List.Sublist.cons_cons | apply List.Sublist.cons)); done)
      · try simp only [decide_eq_true_eq, decide_eq_false_iff_not, beq_iff_eq, bne_iff_ne, beq_eq_false_iff_ne, bne_eq_false_iff_eq, ne_eq, Bool.or_eq_true, Bool.or_eq_false_iff, Bool.and_eq_true, Bool.and_eq_false_imp, Bool.not_eq_true, Bool.not_eq_true', Bool.not_eq_false', Classical.not_not, Int.not_lt, Int.not_le, gt_iff_lt, ge_iff_le] at hc5
        have hdc : ¬ (finB (normR cg) = true ∧ 0 < driftL cap (normR cg)) := fun h => by first | exact hc5 h | exact hc5 h.1 h.2 | (have := hc5 h.1; have := h.2; omega) | (have := hc5 ⟨rfl, h.1⟩; have := h.2; omega) | (have := hc5 ⟨trivial, h.1⟩; have := h.2; omega) | (have := hc5 rfl h.1; have := h.2; omega)
        refine W.skip ?_
        refine WE.cut (stN (normR cg) + (normR cg).per.toNat, 1, 0) (.inr ⟨hdc, rfl, rfl, rfl⟩) ⟨rfl, rfl, vint (by omega), rfl, rfl, rfl⟩ (RLe.refl _) (by (repeat (first | exact List.Sublist.refl _ | exact List.nil_sublist _ | apply List.Sublist.cons_cons | apply List.Sublist.cons)); done)

end Go.Proofs.Ytnaeefefggmomaa

/- Chapter 18: the curve of a class. No condition. -/
set_option linter.unusedSimpArgs false
set_option linter.unusedVariables false
namespace Go.Proofs.Ytnaeefefggmomaa
open Go Go.RowKit Go.Proofs.Ytnaeefefggmomaa.K Go.Proofs.Ytnaeefefggmomaa.M

theorem PTotal_len {R : Ro} {la : Option Addr} {lc l : Nat} {ls : List CvS} (hl : ls.length = l) (hla : RS R 3 encC la ls) (hls : ∀ x ∈ ls, RS R 1 encI x.a x.cv.vals ∧ validB x.cv = true) (w0 : World) (E : List Ent) : K.Fn Try.prog 98 [.slice la l lc] w0 R E (fun r R' E' => ∃ (f : Option Addr) (fc : Nat), r = cvV f fc (totalC (ls.map CvS.cv)) ∧ RS R' 1 encI f (totalC (ls.map CvS.cv)).1.vals ∧ E.Sublist E') := by
  subst hl; exact PTotal_C hla hls w0 E

set_option maxHeartbeats 1000000 in
theorem PCurve_C {R : Ro} {la za : Option Addr} {lc zc : Nat} {ls : List CvS} {z : List Sz} (hla : RS R 3 encC la ls) (hlc : ls.length ≤ lc) (hls : ∀ x ∈ ls, RS R 1 encI x.a x.cv.vals ∧ x.cv.vals.length ≤ 100000) (hzr : RS R 2 encZ za z) (hzc : z.length ≤ zc) {cap cls : Int} (w0 : World) (E : List Ent) : K.Fn Try.prog 48 [.int .i64 cap, .int .i64 cls, .slice la ls.length lc, .slice za z.length zc] w0 R E (fun r R' E' => ∃ (f : Option Addr) (fc : Nat), r = cvV f fc (prioC cap cls (ls.map CvS.cv) z) ∧ RS R' 1 encI f (prioC cap cls (ls.map CvS.cv) z).1.vals ∧ E.Sublist E') := by
  have hll := hla.len
  have hlz := hzr.len
  refine Fn.enter (n := 92) Try.func48 rfl rfl (Nat.le_of_ble_eq_true rfl) rfl ?_
  refine W.seq ?_
  refine W.region _ ?_
  refine WL.ef rfl rfl (by decide) (Ef.alloc tab_ok rfl rfl (fun b8 => ?_))
  refine WG.run tab_ok 1 rfl ?_
  refine WG.nil ?_
  refine WE.nxt ?_
  refine W.seq ?_
  refine W.seq ?_
  refine W.region _ ?_
  refine WG.run tab_ok 3 rfl ?_
  refine WG.callV en50 rfl rfl (by decide) (CallOp.mk' rfl rfl rfl rfl) (fun _ => rfl) (fun hg => CheckP_V hzr) ?_
  refine WG.run tab_ok 1 rfl ?_
  refine WG.nil ?_
  refine WE.nxt ?_
  refine W.seq ?_
  refine W.region _ ?_
  refine WG.run tab_ok 2 rfl ?_
  refine WG.nil ?_
  refine WE.nxt ?_
  refine W.condN rfl (fun hc0 => ?_) (fun hc0 => ?_)
  · try dsimp only at hc0
    have hd : (prioC cap cls (ls.map CvS.cv) z) = (zcv, chk18 cap cls z) := if_pos hc0
    refine W.seq ?_
    refine W.region _ ?_
    -- build
    refine WG.y rfl rfl (by decide) (Yl.build (parts := []) tab_ok rfl rfl rfl rfl (fun _ => rfl) rfl rfl) ?_
    refine WG.run tab_ok 1 rfl ?_
    first | refine WL.efN rfl rfl (Ef.store0 0 tab_ok rfl rfl rfl rfl rfl rfl rfl rfl ?_) | refine WL.efN rfl rfl (Ef.store0 1 tab_ok rfl rfl rfl rfl rfl rfl rfl rfl ?_) | refine WL.efN rfl rfl (Ef.store0 2 tab_ok rfl rfl rfl rfl rfl rfl rfl rfl ?_) | refine WL.efN rfl rfl (Ef.store0 3 tab_ok rfl rfl rfl rfl rfl rfl rfl rfl ?_) | refine WL.efN rfl rfl (Ef.store0 4 tab_ok rfl rfl rfl rfl rfl rfl rfl rfl ?_) | refine WL.efN rfl rfl (Ef.store0 5 tab_ok rfl rfl rfl rfl rfl rfl rfl rfl ?_) | refine WL.efN rfl rfl (Ef.store0 6 tab_ok rfl rfl rfl rfl rfl rfl rfl rfl ?_)
    refine WG.run tab_ok 1 rfl ?_
    refine WG.nil ?_
    refine WE.nxt ?_
    refine W.ret ?_
    refine WE.then_ret ?_
    refine WE.retF tab_ok [_, _] rfl ⟨⟨_, _, _, rfl, rfl, rfl, ((by first | exact Rd.blk 0 rfl | exact Rd.blk 1 rfl | exact Rd.blk 2 rfl | exact Rd.blk 3 rfl | exact Rd.blk 4 rfl | exact Rd.blk 5 rfl | exact Rd.blk 6 rfl)), rfl⟩, rfl, trivial⟩ ((by first | exact RLe.refl _ | exact hRm | exact hRm.trans (hR3.trans hR4))) ?_
    exact ⟨none, 0, by rw [hd]; rfl, by rw [hd]; exact rs_nil, (by (repeat (first | exact List.Sublist.refl _ | exact List.nil_sublist _ | apply List.Sublist.cons_cons | apply List.Sublist.cons)); done)⟩
  · try dsimp only at hc0
    obtain ⟨p1, p2, p3, p4, p5, hz⟩ := chk18_ok hc0
    have hmap : (ls.map CvS.cv).length = ls.length := by simp
    refine W.skip ?_
    refine WE.nxt ?_
    refine W.seq ?_
    refine W.seq ?_
    refine W.region _ ?_
    refine WG.run tab_ok 5 rfl ?_
    refine WG.nil ?_
    refine WE.nxt ?_
    refine W.condN rfl (fun hc1 => ?_) (fun hc1 => ?_)
    · try dsimp only at hc1
      have hd : (prioC cap cls (ls.map CvS.cv) z) = (zcv, 2) := by unfold prioC; rw [if_neg (fun h => h hc0), if_pos (by rw [hmap]; omega)]
      refine W.seq ?_
      refine W.region _ ?_
      -- build
      refine WG.y rfl rfl (by decide) (Yl.build (parts := []) tab_ok rfl rfl rfl rfl (fun _ => rfl) rfl rfl) ?_
      first | refine WL.efN rfl rfl (Ef.store0 0 tab_ok rfl rfl rfl rfl rfl rfl rfl rfl ?_) | refine WL.efN rfl rfl (Ef.store0 1 tab_ok rfl rfl rfl rfl rfl rfl rfl rfl ?_) | refine WL.efN rfl rfl (Ef.store0 2 tab_ok rfl rfl rfl rfl rfl rfl rfl rfl ?_) | refine WL.efN rfl rfl (Ef.store0 3 tab_ok rfl rfl rfl rfl rfl rfl rfl rfl ?_) | refine WL.efN rfl rfl (Ef.store0 4 tab_ok rfl rfl rfl rfl rfl rfl rfl rfl ?_) | refine WL.efN rfl rfl (Ef.store0 5 tab_ok rfl rfl rfl rfl rfl rfl rfl rfl ?_) | refine WL.efN rfl rfl (Ef.store0 6 tab_ok rfl rfl rfl rfl rfl rfl rfl rfl ?_)
      refine WG.run tab_ok 1 rfl ?_
      refine WG.nil ?_
      refine WE.nxt ?_
      refine W.ret ?_
      refine WE.then_ret ?_
      refine WE.retF tab_ok [_, _] rfl ⟨⟨_, _, _, rfl, rfl, rfl, ((by first | exact Rd.blk 0 rfl | exact Rd.blk 1 rfl | exact Rd.blk 2 rfl | exact Rd.blk 3 rfl | exact Rd.blk 4 rfl | exact Rd.blk 5 rfl | exact Rd.blk 6 rfl)), rfl⟩, rfl, trivial⟩ ((by first | exact RLe.refl _ | exact hRm | exact hRm.trans (hR3.trans hR4))) ?_
      exact ⟨none, 0, by rw [hd]; rfl, by rw [hd]; exact rs_nil, (by (repeat (first | exact List.Sublist.refl _ | exact List.nil_sublist _ | apply List.Sublist.cons_cons | apply List.Sublist.cons)); done)⟩
    · try dsimp only at hc1
      have hle : ls.length = z.length := by omega
      refine W.skip ?_
      refine WE.nxt ?_
      refine W.seq ?_
      refine W.seq ?_
      refine W.region _ ?_
      refine WG.run tab_ok 3 rfl ?_
      refine WG.nil ?_
      refine WE.nxt ?_
      refine W.block ?_
      refine W.loopK (β := Nat) (fun i => i ≤ ls.length ∧ ∀ j, j < i → validB (nth ls j).cv = true) (fun i => [(35, true, .int .i64 (i : Int))]) [0, 1, 2, 3, 8, 33, 34] [_, _, _, _, _, _, _] [] _ rfl (fun i => []) (fun i => ls.length - i) (0) (⟨Nat.zero_le _, fun j hj => by omega⟩) ⟨rfl, rfl, rfl, rfl, rfl, rfl, rfl, rfl, rfl⟩ (by (repeat (first | exact List.Sublist.refl _ | exact List.nil_sublist _ | apply List.Sublist.cons_cons | apply List.Sublist.cons)); done) ?_
      intro i hst
      dsimp only [zipE, setAll, List.cons_append, List.nil_append, List.set_cons_zero, List.set_cons_succ] at hst ⊢
      
      refine W.seq ?_
      refine W.region _ ?_
      refine WG.run tab_ok 1 rfl ?_
      refine WG.nil ?_
      refine WE.nxt ?_
      refine W.seq ?_
      refine W.condD rfl (fun hc2 => ?_) (fun hc2 => ?_)
      · try dsimp only at hc2
        have hil : i < ls.length := by omega
        have hxi := hls _ (nth_mem hil)
        refine W.skip ?_
        refine WE.nxt ?_
        refine W.seq ?_
        refine W.block ?_
        refine W.seq ?_
        refine W.region _ ?_
        refine WG.y rfl rfl (by decide) (Yl.indexN tab_ok rfl rfl rfl rfl rfl rfl (fun _ => rfl) (by intro _; (try dsimp only) <;> omega) (by intro _; first | exact fun _ _ _ _ => rfl | exact RS.has (by assumption) | exact fun _ _ _ _ => (by assumption) | exact HasMem.ownD 0 rfl | exact HasMem.ownD 1 rfl | exact HasMem.ownD 2 rfl | exact HasMem.ownD 3 rfl | exact HasMem.ownD 4 rfl | exact HasMem.ownD 5 rfl | exact HasMem.ownD 6 rfl)) ?_
        refine' WG.y rfl rfl (by decide) (Yl.load1 tab_ok rfl rfl rfl (fun _ => rfl) ?r1 rfl ?h1) ?_
        case r1 => (first | (apply RS.rdD; assumption; ((try dsimp only) <;> omega)) | exact Rd.slD 0 rfl (by (try dsimp only) <;> omega) | exact Rd.slD 1 rfl (by (try dsimp only) <;> omega) | exact Rd.slD 2 rfl (by (try dsimp only) <;> omega) | exact Rd.slD 3 rfl (by (try dsimp only) <;> omega) | exact Rd.slD 4 rfl (by (try dsimp only) <;> omega) | exact Rd.slD 5 rfl (by (try dsimp only) <;> omega) | exact Rd.slD 6 rfl (by (try dsimp only) <;> omega))
        case h1 => rfl
        refine WL.ef rfl rfl (by decide) (Ef.alloc tab_ok rfl rfl (fun b12 => ?_))
        first | refine WL.efN rfl rfl (Ef.store0 0 tab_ok rfl rfl rfl rfl rfl rfl rfl rfl ?_) | refine WL.efN rfl rfl (Ef.store0 1 tab_ok rfl rfl rfl rfl rfl rfl rfl rfl ?_) | refine WL.efN rfl rfl (Ef.store0 2 tab_ok rfl rfl rfl rfl rfl rfl rfl rfl ?_) | refine WL.efN rfl rfl (Ef.store0 3 tab_ok rfl rfl rfl rfl rfl rfl rfl rfl ?_) | refine WL.efN rfl rfl (Ef.store0 4 tab_ok rfl rfl rfl rfl rfl rfl rfl rfl ?_) | refine WL.efN rfl rfl (Ef.store0 5 tab_ok rfl rfl rfl rfl rfl rfl rfl rfl ?_) | refine WL.efN rfl rfl (Ef.store0 6 tab_ok rfl rfl rfl rfl rfl rfl rfl rfl ?_)
        refine WG.nil ?_
        refine WE.nxt ?_
        refine W.seq ?_
        refine W.region _ ?_
        refine' WG.y rfl rfl (by decide) (Yl.load1 tab_ok rfl rfl rfl (fun _ => rfl) ?r2 rfl ?h2) ?_
        case r2 => (first | exact Rd.blk 0 rfl | exact Rd.blk 1 rfl | exact Rd.blk 2 rfl | exact Rd.blk 3 rfl | exact Rd.blk 4 rfl | exact Rd.blk 5 rfl | exact Rd.blk 6 rfl)
        case h2 => rfl
        refine WG.callV en97 rfl rfl (by decide) (CallOp.mk' rfl rfl rfl rfl) (fun _ => rfl) (fun hg => CValidG_V hxi.1 hxi.2) ?_
        refine WG.run tab_ok 1 rfl ?_
        refine WG.nil ?_
        refine WE.nxt ?_
        refine W.cond rfl (fun hc3 => ?_) (fun hc3 => ?_)
        · try simp only [decide_eq_true_eq, decide_eq_false_iff_not, beq_iff_eq, bne_iff_ne, beq_eq_false_iff_ne, bne_eq_false_iff_eq, ne_eq, Bool.or_eq_true, Bool.or_eq_false_iff, Bool.and_eq_true, Bool.and_eq_false_imp, Bool.not_eq_true, Bool.not_eq_true', Bool.not_eq_false', Classical.not_not, Int.not_lt, Int.not_le, gt_iff_lt, ge_iff_le] at hc3
          have hno : allV (ls.map CvS.cv) = false := by
            rw [← Bool.not_eq_true, allV_iff]
            intro h
            have := h _ (List.mem_map_of_mem (nth_mem hil))
            simp [this] at hc3
          have hd : (prioC cap cls (ls.map CvS.cv) z) = (zcv, 1) := by unfold prioC; rw [if_neg (fun h => h hc0), if_neg (by rw [hmap]; omega), if_pos hno]
          refine W.seq ?_
          refine W.region _ ?_
          -- build
          refine WG.y rfl rfl (by decide) (Yl.build (parts := []) tab_ok rfl rfl rfl rfl (fun _ => rfl) rfl rfl) ?_
          first | refine WL.efN rfl rfl (Ef.store0 0 tab_ok rfl rfl rfl rfl rfl rfl rfl rfl ?_) | refine WL.efN rfl rfl (Ef.store0 1 tab_ok rfl rfl rfl rfl rfl rfl rfl rfl ?_) | refine WL.efN rfl rfl (Ef.store0 2 tab_ok rfl rfl rfl rfl rfl rfl rfl rfl ?_) | refine WL.efN rfl rfl (Ef.store0 3 tab_ok rfl rfl rfl rfl rfl rfl rfl rfl ?_) | refine WL.efN rfl rfl (Ef.store0 4 tab_ok rfl rfl rfl rfl rfl rfl rfl rfl ?_) | refine WL.efN rfl rfl (Ef.store0 5 tab_ok rfl rfl rfl rfl rfl rfl rfl rfl ?_) | refine WL.efN rfl rfl (Ef.store0 6 tab_ok rfl rfl rfl rfl rfl rfl rfl rfl ?_)
          refine WG.run tab_ok 1 rfl ?_
          refine WG.nil ?_
          refine WE.nxt ?_
          refine W.ret ?_
          refine WE.blk_ret ?_
          refine WE.then_ret ?_
          refine WE.then_ret ?_
          refine WE.blk_ret ?_
          refine WE.then_ret ?_
          refine WE.retF tab_ok [_, _] rfl ⟨⟨_, _, _, rfl, rfl, rfl, ((by first | exact Rd.blk 0 rfl | exact Rd.blk 1 rfl | exact Rd.blk 2 rfl | exact Rd.blk 3 rfl | exact Rd.blk 4 rfl | exact Rd.blk 5 rfl | exact Rd.blk 6 rfl)), rfl⟩, rfl, trivial⟩ ((by first | exact RLe.refl _ | exact hRm | exact hRm.trans (hR3.trans hR4))) ?_
          exact ⟨none, 0, by rw [hd]; rfl, by rw [hd]; exact rs_nil, (by (repeat (first | exact List.Sublist.refl _ | exact List.nil_sublist _ | apply List.Sublist.cons_cons | apply List.Sublist.cons)); done)⟩
        · try simp only [decide_eq_true_eq, decide_eq_false_iff_not, beq_iff_eq, bne_iff_ne, beq_eq_false_iff_ne, bne_eq_false_iff_eq, ne_eq, Bool.or_eq_true, Bool.or_eq_false_iff, Bool.and_eq_true, Bool.and_eq_false_imp, Bool.not_eq_true, Bool.not_eq_true', Bool.not_eq_false', Classical.not_not, Int.not_lt, Int.not_le, gt_iff_lt, ge_iff_le] at hc3
          have hvi : validB (nth ls i).cv = true := by simpa using hc3
          refine W.skip ?_
          refine WE.blk _ ?_
          refine WE.nxt ?_
          refine W.region _ ?_
          refine WG.y rfl rfl (by decide) (Yl.add rfl rfl rfl (fun _ => rfl) (by intro _; constructor <;> (try dsimp only) <;> omega)) ?_
          refine WG.run tab_ok 1 rfl ?_
          refine WG.nil ?_
          refine WE.again (i + 1) (⟨by omega, fun j hj => by
            by_cases e : j = i
            · subst e; exact hvi
            · exact hst.2 j (by omega)⟩) (by (try dsimp only); omega) ⟨rfl, rfl, rfl, rfl, rfl, rfl, rfl, rfl, rfl⟩ (RLe.refl _) (by (repeat (first | exact List.Sublist.refl _ | exact List.nil_sublist _ | apply List.Sublist.cons_cons | apply List.Sublist.cons)); done)
      · try dsimp only at hc2
        obtain rfl : i = ls.length := by omega
        have hav : ∀ c ∈ ls.map CvS.cv, validB c = true := fun c hc => by
          obtain ⟨x, hx, rfl⟩ := List.mem_map.1 hc
          obtain ⟨j, hj, rfl⟩ := List.getElem_of_mem hx
          have := hst.2 j hj
          rw [nth_eq hj] at this
          exact this
        have hav2 : allV (ls.map CvS.cv) = true := allV_iff.2 hav
        refine W.exit ?_
        refine WE.then_exit ?_
        refine WE.then_exit ?_
        refine WE.blk_exit ?_
        refine WE.nxt ?_
        refine W.seq ?_
        refine W.region _ ?_
        refine WG.run tab_ok 1 rfl ?_
        refine WG.nil ?_
        refine WE.nxt ?_
        refine W.seq ?_
        refine W.seq ?_
        refine W.region _ ?_
        refine WG.run tab_ok 2 rfl ?_
        refine WG.y rfl rfl (by decide) (Yl.add rfl rfl rfl (fun _ => rfl) (by intro _; constructor <;> (try dsimp only) <;> omega)) ?_
        refine WG.y rfl rfl (by decide) (Yl.sliceL tab_ok rfl rfl rfl rfl rfl rfl (fun _ => rfl) (by intro _; omega)) ?_
        have hdl : (z.drop (cls + 1).toNat).length = z.length - (cls + 1).toNat := List.length_drop
        rw [← hdl]
        have hzdr := hzr.subL (l := (cls + 1).toNat) (cap := zc) (by omega) hzc
        refine WG.run tab_ok 2 rfl ?_
        refine WG.nil ?_
        refine WE.nxt ?_
        refine W.block ?_
        refine W.loopK (β := Nat) (fun k => k ≤ z.length - (cls + 1).toNat) (fun k => [(13, true, .int .i64 (mostF (blkF cls z) k)), (49, true, .int .i64 (k : Int))]) [0, 1, 2, 8, 47, 48] [_, _, _, _, _, _] [] _ rfl (fun k => []) (fun k => z.length - (cls + 1).toNat - k) (0) (Nat.zero_le _) ⟨rfl, rfl, rfl, rfl, rfl, rfl, rfl, rfl, rfl⟩ (by (repeat (first | exact List.Sublist.refl _ | exact List.nil_sublist _ | apply List.Sublist.cons_cons | apply List.Sublist.cons)); done) ?_
        intro k hst
        dsimp only [zipE, setAll, List.cons_append, List.nil_append, List.set_cons_zero, List.set_cons_succ] at hst ⊢
        
        refine W.seq ?_
        refine W.region _ ?_
        refine WG.run tab_ok 1 rfl ?_
        refine WG.nil ?_
        refine WE.nxt ?_
        refine W.seq ?_
        refine W.condD rfl (fun hc4 => ?_) (fun hc4 => ?_)
        · try dsimp only at hc4
          have hkl : k < z.length - (cls + 1).toNat := by omega
          have hkd : k < (z.drop (cls + 1).toNat).length := by rw [List.length_drop]; exact hkl
          have hzd := hz _ (List.mem_of_mem_drop (nth_mem hkd))
          have hmk := blk_range (cls := cls) hz (n := k) (by omega)
          have hmx : (if mostF (blkF cls z) k < (nth (z.drop (cls + 1).toNat) k).most - 1 then (nth (z.drop (cls + 1).toNat) k).most - 1 else mostF (blkF cls z) k) = mostF (blkF cls z) (k + 1) := by
            show _ = max (mostF (blkF cls z) k) (blkF cls z k)
            unfold blkF
            split <;> omega
          refine W.skip ?_
          refine WE.nxt ?_
          refine W.seq ?_
          refine W.block ?_
          refine W.seq ?_
          refine W.region _ ?_
          refine WG.y rfl rfl (by decide) (Yl.indexN tab_ok rfl rfl rfl rfl rfl rfl (fun _ => rfl) (by intro _; (try dsimp only) <;> omega) (by intro _; first | exact fun _ _ _ _ => rfl | exact RS.has (by assumption) | exact fun _ _ _ _ => (by assumption) | exact HasMem.ownD 0 rfl | exact HasMem.ownD 1 rfl | exact HasMem.ownD 2 rfl | exact HasMem.ownD 3 rfl | exact HasMem.ownD 4 rfl | exact HasMem.ownD 5 rfl | exact HasMem.ownD 6 rfl)) ?_
          refine' WG.y rfl rfl (by decide) (Yl.load1 tab_ok rfl rfl rfl (fun _ => rfl) ?r3 rfl ?h3) ?_
          case r3 => (first | (apply RS.rdD; assumption; ((try dsimp only) <;> omega)) | exact Rd.slD 0 rfl (by (try dsimp only) <;> omega) | exact Rd.slD 1 rfl (by (try dsimp only) <;> omega) | exact Rd.slD 2 rfl (by (try dsimp only) <;> omega) | exact Rd.slD 3 rfl (by (try dsimp only) <;> omega) | exact Rd.slD 4 rfl (by (try dsimp only) <;> omega) | exact Rd.slD 5 rfl (by (try dsimp only) <;> omega) | exact Rd.slD 6 rfl (by (try dsimp only) <;> omega))
          case h3 => rfl
          refine WL.ef rfl rfl (by decide) (Ef.alloc tab_ok rfl rfl (fun b15 => ?_))
          first | refine WL.efN rfl rfl (Ef.store0 0 tab_ok rfl rfl rfl rfl rfl rfl rfl rfl ?_) | refine WL.efN rfl rfl (Ef.store0 1 tab_ok rfl rfl rfl rfl rfl rfl rfl rfl ?_) | refine WL.efN rfl rfl (Ef.store0 2 tab_ok rfl rfl rfl rfl rfl rfl rfl rfl ?_) | refine WL.efN rfl rfl (Ef.store0 3 tab_ok rfl rfl rfl rfl rfl rfl rfl rfl ?_) | refine WL.efN rfl rfl (Ef.store0 4 tab_ok rfl rfl rfl rfl rfl rfl rfl rfl ?_) | refine WL.efN rfl rfl (Ef.store0 5 tab_ok rfl rfl rfl rfl rfl rfl rfl rfl ?_) | refine WL.efN rfl rfl (Ef.store0 6 tab_ok rfl rfl rfl rfl rfl rfl rfl rfl ?_)
          refine WG.nil ?_
          refine WE.nxt ?_
          refine W.region _ ?_
          refine WG.run tab_ok 2 rfl ?_
          refine' WG.y rfl rfl (by decide) (Yl.load1 tab_ok rfl rfl rfl (fun _ => rfl) ?r4 rfl ?h4) ?_
          case r4 => apply Rd.add; (first | exact Rd.blk 0 rfl | exact Rd.blk 1 rfl | exact Rd.blk 2 rfl | exact Rd.blk 3 rfl | exact Rd.blk 4 rfl | exact Rd.blk 5 rfl | exact Rd.blk 6 rfl)
          case h4 => rfl
          refine WG.y rfl rfl (by decide) (Yl.sub rfl rfl rfl (fun _ => rfl) (by intro _; constructor <;> (try dsimp only) <;> omega)) ?_
          refine WG.run tab_ok 2 rfl ?_
          refine WG.nil ?_
          refine WE.blk _ ?_
          refine WE.nxt ?_
          refine W.region _ ?_
          refine WG.y rfl rfl (by decide) (Yl.add rfl rfl rfl (fun _ => rfl) (by intro _; constructor <;> (try dsimp only) <;> omega)) ?_
          refine WG.run tab_ok 1 rfl ?_
          refine WG.nil ?_
          refine WE.again (k + 1) (by omega) (by (try dsimp only); omega) ⟨vint hmx, rfl, rfl, rfl, rfl, rfl, rfl, rfl, rfl⟩ (RLe.refl _) (by (repeat (first | exact List.Sublist.refl _ | exact List.nil_sublist _ | apply List.Sublist.cons_cons | apply List.Sublist.cons)); done)
        · try dsimp only at hc4
          obtain rfl : k = z.length - (cls + 1).toNat := by omega
          have hbk : 0 ≤ blkN cls z ∧ blkN cls z ≤ 1499 := blk_range hz (Nat.le_refl _)
          have hmr := mid_res (l := (ls.map CvS.cv).take cls.toNat) (fun c hc => hav c (List.mem_of_mem_take hc)) (k := blkN cls z) (by unfold MAXV; omega)
          have htr := total_res ((ls.map CvS.cv).take cls.toNat) zeroC zero_nrm.valid zero_nrm (fun c hc => hav c (List.mem_of_mem_take hc))
          rw [show mostF (blkF cls z) (z.length - (cls + 1).toNat) = blkN cls z from rfl]
          refine W.exit ?_
          refine WE.then_exit ?_
          refine WE.then_exit ?_
          refine WE.blk_exit ?_
          refine WE.nxt ?_
          refine W.seq ?_
          refine W.region _ ?_
          refine WG.run tab_ok 2 rfl ?_
          refine WG.y rfl rfl (by decide) (Yl.sliceH tab_ok rfl rfl rfl rfl rfl (fun _ => rfl) (by intro _; omega) rfl) ?_
          refine WL.call en98 rfl rfl (by decide) (CallOp.mkT rfl rfl rfl rfl) (PTotal_len (ls := ls.take cls.toNat) (by rw [List.length_take]; omega) (hla.take _) (fun x hx => ⟨(hls x (List.mem_of_mem_take hx)).1, hav x.cv (List.mem_map_of_mem (List.mem_of_mem_take hx))⟩) w0 _) ?_
          rintro _ R1 _ hR1 ⟨ft, ftc, rfl, hft, hsub⟩
          refine WL.subE hsub ?_
          rw [List.map_take] at hft ⊢
          unfold cvV
          refine WG.run tab_ok 3 rfl ?_
          refine WL.ef rfl rfl (by decide) (Ef.alloc tab_ok rfl rfl (fun b16 => ?_))
          first | refine WL.efN rfl rfl (Ef.store0 0 tab_ok rfl rfl rfl rfl rfl rfl rfl rfl ?_) | refine WL.efN rfl rfl (Ef.store0 1 tab_ok rfl rfl rfl rfl rfl rfl rfl rfl ?_) | refine WL.efN rfl rfl (Ef.store0 2 tab_ok rfl rfl rfl rfl rfl rfl rfl rfl ?_) | refine WL.efN rfl rfl (Ef.store0 3 tab_ok rfl rfl rfl rfl rfl rfl rfl rfl ?_) | refine WL.efN rfl rfl (Ef.store0 4 tab_ok rfl rfl rfl rfl rfl rfl rfl rfl ?_) | refine WL.efN rfl rfl (Ef.store0 5 tab_ok rfl rfl rfl rfl rfl rfl rfl rfl ?_) | refine WL.efN rfl rfl (Ef.store0 6 tab_ok rfl rfl rfl rfl rfl rfl rfl rfl ?_)
          refine WG.run tab_ok 1 rfl ?_
          refine WG.nil ?_
          refine WE.nxt ?_
          refine W.seqCut (β := (Cv × Int) × Option Addr × Nat × Ro × Nat) (fun (mid, fm, fmc, Rm, b16) => RLe R Rm ∧ RS Rm 1 encI fm mid.1.vals ∧ (midC (totalC ((ls.map CvS.cv).take cls.toNat)) (blkN cls z)) = mid) (fun (mid, fm, fmc, Rm, b16) => [(0, true, .int .i64 cap), (8, true, .pointer (some ⟨b8, 0, none⟩)), (16, true, .pointer (some ⟨b16, 0, none⟩)), (17, true, .int .i64 mid.2)]) (fun (mid, fm, fmc, Rm, b16) => Rm) (fun (mid, fm, fmc, Rm, b16) => .blk b16 [.slice fm mid.1.vals.length fmc, .int .i64 mid.1.per, .int .i64 mid.1.inc] :: .blk b8 [.slice none 0 0, .int .i64 0, .int .i64 0] :: E) ?_ ?_
          ·
            intro st hst
            obtain ⟨mid, fm, fmc, Rm, b16⟩ := st
            obtain ⟨hRm, hm, hmid⟩ := hst
            dsimp only at hRm hm ⊢
            refine W.seq ?_
            refine W.seq ?_
            refine W.region _ ?_
            refine WG.run tab_ok 2 rfl ?_
            refine WG.nil ?_
            refine WE.nxt ?_
            refine W.condN rfl (fun hc5 => ?_) (fun hc5 => ?_)
            · try dsimp only at hc5
              have hd : (prioC cap cls (ls.map CvS.cv) z) = (zcv, mid.2) := by unfold prioC; rw [if_neg (fun h => h hc0), if_neg (by rw [hmap]; omega), if_neg (by rw [hav2]; decide), hmid, if_pos hc5]
              refine W.seq ?_
              refine W.region _ ?_
              -- build
              refine WG.y rfl rfl (by decide) (Yl.build (parts := []) tab_ok rfl rfl rfl rfl (fun _ => rfl) rfl rfl) ?_
              refine WG.run tab_ok 1 rfl ?_
              first | refine WL.efN rfl rfl (Ef.store0 0 tab_ok rfl rfl rfl rfl rfl rfl rfl rfl ?_) | refine WL.efN rfl rfl (Ef.store0 1 tab_ok rfl rfl rfl rfl rfl rfl rfl rfl ?_) | refine WL.efN rfl rfl (Ef.store0 2 tab_ok rfl rfl rfl rfl rfl rfl rfl rfl ?_) | refine WL.efN rfl rfl (Ef.store0 3 tab_ok rfl rfl rfl rfl rfl rfl rfl rfl ?_) | refine WL.efN rfl rfl (Ef.store0 4 tab_ok rfl rfl rfl rfl rfl rfl rfl rfl ?_) | refine WL.efN rfl rfl (Ef.store0 5 tab_ok rfl rfl rfl rfl rfl rfl rfl rfl ?_) | refine WL.efN rfl rfl (Ef.store0 6 tab_ok rfl rfl rfl rfl rfl rfl rfl rfl ?_)
              refine WG.run tab_ok 1 rfl ?_
              refine WG.nil ?_
              refine WE.nxt ?_
              refine W.ret ?_
              refine WE.then_ret ?_
              refine WE.retF tab_ok [_, _] rfl ⟨⟨_, _, _, rfl, rfl, rfl, ((by first | exact Rd.blk 0 rfl | exact Rd.blk 1 rfl | exact Rd.blk 2 rfl | exact Rd.blk 3 rfl | exact Rd.blk 4 rfl | exact Rd.blk 5 rfl | exact Rd.blk 6 rfl)), rfl⟩, rfl, trivial⟩ ((by first | exact RLe.refl _ | exact hRm | exact hRm.trans (hR3.trans hR4))) ?_
              exact ⟨none, 0, by rw [hd]; rfl, by rw [hd]; exact rs_nil, (by (repeat (first | exact List.Sublist.refl _ | exact List.nil_sublist _ | apply List.Sublist.cons_cons | apply List.Sublist.cons)); done)⟩
            · try dsimp only at hc5
              have hd : (prioC cap cls (ls.map CvS.cv) z) = restC cap mid.1 := by unfold prioC; rw [if_neg (fun h => h hc0), if_neg (by rw [hmap]; omega), if_neg (by rw [hav2]; decide), hmid, if_neg (fun h => h hc5)]
              have hmv : validB mid.1 = true := by
                rw [← hmid] at hc5 ⊢
                rcases hmr with h | ⟨c, h1, h2⟩
                · rw [h] at hc5; exact absurd hc5 (by decide)
                · rw [h1]; exact h2.valid
              refine W.skip ?_
              refine WE.nxt ?_
              refine W.seq ?_
              refine W.region _ ?_
              refine WG.run tab_ok 1 rfl ?_
              refine WL.call en53 rfl rfl (by decide) (CallOp.mkT rfl rfl rfl rfl) (Serve_ok (cap := cap) w0 (by omega) _) ?_
              rintro _ _ E2 - ⟨g, rfl, rfl, hsub⟩
              refine WL.subE hsub ?_
              refine WL.freeze (enc := encI) (xs := (lineC cap).vals) 0 rfl ?_
              intro R3 hR3 hsv
              have hm := hm.mono hR3
              refine WG.run tab_ok 3 rfl ?_
              refine WL.ef rfl rfl (by decide) (Ef.alloc tab_ok rfl rfl (fun b18 => ?_))
              first | refine WL.efN rfl rfl (Ef.store0 0 tab_ok rfl rfl rfl rfl rfl rfl rfl rfl ?_) | refine WL.efN rfl rfl (Ef.store0 1 tab_ok rfl rfl rfl rfl rfl rfl rfl rfl ?_) | refine WL.efN rfl rfl (Ef.store0 2 tab_ok rfl rfl rfl rfl rfl rfl rfl rfl ?_) | refine WL.efN rfl rfl (Ef.store0 3 tab_ok rfl rfl rfl rfl rfl rfl rfl rfl ?_) | refine WL.efN rfl rfl (Ef.store0 4 tab_ok rfl rfl rfl rfl rfl rfl rfl rfl ?_) | refine WL.efN rfl rfl (Ef.store0 5 tab_ok rfl rfl rfl rfl rfl rfl rfl rfl ?_) | refine WL.efN rfl rfl (Ef.store0 6 tab_ok rfl rfl rfl rfl rfl rfl rfl rfl ?_)
              refine WG.run tab_ok 1 rfl ?_
              refine WG.nil ?_
              refine WE.nxt ?_
              refine W.seq ?_
              refine W.seq ?_
              refine W.region _ ?_
              refine WG.run tab_ok 2 rfl ?_
              refine WG.nil ?_
              refine WE.nxt ?_
              refine W.condN rfl (fun hc6 => ?_) (fun hc6 => ?_)
              · try dsimp only at hc6
                first | done | exact absurd rfl hc6 | (simp at hc6; done)
              · try dsimp only at hc6
                refine W.skip ?_
                refine WE.nxt ?_
                refine W.seq ?_
                refine W.region _ ?_
                refine' WG.y rfl rfl (by decide) (Yl.load1 tab_ok rfl rfl rfl (fun _ => rfl) ?r5 rfl ?h5) ?_
                case r5 => (first | exact Rd.blk 0 rfl | exact Rd.blk 1 rfl | exact Rd.blk 2 rfl | exact Rd.blk 3 rfl | exact Rd.blk 4 rfl | exact Rd.blk 5 rfl | exact Rd.blk 6 rfl)
                case h5 => rfl
                refine' WG.y rfl rfl (by decide) (Yl.load1 tab_ok rfl rfl rfl (fun _ => rfl) ?r6 rfl ?h6) ?_
                case r6 => (first | exact Rd.blk 0 rfl | exact Rd.blk 1 rfl | exact Rd.blk 2 rfl | exact Rd.blk 3 rfl | exact Rd.blk 4 rfl | exact Rd.blk 5 rfl | exact Rd.blk 6 rfl)
                case h6 => rfl
                refine WL.call en100 rfl rfl (by decide) (CallOp.mkT rfl rfl rfl rfl) (Rest_C (lc := 1) (by omega) hsv (cg := mid.1) hmv hm w0 _) ?_
                rintro _ R4 E4 hR4 ⟨fr, frc, rfl, hfr, hsub⟩
                refine WL.subE hsub ?_
                unfold cvV
                refine WG.run tab_ok 2 rfl ?_
                first | refine WL.efN rfl rfl (Ef.store0 0 tab_ok rfl rfl rfl rfl rfl rfl rfl rfl ?_) | refine WL.efN rfl rfl (Ef.store0 1 tab_ok rfl rfl rfl rfl rfl rfl rfl rfl ?_) | refine WL.efN rfl rfl (Ef.store0 2 tab_ok rfl rfl rfl rfl rfl rfl rfl rfl ?_) | refine WL.efN rfl rfl (Ef.store0 3 tab_ok rfl rfl rfl rfl rfl rfl rfl rfl ?_) | refine WL.efN rfl rfl (Ef.store0 4 tab_ok rfl rfl rfl rfl rfl rfl rfl rfl ?_) | refine WL.efN rfl rfl (Ef.store0 5 tab_ok rfl rfl rfl rfl rfl rfl rfl rfl ?_) | refine WL.efN rfl rfl (Ef.store0 6 tab_ok rfl rfl rfl rfl rfl rfl rfl rfl ?_)
                refine WG.run tab_ok 1 rfl ?_
                refine WG.nil ?_
                refine WE.nxt ?_
                refine W.ret ?_
                refine WE.retF tab_ok [_, _] rfl ⟨⟨_, _, _, rfl, rfl, rfl, ((by first | exact Rd.blk 0 rfl | exact Rd.blk 1 rfl | exact Rd.blk 2 rfl | exact Rd.blk 3 rfl | exact Rd.blk 4 rfl | exact Rd.blk 5 rfl | exact Rd.blk 6 rfl)), rfl⟩, rfl, trivial⟩ ((by first | exact RLe.refl _ | exact hRm | exact hRm.trans (hR3.trans hR4))) ?_
                exact ⟨fr, frc, by rw [hd]; rfl, by rw [hd]; exact hfr, (by (repeat (first | exact List.Sublist.refl _ | exact List.nil_sublist _ | apply List.Sublist.cons_cons | apply List.Sublist.cons)); done)⟩
          ·
            refine W.seq ?_
            refine W.region _ ?_
            refine WG.run tab_ok 2 rfl ?_
            refine WG.nil ?_
            refine WE.nxt ?_
            refine W.condE rfl (fun hc7 => ?_) (fun hc7 => ?_)
            · try dsimp only at hc7
              have hme : (midC (totalC ((ls.map CvS.cv).take cls.toNat)) (blkN cls z)) = raiseC (totalC ((ls.map CvS.cv).take cls.toNat)).1 (blkN cls z) := if_pos hc7
              have htv : validB (totalC ((ls.map CvS.cv).take cls.toNat)).1 = true := by
                rcases htr with h | ⟨c, h1, h2, _⟩
                · rw [show totalC ((ls.map CvS.cv).take cls.toNat) = (zcv, 3) from h] at hc7; exact absurd hc7 (by decide)
                · rw [show totalC ((ls.map CvS.cv).take cls.toNat) = (c, 0) from h1]; exact h2.valid
              refine W.region _ ?_
              refine' WG.y rfl rfl (by decide) (Yl.load1 tab_ok rfl rfl rfl (fun _ => rfl) ?r7 rfl ?h7) ?_
              case r7 => (first | exact Rd.blk 0 rfl | exact Rd.blk 1 rfl | exact Rd.blk 2 rfl | exact Rd.blk 3 rfl | exact Rd.blk 4 rfl | exact Rd.blk 5 rfl | exact Rd.blk 6 rfl)
              case h7 => rfl
              refine WG.run tab_ok 1 rfl ?_
              refine WL.call en99 rfl rfl (by decide) (CallOp.mkT rfl rfl rfl rfl) (PRaise_C (cf := (totalC ((ls.map CvS.cv).take cls.toNat)).1) (k := blkN cls z) htv hft (by omega) w0 _) ?_
              rintro _ R2 _ hR2 ⟨fm, fmc, rfl, hfm, hsub⟩
              refine WL.subE hsub ?_
              unfold cvV
              refine WG.run tab_ok 3 rfl ?_
              first | refine WL.efN rfl rfl (Ef.store0 0 tab_ok rfl rfl rfl rfl rfl rfl rfl rfl ?_) | refine WL.efN rfl rfl (Ef.store0 1 tab_ok rfl rfl rfl rfl rfl rfl rfl rfl ?_) | refine WL.efN rfl rfl (Ef.store0 2 tab_ok rfl rfl rfl rfl rfl rfl rfl rfl ?_) | refine WL.efN rfl rfl (Ef.store0 3 tab_ok rfl rfl rfl rfl rfl rfl rfl rfl ?_) | refine WL.efN rfl rfl (Ef.store0 4 tab_ok rfl rfl rfl rfl rfl rfl rfl rfl ?_) | refine WL.efN rfl rfl (Ef.store0 5 tab_ok rfl rfl rfl rfl rfl rfl rfl rfl ?_) | refine WL.efN rfl rfl (Ef.store0 6 tab_ok rfl rfl rfl rfl rfl rfl rfl rfl ?_)
              refine WG.run tab_ok 1 rfl ?_
              refine WG.nil ?_
              refine WE.cut (raiseC (totalC ((ls.map CvS.cv).take cls.toNat)).1 (blkN cls z), fm, fmc, R2, b16) ⟨hR1.trans hR2, hfm, hme⟩ ⟨rfl, rfl, rfl, rfl, rfl⟩ (RLe.refl _) (by (repeat (first | exact List.Sublist.refl _ | exact List.nil_sublist _ | apply List.Sublist.cons_cons | apply List.Sublist.cons)); done)
            · try dsimp only at hc7
              have hme : (midC (totalC ((ls.map CvS.cv).take cls.toNat)) (blkN cls z)) = totalC ((ls.map CvS.cv).take cls.toNat) := if_neg hc7
              refine W.skip ?_
              refine WE.cut (totalC ((ls.map CvS.cv).take cls.toNat), ft, ftc, R1, b16) ⟨hR1, hft, hme⟩ ⟨rfl, rfl, rfl, rfl, rfl⟩ (RLe.refl _) (by (repeat (first | exact List.Sublist.refl _ | exact List.nil_sublist _ | apply List.Sublist.cons_cons | apply List.Sublist.cons)); done)

end Go.Proofs.Ytnaeefefggmomaa

/- Chapter 18: what its laws use. No condition. -/
set_option linter.unusedSimpArgs false
set_option linter.unusedVariables false
namespace Go.Proofs.Ytnaeefefggmomaa
open Go Go.RowKit Go.Proofs.Ytnaeefefggmomaa.K Go.Proofs.Ytnaeefefggmomaa.M

theorem prio_done : (mrun ([⟨1, 0, 25⟩, ⟨0, 1, 10⟩, ⟨1, 1, 5⟩] : List Pkt) (prioCh ([⟨1, 0, 25⟩, ⟨0, 1, 10⟩, ⟨1, 1, 5⟩] : List Pkt) 2) 10 2 5 ()).done = [2, 3, 3] := by kernel_rfl
theorem prio_c0 : prioC 10 0 ([⟨[0, 14], 1, 0⟩, ⟨[0, 30], 1, 0⟩] : List Cv) ([⟨1, 14⟩, ⟨1, 20⟩] : List Sz) = (⟨[0, 0, 1], 1, 10⟩, 0) := by kernel_rfl
theorem prio_c1 : prioC 10 1 ([⟨[0, 14], 1, 0⟩, ⟨[0, 30], 1, 0⟩] : List Cv) ([⟨1, 14⟩, ⟨1, 20⟩] : List Sz) = (⟨[0, 0, 6], 1, 10⟩, 0) := by kernel_rfl

set_option maxHeartbeats 1000000 in
theorem Awake18_C {R : Ro} (w0 : World) (E : List Ent) : K.Fn Try.prog 41 [] w0 R E (fun v R' E' => v = .bool true ∧ E.Sublist E') := by
  refine Fn.enter (n := 81) Try.func41 rfl rfl (Nat.le_of_ble_eq_true rfl) rfl ?_
  refine W.seq ?_
  refine W.region _ ?_
  refine WG.run tab_ok 1 rfl ?_
  refine WG.nil ?_
  refine WE.nxt ?_
  refine W.seq ?_
  refine W.region _ ?_
  -- build
  refine WG.y rfl rfl (by decide) (Yl.build (parts := [(0, .const (.int .i64 1)), (2, .const (.int .i64 25))]) tab_ok rfl rfl rfl rfl (fun _ => rfl) rfl rfl) ?_
  -- build
  refine WG.y rfl rfl (by decide) (Yl.build (parts := [(1, .const (.int .i64 1)), (2, .const (.int .i64 10))]) tab_ok rfl rfl rfl rfl (fun _ => rfl) rfl rfl) ?_
  -- build
  refine WG.y rfl rfl (by decide) (Yl.build (parts := [(0, .const (.int .i64 1)), (1, .const (.int .i64 1)), (2, .const (.int .i64 5))]) tab_ok rfl rfl rfl rfl (fun _ => rfl) rfl rfl) ?_
  refine WL.ef rfl rfl (by decide) (Ef.buildSliceD (enc := encP) (parts := [.tmp 10, .tmp 11, .tmp 12]) [⟨_, _, _⟩, ⟨_, _, _⟩, ⟨_, _, _⟩] tab_ok rfl rfl rfl rfl rfl rfl rfl rfl (by decide) (by decide) (fun a13 => ?_))
  refine WL.freeze (enc := encP) (xs := ([⟨1, 0, 25⟩, ⟨0, 1, 10⟩, ⟨1, 1, 5⟩] : List Pkt)) 0 rfl ?_
  intro R1 hR1 hp
  refine WL.call en42 rfl rfl (by decide) (CallOp.mkT rfl rfl rfl rfl) (PRun_ok (ps := ([⟨1, 0, 25⟩, ⟨0, 1, 10⟩, ⟨1, 1, 5⟩] : List Pkt)) (cap := 10) (ticks := 5) (nc := 2) hp w0 (by decide) _) ?_
  rintro _ R2 E2 hR2 ⟨rows, gd, go, s, hs, rfl, h1, h2, h3, hsub⟩
  refine WL.subE hsub ?_
  refine WL.freeze (enc := encI) (xs := s.done) 0 rfl ?_
  intro Rq hRq hdn
  have hdone : s.done = [2, 3, 3] := by rw [hs]; exact prio_done
  rw [hdone] at hdn
  refine WL.subE (List.Sublist.cons _ (List.sublist_append_right _ _)) ?_
  refine WG.run tab_ok 3 rfl ?_
  refine WL.ef rfl rfl (by decide) (Ef.alloc tab_ok rfl rfl (fun b1 => ?_))
  first | refine WL.efN rfl rfl (Ef.store0 0 tab_ok rfl rfl rfl rfl rfl rfl rfl rfl ?_) | refine WL.efN rfl rfl (Ef.store0 1 tab_ok rfl rfl rfl rfl rfl rfl rfl rfl ?_) | refine WL.efN rfl rfl (Ef.store0 2 tab_ok rfl rfl rfl rfl rfl rfl rfl rfl ?_) | refine WL.efN rfl rfl (Ef.store0 3 tab_ok rfl rfl rfl rfl rfl rfl rfl rfl ?_) | refine WL.efN rfl rfl (Ef.store0 4 tab_ok rfl rfl rfl rfl rfl rfl rfl rfl ?_) | refine WL.efN rfl rfl (Ef.store0 5 tab_ok rfl rfl rfl rfl rfl rfl rfl rfl ?_)
  refine WG.run tab_ok 1 rfl ?_
  refine WG.nil ?_
  refine WE.nxt ?_
  refine W.seq ?_
  refine W.region _ ?_
  refine WL.ef rfl rfl (by decide) (Ef.buildSliceD (enc := encI) (parts := [.const (.int .i64 0), .const (.int .i64 14)]) [_, _] tab_ok rfl rfl rfl rfl rfl rfl rfl rfl (by decide) (by decide) (fun a17 => ?_))
  refine WL.freeze (enc := encI) (xs := ([0, 14] : List Int)) 0 rfl ?_
  intro R3 hR3 hc1
  -- build
  refine WG.y rfl rfl (by decide) (Yl.build (parts := [(0, .tmp 17), (1, .const (.int .i64 1))]) tab_ok rfl rfl rfl rfl (fun _ => rfl) rfl rfl) ?_
  refine WL.ef rfl rfl (by decide) (Ef.buildSliceD (enc := encI) (parts := [.const (.int .i64 0), .const (.int .i64 30)]) [_, _] tab_ok rfl rfl rfl rfl rfl rfl rfl rfl (by decide) (by decide) (fun a19 => ?_))
  refine WL.freeze (enc := encI) (xs := ([0, 30] : List Int)) 0 rfl ?_
  intro R4 hR4 hc2
  have hc1 := hc1.mono hR4
  -- build
  refine WG.y rfl rfl (by decide) (Yl.build (parts := [(0, .tmp 19), (1, .const (.int .i64 1))]) tab_ok rfl rfl rfl rfl (fun _ => rfl) rfl rfl) ?_
  refine WL.ef rfl rfl (by decide) (Ef.buildSliceD (enc := encC) (parts := [.tmp 18, .tmp 20]) [(⟨some ⟨a17, 0, none⟩, 2, ⟨[0, 14], 1, 0⟩⟩ : CvS), ⟨some ⟨a19, 0, none⟩, 2, ⟨[0, 30], 1, 0⟩⟩] tab_ok rfl rfl rfl rfl rfl rfl rfl rfl (by decide) (by decide) (fun a21 => ?_))
  refine WL.freeze (enc := encC) (xs := ([⟨some ⟨a17, 0, none⟩, 2, ⟨[0, 14], 1, 0⟩⟩, ⟨some ⟨a19, 0, none⟩, 2, ⟨[0, 30], 1, 0⟩⟩] : List CvS)) 0 rfl ?_
  intro R5 hR5 hlc
  have hc1 := hc1.mono hR5
  have hc2 := hc2.mono hR5
  refine WG.run tab_ok 1 rfl ?_
  refine WG.nil ?_
  refine WE.nxt ?_
  refine W.seq ?_
  refine W.region _ ?_
  -- build
  refine WG.y rfl rfl (by decide) (Yl.build (parts := [(0, .const (.int .i64 1)), (1, .const (.int .i64 14))]) tab_ok rfl rfl rfl rfl (fun _ => rfl) rfl rfl) ?_
  -- build
  refine WG.y rfl rfl (by decide) (Yl.build (parts := [(0, .const (.int .i64 1)), (1, .const (.int .i64 20))]) tab_ok rfl rfl rfl rfl (fun _ => rfl) rfl rfl) ?_
  refine WL.ef rfl rfl (by decide) (Ef.buildSliceD (enc := encZ) (parts := [.tmp 22, .tmp 23]) [⟨_, _⟩, ⟨_, _⟩] tab_ok rfl rfl rfl rfl rfl rfl rfl rfl (by decide) (by decide) (fun a24 => ?_))
  refine WL.freeze (enc := encZ) (xs := ([⟨1, 14⟩, ⟨1, 20⟩] : List Sz)) 0 rfl ?_
  intro R6 hR6 hzz
  have hlc := hlc.mono hR6
  have hdn := hdn.mono (hR3.trans (hR4.trans (hR5.trans hR6)))
  have hls : ∀ x ∈ ([⟨some ⟨a17, 0, none⟩, 2, ⟨[0, 14], 1, 0⟩⟩, ⟨some ⟨a19, 0, none⟩, 2, ⟨[0, 30], 1, 0⟩⟩] : List CvS), RS R6 1 encI x.a x.cv.vals ∧ x.cv.vals.length ≤ 100000 := fun x hx => by
    simp only [List.mem_cons, List.not_mem_nil, or_false] at hx
    rcases hx with rfl | rfl
    · exact ⟨hc1.mono hR6, by show 2 ≤ 100000; decide⟩
    · exact ⟨hc2.mono hR6, by show 2 ≤ 100000; decide⟩
  refine WG.run tab_ok 1 rfl ?_
  refine WG.nil ?_
  refine WE.nxt ?_
  refine W.seq ?_
  refine W.region _ ?_
  refine WG.run tab_ok 2 rfl ?_
  refine WL.call en48 rfl rfl (by decide) (CallOp.mkT rfl rfl rfl rfl) (PCurve_C (ls := ([⟨some ⟨a17, 0, none⟩, 2, ⟨[0, 14], 1, 0⟩⟩, ⟨some ⟨a19, 0, none⟩, 2, ⟨[0, 30], 1, 0⟩⟩] : List CvS)) (z := ([⟨1, 14⟩, ⟨1, 20⟩] : List Sz)) (cap := 10) (cls := 0) hlc (Nat.le_refl 2) hls hzz (Nat.le_refl 2) w0 _) ?_
  rintro _ R7 E3 hR7 ⟨f1, fc1, rfl, hf1, hsub2⟩
  rw [show List.map CvS.cv ([⟨some ⟨a17, 0, none⟩, 2, ⟨[0, 14], 1, 0⟩⟩, ⟨some ⟨a19, 0, none⟩, 2, ⟨[0, 30], 1, 0⟩⟩] : List CvS) = ([⟨[0, 14], 1, 0⟩, ⟨[0, 30], 1, 0⟩] : List Cv) from rfl, prio_c0] at hf1 ⊢
  refine WL.subE hsub2 ?_
  unfold cvV
  have hdn := hdn.mono hR7
  have hlc := hlc.mono hR7
  have hzz := hzz.mono hR7
  have hls : ∀ x ∈ ([⟨some ⟨a17, 0, none⟩, 2, ⟨[0, 14], 1, 0⟩⟩, ⟨some ⟨a19, 0, none⟩, 2, ⟨[0, 30], 1, 0⟩⟩] : List CvS), RS R7 1 encI x.a x.cv.vals ∧ x.cv.vals.length ≤ 100000 := fun x hx => ⟨(hls x hx).1.mono hR7, (hls x hx).2⟩
  refine WG.run tab_ok 3 rfl ?_
  refine WL.ef rfl rfl (by decide) (Ef.alloc tab_ok rfl rfl (fun b5 => ?_))
  first | refine WL.efN rfl rfl (Ef.store0 0 tab_ok rfl rfl rfl rfl rfl rfl rfl rfl ?_) | refine WL.efN rfl rfl (Ef.store0 1 tab_ok rfl rfl rfl rfl rfl rfl rfl rfl ?_) | refine WL.efN rfl rfl (Ef.store0 2 tab_ok rfl rfl rfl rfl rfl rfl rfl rfl ?_) | refine WL.efN rfl rfl (Ef.store0 3 tab_ok rfl rfl rfl rfl rfl rfl rfl rfl ?_) | refine WL.efN rfl rfl (Ef.store0 4 tab_ok rfl rfl rfl rfl rfl rfl rfl rfl ?_) | refine WL.efN rfl rfl (Ef.store0 5 tab_ok rfl rfl rfl rfl rfl rfl rfl rfl ?_)
  refine WG.run tab_ok 1 rfl ?_
  refine WG.nil ?_
  refine WE.nxt ?_
  refine W.seq ?_
  refine W.region _ ?_
  refine WG.run tab_ok 2 rfl ?_
  refine WL.call en48 rfl rfl (by decide) (CallOp.mkT rfl rfl rfl rfl) (PCurve_C (ls := ([⟨some ⟨a17, 0, none⟩, 2, ⟨[0, 14], 1, 0⟩⟩, ⟨some ⟨a19, 0, none⟩, 2, ⟨[0, 30], 1, 0⟩⟩] : List CvS)) (z := ([⟨1, 14⟩, ⟨1, 20⟩] : List Sz)) (cap := 10) (cls := 1) hlc (Nat.le_refl 2) hls hzz (Nat.le_refl 2) w0 _) ?_
  rintro _ R8 E3 hR8 ⟨f2, fc2, rfl, hf2, hsub2⟩
  rw [show List.map CvS.cv ([⟨some ⟨a17, 0, none⟩, 2, ⟨[0, 14], 1, 0⟩⟩, ⟨some ⟨a19, 0, none⟩, 2, ⟨[0, 30], 1, 0⟩⟩] : List CvS) = ([⟨[0, 14], 1, 0⟩, ⟨[0, 30], 1, 0⟩] : List Cv) from rfl, prio_c1] at hf2 ⊢
  refine WL.subE hsub2 ?_
  unfold cvV
  have hdn := hdn.mono hR8
  have hf1 := hf1.mono hR8
  have hls : ∀ x ∈ ([⟨some ⟨a17, 0, none⟩, 2, ⟨[0, 14], 1, 0⟩⟩, ⟨some ⟨a19, 0, none⟩, 2, ⟨[0, 30], 1, 0⟩⟩] : List CvS), RS R8 1 encI x.a x.cv.vals ∧ x.cv.vals.length ≤ 100000 := fun x hx => ⟨(hls x hx).1.mono hR8, (hls x hx).2⟩
  refine WG.run tab_ok 3 rfl ?_
  refine WL.ef rfl rfl (by decide) (Ef.alloc tab_ok rfl rfl (fun b7 => ?_))
  first | refine WL.efN rfl rfl (Ef.store0 0 tab_ok rfl rfl rfl rfl rfl rfl rfl rfl ?_) | refine WL.efN rfl rfl (Ef.store0 1 tab_ok rfl rfl rfl rfl rfl rfl rfl rfl ?_) | refine WL.efN rfl rfl (Ef.store0 2 tab_ok rfl rfl rfl rfl rfl rfl rfl rfl ?_) | refine WL.efN rfl rfl (Ef.store0 3 tab_ok rfl rfl rfl rfl rfl rfl rfl rfl ?_) | refine WL.efN rfl rfl (Ef.store0 4 tab_ok rfl rfl rfl rfl rfl rfl rfl rfl ?_) | refine WL.efN rfl rfl (Ef.store0 5 tab_ok rfl rfl rfl rfl rfl rfl rfl rfl ?_)
  refine WG.run tab_ok 1 rfl ?_
  refine WG.nil ?_
  refine WE.nxt ?_
  refine W.seq ?_
  refine W.region _ ?_
  refine WG.run tab_ok 3 rfl ?_
  refine WL.guardT rfl (by rfl) ?_
  refine WG.y rfl rfl (by decide) (pureV_ok tab_ok rfl (fun _ => rfl)) ?_
  refine WL.guardT rfl (by rfl) ?_
  refine' WG.y rfl rfl (by decide) (Yl.load1 tab_ok rfl rfl rfl (fun _ => rfl) ?r1 rfl ?h1) ?_
  case r1 => apply Rd.add; (first | exact Rd.blk 0 rfl | exact Rd.blk 1 rfl | exact Rd.blk 2 rfl | exact Rd.blk 3 rfl | exact Rd.blk 4 rfl | exact Rd.blk 5 rfl)
  case h1 => rfl
  refine WL.guardT rfl (by rfl) ?_
  refine WL.ef rfl rfl (by decide) (Ef.buildSliceD (enc := encI) (parts := [.const (.int .i64 2), .const (.int .i64 3), .const (.int .i64 3)]) [_, _, _] tab_ok rfl rfl rfl rfl rfl rfl rfl rfl (by decide) (by decide) (fun a42 => ?_))
  refine WL.freeze (enc := encI) (xs := ([2, 3, 3] : List Int)) 0 rfl ?_
  intro R9 hR9 hl1
  have hdn := hdn.mono hR9
  have hf1 := hf1.mono hR9
  have hf2 := hf2.mono hR9
  refine WL.guardT rfl (by rfl) ?_
  refine WG.callV (v := .bool true) en37 rfl rfl (by decide) (CallOp.mk' rfl rfl rfl rfl) (fun _ => rfl) (fun hg => by
    have h := Ints_V (ca := 3) (cb := 3) hdn hl1
    exact h) ?_
  refine WG.y rfl rfl (by decide) (Yl.pand rfl rfl rfl (fun _ => rfl) (by intro h1 h2; simp_all <;> omega)) ?_
  refine WG.run tab_ok 1 rfl ?_
  refine WL.guardT rfl (by rfl) ?_
  refine WG.y rfl rfl (by decide) (pureV_ok tab_ok rfl (fun _ => rfl)) ?_
  refine WL.guardT rfl (by rfl) ?_
  refine WG.y rfl rfl (by decide) (pureV_ok tab_ok rfl (fun _ => rfl)) ?_
  refine WG.y rfl rfl (by decide) (Yl.pand rfl rfl rfl (fun _ => rfl) (by intro h1 h2; simp_all <;> omega)) ?_
  refine WG.run tab_ok 1 rfl ?_
  refine WL.guardT rfl (by rfl) ?_
  refine' WG.y rfl rfl (by decide) (Yl.load1 tab_ok rfl rfl rfl (fun _ => rfl) ?r2 rfl ?h2) ?_
  case r2 => (first | exact Rd.blk 0 rfl | exact Rd.blk 1 rfl | exact Rd.blk 2 rfl | exact Rd.blk 3 rfl | exact Rd.blk 4 rfl | exact Rd.blk 5 rfl)
  case h2 => rfl
  refine WL.guardT rfl (by rfl) ?_
  refine WG.callV (v := .bool true) en66 rfl rfl (by decide) (CallOp.mk' rfl rfl rfl rfl) (fun _ => rfl) (fun hg => by
    have h := Valid_V (per := 1) (inc := 10) (c := fc1) hf1 (by constructor <;> decide) (by constructor <;> decide) (by decide)
    exact h) ?_
  refine WG.y rfl rfl (by decide) (Yl.pand rfl rfl rfl (fun _ => rfl) (by intro h1 h2; simp_all <;> omega)) ?_
  refine WG.run tab_ok 1 rfl ?_
  refine WL.guardT rfl (by rfl) ?_
  refine' WG.y rfl rfl (by decide) (Yl.load1 tab_ok rfl rfl rfl (fun _ => rfl) ?r3 rfl ?h3) ?_
  case r3 => (first | exact Rd.blk 0 rfl | exact Rd.blk 1 rfl | exact Rd.blk 2 rfl | exact Rd.blk 3 rfl | exact Rd.blk 4 rfl | exact Rd.blk 5 rfl)
  case h3 => rfl
  refine WL.guardT rfl (by rfl) ?_
  refine WG.callV (v := .int .i64 1) en39 rfl rfl (by decide) (CallOp.mk' rfl rfl rfl rfl) (fun _ => rfl) (fun hg => by
    have h := At_V (t := 2) (per := 1) (inc := 10) (c := fc1) hf1 (by constructor <;> decide) ⟨by constructor <;> decide, by decide⟩ (by decide) (by decide)
    exact h) ?_
  refine WL.guardT rfl (by rfl) ?_
  refine WG.y rfl rfl (by decide) (pureV_ok tab_ok rfl (fun _ => rfl)) ?_
  refine WG.y rfl rfl (by decide) (Yl.pand rfl rfl rfl (fun _ => rfl) (by intro h1 h2; simp_all <;> omega)) ?_
  refine WG.run tab_ok 1 rfl ?_
  refine WL.guardT rfl (by rfl) ?_
  refine' WG.y rfl rfl (by decide) (Yl.load1 tab_ok rfl rfl rfl (fun _ => rfl) ?r4 rfl ?h4) ?_
  case r4 => (first | exact Rd.blk 0 rfl | exact Rd.blk 1 rfl | exact Rd.blk 2 rfl | exact Rd.blk 3 rfl | exact Rd.blk 4 rfl | exact Rd.blk 5 rfl)
  case h4 => rfl
  refine WL.guardT rfl (by rfl) ?_
  refine WG.callV (v := .int .i64 21) en39 rfl rfl (by decide) (CallOp.mk' rfl rfl rfl rfl) (fun _ => rfl) (fun hg => by
    have h := At_V (t := 4) (per := 1) (inc := 10) (c := fc1) hf1 (by constructor <;> decide) ⟨by constructor <;> decide, by decide⟩ (by decide) (by decide)
    exact h) ?_
  refine WL.guardT rfl (by rfl) ?_
  refine WG.y rfl rfl (by decide) (pureV_ok tab_ok rfl (fun _ => rfl)) ?_
  refine WG.y rfl rfl (by decide) (Yl.pand rfl rfl rfl (fun _ => rfl) (by intro h1 h2; simp_all <;> omega)) ?_
  refine WG.run tab_ok 1 rfl ?_
  refine WL.guardT rfl (by rfl) ?_
  refine WG.y rfl rfl (by decide) (pureV_ok tab_ok rfl (fun _ => rfl)) ?_
  refine WL.guardT rfl (by rfl) ?_
  refine WG.y rfl rfl (by decide) (pureV_ok tab_ok rfl (fun _ => rfl)) ?_
  refine WG.y rfl rfl (by decide) (Yl.pand rfl rfl rfl (fun _ => rfl) (by intro h1 h2; simp_all <;> omega)) ?_
  refine WG.run tab_ok 1 rfl ?_
  refine WL.guardT rfl (by rfl) ?_
  refine' WG.y rfl rfl (by decide) (Yl.load1 tab_ok rfl rfl rfl (fun _ => rfl) ?r5 rfl ?h5) ?_
  case r5 => (first | exact Rd.blk 0 rfl | exact Rd.blk 1 rfl | exact Rd.blk 2 rfl | exact Rd.blk 3 rfl | exact Rd.blk 4 rfl | exact Rd.blk 5 rfl)
  case h5 => rfl
  refine WL.guardT rfl (by rfl) ?_
  refine WG.callV (v := .bool true) en66 rfl rfl (by decide) (CallOp.mk' rfl rfl rfl rfl) (fun _ => rfl) (fun hg => by
    have h := Valid_V (per := 1) (inc := 10) (c := fc2) hf2 (by constructor <;> decide) (by constructor <;> decide) (by decide)
    exact h) ?_
  refine WG.y rfl rfl (by decide) (Yl.pand rfl rfl rfl (fun _ => rfl) (by intro h1 h2; simp_all <;> omega)) ?_
  refine WG.run tab_ok 1 rfl ?_
  refine WL.guardT rfl (by rfl) ?_
  refine' WG.y rfl rfl (by decide) (Yl.load1 tab_ok rfl rfl rfl (fun _ => rfl) ?r6 rfl ?h6) ?_
  case r6 => (first | exact Rd.blk 0 rfl | exact Rd.blk 1 rfl | exact Rd.blk 2 rfl | exact Rd.blk 3 rfl | exact Rd.blk 4 rfl | exact Rd.blk 5 rfl)
  case h6 => rfl
  refine WL.guardT rfl (by rfl) ?_
  refine WG.callV (v := .int .i64 0) en39 rfl rfl (by decide) (CallOp.mk' rfl rfl rfl rfl) (fun _ => rfl) (fun hg => by
    have h := At_V (t := 1) (per := 1) (inc := 10) (c := fc2) hf2 (by constructor <;> decide) ⟨by constructor <;> decide, by decide⟩ (by decide) (by decide)
    exact h) ?_
  refine WL.guardT rfl (by rfl) ?_
  refine WG.y rfl rfl (by decide) (pureV_ok tab_ok rfl (fun _ => rfl)) ?_
  refine WG.y rfl rfl (by decide) (Yl.pand rfl rfl rfl (fun _ => rfl) (by intro h1 h2; simp_all <;> omega)) ?_
  refine WG.run tab_ok 1 rfl ?_
  refine WL.guardT rfl (by rfl) ?_
  refine' WG.y rfl rfl (by decide) (Yl.load1 tab_ok rfl rfl rfl (fun _ => rfl) ?r7 rfl ?h7) ?_
  case r7 => (first | exact Rd.blk 0 rfl | exact Rd.blk 1 rfl | exact Rd.blk 2 rfl | exact Rd.blk 3 rfl | exact Rd.blk 4 rfl | exact Rd.blk 5 rfl)
  case h7 => rfl
  refine WL.guardT rfl (by rfl) ?_
  refine WG.callV (v := .int .i64 16) en39 rfl rfl (by decide) (CallOp.mk' rfl rfl rfl rfl) (fun _ => rfl) (fun hg => by
    have h := At_V (t := 3) (per := 1) (inc := 10) (c := fc2) hf2 (by constructor <;> decide) ⟨by constructor <;> decide, by decide⟩ (by decide) (by decide)
    exact h) ?_
  refine WL.guardT rfl (by rfl) ?_
  refine WG.y rfl rfl (by decide) (pureV_ok tab_ok rfl (fun _ => rfl)) ?_
  refine WG.y rfl rfl (by decide) (Yl.pand rfl rfl rfl (fun _ => rfl) (by intro h1 h2; simp_all <;> omega)) ?_
  refine WG.run tab_ok 1 rfl ?_
  refine WG.nil ?_
  refine WE.nxt ?_
  refine W.ret ?_
  refine WE.retF tab_ok [_] rfl ⟨rfl, trivial⟩ (hR1.trans (hR2.trans (hRq.trans (hR3.trans (hR4.trans (hR5.trans (hR6.trans (hR7.trans (hR8.trans hR9))))))))) ?_
  exact ⟨rfl, (by (repeat (first | exact List.Sublist.refl _ | exact List.nil_sublist _ | apply List.Sublist.cons_cons | apply List.Sublist.cons)); done)⟩

end Go.Proofs.Ytnaeefefggmomaa

/- Chapter 18: the runs. No condition. -/
set_option linter.unusedSimpArgs false
set_option linter.unusedVariables false
namespace Go.Proofs.Ytnaeefefggmomaa
open Go Go.RowKit Go.Proofs.Ytnaeefefggmomaa.K Go.Proofs.Ytnaeefefggmomaa.M

set_option maxHeartbeats 1000000 in
theorem PriorityRuns_F {R : Ro} {ra : Option Addr} {rc : Nat} {raw : List Pkt} {z1 z2 z3 : Int} {a : Option Addr} {c : Nat} {xs : List Int} (hraw : RS R 3 encP ra raw) (ha : RS R 1 encI a xs) (hc : xs.length ≤ c) (w0 : World) : K.Fn Try.prog 8 [.slice ra raw.length rc, .int .i64 z1, .int .i64 z2, .int .i64 z3, .slice a xs.length c] w0 R [] (fun v _ _ => v = .bool true) := by
  have hlr := hraw.len
  refine Fn.enter (n := 100) Try.func8 rfl rfl (Nat.le_of_ble_eq_true rfl) rfl ?_
  refine W.seq ?_
  refine W.region _ ?_
  refine WG.run tab_ok 1 rfl ?_
  refine WG.nil ?_
  refine WE.nxt ?_
  refine W.seq ?_
  refine W.seq ?_
  refine W.region _ ?_
  refine WG.run tab_ok 3 rfl ?_
  refine WG.nil ?_
  refine WE.nxt ?_
  refine W.condD rfl (fun hc0 => ?_) (fun hc0 => ?_)
  · try dsimp only at hc0
    refine W.seq ?_
    refine W.region _ ?_
    refine WL.call en41 rfl rfl (by decide) (CallOp.mkT rfl rfl rfl rfl) (Awake18_C w0 _) ?_
    rintro _ R9 E9 hR9 ⟨rfl, hsub9⟩
    refine WL.subE hsub9 ?_
    refine WG.run tab_ok 1 rfl ?_
    refine WG.nil ?_
    refine WE.nxt ?_
    refine W.ret ?_
    refine WE.then_ret ?_
    refine WE.retF tab_ok [_] rfl ⟨rfl, trivial⟩ (by first | exact hR9 | exact hR1.trans (hR2.trans (hR3.trans (hRk.trans hR13)))) ?_
    exact rfl
  · try dsimp only at hc0
    refine W.skip ?_
    refine WE.nxt ?_
    refine W.seq ?_
    refine W.region _ ?_
    refine WG.run tab_ok 1 rfl ?_
    refine WL.call en16 rfl rfl (by decide) (CallOp.mkT rfl rfl rfl rfl) (New_C w0 _ hc) ?_
    rintro _ _ _ - ⟨b, rfl, rfl, rfl⟩
    have hz := ha.take 2000
    refine WG.run tab_ok 1 rfl ?_
    refine WG.nil ?_
    refine WE.nxt ?_
    refine W.seq ?_
    refine W.region _ ?_
    refine WG.run tab_ok 1 rfl ?_
    refine WL.callAt 0 en17 rfl rfl (by decide) (CallOp.mkT rfl rfl rfl rfl) rfl (Traffic_C w0 hz (by decide) (by constructor <;> decide) (by decide) _) ?_
    rintro _ _ _ _ - ⟨a2, c2, rfl, rfl, rfl, rfl⟩
    refine WL.freeze (enc := encP) (xs := (traffic (xs.take 2000) 12 3 40 0)) 0 rfl ?_
    intro R1 hR1 hp
    have hz := hz.mono hR1
    have hok := traffic_ok (xs.take 2000) (n := 12) (flows := 3) (most := 40) (by decide) (by decide) (by decide) 0
    have hat := traffic_at (xs.take 2000) (n := 12) (flows := 3) (most := 40) (by decide) (by decide) (by decide) 0
    have hlt := traffic_len (xs.take 2000) (n := 12) (flows := 3) (most := 40) (by decide) 0
    generalize (traffic (xs.take 2000) 12 3 40 0) = ps at hp hok hat hlt ⊢
    generalize 0 + 1 + 3 * trafficK (xs.take 2000) 12 0 = cn1
    refine WG.run tab_ok 1 rfl ?_
    refine WG.nil ?_
    refine WE.nxt ?_
    refine W.seq ?_
    refine W.seq ?_
    refine W.region _ ?_
    refine WG.run tab_ok 4 rfl ?_
    refine WL.callAt 0 en19 rfl rfl (by decide) (CallOp.mkT rfl rfl rfl rfl) rfl (Broken_C w0 hz hp rfl (by omega) _) ?_
    rintro _ R2 _ _ hR2 ⟨a48, c48, cn0, qs, rfl, hqs, rfl, rfl⟩
    have hp := hp.mono hR2
    have hz := hz.mono hR2
    have hraw := hraw.mono (hR1.trans hR2)
    refine WL.ef rfl rfl (by decide) (Ef.buildSliceD (enc := encL) (parts := [.tmp 29, .tmp 30, .tmp 33]) [(⟨a2, c2, ps⟩ : SlP), ⟨ra, rc, raw⟩, ⟨a48, c48, qs⟩] tab_ok rfl rfl rfl rfl rfl rfl rfl rfl (by decide) (by decide) (fun a34 => ?_))
    refine WL.freeze (enc := encL) 0 rfl ?_
    intro R3 hR3 htl0
    obtain ⟨tl, htl0, htll, htl⟩ : ∃ tl : List SlP, RS R3 1 encL (some ⟨a34, 0, none⟩) tl ∧ tl.length = 3 ∧ ∀ s ∈ tl, RS R3 3 encP s.a s.xs := ⟨_, htl0, rfl, fun s hs => by
      simp only [List.mem_cons, List.not_mem_nil, or_false] at hs
      rcases hs with rfl | rfl | rfl
      · exact hp.mono hR3
      · exact hraw.mono hR3
      · exact hqs.mono hR3⟩
    have hz3 := hz.mono hR3
    refine WG.run tab_ok 2 rfl ?_
    refine WG.nil ?_
    refine WE.nxt ?_
    refine W.block ?_
    refine W.loop (β := Ro × Nat × Nat) (fun (Rk, j, cn) => j ≤ 3 ∧ RLe R3 Rk) (fun (Rk, j, cn) => [(1, true, .int .i64 z1), (2, true, .int .i64 z2), (3, true, .int .i64 z3), (11, true, .pointer (some ⟨b, 0, none⟩)), (34, true, .slice (some ⟨a34, 0, none⟩) 3 3), (35, true, .int .i64 ((3 : Nat) : Int)), (36, true, .int .i64 (j : Int))]) (fun (Rk, _, _) => Rk) (fun (Rk, j, cn) => [srcE b a c (xs.take 2000) (cn)]) (fun (Rk, j, cn) => 3 - j) ((R3, 0, cn0)) (⟨Nat.zero_le _, RLe.refl _⟩) ⟨rfl, rfl, rfl, rfl, rfl, rfl, rfl, rfl⟩ (RLe.refl _) (by (repeat (first | exact List.Sublist.refl _ | exact List.nil_sublist _ | apply List.Sublist.cons_cons | apply List.Sublist.cons)); done) ?_
    intro st hst
    obtain ⟨Rk, j, cn⟩ := st
    obtain ⟨hj, hRk⟩ := hst
    dsimp only at hj hRk ⊢
    have hz := hz3.mono hRk
    refine W.seq ?_
    refine W.region _ ?_
    refine WG.run tab_ok 1 rfl ?_
    refine WG.nil ?_
    refine WE.nxt ?_
    refine W.seq ?_
    refine W.condD rfl (fun hc1 => ?_) (fun hc1 => ?_)
    · try dsimp only at hc1
      have hjl : j < tl.length := by omega
      have hq : RS Rk 3 encP (nth tl j).a (nth tl j).xs := (htl _ (nth_mem hjl)).mono hRk
      have htl1 := htl0.mono hRk
      refine W.skip ?_
      refine WE.nxt ?_
      refine W.seq ?_
      refine W.block ?_
      refine W.seq ?_
      refine W.region _ ?_
      refine WG.y rfl rfl (by decide) (Yl.indexN tab_ok rfl rfl rfl rfl rfl rfl (fun _ => rfl) (by intro _; (try dsimp only) <;> omega) (by intro _; first | exact fun _ _ _ _ => rfl | exact RS.has (by assumption) | exact fun _ _ _ _ => (by assumption) | exact HasMem.ownD 0 rfl | exact HasMem.ownD 1 rfl | exact HasMem.ownD 2 rfl | exact HasMem.ownD 3 rfl | exact HasMem.ownD 4 rfl)) ?_
      refine' WG.y rfl rfl (by decide) (Yl.load1 tab_ok rfl rfl rfl (fun _ => rfl) ?r1 rfl ?h1) ?_
      case r1 => (first | (apply RS.rdD; assumption; ((try dsimp only) <;> omega)) | exact Rd.slD 0 rfl (by (try dsimp only) <;> omega) | exact Rd.slD 1 rfl (by (try dsimp only) <;> omega) | exact Rd.slD 2 rfl (by (try dsimp only) <;> omega) | exact Rd.slD 3 rfl (by (try dsimp only) <;> omega) | exact Rd.slD 4 rfl (by (try dsimp only) <;> omega))
      case h1 => rfl
      refine WG.run tab_ok 1 rfl ?_
      refine WG.nil ?_
      refine WE.nxt ?_
      refine W.seq ?_
      refine W.region _ ?_
      refine WG.run tab_ok 1 rfl ?_
      refine WL.callAt 0 en21 rfl rfl (by decide) (CallOp.mkT rfl rfl rfl rfl) rfl (N_C w0 hz (by constructor <;> decide) _) ?_
      rintro _ _ _ _ - ⟨rfl, rfl, rfl, rfl⟩
      have hm30 := mod_range (nth (xs.take 2000) cn) (show (1 : Int) ≤ 30 by decide)
      refine WG.y rfl rfl (by decide) (Yl.add rfl rfl rfl (fun _ => rfl) (by intro _; constructor <;> (try dsimp only) <;> omega)) ?_
      refine WG.run tab_ok 1 rfl ?_
      refine WL.callAt 0 en21 rfl rfl (by decide) (CallOp.mkT rfl rfl rfl rfl) rfl (N_C w0 hz (by constructor <;> decide) _) ?_
      rintro _ _ _ _ - ⟨rfl, rfl, rfl, rfl⟩
      -- build
      refine WG.y rfl rfl (by decide) (Yl.buildArr (parts := [(0, .tmp 42), (1, .const (.int .i64 3)), (2, .tmp 44)]) tab_ok rfl rfl rfl rfl rfl (fun _ => rfl) rfl) ?_
      refine WG.run tab_ok 3 rfl ?_
      -- build
      refine WG.y rfl rfl (by decide) (Yl.buildArr (parts := [(0, .tmp 46), (1, .tmp 47), (2, .tmp 48)]) tab_ok rfl rfl rfl rfl rfl (fun _ => rfl) rfl) ?_
      refine WG.run tab_ok 1 rfl ?_
      refine WL.ef rfl rfl (by decide) (Ef.buildSliceD (enc := encI) (parts := [.const (.int .i64 0), .const (.int .i64 1), .const (.int .i64 7), .const (.int .i64 4000)]) [_, _, _, _] tab_ok rfl rfl rfl rfl rfl rfl rfl rfl (by decide) (by decide) (fun a51 => ?_))
      refine WL.callAt 1 en22 rfl rfl (by decide) (CallOp.mkT rfl rfl rfl rfl) rfl (PickN_C (j := 0) w0 [0, 1, 7, 4000] rfl (by decide) (by decide) hz rfl) ?_
      rintro _ _ _ _ - ⟨rfl, rfl, rfl, rfl⟩
      refine WG.run tab_ok 1 rfl ?_
      refine WL.ef rfl rfl (by decide) (Ef.buildSliceD (enc := encI) (parts := [.const (.int .i64 0), .const (.int .i64 1), .const (.int .i64 3), .const (.int .i64 6), .const (.int .i64 7)]) [_, _, _, _, _] tab_ok rfl rfl rfl rfl rfl rfl rfl rfl (by decide) (by decide) (fun a54 => ?_))
      refine WL.callAt 2 en22 rfl rfl (by decide) (CallOp.mkT rfl rfl rfl rfl) rfl (PickN_C (j := 0) w0 [0, 1, 3, 6, 7] rfl (by decide) (by decide) hz rfl) ?_
      rintro _ _ _ _ - ⟨rfl, rfl, rfl, rfl⟩
      refine WG.run tab_ok 1 rfl ?_
      refine WL.ef rfl rfl (by decide) (Ef.buildSliceD (enc := encI) (parts := [.const (.int .i64 (-1)), .const (.int .i64 0), .const (.int .i64 20), .const (.int .i64 300), .const (.int .i64 2001)]) [_, _, _, _, _] tab_ok rfl rfl rfl rfl rfl rfl rfl rfl (by decide) (by decide) (fun a57 => ?_))
      refine WL.callAt 3 en22 rfl rfl (by decide) (CallOp.mkT rfl rfl rfl rfl) rfl (PickN_C (j := 0) w0 [-1, 0, 20, 300, 2001] rfl (by decide) (by decide) hz rfl) ?_
      rintro _ _ _ _ - ⟨rfl, rfl, rfl, rfl⟩
      -- build
      refine WG.y rfl rfl (by decide) (Yl.buildArr (parts := [(0, .tmp 52), (1, .tmp 55), (2, .tmp 58)]) tab_ok rfl rfl rfl rfl rfl (fun _ => rfl) rfl) ?_
      refine WL.ef rfl rfl (by decide) (Ef.buildSliceD (enc := enc3) (parts := [.tmp 45, .tmp 49, .tmp 59]) [⟨_, _, _⟩, ⟨_, _, _⟩, ⟨_, _, _⟩] tab_ok rfl rfl rfl rfl rfl rfl rfl rfl (by decide) (by decide) (fun a60 => ?_))
      refine WL.freeze (enc := enc3) 0 rfl ?_
      intro R4 hR4 htr
      obtain ⟨tr, htr, htrl⟩ : ∃ tr : List (Int × Int × Int), RS R4 3 enc3 (some ⟨a60, 0, none⟩) tr ∧ tr.length = 3 := ⟨_, htr, rfl⟩
      have hq4 := hq.mono hR4
      have hz4 := hz.mono hR4
      refine WG.run tab_ok 2 rfl ?_
      refine WG.nil ?_
      refine WE.nxt ?_
      refine W.block ?_
      refine W.loop (β := Ro × Nat × Nat) (fun (Rk, i, cn) => i ≤ 3 ∧ RLe R4 Rk) (fun (Rk, i, cn) => [(1, true, .int .i64 z1), (2, true, .int .i64 z2), (3, true, .int .i64 z3), (11, true, .pointer (some ⟨b, 0, none⟩)), (34, true, .slice (some ⟨a34, 0, none⟩) 3 3), (35, true, .int .i64 ((3 : Nat) : Int)), (36, true, .int .i64 (j : Int)), (14, true, .slice (nth tl j).a (nth tl j).xs.length (nth tl j).cap), (60, true, .slice (some ⟨a60, 0, none⟩) 3 3), (61, true, .int .i64 ((3 : Nat) : Int)), (62, true, .int .i64 (i : Int))]) (fun (Rk, _, _) => Rk) (fun (Rk, i, cn) => [srcE b a c (xs.take 2000) (cn)]) (fun (Rk, i, cn) => 3 - i) ((R4, 0, _)) (⟨Nat.zero_le _, RLe.refl _⟩) ⟨rfl, rfl, rfl, rfl, rfl, rfl, rfl, rfl, rfl, rfl, rfl, rfl⟩ (RLe.refl _) (by (repeat (first | exact List.Sublist.refl _ | exact List.nil_sublist _ | apply List.Sublist.cons_cons | apply List.Sublist.cons)); done) ?_
      intro st hst
      obtain ⟨Rk1, i, cn⟩ := st
      obtain ⟨hi, hRk1⟩ := hst
      dsimp only at hi hRk1 ⊢
      refine W.seq ?_
      refine W.region _ ?_
      refine WG.run tab_ok 1 rfl ?_
      refine WG.nil ?_
      refine WE.nxt ?_
      refine W.seq ?_
      refine W.condD rfl (fun hc2 => ?_) (fun hc2 => ?_)
      · try dsimp only at hc2
        have hil : i < tr.length := by omega
        have hq := hq4.mono hRk1
        have hz := hz4.mono hRk1
        have htr1 := htr.mono hRk1
        refine W.skip ?_
        refine WE.nxt ?_
        refine W.seq ?_
        refine W.block ?_
        refine W.seq ?_
        refine W.region _ ?_
        refine WG.y rfl rfl (by decide) (Yl.indexN tab_ok rfl rfl rfl rfl rfl rfl (fun _ => rfl) (by intro _; (try dsimp only) <;> omega) (by intro _; first | exact fun _ _ _ _ => rfl | exact RS.has (by assumption) | exact fun _ _ _ _ => (by assumption) | exact HasMem.ownD 0 rfl | exact HasMem.ownD 1 rfl | exact HasMem.ownD 2 rfl | exact HasMem.ownD 3 rfl | exact HasMem.ownD 4 rfl)) ?_
        refine' WG.y rfl rfl (by decide) (Yl.load1 tab_ok rfl rfl rfl (fun _ => rfl) ?r2 rfl ?h2) ?_
        case r2 => (first | (apply RS.rdD; assumption; ((try dsimp only) <;> omega)) | exact Rd.slD 0 rfl (by (try dsimp only) <;> omega) | exact Rd.slD 1 rfl (by (try dsimp only) <;> omega) | exact Rd.slD 2 rfl (by (try dsimp only) <;> omega) | exact Rd.slD 3 rfl (by (try dsimp only) <;> omega) | exact Rd.slD 4 rfl (by (try dsimp only) <;> omega))
        case h2 => rfl
        refine WL.ef rfl rfl (by decide) (Ef.alloc tab_ok rfl rfl (fun b16 => ?_))
        first | refine WL.efN rfl rfl (Ef.store0 0 tab_ok rfl rfl rfl rfl rfl rfl rfl rfl ?_) | refine WL.efN rfl rfl (Ef.store0 1 tab_ok rfl rfl rfl rfl rfl rfl rfl rfl ?_) | refine WL.efN rfl rfl (Ef.store0 2 tab_ok rfl rfl rfl rfl rfl rfl rfl rfl ?_) | refine WL.efN rfl rfl (Ef.store0 3 tab_ok rfl rfl rfl rfl rfl rfl rfl rfl ?_) | refine WL.efN rfl rfl (Ef.store0 4 tab_ok rfl rfl rfl rfl rfl rfl rfl rfl ?_)
        refine WG.nil ?_
        refine WE.nxt ?_
        refine W.seq ?_
        refine W.region _ ?_
        refine WG.y rfl rfl (by decide) (Yl.indexArr tab_ok rfl rfl rfl rfl rfl rfl (fun _ => rfl) (by intro _; constructor <;> (try dsimp only) <;> omega)) ?_
        refine' WG.y rfl rfl (by decide) (Yl.load1 tab_ok rfl rfl rfl (fun _ => rfl) ?r3 rfl ?h3) ?_
        case r3 => apply Rd.add; (first | exact Rd.blk 0 rfl | exact Rd.blk 1 rfl | exact Rd.blk 2 rfl | exact Rd.blk 3 rfl | exact Rd.blk 4 rfl)
        case h3 => rfl
        refine WG.y rfl rfl (by decide) (Yl.indexArr tab_ok rfl rfl rfl rfl rfl rfl (fun _ => rfl) (by intro _; constructor <;> (try dsimp only) <;> omega)) ?_
        refine' WG.y rfl rfl (by decide) (Yl.load1 tab_ok rfl rfl rfl (fun _ => rfl) ?r4 rfl ?h4) ?_
        case r4 => apply Rd.add; (first | exact Rd.blk 0 rfl | exact Rd.blk 1 rfl | exact Rd.blk 2 rfl | exact Rd.blk 3 rfl | exact Rd.blk 4 rfl)
        case h4 => rfl
        refine WG.run tab_ok 1 rfl ?_
        refine WG.y rfl rfl (by decide) (Yl.indexArr tab_ok rfl rfl rfl rfl rfl rfl (fun _ => rfl) (by intro _; constructor <;> (try dsimp only) <;> omega)) ?_
        refine' WG.y rfl rfl (by decide) (Yl.load1 tab_ok rfl rfl rfl (fun _ => rfl) ?r5 rfl ?h5) ?_
        case r5 => apply Rd.add; (first | exact Rd.blk 0 rfl | exact Rd.blk 1 rfl | exact Rd.blk 2 rfl | exact Rd.blk 3 rfl | exact Rd.blk 4 rfl)
        case h5 => rfl
        refine WL.call en42 rfl rfl (by decide) (CallOp.mkT rfl rfl rfl rfl) (PRun_any hq rfl w0 _) ?_
        rintro _ R5 _ hR5 ⟨d1, o1, dc1, oc1, rows1, rfl, hd1, ho1, hr1, hx1, hsub1⟩
        refine WL.subE hsub1 ?_
        have hq := hq.mono hR5
        have hz := hz.mono hR5
        refine WG.run tab_ok 3 rfl ?_
        refine WL.ef rfl rfl (by decide) (Ef.alloc tab_ok rfl rfl (fun b17 => ?_))
        first | refine WL.efN rfl rfl (Ef.store0 0 tab_ok rfl rfl rfl rfl rfl rfl rfl rfl ?_) | refine WL.efN rfl rfl (Ef.store0 1 tab_ok rfl rfl rfl rfl rfl rfl rfl rfl ?_) | refine WL.efN rfl rfl (Ef.store0 2 tab_ok rfl rfl rfl rfl rfl rfl rfl rfl ?_) | refine WL.efN rfl rfl (Ef.store0 3 tab_ok rfl rfl rfl rfl rfl rfl rfl rfl ?_) | refine WL.efN rfl rfl (Ef.store0 4 tab_ok rfl rfl rfl rfl rfl rfl rfl rfl ?_)
        refine WG.run tab_ok 1 rfl ?_
        refine WG.nil ?_
        refine WE.nxt ?_
        refine W.seq ?_
        refine W.region _ ?_
        refine WG.y rfl rfl (by decide) (Yl.indexArr tab_ok rfl rfl rfl rfl rfl rfl (fun _ => rfl) (by intro _; constructor <;> (try dsimp only) <;> omega)) ?_
        refine' WG.y rfl rfl (by decide) (Yl.load1 tab_ok rfl rfl rfl (fun _ => rfl) ?r6 rfl ?h6) ?_
        case r6 => apply Rd.add; (first | exact Rd.blk 0 rfl | exact Rd.blk 1 rfl | exact Rd.blk 2 rfl | exact Rd.blk 3 rfl | exact Rd.blk 4 rfl)
        case h6 => rfl
        refine WG.y rfl rfl (by decide) (Yl.indexArr tab_ok rfl rfl rfl rfl rfl rfl (fun _ => rfl) (by intro _; constructor <;> (try dsimp only) <;> omega)) ?_
        refine' WG.y rfl rfl (by decide) (Yl.load1 tab_ok rfl rfl rfl (fun _ => rfl) ?r7 rfl ?h7) ?_
        case r7 => apply Rd.add; (first | exact Rd.blk 0 rfl | exact Rd.blk 1 rfl | exact Rd.blk 2 rfl | exact Rd.blk 3 rfl | exact Rd.blk 4 rfl)
        case h7 => rfl
        refine WG.run tab_ok 1 rfl ?_
        refine WG.y rfl rfl (by decide) (Yl.indexArr tab_ok rfl rfl rfl rfl rfl rfl (fun _ => rfl) (by intro _; constructor <;> (try dsimp only) <;> omega)) ?_
        refine' WG.y rfl rfl (by decide) (Yl.load1 tab_ok rfl rfl rfl (fun _ => rfl) ?r8 rfl ?h8) ?_
        case r8 => apply Rd.add; (first | exact Rd.blk 0 rfl | exact Rd.blk 1 rfl | exact Rd.blk 2 rfl | exact Rd.blk 3 rfl | exact Rd.blk 4 rfl)
        case h8 => rfl
        refine WL.call en43 rfl rfl (by decide) (CallOp.mkT rfl rfl rfl rfl) (RPRun_any hq rfl w0 _) ?_
        rintro _ R6 _ hR6 ⟨d2, o2, dc2, oc2, rows2, rfl, hd2, ho2, hr2, hx2, hsub2⟩
        refine WL.subE hsub2 ?_
        have hz := hz.mono hR6
        refine WG.run tab_ok 3 rfl ?_
        refine WL.ef rfl rfl (by decide) (Ef.alloc tab_ok rfl rfl (fun b19 => ?_))
        first | refine WL.efN rfl rfl (Ef.store0 0 tab_ok rfl rfl rfl rfl rfl rfl rfl rfl ?_) | refine WL.efN rfl rfl (Ef.store0 1 tab_ok rfl rfl rfl rfl rfl rfl rfl rfl ?_) | refine WL.efN rfl rfl (Ef.store0 2 tab_ok rfl rfl rfl rfl rfl rfl rfl rfl ?_) | refine WL.efN rfl rfl (Ef.store0 3 tab_ok rfl rfl rfl rfl rfl rfl rfl rfl ?_) | refine WL.efN rfl rfl (Ef.store0 4 tab_ok rfl rfl rfl rfl rfl rfl rfl rfl ?_)
        refine WG.run tab_ok 1 rfl ?_
        refine WG.nil ?_
        refine WE.nxt ?_
        refine W.seq ?_
        refine W.region _ ?_
        refine WG.run tab_ok 4 rfl ?_
        refine' WG.y rfl rfl (by decide) (Yl.loadG tab_ok rfl rfl rfl (by first | exact fun _ => rfl | exact fun h => h | (intro h; simp_all)) ?r9 rfl ?h9 ?g9) ?_
        case r9 => (first | exact Rd.blkC 0 rfl | exact Rd.blkC 1 rfl | exact Rd.blkC 2 rfl | exact Rd.blkC 3 rfl | exact Rd.blkC 4 rfl)
        case h9 => rfl
        case g9 => first | exact fun _ => trivial | (intro hg; (try simp only [decide_eq_true_eq, decide_eq_false_iff_not, beq_iff_eq, bne_iff_ne, beq_eq_false_iff_ne, bne_eq_false_iff_eq, ne_eq, Bool.or_eq_true, Bool.or_eq_false_iff, Bool.and_eq_true, Bool.and_eq_false_imp, Bool.not_eq_true, Bool.not_eq_true', Bool.not_eq_false', Classical.not_not, Int.not_lt, Int.not_le, gt_iff_lt, ge_iff_le] at hg); (try dsimp only); omega)
        refine' WG.y rfl rfl (by decide) (Yl.loadG tab_ok rfl rfl rfl (by first | exact fun _ => rfl | exact fun h => h | (intro h; simp_all)) ?r10 rfl ?h10 ?g10) ?_
        case r10 => (first | exact Rd.blkC 0 rfl | exact Rd.blkC 1 rfl | exact Rd.blkC 2 rfl | exact Rd.blkC 3 rfl | exact Rd.blkC 4 rfl)
        case h10 => rfl
        case g10 => first | exact fun _ => trivial | (intro hg; (try simp only [decide_eq_true_eq, decide_eq_false_iff_not, beq_iff_eq, bne_iff_ne, beq_eq_false_iff_ne, bne_eq_false_iff_eq, ne_eq, Bool.or_eq_true, Bool.or_eq_false_iff, Bool.and_eq_true, Bool.and_eq_false_imp, Bool.not_eq_true, Bool.not_eq_true', Bool.not_eq_false', Classical.not_not, Int.not_lt, Int.not_le, gt_iff_lt, ge_iff_le] at hg); (try dsimp only); omega)
        refine WG.callV en25 rfl rfl (by decide) (CallOp.mk' rfl rfl rfl rfl) (by first | exact fun _ => rfl | exact fun h => h | (intro h; simp_all)) (fun hg => Same16_V (hd1.mono hR6) hd2 (ho1.mono hR6) ho2 (fun r hr => (hr1 r hr).mono hR6) hr2 rfl (by rw [hx1, hx2])) ?_
        refine WG.y rfl rfl (by decide) (pureV_ok tab_ok rfl (by first | exact fun _ => rfl | exact fun h => h | (intro h; simp_all))) ?_
        refine WG.y rfl rfl (by decide) (Yl.por rfl rfl rfl (fun _ => rfl) (by intro h1 h2; simp_all <;> omega)) ?_
        refine WG.nil ?_
        refine WE.nxt ?_
        refine W.cond rfl (fun hc3 => ?_) (fun hc3 => ?_)
        · try simp only [decide_eq_true_eq, decide_eq_false_iff_not, beq_iff_eq, bne_iff_ne, beq_eq_false_iff_ne, bne_eq_false_iff_eq, ne_eq, Bool.or_eq_true, Bool.or_eq_false_iff, Bool.and_eq_true, Bool.and_eq_false_imp, Bool.not_eq_true, Bool.not_eq_true', Bool.not_eq_false', Classical.not_not, Int.not_lt, Int.not_le, gt_iff_lt, ge_iff_le] at hc3
          first | done | (simp at hc3; done) | exact absurd hc3 (by decide)
        · try simp only [decide_eq_true_eq, decide_eq_false_iff_not, beq_iff_eq, bne_iff_ne, beq_eq_false_iff_ne, bne_eq_false_iff_eq, ne_eq, Bool.or_eq_true, Bool.or_eq_false_iff, Bool.and_eq_true, Bool.and_eq_false_imp, Bool.not_eq_true, Bool.not_eq_true', Bool.not_eq_false', Classical.not_not, Int.not_lt, Int.not_le, gt_iff_lt, ge_iff_le] at hc3
          refine W.skip ?_
          refine WE.blk _ ?_
          refine WE.nxt ?_
          refine W.region _ ?_
          refine WG.y rfl rfl (by decide) (Yl.add rfl rfl rfl (fun _ => rfl) (by intro _; constructor <;> (try dsimp only) <;> omega)) ?_
          refine WG.run tab_ok 1 rfl ?_
          refine WG.nil ?_
          refine WE.again ((R6, i + 1, cn)) (⟨by dsimp only; omega, hRk1.trans (hR5.trans hR6)⟩) (by (try dsimp only); omega) ⟨rfl, rfl, rfl, rfl, rfl, rfl, rfl, rfl, rfl, rfl, rfl, rfl⟩ (RLe.refl _) (by (repeat (first | exact List.Sublist.refl _ | exact List.nil_sublist _ | apply List.Sublist.cons_cons | apply List.Sublist.cons)); done)
      · try dsimp only at hc2
        refine W.exit ?_
        refine WE.then_exit ?_
        refine WE.then_exit ?_
        refine WE.blk_exit ?_
        refine WE.blk _ ?_
        refine WE.nxt ?_
        refine W.region _ ?_
        refine WG.y rfl rfl (by decide) (Yl.add rfl rfl rfl (fun _ => rfl) (by intro _; constructor <;> (try dsimp only) <;> omega)) ?_
        refine WG.run tab_ok 1 rfl ?_
        refine WG.nil ?_
        refine WE.again ((Rk1, j + 1, cn)) (⟨by dsimp only; omega, hRk.trans (hR4.trans hRk1)⟩) (by (try dsimp only); omega) ⟨rfl, rfl, rfl, rfl, rfl, rfl, rfl, rfl⟩ (RLe.refl _) (by (repeat (first | exact List.Sublist.refl _ | exact List.nil_sublist _ | apply List.Sublist.cons_cons | apply List.Sublist.cons)); done)
    · try dsimp only at hc1
      refine W.exit ?_
      refine WE.then_exit ?_
      refine WE.then_exit ?_
      refine WE.blk_exit ?_
      refine WE.nxt ?_
      refine W.seq ?_
      refine W.region _ ?_
      refine WL.call en41 rfl rfl (by decide) (CallOp.mkT rfl rfl rfl rfl) (Awake18_C w0 _) ?_
      rintro _ R13 E9 hR13 ⟨rfl, hsub9⟩
      refine WL.subE hsub9 ?_
      refine WG.run tab_ok 1 rfl ?_
      refine WG.nil ?_
      refine WE.nxt ?_
      refine W.ret ?_
      refine WE.retF tab_ok [_] rfl ⟨rfl, trivial⟩ (by first | exact hR9 | exact hR1.trans (hR2.trans (hR3.trans (hRk.trans hR13)))) ?_
      exact rfl

end Go.Proofs.Ytnaeefefggmomaa

/- PriorityRuns: for every input the law returns true, and the input reads afterwards as it read before. No condition. -/
namespace Go.Proofs.Ytnaeefefggmomaa
open Go Go.RowKit Go.ChangeShapes Go.WideShapes Go.ChangeAt Go.WideElems Go.Maps Go.Proofs.Ytnaeefefggmomaa.K Go.Proofs.Ytnaeefefggmomaa.M
namespace priorityRuns
theorem own : ownKnob Try.prog.godebug = none := by kernel_rfl
theorem laidOut : laidOutB Try.prog = true := by kernel_rfl
theorem readable : (Try.f8.params.toList).all (fun t => Try.prog.readableRec t && decide (t < Try.prog.types.size)) = true := by kernel_rfl
theorem cellsI : Try.prog.cellsOf 3 = 1 := by kernel_rfl
section
variable {H : Type} {enc : TypeId × Value → H}
theorem flat_pkts : Flat enc Try.prog 62 3 := flat_struct Try.underlying62 (by kernel_rfl) (by
  intro j f hf
  match j, hf with
  | 0, hf => obtain rfl : _ = f := Option.some.inj hf; exact ⟨rfl, by kernel_rfl, Try.underlying3⟩
  | 1, hf => obtain rfl : _ = f := Option.some.inj hf; exact ⟨rfl, by kernel_rfl, Try.underlying3⟩
  | 2, hf => obtain rfl : _ = f := Option.some.inj hf; exact ⟨rfl, by kernel_rfl, Try.underlying3⟩
  | j + 3, hf => simp at hf)
theorem cells_pkts : Try.prog.cellsOf 62 = 3 := by kernel_rfl
theorem flat_ints : Flat enc Try.prog 3 1 := flat_int Try.underlying3
theorem cells_ints : Try.prog.cellsOf 3 = 1 := by kernel_rfl
end
set_option maxRecDepth 100000 in
theorem lifted (os : Os) (started : os.Started) (H : Type) (enc : TypeId × Value → H) :
    ReturnsInHanded {} Try.checked os 8 .any (Rows.priorityRunsSpec.pre6 enc Try.prog Try.f8 Rows.priorityRunsRow.domain false) (Rows.priorityRunsSpec.post enc Try.prog Try.f8 false true false false) := by
  refine returnsInHanded_of_change (C := Try.checked) own started (by kernel_rfl) Try.func8
    (ChangeSpec.witness6 (enc := enc) (C := Try.checked) false ⟨#[], #[.slice none 0 0, .int .i64 0, .int .i64 0, .int .i64 0, .slice none 0 0], []⟩ 8 (by kernel_rfl) (by kernel_rfl) (by kernel_rfl) (by kernel_rfl)) ?_
  intro W base args ds gs before hval0 hW _ _
  have hval : ∀ (j : Nat) t v, Try.f8.params[j]? = some t → args[j]? = some v → Value.okWide Try.prog W .any base t v := hval0
  have hW' := hW
  obtain ⟨p, q, hA0, hV, rfl, _, _⟩ := hW
  have hA : DataW.TrodAll enc Try.prog W 0 (fun _ => true) true Try.f8.params.toList args.toList ds p := hA0
  have hA1 := hA
  obtain ⟨rfl, rfl⟩ := trodVars_none hV
  simp only [List.append_nil] at hW'
  have hlt : ∀ x ∈ p, x.block < W.heap.size := fun x hx => by simpa using hW'.lt x hx
  have hcarry : ∀ W', Below W.heap.size W W' → DataW.TrodAll enc Try.prog W' 0 (fun b => decide (b < W.heap.size)) true Try.f8.params.toList args.toList ds p := fun W' hb => carryAll laidOut readable hA1 hb hlt
  clear hA0 hval0 hA1
  rw [Try.params8] at hA
  obtain ⟨v0, vs0, d0, ds0, p0, q0, e0, rfl, e20, h0, t0⟩ := trodAll_cons hA
  obtain ⟨v1, vs1, d1, ds1, p1, q1, rfl, rfl, e21, h1, t1⟩ := trodAll_cons t0
  obtain ⟨v2, vs2, d2, ds2, p2, q2, rfl, rfl, e22, h2, t2⟩ := trodAll_cons t1
  obtain ⟨v3, vs3, d3, ds3, p3, q3, rfl, rfl, e23, h3, t3⟩ := trodAll_cons t2
  obtain ⟨v4, vs4, d4, ds4, p4, q4, rfl, rfl, e24, h4, t4⟩ := trodAll_cons t3
  obtain ⟨rfl, rfl, _⟩ := trodAll_nil t4
  have hargs : args = #[v0, v1, v2, v3, v4] := by rw [← Array.toArray_toList (xs := args), e0]
  subst hargs
  obtain ⟨a0, cp0, zs0, rfl, c0, l0, m0, r0⟩ := open_flat Try.underlying22 (by decide) cells_pkts flat_pkts (hval 0 22 _ rfl rfl) h0
  have g0 : RS (roOf W) 3 encP a0 (zs0.map decP) := RS.ofFlat m0 l0 decP_enc
  have n0 : (zs0.map decP).length = zs0.length := by simp
  rw [← n0] at c0
  obtain ⟨z1, rfl, _, _, w1⟩ := open_int Try.underlying3 (hval 1 3 _ rfl rfl) h1
  have r1 : InR z1 := bounds_i64 w1
  obtain ⟨z2, rfl, _, _, w2⟩ := open_int Try.underlying3 (hval 2 3 _ rfl rfl) h2
  have r2 : InR z2 := bounds_i64 w2
  obtain ⟨z3, rfl, _, _, w3⟩ := open_int Try.underlying3 (hval 3 3 _ rfl rfl) h3
  have r3 : InR z3 := bounds_i64 w3
  obtain ⟨a4, cp4, zs4, rfl, c4, l4, m4, r4⟩ := open_flat Try.underlying23 (by decide) cells_ints flat_ints (hval 4 23 _ rfl rfl) h4
  have g4 : RS (roOf W) 1 encI a4 (zs4.map decI) := RS.ofFlat m4 l4 decI_enc
  have n4 : (zs4.map decI).length = zs4.length := by simp
  rw [← n4] at c4
  have hcall := lift_calls (P := Try.prog) (f := 8) (args := [.slice a0 (zs0.map decP).length cp0, .int .i64 z1, .int .i64 z2, .int .i64 z3, .slice a4 (zs4.map decI).length cp4]) (W := W) (PriorityRuns_F g0 g4 c4 W)
  simp only [List.length_map] at hcall
  refine hcall.mono fun e W' ⟨he, hb⟩ => ?_
  subst he
  exact ⟨_, rfl, ⟨_, _, _, [], _, [], hW', trodAll_mk1 (shut_bool Try.underlying4 _), hcarry W' hb, rfl, hb.frame _, fun h => by cases h⟩⟩
end priorityRuns
theorem priorityRuns_holds : Rows.PriorityRunsSaid :=
  OpenClaim.holds_of_wide 8 Try.f8 rfl rfl rfl rfl rfl rfl rfl ⟨rfl, rfl, rfl, rfl, rfl⟩ rfl rfl rfl rfl rfl (by kernel_rfl) Try.func8 (by kernel_rfl)
    (of_decide_eq_true (by kernel_rfl)) (by unfold Func.isWrapper; first | (rw [if_pos (by decide +kernel)]; kernel_rfl) | (rw [if_neg (by decide +kernel)]; exact ⟨rfl, rfl⟩))
    (fun os started H enc _ => priorityRuns.lifted os started H enc)
end Go.Proofs.Ytnaeefefggmomaa
