/- Rules and walks, joined from 25 texts: the first of them says: The share: differences and their least. No condition. -/
import Derived.Test.YtolmmfphdieilaaG4
import Derived.Laws.Pointers
/- The share: differences and their least. No condition. -/
set_option linter.unusedSimpArgs false
set_option linter.unusedVariables false
namespace Go.Proofs.Ytolmmfphdieilaa
open Go Go.RowKit Go.Proofs.Ytolmmfphdieilaa.K Go.Proofs.Ytolmmfphdieilaa.M

theorem GapRawG_V {R : Ro} {a1 : Option Addr} {c1 : Nat} {m1 : Cv} (hv1 : validB m1 = true) (hx1 : RS R 1 encI a1 m1.vals) {a2 : Option Addr} {c2 : Nat} {m2 : Cv} (hv2 : validB m2 = true) (hx2 : RS R 1 encI a2 m2.vals) {th u : Nat} (hu : th ≤ u ∧ u ≤ 4000000) : FnV Try.prog 59 [.agg #[.slice a1 m1.vals.length c1, .int .i64 m1.per, .int .i64 m1.inc, .slice a2 m2.vals.length c2, .int .i64 m2.per, .int .i64 m2.inc, .int .i64 (th : Int)], .int .i64 (u : Int)] R (.int .i64 (rawG m1 m2 th u)) := by
  refine Fn.toV (fun w0 E => ?_)
  have i1 := isInf_iff hv1 (t := u) (by omega)
  have i2 := isInf_iff hv2 (t := u - th) (by omega)
  have b1 := cvF_bound hv1 u
  have b2 := cvF_bound hv2 (u - th)
  unfold INF at i1 i2 b1 b2
  refine Fn.enter (n := 28) Try.func59 rfl rfl (Nat.le_of_ble_eq_true rfl) rfl ?_
  refine W.seq ?_
  refine W.region _ ?_
  refine WL.ef rfl rfl (by decide) (Ef.box rfl rfl (fun b2 => ?_))
  refine WG.run tab_ok 1 rfl ?_
  refine WG.nil ?_
  refine WE.nxt ?_
  refine W.seq ?_
  refine W.regionQ _ mixed (by kernel_rfl) ?_
  refine WG.run tab_ok 1 rfl ?_
  refine' WG.y rfl rfl (by decide) (Yl.load1 tab_ok rfl rfl rfl (fun _ => rfl) ?r1 rfl ?h1) ?_
  case r1 => apply Rd.add; (first | exact Rd.blk 0 rfl | exact Rd.blk 1 rfl | exact Rd.blk 2 rfl)
  case h1 => rfl
  refine WG.run tab_ok 1 rfl ?_
  refine WG.callV (v := .int .i64 (cvF m1 u)) en68 rfl rfl (by decide) (CallOp.mk' rfl rfl rfl rfl) (fun _ => rfl) (fun hg => WAtG_V hv1 hx1 (t := u) (by omega)) ?_
  refine WG.run tab_ok 1 rfl ?_
  refine' WG.y rfl rfl (by decide) (Yl.load1 tab_ok rfl rfl rfl (fun _ => rfl) ?r2 rfl ?h2) ?_
  case r2 => apply Rd.add; (first | exact Rd.blk 0 rfl | exact Rd.blk 1 rfl | exact Rd.blk 2 rfl)
  case h2 => rfl
  refine WG.run tab_ok 2 rfl ?_
  refine' WG.y rfl rfl (by decide) (Yl.load1 tab_ok rfl rfl rfl (fun _ => rfl) ?r3 rfl ?h3) ?_
  case r3 => apply Rd.add; (first | exact Rd.blk 0 rfl | exact Rd.blk 1 rfl | exact Rd.blk 2 rfl)
  case h3 => rfl
  refine WG.y rfl rfl (by decide) (Yl.sub rfl rfl rfl (fun _ => rfl) (by intro _; constructor <;> (try dsimp only) <;> omega)) ?_
  refine WG.callV (v := .int .i64 (cvF m2 (u - th))) en68 rfl rfl (by decide) (CallOp.mk' rfl rfl rfl rfl) (fun _ => rfl) (fun hg => by
    have h := WAtG_V (fc := c2) (t := u - th) hv2 hx2 (by omega)
    rw [show ((u - th : Nat) : Int) = (u : Int) - (th : Int) by omega] at h
    exact h) ?_
  refine WG.run tab_ok 2 rfl ?_
  refine WG.nil ?_
  refine WE.nxt ?_
  refine W.seq ?_
  refine W.block ?_
  refine W.seq ?_
  refine W.region _ ?_
  refine WG.run tab_ok 3 rfl ?_
  refine WG.nil ?_
  refine WE.nxt ?_
  refine W.condE rfl (fun hc0 => ?_) (fun hc0 => ?_)
  · try dsimp only at hc0
    have hr : rawG m1 m2 th u = 0 := if_pos (i2.2 hc0)
    refine W.seq ?_
    refine W.region _ ?_
    refine WG.run tab_ok 1 rfl ?_
    refine WG.nil ?_
    refine WE.nxt ?_
    refine W.ret ?_
    refine WE.blk_ret ?_
    refine WE.then_ret ?_
    refine WE.subE (E' := E) qS ?_
    refine WE.retF tab_ok [_] rfl ⟨rfl, trivial⟩ (RLe.refl _) ?_
    exact ⟨by rw [hr]; rfl, rfl⟩
  · try dsimp only at hc0
    have hr0 : ¬ isInf m2 (u - th) := fun h => hc0 (i2.1 h)
    refine W.seq ?_
    refine W.region _ ?_
    refine WG.run tab_ok 3 rfl ?_
    refine WG.nil ?_
    refine WE.nxt ?_
    refine W.condE rfl (fun hc1 => ?_) (fun hc1 => ?_)
    · try dsimp only at hc1
      have hr : rawG m1 m2 th u = cvF m1 u := by unfold rawG; rw [if_neg hr0, if_pos (i1.2 hc1), hc1]; rfl
      refine W.seq ?_
      refine W.region _ ?_
      refine WG.run tab_ok 2 rfl ?_
      refine WG.nil ?_
      refine WE.nxt ?_
      refine W.ret ?_
      refine WE.blk_ret ?_
      refine WE.then_ret ?_
      refine WE.subE (E' := E) qS ?_
      refine WE.retF tab_ok [_] rfl ⟨rfl, trivial⟩ (RLe.refl _) ?_
      exact ⟨by rw [hr]; rfl, rfl⟩
    · try dsimp only at hc1
      have hr : rawG m1 m2 th u = cvF m1 u - cvF m2 (u - th) := by unfold rawG; rw [if_neg hr0, if_neg (fun h => hc1 (i1.1 h))]
      refine W.skip ?_
      refine WE.blk _ ?_
      refine WE.nxt ?_
      refine W.seq ?_
      refine W.region _ ?_
      refine WG.run tab_ok 2 rfl ?_
      refine WG.y rfl rfl (by decide) (Yl.sub rfl rfl rfl (fun _ => rfl) (by intro _; constructor <;> (try dsimp only) <;> omega)) ?_
      refine WG.run tab_ok 1 rfl ?_
      refine WG.nil ?_
      refine WE.nxt ?_
      refine W.ret ?_
      refine WE.subE (E' := E) qS ?_
      refine WE.retF tab_ok [_] rfl ⟨rfl, trivial⟩ (RLe.refl _) ?_
      exact ⟨by rw [hr]; rfl, rfl⟩

theorem GapLeastG_V {R : Ro} {a1 : Option Addr} {c1 : Nat} {m1 : Cv} (hv1 : validB m1 = true) (hx1 : RS R 1 encI a1 m1.vals) {a2 : Option Addr} {c2 : Nat} {m2 : Cv} (hv2 : validB m2 = true) (hx2 : RS R 1 encI a2 m2.vals) {th a n : Nat} (hu : th ≤ a ∧ a + n ≤ 4000000) : FnV Try.prog 56 [.agg #[.slice a1 m1.vals.length c1, .int .i64 m1.per, .int .i64 m1.inc, .slice a2 m2.vals.length c2, .int .i64 m2.per, .int .i64 m2.inc, .int .i64 (th : Int)], .int .i64 (a : Int), .int .i64 (n : Int)] R (.int .i64 (leastG (rawG m1 m2 th) a n)) := by
  refine Fn.toV (fun w0 E => ?_)
  refine Fn.enter (n := 23) Try.func56 rfl rfl (Nat.le_of_ble_eq_true rfl) rfl ?_
  refine W.seq ?_
  refine W.region _ ?_
  refine WL.ef rfl rfl (by decide) (Ef.box rfl rfl (fun b3 => ?_))
  refine WG.run tab_ok 1 rfl ?_
  refine WG.nil ?_
  refine WE.nxt ?_
  refine W.seq ?_
  refine W.region _ ?_
  refine WG.run tab_ok 1 rfl ?_
  refine WG.nil ?_
  refine WE.nxt ?_
  refine W.seq ?_
  refine W.seq ?_
  refine W.region _ ?_
  refine WG.run tab_ok 2 rfl ?_
  refine WG.nil ?_
  refine WE.nxt ?_
  refine W.block ?_
  refine W.loopK (β := Nat × Int) (fun (k, m) => k ≤ n ∧ m = leastG (rawG m1 m2 th) a k) (fun (k, m) => [(7, true, .int .i64 m), (8, true, .int .i64 ((a + k : Nat) : Int))]) [1, 2, 3] [_, _, _] [] _ rfl (fun (k, m) => []) (fun (k, m) => n - k) ((0, 4611686018427387904)) (⟨Nat.zero_le _, rfl⟩) ⟨rfl, rfl, rfl, rfl, rfl, rfl⟩ qS ?_
  intro zz hst
  obtain ⟨k, m⟩ := zz
  dsimp only [zipE, setAll, List.cons_append, List.nil_append, List.set_cons_zero, List.set_cons_succ] at hst ⊢
  obtain ⟨hk, hm⟩ := hst
  refine W.seq ?_
  refine W.seq ?_
  refine W.region _ ?_
  refine WG.run tab_ok 3 rfl ?_
  refine WG.y rfl rfl (by decide) (Yl.add rfl rfl rfl (fun _ => rfl) (by intro _; constructor <;> (try dsimp only) <;> omega)) ?_
  refine WG.run tab_ok 1 rfl ?_
  refine WG.nil ?_
  refine WE.nxt ?_
  refine W.condD rfl (fun hc0 => ?_) (fun hc0 => ?_)
  · try dsimp only at hc0
    have hkn : k < n := by omega
    refine W.skip ?_
    refine WE.nxt ?_
    refine W.seq ?_
    refine W.block ?_
    refine W.region _ ?_
    refine WG.run tab_ok 1 rfl ?_
    refine' WG.y rfl rfl (by decide) (Yl.load1 tab_ok rfl rfl rfl (fun _ => rfl) ?r1 rfl ?h1) ?_
    case r1 => (first | exact Rd.blk 0 rfl | exact Rd.blk 1 rfl | exact Rd.blk 2 rfl)
    case h1 => rfl
    refine WG.run tab_ok 1 rfl ?_
    refine WG.callV (v := .int .i64 (rawG m1 m2 th (a + k))) en59 rfl rfl (by decide) (CallOp.mk' rfl rfl rfl rfl) (fun _ => rfl) (fun hg => GapRawG_V (u := a + k) hv1 hx1 hv2 hx2 (by omega)) ?_
    refine WG.run tab_ok 2 rfl ?_
    refine WG.nil ?_
    refine WE.blk _ ?_
    refine WE.nxt ?_
    refine W.region _ ?_
    refine WG.run tab_ok 1 rfl ?_
    refine WG.y rfl rfl (by decide) (Yl.add rfl rfl rfl (fun _ => rfl) (by intro _; constructor <;> (try dsimp only) <;> omega)) ?_
    refine WG.run tab_ok 1 rfl ?_
    refine WG.nil ?_
    generalize hrr : rawG m1 m2 th (a + k) = rr
    try rw [show (if m < rr then rr else m) = min m rr by split <;> omega]
    try rw [show (if rr < m then rr else m) = min m rr by split <;> omega]
    rw [← hrr]
    rw [show ((a + k : Nat) : Int) + 1 = ((a + (k + 1) : Nat) : Int) by omega]
    refine WE.again ((k + 1, min m (rawG m1 m2 th (a + k)))) (⟨by dsimp only; omega, by dsimp only; rw [hm]; rfl⟩) (by (try dsimp only); omega) ⟨rfl, rfl, rfl, rfl, rfl, rfl⟩ (RLe.refl _) qS
  · try dsimp only at hc0
    obtain rfl : k = n := by omega
    refine W.exit ?_
    refine WE.then_exit ?_
    refine WE.then_exit ?_
    refine WE.blk_exit ?_
    refine WE.nxt ?_
    refine W.seq ?_
    refine W.region _ ?_
    refine WG.run tab_ok 2 rfl ?_
    refine WG.nil ?_
    refine WE.nxt ?_
    refine W.ret ?_
    refine WE.subE (E' := E) qS ?_
    refine WE.retF tab_ok [_] rfl ⟨rfl, trivial⟩ (RLe.refl _) ?_
    exact ⟨by rw [hm]; rfl, rfl⟩

theorem RestFG_V {R : Ro} {b11 : Nat} {a : Option Addr} {c : Nat} {xs : List Int} (h11 : R b11 = some [.slice a xs.length c]) (hx : RS R 1 encI a xs) {t : Nat} (ht : t < xs.length) : FnV Try.prog 61 [.int .i64 (t : Int), .pointer (some ⟨b11, 0, none⟩)] R (.int .i64 (nth xs t)) := by
  refine Fn.toV (fun w0 E => ?_)
  have hla := hx.len
  refine Fn.enter (n := 8) Try.func61 rfl rfl (Nat.le_of_ble_eq_true rfl) rfl ?_
  refine W.seq ?_
  refine W.region _ ?_
  refine WG.run tab_ok 1 rfl ?_
  refine WG.nil ?_
  refine WE.nxt ?_
  refine W.seq ?_
  refine W.region _ ?_
  refine' WG.y rfl rfl (by decide) (Yl.load1 tab_ok rfl rfl rfl (fun _ => rfl) ?r1 rfl ?h1) ?_
  case r1 => exact Rd.ro h11
  case h1 => rfl
  refine WG.run tab_ok 1 rfl ?_
  refine WG.y rfl rfl (by decide) (Yl.indexN tab_ok rfl rfl rfl rfl rfl rfl (fun _ => rfl) (by intro _; (try dsimp only) <;> omega) (by intro _; first | exact fun _ _ _ _ => rfl | exact RS.has (by assumption) | exact fun _ _ _ _ => (by assumption) | exact HasMem.ownD 0 rfl | exact HasMem.ownD 1 rfl)) ?_
  refine' WG.y rfl rfl (by decide) (Yl.load1 tab_ok rfl rfl rfl (fun _ => rfl) ?r2 rfl ?h2) ?_
  case r2 => (first | (apply RS.rdD; assumption; ((try dsimp only) <;> omega)) | exact Rd.slD 0 rfl (by (try dsimp only) <;> omega) | exact Rd.slD 1 rfl (by (try dsimp only) <;> omega))
  case h2 => rfl
  refine WG.run tab_ok 1 rfl ?_
  refine WG.nil ?_
  refine WE.nxt ?_
  refine W.ret ?_
  refine WE.subE (E' := E) qS ?_
  refine WE.retF tab_ok [_] rfl ⟨rfl, trivial⟩ (RLe.refl _) ?_
  exact ⟨rfl, rfl⟩

theorem CommonC_V {R : Ro} {m1 m2 : Cv} (hv1 : validB m1 = true) (hv2 : validB m2 = true) : FnV Try.prog 53 [.int .i64 m1.per, .int .i64 m2.per] R (.int .i64 (lcmC m1 m2 : Int)) := by
  obtain ⟨_, _, _, p1, p2, _⟩ := valid_range hv1
  obtain ⟨_, _, _, q1, q2, _⟩ := valid_range hv2
  have h := Common_V (R := R) (a := m1.per.toNat) (b := m2.per.toNat) (by omega) (by omega)
  rw [Int.toNat_of_nonneg (by omega), Int.toNat_of_nonneg (by omega)] at h
  exact h
theorem lcmC_le {m1 m2 : Cv} (hv1 : validB m1 = true) (hv2 : validB m2 = true) : lcmC m1 m2 ≤ 14400 := by
  obtain ⟨_, _, _, p1, p2, _⟩ := valid_range hv1
  obtain ⟨_, _, _, q1, q2, _⟩ := valid_range hv2
  exact Nat.le_trans (lcmN_facts (by omega) (by omega)).2.2.1 (Nat.mul_le_mul (show m1.per.toNat ≤ 120 by omega) (show m2.per.toNat ≤ 120 by omega))
theorem gainC_le {c : Cv} (hv : validB c = true) {L : Nat} (hL : L ≤ 120) : 0 ≤ gainC c L ∧ gainC c L ≤ 120 * 1073741824 := by
  obtain ⟨_, _, _, p1, p2, p3, p4, p5⟩ := valid_range hv
  unfold gainC
  have hd0 : 0 ≤ (L : Int) / c.per := Int.ediv_nonneg (by omega) (by omega)
  have hd1 : (L : Int) / c.per ≤ L := Int.ediv_le_self _ (by omega)
  exact mulB (by omega) (by omega)

end Go.Proofs.Ytolmmfphdieilaa

/- The share of two valid curves. No condition. -/
set_option linter.unusedSimpArgs false
set_option linter.unusedVariables false
namespace Go.Proofs.Ytolmmfphdieilaa
open Go Go.RowKit Go.Proofs.Ytolmmfphdieilaa.K Go.Proofs.Ytolmmfphdieilaa.M

theorem leastG_le0 {f : Nat → Int} {a L : Nat} (hL : 0 < L) : leastG f a L ≤ 0 ↔ minF f a (L - 1) ≤ 0 := by
  obtain ⟨d, rfl⟩ : ∃ d, L = d + 1 := ⟨L - 1, by omega⟩
  rw [leastG_min, Nat.add_sub_cancel]; unfold INF; omega
theorem leastG_lt0 {f : Nat → Int} {a L : Nat} (hL : 0 < L) : leastG f a L < 0 ↔ minF f a (L - 1) < 0 := by
  obtain ⟨d, rfl⟩ : ∃ d, L = d + 1 := ⟨L - 1, by omega⟩
  rw [leastG_min, Nat.add_sub_cancel]; unfold INF; omega

set_option maxHeartbeats 4000000 in
theorem SRestG_C {R : Ro} {fa : Option Addr} {fc : Nat} {cf : Cv} (hvf : validB cf = true) (ha : RS R 1 encI fa cf.vals) {ga : Option Addr} {gc : Nat} {cg : Cv} (hvg : validB cg = true) (hb : RS R 1 encI ga cg.vals) {th : Nat} (hth : th ≤ 1048576) (w0 : World) (E : List Ent) : K.Fn Try.prog 14 [.agg #[.slice fa cf.vals.length fc, .int .i64 cf.per, .int .i64 cf.inc], .agg #[.slice ga cg.vals.length gc, .int .i64 cg.per, .int .i64 cg.inc], .int .i64 (th : Int)] w0 R E (fun r R' E' => ∃ (f : Option Addr) (fc : Nat), r = cvV f fc (shareN (normR cf) (normR cg) th) ∧ RS R' 1 encI f (shareN (normR cf) (normR cg) th).1.vals ∧ E.Sublist E') := by
  have hnf := norm_nrm hvf
  have hng := norm_nrm hvg
  refine Fn.enter (n := 154) Try.func14 rfl rfl (Nat.le_of_ble_eq_true rfl) rfl ?_
  refine W.seq ?_
  refine W.region _ ?_
  refine WL.ef rfl rfl (by decide) (Ef.box rfl rfl (fun b3 => ?_))
  refine WL.ef rfl rfl (by decide) (Ef.box rfl rfl (fun b4 => ?_))
  refine WL.ef rfl rfl (by decide) (Ef.alloc tab_ok rfl rfl (fun b6 => ?_))
  refine WG.run tab_ok 1 rfl ?_
  refine WG.nil ?_
  refine WE.nxt ?_
  refine W.seq ?_
  refine W.region _ ?_
  refine' WG.y rfl rfl (by decide) (Yl.load1 tab_ok rfl rfl rfl (fun _ => rfl) ?r1 rfl ?h1) ?_
  case r1 => (first | exact Rd.ro (by assumption) | exact Rd.blk 0 rfl | exact Rd.blk 1 rfl | exact Rd.blk 2 rfl | exact Rd.blk 3 rfl | exact Rd.blk 4 rfl | exact Rd.blk 5 rfl | exact Rd.blk 6 rfl | exact Rd.blk 7 rfl | exact Rd.blk 8 rfl | exact Rd.blk 9 rfl)
  case h1 => rfl
  refine WL.call en52 rfl rfl (by decide) (CallOp.mkT rfl rfl rfl rfl) (CNormalV_C hvf ha w0 _) ?_
  rintro _ R1 _ hR1 ⟨fa1x, ca1x, rfl, ha1x, hsub⟩
  refine WL.subE hsub ?_
  unfold cvV
  dsimp only at ha1x ⊢
  have hb := hb.mono hR1
  refine WG.run tab_ok 3 rfl ?_
  refine WL.ef rfl rfl (by decide) (Ef.alloc tab_ok rfl rfl (fun b8 => ?_))
  first | refine WL.efN rfl rfl (Ef.store0 0 tab_ok rfl rfl rfl rfl rfl rfl rfl rfl ?_) | refine WL.efN rfl rfl (Ef.store0 1 tab_ok rfl rfl rfl rfl rfl rfl rfl rfl ?_) | refine WL.efN rfl rfl (Ef.store0 2 tab_ok rfl rfl rfl rfl rfl rfl rfl rfl ?_) | refine WL.efN rfl rfl (Ef.store0 3 tab_ok rfl rfl rfl rfl rfl rfl rfl rfl ?_) | refine WL.efN rfl rfl (Ef.store0 4 tab_ok rfl rfl rfl rfl rfl rfl rfl rfl ?_) | refine WL.efN rfl rfl (Ef.store0 5 tab_ok rfl rfl rfl rfl rfl rfl rfl rfl ?_) | refine WL.efN rfl rfl (Ef.store0 6 tab_ok rfl rfl rfl rfl rfl rfl rfl rfl ?_) | refine WL.efN rfl rfl (Ef.store0 7 tab_ok rfl rfl rfl rfl rfl rfl rfl rfl ?_) | refine WL.efN rfl rfl (Ef.store0 8 tab_ok rfl rfl rfl rfl rfl rfl rfl rfl ?_) | refine WL.efN rfl rfl (Ef.store0 9 tab_ok rfl rfl rfl rfl rfl rfl rfl rfl ?_)
  refine WG.run tab_ok 1 rfl ?_
  refine WG.nil ?_
  refine WE.nxt ?_
  refine W.seq ?_
  refine W.seq ?_
  refine W.region _ ?_
  refine WG.run tab_ok 2 rfl ?_
  refine WG.nil ?_
  refine WE.nxt ?_
  refine W.condN rfl (fun hc0 => ?_) (fun hc0 => ?_)
  · try dsimp only at hc0
    first | done | exact absurd rfl hc0 | (simp at hc0; done)
  · try dsimp only at hc0
    refine W.skip ?_
    refine WE.nxt ?_
    refine W.seq ?_
    refine W.region _ ?_
    refine' WG.y rfl rfl (by decide) (Yl.load1 tab_ok rfl rfl rfl (fun _ => rfl) ?r2 rfl ?h2) ?_
    case r2 => (first | exact Rd.ro (by assumption) | exact Rd.blk 0 rfl | exact Rd.blk 1 rfl | exact Rd.blk 2 rfl | exact Rd.blk 3 rfl | exact Rd.blk 4 rfl | exact Rd.blk 5 rfl | exact Rd.blk 6 rfl | exact Rd.blk 7 rfl | exact Rd.blk 8 rfl | exact Rd.blk 9 rfl)
    case h2 => rfl
    refine WL.call en52 rfl rfl (by decide) (CallOp.mkT rfl rfl rfl rfl) (CNormalV_C hvg hb w0 _) ?_
    rintro _ R2 _ hR2 ⟨fa2x, ca2x, rfl, ha2x, hsub⟩
    refine WL.subE hsub ?_
    unfold cvV
    dsimp only at ha2x ⊢
    have ha1x := ha1x.mono hR2
    generalize normR cf = m1 at *
    generalize normR cg = m2 at *
    have hv1 := hnf.valid
    have hv2 := hng.valid
    have hlle := lcmC_le hv1 hv2
    have hlp := lcm_pos hv1 hv2
    have hs1 := stN_lt hv1
    have hs2 := stN_lt hv2
    refine WG.run tab_ok 3 rfl ?_
    refine WL.ef rfl rfl (by decide) (Ef.alloc tab_ok rfl rfl (fun b10 => ?_))
    first | refine WL.efN rfl rfl (Ef.store0 0 tab_ok rfl rfl rfl rfl rfl rfl rfl rfl ?_) | refine WL.efN rfl rfl (Ef.store0 1 tab_ok rfl rfl rfl rfl rfl rfl rfl rfl ?_) | refine WL.efN rfl rfl (Ef.store0 2 tab_ok rfl rfl rfl rfl rfl rfl rfl rfl ?_) | refine WL.efN rfl rfl (Ef.store0 3 tab_ok rfl rfl rfl rfl rfl rfl rfl rfl ?_) | refine WL.efN rfl rfl (Ef.store0 4 tab_ok rfl rfl rfl rfl rfl rfl rfl rfl ?_) | refine WL.efN rfl rfl (Ef.store0 5 tab_ok rfl rfl rfl rfl rfl rfl rfl rfl ?_) | refine WL.efN rfl rfl (Ef.store0 6 tab_ok rfl rfl rfl rfl rfl rfl rfl rfl ?_) | refine WL.efN rfl rfl (Ef.store0 7 tab_ok rfl rfl rfl rfl rfl rfl rfl rfl ?_) | refine WL.efN rfl rfl (Ef.store0 8 tab_ok rfl rfl rfl rfl rfl rfl rfl rfl ?_) | refine WL.efN rfl rfl (Ef.store0 9 tab_ok rfl rfl rfl rfl rfl rfl rfl rfl ?_)
    refine WG.run tab_ok 1 rfl ?_
    refine WG.nil ?_
    refine WE.nxt ?_
    refine W.seq ?_
    refine W.seq ?_
    refine W.region _ ?_
    refine WG.run tab_ok 2 rfl ?_
    refine WG.nil ?_
    refine WE.nxt ?_
    refine W.condN rfl (fun hc1 => ?_) (fun hc1 => ?_)
    · try dsimp only at hc1
      first | done | exact absurd rfl hc1 | (simp at hc1; done)
    · try dsimp only at hc1
      refine W.skip ?_
      refine WE.nxt ?_
      refine W.seq ?_
      refine W.seq ?_
      refine W.region _ ?_
      refine WG.run tab_ok 3 rfl ?_
      refine WG.y rfl rfl (by decide) (pureV_ok tab_ok rfl qE) ?_
      refine WG.y rfl rfl (by decide) (pureV_ok tab_ok rfl qE) ?_
      refine WG.y rfl rfl (by decide) (Yl.por rfl rfl rfl (fun _ => rfl) (by intro h1 h2; simp_all <;> omega)) ?_
      refine WG.nil ?_
      refine WE.nxt ?_
      refine W.cond rfl (fun hc2 => ?_) (fun hc2 => ?_)
      · try simp only [decide_eq_true_eq, decide_eq_false_iff_not, beq_iff_eq, bne_iff_ne, beq_eq_false_iff_ne, bne_eq_false_iff_eq, ne_eq, Bool.or_eq_true, Bool.or_eq_false_iff, Bool.and_eq_true, Bool.and_eq_false_imp, Bool.not_eq_true, Bool.not_eq_true', Bool.not_eq_false', Classical.not_not, Int.not_lt, Int.not_le, gt_iff_lt, ge_iff_le] at hc2
        omega
      · try simp only [decide_eq_true_eq, decide_eq_false_iff_not, beq_iff_eq, bne_iff_ne, beq_eq_false_iff_ne, bne_eq_false_iff_eq, ne_eq, Bool.or_eq_true, Bool.or_eq_false_iff, Bool.and_eq_true, Bool.and_eq_false_imp, Bool.not_eq_true, Bool.not_eq_true', Bool.not_eq_false', Classical.not_not, Int.not_lt, Int.not_le, gt_iff_lt, ge_iff_le] at hc2
        refine W.skip ?_
        refine WE.nxt ?_
        refine W.seq ?_
        refine W.region _ ?_
        refine WG.run tab_ok 1 rfl ?_
        refine' WG.y rfl rfl (by decide) (Yl.load1 tab_ok rfl rfl rfl (fun _ => rfl) ?r3 rfl ?h3) ?_
        case r3 => apply Rd.add; (first | exact Rd.ro (by assumption) | exact Rd.blk 0 rfl | exact Rd.blk 1 rfl | exact Rd.blk 2 rfl | exact Rd.blk 3 rfl | exact Rd.blk 4 rfl | exact Rd.blk 5 rfl | exact Rd.blk 6 rfl | exact Rd.blk 7 rfl | exact Rd.blk 8 rfl | exact Rd.blk 9 rfl)
        case h3 => rfl
        refine WG.run tab_ok 1 rfl ?_
        refine' WG.y rfl rfl (by decide) (Yl.load1 tab_ok rfl rfl rfl (fun _ => rfl) ?r4 rfl ?h4) ?_
        case r4 => apply Rd.add; (first | exact Rd.ro (by assumption) | exact Rd.blk 0 rfl | exact Rd.blk 1 rfl | exact Rd.blk 2 rfl | exact Rd.blk 3 rfl | exact Rd.blk 4 rfl | exact Rd.blk 5 rfl | exact Rd.blk 6 rfl | exact Rd.blk 7 rfl | exact Rd.blk 8 rfl | exact Rd.blk 9 rfl)
        case h4 => rfl
        refine WG.callV (v := .int .i64 (lcmC m1 m2 : Int)) en53 rfl rfl (by decide) (CallOp.mk' rfl rfl rfl rfl) (fun _ => rfl) (fun hg => CommonC_V hv1 hv2) ?_
        refine WG.run tab_ok 1 rfl ?_
        refine WG.nil ?_
        refine WE.nxt ?_
        refine W.seq ?_
        refine W.seq ?_
        refine W.region _ ?_
        refine WG.run tab_ok 2 rfl ?_
        refine WG.nil ?_
        refine WE.nxt ?_
        refine W.condD rfl (fun hc3 => ?_) (fun hc3 => ?_)
        · try dsimp only at hc3
          have hd : shareN m1 m2 th = (zcv, 3) := by unfold shareN; rw [if_pos (by omega)]
          refine W.seq ?_
          refine W.region _ ?_
          -- build
          refine WG.y rfl rfl (by decide) (Yl.build (parts := []) tab_ok rfl rfl rfl rfl (fun _ => rfl) rfl rfl) ?_
          first | refine WL.efN rfl rfl (Ef.store0 0 tab_ok rfl rfl rfl rfl rfl rfl rfl rfl ?_) | refine WL.efN rfl rfl (Ef.store0 1 tab_ok rfl rfl rfl rfl rfl rfl rfl rfl ?_) | refine WL.efN rfl rfl (Ef.store0 2 tab_ok rfl rfl rfl rfl rfl rfl rfl rfl ?_) | refine WL.efN rfl rfl (Ef.store0 3 tab_ok rfl rfl rfl rfl rfl rfl rfl rfl ?_) | refine WL.efN rfl rfl (Ef.store0 4 tab_ok rfl rfl rfl rfl rfl rfl rfl rfl ?_) | refine WL.efN rfl rfl (Ef.store0 5 tab_ok rfl rfl rfl rfl rfl rfl rfl rfl ?_) | refine WL.efN rfl rfl (Ef.store0 6 tab_ok rfl rfl rfl rfl rfl rfl rfl rfl ?_) | refine WL.efN rfl rfl (Ef.store0 7 tab_ok rfl rfl rfl rfl rfl rfl rfl rfl ?_) | refine WL.efN rfl rfl (Ef.store0 8 tab_ok rfl rfl rfl rfl rfl rfl rfl rfl ?_) | refine WL.efN rfl rfl (Ef.store0 9 tab_ok rfl rfl rfl rfl rfl rfl rfl rfl ?_)
          refine WG.run tab_ok 1 rfl ?_
          refine WG.nil ?_
          refine WE.nxt ?_
          refine W.ret ?_
          refine WE.then_ret ?_
          refine WE.retF tab_ok [_, _] rfl ⟨⟨_, _, _, rfl, rfl, rfl, ((by first | exact Rd.blk 0 rfl | exact Rd.blk 1 rfl | exact Rd.blk 2 rfl | exact Rd.blk 3 rfl | exact Rd.blk 4 rfl | exact Rd.blk 5 rfl | exact Rd.blk 6 rfl | exact Rd.blk 7 rfl | exact Rd.blk 8 rfl | exact Rd.blk 9 rfl)), rfl⟩, rfl, trivial⟩ ((by first | exact hR1.trans hR2 | exact (hR1.trans hR2).trans hR3 | exact (hR1.trans hR2).trans (hR3.trans (hR4.trans hR5)))) ?_
          exact ⟨none, 0, by rw [hd]; rfl, by rw [hd]; exact rs_nil, qS⟩
        · try dsimp only at hc3
          have hl1 : ¬ 120 < lcmC m1 m2 := by omega
          have hg1 := gainC_le hv1 (L := lcmC m1 m2) (by omega)
          have hg2 := gainC_le hv2 (L := lcmC m1 m2) (by omega)
          have hfr := frG_facts (th := th) hv1 hv2
          refine W.skip ?_
          refine WE.nxt ?_
          refine W.seq ?_
          refine W.region _ ?_
          refine' WG.y rfl rfl (by decide) (Yl.load1 tab_ok rfl rfl rfl (fun _ => rfl) ?r5 rfl ?h5) ?_
          case r5 => (first | exact Rd.ro (by assumption) | exact Rd.blk 0 rfl | exact Rd.blk 1 rfl | exact Rd.blk 2 rfl | exact Rd.blk 3 rfl | exact Rd.blk 4 rfl | exact Rd.blk 5 rfl | exact Rd.blk 6 rfl | exact Rd.blk 7 rfl | exact Rd.blk 8 rfl | exact Rd.blk 9 rfl)
          case h5 => rfl
          refine' WG.y rfl rfl (by decide) (Yl.load1 tab_ok rfl rfl rfl (fun _ => rfl) ?r6 rfl ?h6) ?_
          case r6 => (first | exact Rd.ro (by assumption) | exact Rd.blk 0 rfl | exact Rd.blk 1 rfl | exact Rd.blk 2 rfl | exact Rd.blk 3 rfl | exact Rd.blk 4 rfl | exact Rd.blk 5 rfl | exact Rd.blk 6 rfl | exact Rd.blk 7 rfl | exact Rd.blk 8 rfl | exact Rd.blk 9 rfl)
          case h6 => rfl
          refine WG.run tab_ok 1 rfl ?_
          -- build
          refine WG.y rfl rfl (by decide) (Yl.build (parts := [(0, .tmp 54), (1, .tmp 55), (2, .tmp 56)]) tab_ok rfl rfl rfl rfl (fun _ => rfl) rfl rfl) ?_
          refine WL.ef rfl rfl (by decide) (Ef.alloc tab_ok rfl rfl (fun b12 => ?_))
          first | refine WL.efN rfl rfl (Ef.store0 0 tab_ok rfl rfl rfl rfl rfl rfl rfl rfl ?_) | refine WL.efN rfl rfl (Ef.store0 1 tab_ok rfl rfl rfl rfl rfl rfl rfl rfl ?_) | refine WL.efN rfl rfl (Ef.store0 2 tab_ok rfl rfl rfl rfl rfl rfl rfl rfl ?_) | refine WL.efN rfl rfl (Ef.store0 3 tab_ok rfl rfl rfl rfl rfl rfl rfl rfl ?_) | refine WL.efN rfl rfl (Ef.store0 4 tab_ok rfl rfl rfl rfl rfl rfl rfl rfl ?_) | refine WL.efN rfl rfl (Ef.store0 5 tab_ok rfl rfl rfl rfl rfl rfl rfl rfl ?_) | refine WL.efN rfl rfl (Ef.store0 6 tab_ok rfl rfl rfl rfl rfl rfl rfl rfl ?_) | refine WL.efN rfl rfl (Ef.store0 7 tab_ok rfl rfl rfl rfl rfl rfl rfl rfl ?_) | refine WL.efN rfl rfl (Ef.store0 8 tab_ok rfl rfl rfl rfl rfl rfl rfl rfl ?_) | refine WL.efN rfl rfl (Ef.store0 9 tab_ok rfl rfl rfl rfl rfl rfl rfl rfl ?_)
          refine WG.nil ?_
          refine WE.nxt ?_
          refine W.seq ?_
          refine W.regionQ _ mixed (by kernel_rfl) ?_
          refine' WG.y rfl rfl (by decide) (Yl.load1 tab_ok rfl rfl rfl (fun _ => rfl) ?r7 rfl ?h7) ?_
          case r7 => (first | exact Rd.ro (by assumption) | exact Rd.blk 0 rfl | exact Rd.blk 1 rfl | exact Rd.blk 2 rfl | exact Rd.blk 3 rfl | exact Rd.blk 4 rfl | exact Rd.blk 5 rfl | exact Rd.blk 6 rfl | exact Rd.blk 7 rfl | exact Rd.blk 8 rfl | exact Rd.blk 9 rfl)
          case h7 => rfl
          refine WG.run tab_ok 1 rfl ?_
          refine WG.callV (v := .int .i64 (gainC m1 (lcmC m1 m2))) en54 rfl rfl (by decide) (CallOp.mk' rfl rfl rfl rfl) (fun _ => rfl) (fun hg => WGainG_V hv1 ha1x (L := lcmC m1 m2) (by omega)) ?_
          refine' WG.y rfl rfl (by decide) (Yl.load1 tab_ok rfl rfl rfl (fun _ => rfl) ?r8 rfl ?h8) ?_
          case r8 => (first | exact Rd.ro (by assumption) | exact Rd.blk 0 rfl | exact Rd.blk 1 rfl | exact Rd.blk 2 rfl | exact Rd.blk 3 rfl | exact Rd.blk 4 rfl | exact Rd.blk 5 rfl | exact Rd.blk 6 rfl | exact Rd.blk 7 rfl | exact Rd.blk 8 rfl | exact Rd.blk 9 rfl)
          case h8 => rfl
          refine WG.run tab_ok 1 rfl ?_
          refine WG.callV (v := .int .i64 (gainC m2 (lcmC m1 m2))) en54 rfl rfl (by decide) (CallOp.mk' rfl rfl rfl rfl) (fun _ => rfl) (fun hg => WGainG_V hv2 ha2x (L := lcmC m1 m2) (by omega)) ?_
          refine WG.y rfl rfl (by decide) (Yl.sub rfl rfl rfl (fun _ => rfl) (by intro _; constructor <;> (try dsimp only) <;> omega)) ?_
          rw [show gainC m1 (lcmC m1 m2) - gainC m2 (lcmC m1 m2) = driftG m1 m2 from rfl]
          refine WG.run tab_ok 1 rfl ?_
          refine WG.nil ?_
          refine WE.nxt ?_
          refine W.seq ?_
          refine W.regionQ _ mixed (by kernel_rfl) ?_
          refine' WG.y rfl rfl (by decide) (Yl.load1 tab_ok rfl rfl rfl (fun _ => rfl) ?r9 rfl ?h9) ?_
          case r9 => (first | exact Rd.ro (by assumption) | exact Rd.blk 0 rfl | exact Rd.blk 1 rfl | exact Rd.blk 2 rfl | exact Rd.blk 3 rfl | exact Rd.blk 4 rfl | exact Rd.blk 5 rfl | exact Rd.blk 6 rfl | exact Rd.blk 7 rfl | exact Rd.blk 8 rfl | exact Rd.blk 9 rfl)
          case h9 => rfl
          refine WG.callV en55 rfl rfl (by decide) (CallOp.mk' rfl rfl rfl rfl) (fun _ => rfl) (fun hg => WStartG_V hv1 ha1x) ?_
          refine' WG.y rfl rfl (by decide) (Yl.load1 tab_ok rfl rfl rfl (fun _ => rfl) ?r10 rfl ?h10) ?_
          case r10 => (first | exact Rd.ro (by assumption) | exact Rd.blk 0 rfl | exact Rd.blk 1 rfl | exact Rd.blk 2 rfl | exact Rd.blk 3 rfl | exact Rd.blk 4 rfl | exact Rd.blk 5 rfl | exact Rd.blk 6 rfl | exact Rd.blk 7 rfl | exact Rd.blk 8 rfl | exact Rd.blk 9 rfl)
          case h10 => rfl
          refine WG.callV en55 rfl rfl (by decide) (CallOp.mk' rfl rfl rfl rfl) (fun _ => rfl) (fun hg => WStartG_V hv2 ha2x) ?_
          refine WG.run tab_ok 1 rfl ?_
          refine WG.y rfl rfl (by decide) (Yl.add rfl rfl rfl (fun _ => rfl) (by intro _; constructor <;> (try dsimp only) <;> omega)) ?_
          refine WG.run tab_ok 1 rfl ?_
          refine WG.y rfl rfl (by decide) (Yl.add rfl rfl rfl (fun _ => rfl) (by intro _; constructor <;> (try dsimp only) <;> omega)) ?_
          refine WG.y rfl rfl (by decide) (Yl.max3 rfl rfl rfl rfl (fun _ => rfl)) ?_
          refine WG.run tab_ok 1 rfl ?_
          refine WG.nil ?_
          refine WE.nxt ?_
          have hfr3 : (if (if (stN m1 : Int) < (stN m2 : Int) + (th : Int) then (stN m2 : Int) + (th : Int) else (stN m1 : Int)) < (th : Int) + 1 then (th : Int) + 1 else (if (stN m1 : Int) < (stN m2 : Int) + (th : Int) then (stN m2 : Int) + (th : Int) else (stN m1 : Int))) = (frG m1 m2 th : Int) := by unfold frG; split <;> split <;> omega
          rw [hfr3]
          refine W.seq ?_
          refine W.region _ ?_
          refine' WG.y rfl rfl (by decide) (Yl.load1 tab_ok rfl rfl rfl (fun _ => rfl) ?r11 rfl ?h11) ?_
          case r11 => (first | exact Rd.ro (by assumption) | exact Rd.blk 0 rfl | exact Rd.blk 1 rfl | exact Rd.blk 2 rfl | exact Rd.blk 3 rfl | exact Rd.blk 4 rfl | exact Rd.blk 5 rfl | exact Rd.blk 6 rfl | exact Rd.blk 7 rfl | exact Rd.blk 8 rfl | exact Rd.blk 9 rfl)
          case h11 => rfl
          refine WG.run tab_ok 2 rfl ?_
          refine WG.callV en56 rfl rfl (by decide) (CallOp.mk' rfl rfl rfl rfl) (fun _ => rfl) (fun hg => GapLeastG_V (c1 := ca1x) (c2 := ca2x) hv1 ha1x hv2 ha2x (th := th) (a := frG m1 m2 th) (n := lcmC m1 m2) (by omega)) ?_
          refine WG.run tab_ok 1 rfl ?_
          refine WG.nil ?_
          refine WE.nxt ?_
          refine W.seq ?_
          refine W.seq ?_
          refine W.region _ ?_
          refine' WG.y rfl rfl (by decide) (Yl.load1 tab_ok rfl rfl rfl (fun _ => rfl) ?r12 rfl ?h12) ?_
          case r12 => (first | exact Rd.ro (by assumption) | exact Rd.blk 0 rfl | exact Rd.blk 1 rfl | exact Rd.blk 2 rfl | exact Rd.blk 3 rfl | exact Rd.blk 4 rfl | exact Rd.blk 5 rfl | exact Rd.blk 6 rfl | exact Rd.blk 7 rfl | exact Rd.blk 8 rfl | exact Rd.blk 9 rfl)
          case h12 => rfl
          refine WG.callV en57 rfl rfl (by decide) (CallOp.mk' rfl rfl rfl rfl) (fun _ => rfl) (fun hg => WFiniteG_V hv2 ha2x) ?_
          refine WG.run tab_ok 2 rfl ?_
          refine' WG.y rfl rfl (by decide) (Yl.loadG tab_ok rfl rfl rfl qE ?r13 rfl ?h13 ?g13) ?_
          case r13 => (first | exact fun _ => Rd.ro (by assumption) | exact Rd.blkC 0 rfl | exact Rd.blkC 1 rfl | exact Rd.blkC 2 rfl | exact Rd.blkC 3 rfl | exact Rd.blkC 4 rfl | exact Rd.blkC 5 rfl | exact Rd.blkC 6 rfl | exact Rd.blkC 7 rfl | exact Rd.blkC 8 rfl | exact Rd.blkC 9 rfl)
          case h13 => rfl
          case g13 => first | exact fun _ => trivial | (intro hg; (try simp only [decide_eq_true_eq, decide_eq_false_iff_not, beq_iff_eq, bne_iff_ne, beq_eq_false_iff_ne, bne_eq_false_iff_eq, ne_eq, Bool.or_eq_true, Bool.or_eq_false_iff, Bool.and_eq_true, Bool.and_eq_false_imp, Bool.not_eq_true, Bool.not_eq_true', Bool.not_eq_false', Classical.not_not, Int.not_lt, Int.not_le, gt_iff_lt, ge_iff_le] at hg); (try dsimp only); omega)
          refine WG.callV en57 rfl rfl (by decide) (CallOp.mk' rfl rfl rfl rfl) qE (fun hg => WFiniteG_V hv1 ha1x) ?_
          refine WG.y rfl rfl (by decide) (pureV_ok tab_ok rfl qE) ?_
          refine WG.y rfl rfl (by decide) (pureV_ok tab_ok rfl qE) ?_
          refine WG.y rfl rfl (by decide) (pureV_ok tab_ok rfl qE) ?_
          refine WG.y rfl rfl (by decide) (pureV_ok tab_ok rfl qE) ?_
          refine WG.y rfl rfl (by decide) (pureV_ok tab_ok rfl qE) ?_
          refine WG.y rfl rfl (by decide) (pureV_ok tab_ok rfl qE) ?_
          refine WG.y rfl rfl (by decide) (pureV_ok tab_ok rfl qE) ?_
          refine WG.y rfl rfl (by decide) (pureV_ok tab_ok rfl qE) ?_
          refine WG.y rfl rfl (by decide) (pureV_ok tab_ok rfl qE) ?_
          refine WG.y rfl rfl (by decide) (Yl.pand rfl rfl rfl qE (by intro h1 h2; simp_all <;> omega)) ?_
          refine WG.y rfl rfl (by decide) (Yl.por rfl rfl rfl qE (by intro h1 h2; simp_all <;> omega)) ?_
          refine WG.y rfl rfl (by decide) (Yl.pand rfl rfl rfl qE (by intro h1 h2; simp_all <;> omega)) ?_
          refine WG.y rfl rfl (by decide) (Yl.por rfl rfl rfl (fun _ => rfl) (by intro h1 h2; simp_all <;> omega)) ?_
          refine WG.nil ?_
          refine WE.nxt ?_
          refine W.cond rfl (fun hc4 => ?_) (fun hc4 => ?_)
          · try simp only [decide_eq_true_eq, decide_eq_false_iff_not, beq_iff_eq, bne_iff_ne, beq_eq_false_iff_ne, bne_eq_false_iff_eq, ne_eq, Bool.or_eq_true, Bool.or_eq_false_iff, Bool.and_eq_true, Bool.and_eq_false_imp, Bool.not_eq_true, Bool.not_eq_true', Bool.not_eq_false', Classical.not_not, Int.not_lt, Int.not_le, gt_iff_lt, ge_iff_le] at hc4
            rw [leastG_le0 hlp] at hc4
            have hd : shareN m1 m2 th = (zeroC, 0) := by unfold shareN; rw [if_neg hl1, if_pos (show flatB m1 m2 th from hc4)]
            refine W.seq ?_
            refine W.region _ ?_
            refine WL.call en58 rfl rfl (by decide) (CallOp.mkT rfl rfl rfl rfl) (CFlat_C (k := 0) (by decide) w0 _) ?_
            rintro _ R3 _ hR3 ⟨fz, fzc, rfl, hfz, hsubz⟩
            refine WL.subE hsubz ?_
            rw [flat_zero] at hfz ⊢
            unfold cvV
            dsimp only at hfz ⊢
            refine WG.run tab_ok 2 rfl ?_
            first | refine WL.efN rfl rfl (Ef.store0 0 tab_ok rfl rfl rfl rfl rfl rfl rfl rfl ?_) | refine WL.efN rfl rfl (Ef.store0 1 tab_ok rfl rfl rfl rfl rfl rfl rfl rfl ?_) | refine WL.efN rfl rfl (Ef.store0 2 tab_ok rfl rfl rfl rfl rfl rfl rfl rfl ?_) | refine WL.efN rfl rfl (Ef.store0 3 tab_ok rfl rfl rfl rfl rfl rfl rfl rfl ?_) | refine WL.efN rfl rfl (Ef.store0 4 tab_ok rfl rfl rfl rfl rfl rfl rfl rfl ?_) | refine WL.efN rfl rfl (Ef.store0 5 tab_ok rfl rfl rfl rfl rfl rfl rfl rfl ?_) | refine WL.efN rfl rfl (Ef.store0 6 tab_ok rfl rfl rfl rfl rfl rfl rfl rfl ?_) | refine WL.efN rfl rfl (Ef.store0 7 tab_ok rfl rfl rfl rfl rfl rfl rfl rfl ?_) | refine WL.efN rfl rfl (Ef.store0 8 tab_ok rfl rfl rfl rfl rfl rfl rfl rfl ?_) | refine WL.efN rfl rfl (Ef.store0 9 tab_ok rfl rfl rfl rfl rfl rfl rfl rfl ?_)
            refine WG.run tab_ok 1 rfl ?_
            refine WG.nil ?_
            refine WE.nxt ?_
            refine W.ret ?_
            refine WE.then_ret ?_
            refine WE.retF tab_ok [_, _] rfl ⟨⟨_, _, _, rfl, rfl, rfl, ((by first | exact Rd.blk 0 rfl | exact Rd.blk 1 rfl | exact Rd.blk 2 rfl | exact Rd.blk 3 rfl | exact Rd.blk 4 rfl | exact Rd.blk 5 rfl | exact Rd.blk 6 rfl | exact Rd.blk 7 rfl | exact Rd.blk 8 rfl | exact Rd.blk 9 rfl)), rfl⟩, rfl, trivial⟩ ((by first | exact hR1.trans hR2 | exact (hR1.trans hR2).trans hR3 | exact (hR1.trans hR2).trans (hR3.trans (hR4.trans hR5)))) ?_
            exact ⟨fz, fzc, by rw [hd]; rfl, by rw [hd]; exact hfz, qS⟩
          · try simp only [decide_eq_true_eq, decide_eq_false_iff_not, beq_iff_eq, bne_iff_ne, beq_eq_false_iff_ne, bne_eq_false_iff_eq, ne_eq, Bool.or_eq_true, Bool.or_eq_false_iff, Bool.and_eq_true, Bool.and_eq_false_imp, Bool.not_eq_true, Bool.not_eq_true', Bool.not_eq_false', Classical.not_not, Int.not_lt, Int.not_le, gt_iff_lt, ge_iff_le] at hc4
            have hnf4 : ¬ flatB m1 m2 th := fun h => by
              unfold flatB at h
              rw [← leastG_le0 hlp] at h
              obtain ⟨h4a, h4b⟩ := hc4
              rcases h with h | ⟨h1, h | ⟨h, h2⟩⟩
              · rw [h4a] at h; cases h
              · have := (h4b h1).1; omega
              · have := (h4b h1).2 h; omega
            have hup := not_flat hnf4
            refine W.skip ?_
            refine WE.nxt ?_
            refine W.seq ?_
            refine W.seq ?_
            refine W.region _ ?_
            refine WG.run tab_ok 2 rfl ?_
            refine WG.nil ?_
            refine WE.nxt ?_
            refine W.condD rfl (fun hc5 => ?_) (fun hc5 => ?_)
            · try dsimp only at hc5
              have hd : shareN m1 m2 th = (zcv, 3) := by unfold shareN; rw [if_neg hl1, if_neg hnf4, if_pos (by omega)]
              refine W.seq ?_
              refine W.region _ ?_
              -- build
              refine WG.y rfl rfl (by decide) (Yl.build (parts := []) tab_ok rfl rfl rfl rfl (fun _ => rfl) rfl rfl) ?_
              first | refine WL.efN rfl rfl (Ef.store0 0 tab_ok rfl rfl rfl rfl rfl rfl rfl rfl ?_) | refine WL.efN rfl rfl (Ef.store0 1 tab_ok rfl rfl rfl rfl rfl rfl rfl rfl ?_) | refine WL.efN rfl rfl (Ef.store0 2 tab_ok rfl rfl rfl rfl rfl rfl rfl rfl ?_) | refine WL.efN rfl rfl (Ef.store0 3 tab_ok rfl rfl rfl rfl rfl rfl rfl rfl ?_) | refine WL.efN rfl rfl (Ef.store0 4 tab_ok rfl rfl rfl rfl rfl rfl rfl rfl ?_) | refine WL.efN rfl rfl (Ef.store0 5 tab_ok rfl rfl rfl rfl rfl rfl rfl rfl ?_) | refine WL.efN rfl rfl (Ef.store0 6 tab_ok rfl rfl rfl rfl rfl rfl rfl rfl ?_) | refine WL.efN rfl rfl (Ef.store0 7 tab_ok rfl rfl rfl rfl rfl rfl rfl rfl ?_) | refine WL.efN rfl rfl (Ef.store0 8 tab_ok rfl rfl rfl rfl rfl rfl rfl rfl ?_) | refine WL.efN rfl rfl (Ef.store0 9 tab_ok rfl rfl rfl rfl rfl rfl rfl rfl ?_)
              refine WG.run tab_ok 1 rfl ?_
              refine WG.nil ?_
              refine WE.nxt ?_
              refine W.ret ?_
              refine WE.then_ret ?_
              refine WE.retF tab_ok [_, _] rfl ⟨⟨_, _, _, rfl, rfl, rfl, ((by first | exact Rd.blk 0 rfl | exact Rd.blk 1 rfl | exact Rd.blk 2 rfl | exact Rd.blk 3 rfl | exact Rd.blk 4 rfl | exact Rd.blk 5 rfl | exact Rd.blk 6 rfl | exact Rd.blk 7 rfl | exact Rd.blk 8 rfl | exact Rd.blk 9 rfl)), rfl⟩, rfl, trivial⟩ ((by first | exact hR1.trans hR2 | exact (hR1.trans hR2).trans hR3 | exact (hR1.trans hR2).trans (hR3.trans (hR4.trans hR5)))) ?_
              exact ⟨none, 0, by rw [hd]; rfl, by rw [hd]; exact rs_nil, qS⟩
            · try dsimp only at hc5
              have h400 : ¬ 400 ≤ th := by omega
              refine W.skip ?_
              refine WE.nxt ?_
              refine W.seq ?_
              refine W.region _ ?_
              refine WG.run tab_ok 2 rfl ?_
              refine WG.nil ?_
              refine WE.nxt ?_
              refine W.seqCut (β := Nat × Nat × Int) (fun (f2, P, inc) => ((finB m1 = true ∧ 0 < driftG m1 m2) ∧ f2 = max (frG m1 m2 th) 400 ∧ P = lcmC m1 m2 ∧ inc = driftG m1 m2 ∧ ¬ minF (rawG m1 m2 th) (max (frG m1 m2 th) 400) (lcmC m1 m2 - 1) < 0) ∨ (¬ (finB m1 = true ∧ 0 < driftG m1 m2) ∧ f2 = frG m1 m2 th ∧ P = 1 ∧ inc = 0)) (fun (f2, P, inc) => [(2, true, .int .i64 (th : Int)), (6, true, .pointer (some ⟨b6, 0, none⟩)), (11, true, .int .i64 (lcmC m1 m2 : Int)), (12, true, .pointer (some ⟨b12, 0, none⟩)), (14, true, .int .i64 (f2 : Int)), (16, true, .int .i64 (P : Int)), (17, true, .int .i64 inc)]) (fun _ => R2) (fun _ => .blk b12 [.slice fa1x m1.vals.length ca1x, .int .i64 m1.per, .int .i64 m1.inc, .slice fa2x m2.vals.length ca2x, .int .i64 m2.per, .int .i64 m2.inc, .int .i64 (th : Int)] :: .blk b6 [.slice none 0 0, .int .i64 0, .int .i64 0] :: E) ?_ ?_
              ·
                intro zz hst
                obtain ⟨f2, P, inc⟩ := zz
                dsimp only at hst ⊢
                have hd : shareN m1 m2 th = mbuild (hG m1 m2 th) f2 P inc := by
                  unfold shareN
                  rw [if_neg hl1, if_neg hnf4, if_neg h400]
                  rcases hst with ⟨h1, rfl, rfl, rfl, h5⟩ | ⟨h1, rfl, rfl, rfl⟩
                  · rw [if_pos h1, if_neg h5]
                  · rw [if_neg h1]
                have hf2 : frG m1 m2 th ≤ f2 ∧ f2 ≤ 800 ∧ 1 ≤ P ∧ P ≤ lcmC m1 m2 ∧ 0 ≤ inc ∧ inc ≤ 128849018880 := by
                  rcases hst with ⟨h1, rfl, rfl, rfl, h5⟩ | ⟨h1, rfl, rfl, rfl⟩
                  · have := h1.2
                    unfold driftG at this ⊢
                    omega
                  · omega
                refine W.seq ?_
                refine W.region _ ?_
                refine WG.run tab_ok 2 rfl ?_
                refine WG.y rfl rfl (by decide) (Yl.add rfl rfl rfl (fun _ => rfl) (by intro _; constructor <;> (try dsimp only) <;> omega)) ?_
                refine WL.ef rfl rfl (by decide) (Ef.makeSliceD (enc := encI) 0 tab_ok rfl rfl rfl rfl rfl rfl (by (try dsimp only) <;> omega) (by (try dsimp only) <;> omega) (by (try dsimp only) <;> omega) (by (try dsimp only) <;> omega) (by decide) rfl rfl (fun a122 => ?_))
                refine WL.ef rfl rfl (by decide) (Ef.alloc tab_ok rfl rfl (fun b18 => ?_))
                first | refine WL.efN rfl rfl (Ef.store0 0 tab_ok rfl rfl rfl rfl rfl rfl rfl rfl ?_) | refine WL.efN rfl rfl (Ef.store0 1 tab_ok rfl rfl rfl rfl rfl rfl rfl rfl ?_) | refine WL.efN rfl rfl (Ef.store0 2 tab_ok rfl rfl rfl rfl rfl rfl rfl rfl ?_) | refine WL.efN rfl rfl (Ef.store0 3 tab_ok rfl rfl rfl rfl rfl rfl rfl rfl ?_) | refine WL.efN rfl rfl (Ef.store0 4 tab_ok rfl rfl rfl rfl rfl rfl rfl rfl ?_) | refine WL.efN rfl rfl (Ef.store0 5 tab_ok rfl rfl rfl rfl rfl rfl rfl rfl ?_) | refine WL.efN rfl rfl (Ef.store0 6 tab_ok rfl rfl rfl rfl rfl rfl rfl rfl ?_) | refine WL.efN rfl rfl (Ef.store0 7 tab_ok rfl rfl rfl rfl rfl rfl rfl rfl ?_) | refine WL.efN rfl rfl (Ef.store0 8 tab_ok rfl rfl rfl rfl rfl rfl rfl rfl ?_) | refine WL.efN rfl rfl (Ef.store0 9 tab_ok rfl rfl rfl rfl rfl rfl rfl rfl ?_)
                refine WG.nil ?_
                refine WE.nxt ?_
                rw [show ((f2 : Int) + (P : Int)).toNat = f2 + P by omega]
                refine W.seq ?_
                refine W.region _ ?_
                refine' WG.y rfl rfl (by decide) (Yl.load1 tab_ok rfl rfl rfl (fun _ => rfl) ?r14 rfl ?h14) ?_
                case r14 => (first | exact Rd.ro (by assumption) | exact Rd.blk 0 rfl | exact Rd.blk 1 rfl | exact Rd.blk 2 rfl | exact Rd.blk 3 rfl | exact Rd.blk 4 rfl | exact Rd.blk 5 rfl | exact Rd.blk 6 rfl | exact Rd.blk 7 rfl | exact Rd.blk 8 rfl | exact Rd.blk 9 rfl)
                case h14 => rfl
                refine WG.run tab_ok 2 rfl ?_
                refine WG.y rfl rfl (by decide) (Yl.add rfl rfl rfl (fun _ => rfl) (by intro _; constructor <;> (try dsimp only) <;> omega)) ?_
                refine WG.run tab_ok 1 rfl ?_
                refine WG.callV (v := .int .i64 (leastG (rawG m1 m2 th) (f2 + P) (lcmC m1 m2))) en56 rfl rfl (by decide) (CallOp.mk' rfl rfl rfl rfl) (fun _ => rfl) (fun hg => GapLeastG_V (c1 := ca1x) (c2 := ca2x) hv1 ha1x hv2 ha2x (th := th) (a := f2 + P) (n := lcmC m1 m2) (by omega)) ?_
                refine WG.run tab_ok 1 rfl ?_
                refine WG.nil ?_
                refine WE.nxt ?_
                refine W.seq ?_
                refine W.seq ?_
                refine W.region _ ?_
                refine' WG.y rfl rfl (by decide) (Yl.load1 tab_ok rfl rfl rfl (fun _ => rfl) ?r15 rfl ?h15) ?_
                case r15 => (first | exact Rd.ro (by assumption) | exact Rd.blk 0 rfl | exact Rd.blk 1 rfl | exact Rd.blk 2 rfl | exact Rd.blk 3 rfl | exact Rd.blk 4 rfl | exact Rd.blk 5 rfl | exact Rd.blk 6 rfl | exact Rd.blk 7 rfl | exact Rd.blk 8 rfl | exact Rd.blk 9 rfl)
                case h15 => rfl
                refine WG.run tab_ok 1 rfl ?_
                refine WG.y rfl rfl (by decide) (Yl.sub rfl rfl rfl (fun _ => rfl) (by intro _; constructor <;> (try dsimp only) <;> omega)) ?_
                rw [show ((f2 + P : Nat) : Int) - 1 = ((f2 + P - 1 : Nat) : Int) by omega]
                refine WG.run tab_ok 1 rfl ?_
                refine WG.nil ?_
                refine WE.nxt ?_
                refine W.block ?_
                refine W.loopK (β := Nat × Int × List Int) (fun (u, lst, xs) => (th ≤ u ∧ u + 1 ≤ f2 + P) ∧ xs.length = f2 + P ∧ lst = leastG (rawG m1 m2 th) (u + 1) (f2 + P + lcmC m1 m2 - (u + 1)) ∧ ∀ i, i < f2 + P → nth xs i = if u < i then (hG m1 m2 th) i else 0) (fun (u, lst, xs) => [(19, true, .int .i64 lst), (20, true, .int .i64 (u : Int))]) [2, 6, 12, 14, 16, 17, 18] [_, _, _, _, _, _, _] [] _ rfl (fun (u, lst, xs) => [(1, .sl 3 1 (some ⟨a122, 0, none⟩) (f2 + P) (xs.map encI))]) (fun (u, lst, xs) => u) ((f2 + P - 1, leastG (rawG m1 m2 th) (f2 + P) (lcmC m1 m2), List.replicate (f2 + P) 0)) (⟨⟨by (try dsimp only); omega, by (try dsimp only); omega⟩, by simp, by (try dsimp only); rw [show f2 + P - 1 + 1 = f2 + P by omega, show f2 + P + lcmC m1 m2 - (f2 + P) = lcmC m1 m2 by omega], fun i hi => by rw [if_neg (by (try dsimp only); omega)]; exact nth_replicate (by omega)⟩) ⟨rfl, rfl, rfl, rfl, rfl, rfl, rfl, rfl, rfl, rfl⟩ qS ?_
                intro zz hst
                obtain ⟨u, lst, xs⟩ := zz
                dsimp only [zipE, setAll, List.cons_append, List.nil_append, List.set_cons_zero, List.set_cons_succ] at hst ⊢
                obtain ⟨⟨hu1, hu2⟩, hxl, hlst, hxs⟩ := hst
                refine W.seq ?_
                refine W.seq ?_
                refine W.region _ ?_
                refine WG.run tab_ok 3 rfl ?_
                refine WG.nil ?_
                refine WE.nxt ?_
                refine W.condD rfl (fun hc6 => ?_) (fun hc6 => ?_)
                · try dsimp only at hc6
                  obtain ⟨w, rfl⟩ : ∃ w, u = w + 1 := ⟨u - 1, by omega⟩
                  refine W.skip ?_
                  refine WE.nxt ?_
                  refine W.seq ?_
                  refine W.block ?_
                  refine W.seq ?_
                  refine W.region _ ?_
                  refine WG.run tab_ok 1 rfl ?_
                  refine' WG.y rfl rfl (by decide) (Yl.load1 tab_ok rfl rfl rfl (fun _ => rfl) ?r16 rfl ?h16) ?_
                  case r16 => (first | exact Rd.ro (by assumption) | exact Rd.blk 0 rfl | exact Rd.blk 1 rfl | exact Rd.blk 2 rfl | exact Rd.blk 3 rfl | exact Rd.blk 4 rfl | exact Rd.blk 5 rfl | exact Rd.blk 6 rfl | exact Rd.blk 7 rfl | exact Rd.blk 8 rfl | exact Rd.blk 9 rfl)
                  case h16 => rfl
                  refine WG.run tab_ok 1 rfl ?_
                  refine WG.callV (v := .int .i64 (rawG m1 m2 th (w + 1))) en59 rfl rfl (by decide) (CallOp.mk' rfl rfl rfl rfl) (fun _ => rfl) (fun hg => GapRawG_V (c1 := ca1x) (c2 := ca2x) hv1 ha1x hv2 ha2x (th := th) (u := w + 1) (by omega)) ?_
                  refine WG.run tab_ok 2 rfl ?_
                  refine WG.nil ?_
                  refine WE.nxt ?_
                  refine W.region _ ?_
                  refine' WG.y rfl rfl (by decide) (Yl.load1 tab_ok rfl rfl rfl (fun _ => rfl) ?r17 rfl ?h17) ?_
                  case r17 => (first | exact Rd.ro (by assumption) | exact Rd.blk 0 rfl | exact Rd.blk 1 rfl | exact Rd.blk 2 rfl | exact Rd.blk 3 rfl | exact Rd.blk 4 rfl | exact Rd.blk 5 rfl | exact Rd.blk 6 rfl | exact Rd.blk 7 rfl | exact Rd.blk 8 rfl | exact Rd.blk 9 rfl)
                  case h17 => rfl
                  refine WG.run tab_ok 3 rfl ?_
                  refine WG.y rfl rfl (by decide) (Yl.indexN tab_ok rfl rfl rfl rfl rfl rfl (fun _ => rfl) (by intro _; (try dsimp only) <;> omega) (by intro _; first | exact fun _ _ _ _ => rfl | exact RS.has (by assumption) | exact fun _ _ _ _ => (by assumption) | exact HasMem.ownD 0 rfl | exact HasMem.ownD 1 rfl | exact HasMem.ownD 2 rfl | exact HasMem.ownD 3 rfl | exact HasMem.ownD 4 rfl | exact HasMem.ownD 5 rfl | exact HasMem.ownD 6 rfl | exact HasMem.ownD 7 rfl | exact HasMem.ownD 8 rfl | exact HasMem.ownD 9 rfl)) ?_
                  first | refine WL.efN rfl rfl (Ef.storeD _ 0 tab_ok rfl rfl rfl rfl rfl (by (try dsimp only) <;> omega) rfl rfl rfl rfl ?_) | refine WL.efN rfl rfl (Ef.storeD _ 1 tab_ok rfl rfl rfl rfl rfl (by (try dsimp only) <;> omega) rfl rfl rfl rfl ?_) | refine WL.efN rfl rfl (Ef.storeD _ 2 tab_ok rfl rfl rfl rfl rfl (by (try dsimp only) <;> omega) rfl rfl rfl rfl ?_) | refine WL.efN rfl rfl (Ef.storeD _ 3 tab_ok rfl rfl rfl rfl rfl (by (try dsimp only) <;> omega) rfl rfl rfl rfl ?_) | refine WL.efN rfl rfl (Ef.storeD _ 4 tab_ok rfl rfl rfl rfl rfl (by (try dsimp only) <;> omega) rfl rfl rfl rfl ?_) | refine WL.efN rfl rfl (Ef.storeD _ 5 tab_ok rfl rfl rfl rfl rfl (by (try dsimp only) <;> omega) rfl rfl rfl rfl ?_) | refine WL.efN rfl rfl (Ef.storeD _ 6 tab_ok rfl rfl rfl rfl rfl (by (try dsimp only) <;> omega) rfl rfl rfl rfl ?_) | refine WL.efN rfl rfl (Ef.storeD _ 7 tab_ok rfl rfl rfl rfl rfl (by (try dsimp only) <;> omega) rfl rfl rfl rfl ?_) | refine WL.efN rfl rfl (Ef.storeD _ 8 tab_ok rfl rfl rfl rfl rfl (by (try dsimp only) <;> omega) rfl rfl rfl rfl ?_) | refine WL.efN rfl rfl (Ef.storeD _ 9 tab_ok rfl rfl rfl rfl rfl (by (try dsimp only) <;> omega) rfl rfl rfl rfl ?_)
                  refine WG.nil ?_
                  refine WE.blk _ ?_
                  refine WE.nxt ?_
                  refine W.region _ ?_
                  refine WG.run tab_ok 1 rfl ?_
                  refine WG.y rfl rfl (by decide) (Yl.sub rfl rfl rfl (fun _ => rfl) (by intro _; constructor <;> (try dsimp only) <;> omega)) ?_
                  refine WG.run tab_ok 1 rfl ?_
                  refine WG.nil ?_
                  have hnew : min lst (rawG m1 m2 th (w + 1)) = leastG (rawG m1 m2 th) (w + 1) (f2 + P + lcmC m1 m2 - (w + 1)) := by
                    rw [show f2 + P + lcmC m1 m2 - (w + 1) = (f2 + P + lcmC m1 m2 - (w + 1 + 1)) + 1 by omega, leastG_cons, ← hlst]
                  rw [show (if (rawG m1 m2 th (w + 1)) < lst then (rawG m1 m2 th (w + 1)) else lst) = min lst (rawG m1 m2 th (w + 1)) by split <;> omega, show (if 0 < min lst (rawG m1 m2 th (w + 1)) then min lst (rawG m1 m2 th (w + 1)) else 0) = max 0 (min lst (rawG m1 m2 th (w + 1))) by split <;> omega, show ((w + 1 : Nat) : Int) - 1 = (w : Int) by omega]
                  refine WE.again ((w, min lst (rawG m1 m2 th (w + 1)), xs.set (w + 1) (max 0 (min lst (rawG m1 m2 th (w + 1)))))) (⟨⟨by omega, by omega⟩, by (try dsimp only); rw [List.length_set]; exact hxl, hnew, fun i hi => by
                    (try dsimp only)
                    by_cases e : i = w + 1
                    · subst e
                      rw [nth_set_self (by omega), if_pos (by omega), hnew]
                      have hw := hG_win (th := th) hv1 hv2 hup (u := w + 1) (m := f2 + P + lcmC m1 m2 - w - 2) (by omega) (by omega)
                      rw [hw, show f2 + P + lcmC m1 m2 - (w + 1) = f2 + P + lcmC m1 m2 - w - 2 + 1 by omega, leastG_cap]
                      have := rawG_top (th := th) hv1 hv2 (t := w + 1) (by omega)
                      unfold INF at this ⊢
                      omega
                    · rw [nth_set_ne (fun h => e h.symm), hxs i hi]
                      by_cases h : w < i
                      · rw [if_pos h, if_pos (by omega)]
                      · rw [if_neg h, if_neg (by omega)]⟩) (by (try dsimp only); omega) ⟨rfl, rfl, rfl, rfl, rfl, rfl, rfl, rfl, rfl, rfl⟩ (RLe.refl _) qS
                · try dsimp only at hc6
                  obtain rfl : th = u := by omega
                  refine W.exit ?_
                  refine WE.then_exit ?_
                  refine WE.then_exit ?_
                  refine WE.blk_exit ?_
                  refine WE.nxt ?_
                  have hxv : xs = fvals (hG m1 m2 th) (f2 + P) := nth_ext (by rw [fvals_len]; exact hxl) (fun i hi => by
                    rw [hxs i (by omega), fvals_nth _ (by omega)]
                    by_cases h : th < i
                    · rw [if_pos h]
                    · rw [if_neg h, hG_low (by omega)])
                  refine W.freeze (enc := encI) (xs := xs) 1 rfl ?_
                  intro R3 hR3 hxr
                  refine W.freezeBlk 0 rfl ?_
                  intro R4 hR4 hb18
                  have hF : ∀ t : Nat, t < f2 + P → FnV Try.prog 61 ((#[] : Array Value).toList ++ [.int .i64 (t : Int)] ++ (#[.pointer (some ⟨b18, 0, none⟩)] : Array Value).toList) R4 (.int .i64 ((hG m1 m2 th) t)) := fun t ht => by
                    have h := RestFG_V (c := f2 + P) (xs := xs) (by rw [hxl]; exact hb18) (hxr.mono hR4) (t := t) (by omega)
                    rw [show nth xs t = (hG m1 m2 th) t by rw [hxv, fvals_nth _ (by omega)]] at h
                    exact h
                  refine W.seq ?_
                  refine W.region _ ?_
                  refine WG.run tab_ok 4 rfl ?_
                  refine WL.call en60 rfl rfl (by decide) (CallOp.mkT rfl rfl rfl rfl) (Build_C (S := f2) (P := P) (I := inc) (F := (hG m1 m2 th)) en61 (by omega) (by omega) (by omega) (fun t ht => hG_top hv1 hv2 (by omega)) hF w0 _) ?_
                  rintro _ R5 E5 hR5 ⟨ff, ffc, rfl, hff, hsub5⟩
                  refine WL.subE hsub5 ?_
                  rw [← hd] at hff ⊢
                  unfold cvV
                  refine WG.run tab_ok 2 rfl ?_
                  first | refine WL.efN rfl rfl (Ef.store0 0 tab_ok rfl rfl rfl rfl rfl rfl rfl rfl ?_) | refine WL.efN rfl rfl (Ef.store0 1 tab_ok rfl rfl rfl rfl rfl rfl rfl rfl ?_) | refine WL.efN rfl rfl (Ef.store0 2 tab_ok rfl rfl rfl rfl rfl rfl rfl rfl ?_) | refine WL.efN rfl rfl (Ef.store0 3 tab_ok rfl rfl rfl rfl rfl rfl rfl rfl ?_) | refine WL.efN rfl rfl (Ef.store0 4 tab_ok rfl rfl rfl rfl rfl rfl rfl rfl ?_) | refine WL.efN rfl rfl (Ef.store0 5 tab_ok rfl rfl rfl rfl rfl rfl rfl rfl ?_) | refine WL.efN rfl rfl (Ef.store0 6 tab_ok rfl rfl rfl rfl rfl rfl rfl rfl ?_) | refine WL.efN rfl rfl (Ef.store0 7 tab_ok rfl rfl rfl rfl rfl rfl rfl rfl ?_) | refine WL.efN rfl rfl (Ef.store0 8 tab_ok rfl rfl rfl rfl rfl rfl rfl rfl ?_) | refine WL.efN rfl rfl (Ef.store0 9 tab_ok rfl rfl rfl rfl rfl rfl rfl rfl ?_)
                  refine WG.run tab_ok 1 rfl ?_
                  refine WG.nil ?_
                  refine WE.nxt ?_
                  refine W.ret ?_
                  refine WE.retF tab_ok [_, _] rfl ⟨⟨_, _, _, rfl, rfl, rfl, ((by first | exact Rd.blk 0 rfl | exact Rd.blk 1 rfl | exact Rd.blk 2 rfl | exact Rd.blk 3 rfl | exact Rd.blk 4 rfl | exact Rd.blk 5 rfl | exact Rd.blk 6 rfl | exact Rd.blk 7 rfl | exact Rd.blk 8 rfl | exact Rd.blk 9 rfl)), rfl⟩, rfl, trivial⟩ ((by first | exact hR1.trans hR2 | exact (hR1.trans hR2).trans hR3 | exact (hR1.trans hR2).trans (hR3.trans (hR4.trans hR5)))) ?_
                  exact ⟨ff, ffc, rfl, hff, qS⟩
              ·
                refine W.seq ?_
                refine W.region _ ?_
                refine' WG.y rfl rfl (by decide) (Yl.load1 tab_ok rfl rfl rfl (fun _ => rfl) ?r18 rfl ?h18) ?_
                case r18 => (first | exact Rd.ro (by assumption) | exact Rd.blk 0 rfl | exact Rd.blk 1 rfl | exact Rd.blk 2 rfl | exact Rd.blk 3 rfl | exact Rd.blk 4 rfl | exact Rd.blk 5 rfl | exact Rd.blk 6 rfl | exact Rd.blk 7 rfl | exact Rd.blk 8 rfl | exact Rd.blk 9 rfl)
                case h18 => rfl
                refine WG.callV en57 rfl rfl (by decide) (CallOp.mk' rfl rfl rfl rfl) (fun _ => rfl) (fun hg => WFiniteG_V hv1 ha1x) ?_
                refine WG.run tab_ok 1 rfl ?_
                refine WG.y rfl rfl (by decide) (pureV_ok tab_ok rfl qE) ?_
                refine WG.y rfl rfl (by decide) (pureV_ok tab_ok rfl qE) ?_
                refine WG.y rfl rfl (by decide) (Yl.pand rfl rfl rfl (fun _ => rfl) (by intro h1 h2; simp_all <;> omega)) ?_
                refine WG.nil ?_
                refine WE.nxt ?_
                refine W.cond rfl (fun hc7 => ?_) (fun hc7 => ?_)
                · try simp only [decide_eq_true_eq, decide_eq_false_iff_not, beq_iff_eq, bne_iff_ne, beq_eq_false_iff_ne, bne_eq_false_iff_eq, ne_eq, Bool.or_eq_true, Bool.or_eq_false_iff, Bool.and_eq_true, Bool.and_eq_false_imp, Bool.not_eq_true, Bool.not_eq_true', Bool.not_eq_false', Classical.not_not, Int.not_lt, Int.not_le, gt_iff_lt, ge_iff_le] at hc7
                  have hdc : (finB m1 = true ∧ 0 < driftG m1 m2) := by first | exact hc7 | simpa using hc7
                  refine W.seq ?_
                  refine W.seq ?_
                  refine W.region _ ?_
                  refine WG.run tab_ok 4 rfl ?_
                  refine WG.nil ?_
                  refine WE.nxt ?_
                  refine W.seq ?_
                  refine W.region _ ?_
                  refine WG.run tab_ok 2 rfl ?_
                  refine WG.nil ?_
                  refine WE.nxt ?_
                  refine W.condD rfl (fun hc8 => ?_) (fun hc8 => ?_)
                  · try dsimp only at hc8
                    refine W.region _ ?_
                    refine WG.run tab_ok 1 rfl ?_
                    refine WG.nil ?_
                    refine WE.nxt ?_
                    refine W.seq ?_
                    refine W.region _ ?_
                    refine' WG.y rfl rfl (by decide) (Yl.load1 tab_ok rfl rfl rfl (fun _ => rfl) ?r19 rfl ?h19) ?_
                    case r19 => (first | exact Rd.ro (by assumption) | exact Rd.blk 0 rfl | exact Rd.blk 1 rfl | exact Rd.blk 2 rfl | exact Rd.blk 3 rfl | exact Rd.blk 4 rfl | exact Rd.blk 5 rfl | exact Rd.blk 6 rfl | exact Rd.blk 7 rfl | exact Rd.blk 8 rfl | exact Rd.blk 9 rfl)
                    case h19 => rfl
                    refine WG.run tab_ok 2 rfl ?_
                    refine WG.callV (v := .int .i64 (leastG (rawG m1 m2 th) 400 (lcmC m1 m2))) en56 rfl rfl (by decide) (CallOp.mk' rfl rfl rfl rfl) (fun _ => rfl) (fun hg => GapLeastG_V (c1 := ca1x) (c2 := ca2x) hv1 ha1x hv2 ha2x (th := th) (a := 400) (n := lcmC m1 m2) (by omega)) ?_
                    refine WG.run tab_ok 1 rfl ?_
                    refine WG.nil ?_
                    refine WE.nxt ?_
                    refine W.condD rfl (fun hc9 => ?_) (fun hc9 => ?_)
                    · try dsimp only at hc9
                      have hd : shareN m1 m2 th = (zcv, 3) := by
                        rw [leastG_lt0 hlp] at hc9
                        unfold shareN; rw [if_neg hl1, if_neg hnf4, if_neg h400, if_pos hdc, if_pos]
                        first | (rw [show max (frG m1 m2 th) 400 = 400 by omega]; exact hc9) | (rw [show max (frG m1 m2 th) 400 = frG m1 m2 th by omega]; exact hc9)
                      refine W.seq ?_
                      refine W.region _ ?_
                      -- build
                      refine WG.y rfl rfl (by decide) (Yl.build (parts := []) tab_ok rfl rfl rfl rfl (fun _ => rfl) rfl rfl) ?_
                      first | refine WL.efN rfl rfl (Ef.store0 0 tab_ok rfl rfl rfl rfl rfl rfl rfl rfl ?_) | refine WL.efN rfl rfl (Ef.store0 1 tab_ok rfl rfl rfl rfl rfl rfl rfl rfl ?_) | refine WL.efN rfl rfl (Ef.store0 2 tab_ok rfl rfl rfl rfl rfl rfl rfl rfl ?_) | refine WL.efN rfl rfl (Ef.store0 3 tab_ok rfl rfl rfl rfl rfl rfl rfl rfl ?_) | refine WL.efN rfl rfl (Ef.store0 4 tab_ok rfl rfl rfl rfl rfl rfl rfl rfl ?_) | refine WL.efN rfl rfl (Ef.store0 5 tab_ok rfl rfl rfl rfl rfl rfl rfl rfl ?_) | refine WL.efN rfl rfl (Ef.store0 6 tab_ok rfl rfl rfl rfl rfl rfl rfl rfl ?_) | refine WL.efN rfl rfl (Ef.store0 7 tab_ok rfl rfl rfl rfl rfl rfl rfl rfl ?_) | refine WL.efN rfl rfl (Ef.store0 8 tab_ok rfl rfl rfl rfl rfl rfl rfl rfl ?_) | refine WL.efN rfl rfl (Ef.store0 9 tab_ok rfl rfl rfl rfl rfl rfl rfl rfl ?_)
                      refine WG.run tab_ok 1 rfl ?_
                      refine WG.nil ?_
                      refine WE.nxt ?_
                      refine W.ret ?_
                      refine WE.then_ret ?_
                      refine WE.retF tab_ok [_, _] rfl ⟨⟨_, _, _, rfl, rfl, rfl, ((by first | exact Rd.blk 0 rfl | exact Rd.blk 1 rfl | exact Rd.blk 2 rfl | exact Rd.blk 3 rfl | exact Rd.blk 4 rfl | exact Rd.blk 5 rfl | exact Rd.blk 6 rfl | exact Rd.blk 7 rfl | exact Rd.blk 8 rfl | exact Rd.blk 9 rfl)), rfl⟩, rfl, trivial⟩ ((by first | exact hR1.trans hR2 | exact (hR1.trans hR2).trans hR3 | exact (hR1.trans hR2).trans (hR3.trans (hR4.trans hR5)))) ?_
                      exact ⟨none, 0, by rw [hd]; rfl, by rw [hd]; exact rs_nil, qS⟩
                    · try dsimp only at hc9
                      have hge : ¬ minF (rawG m1 m2 th) (max (frG m1 m2 th) 400) (lcmC m1 m2 - 1) < 0 := by
                        rw [← leastG_lt0 hlp]
                        first | (rw [show max (frG m1 m2 th) 400 = 400 by omega]; omega) | (rw [show max (frG m1 m2 th) 400 = frG m1 m2 th by omega]; omega)
                      refine W.skip ?_
                      refine WE.cut (400, lcmC m1 m2, driftG m1 m2) (.inl ⟨hdc, by omega, rfl, rfl, hge⟩) ⟨rfl, rfl, rfl, rfl, rfl, rfl, rfl, rfl⟩ (RLe.refl _) qS
                  · try dsimp only at hc8
                    refine W.skip ?_
                    refine WE.nxt ?_
                    refine W.seq ?_
                    refine W.region _ ?_
                    refine' WG.y rfl rfl (by decide) (Yl.load1 tab_ok rfl rfl rfl (fun _ => rfl) ?r20 rfl ?h20) ?_
                    case r20 => (first | exact Rd.ro (by assumption) | exact Rd.blk 0 rfl | exact Rd.blk 1 rfl | exact Rd.blk 2 rfl | exact Rd.blk 3 rfl | exact Rd.blk 4 rfl | exact Rd.blk 5 rfl | exact Rd.blk 6 rfl | exact Rd.blk 7 rfl | exact Rd.blk 8 rfl | exact Rd.blk 9 rfl)
                    case h20 => rfl
                    refine WG.run tab_ok 2 rfl ?_
                    refine WG.callV (v := .int .i64 (leastG (rawG m1 m2 th) (frG m1 m2 th) (lcmC m1 m2))) en56 rfl rfl (by decide) (CallOp.mk' rfl rfl rfl rfl) (fun _ => rfl) (fun hg => GapLeastG_V (c1 := ca1x) (c2 := ca2x) hv1 ha1x hv2 ha2x (th := th) (a := frG m1 m2 th) (n := lcmC m1 m2) (by omega)) ?_
                    refine WG.run tab_ok 1 rfl ?_
                    refine WG.nil ?_
                    refine WE.nxt ?_
                    refine W.condD rfl (fun hc10 => ?_) (fun hc10 => ?_)
                    · try dsimp only at hc10
                      have hd : shareN m1 m2 th = (zcv, 3) := by
                        rw [leastG_lt0 hlp] at hc10
                        unfold shareN; rw [if_neg hl1, if_neg hnf4, if_neg h400, if_pos hdc, if_pos]
                        first | (rw [show max (frG m1 m2 th) 400 = 400 by omega]; exact hc10) | (rw [show max (frG m1 m2 th) 400 = frG m1 m2 th by omega]; exact hc10)
                      refine W.seq ?_
                      refine W.region _ ?_
                      -- build
                      refine WG.y rfl rfl (by decide) (Yl.build (parts := []) tab_ok rfl rfl rfl rfl (fun _ => rfl) rfl rfl) ?_
                      first | refine WL.efN rfl rfl (Ef.store0 0 tab_ok rfl rfl rfl rfl rfl rfl rfl rfl ?_) | refine WL.efN rfl rfl (Ef.store0 1 tab_ok rfl rfl rfl rfl rfl rfl rfl rfl ?_) | refine WL.efN rfl rfl (Ef.store0 2 tab_ok rfl rfl rfl rfl rfl rfl rfl rfl ?_) | refine WL.efN rfl rfl (Ef.store0 3 tab_ok rfl rfl rfl rfl rfl rfl rfl rfl ?_) | refine WL.efN rfl rfl (Ef.store0 4 tab_ok rfl rfl rfl rfl rfl rfl rfl rfl ?_) | refine WL.efN rfl rfl (Ef.store0 5 tab_ok rfl rfl rfl rfl rfl rfl rfl rfl ?_) | refine WL.efN rfl rfl (Ef.store0 6 tab_ok rfl rfl rfl rfl rfl rfl rfl rfl ?_) | refine WL.efN rfl rfl (Ef.store0 7 tab_ok rfl rfl rfl rfl rfl rfl rfl rfl ?_) | refine WL.efN rfl rfl (Ef.store0 8 tab_ok rfl rfl rfl rfl rfl rfl rfl rfl ?_) | refine WL.efN rfl rfl (Ef.store0 9 tab_ok rfl rfl rfl rfl rfl rfl rfl rfl ?_)
                      refine WG.run tab_ok 1 rfl ?_
                      refine WG.nil ?_
                      refine WE.nxt ?_
                      refine W.ret ?_
                      refine WE.then_ret ?_
                      refine WE.retF tab_ok [_, _] rfl ⟨⟨_, _, _, rfl, rfl, rfl, ((by first | exact Rd.blk 0 rfl | exact Rd.blk 1 rfl | exact Rd.blk 2 rfl | exact Rd.blk 3 rfl | exact Rd.blk 4 rfl | exact Rd.blk 5 rfl | exact Rd.blk 6 rfl | exact Rd.blk 7 rfl | exact Rd.blk 8 rfl | exact Rd.blk 9 rfl)), rfl⟩, rfl, trivial⟩ ((by first | exact hR1.trans hR2 | exact (hR1.trans hR2).trans hR3 | exact (hR1.trans hR2).trans (hR3.trans (hR4.trans hR5)))) ?_
                      exact ⟨none, 0, by rw [hd]; rfl, by rw [hd]; exact rs_nil, qS⟩
                    · try dsimp only at hc10
                      have hge : ¬ minF (rawG m1 m2 th) (max (frG m1 m2 th) 400) (lcmC m1 m2 - 1) < 0 := by
                        rw [← leastG_lt0 hlp]
                        first | (rw [show max (frG m1 m2 th) 400 = 400 by omega]; omega) | (rw [show max (frG m1 m2 th) 400 = frG m1 m2 th by omega]; omega)
                      refine W.skip ?_
                      refine WE.cut (frG m1 m2 th, lcmC m1 m2, driftG m1 m2) (.inl ⟨hdc, by omega, rfl, rfl, hge⟩) ⟨rfl, rfl, rfl, rfl, rfl, rfl, rfl, rfl⟩ (RLe.refl _) qS
                · try simp only [decide_eq_true_eq, decide_eq_false_iff_not, beq_iff_eq, bne_iff_ne, beq_eq_false_iff_ne, bne_eq_false_iff_eq, ne_eq, Bool.or_eq_true, Bool.or_eq_false_iff, Bool.and_eq_true, Bool.and_eq_false_imp, Bool.not_eq_true, Bool.not_eq_true', Bool.not_eq_false', Classical.not_not, Int.not_lt, Int.not_le, gt_iff_lt, ge_iff_le] at hc7
                  have hdc : ¬ (finB m1 = true ∧ 0 < driftG m1 m2) := fun h => by first | exact hc7 h | exact hc7 h.1 h.2 | (have := hc7 h.1; have := h.2; omega)
                  refine W.skip ?_
                  refine WE.cut (frG m1 m2 th, 1, 0) (.inr ⟨hdc, rfl, rfl, rfl⟩) ⟨rfl, rfl, rfl, rfl, rfl, rfl, rfl, rfl⟩ (RLe.refl _) qS

end Go.Proofs.Ytolmmfphdieilaa

/- Chapter 19: checks, what others send, the curve. No condition. -/
set_option linter.unusedSimpArgs false
set_option linter.unusedVariables false
namespace Go.Proofs.Ytolmmfphdieilaa
open Go Go.RowKit Go.Proofs.Ytolmmfphdieilaa.K Go.Proofs.Ytolmmfphdieilaa.M

end Go.Proofs.Ytolmmfphdieilaa

/- Chapter 17: what its laws use. No condition. -/
set_option linter.unusedSimpArgs false
set_option linter.unusedVariables false
namespace Go.Proofs.Ytolmmfphdieilaa
open Go Go.RowKit Go.Proofs.Ytolmmfphdieilaa.K Go.Proofs.Ytolmmfphdieilaa.M

theorem share17 : shareN (normR (⟨[0], 1, 10⟩ : Cv)) (normR (⟨[0, 14, 14, 28], 2, 14⟩ : Cv)) 2 = (⟨[0, 0, 0, 16, 22], 2, 6⟩, 0) := by
  have e1 : normR (⟨[0], 1, 10⟩ : Cv) = (⟨[0], 1, 10⟩ : Cv) := by kernel_rfl
  have e2 : normR (⟨[0, 14, 14, 28], 2, 14⟩ : Cv) = ⟨[0, 14], 2, 14⟩ := by kernel_rfl
  rw [e1, e2]
  have hb : validB (⟨[0], 1, 10⟩ : Cv) = true := by kernel_rfl
  have ho : validB ⟨[0, 14], 2, 14⟩ = true := by kernel_rfl
  have fb : finB (⟨[0], 1, 10⟩ : Cv) = true := by kernel_rfl
  have fo : finB ⟨[0, 14], 2, 14⟩ = true := by kernel_rfl
  have hl : lcmC (⟨[0], 1, 10⟩ : Cv) ⟨[0, 14], 2, 14⟩ = 2 := by kernel_rfl
  have hd : driftG (⟨[0], 1, 10⟩ : Cv) ⟨[0, 14], 2, 14⟩ = 6 := by kernel_rfl
  have hfr : frG (⟨[0], 1, 10⟩ : Cv) ⟨[0, 14], 2, 14⟩ 2 = 3 := by kernel_rfl
  have hm : minF (rawG (⟨[0], 1, 10⟩ : Cv) ⟨[0, 14], 2, 14⟩ 2) 3 (2 - 1) = 16 := by kernel_rfl
  have hlate := raw_late (th := 2) hb ho fb fo (by omega) (S := 3) (by omega) (by rw [hl, hm]; decide)
  have r1 := share_rep1 (th := 2) hb ho fb fo (by omega) (S := 3) (by omega) (by omega) (by omega) hlate
  have r2 := share_rep1 (th := 2) hb ho fb fo (by omega) (S := 400) (by omega) (by omega) (by omega) (fun u hu => hlate u (by omega))
  have hneg : 0 ≤ minF (rawG (⟨[0], 1, 10⟩ : Cv) ⟨[0, 14], 2, 14⟩ 2) 400 (2 - 1) := minF_ge (fun u h1 h2 => hlate u (by omega))
  unfold shareN
  rw [if_neg (by omega), if_neg (fun h => by unfold flatB at h; rw [fo, hd] at h; rcases h with h | ⟨_, h | ⟨h, _⟩⟩ <;> first | cases h | omega), if_neg (by omega), if_pos ⟨fb, by omega⟩, hfr, show max 3 400 = 400 from rfl, hl, if_neg (by omega), hd]
  rw [hl, hd] at r1 r2
  rw [build_build_fin r2.hP r2.hg r1.hP r1.hg (fun t ht => r2.ne ht) (fun t ht => r1.ne ht)]
  show mbuild (hG (⟨[0], 1, 10⟩ : Cv) ⟨[0, 14], 2, 14⟩ 2) 3 2 6 = (⟨[0, 0, 0, 16, 22], 2, 6⟩, 0)
  kernel_rfl

set_option maxHeartbeats 1000000 in
theorem Awake17_C {R : Ro} (w0 : World) (E : List Ent) : K.Fn Try.prog 21 [] w0 R E (fun v R' E' => v = .bool true ∧ E.Sublist E') := by
  refine Fn.enter (n := 41) Try.func21 rfl rfl (Nat.le_of_ble_eq_true rfl) rfl ?_
  refine W.seq ?_
  refine W.region _ ?_
  refine WG.run tab_ok 1 rfl ?_
  refine WG.nil ?_
  refine WE.nxt ?_
  refine W.seq ?_
  refine W.region _ ?_
  refine WL.ef rfl rfl (by decide) (Ef.buildSliceD (enc := encI) (parts := [.const (.int .i64 0)]) [_] tab_ok rfl rfl rfl rfl rfl rfl rfl rfl (by decide) (by decide) (fun a5 => ?_))
  refine WL.freeze (enc := encI) (xs := ([0] : List Int)) 0 rfl ?_
  intro R1 hR1 hc1
  -- build
  refine WG.y rfl rfl (by decide) (Yl.build (parts := [(0, .tmp 5), (1, .const (.int .i64 1)), (2, .const (.int .i64 10))]) tab_ok rfl rfl rfl rfl (fun _ => rfl) rfl rfl) ?_
  refine WL.ef rfl rfl (by decide) (Ef.buildSliceD (enc := encI) (parts := [.const (.int .i64 0), .const (.int .i64 14), .const (.int .i64 14), .const (.int .i64 28)]) [_, _, _, _] tab_ok rfl rfl rfl rfl rfl rfl rfl rfl (by decide) (by decide) (fun a7 => ?_))
  refine WL.freeze (enc := encI) (xs := ([0, 14, 14, 28] : List Int)) 0 rfl ?_
  intro R2 hR2 hc2
  have hc1 := hc1.mono hR2
  -- build
  refine WG.y rfl rfl (by decide) (Yl.build (parts := [(0, .tmp 7), (1, .const (.int .i64 2)), (2, .const (.int .i64 14))]) tab_ok rfl rfl rfl rfl (fun _ => rfl) rfl rfl) ?_
  refine WL.ef rfl rfl (by decide) (Ef.alloc tab_ok rfl rfl (fun b1 => ?_))
  refine WL.ef rfl rfl (by decide) (Ef.alloc tab_ok rfl rfl (fun b2 => ?_))
  first | refine WL.efN rfl rfl (Ef.store0 0 tab_ok rfl rfl rfl rfl rfl rfl rfl rfl ?_) | refine WL.efN rfl rfl (Ef.store0 1 tab_ok rfl rfl rfl rfl rfl rfl rfl rfl ?_) | refine WL.efN rfl rfl (Ef.store0 2 tab_ok rfl rfl rfl rfl rfl rfl rfl rfl ?_) | refine WL.efN rfl rfl (Ef.store0 3 tab_ok rfl rfl rfl rfl rfl rfl rfl rfl ?_) | refine WL.efN rfl rfl (Ef.store0 4 tab_ok rfl rfl rfl rfl rfl rfl rfl rfl ?_) | refine WL.efN rfl rfl (Ef.store0 5 tab_ok rfl rfl rfl rfl rfl rfl rfl rfl ?_)
  first | refine WL.efN rfl rfl (Ef.store0 0 tab_ok rfl rfl rfl rfl rfl rfl rfl rfl ?_) | refine WL.efN rfl rfl (Ef.store0 1 tab_ok rfl rfl rfl rfl rfl rfl rfl rfl ?_) | refine WL.efN rfl rfl (Ef.store0 2 tab_ok rfl rfl rfl rfl rfl rfl rfl rfl ?_) | refine WL.efN rfl rfl (Ef.store0 3 tab_ok rfl rfl rfl rfl rfl rfl rfl rfl ?_) | refine WL.efN rfl rfl (Ef.store0 4 tab_ok rfl rfl rfl rfl rfl rfl rfl rfl ?_) | refine WL.efN rfl rfl (Ef.store0 5 tab_ok rfl rfl rfl rfl rfl rfl rfl rfl ?_)
  refine WG.nil ?_
  refine WE.nxt ?_
  refine W.seq ?_
  refine W.region _ ?_
  refine' WG.y rfl rfl (by decide) (Yl.load1 tab_ok rfl rfl rfl (fun _ => rfl) ?r1 rfl ?h1) ?_
  case r1 => (first | exact Rd.blk 0 rfl | exact Rd.blk 1 rfl | exact Rd.blk 2 rfl | exact Rd.blk 3 rfl | exact Rd.blk 4 rfl | exact Rd.blk 5 rfl)
  case h1 => rfl
  refine' WG.y rfl rfl (by decide) (Yl.load1 tab_ok rfl rfl rfl (fun _ => rfl) ?r2 rfl ?h2) ?_
  case r2 => (first | exact Rd.blk 0 rfl | exact Rd.blk 1 rfl | exact Rd.blk 2 rfl | exact Rd.blk 3 rfl | exact Rd.blk 4 rfl | exact Rd.blk 5 rfl)
  case h2 => rfl
  refine WL.call en14 rfl rfl (by decide) (CallOp.mkT rfl rfl rfl rfl) (SRestG_C (cf := (⟨[0], 1, 10⟩ : Cv)) (cg := (⟨[0, 14, 14, 28], 2, 14⟩ : Cv)) (th := 2) (by kernel_rfl) hc1 (by kernel_rfl) hc2 (by decide) w0 _) ?_
  rintro _ R3 E2 hR3 ⟨f1, fc1, rfl, hf1, hsub2⟩
  rw [share17] at hf1 ⊢
  refine WL.subE hsub2 ?_
  unfold cvV
  refine WG.run tab_ok 3 rfl ?_
  refine WL.ef rfl rfl (by decide) (Ef.alloc tab_ok rfl rfl (fun b3 => ?_))
  first | refine WL.efN rfl rfl (Ef.store0 0 tab_ok rfl rfl rfl rfl rfl rfl rfl rfl ?_) | refine WL.efN rfl rfl (Ef.store0 1 tab_ok rfl rfl rfl rfl rfl rfl rfl rfl ?_) | refine WL.efN rfl rfl (Ef.store0 2 tab_ok rfl rfl rfl rfl rfl rfl rfl rfl ?_) | refine WL.efN rfl rfl (Ef.store0 3 tab_ok rfl rfl rfl rfl rfl rfl rfl rfl ?_) | refine WL.efN rfl rfl (Ef.store0 4 tab_ok rfl rfl rfl rfl rfl rfl rfl rfl ?_) | refine WL.efN rfl rfl (Ef.store0 5 tab_ok rfl rfl rfl rfl rfl rfl rfl rfl ?_)
  refine WG.run tab_ok 1 rfl ?_
  refine WG.nil ?_
  refine WE.nxt ?_
  refine W.seq ?_
  refine W.region _ ?_
  refine WG.run tab_ok 3 rfl ?_
  refine WL.guardT rfl (by rfl) ?_
  refine' WG.y rfl rfl (by decide) (Yl.load1 tab_ok rfl rfl rfl (fun _ => rfl) ?r3 rfl ?h3) ?_
  case r3 => (first | exact Rd.blk 0 rfl | exact Rd.blk 1 rfl | exact Rd.blk 2 rfl | exact Rd.blk 3 rfl | exact Rd.blk 4 rfl | exact Rd.blk 5 rfl)
  case h3 => rfl
  refine WL.guardT rfl (by rfl) ?_
  refine WG.callV (v := .bool true) en71 rfl rfl (by decide) (CallOp.mk' rfl rfl rfl rfl) (fun _ => rfl) (fun hg => by
    have h := Valid_V (per := 2) (inc := 6) (c := fc1) hf1 (by constructor <;> decide) (by constructor <;> decide) (by decide)
    exact h) ?_
  refine WG.y rfl rfl (by decide) (Yl.pand rfl rfl rfl (fun _ => rfl) (by intro h1 h2; simp_all <;> omega)) ?_
  refine WG.run tab_ok 1 rfl ?_
  refine WL.guardT rfl (by rfl) ?_
  refine' WG.y rfl rfl (by decide) (Yl.load1 tab_ok rfl rfl rfl (fun _ => rfl) ?r4 rfl ?h4) ?_
  case r4 => (first | exact Rd.blk 0 rfl | exact Rd.blk 1 rfl | exact Rd.blk 2 rfl | exact Rd.blk 3 rfl | exact Rd.blk 4 rfl | exact Rd.blk 5 rfl)
  case h4 => rfl
  refine WL.guardT rfl (by rfl) ?_
  refine WG.callV (v := .int .i64 0) en18 rfl rfl (by decide) (CallOp.mk' rfl rfl rfl rfl) (fun _ => rfl) (fun hg => by
    have h := At_V (t := 2) (per := 2) (inc := 6) (c := fc1) hf1 (by constructor <;> decide) ⟨by constructor <;> decide, by decide⟩ (by decide) (by decide)
    exact h) ?_
  refine WL.guardT rfl (by rfl) ?_
  refine WG.y rfl rfl (by decide) (pureV_ok tab_ok rfl (fun _ => rfl)) ?_
  refine WG.y rfl rfl (by decide) (Yl.pand rfl rfl rfl (fun _ => rfl) (by intro h1 h2; simp_all <;> omega)) ?_
  refine WG.run tab_ok 1 rfl ?_
  refine WL.guardT rfl (by rfl) ?_
  refine' WG.y rfl rfl (by decide) (Yl.load1 tab_ok rfl rfl rfl (fun _ => rfl) ?r5 rfl ?h5) ?_
  case r5 => (first | exact Rd.blk 0 rfl | exact Rd.blk 1 rfl | exact Rd.blk 2 rfl | exact Rd.blk 3 rfl | exact Rd.blk 4 rfl | exact Rd.blk 5 rfl)
  case h5 => rfl
  refine WL.guardT rfl (by rfl) ?_
  refine WG.callV (v := .int .i64 16) en18 rfl rfl (by decide) (CallOp.mk' rfl rfl rfl rfl) (fun _ => rfl) (fun hg => by
    have h := At_V (t := 3) (per := 2) (inc := 6) (c := fc1) hf1 (by constructor <;> decide) ⟨by constructor <;> decide, by decide⟩ (by decide) (by decide)
    exact h) ?_
  refine WL.guardT rfl (by rfl) ?_
  refine WG.y rfl rfl (by decide) (pureV_ok tab_ok rfl (fun _ => rfl)) ?_
  refine WG.y rfl rfl (by decide) (Yl.pand rfl rfl rfl (fun _ => rfl) (by intro h1 h2; simp_all <;> omega)) ?_
  refine WG.run tab_ok 1 rfl ?_
  refine WL.guardT rfl (by rfl) ?_
  refine' WG.y rfl rfl (by decide) (Yl.load1 tab_ok rfl rfl rfl (fun _ => rfl) ?r6 rfl ?h6) ?_
  case r6 => (first | exact Rd.blk 0 rfl | exact Rd.blk 1 rfl | exact Rd.blk 2 rfl | exact Rd.blk 3 rfl | exact Rd.blk 4 rfl | exact Rd.blk 5 rfl)
  case h6 => rfl
  refine WL.guardT rfl (by rfl) ?_
  refine WG.callV (v := .int .i64 22) en18 rfl rfl (by decide) (CallOp.mk' rfl rfl rfl rfl) (fun _ => rfl) (fun hg => by
    have h := At_V (t := 5) (per := 2) (inc := 6) (c := fc1) hf1 (by constructor <;> decide) ⟨by constructor <;> decide, by decide⟩ (by decide) (by decide)
    exact h) ?_
  refine WL.guardT rfl (by rfl) ?_
  refine WG.y rfl rfl (by decide) (pureV_ok tab_ok rfl (fun _ => rfl)) ?_
  refine WG.y rfl rfl (by decide) (Yl.pand rfl rfl rfl (fun _ => rfl) (by intro h1 h2; simp_all <;> omega)) ?_
  refine WG.run tab_ok 1 rfl ?_
  refine WL.guardT rfl (by rfl) ?_
  refine' WG.y rfl rfl (by decide) (Yl.load1 tab_ok rfl rfl rfl (fun _ => rfl) ?r7 rfl ?h7) ?_
  case r7 => (first | exact Rd.blk 0 rfl | exact Rd.blk 1 rfl | exact Rd.blk 2 rfl | exact Rd.blk 3 rfl | exact Rd.blk 4 rfl | exact Rd.blk 5 rfl)
  case h7 => rfl
  refine WL.guardT rfl (by rfl) ?_
  refine WG.callV (v := .int .i64 28) en18 rfl rfl (by decide) (CallOp.mk' rfl rfl rfl rfl) (fun _ => rfl) (fun hg => by
    have h := At_V (t := 6) (per := 2) (inc := 6) (c := fc1) hf1 (by constructor <;> decide) ⟨by constructor <;> decide, by decide⟩ (by decide) (by decide)
    exact h) ?_
  refine WL.guardT rfl (by rfl) ?_
  refine WG.y rfl rfl (by decide) (pureV_ok tab_ok rfl (fun _ => rfl)) ?_
  refine WG.y rfl rfl (by decide) (Yl.pand rfl rfl rfl (fun _ => rfl) (by intro h1 h2; simp_all <;> omega)) ?_
  refine WG.run tab_ok 1 rfl ?_
  refine WG.nil ?_
  refine WE.nxt ?_
  refine W.ret ?_
  refine WE.retF tab_ok [_] rfl ⟨rfl, trivial⟩ (hR1.trans (hR2.trans hR3)) ?_
  exact ⟨rfl, qS⟩

end Go.Proofs.Ytolmmfphdieilaa

/- Rule: a pointer against nil. No condition. -/
namespace Go.Proofs.Ytolmmfphdieilaa.K
open Go Go.RowKit
section
variable {P : Program} {T : Tab} {n : Nat} {env : Env} {w0 : World} {R : Ro} {E : List Ent} {o : Oper} {pc p q r : Bool}
theorem Yl.ptrNil {t e : TypeId} {t' x y} {a : Option Addr} {d : TD} (hT : TabOk P T) (ho : o.op = .binOp .eql t x y t') (hc : y = .const (.pointer none)) (hd : T.at t = some d) (hk : d.k = .ptr e) (hx : ev env x = some (p, .pointer a)) (hp : pc = true → p = true) : Yl P n env w0 R E o pc (.bool a.isNone) := by
  intro ac w hkn hm hpc
  subst hc
  have hu : P.underlying t = some (.pointer e) := by
    have := hT.kind hd
    rw [hk] at this
    unfold kindOf at this
    split at this <;> simp_all
  have hpt : P.underlying t = some (.pointer (P.pointee t)) := by rw [hu]; simp [Program.pointee, hu]
  have e1 := run_equal_pointer_nil (P := P) w t a hpt
  have hy : ac.eval (.const (.pointer none)) = .pointer none := rfl
  unfold execOp
  cases a with
  | none => simp [ho, hkn.ev hx (hp hpc), hy, eqGuard, binOp, e1]
  | some ad => simp [ho, hkn.ev hx (hp hpc), hy, eqGuard, binOp, e1]
end
end Go.Proofs.Ytolmmfphdieilaa.K

/- Rules: calls that hand back one value and leave memory, under any guard, in regions that draw their order and write; what is not wanted. No condition. -/
namespace Go.Proofs.Ytolmmfphdieilaa.K
open Go Go.RowKit
section
variable {P : Program} {ops : List Oper} {o : Oper} {Q : Exit → Act → World → Prop} {ES : List Ent} {R0 : Ro} {w0 : World} {fuel : Nat} {listed : Array Bool} {n : Nat} {env : Env} {R : Ro} {E : List Ent} {pc q : Bool}
theorem WA.callV {v : Value} {d : Nat} {f : FuncId} {vs : List Value} (i : Nat) (hi : ops.toArray[i]? = some o) (hr : Region.ready .any ops.toArray listed = [i]) (hf : Enters P f) (hg : gpc ops env o = some pc) (hd : o.dst = some d) (hdn : d < n)
    (hc : CallOp env o.op q f vs) (hq : pc = true → q = true) (hv : pc = true → FnV P f vs R v) (hsub : ES.Sublist E) (hR : RLe R0 R)
    (h : WA P ops Q ES R0 w0 fuel (listed.setIfInBounds i true) n ((d, pc, v) :: env) R E) : WA P ops Q ES R0 w0 (fuel + 1) listed n env R E := by
  intro a w hk hm
  refine wpAnyH_all hr (by simp) fun j hj => ?_
  obtain rfl : j = i := by simpa using hj
  unfold wpOp
  rw [hi]
  have hput := hk.put hdn pc v
  have hw := hk.wanted hg
  cases pc with
  | true =>
    simp only [hw, if_true]
    left
    unfold Oper.wp
    rw [run_call hk hc (hq rfl) hf]
    refine (hv rfl w0 E w hm).mono ?_
    rintro e w' ⟨rfl, hm'⟩
    simp only [hd]
    exact ⟨hm'.sub hR hsub, h _ _ (by simpa using hput) hm'⟩
  | false =>
    simp only [hw, Bool.false_eq_true, if_false, hd]
    exact ⟨hm.sub hR hsub, h _ _ (by simpa using hput) hm⟩
theorem WS.callV {v : Value} {d : Nat} {f : FuncId} {vs : List Value} {i : Nat} (hi : ops.toArray[i]? = some o) (hf : Enters P f) (hg : gpc ops env o = some pc) (hd : o.dst = some d) (hdn : d < n)
    (hc : CallOp env o.op q f vs) (hq : pc = true → q = true) (hv : pc = true → FnV P f vs R v) (hsub : ES.Sublist E) (hR : RLe R0 R)
    (h : WA P ops Q ES R0 w0 fuel (listed.setIfInBounds i true) n ((d, pc, v) :: env) R E) : WS P ops Q ES R0 w0 fuel listed n env R E i := by
  intro a w hk hm
  unfold wpOp
  rw [hi]
  have hput := hk.put hdn pc v
  have hw := hk.wanted hg
  cases pc with
  | true =>
    simp only [hw, if_true]
    left
    unfold Oper.wp
    rw [run_call hk hc (hq rfl) hf]
    refine (hv rfl w0 E w hm).mono ?_
    rintro e w' ⟨rfl, hm'⟩
    simp only [hd]
    exact ⟨hm'.sub hR hsub, h _ _ (by simpa using hput) hm'⟩
  | false =>
    simp only [hw, Bool.false_eq_true, if_false, hd]
    exact ⟨hm.sub hR hsub, h _ _ (by simpa using hput) hm⟩
theorem Yl.off {v : Value} (h : pc = false) : Yl P n env w0 R E o pc v := fun _ _ _ _ hp => by rw [h] at hp; cases hp
end
end Go.Proofs.Ytolmmfphdieilaa.K

/- Any valid curve: what the references make of it. No condition. -/
set_option linter.unusedSimpArgs false
set_option linter.unusedVariables false
namespace Go.Proofs.Ytolmmfphdieilaa
open Go Go.RowKit Go.Proofs.Ytolmmfphdieilaa.K Go.Proofs.Ytolmmfphdieilaa.M

end Go.Proofs.Ytolmmfphdieilaa

/- Chapter 19: runs of weighted round robin. No condition. -/
set_option linter.unusedSimpArgs false
set_option linter.unusedVariables false
namespace Go.Proofs.Ytolmmfphdieilaa
open Go Go.RowKit Go.Proofs.Ytolmmfphdieilaa.K Go.Proofs.Ytolmmfphdieilaa.M

end Go.Proofs.Ytolmmfphdieilaa

/- Chapter 19: the curve. No condition. -/
set_option linter.unusedSimpArgs false
set_option linter.unusedVariables false
namespace Go.Proofs.Ytolmmfphdieilaa
open Go Go.RowKit Go.Proofs.Ytolmmfphdieilaa.K Go.Proofs.Ytolmmfphdieilaa.M

end Go.Proofs.Ytolmmfphdieilaa

/- Chapter 19: what its laws use. No condition. -/
set_option linter.unusedSimpArgs false
set_option linter.unusedVariables false
namespace Go.Proofs.Ytolmmfphdieilaa
open Go Go.RowKit Go.Proofs.Ytolmmfphdieilaa.K Go.Proofs.Ytolmmfphdieilaa.M

def wgtF (hi : Int) (xs : List Int) (c : Nat) (i : Nat) : Int := 1 + mod (nth xs (c + i)) hi
end Go.Proofs.Ytolmmfphdieilaa

/- Sizes of a trace. No condition. -/
set_option linter.unusedSimpArgs false
set_option linter.unusedVariables false
namespace Go.Proofs.Ytolmmfphdieilaa
open Go Go.RowKit Go.Proofs.Ytolmmfphdieilaa.K Go.Proofs.Ytolmmfphdieilaa.M

def szPre (z : List Sz) (p : Pkt) : List Sz := if (nth z p.flow.toNat).most = 0 then z.set p.flow.toNat ⟨p.size, p.size⟩ else z
def szPut (z1 : List Sz) (p : Pkt) : List Sz := z1.set p.flow.toNat ⟨(if p.size < (nth z1 p.flow.toNat).least then p.size else (nth z1 p.flow.toNat).least), (if (nth z1 p.flow.toNat).most < p.size then p.size else (nth z1 p.flow.toNat).most)⟩
def szAdd (n : Nat) (z : List Sz) (p : Pkt) : List Sz := if p.flow < 0 ∨ p.flow ≥ (n : Int) then z else szPut (szPre z p) p
def sizesL (n : Nat) (ps : List Pkt) : List Sz := ps.foldl (szAdd n) (List.replicate n ⟨0, 0⟩)
end Go.Proofs.Ytolmmfphdieilaa

/- Reference 04: a curve that is never above another. No condition. -/
set_option linter.unusedSimpArgs false
set_option linter.unusedVariables false
namespace Go.Proofs.Ytolmmfphdieilaa
open Go Go.RowKit Go.Proofs.Ytolmmfphdieilaa.K Go.Proofs.Ytolmmfphdieilaa.M

end Go.Proofs.Ytolmmfphdieilaa

/- Priorities, plain: the choice of the program and of the reference. No condition. -/
namespace Go.Proofs.Ytolmmfphdieilaa.M
open Go Go.Proofs.Ytolmmfphdieilaa.K

/-- the first class from c on in which something waits -/
def prioFrom (nx : Int → Int) : Nat → Nat → Int
  | 0, _ => -1
  | k + 1, c => if 0 ≤ nx c then nx c else prioFrom nx k (c + 1)
def prioCh (ps : List Pkt) (n : Nat) (ms : MS) (_ : Unit) : Int × Nat × Unit := (prioFrom (nextW ps ms) n 0, skipTo ms.begun ms.before, ())
def prioRc (ps : List Pkt) (n : Nat) (_ : Int) (st : St) (_ : Unit) : Int × Unit := (prioFrom (firstW ps st) n 0, ())
section
variable {ps : List Pkt} {n : Nat}
/-- before which packet all have been begun, when so many classes have been looked at -/
def bfN (ms : MS) (c : Nat) : Nat := if c = 0 then ms.before else skipTo ms.begun ms.before
end
end Go.Proofs.Ytolmmfphdieilaa.M

/- Priorities, plain: what a class is served. No condition. -/
namespace Go.Proofs.Ytolmmfphdieilaa.M
open Go Go.Proofs.Ytolmmfphdieilaa.K

section
variable {ps : List Pkt} {n k : Nat}
/-- what is open of a lesser class -/
def lowR (ps : List Pkt) (k : Nat) (s : RS Unit) : Int := if 0 ≤ s.cur ∧ (k : Int) < (nth ps s.cur.toNat).flow then s.rest else 0
end
end Go.Proofs.Ytolmmfphdieilaa.M

/- Deficit round robin, plain: greater quanta and packets of others leave less. No condition. -/
namespace Go.Proofs.Ytolmmfphdieilaa.M
open Go Go.Proofs.Ytolmmfphdieilaa.K

end Go.Proofs.Ytolmmfphdieilaa.M

/- Priorities, plain: the curve of a class. No condition. -/
namespace Go.Proofs.Ytolmmfphdieilaa.M
open Go Go.Proofs.Ytolmmfphdieilaa.K

/-- what may block a class -/
def blkF (cls : Int) (z : List Sz) (i : Nat) : Int := (nth (z.drop (cls + 1).toNat) i).most - 1
def blkN (cls : Int) (z : List Sz) : Int := mostF (blkF cls z) (z.length - (cls + 1).toNat)
def allV (ls : List Cv) : Bool := ls.all fun c => validB c
def midC (tot : Cv × Int) (k : Int) : Cv × Int := if tot.2 = 0 then raiseC tot.1 k else tot
def prioC (cap cls : Int) (ls : List Cv) (z : List Sz) : Cv × Int :=
  if chk18 cap cls z ≠ 0 then (zcv, chk18 cap cls z)
  else if ls.length ≠ z.length then (zcv, 2)
  else if allV ls = false then (zcv, 1)
  else if (midC (totalC (ls.take cls.toNat)) (blkN cls z)).2 ≠ 0 then (zcv, (midC (totalC (ls.take cls.toNat)) (blkN cls z)).2)
  else restC cap (midC (totalC (ls.take cls.toNat)) (blkN cls z)).1
end Go.Proofs.Ytolmmfphdieilaa.M

/- Priorities, plain: the curve of a class is what it is served. No condition. -/
namespace Go.Proofs.Ytolmmfphdieilaa.M
open Go Go.Proofs.Ytolmmfphdieilaa.K

instance instCv : Inhabited Cv := ⟨zcv⟩
end Go.Proofs.Ytolmmfphdieilaa.M

/- Small curves that the statements make, plain. No condition. -/
namespace Go.Proofs.Ytolmmfphdieilaa.M
open Go Go.Proofs.Ytolmmfphdieilaa.K

/-- small -/
structure SmallC (c : Cv) : Prop where
  valid : validB c = true
  len : c.vals.length ≤ 40
  per : c.per ≤ 8
  inc : c.inc ≤ 1000
  vals : ∀ x ∈ c.vals, x = INF ∨ x ≤ 1000
/-- values that are made one by one -/
def upV (xs : List Int) (c : Nat) (v : Int) : Nat → Int
  | 0 => v
  | i + 1 => upV xs c v i + nth ([0, 0, 1, 2, 5, 9] : List Int) (mod (nth xs (c + i)) ((6 : Nat) : Int)).toNat
end Go.Proofs.Ytolmmfphdieilaa.M

/- Two valid curves in normal form. No condition. -/
set_option linter.unusedSimpArgs false
set_option linter.unusedVariables false
namespace Go.Proofs.Ytolmmfphdieilaa
open Go Go.RowKit Go.Proofs.Ytolmmfphdieilaa.K Go.Proofs.Ytolmmfphdieilaa.M

end Go.Proofs.Ytolmmfphdieilaa

/- Finite curves: where a value is reached; the greatest distance. No condition. -/
set_option linter.unusedSimpArgs false
set_option linter.unusedVariables false
namespace Go.Proofs.Ytolmmfphdieilaa
open Go Go.RowKit Go.Proofs.Ytolmmfphdieilaa.K Go.Proofs.Ytolmmfphdieilaa.M

theorem ReachF_V {R : Ro} {fa : Option Addr} {fc : Nat} {F : Nat → Int} {S P : Nat} {I : Int} (hf : FC F S P I) (ha : RS R 1 encI fa (fvals F (S + P))) {v : Int} (hv : 0 ≤ v ∧ v ≤ 1000000000000000) : FnV Try.prog 89 [.agg #[.slice fa (fvals F (S + P)).length fc, .int .i64 (P : Int), .int .i64 I], .int .i64 v] R (.tuple #[.int .i64 (reachF F S P I v).1, .bool (reachF F S P I v).2]) := by
  have hfl := fvals_len F (S + P)
  have hP := hf.hP
  have hn := hf.hn
  have hI := hf.hI
  refine Fn.toV (fun w0 E => ?_)
  refine Fn.enter (n := 66) Try.func89 rfl rfl (Nat.le_of_ble_eq_true rfl) rfl ?_
  refine W.seq ?_
  refine W.region _ ?_
  refine WL.ef rfl rfl (by decide) (Ef.box rfl rfl (fun b2 => ?_))
  refine WG.run tab_ok 2 rfl ?_
  refine WG.nil ?_
  refine WE.nxt ?_
  refine W.seq ?_
  refine W.seq ?_
  refine W.region _ ?_
  refine WG.run tab_ok 1 rfl ?_
  refine' WG.y rfl rfl (by decide) (Yl.load1 tab_ok rfl rfl rfl (fun _ => rfl) ?r1 rfl ?h1) ?_
  case r1 => apply Rd.add; (first | exact Rd.blk 0 rfl | exact Rd.blk 1 rfl)
  case h1 => rfl
  refine WG.run tab_ok 2 rfl ?_
  refine WG.nil ?_
  refine WE.nxt ?_
  refine W.block ?_
  refine W.loopK (β := Nat) (fun t => t ≤ S + P ∧ ∀ j, j < t → F j < v) (fun t => [(15, true, .int .i64 (t : Int))]) [1, 2, 13, 14] [_, _, _, _] [] _ rfl (fun t => []) (fun t => S + P - t) (0) (⟨Nat.zero_le _, fun j hj => by omega⟩) ⟨rfl, rfl, rfl, rfl, rfl, rfl⟩ qS ?_
  intro t hst
  dsimp only [zipE, setAll, List.cons_append, List.nil_append, List.set_cons_zero, List.set_cons_succ] at hst ⊢
  obtain ⟨ht, hno⟩ := hst
  refine W.seq ?_
  refine W.region _ ?_
  refine WG.run tab_ok 1 rfl ?_
  refine WG.nil ?_
  refine WE.nxt ?_
  refine W.seq ?_
  refine W.condD rfl (fun hc0 => ?_) (fun hc0 => ?_)
  · try dsimp only at hc0
    have htl : t < S + P := by omega
    have hft := fvals_nth F htl
    refine W.skip ?_
    refine WE.nxt ?_
    refine W.seq ?_
    refine W.block ?_
    refine W.seq ?_
    refine W.region _ ?_
    refine WG.run tab_ok 1 rfl ?_
    refine WG.y rfl rfl (by decide) (Yl.indexN tab_ok rfl rfl rfl rfl rfl rfl (fun _ => rfl) (by intro _; (try dsimp only) <;> omega) (by intro _; first | exact fun _ _ _ _ => rfl | exact RS.has (by assumption) | exact fun _ _ _ _ => (by assumption) | exact HasMem.ownD 0 rfl | exact HasMem.ownD 1 rfl)) ?_
    refine' WG.y rfl rfl (by decide) (Yl.load1 tab_ok rfl rfl rfl (fun _ => rfl) ?r2 rfl ?h2) ?_
    case r2 => (first | (apply RS.rdD; assumption; ((try dsimp only) <;> omega)) | exact Rd.slD 0 rfl (by (try dsimp only) <;> omega) | exact Rd.slD 1 rfl (by (try dsimp only) <;> omega))
    case h2 => rfl
    refine WG.run tab_ok 2 rfl ?_
    refine WG.nil ?_
    refine WE.nxt ?_
    refine W.seq ?_
    refine W.region _ ?_
    refine WG.run tab_ok 3 rfl ?_
    refine WG.nil ?_
    refine WE.nxt ?_
    refine W.condD rfl (fun hc1 => ?_) (fun hc1 => ?_)
    · try dsimp only at hc1
      have hff : findFrom (fun t => decide (F t ≥ v)) (S + P) 0 = t := findFrom_some (Nat.zero_le _) (by omega) (decide_eq_true (by rw [← hft]; exact hc1)) (fun j _ hj => decide_eq_false (by have := hno j hj; omega))
      have hr : reachF F S P I v = ((t : Int), true) := by unfold reachF; rw [hff, if_pos (by omega)]
      refine W.seq ?_
      refine W.region _ ?_
      refine WG.run tab_ok 3 rfl ?_
      refine WG.nil ?_
      refine WE.nxt ?_
      refine W.ret ?_
      refine WE.blk_ret ?_
      refine WE.then_ret ?_
      refine WE.then_ret ?_
      refine WE.blk_ret ?_
      refine WE.then_ret ?_
      refine WE.subE (E' := E) qS ?_
      refine WE.retF tab_ok [_, _] rfl ⟨rfl, rfl, trivial⟩ (RLe.refl _) ?_
      exact ⟨by rw [hr]; rfl, rfl⟩
    · try dsimp only at hc1
      refine W.skip ?_
      refine WE.blk _ ?_
      refine WE.nxt ?_
      refine W.region _ ?_
      refine WG.y rfl rfl (by decide) (Yl.add rfl rfl rfl (fun _ => rfl) (by intro _; constructor <;> (try dsimp only) <;> omega)) ?_
      refine WG.run tab_ok 1 rfl ?_
      refine WG.nil ?_
      refine WE.again (t + 1) (⟨by omega, fun j hj => by
        by_cases e : j = t
        · subst e; rw [← hft]; omega
        · exact hno j (by omega)⟩) (by (try dsimp only); omega) ⟨rfl, rfl, rfl, rfl, rfl, rfl⟩ (RLe.refl _) qS
  · try dsimp only at hc0
    obtain rfl : t = S + P := by omega
    have hff : findFrom (fun t => decide (F t ≥ v)) (S + P) 0 = -1 := findFrom_none (fun j _ hj => decide_eq_false (by have := hno j (by omega); omega))
    have hlast := hno (S + P - 1) (by omega)
    have hvl : nth (fvals F (S + P)) ((((fvals F (S + P)).length : Int) - 1).toNat) = F (S + P - 1) := by rw [show (((fvals F (S + P)).length : Int) - 1).toNat = S + P - 1 by omega, fvals_nth F (by omega)]
    have hlb := hf.hb (S + P - 1) (by omega)
    have hl0 := hf.nonneg (S + P - 1)
    refine W.exit ?_
    refine WE.then_exit ?_
    refine WE.then_exit ?_
    refine WE.blk_exit ?_
    refine WE.nxt ?_
    refine W.seq ?_
    refine W.regionQ _ mixed (by kernel_rfl) ?_
    refine WG.run tab_ok 1 rfl ?_
    refine' WG.y rfl rfl (by decide) (Yl.load1 tab_ok rfl rfl rfl (fun _ => rfl) ?r3 rfl ?h3) ?_
    case r3 => apply Rd.add; (first | exact Rd.blk 0 rfl | exact Rd.blk 1 rfl)
    case h3 => rfl
    refine WG.run tab_ok 2 rfl ?_
    refine' WG.y rfl rfl (by decide) (Yl.load1 tab_ok rfl rfl rfl (fun _ => rfl) ?r4 rfl ?h4) ?_
    case r4 => apply Rd.add; (first | exact Rd.blk 0 rfl | exact Rd.blk 1 rfl)
    case h4 => rfl
    refine WG.run tab_ok 2 rfl ?_
    refine WG.nil ?_
    refine WE.nxt ?_
    refine W.seq ?_
    refine W.seq ?_
    refine W.region _ ?_
    refine WG.run tab_ok 3 rfl ?_
    refine WG.y rfl rfl (by decide) (pureV_ok tab_ok rfl qE) ?_
    refine' WG.y rfl rfl (by decide) (Yl.loadG tab_ok rfl rfl rfl qE ?r5 rfl ?h5 ?g5) ?_
    case r5 => apply Rd.addC; (first | exact Rd.blkC 0 rfl | exact Rd.blkC 1 rfl)
    case h5 => rfl
    case g5 => first | exact fun _ => trivial | (intro hg; (try simp only [decide_eq_true_eq, decide_eq_false_iff_not, beq_iff_eq, bne_iff_ne, beq_eq_false_iff_ne, bne_eq_false_iff_eq, ne_eq, Bool.or_eq_true, Bool.or_eq_false_iff, Bool.and_eq_true, Bool.and_eq_false_imp, Bool.not_eq_true, Bool.not_eq_true', Bool.not_eq_false', Classical.not_not, Int.not_lt, Int.not_le, gt_iff_lt, ge_iff_le] at hg); (try dsimp only); omega)
    refine WG.y rfl rfl (by decide) (pureV_ok tab_ok rfl qE) ?_
    refine WG.y rfl rfl (by decide) (Yl.por rfl rfl rfl (fun _ => rfl) (by intro h1 h2; simp_all <;> omega)) ?_
    refine WG.nil ?_
    refine WE.nxt ?_
    refine W.cond rfl (fun hc2 => ?_) (fun hc2 => ?_)
    · try simp only [decide_eq_true_eq, decide_eq_false_iff_not, beq_iff_eq, bne_iff_ne, beq_eq_false_iff_ne, bne_eq_false_iff_eq, ne_eq, Bool.or_eq_true, Bool.or_eq_false_iff, Bool.and_eq_true, Bool.and_eq_false_imp, Bool.not_eq_true, Bool.not_eq_true', Bool.not_eq_false', Classical.not_not, Int.not_lt, Int.not_le, gt_iff_lt, ge_iff_le] at hc2
      have hI0 : I = 0 := by rcases hc2 with h | h; omega; exact h
      have hr : reachF F S P I v = (0, false) := by unfold reachF; rw [hff, if_neg (fun hh => hh rfl), if_pos hI0]
      refine W.seq ?_
      refine W.region _ ?_
      refine WG.run tab_ok 2 rfl ?_
      refine WG.nil ?_
      refine WE.nxt ?_
      refine W.ret ?_
      refine WE.then_ret ?_
      refine WE.subE (E' := E) qS ?_
      refine WE.retF tab_ok [_, _] rfl ⟨rfl, rfl, trivial⟩ (RLe.refl _) ?_
      exact ⟨by rw [hr]; rfl, rfl⟩
    · try simp only [decide_eq_true_eq, decide_eq_false_iff_not, beq_iff_eq, bne_iff_ne, beq_eq_false_iff_ne, bne_eq_false_iff_eq, ne_eq, Bool.or_eq_true, Bool.or_eq_false_iff, Bool.and_eq_true, Bool.and_eq_false_imp, Bool.not_eq_true, Bool.not_eq_true', Bool.not_eq_false', Classical.not_not, Int.not_lt, Int.not_le, gt_iff_lt, ge_iff_le] at hc2
      have hI0 : I ≠ 0 := by
        intro h
        apply Classical.byContradiction
        intro hn
        simp_all
      obtain ⟨g1, g2, g3, g4⟩ := reach_facts hf hI0 hlast
      obtain ⟨k, hk⟩ := Int.eq_ofNat_of_zero_le (show 0 ≤ (v - F (S + P - 1) + I - 1) / I by omega)
      have hkv : (k : Int) ≤ v + I := by
        have : (k : Int) * 1 ≤ (k : Int) * I := Int.mul_le_mul_of_nonneg_left (by omega) (by omega)
        rw [hk] at g2; omega
      have hr : reachF F S P I v = (findFrom (fun t => decide (F t ≥ v)) (P + 1) (S + P + (k - 1) * P), true) := by unfold reachF; rw [hff, if_neg (fun hh => hh rfl), if_neg hI0, hk, Int.toNat_natCast]
      rw [hk, Int.toNat_natCast] at g3
      rw [hk] at g1 g2 g4
      have hkP : ((k - 1) * P : Nat) ≤ 1100000000000000 * 120 := Nat.mul_le_mul (by omega) (by omega)
      have hkP2 : ((k : Int) - 1) * (P : Int) = (((k - 1) * P : Nat) : Int) := by rw [Int.natCast_mul, show ((k - 1 : Nat) : Int) = (k : Int) - 1 by omega]
      generalize ht0 : S + P + (k - 1) * P = t0 at hr g3
      refine W.skip ?_
      refine WE.nxt ?_
      refine W.seq ?_
      refine W.regionQ _ mixed (by kernel_rfl) ?_
      refine WG.run tab_ok 2 rfl ?_
      refine' WG.y rfl rfl (by decide) (Yl.load1 tab_ok rfl rfl rfl (fun _ => rfl) ?r6 rfl ?h6) ?_
      case r6 => apply Rd.add; (first | exact Rd.blk 0 rfl | exact Rd.blk 1 rfl)
      case h6 => rfl
      refine WG.run tab_ok 1 rfl ?_
      refine WG.y rfl rfl (by decide) (Yl.sub rfl rfl rfl (fun _ => rfl) (by intro _; constructor <;> (try dsimp only) <;> omega)) ?_
      refine WG.y rfl rfl (by decide) (Yl.index tab_ok rfl rfl rfl rfl rfl rfl (fun _ => rfl) (by intro _; constructor <;> (try dsimp only) <;> omega) (by intro _; first | exact fun _ _ _ _ => rfl | exact RS.has (by assumption) | exact fun _ _ _ _ => (by assumption) | exact HasMem.ownD 0 rfl | exact HasMem.ownD 1 rfl)) ?_
      refine' WG.y rfl rfl (by decide) (Yl.load1 tab_ok rfl rfl rfl (fun _ => rfl) ?r7 rfl ?h7) ?_
      case r7 => (first | (apply RS.rdD; assumption; ((try dsimp only) <;> omega)) | exact Rd.slD 0 rfl (by (try dsimp only) <;> omega) | exact Rd.slD 1 rfl (by (try dsimp only) <;> omega))
      case h7 => rfl
      rw [hvl]
      refine WG.y rfl rfl (by decide) (Yl.sub rfl rfl rfl (fun _ => rfl) (by intro _; constructor <;> (try dsimp only) <;> omega)) ?_
      refine WG.run tab_ok 1 rfl ?_
      refine' WG.y rfl rfl (by decide) (Yl.load1 tab_ok rfl rfl rfl (fun _ => rfl) ?r8 rfl ?h8) ?_
      case r8 => apply Rd.add; (first | exact Rd.blk 0 rfl | exact Rd.blk 1 rfl)
      case h8 => rfl
      refine WG.y rfl rfl (by decide) (Yl.add rfl rfl rfl (fun _ => rfl) (by intro _; constructor <;> (try dsimp only) <;> omega)) ?_
      refine WG.y rfl rfl (by decide) (Yl.sub rfl rfl rfl (fun _ => rfl) (by intro _; constructor <;> (try dsimp only) <;> omega)) ?_
      refine WG.run tab_ok 1 rfl ?_
      refine' WG.y rfl rfl (by decide) (Yl.load1 tab_ok rfl rfl rfl (fun _ => rfl) ?r9 rfl ?h9) ?_
      case r9 => apply Rd.add; (first | exact Rd.blk 0 rfl | exact Rd.blk 1 rfl)
      case h9 => rfl
      refine WG.y rfl rfl (by decide) (Yl.quo rfl rfl rfl (fun _ => rfl) (by intro _; constructor <;> (try dsimp only) <;> omega) (by intro _; omega)) ?_
      refine WG.run tab_ok 1 rfl ?_
      refine WG.nil ?_
      refine WE.nxt ?_
      rw [hk]
      refine W.seq ?_
      refine W.region _ ?_
      refine WG.run tab_ok 2 rfl ?_
      refine WG.y rfl rfl (by decide) (Yl.sub rfl rfl rfl (fun _ => rfl) (by intro _; constructor <;> (try dsimp only) <;> omega)) ?_
      refine WG.run tab_ok 1 rfl ?_
      refine WG.y rfl rfl (by decide) (Yl.mul rfl rfl rfl (fun _ => rfl) (by intro _; constructor <;> (try dsimp only) <;> omega)) ?_
      refine WG.y rfl rfl (by decide) (Yl.add rfl rfl rfl (fun _ => rfl) (by intro _; constructor <;> (try dsimp only) <;> omega)) ?_
      rw [hkP2, show (((fvals F (S + P)).length : Int)) + (((k - 1) * P : Nat) : Int) = (t0 : Int) by omega]
      refine WG.run tab_ok 1 rfl ?_
      refine WG.nil ?_
      refine WE.nxt ?_
      refine W.seq ?_
      refine W.block ?_
      refine W.loopK (β := Nat) (fun t => t0 ≤ t ∧ t ≤ t0 + (P - 1) ∧ ∀ j, t0 ≤ j → j < t → F j < v) (fun t => [(11, true, .int .i64 (t : Int))]) [1, 2] [_, _] [] _ rfl (fun t => []) (fun t => t0 + P - t) (t0) (⟨Nat.le_refl _, by omega, fun j a b => by omega⟩) ⟨rfl, rfl, rfl, rfl⟩ qS ?_
      intro t hst
      dsimp only [zipE, setAll, List.cons_append, List.nil_append, List.set_cons_zero, List.set_cons_succ] at hst ⊢
      obtain ⟨ht1, ht2, hno2⟩ := hst
      have hmt := hf.mono ht2
      have hbt : F t ≤ v + 1073741824 := by omega
      refine W.seq ?_
      refine W.seq ?_
      refine W.region _ ?_
      refine' WG.y rfl rfl (by decide) (Yl.load1 tab_ok rfl rfl rfl (fun _ => rfl) ?r10 rfl ?h10) ?_
      case r10 => (first | exact Rd.blk 0 rfl | exact Rd.blk 1 rfl)
      case h10 => rfl
      refine WG.run tab_ok 1 rfl ?_
      refine WG.callV en68 rfl rfl (by decide) (CallOp.mk' rfl rfl rfl rfl) (fun _ => rfl) (fun hg => WAt_V hf ha (by omega) (by omega)) ?_
      refine WG.run tab_ok 2 rfl ?_
      refine WG.nil ?_
      refine WE.nxt ?_
      refine W.condD rfl (fun hc3 => ?_) (fun hc3 => ?_)
      · try dsimp only at hc3
        refine W.skip ?_
        refine WE.nxt ?_
        refine W.block ?_
        refine W.region _ ?_
        refine WG.run tab_ok 1 rfl ?_
        refine WG.y rfl rfl (by decide) (Yl.add rfl rfl rfl (fun _ => rfl) (by intro _; constructor <;> (try dsimp only) <;> omega)) ?_
        refine WG.run tab_ok 1 rfl ?_
        refine WG.nil ?_
        refine WE.blk _ ?_
        refine WE.again (t + 1) (⟨by omega, by
          apply Classical.byContradiction
          intro hn
          have e : t = t0 + (P - 1) := by omega
          rw [e, g3] at hc3
          omega, fun j a b => by
          by_cases e : j = t
          · subst e; exact hc3
          · exact hno2 j a (by omega)⟩) (by (try dsimp only); omega) ⟨rfl, rfl, rfl, rfl⟩ (RLe.refl _) qS
      · try dsimp only at hc3
        have hff2 : findFrom (fun t => decide (F t ≥ v)) (P + 1) t0 = t := findFrom_some ht1 (by omega) (decide_eq_true (by omega)) (fun j a b => decide_eq_false (by have := hno2 j a b; omega))
        rw [hff2] at hr
        refine W.exit ?_
        refine WE.then_exit ?_
        refine WE.then_exit ?_
        refine WE.blk_exit ?_
        refine WE.nxt ?_
        refine W.seq ?_
        refine W.region _ ?_
        refine WG.run tab_ok 3 rfl ?_
        refine WG.nil ?_
        refine WE.nxt ?_
        refine W.ret ?_
        refine WE.subE (E' := E) qS ?_
        refine WE.retF tab_ok [_, _] rfl ⟨rfl, rfl, trivial⟩ (RLe.refl _) ?_
        exact ⟨by rw [hr]; rfl, rfl⟩

theorem Greatest_V {R : Ro} {g : FuncId} {fi ca : Array Value} {f : Nat → Int × Bool} {n : Nat} (hE : Enters Try.prog g) (hF : ∀ t : Nat, t < n → FnV Try.prog g (fi.toList ++ [.int .i64 (t : Int)] ++ ca.toList) R (.tuple #[.int .i64 (f t).1, .bool (f t).2])) (hn : n ≤ 1000000) : FnV Try.prog 87 [.int .i64 (n : Int), .func (.func g) fi ca] R (.agg #[.bool (greatW f n 0 0 0).1, .int .i64 (greatW f n 0 0 0).2.1, .int .i64 (greatW f n 0 0 0).2.2]) := by
  refine Fn.toVS (fun w0 E => ?_)
  refine Fn.enter (n := 32) Try.func87 rfl rfl (Nat.le_of_ble_eq_true rfl) rfl ?_
  refine W.seq ?_
  refine W.region _ ?_
  refine WL.ef rfl rfl (by decide) (Ef.alloc tab_ok rfl rfl (fun b4 => ?_))
  refine WG.nil ?_
  refine WE.nxt ?_
  refine W.seq ?_
  refine W.region _ ?_
  refine WL.ef rfl rfl (by decide) (Ef.alloc tab_ok rfl rfl (fun b5 => ?_))
  refine WG.nil ?_
  refine WE.nxt ?_
  refine W.seq ?_
  refine W.seq ?_
  refine W.region _ ?_
  refine WG.run tab_ok 2 rfl ?_
  refine WG.nil ?_
  refine WE.nxt ?_
  refine W.block ?_
  refine W.loopK (β := Nat × Int × Int) (fun (t, v, a) => t ≤ n ∧ greatW f (n - t) t v a = greatW f n 0 0 0) (fun (t, v, a) => [(10, true, .int .i64 (t : Int))]) [1, 4, 5, 9] [_, _, _, _] [] _ rfl (fun (t, v, a) => [(0, .blk b5 [.bool false, .int .i64 v, .int .i64 a])]) (fun (t, v, a) => n - t) ((0, 0, 0)) (⟨Nat.zero_le _, by rfl⟩) ⟨rfl, rfl, rfl, rfl, rfl, rfl⟩ qS ?_
  intro st hst
  obtain ⟨t, v, a⟩ := st
  dsimp only [zipE, setAll, List.cons_append, List.nil_append, List.set_cons_zero, List.set_cons_succ] at hst ⊢
  obtain ⟨ht, hg⟩ := hst
  refine W.seq ?_
  refine W.region _ ?_
  refine WG.run tab_ok 1 rfl ?_
  refine WG.nil ?_
  refine WE.nxt ?_
  refine W.seq ?_
  refine W.condD rfl (fun hc0 => ?_) (fun hc0 => ?_)
  · try dsimp only at hc0
    have htl : t < n := by omega
    obtain ⟨m, hm⟩ : ∃ m, n - t = m + 1 := ⟨n - t - 1, by omega⟩
    have hm2 : n - (t + 1) = m := by omega
    rw [hm, greatW] at hg
    refine W.skip ?_
    refine WE.nxt ?_
    refine W.seq ?_
    refine W.block ?_
    refine W.seq ?_
    refine W.region _ ?_
    refine WG.run tab_ok 2 rfl ?_
    refine WG.nil ?_
    refine WE.nxt ?_
    refine W.seq ?_
    refine W.region _ ?_
    refine WG.run tab_ok 2 rfl ?_
    refine WG.callV (v := .tuple #[.int .i64 (f t).1, .bool (f t).2]) hE rfl rfl (by decide) (CallOp.mk' rfl rfl rfl rfl) (fun _ => rfl) (fun hg => hF t htl) ?_
    refine WG.run tab_ok 5 rfl ?_
    refine WG.nil ?_
    refine WE.nxt ?_
    refine W.seq ?_
    refine W.seq ?_
    refine W.region _ ?_
    refine WG.run tab_ok 2 rfl ?_
    refine WG.nil ?_
    refine WE.nxt ?_
    refine W.cond rfl (fun hc1 => ?_) (fun hc1 => ?_)
    · try simp only [decide_eq_true_eq, decide_eq_false_iff_not, beq_iff_eq, bne_iff_ne, beq_eq_false_iff_ne, bne_eq_false_iff_eq, ne_eq, Bool.or_eq_true, Bool.or_eq_false_iff, Bool.and_eq_true, Bool.and_eq_false_imp, Bool.not_eq_true, Bool.not_eq_true', Bool.not_eq_false', Classical.not_not, Int.not_lt, Int.not_le, gt_iff_lt, ge_iff_le] at hc1
      have hok : (f t).2 = false := by simpa using hc1
      rw [if_pos hok] at hg
      refine W.seq ?_
      refine W.region _ ?_
      -- build
      refine WG.y rfl rfl (by decide) (Yl.build (parts := [(0, .const (.bool true))]) tab_ok rfl rfl rfl rfl (fun _ => rfl) rfl rfl) ?_
      first | refine WL.efN rfl rfl (Ef.store0 0 tab_ok rfl rfl rfl rfl rfl rfl rfl rfl ?_) | refine WL.efN rfl rfl (Ef.store0 1 tab_ok rfl rfl rfl rfl rfl rfl rfl rfl ?_) | refine WL.efN rfl rfl (Ef.store0 2 tab_ok rfl rfl rfl rfl rfl rfl rfl rfl ?_)
      refine WG.nil ?_
      refine WE.nxt ?_
      refine W.ret ?_
      refine WE.then_ret ?_
      refine WE.blk_ret ?_
      refine WE.then_ret ?_
      refine WE.then_ret ?_
      refine WE.blk_ret ?_
      refine WE.then_ret ?_
      refine WE.retF tab_ok [_] rfl ⟨⟨_, _, _, rfl, rfl, rfl, ((by first | exact Rd.blk 0 rfl | exact Rd.blk 1 rfl | exact Rd.blk 2 rfl)), rfl⟩, trivial⟩ (RLe.refl _) ?_
      exact ⟨by rw [← hg]; rfl, qS⟩
    · try simp only [decide_eq_true_eq, decide_eq_false_iff_not, beq_iff_eq, bne_iff_ne, beq_eq_false_iff_ne, bne_eq_false_iff_eq, ne_eq, Bool.or_eq_true, Bool.or_eq_false_iff, Bool.and_eq_true, Bool.and_eq_false_imp, Bool.not_eq_true, Bool.not_eq_true', Bool.not_eq_false', Classical.not_not, Int.not_lt, Int.not_le, gt_iff_lt, ge_iff_le] at hc1
      have hok : ¬ (f t).2 = false := by simpa using hc1
      rw [if_neg hok] at hg
      refine W.skip ?_
      refine WE.nxt ?_
      refine W.seq ?_
      refine W.region _ ?_
      refine WG.run tab_ok 2 rfl ?_
      refine' WG.y rfl rfl (by decide) (Yl.load1 tab_ok rfl rfl rfl (fun _ => rfl) ?r1 rfl ?h1) ?_
      case r1 => apply Rd.add; (first | exact Rd.blk 0 rfl | exact Rd.blk 1 rfl | exact Rd.blk 2 rfl)
      case h1 => rfl
      refine WG.run tab_ok 1 rfl ?_
      refine WG.nil ?_
      refine WE.nxt ?_
      refine W.condD rfl (fun hc2 => ?_) (fun hc2 => ?_)
      · try dsimp only at hc2
        rw [if_pos hc2, ← hm2] at hg
        refine W.region _ ?_
        refine WG.run tab_ok 3 rfl ?_
        first | refine WL.efN rfl rfl (Ef.store 0 tab_ok rfl rfl rfl rfl rfl rfl rfl rfl ?_) | refine WL.efN rfl rfl (Ef.store 1 tab_ok rfl rfl rfl rfl rfl rfl rfl rfl ?_) | refine WL.efN rfl rfl (Ef.store 2 tab_ok rfl rfl rfl rfl rfl rfl rfl rfl ?_)
        refine WG.run tab_ok 1 rfl ?_
        first | refine WL.efN rfl rfl (Ef.store 0 tab_ok rfl rfl rfl rfl rfl rfl rfl rfl ?_) | refine WL.efN rfl rfl (Ef.store 1 tab_ok rfl rfl rfl rfl rfl rfl rfl rfl ?_) | refine WL.efN rfl rfl (Ef.store 2 tab_ok rfl rfl rfl rfl rfl rfl rfl rfl ?_)
        refine WG.nil ?_
        refine WE.blk _ ?_
        refine WE.nxt ?_
        refine W.region _ ?_
        refine WG.y rfl rfl (by decide) (Yl.add rfl rfl rfl (fun _ => rfl) (by intro _; constructor <;> (try dsimp only) <;> omega)) ?_
        refine WG.run tab_ok 1 rfl ?_
        refine WG.nil ?_
        refine WE.again ((t + 1, (f t).1, t)) (⟨by dsimp only; omega, hg⟩) (by (try dsimp only); omega) ⟨rfl, rfl, rfl, rfl, rfl, rfl⟩ (RLe.refl _) qS
      · try dsimp only at hc2
        rw [if_neg (by omega), ← hm2] at hg
        refine W.skip ?_
        refine WE.blk _ ?_
        refine WE.nxt ?_
        refine W.region _ ?_
        refine WG.y rfl rfl (by decide) (Yl.add rfl rfl rfl (fun _ => rfl) (by intro _; constructor <;> (try dsimp only) <;> omega)) ?_
        refine WG.run tab_ok 1 rfl ?_
        refine WG.nil ?_
        refine WE.again ((t + 1, v, a)) (⟨by dsimp only; omega, hg⟩) (by (try dsimp only); omega) ⟨rfl, rfl, rfl, rfl, rfl, rfl⟩ (RLe.refl _) qS
  · try dsimp only at hc0
    obtain rfl : t = n := by omega
    rw [Nat.sub_self, greatW] at hg
    refine W.exit ?_
    refine WE.then_exit ?_
    refine WE.then_exit ?_
    refine WE.blk_exit ?_
    refine WE.nxt ?_
    refine W.seq ?_
    refine W.region _ ?_
    refine' WG.y rfl rfl (by decide) (Yl.load1 tab_ok rfl rfl rfl (fun _ => rfl) ?r2 rfl ?h2) ?_
    case r2 => (first | exact Rd.blk 0 rfl | exact Rd.blk 1 rfl | exact Rd.blk 2 rfl)
    case h2 => rfl
    first | refine WL.efN rfl rfl (Ef.store0 0 tab_ok rfl rfl rfl rfl rfl rfl rfl rfl ?_) | refine WL.efN rfl rfl (Ef.store0 1 tab_ok rfl rfl rfl rfl rfl rfl rfl rfl ?_) | refine WL.efN rfl rfl (Ef.store0 2 tab_ok rfl rfl rfl rfl rfl rfl rfl rfl ?_)
    refine WG.nil ?_
    refine WE.nxt ?_
    refine W.ret ?_
    refine WE.retF tab_ok [_] rfl ⟨⟨_, _, _, rfl, rfl, rfl, ((by first | exact Rd.blk 0 rfl | exact Rd.blk 1 rfl | exact Rd.blk 2 rfl)), rfl⟩, trivial⟩ (RLe.refl _) ?_
    exact ⟨by rw [← hg]; rfl, qS⟩

end Go.Proofs.Ytolmmfphdieilaa

/- Two finite curves in normal form. No condition. -/
set_option linter.unusedSimpArgs false
set_option linter.unusedVariables false
namespace Go.Proofs.Ytolmmfphdieilaa
open Go Go.RowKit Go.Proofs.Ytolmmfphdieilaa.K Go.Proofs.Ytolmmfphdieilaa.M

end Go.Proofs.Ytolmmfphdieilaa

/- Delays and backlogs of any two valid curves. No condition. -/
set_option linter.unusedSimpArgs false
set_option linter.unusedVariables false
namespace Go.Proofs.Ytolmmfphdieilaa
open Go Go.RowKit Go.Proofs.Ytolmmfphdieilaa.K Go.Proofs.Ytolmmfphdieilaa.M

theorem ReachI_V {R : Ro} {fa : Option Addr} {fc : Nat} {c : Cv} (hv : validB c = true) (ha : RS R 1 encI fa c.vals) {v : Int} (hx : (v = 4611686018427387904 ∧ finB c = true) ∨ (finB c = false ∧ 0 ≤ v ∧ v ≤ 4611686018427387904)) : FnV Try.prog 89 [.agg #[.slice fa c.vals.length fc, .int .i64 c.per, .int .i64 c.inc], .int .i64 v] R (.tuple #[.int .i64 (reachG c v).1, .bool (reachG c v).2]) := by
  refine Fn.toV (fun w0 E => ?_)
  obtain ⟨hr1, hr2, hr3, hr4, hr5, hr6, hr7, hr8⟩ := valid_range hv
  refine Fn.enter (n := 66) Try.func89 rfl rfl (Nat.le_of_ble_eq_true rfl) rfl ?_
  refine W.seq ?_
  refine W.region _ ?_
  refine WL.ef rfl rfl (by decide) (Ef.box rfl rfl (fun b2 => ?_))
  refine WG.run tab_ok 2 rfl ?_
  refine WG.nil ?_
  refine WE.nxt ?_
  refine W.seq ?_
  refine W.seq ?_
  refine W.region _ ?_
  refine WG.run tab_ok 1 rfl ?_
  refine' WG.y rfl rfl (by decide) (Yl.load1 tab_ok rfl rfl rfl (fun _ => rfl) ?r1 rfl ?h1) ?_
  case r1 => apply Rd.add; (first | exact Rd.blk 0 rfl | exact Rd.blk 1 rfl)
  case h1 => rfl
  refine WG.run tab_ok 2 rfl ?_
  refine WG.nil ?_
  refine WE.nxt ?_
  refine W.block ?_
  refine W.loopK (β := Nat) (fun t => t ≤ c.vals.length ∧ ∀ j, j < t → cvF c j < v) (fun t => [(15, true, .int .i64 (t : Int))]) [1, 2, 13, 14] [_, _, _, _] [] _ rfl (fun t => []) (fun t => c.vals.length - t) (0) (⟨Nat.zero_le _, fun j hj => by omega⟩) ⟨rfl, rfl, rfl, rfl, rfl, rfl⟩ qS ?_
  intro t hst
  dsimp only [zipE, setAll, List.cons_append, List.nil_append, List.set_cons_zero, List.set_cons_succ] at hst ⊢
  obtain ⟨ht, hno⟩ := hst
  refine W.seq ?_
  refine W.region _ ?_
  refine WG.run tab_ok 1 rfl ?_
  refine WG.nil ?_
  refine WE.nxt ?_
  refine W.seq ?_
  refine W.condD rfl (fun hc0 => ?_) (fun hc0 => ?_)
  · try dsimp only at hc0
    have htl : t < c.vals.length := by omega
    have hft := cvF_low htl
    refine W.skip ?_
    refine WE.nxt ?_
    refine W.seq ?_
    refine W.block ?_
    refine W.seq ?_
    refine W.region _ ?_
    refine WG.run tab_ok 1 rfl ?_
    refine WG.y rfl rfl (by decide) (Yl.indexN tab_ok rfl rfl rfl rfl rfl rfl (fun _ => rfl) (by intro _; (try dsimp only) <;> omega) (by intro _; first | exact fun _ _ _ _ => rfl | exact RS.has (by assumption) | exact fun _ _ _ _ => (by assumption) | exact HasMem.ownD 0 rfl | exact HasMem.ownD 1 rfl)) ?_
    refine' WG.y rfl rfl (by decide) (Yl.load1 tab_ok rfl rfl rfl (fun _ => rfl) ?r2 rfl ?h2) ?_
    case r2 => (first | (apply RS.rdD; assumption; ((try dsimp only) <;> omega)) | exact Rd.slD 0 rfl (by (try dsimp only) <;> omega) | exact Rd.slD 1 rfl (by (try dsimp only) <;> omega))
    case h2 => rfl
    refine WG.run tab_ok 2 rfl ?_
    refine WG.nil ?_
    refine WE.nxt ?_
    refine W.seq ?_
    refine W.region _ ?_
    refine WG.run tab_ok 3 rfl ?_
    refine WG.nil ?_
    refine WE.nxt ?_
    refine W.condD rfl (fun hc1 => ?_) (fun hc1 => ?_)
    · try dsimp only at hc1
      have hff : findFrom (fun t => decide (cvF c t ≥ v)) c.vals.length 0 = t := findFrom_some (Nat.zero_le _) (by omega) (decide_eq_true (by rw [hft]; exact hc1)) (fun j _ hj => decide_eq_false (by have := hno j hj; omega))
      have hr : reachG c v = ((t : Int), true) := by unfold reachG; rw [hff, if_pos (by omega)]
      refine W.seq ?_
      refine W.region _ ?_
      refine WG.run tab_ok 3 rfl ?_
      refine WG.nil ?_
      refine WE.nxt ?_
      refine W.ret ?_
      refine WE.blk_ret ?_
      refine WE.then_ret ?_
      refine WE.then_ret ?_
      refine WE.blk_ret ?_
      refine WE.then_ret ?_
      refine WE.subE (E' := E) qS ?_
      refine WE.retF tab_ok [_, _] rfl ⟨rfl, rfl, trivial⟩ (RLe.refl _) ?_
      exact ⟨by rw [hr]; rfl, rfl⟩
    · try dsimp only at hc1
      refine W.skip ?_
      refine WE.blk _ ?_
      refine WE.nxt ?_
      refine W.region _ ?_
      refine WG.y rfl rfl (by decide) (Yl.add rfl rfl rfl (fun _ => rfl) (by intro _; constructor <;> (try dsimp only) <;> omega)) ?_
      refine WG.run tab_ok 1 rfl ?_
      refine WG.nil ?_
      refine WE.again (t + 1) (⟨by omega, fun j hj => by
        by_cases e : j = t
        · subst e; rw [hft]; omega
        · exact hno j (by omega)⟩) (by (try dsimp only); omega) ⟨rfl, rfl, rfl, rfl, rfl, rfl⟩ (RLe.refl _) qS
  · try dsimp only at hc0
    obtain rfl : t = c.vals.length := by omega
    have hff : findFrom (fun t => decide (cvF c t ≥ v)) c.vals.length 0 = -1 := findFrom_none (fun j _ hj => decide_eq_false (by have := hno j (by omega); omega))
    refine W.exit ?_
    refine WE.then_exit ?_
    refine WE.then_exit ?_
    refine WE.blk_exit ?_
    refine WE.nxt ?_
    refine W.seq ?_
    refine W.regionQ _ mixed (by kernel_rfl) ?_
    refine WG.run tab_ok 1 rfl ?_
    refine' WG.y rfl rfl (by decide) (Yl.load1 tab_ok rfl rfl rfl (fun _ => rfl) ?r3 rfl ?h3) ?_
    case r3 => apply Rd.add; (first | exact Rd.blk 0 rfl | exact Rd.blk 1 rfl)
    case h3 => rfl
    refine WG.run tab_ok 2 rfl ?_
    refine' WG.y rfl rfl (by decide) (Yl.load1 tab_ok rfl rfl rfl (fun _ => rfl) ?r4 rfl ?h4) ?_
    case r4 => apply Rd.add; (first | exact Rd.blk 0 rfl | exact Rd.blk 1 rfl)
    case h4 => rfl
    refine WG.run tab_ok 2 rfl ?_
    refine WG.nil ?_
    refine WE.nxt ?_
    refine W.seq ?_
    refine W.seq ?_
    refine W.region _ ?_
    refine WG.run tab_ok 3 rfl ?_
    refine WG.y rfl rfl (by decide) (pureV_ok tab_ok rfl qE) ?_
    refine' WG.y rfl rfl (by decide) (Yl.loadG tab_ok rfl rfl rfl qE ?r5 rfl ?h5 ?g5) ?_
    case r5 => apply Rd.addC; (first | exact Rd.blkC 0 rfl | exact Rd.blkC 1 rfl)
    case h5 => rfl
    case g5 => first | exact fun _ => trivial | (intro hg; (try simp only [decide_eq_true_eq, decide_eq_false_iff_not, beq_iff_eq, bne_iff_ne, beq_eq_false_iff_ne, bne_eq_false_iff_eq, ne_eq, Bool.or_eq_true, Bool.or_eq_false_iff, Bool.and_eq_true, Bool.and_eq_false_imp, Bool.not_eq_true, Bool.not_eq_true', Bool.not_eq_false', Classical.not_not, Int.not_lt, Int.not_le, gt_iff_lt, ge_iff_le] at hg); (try dsimp only); omega)
    refine WG.y rfl rfl (by decide) (pureV_ok tab_ok rfl qE) ?_
    refine WG.y rfl rfl (by decide) (Yl.por rfl rfl rfl (fun _ => rfl) (by intro h1 h2; simp_all <;> omega)) ?_
    refine WG.nil ?_
    refine WE.nxt ?_
    refine W.cond rfl (fun hc2 => ?_) (fun hc2 => ?_)
    · try simp only [decide_eq_true_eq, decide_eq_false_iff_not, beq_iff_eq, bne_iff_ne, beq_eq_false_iff_ne, bne_eq_false_iff_eq, ne_eq, Bool.or_eq_true, Bool.or_eq_false_iff, Bool.and_eq_true, Bool.and_eq_false_imp, Bool.not_eq_true, Bool.not_eq_true', Bool.not_eq_false', Classical.not_not, Int.not_lt, Int.not_le, gt_iff_lt, ge_iff_le] at hc2
      have hr : reachG c v = (0, false) := by unfold reachG; rw [hff, if_neg (fun hh => hh rfl), if_pos (by unfold INF; omega)]
      refine W.seq ?_
      refine W.region _ ?_
      refine WG.run tab_ok 2 rfl ?_
      refine WG.nil ?_
      refine WE.nxt ?_
      refine W.ret ?_
      refine WE.then_ret ?_
      refine WE.subE (E' := E) qS ?_
      refine WE.retF tab_ok [_, _] rfl ⟨rfl, rfl, trivial⟩ (RLe.refl _) ?_
      exact ⟨by rw [hr]; rfl, rfl⟩
    · try simp only [decide_eq_true_eq, decide_eq_false_iff_not, beq_iff_eq, bne_iff_ne, beq_eq_false_iff_ne, bne_eq_false_iff_eq, ne_eq, Bool.or_eq_true, Bool.or_eq_false_iff, Bool.and_eq_true, Bool.and_eq_false_imp, Bool.not_eq_true, Bool.not_eq_true', Bool.not_eq_false', Classical.not_not, Int.not_lt, Int.not_le, gt_iff_lt, ge_iff_le] at hc2
      exfalso
      rcases hx with ⟨h, _⟩ | ⟨h1, h2, h3⟩
      · first | exact hc2 (.inl h) | exact hc2.1 h
      · obtain ⟨n, n1, _, n3⟩ := inf_at hv h1
        have hs := stN_lt hv
        have h4 := hno n (by omega)
        rw [n3.hi n (Nat.le_refl _)] at h4
        unfold INF at h4; omega

theorem ReachG_V {R : Ro} {fa : Option Addr} {fc : Nat} {c : Cv} (hv : validB c = true) (ha : RS R 1 encI fa c.vals) {v : Int} (hvv : v = 4611686018427387904 ∨ (0 ≤ v ∧ v ≤ 1000000000000000)) : FnV Try.prog 89 [.agg #[.slice fa c.vals.length fc, .int .i64 c.per, .int .i64 c.inc], .int .i64 v] R (.tuple #[.int .i64 (reachG c v).1, .bool (reachG c v).2]) := by
  cases hf : finB c with
  | false => exact ReachI_V hv ha (.inr ⟨hf, by omega⟩)
  | true =>
    by_cases h : v = 4611686018427387904
    · exact ReachI_V hv ha (.inl ⟨h, hf⟩)
    · rcases valid_cases hv with ⟨S, P, e, hl, hp, hfc, _⟩ | ⟨_, _, _, _, _, _, _, f⟩
      · have h2 := reachG_F hl hp (v := v) (by unfold INF; exact h)
        have e2 : c.vals = fvals (cvF c) (S + P) := by rw [← hl]; exact cvF_vals c
        rw [h2, hp, e2]
        rw [e2] at ha
        exact ReachF_V hfc ha (by omega)
      · rw [hf] at f; cases f

set_option maxHeartbeats 2000000 in
theorem DBothG_C {R : Ro} {fa : Option Addr} {fc : Nat} {cf : Cv} (hvf : validB cf = true) (ha : RS R 1 encI fa cf.vals) {ga : Option Addr} {gc : Nat} {cg : Cv} (hvg : validB cg = true) (hb : RS R 1 encI ga cg.vals) (w0 : World) (E : List Ent) : K.Fn Try.prog 86 [.agg #[.slice fa cf.vals.length fc, .int .i64 cf.per, .int .i64 cf.inc], .agg #[.slice ga cg.vals.length gc, .int .i64 cg.per, .int .i64 cg.inc]] w0 R E (fun v R' E' => ∃ (f1 : Option Addr) (n1 c1 : Nat) (p1 q1 : Int) (f2 : Option Addr) (n2 c2 : Nat) (p2 q2 tk : Int) (lo : Bool) (e : Int), v = .tuple #[.agg #[.slice f1 n1 c1, .int .i64 p1, .int .i64 q1, .slice f2 n2 c2, .int .i64 p2, .int .i64 q2, .int .i64 tk, .bool lo], .int .i64 e] ∧
      ((e = 3 ∧ 120 < lcmC (normR cf) (normR cg)) ∨ (e = 0 ∧ ¬ 120 < lcmC (normR cf) (normR cg) ∧ n1 = (normR cf).vals.length ∧ p1 = (normR cf).per ∧ q1 = (normR cf).inc ∧ n2 = (normR cg).vals.length ∧ p2 = (normR cg).per ∧ q2 = (normR cg).inc ∧ RS R' 1 encI f1 (normR cf).vals ∧ RS R' 1 encI f2 (normR cg).vals ∧ tk = ((max (stN (normR cf)) (stN (normR cg)) + lcmC (normR cf) (normR cg) : Nat) : Int) ∧ lo = decide (loose (normR cf) (normR cg)))) ∧ E.Sublist E') := by
  have hnf := norm_nrm hvf
  have hng := norm_nrm hvg
  refine Fn.enter (n := 65) Try.func86 rfl rfl (Nat.le_of_ble_eq_true rfl) rfl ?_
  refine W.seq ?_
  refine W.region _ ?_
  refine WL.ef rfl rfl (by decide) (Ef.box rfl rfl (fun b2 => ?_))
  refine WL.ef rfl rfl (by decide) (Ef.box rfl rfl (fun b3 => ?_))
  refine WL.ef rfl rfl (by decide) (Ef.alloc tab_ok rfl rfl (fun b4 => ?_))
  refine WG.run tab_ok 1 rfl ?_
  refine WG.nil ?_
  refine WE.nxt ?_
  refine W.seq ?_
  refine W.region _ ?_
  refine' WG.y rfl rfl (by decide) (Yl.load1 tab_ok rfl rfl rfl (fun _ => rfl) ?r1 rfl ?h1) ?_
  case r1 => (first | exact Rd.blk 0 rfl | exact Rd.blk 1 rfl | exact Rd.blk 2 rfl | exact Rd.blk 3 rfl | exact Rd.blk 4 rfl | exact Rd.blk 5 rfl | exact Rd.blk 6 rfl)
  case h1 => rfl
  refine WL.call en52 rfl rfl (by decide) (CallOp.mkT rfl rfl rfl rfl) (CNormalV_C hvf ha w0 _) ?_
  rintro _ R1 _ hR1 ⟨fa1x, ca1x, rfl, ha1x, hsub⟩
  refine WL.subE hsub ?_
  unfold cvV
  dsimp only at ha1x ⊢
  have hb := hb.mono hR1
  refine WG.run tab_ok 3 rfl ?_
  refine WL.ef rfl rfl (by decide) (Ef.alloc tab_ok rfl rfl (fun b6 => ?_))
  first | refine WL.efN rfl rfl (Ef.store0 0 tab_ok rfl rfl rfl rfl rfl rfl rfl rfl ?_) | refine WL.efN rfl rfl (Ef.store0 1 tab_ok rfl rfl rfl rfl rfl rfl rfl rfl ?_) | refine WL.efN rfl rfl (Ef.store0 2 tab_ok rfl rfl rfl rfl rfl rfl rfl rfl ?_) | refine WL.efN rfl rfl (Ef.store0 3 tab_ok rfl rfl rfl rfl rfl rfl rfl rfl ?_) | refine WL.efN rfl rfl (Ef.store0 4 tab_ok rfl rfl rfl rfl rfl rfl rfl rfl ?_) | refine WL.efN rfl rfl (Ef.store0 5 tab_ok rfl rfl rfl rfl rfl rfl rfl rfl ?_) | refine WL.efN rfl rfl (Ef.store0 6 tab_ok rfl rfl rfl rfl rfl rfl rfl rfl ?_)
  refine WG.run tab_ok 1 rfl ?_
  refine WG.nil ?_
  refine WE.nxt ?_
  refine W.seq ?_
  refine W.seq ?_
  refine W.region _ ?_
  refine WG.run tab_ok 2 rfl ?_
  refine WG.nil ?_
  refine WE.nxt ?_
  refine W.condN rfl (fun hc0 => ?_) (fun hc0 => ?_)
  · try dsimp only at hc0
    first | done | exact absurd rfl hc0 | (simp at hc0; done)
  · try dsimp only at hc0
    refine W.skip ?_
    refine WE.nxt ?_
    refine W.seq ?_
    refine W.region _ ?_
    refine' WG.y rfl rfl (by decide) (Yl.load1 tab_ok rfl rfl rfl (fun _ => rfl) ?r2 rfl ?h2) ?_
    case r2 => (first | exact Rd.blk 0 rfl | exact Rd.blk 1 rfl | exact Rd.blk 2 rfl | exact Rd.blk 3 rfl | exact Rd.blk 4 rfl | exact Rd.blk 5 rfl | exact Rd.blk 6 rfl)
    case h2 => rfl
    refine WL.call en52 rfl rfl (by decide) (CallOp.mkT rfl rfl rfl rfl) (CNormalV_C hvg hb w0 _) ?_
    rintro _ R2 _ hR2 ⟨fa2x, ca2x, rfl, ha2x, hsub⟩
    refine WL.subE hsub ?_
    unfold cvV
    dsimp only at ha2x ⊢
    have ha1x := ha1x.mono hR2
    generalize normR cf = m1 at *
    generalize normR cg = m2 at *
    have hv1 := hnf.valid
    have hv2 := hng.valid
    have hlle := lcmC_le hv1 hv2
    have hlp := lcm_pos hv1 hv2
    have hs1 := stN_lt hv1
    have hs2 := stN_lt hv2
    refine WG.run tab_ok 3 rfl ?_
    refine WL.ef rfl rfl (by decide) (Ef.alloc tab_ok rfl rfl (fun b8 => ?_))
    first | refine WL.efN rfl rfl (Ef.store0 0 tab_ok rfl rfl rfl rfl rfl rfl rfl rfl ?_) | refine WL.efN rfl rfl (Ef.store0 1 tab_ok rfl rfl rfl rfl rfl rfl rfl rfl ?_) | refine WL.efN rfl rfl (Ef.store0 2 tab_ok rfl rfl rfl rfl rfl rfl rfl rfl ?_) | refine WL.efN rfl rfl (Ef.store0 3 tab_ok rfl rfl rfl rfl rfl rfl rfl rfl ?_) | refine WL.efN rfl rfl (Ef.store0 4 tab_ok rfl rfl rfl rfl rfl rfl rfl rfl ?_) | refine WL.efN rfl rfl (Ef.store0 5 tab_ok rfl rfl rfl rfl rfl rfl rfl rfl ?_) | refine WL.efN rfl rfl (Ef.store0 6 tab_ok rfl rfl rfl rfl rfl rfl rfl rfl ?_)
    refine WG.run tab_ok 1 rfl ?_
    refine WG.nil ?_
    refine WE.nxt ?_
    refine W.seq ?_
    refine W.seq ?_
    refine W.region _ ?_
    refine WG.run tab_ok 2 rfl ?_
    refine WG.nil ?_
    refine WE.nxt ?_
    refine W.condN rfl (fun hc1 => ?_) (fun hc1 => ?_)
    · try dsimp only at hc1
      first | done | exact absurd rfl hc1 | (simp at hc1; done)
    · try dsimp only at hc1
      refine W.skip ?_
      refine WE.nxt ?_
      refine W.seq ?_
      refine W.region _ ?_
      refine WG.run tab_ok 1 rfl ?_
      refine' WG.y rfl rfl (by decide) (Yl.load1 tab_ok rfl rfl rfl (fun _ => rfl) ?r3 rfl ?h3) ?_
      case r3 => apply Rd.add; (first | exact Rd.blk 0 rfl | exact Rd.blk 1 rfl | exact Rd.blk 2 rfl | exact Rd.blk 3 rfl | exact Rd.blk 4 rfl | exact Rd.blk 5 rfl | exact Rd.blk 6 rfl)
      case h3 => rfl
      refine WG.run tab_ok 1 rfl ?_
      refine' WG.y rfl rfl (by decide) (Yl.load1 tab_ok rfl rfl rfl (fun _ => rfl) ?r4 rfl ?h4) ?_
      case r4 => apply Rd.add; (first | exact Rd.blk 0 rfl | exact Rd.blk 1 rfl | exact Rd.blk 2 rfl | exact Rd.blk 3 rfl | exact Rd.blk 4 rfl | exact Rd.blk 5 rfl | exact Rd.blk 6 rfl)
      case h4 => rfl
      refine WG.callV (v := .int .i64 (lcmC m1 m2 : Int)) en53 rfl rfl (by decide) (CallOp.mk' rfl rfl rfl rfl) (fun _ => rfl) (fun hg => CommonC_V hv1 hv2) ?_
      refine WG.run tab_ok 1 rfl ?_
      refine WG.nil ?_
      refine WE.nxt ?_
      refine W.seq ?_
      refine W.seq ?_
      refine W.region _ ?_
      refine WG.run tab_ok 2 rfl ?_
      refine WG.nil ?_
      refine WE.nxt ?_
      refine W.condD rfl (fun hc2 => ?_) (fun hc2 => ?_)
      · try dsimp only at hc2
        refine W.seq ?_
        refine W.region _ ?_
        -- build
        refine WG.y rfl rfl (by decide) (Yl.build (parts := []) tab_ok rfl rfl rfl rfl (fun _ => rfl) rfl rfl) ?_
        first | refine WL.efN rfl rfl (Ef.store0 0 tab_ok rfl rfl rfl rfl rfl rfl rfl rfl ?_) | refine WL.efN rfl rfl (Ef.store0 1 tab_ok rfl rfl rfl rfl rfl rfl rfl rfl ?_) | refine WL.efN rfl rfl (Ef.store0 2 tab_ok rfl rfl rfl rfl rfl rfl rfl rfl ?_) | refine WL.efN rfl rfl (Ef.store0 3 tab_ok rfl rfl rfl rfl rfl rfl rfl rfl ?_) | refine WL.efN rfl rfl (Ef.store0 4 tab_ok rfl rfl rfl rfl rfl rfl rfl rfl ?_) | refine WL.efN rfl rfl (Ef.store0 5 tab_ok rfl rfl rfl rfl rfl rfl rfl rfl ?_) | refine WL.efN rfl rfl (Ef.store0 6 tab_ok rfl rfl rfl rfl rfl rfl rfl rfl ?_)
        refine WG.run tab_ok 1 rfl ?_
        refine WG.nil ?_
        refine WE.nxt ?_
        refine W.ret ?_
        refine WE.then_ret ?_
        refine WE.retF tab_ok [_, _] rfl ⟨⟨_, _, _, rfl, rfl, rfl, ((by first | exact Rd.blk 0 rfl | exact Rd.blk 1 rfl | exact Rd.blk 2 rfl | exact Rd.blk 3 rfl | exact Rd.blk 4 rfl | exact Rd.blk 5 rfl | exact Rd.blk 6 rfl)), rfl⟩, rfl, trivial⟩ (hR1.trans hR2) ?_
        exact ⟨none, 0, 0, 0, 0, none, 0, 0, 0, 0, 0, false, _, rfl, .inl ⟨rfl, by omega⟩, qS⟩
      · try dsimp only at hc2
        have hl1 : ¬ 120 < lcmC m1 m2 := by omega
        refine W.skip ?_
        refine WE.nxt ?_
        refine W.seqCut (β := Nat × Int) (fun (b10, tk) => tk = ((max (stN m1) (stN m2) + lcmC m1 m2 : Nat) : Int)) (fun (b10, tk) => [(4, true, .pointer (some ⟨b4, 0, none⟩)), (6, true, .pointer (some ⟨b6, 0, none⟩)), (8, true, .pointer (some ⟨b8, 0, none⟩)), (9, true, .int .i64 (lcmC m1 m2 : Int)), (10, true, .pointer (some ⟨b10, 0, none⟩))]) (fun _ => R2) (fun (b10, tk) => .blk b10 [.slice fa1x m1.vals.length ca1x, .int .i64 m1.per, .int .i64 m1.inc, .slice fa2x m2.vals.length ca2x, .int .i64 m2.per, .int .i64 m2.inc, .int .i64 tk, .bool false] :: .blk b8 [.slice fa2x m2.vals.length ca2x, .int .i64 m2.per, .int .i64 m2.inc] :: .blk b6 [.slice fa1x m1.vals.length ca1x, .int .i64 m1.per, .int .i64 m1.inc] :: .blk b4 [.slice none 0 0, .int .i64 0, .int .i64 0, .slice none 0 0, .int .i64 0, .int .i64 0, .int .i64 0, .bool false] :: E) ?_ ?_
        ·
          intro st hst
          obtain ⟨b10, tk⟩ := st
          obtain rfl : tk = _ := hst
          dsimp only
          have hloq : (finB m2 && (!finB m1 || decide (gainC m1 (lcmC m1 m2) > gainC m2 (lcmC m1 m2)))) = decide (loose m1 m2) := by
            rw [Bool.eq_iff_iff, decide_eq_true_iff]
            unfold loose
            simp
          refine W.seq ?_
          refine W.regionH _ (ES := [.blk b8 [.slice fa2x m2.vals.length ca2x, .int .i64 m2.per, .int .i64 m2.inc], .blk b6 [.slice fa1x m1.vals.length ca1x, .int .i64 m1.per, .int .i64 m1.inc]]) mixed ?_
          refine' WA.take 0 rfl (by kernel_rfl) (by kernel_rfl) (by kernel_rfl) rfl rfl (by decide) (Yl.load1 tab_ok rfl rfl rfl (fun _ => rfl) ?r5 rfl ?h5) qS (by first | exact RLe.refl _ | assumption) ?_
          case r5 => (first | exact Rd.blk 0 rfl | exact Rd.blk 1 rfl | exact Rd.blk 2 rfl | exact Rd.blk 3 rfl | exact Rd.blk 4 rfl | exact Rd.blk 5 rfl | exact Rd.blk 6 rfl)
          case h5 => rfl
          refine WA.callV 1 rfl (by kernel_rfl) en57 rfl rfl (by decide) (CallOp.mk' rfl rfl rfl rfl) (fun _ => rfl) (fun hg => WFiniteG_V hv2 ha2x) qS (by first | exact RLe.refl _ | assumption) ?_
          refine WA.take 2 rfl (by kernel_rfl) (by kernel_rfl) (by kernel_rfl) rfl rfl (by decide) (pureV_ok tab_ok rfl (fun _ => rfl)) qS (by first | exact RLe.refl _ | assumption) ?_
          refine' WA.take 3 rfl (by kernel_rfl) (by kernel_rfl) (by kernel_rfl) rfl rfl (by decide) (Yl.loadG tab_ok rfl rfl rfl qE ?r6 rfl ?h6 ?g6) qS (by first | exact RLe.refl _ | assumption) ?_
          case r6 => (first | exact Rd.blkC 0 rfl | exact Rd.blkC 1 rfl | exact Rd.blkC 2 rfl | exact Rd.blkC 3 rfl | exact Rd.blkC 4 rfl | exact Rd.blkC 5 rfl | exact Rd.blkC 6 rfl)
          case h6 => rfl
          case g6 => first | exact fun _ => trivial | (intro hg; (try simp only [decide_eq_true_eq, decide_eq_false_iff_not, beq_iff_eq, bne_iff_ne, beq_eq_false_iff_ne, bne_eq_false_iff_eq, ne_eq, Bool.or_eq_true, Bool.or_eq_false_iff, Bool.and_eq_true, Bool.and_eq_false_imp, Bool.not_eq_true, Bool.not_eq_true', Bool.not_eq_false', Classical.not_not, Int.not_lt, Int.not_le, gt_iff_lt, ge_iff_le] at hg); (try dsimp only); omega)
          refine WA.callV 4 rfl (by kernel_rfl) en57 rfl rfl (by decide) (CallOp.mk' rfl rfl rfl rfl) qE (fun hg => WFiniteG_V hv1 ha1x) qS (by first | exact RLe.refl _ | assumption) ?_
          refine WA.take 5 rfl (by kernel_rfl) (by kernel_rfl) (by kernel_rfl) rfl rfl (by decide) (pureV_ok tab_ok rfl qE) qS (by first | exact RLe.refl _ | assumption) ?_
          refine WA.take 6 rfl (by kernel_rfl) (by kernel_rfl) (by kernel_rfl) rfl rfl (by decide) (pureV_ok tab_ok rfl qE) qS (by first | exact RLe.refl _ | assumption) ?_
          refine' WA.take 7 rfl (by kernel_rfl) (by kernel_rfl) (by kernel_rfl) rfl rfl (by decide) (Yl.loadG tab_ok rfl rfl rfl qE ?r7 rfl ?h7 ?g7) qS (by first | exact RLe.refl _ | assumption) ?_
          case r7 => (first | exact Rd.blkC 0 rfl | exact Rd.blkC 1 rfl | exact Rd.blkC 2 rfl | exact Rd.blkC 3 rfl | exact Rd.blkC 4 rfl | exact Rd.blkC 5 rfl | exact Rd.blkC 6 rfl)
          case h7 => rfl
          case g7 => first | exact fun _ => trivial | (intro hg; (try simp only [decide_eq_true_eq, decide_eq_false_iff_not, beq_iff_eq, bne_iff_ne, beq_eq_false_iff_ne, bne_eq_false_iff_eq, ne_eq, Bool.or_eq_true, Bool.or_eq_false_iff, Bool.and_eq_true, Bool.and_eq_false_imp, Bool.not_eq_true, Bool.not_eq_true', Bool.not_eq_false', Classical.not_not, Int.not_lt, Int.not_le, gt_iff_lt, ge_iff_le] at hg); (try dsimp only); omega)
          refine WA.take 8 rfl (by kernel_rfl) (by kernel_rfl) (by kernel_rfl) rfl rfl (by decide) (pureV_ok tab_ok rfl qE) qS (by first | exact RLe.refl _ | assumption) ?_
          refine' WA.take 10 rfl (by kernel_rfl) (by kernel_rfl) (by kernel_rfl) rfl rfl (by decide) (Yl.loadG tab_ok rfl rfl rfl qE ?r8 rfl ?h8 ?g8) qS (by first | exact RLe.refl _ | assumption) ?_
          case r8 => (first | exact Rd.blkC 0 rfl | exact Rd.blkC 1 rfl | exact Rd.blkC 2 rfl | exact Rd.blkC 3 rfl | exact Rd.blkC 4 rfl | exact Rd.blkC 5 rfl | exact Rd.blkC 6 rfl)
          case h8 => rfl
          case g8 => first | exact fun _ => trivial | (intro hg; (try simp only [decide_eq_true_eq, decide_eq_false_iff_not, beq_iff_eq, bne_iff_ne, beq_eq_false_iff_ne, bne_eq_false_iff_eq, ne_eq, Bool.or_eq_true, Bool.or_eq_false_iff, Bool.and_eq_true, Bool.and_eq_false_imp, Bool.not_eq_true, Bool.not_eq_true', Bool.not_eq_false', Classical.not_not, Int.not_lt, Int.not_le, gt_iff_lt, ge_iff_le] at hg); (try dsimp only); omega)
          refine WA.take 11 rfl (by kernel_rfl) (by kernel_rfl) (by kernel_rfl) rfl rfl (by decide) (pureV_ok tab_ok rfl qE) qS (by first | exact RLe.refl _ | assumption) ?_
          refine WA.callV 9 (v := .int .i64 (gainC m1 (lcmC m1 m2))) rfl (by kernel_rfl) en54 rfl rfl (by decide) (CallOp.mk' rfl rfl rfl rfl) qE (fun hg => WGainG_V hv1 ha1x (L := lcmC m1 m2) (by omega)) qS (by first | exact RLe.refl _ | assumption) ?_
          refine WA.callV 12 (v := .int .i64 (gainC m2 (lcmC m1 m2))) rfl (by kernel_rfl) en54 rfl rfl (by decide) (CallOp.mk' rfl rfl rfl rfl) qE (fun hg => WGainG_V hv2 ha2x (L := lcmC m1 m2) (by omega)) qS (by first | exact RLe.refl _ | assumption) ?_
          refine WA.take 13 rfl (by kernel_rfl) (by kernel_rfl) (by kernel_rfl) rfl rfl (by decide) (pureV_ok tab_ok rfl qE) qS (by first | exact RLe.refl _ | assumption) ?_
          refine WA.take 14 rfl (by kernel_rfl) (by kernel_rfl) (by kernel_rfl) rfl rfl (by decide) (Yl.por rfl rfl rfl qE (by intro h1 h2; simp_all <;> omega)) qS (by first | exact RLe.refl _ | assumption) ?_
          refine WA.take 15 rfl (by kernel_rfl) (by kernel_rfl) (by kernel_rfl) rfl rfl (by decide) (Yl.pand rfl rfl rfl (fun _ => rfl) (by intro h1 h2; simp_all <;> omega)) qS (by first | exact RLe.refl _ | assumption) ?_
          refine WA.take 16 rfl (by kernel_rfl) (by kernel_rfl) (by kernel_rfl) rfl rfl (by decide) (pureV_ok tab_ok rfl (fun _ => rfl)) qS (by first | exact RLe.refl _ | assumption) ?_
          first | refine WA.effN 17 rfl (by kernel_rfl) rfl rfl (Ef.store 0 tab_ok rfl rfl rfl rfl rfl rfl rfl rfl ?_) | refine WA.effN 17 rfl (by kernel_rfl) rfl rfl (Ef.store 1 tab_ok rfl rfl rfl rfl rfl rfl rfl rfl ?_) | refine WA.effN 17 rfl (by kernel_rfl) rfl rfl (Ef.store 2 tab_ok rfl rfl rfl rfl rfl rfl rfl rfl ?_) | refine WA.effN 17 rfl (by kernel_rfl) rfl rfl (Ef.store 3 tab_ok rfl rfl rfl rfl rfl rfl rfl rfl ?_) | refine WA.effN 17 rfl (by kernel_rfl) rfl rfl (Ef.store 4 tab_ok rfl rfl rfl rfl rfl rfl rfl rfl ?_) | refine WA.effN 17 rfl (by kernel_rfl) rfl rfl (Ef.store 5 tab_ok rfl rfl rfl rfl rfl rfl rfl rfl ?_) | refine WA.effN 17 rfl (by kernel_rfl) rfl rfl (Ef.store 6 tab_ok rfl rfl rfl rfl rfl rfl rfl rfl ?_)
          refine ⟨by first | exact RLe.refl _ | assumption, qS, ?_⟩
          refine WA.done (by kernel_rfl) ?_
          refine WE.nxt ?_
          refine W.seq ?_
          refine W.region _ ?_
          refine' WG.y rfl rfl (by decide) (Yl.load1 tab_ok rfl rfl rfl (fun _ => rfl) ?r9 rfl ?h9) ?_
          case r9 => (first | exact Rd.blk 0 rfl | exact Rd.blk 1 rfl | exact Rd.blk 2 rfl | exact Rd.blk 3 rfl | exact Rd.blk 4 rfl | exact Rd.blk 5 rfl | exact Rd.blk 6 rfl | (apply RS.rdD; assumption; ((try dsimp only) <;> omega)) | exact Rd.slD 0 rfl (by (try dsimp only) <;> omega) | exact Rd.slD 1 rfl (by (try dsimp only) <;> omega) | exact Rd.slD 2 rfl (by (try dsimp only) <;> omega) | exact Rd.slD 3 rfl (by (try dsimp only) <;> omega) | exact Rd.slD 4 rfl (by (try dsimp only) <;> omega) | exact Rd.slD 5 rfl (by (try dsimp only) <;> omega) | exact Rd.slD 6 rfl (by (try dsimp only) <;> omega))
          case h9 => rfl
          first | refine WL.efN rfl rfl (Ef.store0 0 tab_ok rfl rfl rfl rfl rfl rfl rfl rfl ?_) | refine WL.efN rfl rfl (Ef.store0 1 tab_ok rfl rfl rfl rfl rfl rfl rfl rfl ?_) | refine WL.efN rfl rfl (Ef.store0 2 tab_ok rfl rfl rfl rfl rfl rfl rfl rfl ?_) | refine WL.efN rfl rfl (Ef.store0 3 tab_ok rfl rfl rfl rfl rfl rfl rfl rfl ?_) | refine WL.efN rfl rfl (Ef.store0 4 tab_ok rfl rfl rfl rfl rfl rfl rfl rfl ?_) | refine WL.efN rfl rfl (Ef.store0 5 tab_ok rfl rfl rfl rfl rfl rfl rfl rfl ?_) | refine WL.efN rfl rfl (Ef.store0 6 tab_ok rfl rfl rfl rfl rfl rfl rfl rfl ?_)
          refine WG.run tab_ok 1 rfl ?_
          refine WG.nil ?_
          refine WE.nxt ?_
          refine W.ret ?_
          refine WE.retF tab_ok [_, _] rfl ⟨⟨_, _, _, rfl, rfl, rfl, ((by first | exact Rd.blk 0 rfl | exact Rd.blk 1 rfl | exact Rd.blk 2 rfl | exact Rd.blk 3 rfl | exact Rd.blk 4 rfl | exact Rd.blk 5 rfl | exact Rd.blk 6 rfl)), rfl⟩, rfl, trivial⟩ (hR1.trans hR2) ?_
          refine ⟨fa1x, _, ca1x, _, _, fa2x, _, ca2x, _, _, _, _, _, rfl, .inr ⟨rfl, hl1, rfl, rfl, rfl, rfl, rfl, rfl, ha1x, ha2x, ?_, ?_⟩, qS⟩
          · first | rfl | omega | (split <;> omega)
          · first | exact hloq | (rw [← hloq]; rfl)
        ·
          refine W.regionH _ (ES := [.blk b8 [.slice fa2x m2.vals.length ca2x, .int .i64 m2.per, .int .i64 m2.inc], .blk b6 [.slice fa1x m1.vals.length ca1x, .int .i64 m1.per, .int .i64 m1.inc]]) mixed ?_
          refine' WA.take 0 rfl (by kernel_rfl) (by kernel_rfl) (by kernel_rfl) rfl rfl (by decide) (Yl.load1 tab_ok rfl rfl rfl (fun _ => rfl) ?r10 rfl ?h10) qS (by first | exact RLe.refl _ | assumption) ?_
          case r10 => (first | exact Rd.blk 0 rfl | exact Rd.blk 1 rfl | exact Rd.blk 2 rfl | exact Rd.blk 3 rfl | exact Rd.blk 4 rfl | exact Rd.blk 5 rfl | exact Rd.blk 6 rfl)
          case h10 => rfl
          refine' WA.take 1 rfl (by kernel_rfl) (by kernel_rfl) (by kernel_rfl) rfl rfl (by decide) (Yl.load1 tab_ok rfl rfl rfl (fun _ => rfl) ?r11 rfl ?h11) qS (by first | exact RLe.refl _ | assumption) ?_
          case r11 => (first | exact Rd.blk 0 rfl | exact Rd.blk 1 rfl | exact Rd.blk 2 rfl | exact Rd.blk 3 rfl | exact Rd.blk 4 rfl | exact Rd.blk 5 rfl | exact Rd.blk 6 rfl)
          case h11 => rfl
          refine' WA.take 2 rfl (by kernel_rfl) (by kernel_rfl) (by kernel_rfl) rfl rfl (by decide) (Yl.load1 tab_ok rfl rfl rfl (fun _ => rfl) ?r12 rfl ?h12) qS (by first | exact RLe.refl _ | assumption) ?_
          case r12 => (first | exact Rd.blk 0 rfl | exact Rd.blk 1 rfl | exact Rd.blk 2 rfl | exact Rd.blk 3 rfl | exact Rd.blk 4 rfl | exact Rd.blk 5 rfl | exact Rd.blk 6 rfl)
          case h12 => rfl
          refine' WA.take 4 rfl (by kernel_rfl) (by kernel_rfl) (by kernel_rfl) rfl rfl (by decide) (Yl.load1 tab_ok rfl rfl rfl (fun _ => rfl) ?r13 rfl ?h13) qS (by first | exact RLe.refl _ | assumption) ?_
          case r13 => (first | exact Rd.blk 0 rfl | exact Rd.blk 1 rfl | exact Rd.blk 2 rfl | exact Rd.blk 3 rfl | exact Rd.blk 4 rfl | exact Rd.blk 5 rfl | exact Rd.blk 6 rfl)
          case h13 => rfl
          refine WA.take 7 rfl (by kernel_rfl) (by kernel_rfl) (by kernel_rfl) rfl rfl (by decide) (pureV_ok tab_ok rfl (fun _ => rfl)) qS (by first | exact RLe.refl _ | assumption) ?_
          refine WA.br2 (i := 3) (j := 10) (by kernel_rfl) ?_ ?_
          ·
            refine WS.callV rfl en55 rfl rfl (by decide) (CallOp.mk' rfl rfl rfl rfl) (fun _ => rfl) (fun hg => WStartG_V hv1 ha1x) qS (by first | exact RLe.refl _ | assumption) ?_
            refine WA.br2 (i := 5) (j := 10) (by kernel_rfl) ?_ ?_
            ·
              refine WS.callV rfl en55 rfl rfl (by decide) (CallOp.mk' rfl rfl rfl rfl) (fun _ => rfl) (fun hg => WStartG_V hv2 ha2x) qS (by first | exact RLe.refl _ | assumption) ?_
              refine WA.take 6 rfl (by kernel_rfl) (by kernel_rfl) (by kernel_rfl) rfl rfl (by decide) (pureV_ok tab_ok rfl (fun _ => rfl)) qS (by first | exact RLe.refl _ | assumption) ?_
              refine WA.take 8 rfl (by kernel_rfl) (by kernel_rfl) (by kernel_rfl) rfl rfl (by decide) (Yl.add rfl rfl rfl (fun _ => rfl) (by intro _; constructor <;> (try dsimp only) <;> omega)) qS (by first | exact RLe.refl _ | assumption) ?_
              -- build
              refine WA.take 9 rfl (by kernel_rfl) (by kernel_rfl) (by kernel_rfl) rfl rfl (by decide) (Yl.build (parts := [(0, .tmp 37), (1, .tmp 38), (2, .tmp 45)]) tab_ok rfl rfl rfl rfl (fun _ => rfl) rfl rfl) qS (by first | exact RLe.refl _ | assumption) ?_
              refine WA.eff 10 rfl (by kernel_rfl) rfl rfl (by decide) (Ef.alloc tab_ok rfl rfl (fun b10 => ?_))
              refine ⟨by first | exact RLe.refl _ | assumption, qS, ?_⟩
              first | refine WA.effN 11 rfl (by kernel_rfl) rfl rfl (Ef.store0 0 tab_ok rfl rfl rfl rfl rfl rfl rfl rfl ?_) | refine WA.effN 11 rfl (by kernel_rfl) rfl rfl (Ef.store0 1 tab_ok rfl rfl rfl rfl rfl rfl rfl rfl ?_) | refine WA.effN 11 rfl (by kernel_rfl) rfl rfl (Ef.store0 2 tab_ok rfl rfl rfl rfl rfl rfl rfl rfl ?_) | refine WA.effN 11 rfl (by kernel_rfl) rfl rfl (Ef.store0 3 tab_ok rfl rfl rfl rfl rfl rfl rfl rfl ?_) | refine WA.effN 11 rfl (by kernel_rfl) rfl rfl (Ef.store0 4 tab_ok rfl rfl rfl rfl rfl rfl rfl rfl ?_) | refine WA.effN 11 rfl (by kernel_rfl) rfl rfl (Ef.store0 5 tab_ok rfl rfl rfl rfl rfl rfl rfl rfl ?_) | refine WA.effN 11 rfl (by kernel_rfl) rfl rfl (Ef.store0 6 tab_ok rfl rfl rfl rfl rfl rfl rfl rfl ?_)
              refine ⟨by first | exact RLe.refl _ | assumption, qS, ?_⟩
              refine WA.done (by kernel_rfl) ?_
              refine WE.cut (b10, (if (stN m1 : Int) < (stN m2 : Int) then (stN m2 : Int) else (stN m1 : Int)) + (lcmC m1 m2 : Int)) (by first | rfl | omega | (split <;> omega)) ⟨rfl, rfl, rfl, rfl, rfl, rfl⟩ (RLe.refl _) qS
            ·
              refine WS.eff rfl rfl rfl (by decide) (Ef.alloc tab_ok rfl rfl (fun b10 => ?_))
              refine ⟨by first | exact RLe.refl _ | assumption, qS, ?_⟩
              refine WA.callV 5 rfl (by kernel_rfl) en55 rfl rfl (by decide) (CallOp.mk' rfl rfl rfl rfl) (fun _ => rfl) (fun hg => WStartG_V hv2 ha2x) qS (by first | exact RLe.refl _ | assumption) ?_
              refine WA.take 6 rfl (by kernel_rfl) (by kernel_rfl) (by kernel_rfl) rfl rfl (by decide) (pureV_ok tab_ok rfl (fun _ => rfl)) qS (by first | exact RLe.refl _ | assumption) ?_
              refine WA.take 8 rfl (by kernel_rfl) (by kernel_rfl) (by kernel_rfl) rfl rfl (by decide) (Yl.add rfl rfl rfl (fun _ => rfl) (by intro _; constructor <;> (try dsimp only) <;> omega)) qS (by first | exact RLe.refl _ | assumption) ?_
              -- build
              refine WA.take 9 rfl (by kernel_rfl) (by kernel_rfl) (by kernel_rfl) rfl rfl (by decide) (Yl.build (parts := [(0, .tmp 37), (1, .tmp 38), (2, .tmp 45)]) tab_ok rfl rfl rfl rfl (fun _ => rfl) rfl rfl) qS (by first | exact RLe.refl _ | assumption) ?_
              first | refine WA.effN 11 rfl (by kernel_rfl) rfl rfl (Ef.store0 0 tab_ok rfl rfl rfl rfl rfl rfl rfl rfl ?_) | refine WA.effN 11 rfl (by kernel_rfl) rfl rfl (Ef.store0 1 tab_ok rfl rfl rfl rfl rfl rfl rfl rfl ?_) | refine WA.effN 11 rfl (by kernel_rfl) rfl rfl (Ef.store0 2 tab_ok rfl rfl rfl rfl rfl rfl rfl rfl ?_) | refine WA.effN 11 rfl (by kernel_rfl) rfl rfl (Ef.store0 3 tab_ok rfl rfl rfl rfl rfl rfl rfl rfl ?_) | refine WA.effN 11 rfl (by kernel_rfl) rfl rfl (Ef.store0 4 tab_ok rfl rfl rfl rfl rfl rfl rfl rfl ?_) | refine WA.effN 11 rfl (by kernel_rfl) rfl rfl (Ef.store0 5 tab_ok rfl rfl rfl rfl rfl rfl rfl rfl ?_) | refine WA.effN 11 rfl (by kernel_rfl) rfl rfl (Ef.store0 6 tab_ok rfl rfl rfl rfl rfl rfl rfl rfl ?_)
              refine ⟨by first | exact RLe.refl _ | assumption, qS, ?_⟩
              refine WA.done (by kernel_rfl) ?_
              refine WE.cut (b10, (if (stN m1 : Int) < (stN m2 : Int) then (stN m2 : Int) else (stN m1 : Int)) + (lcmC m1 m2 : Int)) (by first | rfl | omega | (split <;> omega)) ⟨rfl, rfl, rfl, rfl, rfl, rfl⟩ (RLe.refl _) qS
          ·
            refine WS.eff rfl rfl rfl (by decide) (Ef.alloc tab_ok rfl rfl (fun b10 => ?_))
            refine ⟨by first | exact RLe.refl _ | assumption, qS, ?_⟩
            refine WA.callV 3 rfl (by kernel_rfl) en55 rfl rfl (by decide) (CallOp.mk' rfl rfl rfl rfl) (fun _ => rfl) (fun hg => WStartG_V hv1 ha1x) qS (by first | exact RLe.refl _ | assumption) ?_
            refine WA.callV 5 rfl (by kernel_rfl) en55 rfl rfl (by decide) (CallOp.mk' rfl rfl rfl rfl) (fun _ => rfl) (fun hg => WStartG_V hv2 ha2x) qS (by first | exact RLe.refl _ | assumption) ?_
            refine WA.take 6 rfl (by kernel_rfl) (by kernel_rfl) (by kernel_rfl) rfl rfl (by decide) (pureV_ok tab_ok rfl (fun _ => rfl)) qS (by first | exact RLe.refl _ | assumption) ?_
            refine WA.take 8 rfl (by kernel_rfl) (by kernel_rfl) (by kernel_rfl) rfl rfl (by decide) (Yl.add rfl rfl rfl (fun _ => rfl) (by intro _; constructor <;> (try dsimp only) <;> omega)) qS (by first | exact RLe.refl _ | assumption) ?_
            -- build
            refine WA.take 9 rfl (by kernel_rfl) (by kernel_rfl) (by kernel_rfl) rfl rfl (by decide) (Yl.build (parts := [(0, .tmp 37), (1, .tmp 38), (2, .tmp 45)]) tab_ok rfl rfl rfl rfl (fun _ => rfl) rfl rfl) qS (by first | exact RLe.refl _ | assumption) ?_
            first | refine WA.effN 11 rfl (by kernel_rfl) rfl rfl (Ef.store0 0 tab_ok rfl rfl rfl rfl rfl rfl rfl rfl ?_) | refine WA.effN 11 rfl (by kernel_rfl) rfl rfl (Ef.store0 1 tab_ok rfl rfl rfl rfl rfl rfl rfl rfl ?_) | refine WA.effN 11 rfl (by kernel_rfl) rfl rfl (Ef.store0 2 tab_ok rfl rfl rfl rfl rfl rfl rfl rfl ?_) | refine WA.effN 11 rfl (by kernel_rfl) rfl rfl (Ef.store0 3 tab_ok rfl rfl rfl rfl rfl rfl rfl rfl ?_) | refine WA.effN 11 rfl (by kernel_rfl) rfl rfl (Ef.store0 4 tab_ok rfl rfl rfl rfl rfl rfl rfl rfl ?_) | refine WA.effN 11 rfl (by kernel_rfl) rfl rfl (Ef.store0 5 tab_ok rfl rfl rfl rfl rfl rfl rfl rfl ?_) | refine WA.effN 11 rfl (by kernel_rfl) rfl rfl (Ef.store0 6 tab_ok rfl rfl rfl rfl rfl rfl rfl rfl ?_)
            refine ⟨by first | exact RLe.refl _ | assumption, qS, ?_⟩
            refine WA.done (by kernel_rfl) ?_
            refine WE.cut (b10, (if (stN m1 : Int) < (stN m2 : Int) then (stN m2 : Int) else (stN m1 : Int)) + (lcmC m1 m2 : Int)) (by first | rfl | omega | (split <;> omega)) ⟨rfl, rfl, rfl, rfl, rfl, rfl⟩ (RLe.refl _) qS

theorem DelayFG_V {R : Ro} {a1 : Option Addr} {c1 : Nat} {m1 : Cv} (hv1 : validB m1 = true) (hx1 : RS R 1 encI a1 m1.vals) {a2 : Option Addr} {c2 : Nat} {m2 : Cv} (hv2 : validB m2 = true) (hx2 : RS R 1 encI a2 m2.vals) {b6 : Nat} {tk : Int} {lo : Bool} (h6 : R b6 = some [.slice a1 m1.vals.length c1, .int .i64 m1.per, .int .i64 m1.inc, .slice a2 m2.vals.length c2, .int .i64 m2.per, .int .i64 m2.inc, .int .i64 tk, .bool lo]) {t : Nat} (ht : t ≤ 100000) : FnV Try.prog 88 [.int .i64 (t : Int), .pointer (some ⟨b6, 0, none⟩)] R (.tuple #[.int .i64 (gapD m1 m2 t).1, .bool (gapD m1 m2 t).2]) := by
  have hlow := cvF_low15 hv1 ht
  have hrb := reachG_bound hv2 hlow
  unfold INF at hlow
  refine Fn.toV (fun w0 E => ?_)
  refine Fn.enter (n := 21) Try.func88 rfl rfl (Nat.le_of_ble_eq_true rfl) rfl ?_
  refine W.seq ?_
  refine W.region _ ?_
  refine WG.run tab_ok 2 rfl ?_
  refine WG.nil ?_
  refine WE.nxt ?_
  refine W.seq ?_
  refine W.regionQ _ mixed (by kernel_rfl) ?_
  refine WG.run tab_ok 1 rfl ?_
  refine' WG.y rfl rfl (by decide) (Yl.load1 tab_ok rfl rfl rfl (fun _ => rfl) ?r1 rfl ?h1) ?_
  case r1 => apply Rd.add; (first | exact Rd.ro (by assumption) | exact Rd.blk 0 rfl | (apply RS.rdD; assumption; ((try dsimp only) <;> omega)) | exact Rd.slD 0 rfl (by (try dsimp only) <;> omega))
  case h1 => rfl
  refine WG.run tab_ok 1 rfl ?_
  refine' WG.y rfl rfl (by decide) (Yl.load1 tab_ok rfl rfl rfl (fun _ => rfl) ?r2 rfl ?h2) ?_
  case r2 => apply Rd.add; (first | exact Rd.ro (by assumption) | exact Rd.blk 0 rfl | (apply RS.rdD; assumption; ((try dsimp only) <;> omega)) | exact Rd.slD 0 rfl (by (try dsimp only) <;> omega))
  case h2 => rfl
  refine WG.run tab_ok 1 rfl ?_
  refine WG.callV en68 rfl rfl (by decide) (CallOp.mk' rfl rfl rfl rfl) (fun _ => rfl) (fun hg => WAtG_V hv1 hx1 (by omega)) ?_
  refine WG.callV en89 rfl rfl (by decide) (CallOp.mk' rfl rfl rfl rfl) (fun _ => rfl) (fun hg => ReachG_V hv2 hx2 hlow) ?_
  refine WG.run tab_ok 5 rfl ?_
  refine WG.nil ?_
  refine WE.nxt ?_
  refine W.seq ?_
  refine W.region _ ?_
  refine WG.run tab_ok 2 rfl ?_
  refine WG.y rfl rfl (by decide) (Yl.sub rfl rfl rfl (fun _ => rfl) (by intro _; constructor <;> (try dsimp only) <;> omega)) ?_
  refine WG.run tab_ok 3 rfl ?_
  refine WG.nil ?_
  refine WE.nxt ?_
  refine W.ret ?_
  refine WE.subE (E' := E) qS ?_
  refine WE.retF tab_ok [_, _] rfl ⟨rfl, rfl, trivial⟩ (RLe.refl _) ?_
  exact ⟨rfl, rfl⟩

theorem DelayG_C {R : Ro} {fa : Option Addr} {fc : Nat} {cf : Cv} (hvf : validB cf = true) (ha : RS R 1 encI fa cf.vals) {ga : Option Addr} {gc : Nat} {cg : Cv} (hvg : validB cg = true) (hb : RS R 1 encI ga cg.vals) (w0 : World) (E : List Ent) : K.Fn Try.prog 37 [.agg #[.slice fa cf.vals.length fc, .int .i64 cf.per, .int .i64 cf.inc], .agg #[.slice ga cg.vals.length gc, .int .i64 cg.per, .int .i64 cg.inc]] w0 R E (fun v R' E' => v = .tuple #[.agg #[.bool ((devN (normR cf) (normR cg) (gapD (normR cf) (normR cg)))).1.1, .int .i64 ((devN (normR cf) (normR cg) (gapD (normR cf) (normR cg)))).1.2.1, .int .i64 ((devN (normR cf) (normR cg) (gapD (normR cf) (normR cg)))).1.2.2], .int .i64 ((devN (normR cf) (normR cg) (gapD (normR cf) (normR cg)))).2] ∧ E.Sublist E') := by
  have hnf := norm_nrm hvf
  have hng := norm_nrm hvg
  refine Fn.enter (n := 25) Try.func37 rfl rfl (Nat.le_of_ble_eq_true rfl) rfl ?_
  refine W.seq ?_
  refine W.region _ ?_
  refine WL.ef rfl rfl (by decide) (Ef.box rfl rfl (fun b2 => ?_))
  refine WL.ef rfl rfl (by decide) (Ef.box rfl rfl (fun b3 => ?_))
  refine WL.ef rfl rfl (by decide) (Ef.alloc tab_ok rfl rfl (fun b4 => ?_))
  refine WG.run tab_ok 1 rfl ?_
  refine WG.nil ?_
  refine WE.nxt ?_
  refine W.seq ?_
  refine W.region _ ?_
  refine' WG.y rfl rfl (by decide) (Yl.load1 tab_ok rfl rfl rfl (fun _ => rfl) ?r1 rfl ?h1) ?_
  case r1 => (first | exact Rd.ro (by assumption) | exact Rd.blk 0 rfl | exact Rd.blk 1 rfl | exact Rd.blk 2 rfl | exact Rd.blk 3 rfl | exact Rd.blk 4 rfl | exact Rd.blk 5 rfl)
  case h1 => rfl
  refine' WG.y rfl rfl (by decide) (Yl.load1 tab_ok rfl rfl rfl (fun _ => rfl) ?r2 rfl ?h2) ?_
  case r2 => (first | exact Rd.ro (by assumption) | exact Rd.blk 0 rfl | exact Rd.blk 1 rfl | exact Rd.blk 2 rfl | exact Rd.blk 3 rfl | exact Rd.blk 4 rfl | exact Rd.blk 5 rfl)
  case h2 => rfl
  refine WL.call en86 rfl rfl (by decide) (CallOp.mkT rfl rfl rfl rfl) (DBothG_C hvf ha hvg hb w0 _) ?_
  rintro _ R1 _ hR1 ⟨a1, n1, c1, p1, q1, a2, n2, c2, p2, q2, tk, lo, e, rfl, hpair, hsub⟩
  refine WL.subE hsub ?_
  refine WG.run tab_ok 3 rfl ?_
  refine WL.ef rfl rfl (by decide) (Ef.alloc tab_ok rfl rfl (fun b6 => ?_))
  first | refine WL.efN rfl rfl (Ef.store0 0 tab_ok rfl rfl rfl rfl rfl rfl rfl rfl ?_) | refine WL.efN rfl rfl (Ef.store0 1 tab_ok rfl rfl rfl rfl rfl rfl rfl rfl ?_) | refine WL.efN rfl rfl (Ef.store0 2 tab_ok rfl rfl rfl rfl rfl rfl rfl rfl ?_) | refine WL.efN rfl rfl (Ef.store0 3 tab_ok rfl rfl rfl rfl rfl rfl rfl rfl ?_) | refine WL.efN rfl rfl (Ef.store0 4 tab_ok rfl rfl rfl rfl rfl rfl rfl rfl ?_) | refine WL.efN rfl rfl (Ef.store0 5 tab_ok rfl rfl rfl rfl rfl rfl rfl rfl ?_)
  refine WG.run tab_ok 1 rfl ?_
  refine WG.nil ?_
  refine WE.nxt ?_
  refine W.seq ?_
  refine W.seq ?_
  refine W.region _ ?_
  refine WG.run tab_ok 2 rfl ?_
  refine WG.nil ?_
  refine WE.nxt ?_
  refine W.condN rfl (fun hc0 => ?_) (fun hc0 => ?_)
  · try dsimp only at hc0
    obtain ⟨rfl, hl⟩ : e = 3 ∧ 120 < lcmC (normR cf) (normR cg) := by
      rcases hpair with h | h
      · exact h
      · exact absurd h.1 hc0
    have hd : (devN (normR cf) (normR cg) (gapD (normR cf) (normR cg))) = ((false, 0, 0), 3) := by unfold devN; rw [if_pos hl]
    refine W.seq ?_
    refine W.region _ ?_
    -- build
    refine WG.y rfl rfl (by decide) (Yl.build (parts := []) tab_ok rfl rfl rfl rfl (fun _ => rfl) rfl rfl) ?_
    refine WG.run tab_ok 1 rfl ?_
    first | refine WL.efN rfl rfl (Ef.store0 0 tab_ok rfl rfl rfl rfl rfl rfl rfl rfl ?_) | refine WL.efN rfl rfl (Ef.store0 1 tab_ok rfl rfl rfl rfl rfl rfl rfl rfl ?_) | refine WL.efN rfl rfl (Ef.store0 2 tab_ok rfl rfl rfl rfl rfl rfl rfl rfl ?_) | refine WL.efN rfl rfl (Ef.store0 3 tab_ok rfl rfl rfl rfl rfl rfl rfl rfl ?_) | refine WL.efN rfl rfl (Ef.store0 4 tab_ok rfl rfl rfl rfl rfl rfl rfl rfl ?_) | refine WL.efN rfl rfl (Ef.store0 5 tab_ok rfl rfl rfl rfl rfl rfl rfl rfl ?_)
    refine WG.run tab_ok 1 rfl ?_
    refine WG.nil ?_
    refine WE.nxt ?_
    refine W.ret ?_
    refine WE.then_ret ?_
    refine WE.retF tab_ok [_, _] rfl ⟨⟨_, _, _, rfl, rfl, rfl, ((by first | exact Rd.blk 0 rfl | exact Rd.blk 1 rfl | exact Rd.blk 2 rfl | exact Rd.blk 3 rfl | exact Rd.blk 4 rfl | exact Rd.blk 5 rfl)), rfl⟩, rfl, trivial⟩ ((by first | exact hR1.trans (hR2.trans hR3) | exact hR1.trans hR2 | exact hR1)) ?_
    exact ⟨by rw [hd]; rfl, qS⟩
  · try dsimp only at hc0
    obtain ⟨rfl, hl, rfl, rfl, rfl, rfl, rfl, rfl, hx1, hx2, rfl, rfl⟩ := hpair.resolve_left (fun h => by omega)
    generalize normR cf = m1 at *
    generalize normR cg = m2 at *
    have hv1 := hnf.valid
    have hv2 := hng.valid
    have hs1 := stN_lt hv1
    have hs2 := stN_lt hv2
    refine W.skip ?_
    refine WE.nxt ?_
    refine W.seq ?_
    refine W.seq ?_
    refine W.region _ ?_
    refine WG.run tab_ok 1 rfl ?_
    refine' WG.y rfl rfl (by decide) (Yl.load1 tab_ok rfl rfl rfl (fun _ => rfl) ?r3 rfl ?h3) ?_
    case r3 => apply Rd.add; (first | exact Rd.ro (by assumption) | exact Rd.blk 0 rfl | exact Rd.blk 1 rfl | exact Rd.blk 2 rfl | exact Rd.blk 3 rfl | exact Rd.blk 4 rfl | exact Rd.blk 5 rfl)
    case h3 => rfl
    refine WG.nil ?_
    refine WE.nxt ?_
    refine W.cond rfl (fun hc1 => ?_) (fun hc1 => ?_)
    · try simp only [decide_eq_true_eq, decide_eq_false_iff_not, beq_iff_eq, bne_iff_ne, beq_eq_false_iff_ne, bne_eq_false_iff_eq, ne_eq, Bool.or_eq_true, Bool.or_eq_false_iff, Bool.and_eq_true, Bool.and_eq_false_imp, Bool.not_eq_true, Bool.not_eq_true', Bool.not_eq_false', Classical.not_not, Int.not_lt, Int.not_le, gt_iff_lt, ge_iff_le] at hc1
      have hlo : loose m1 m2 := by simpa using hc1
      have hd : devN m1 m2 (gapD m1 m2) = ((true, 0, 0), 0) := by unfold devN; rw [if_neg hl, if_pos hlo]
      refine W.seq ?_
      refine W.region _ ?_
      -- build
      refine WG.y rfl rfl (by decide) (Yl.build (parts := [(0, .const (.bool true))]) tab_ok rfl rfl rfl rfl (fun _ => rfl) rfl rfl) ?_
      first | refine WL.efN rfl rfl (Ef.store0 0 tab_ok rfl rfl rfl rfl rfl rfl rfl rfl ?_) | refine WL.efN rfl rfl (Ef.store0 1 tab_ok rfl rfl rfl rfl rfl rfl rfl rfl ?_) | refine WL.efN rfl rfl (Ef.store0 2 tab_ok rfl rfl rfl rfl rfl rfl rfl rfl ?_) | refine WL.efN rfl rfl (Ef.store0 3 tab_ok rfl rfl rfl rfl rfl rfl rfl rfl ?_) | refine WL.efN rfl rfl (Ef.store0 4 tab_ok rfl rfl rfl rfl rfl rfl rfl rfl ?_) | refine WL.efN rfl rfl (Ef.store0 5 tab_ok rfl rfl rfl rfl rfl rfl rfl rfl ?_)
      refine WG.run tab_ok 1 rfl ?_
      refine WG.nil ?_
      refine WE.nxt ?_
      refine W.ret ?_
      refine WE.then_ret ?_
      refine WE.retF tab_ok [_, _] rfl ⟨⟨_, _, _, rfl, rfl, rfl, ((by first | exact Rd.blk 0 rfl | exact Rd.blk 1 rfl | exact Rd.blk 2 rfl | exact Rd.blk 3 rfl | exact Rd.blk 4 rfl | exact Rd.blk 5 rfl)), rfl⟩, rfl, trivial⟩ ((by first | exact hR1.trans (hR2.trans hR3) | exact hR1.trans hR2 | exact hR1)) ?_
      exact ⟨by rw [hd]; rfl, qS⟩
    · try simp only [decide_eq_true_eq, decide_eq_false_iff_not, beq_iff_eq, bne_iff_ne, beq_eq_false_iff_ne, bne_eq_false_iff_eq, ne_eq, Bool.or_eq_true, Bool.or_eq_false_iff, Bool.and_eq_true, Bool.and_eq_false_imp, Bool.not_eq_true, Bool.not_eq_true', Bool.not_eq_false', Classical.not_not, Int.not_lt, Int.not_le, gt_iff_lt, ge_iff_le] at hc1
      have hlo : ¬ loose m1 m2 := by simpa using hc1
      have hd : devN m1 m2 (gapD m1 m2) = (greatW (gapD m1 m2) (max (stN m1) (stN m2) + lcmC m1 m2) 0 0 0, 0) := by unfold devN; rw [if_neg hl, if_neg hlo]
      refine W.skip ?_
      refine WE.nxt ?_
      refine W.freezeBlk 0 rfl ?_
      intro R2 hR2 hb6
      have hF : ∀ t : Nat, t < max (stN m1) (stN m2) + lcmC m1 m2 → FnV Try.prog 88 ((#[] : Array Value).toList ++ [.int .i64 (t : Int)] ++ (#[.pointer (some ⟨b6, 0, none⟩)] : Array Value).toList) R2 (.tuple #[.int .i64 (gapD m1 m2 t).1, .bool (gapD m1 m2 t).2]) := fun t ht => DelayFG_V hv1 (hx1.mono hR2) hv2 (hx2.mono hR2) hb6 (by omega)
      refine W.seq ?_
      refine W.region _ ?_
      refine WG.run tab_ok 1 rfl ?_
      refine' WG.y rfl rfl (by decide) (Yl.load1 tab_ok rfl rfl rfl (fun _ => rfl) ?r4 rfl ?h4) ?_
      case r4 => apply Rd.add; (first | exact Rd.ro (by assumption) | exact Rd.blk 0 rfl | exact Rd.blk 1 rfl | exact Rd.blk 2 rfl | exact Rd.blk 3 rfl | exact Rd.blk 4 rfl | exact Rd.blk 5 rfl)
      case h4 => rfl
      refine WG.run tab_ok 1 rfl ?_
      refine WG.callV en87 rfl rfl (by decide) (CallOp.mk' rfl rfl rfl rfl) (fun _ => rfl) (fun hg => Greatest_V (f := gapD m1 m2) (n := max (stN m1) (stN m2) + lcmC m1 m2) en88 hF (by omega)) ?_
      first | refine WL.efN rfl rfl (Ef.store0 0 tab_ok rfl rfl rfl rfl rfl rfl rfl rfl ?_) | refine WL.efN rfl rfl (Ef.store0 1 tab_ok rfl rfl rfl rfl rfl rfl rfl rfl ?_) | refine WL.efN rfl rfl (Ef.store0 2 tab_ok rfl rfl rfl rfl rfl rfl rfl rfl ?_) | refine WL.efN rfl rfl (Ef.store0 3 tab_ok rfl rfl rfl rfl rfl rfl rfl rfl ?_) | refine WL.efN rfl rfl (Ef.store0 4 tab_ok rfl rfl rfl rfl rfl rfl rfl rfl ?_) | refine WL.efN rfl rfl (Ef.store0 5 tab_ok rfl rfl rfl rfl rfl rfl rfl rfl ?_)
      refine WG.run tab_ok 1 rfl ?_
      refine WG.nil ?_
      refine WE.nxt ?_
      refine W.ret ?_
      refine WE.retF tab_ok [_, _] rfl ⟨⟨_, _, _, rfl, rfl, rfl, ((by first | exact Rd.blk 0 rfl | exact Rd.blk 1 rfl | exact Rd.blk 2 rfl | exact Rd.blk 3 rfl | exact Rd.blk 4 rfl | exact Rd.blk 5 rfl)), rfl⟩, rfl, trivial⟩ ((by first | exact hR1.trans (hR2.trans hR3) | exact hR1.trans hR2 | exact hR1)) ?_
      exact ⟨by rw [hd]; rfl, qS⟩

end Go.Proofs.Ytolmmfphdieilaa

/- Reference 17: parts. No condition. -/
set_option linter.unusedSimpArgs false
set_option linter.unusedVariables false
namespace Go.Proofs.Ytolmmfphdieilaa
open Go Go.RowKit Go.Proofs.Ytolmmfphdieilaa.K Go.Proofs.Ytolmmfphdieilaa.M

end Go.Proofs.Ytolmmfphdieilaa

/- Reference 10: delays. No condition. -/
set_option linter.unusedSimpArgs false
set_option linter.unusedVariables false
namespace Go.Proofs.Ytolmmfphdieilaa
open Go Go.RowKit Go.Proofs.Ytolmmfphdieilaa.K Go.Proofs.Ytolmmfphdieilaa.M

end Go.Proofs.Ytolmmfphdieilaa

/- The least delay over all thetas. No condition. -/
set_option linter.unusedSimpArgs false
set_option linter.unusedVariables false
namespace Go.Proofs.Ytolmmfphdieilaa
open Go Go.RowKit Go.Proofs.Ytolmmfphdieilaa.K Go.Proofs.Ytolmmfphdieilaa.M

theorem dev_bound {a b : Cv} (ha : validB a = true) (hb : validB b = true) : 0 ≤ (devN a b (gapD a b)).1.2.1 ∧ (devN a b (gapD a b)).1.2.1 ≤ 1000000000000000000 := by
  have s1 := stN_lt ha
  have s2 := stN_lt hb
  unfold devN
  by_cases hl : 120 < lcmC a b
  · rw [if_pos hl]; decide
  rw [if_neg hl]
  by_cases hlo : loose a b
  · rw [if_pos hlo]; decide
  rw [if_neg hlo]
  have hbd := greatW_bound (f := gapD a b) (B := 1000000000000000000) (max (stN a) (stN b) + lcmC a b) 0 0 0 (fun u u1 u2 => by
    have := (reachG_bound hb (cvF_low15 ha (show u ≤ 100000 by omega))).2
    unfold gapD; dsimp only; omega) (by decide) (by decide) (by decide) (by decide)
  exact ⟨hbd.1, hbd.2.1⟩

theorem LessD_V {R : Ro} {i j : Bool} {v u a b : Int} (hv : InR v) (hu : InR u) : FnV Try.prog 74 [.agg #[.bool i, .int .i64 v, .int .i64 a], .agg #[.bool j, .int .i64 u, .int .i64 b]] R (.bool (lessD (i, v, a) (j, u, b))) := by
  refine Fn.toV (fun w0 E => ?_)
  refine Fn.enter (n := 19) Try.func74 rfl rfl (Nat.le_of_ble_eq_true rfl) rfl ?_
  refine W.seq ?_
  refine W.region _ ?_
  refine WL.ef rfl rfl (by decide) (Ef.box rfl rfl (fun b2 => ?_))
  refine WL.ef rfl rfl (by decide) (Ef.box rfl rfl (fun b3 => ?_))
  refine WG.run tab_ok 1 rfl ?_
  refine WG.nil ?_
  refine WE.nxt ?_
  refine W.seq ?_
  refine W.region _ ?_
  refine WG.run tab_ok 1 rfl ?_
  refine' WG.y rfl rfl (by decide) (Yl.load1 tab_ok rfl rfl rfl (fun _ => rfl) ?r1 rfl ?h1) ?_
  case r1 => apply Rd.add; (first | exact Rd.blk 0 rfl | exact Rd.blk 1 rfl | exact Rd.blk 2 rfl)
  case h1 => rfl
  refine WG.run tab_ok 2 rfl ?_
  refine WG.y rfl rfl (by decide) (pureV_ok tab_ok rfl qE) ?_
  refine' WG.y rfl rfl (by decide) (Yl.loadG tab_ok rfl rfl rfl qE ?r2 rfl ?h2 ?g2) ?_
  case r2 => apply Rd.addC; (first | exact Rd.blkC 0 rfl | exact Rd.blkC 1 rfl | exact Rd.blkC 2 rfl)
  case h2 => rfl
  case g2 => first | exact fun _ => trivial | (intro hg; (try simp only [decide_eq_true_eq, decide_eq_false_iff_not, beq_iff_eq, bne_iff_ne, beq_eq_false_iff_ne, bne_eq_false_iff_eq, ne_eq, Bool.or_eq_true, Bool.or_eq_false_iff, Bool.and_eq_true, Bool.and_eq_false_imp, Bool.not_eq_true, Bool.not_eq_true', Bool.not_eq_false', Classical.not_not, Int.not_lt, Int.not_le, gt_iff_lt, ge_iff_le] at hg); (try dsimp only); omega)
  refine WG.y rfl rfl (by decide) (pureV_ok tab_ok rfl qE) ?_
  refine WG.y rfl rfl (by decide) (pureV_ok tab_ok rfl qE) ?_
  refine' WG.y rfl rfl (by decide) (Yl.loadG tab_ok rfl rfl rfl qE ?r3 rfl ?h3 ?g3) ?_
  case r3 => apply Rd.addC; (first | exact Rd.blkC 0 rfl | exact Rd.blkC 1 rfl | exact Rd.blkC 2 rfl)
  case h3 => rfl
  case g3 => first | exact fun _ => trivial | (intro hg; (try simp only [decide_eq_true_eq, decide_eq_false_iff_not, beq_iff_eq, bne_iff_ne, beq_eq_false_iff_ne, bne_eq_false_iff_eq, ne_eq, Bool.or_eq_true, Bool.or_eq_false_iff, Bool.and_eq_true, Bool.and_eq_false_imp, Bool.not_eq_true, Bool.not_eq_true', Bool.not_eq_false', Classical.not_not, Int.not_lt, Int.not_le, gt_iff_lt, ge_iff_le] at hg); (try dsimp only); omega)
  refine WG.y rfl rfl (by decide) (pureV_ok tab_ok rfl qE) ?_
  refine' WG.y rfl rfl (by decide) (Yl.loadG tab_ok rfl rfl rfl qE ?r4 rfl ?h4 ?g4) ?_
  case r4 => apply Rd.addC; (first | exact Rd.blkC 0 rfl | exact Rd.blkC 1 rfl | exact Rd.blkC 2 rfl)
  case h4 => rfl
  case g4 => first | exact fun _ => trivial | (intro hg; (try simp only [decide_eq_true_eq, decide_eq_false_iff_not, beq_iff_eq, bne_iff_ne, beq_eq_false_iff_ne, bne_eq_false_iff_eq, ne_eq, Bool.or_eq_true, Bool.or_eq_false_iff, Bool.and_eq_true, Bool.and_eq_false_imp, Bool.not_eq_true, Bool.not_eq_true', Bool.not_eq_false', Classical.not_not, Int.not_lt, Int.not_le, gt_iff_lt, ge_iff_le] at hg); (try dsimp only); omega)
  refine WG.y rfl rfl (by decide) (pureV_ok tab_ok rfl qE) ?_
  refine WG.y rfl rfl (by decide) (Yl.por rfl rfl rfl qE (by intro h1 h2; simp_all <;> omega)) ?_
  refine WG.y rfl rfl (by decide) (Yl.pand rfl rfl rfl (fun _ => rfl) (by intro h1 h2; simp_all <;> omega)) ?_
  refine WG.run tab_ok 1 rfl ?_
  refine WG.nil ?_
  refine WE.nxt ?_
  refine W.ret ?_
  refine WE.subE (E' := E) qS ?_
  refine WE.retF tab_ok [_] rfl ⟨rfl, trivial⟩ (RLe.refl _) ?_
  exact ⟨rfl, rfl⟩

set_option maxHeartbeats 4000000 in
theorem SLeastG_C {R : Ro} {fa : Option Addr} {fc : Nat} {ca : Cv} (hva : validB ca = true) (ha : RS R 1 encI fa ca.vals) {ga : Option Addr} {gc : Nat} {cb : Cv} (hvb : validB cb = true) (hb : RS R 1 encI ga cb.vals) {oa : Option Addr} {oc : Nat} {co : Cv} (hvo : validB co = true) (ho : RS R 1 encI oa co.vals) {most : Nat} (hm : most ≤ 50) (w0 : World) (E : List Ent) : K.Fn Try.prog 28 [.agg #[.slice fa ca.vals.length fc, .int .i64 ca.per, .int .i64 ca.inc], .agg #[.slice ga cb.vals.length gc, .int .i64 cb.per, .int .i64 cb.inc], .agg #[.slice oa co.vals.length oc, .int .i64 co.per, .int .i64 co.inc], .int .i64 (most : Int)] w0 R E (fun r R' E' => r = .tuple #[.int .i64 (outD (leastGo (normR ca) (normR cb) (normR co) (most + 1) 0 none)).1.1, .agg #[.bool (outD (leastGo (normR ca) (normR cb) (normR co) (most + 1) 0 none)).1.2.1, .int .i64 (outD (leastGo (normR ca) (normR cb) (normR co) (most + 1) 0 none)).1.2.2.1, .int .i64 (outD (leastGo (normR ca) (normR cb) (normR co) (most + 1) 0 none)).1.2.2.2], .int .i64 (outD (leastGo (normR ca) (normR cb) (normR co) (most + 1) 0 none)).2] ∧ E.Sublist E') := by
  refine Fn.enter (n := 87) Try.func28 rfl rfl (Nat.le_of_ble_eq_true rfl) rfl ?_
  refine W.seq ?_
  refine W.region _ ?_
  refine WL.ef rfl rfl (by decide) (Ef.box rfl rfl (fun b4 => ?_))
  refine WL.ef rfl rfl (by decide) (Ef.box rfl rfl (fun b5 => ?_))
  refine WL.ef rfl rfl (by decide) (Ef.box rfl rfl (fun b6 => ?_))
  refine WG.run tab_ok 1 rfl ?_
  refine WL.ef rfl rfl (by decide) (Ef.alloc tab_ok rfl rfl (fun b9 => ?_))
  refine WG.run tab_ok 1 rfl ?_
  refine WG.nil ?_
  refine WE.nxt ?_
  refine W.seq ?_
  refine W.seq ?_
  refine W.region _ ?_
  refine' WG.y rfl rfl (by decide) (Yl.load1 tab_ok rfl rfl rfl (fun _ => rfl) ?r1 rfl ?h1) ?_
  case r1 => (first | exact Rd.ro (by assumption) | exact Rd.blk 0 rfl | exact Rd.blk 1 rfl | exact Rd.blk 2 rfl | exact Rd.blk 3 rfl | exact Rd.blk 4 rfl | exact Rd.blk 5 rfl | exact Rd.blk 6 rfl | exact Rd.blk 7 rfl)
  case h1 => rfl
  refine WG.callV (v := .bool true) en67 rfl rfl (by decide) (CallOp.mk' rfl rfl rfl rfl) (fun _ => rfl) (fun hg => by
    have h := CValidG_V (fc := fc) (c := ca) ha (by have := valid_range hva; omega)
    rw [hva] at h
    exact h) ?_
  refine WG.run tab_ok 2 rfl ?_
  refine' WG.y rfl rfl (by decide) (Yl.loadG tab_ok rfl rfl rfl qE ?r2 rfl ?h2 ?g2) ?_
  case r2 => (first | exact fun _ => Rd.ro (by assumption) | exact Rd.blkC 0 rfl | exact Rd.blkC 1 rfl | exact Rd.blkC 2 rfl | exact Rd.blkC 3 rfl | exact Rd.blkC 4 rfl | exact Rd.blkC 5 rfl | exact Rd.blkC 6 rfl | exact Rd.blkC 7 rfl)
  case h2 => rfl
  case g2 => first | exact fun _ => trivial | (intro hg; (try simp only [decide_eq_true_eq, decide_eq_false_iff_not, beq_iff_eq, bne_iff_ne, beq_eq_false_iff_ne, bne_eq_false_iff_eq, ne_eq, Bool.or_eq_true, Bool.or_eq_false_iff, Bool.and_eq_true, Bool.and_eq_false_imp, Bool.not_eq_true, Bool.not_eq_true', Bool.not_eq_false', Classical.not_not, Int.not_lt, Int.not_le, gt_iff_lt, ge_iff_le] at hg); (try dsimp only); omega)
  refine WG.callV (v := .bool true) en67 rfl rfl (by decide) (CallOp.mk' rfl rfl rfl rfl) qE (fun hg => by
    have h := CValidG_V (fc := gc) (c := cb) hb (by have := valid_range hvb; omega)
    rw [hvb] at h
    exact h) ?_
  refine WG.y rfl rfl (by decide) (pureV_ok tab_ok rfl qE) ?_
  refine WG.y rfl rfl (by decide) (Yl.por rfl rfl rfl (fun _ => rfl) (by intro h1 h2; simp_all <;> omega)) ?_
  refine WG.run tab_ok 1 rfl ?_
  refine' WG.y rfl rfl (by decide) (Yl.loadG tab_ok rfl rfl rfl qE ?r3 rfl ?h3 ?g3) ?_
  case r3 => (first | exact fun _ => Rd.ro (by assumption) | exact Rd.blkC 0 rfl | exact Rd.blkC 1 rfl | exact Rd.blkC 2 rfl | exact Rd.blkC 3 rfl | exact Rd.blkC 4 rfl | exact Rd.blkC 5 rfl | exact Rd.blkC 6 rfl | exact Rd.blkC 7 rfl)
  case h3 => rfl
  case g3 => first | exact fun _ => trivial | (intro hg; (try simp only [decide_eq_true_eq, decide_eq_false_iff_not, beq_iff_eq, bne_iff_ne, beq_eq_false_iff_ne, bne_eq_false_iff_eq, ne_eq, Bool.or_eq_true, Bool.or_eq_false_iff, Bool.and_eq_true, Bool.and_eq_false_imp, Bool.not_eq_true, Bool.not_eq_true', Bool.not_eq_false', Classical.not_not, Int.not_lt, Int.not_le, gt_iff_lt, ge_iff_le] at hg); (try dsimp only); omega)
  refine WG.callV (v := .bool true) en67 rfl rfl (by decide) (CallOp.mk' rfl rfl rfl rfl) qE (fun hg => by
    have h := CValidG_V (fc := oc) (c := co) ho (by have := valid_range hvo; omega)
    rw [hvo] at h
    exact h) ?_
  refine WG.y rfl rfl (by decide) (pureV_ok tab_ok rfl qE) ?_
  refine WG.y rfl rfl (by decide) (Yl.por rfl rfl rfl (fun _ => rfl) (by intro h1 h2; simp_all <;> omega)) ?_
  refine WG.nil ?_
  refine WE.nxt ?_
  refine W.cond rfl (fun hc0 => ?_) (fun hc0 => ?_)
  · try simp only [decide_eq_true_eq, decide_eq_false_iff_not, beq_iff_eq, bne_iff_ne, beq_eq_false_iff_ne, bne_eq_false_iff_eq, ne_eq, Bool.or_eq_true, Bool.or_eq_false_iff, Bool.and_eq_true, Bool.and_eq_false_imp, Bool.not_eq_true, Bool.not_eq_true', Bool.not_eq_false', Classical.not_not, Int.not_lt, Int.not_le, gt_iff_lt, ge_iff_le] at hc0
    first | done | (simp at hc0; done) | exact absurd hc0 (by decide)
  · try simp only [decide_eq_true_eq, decide_eq_false_iff_not, beq_iff_eq, bne_iff_ne, beq_eq_false_iff_ne, bne_eq_false_iff_eq, ne_eq, Bool.or_eq_true, Bool.or_eq_false_iff, Bool.and_eq_true, Bool.and_eq_false_imp, Bool.not_eq_true, Bool.not_eq_true', Bool.not_eq_false', Classical.not_not, Int.not_lt, Int.not_le, gt_iff_lt, ge_iff_le] at hc0
    refine W.skip ?_
    refine WE.nxt ?_
    refine W.seq ?_
    refine W.seq ?_
    refine W.region _ ?_
    refine WG.run tab_ok 3 rfl ?_
    refine WG.y rfl rfl (by decide) (pureV_ok tab_ok rfl qE) ?_
    refine WG.y rfl rfl (by decide) (pureV_ok tab_ok rfl qE) ?_
    refine WG.y rfl rfl (by decide) (Yl.por rfl rfl rfl (fun _ => rfl) (by intro h1 h2; simp_all <;> omega)) ?_
    refine WG.nil ?_
    refine WE.nxt ?_
    refine W.cond rfl (fun hc1 => ?_) (fun hc1 => ?_)
    · try simp only [decide_eq_true_eq, decide_eq_false_iff_not, beq_iff_eq, bne_iff_ne, beq_eq_false_iff_ne, bne_eq_false_iff_eq, ne_eq, Bool.or_eq_true, Bool.or_eq_false_iff, Bool.and_eq_true, Bool.and_eq_false_imp, Bool.not_eq_true, Bool.not_eq_true', Bool.not_eq_false', Classical.not_not, Int.not_lt, Int.not_le, gt_iff_lt, ge_iff_le] at hc1
      omega
    · try simp only [decide_eq_true_eq, decide_eq_false_iff_not, beq_iff_eq, bne_iff_ne, beq_eq_false_iff_ne, bne_eq_false_iff_eq, ne_eq, Bool.or_eq_true, Bool.or_eq_false_iff, Bool.and_eq_true, Bool.and_eq_false_imp, Bool.not_eq_true, Bool.not_eq_true', Bool.not_eq_false', Classical.not_not, Int.not_lt, Int.not_le, gt_iff_lt, ge_iff_le] at hc1
      refine W.skip ?_
      refine WE.nxt ?_
      refine W.seq ?_
      refine W.region _ ?_
      refine WG.run tab_ok 1 rfl ?_
      refine WG.nil ?_
      refine WE.nxt ?_
      refine W.seq ?_
      refine W.seq ?_
      refine W.region _ ?_
      refine WG.run tab_ok 1 rfl ?_
      refine WG.y rfl rfl (by decide) (Yl.add rfl rfl rfl (fun _ => rfl) (by intro _; constructor <;> (try dsimp only) <;> omega)) ?_
      refine WG.run tab_ok 1 rfl ?_
      refine WG.nil ?_
      refine WE.nxt ?_
      refine W.block ?_
      refine W.loopR (β := Nat × Option Addr × Best × Ro) (fun (k, p, best, Rk) => k ≤ most + 1 ∧ RLe R Rk ∧ BestR Rk p best ∧ (∀ y, best = some y → InR y.2.2.1) ∧ leastGo (normR ca) (normR cb) (normR co) (most + 1 - k) k best = (leastGo (normR ca) (normR cb) (normR co) (most + 1) 0 none)) (fun (k, p, best, Rk) => [(11, true, .pointer p), (39, true, .int .i64 (k : Int))]) [4, 5, 6, 9, 38] [_, _, _, _, _] [] _ rfl (fun (k, p, best, Rk) => []) (fun (k, p, best, Rk) => Rk) (fun (k, p, best, Rk) => most + 1 - k) ((0, none, none, R)) (⟨Nat.zero_le _, RLe.refl _, .inl ⟨rfl, rfl⟩, (fun y h => by cases h), rfl⟩) ⟨rfl, rfl, rfl, rfl, rfl, rfl, rfl, rfl⟩ (RLe.refl _) qS ?_
      intro zz hst
      obtain ⟨k, p, best, Rk⟩ := zz
      dsimp only [zipE, setAll, List.cons_append, List.nil_append, List.set_cons_zero, List.set_cons_succ] at hst ⊢
      obtain ⟨hk, hRk, hbest, hbin, hgo⟩ := hst
      refine W.seq ?_
      refine W.region _ ?_
      refine WG.run tab_ok 1 rfl ?_
      refine WG.nil ?_
      refine WE.nxt ?_
      refine W.seq ?_
      refine W.condD rfl (fun hc2 => ?_) (fun hc2 => ?_)
      · try dsimp only at hc2
        have hkm : k ≤ most := by omega
        refine W.skip ?_
        refine WE.nxt ?_
        refine W.seq ?_
        refine W.block ?_
        refine W.seq ?_
        refine W.region _ ?_
        refine WG.run tab_ok 2 rfl ?_
        refine WG.nil ?_
        refine WE.nxt ?_
        refine W.seq ?_
        refine W.region _ ?_
        refine' WG.y rfl rfl (by decide) (Yl.load1 tab_ok rfl rfl rfl (fun _ => rfl) ?r4 rfl ?h4) ?_
        case r4 => (first | exact Rd.ro (by assumption) | exact Rd.blk 0 rfl | exact Rd.blk 1 rfl | exact Rd.blk 2 rfl | exact Rd.blk 3 rfl | exact Rd.blk 4 rfl | exact Rd.blk 5 rfl | exact Rd.blk 6 rfl | exact Rd.blk 7 rfl)
        case h4 => rfl
        refine' WG.y rfl rfl (by decide) (Yl.load1 tab_ok rfl rfl rfl (fun _ => rfl) ?r5 rfl ?h5) ?_
        case r5 => (first | exact Rd.ro (by assumption) | exact Rd.blk 0 rfl | exact Rd.blk 1 rfl | exact Rd.blk 2 rfl | exact Rd.blk 3 rfl | exact Rd.blk 4 rfl | exact Rd.blk 5 rfl | exact Rd.blk 6 rfl | exact Rd.blk 7 rfl)
        case h5 => rfl
        refine WG.run tab_ok 1 rfl ?_
        refine WL.call en14 rfl rfl (by decide) (CallOp.mkT rfl rfl rfl rfl) (SRestG_C (th := k) hvb (hb.mono hRk) hvo (ho.mono hRk) (by omega) w0 _) ?_
        rintro _ R3 _ hR3 ⟨fx, fxc, rfl, hfx, hsubx⟩
        refine WL.subE hsubx ?_
        unfold cvV
        have hres := share_res (th := k) (norm_nrm hvb).valid (norm_nrm hvo).valid
        generalize hsx : shareN (normR cb) (normR co) k = sx at hfx hres ⊢
        obtain ⟨cx, ex⟩ := sx
        dsimp only at hfx hres ⊢
        refine WG.run tab_ok 3 rfl ?_
        refine WL.ef rfl rfl (by decide) (Ef.alloc tab_ok rfl rfl (fun b13 => ?_))
        first | refine WL.efN rfl rfl (Ef.store0 0 tab_ok rfl rfl rfl rfl rfl rfl rfl rfl ?_) | refine WL.efN rfl rfl (Ef.store0 1 tab_ok rfl rfl rfl rfl rfl rfl rfl rfl ?_) | refine WL.efN rfl rfl (Ef.store0 2 tab_ok rfl rfl rfl rfl rfl rfl rfl rfl ?_) | refine WL.efN rfl rfl (Ef.store0 3 tab_ok rfl rfl rfl rfl rfl rfl rfl rfl ?_) | refine WL.efN rfl rfl (Ef.store0 4 tab_ok rfl rfl rfl rfl rfl rfl rfl rfl ?_) | refine WL.efN rfl rfl (Ef.store0 5 tab_ok rfl rfl rfl rfl rfl rfl rfl rfl ?_) | refine WL.efN rfl rfl (Ef.store0 6 tab_ok rfl rfl rfl rfl rfl rfl rfl rfl ?_) | refine WL.efN rfl rfl (Ef.store0 7 tab_ok rfl rfl rfl rfl rfl rfl rfl rfl ?_)
        refine WG.run tab_ok 1 rfl ?_
        refine WG.nil ?_
        refine WE.nxt ?_
        refine W.seq ?_
        refine W.seq ?_
        refine W.region _ ?_
        refine WG.run tab_ok 2 rfl ?_
        refine WG.nil ?_
        refine WE.nxt ?_
        refine W.condN rfl (fun hc3 => ?_) (fun hc3 => ?_)
        · try dsimp only at hc3
          have hstep : stepD (normR ca) (normR cb) (normR co) k best = best := by
            unfold stepD; rw [hsx, if_pos hc3]
          have hbest := hbest.mono hR3
          obtain ⟨n, hn⟩ : ∃ n, most + 1 - k = n + 1 := ⟨most + 1 - k - 1, by omega⟩
          have hn2 : most + 1 - (k + 1) = n := by omega
          rw [hn, leastGo, hstep, ← hn2] at hgo
          refine W.exit ?_
          refine WE.then_exit ?_
          refine WE.blk_exit ?_
          refine WE.nxt ?_
          refine W.region _ ?_
          refine WG.y rfl rfl (by decide) (Yl.add rfl rfl rfl (fun _ => rfl) (by intro _; constructor <;> (try dsimp only) <;> omega)) ?_
          refine WG.run tab_ok 1 rfl ?_
          refine WG.nil ?_
          refine WE.again ((k + 1, p, best, R3)) (⟨by (try dsimp only); omega, hRk.trans hR3, hbest, hbin, hgo⟩) (by (try dsimp only); omega) ⟨rfl, rfl, rfl, rfl, rfl, rfl, rfl, rfl⟩ (RLe.refl _) qS
        · try dsimp only at hc3
          obtain rfl : ex = 0 := by first | exact hc3 | simpa using hc3
          have hvx : validB cx = true := by
            rcases hres with h | ⟨c, h1, h2, _⟩
            · exact absurd (show (0 : Int) = 3 from congrArg Prod.snd h) (by decide)
            · rw [show cx = c from congrArg Prod.fst h1]; exact h2.valid
          refine W.skip ?_
          refine WE.nxt ?_
          refine W.seq ?_
          refine W.region _ ?_
          refine' WG.y rfl rfl (by decide) (Yl.load1 tab_ok rfl rfl rfl (fun _ => rfl) ?r6 rfl ?h6) ?_
          case r6 => (first | exact Rd.ro (by assumption) | exact Rd.blk 0 rfl | exact Rd.blk 1 rfl | exact Rd.blk 2 rfl | exact Rd.blk 3 rfl | exact Rd.blk 4 rfl | exact Rd.blk 5 rfl | exact Rd.blk 6 rfl | exact Rd.blk 7 rfl)
          case h6 => rfl
          refine' WG.y rfl rfl (by decide) (Yl.load1 tab_ok rfl rfl rfl (fun _ => rfl) ?r7 rfl ?h7) ?_
          case r7 => (first | exact Rd.ro (by assumption) | exact Rd.blk 0 rfl | exact Rd.blk 1 rfl | exact Rd.blk 2 rfl | exact Rd.blk 3 rfl | exact Rd.blk 4 rfl | exact Rd.blk 5 rfl | exact Rd.blk 6 rfl | exact Rd.blk 7 rfl)
          case h7 => rfl
          refine WL.call en37 rfl rfl (by decide) (CallOp.mkT rfl rfl rfl rfl) (DelayG_C hva (ha.mono (hRk.trans hR3)) hvx hfx w0 _) ?_
          rintro _ R4 _ hR4 ⟨rfl, hsub4⟩
          refine WL.subE hsub4 ?_
          have hdb := dev_bound (norm_nrm hva).valid (norm_nrm hvx).valid
          generalize hdx : devN (normR ca) (normR cx) (gapD (normR ca) (normR cx)) = dx at hdb ⊢
          obtain ⟨⟨di, dv, da⟩, ed⟩ := dx
          dsimp only at hdb ⊢
          have hstep : stepD (normR ca) (normR cb) (normR co) k best = if ed = 0 ∧ betterD (di, dv, da) best = true then some (k, di, dv, da) else best := by
            unfold stepD; rw [hsx]; dsimp only; rw [hdx, if_neg (fun h => h rfl)]
          have hbest := hbest.mono (hR3.trans hR4)
          have hvd : InR dv := by constructor <;> omega
          obtain ⟨n, hn⟩ : ∃ n, most + 1 - k = n + 1 := ⟨most + 1 - k - 1, by omega⟩
          have hn2 : most + 1 - (k + 1) = n := by omega
          rw [hn, leastGo, hstep] at hgo
          refine WG.run tab_ok 3 rfl ?_
          refine WL.ef rfl rfl (by decide) (Ef.alloc tab_ok rfl rfl (fun b15 => ?_))
          first | refine WL.efN rfl rfl (Ef.store0 0 tab_ok rfl rfl rfl rfl rfl rfl rfl rfl ?_) | refine WL.efN rfl rfl (Ef.store0 1 tab_ok rfl rfl rfl rfl rfl rfl rfl rfl ?_) | refine WL.efN rfl rfl (Ef.store0 2 tab_ok rfl rfl rfl rfl rfl rfl rfl rfl ?_) | refine WL.efN rfl rfl (Ef.store0 3 tab_ok rfl rfl rfl rfl rfl rfl rfl rfl ?_) | refine WL.efN rfl rfl (Ef.store0 4 tab_ok rfl rfl rfl rfl rfl rfl rfl rfl ?_) | refine WL.efN rfl rfl (Ef.store0 5 tab_ok rfl rfl rfl rfl rfl rfl rfl rfl ?_) | refine WL.efN rfl rfl (Ef.store0 6 tab_ok rfl rfl rfl rfl rfl rfl rfl rfl ?_) | refine WL.efN rfl rfl (Ef.store0 7 tab_ok rfl rfl rfl rfl rfl rfl rfl rfl ?_)
          refine WG.run tab_ok 1 rfl ?_
          refine WG.nil ?_
          refine WE.nxt ?_
          refine W.seq ?_
          have hb2 := hbest
          rcases hb2 with ⟨rfl, rfl⟩ | ⟨bb, th, i, v, a, rfl, rfl, hbb⟩
          ·
            skip
            refine W.regionQ _ mixed (by kernel_rfl) ?_
            refine WG.run tab_ok 3 rfl ?_
            refine WG.y rfl rfl (by decide) (pureV_ok tab_ok rfl qE) ?_
            refine WG.y rfl rfl (by decide) (Yl.ptrNil tab_ok rfl rfl rfl rfl rfl qE) ?_
            refine WG.y rfl rfl (by decide) (pureV_ok tab_ok rfl qE) ?_
            refine WG.y rfl rfl (by decide) (Yl.off (v := .agg #[.bool di, .int .i64 dv, .int .i64 da]) (by simp)) ?_
            refine WG.y rfl rfl (by decide) (Yl.off (v := .pointer none) (by simp)) ?_
            refine WG.y rfl rfl (by decide) (Yl.off (v := .pointer none) (by simp)) ?_
            refine WG.y rfl rfl (by decide) (Yl.off (v := .pointer none) (by simp)) ?_
            refine WG.y rfl rfl (by decide) (Yl.off (v := .agg #[.bool di, .int .i64 dv, .int .i64 da]) (by simp)) ?_
            refine WG.callV (v := .bool false) en74 rfl rfl (by decide) (CallOp.mk' rfl rfl rfl rfl) qE (fun hg => by exfalso; revert hg; simp) ?_
            refine WG.y rfl rfl (by decide) (Yl.por rfl rfl rfl qE (by intro h1 h2; simp_all <;> omega)) ?_
            refine WG.y rfl rfl (by decide) (Yl.pand rfl rfl rfl (fun _ => rfl) (by intro h1 h2; simp_all <;> omega)) ?_
            refine WG.nil ?_
            refine WE.nxt ?_
            refine W.cond rfl (fun hc4 => ?_) (fun hc4 => ?_)
            · try simp only [decide_eq_true_eq, decide_eq_false_iff_not, beq_iff_eq, bne_iff_ne, beq_eq_false_iff_ne, bne_eq_false_iff_eq, ne_eq, Bool.or_eq_true, Bool.or_eq_false_iff, Bool.and_eq_true, Bool.and_eq_false_imp, Bool.not_eq_true, Bool.not_eq_true', Bool.not_eq_false', Classical.not_not, Int.not_lt, Int.not_le, gt_iff_lt, ge_iff_le] at hc4
              have hyes : ed = 0 ∧ betterD (di, dv, da) none = true := by first | exact hc4 | exact ⟨hc4.1, rfl⟩ | exact ⟨hc4, rfl⟩ | exact ⟨hc4.1, hc4.2.resolve_left (by simp)⟩
              rw [if_pos hyes, ← hn2] at hgo
              refine W.region _ ?_
              refine WG.run tab_ok 1 rfl ?_
              refine' WG.y rfl rfl (by decide) (Yl.load1 tab_ok rfl rfl rfl (fun _ => rfl) ?r8 rfl ?h8) ?_
              case r8 => (first | exact Rd.ro (by assumption) | exact Rd.blk 0 rfl | exact Rd.blk 1 rfl | exact Rd.blk 2 rfl | exact Rd.blk 3 rfl | exact Rd.blk 4 rfl | exact Rd.blk 5 rfl | exact Rd.blk 6 rfl | exact Rd.blk 7 rfl)
              case h8 => rfl
              -- build
              refine WG.y rfl rfl (by decide) (Yl.build (parts := [(0, .tmp 71), (1, .tmp 72)]) tab_ok rfl rfl rfl rfl (fun _ => rfl) rfl rfl) ?_
              refine WL.ef rfl rfl (by decide) (Ef.box rfl rfl (fun b74 => ?_))
              refine WL.freezeBlk 0 rfl ?_
              intro R5 hR5 hb74
              refine WG.run tab_ok 1 rfl ?_
              refine WG.nil ?_
              refine WE.blk _ ?_
              refine WE.nxt ?_
              refine W.region _ ?_
              refine WG.y rfl rfl (by decide) (Yl.add rfl rfl rfl (fun _ => rfl) (by intro _; constructor <;> (try dsimp only) <;> omega)) ?_
              refine WG.run tab_ok 1 rfl ?_
              refine WG.nil ?_
              refine WE.again ((k + 1, some ⟨b74, 0, none⟩, some (k, di, dv, da), R5)) (⟨by (try dsimp only); omega, (hRk.trans (hR3.trans hR4)).trans hR5, .inr ⟨b74, k, di, dv, da, rfl, rfl, hb74⟩, fun y hy => by obtain rfl := Option.some.inj hy; exact hvd, hgo⟩) (by (try dsimp only); omega) ⟨rfl, rfl, rfl, rfl, rfl, rfl, rfl, rfl⟩ (RLe.refl _) qS
            · try simp only [decide_eq_true_eq, decide_eq_false_iff_not, beq_iff_eq, bne_iff_ne, beq_eq_false_iff_ne, bne_eq_false_iff_eq, ne_eq, Bool.or_eq_true, Bool.or_eq_false_iff, Bool.and_eq_true, Bool.and_eq_false_imp, Bool.not_eq_true, Bool.not_eq_true', Bool.not_eq_false', Classical.not_not, Int.not_lt, Int.not_le, gt_iff_lt, ge_iff_le] at hc4
              have hno : ¬ (ed = 0 ∧ betterD (di, dv, da) none = true) := fun h => by first | exact hc4 h | exact hc4 h.1 | (have h2 := h.2; have := hc4 h.1; simp_all [betterD]; done) | (have h2 := h.2; simp_all [betterD]; done)
              rw [if_neg hno, ← hn2] at hgo
              refine W.skip ?_
              refine WE.blk _ ?_
              refine WE.nxt ?_
              refine W.region _ ?_
              refine WG.y rfl rfl (by decide) (Yl.add rfl rfl rfl (fun _ => rfl) (by intro _; constructor <;> (try dsimp only) <;> omega)) ?_
              refine WG.run tab_ok 1 rfl ?_
              refine WG.nil ?_
              refine WE.again ((k + 1, _, _, R4)) (⟨by (try dsimp only); omega, hRk.trans (hR3.trans hR4), hbest, hbin, hgo⟩) (by (try dsimp only); omega) ⟨rfl, rfl, rfl, rfl, rfl, rfl, rfl, rfl⟩ (RLe.refl _) qS
          ·
            have hvbst : InR v := hbin _ rfl
            refine W.regionQ _ mixed (by kernel_rfl) ?_
            refine WG.run tab_ok 3 rfl ?_
            refine WG.y rfl rfl (by decide) (pureV_ok tab_ok rfl qE) ?_
            refine WG.y rfl rfl (by decide) (Yl.ptrNil tab_ok rfl rfl rfl rfl rfl qE) ?_
            refine WG.y rfl rfl (by decide) (pureV_ok tab_ok rfl qE) ?_
            refine' WG.y rfl rfl (by decide) (Yl.loadG tab_ok rfl rfl rfl qE ?r9 rfl ?h9 ?g9) ?_
            case r9 => (first | exact fun _ => Rd.ro (by assumption) | exact Rd.blkC 0 rfl | exact Rd.blkC 1 rfl | exact Rd.blkC 2 rfl | exact Rd.blkC 3 rfl | exact Rd.blkC 4 rfl | exact Rd.blkC 5 rfl | exact Rd.blkC 6 rfl | exact Rd.blkC 7 rfl)
            case h9 => rfl
            case g9 => first | exact fun _ => trivial | (intro hg; (try simp only [decide_eq_true_eq, decide_eq_false_iff_not, beq_iff_eq, bne_iff_ne, beq_eq_false_iff_ne, bne_eq_false_iff_eq, ne_eq, Bool.or_eq_true, Bool.or_eq_false_iff, Bool.and_eq_true, Bool.and_eq_false_imp, Bool.not_eq_true, Bool.not_eq_true', Bool.not_eq_false', Classical.not_not, Int.not_lt, Int.not_le, gt_iff_lt, ge_iff_le] at hg); (try dsimp only); omega)
            refine WG.y rfl rfl (by decide) (pureV_ok tab_ok rfl qE) ?_
            refine WG.y rfl rfl (by decide) (pureV_ok tab_ok rfl qE) ?_
            refine WG.y rfl rfl (by decide) (pureV_ok tab_ok rfl qE) ?_
            refine' WG.y rfl rfl (by decide) (Yl.loadG tab_ok rfl rfl rfl qE ?r10 rfl ?h10 ?g10) ?_
            case r10 => apply Rd.addC; exact fun _ => Rd.ro hbb
            case h10 => rfl
            case g10 => first | exact fun _ => trivial | (intro hg; (try simp only [decide_eq_true_eq, decide_eq_false_iff_not, beq_iff_eq, bne_iff_ne, beq_eq_false_iff_ne, bne_eq_false_iff_eq, ne_eq, Bool.or_eq_true, Bool.or_eq_false_iff, Bool.and_eq_true, Bool.and_eq_false_imp, Bool.not_eq_true, Bool.not_eq_true', Bool.not_eq_false', Classical.not_not, Int.not_lt, Int.not_le, gt_iff_lt, ge_iff_le] at hg); (try dsimp only); omega)
            refine WG.callV (v := .bool (lessD (di, dv, da) (i, v, a))) en74 rfl rfl (by decide) (CallOp.mk' rfl rfl rfl rfl) qE (fun hg => LessD_V hvd (hvbst)) ?_
            refine WG.y rfl rfl (by decide) (Yl.por rfl rfl rfl qE (by intro h1 h2; simp_all <;> omega)) ?_
            refine WG.y rfl rfl (by decide) (Yl.pand rfl rfl rfl (fun _ => rfl) (by intro h1 h2; simp_all <;> omega)) ?_
            refine WG.nil ?_
            refine WE.nxt ?_
            refine W.cond rfl (fun hc4 => ?_) (fun hc4 => ?_)
            · try simp only [decide_eq_true_eq, decide_eq_false_iff_not, beq_iff_eq, bne_iff_ne, beq_eq_false_iff_ne, bne_eq_false_iff_eq, ne_eq, Bool.or_eq_true, Bool.or_eq_false_iff, Bool.and_eq_true, Bool.and_eq_false_imp, Bool.not_eq_true, Bool.not_eq_true', Bool.not_eq_false', Classical.not_not, Int.not_lt, Int.not_le, gt_iff_lt, ge_iff_le] at hc4
              have hyes : ed = 0 ∧ betterD (di, dv, da) (some (th, i, v, a)) = true := by first | exact hc4 | exact ⟨hc4.1, rfl⟩ | exact ⟨hc4, rfl⟩ | exact ⟨hc4.1, hc4.2.resolve_left (by simp)⟩
              rw [if_pos hyes, ← hn2] at hgo
              refine W.region _ ?_
              refine WG.run tab_ok 1 rfl ?_
              refine' WG.y rfl rfl (by decide) (Yl.load1 tab_ok rfl rfl rfl (fun _ => rfl) ?r11 rfl ?h11) ?_
              case r11 => (first | exact Rd.ro (by assumption) | exact Rd.blk 0 rfl | exact Rd.blk 1 rfl | exact Rd.blk 2 rfl | exact Rd.blk 3 rfl | exact Rd.blk 4 rfl | exact Rd.blk 5 rfl | exact Rd.blk 6 rfl | exact Rd.blk 7 rfl)
              case h11 => rfl
              -- build
              refine WG.y rfl rfl (by decide) (Yl.build (parts := [(0, .tmp 71), (1, .tmp 72)]) tab_ok rfl rfl rfl rfl (fun _ => rfl) rfl rfl) ?_
              refine WL.ef rfl rfl (by decide) (Ef.box rfl rfl (fun b74 => ?_))
              refine WL.freezeBlk 0 rfl ?_
              intro R5 hR5 hb74
              refine WG.run tab_ok 1 rfl ?_
              refine WG.nil ?_
              refine WE.blk _ ?_
              refine WE.nxt ?_
              refine W.region _ ?_
              refine WG.y rfl rfl (by decide) (Yl.add rfl rfl rfl (fun _ => rfl) (by intro _; constructor <;> (try dsimp only) <;> omega)) ?_
              refine WG.run tab_ok 1 rfl ?_
              refine WG.nil ?_
              refine WE.again ((k + 1, some ⟨b74, 0, none⟩, some (k, di, dv, da), R5)) (⟨by (try dsimp only); omega, (hRk.trans (hR3.trans hR4)).trans hR5, .inr ⟨b74, k, di, dv, da, rfl, rfl, hb74⟩, fun y hy => by obtain rfl := Option.some.inj hy; exact hvd, hgo⟩) (by (try dsimp only); omega) ⟨rfl, rfl, rfl, rfl, rfl, rfl, rfl, rfl⟩ (RLe.refl _) qS
            · try simp only [decide_eq_true_eq, decide_eq_false_iff_not, beq_iff_eq, bne_iff_ne, beq_eq_false_iff_ne, bne_eq_false_iff_eq, ne_eq, Bool.or_eq_true, Bool.or_eq_false_iff, Bool.and_eq_true, Bool.and_eq_false_imp, Bool.not_eq_true, Bool.not_eq_true', Bool.not_eq_false', Classical.not_not, Int.not_lt, Int.not_le, gt_iff_lt, ge_iff_le] at hc4
              have hno : ¬ (ed = 0 ∧ betterD (di, dv, da) (some (th, i, v, a)) = true) := fun h => by first | exact hc4 h | exact hc4 h.1 | (have h2 := h.2; have := hc4 h.1; simp_all [betterD]; done) | (have h2 := h.2; simp_all [betterD]; done)
              rw [if_neg hno, ← hn2] at hgo
              refine W.skip ?_
              refine WE.blk _ ?_
              refine WE.nxt ?_
              refine W.region _ ?_
              refine WG.y rfl rfl (by decide) (Yl.add rfl rfl rfl (fun _ => rfl) (by intro _; constructor <;> (try dsimp only) <;> omega)) ?_
              refine WG.run tab_ok 1 rfl ?_
              refine WG.nil ?_
              refine WE.again ((k + 1, _, _, R4)) (⟨by (try dsimp only); omega, hRk.trans (hR3.trans hR4), hbest, hbin, hgo⟩) (by (try dsimp only); omega) ⟨rfl, rfl, rfl, rfl, rfl, rfl, rfl, rfl⟩ (RLe.refl _) qS
      · try dsimp only at hc2
        obtain rfl : k = most + 1 := by omega
        rw [Nat.sub_self, leastGo] at hgo
        refine W.exit ?_
        refine WE.then_exit ?_
        refine WE.then_exit ?_
        refine WE.blk_exit ?_
        refine WE.nxt ?_
        refine W.seq ?_
        refine W.seq ?_
        refine W.region _ ?_
        refine WG.run tab_ok 1 rfl ?_
        refine WG.y rfl rfl (by decide) (Yl.ptrNil tab_ok rfl rfl rfl rfl rfl (fun _ => rfl)) ?_
        refine WG.nil ?_
        refine WE.nxt ?_
        refine W.cond rfl (fun hc5 => ?_) (fun hc5 => ?_)
        · try simp only [decide_eq_true_eq, decide_eq_false_iff_not, beq_iff_eq, bne_iff_ne, beq_eq_false_iff_ne, bne_eq_false_iff_eq, ne_eq, Bool.or_eq_true, Bool.or_eq_false_iff, Bool.and_eq_true, Bool.and_eq_false_imp, Bool.not_eq_true, Bool.not_eq_true', Bool.not_eq_false', Classical.not_not, Int.not_lt, Int.not_le, gt_iff_lt, ge_iff_le] at hc5
          obtain ⟨rfl, rfl⟩ : p = none ∧ best = none := by
            rcases hbest with h | ⟨bb, th, i, v, a, h1, _⟩
            · exact h
            · rw [h1] at hc5; cases hc5
          refine W.seq ?_
          refine W.region _ ?_
          -- build
          refine WG.y rfl rfl (by decide) (Yl.build (parts := []) tab_ok rfl rfl rfl rfl (fun _ => rfl) rfl rfl) ?_
          refine WG.run tab_ok 1 rfl ?_
          first | refine WL.efN rfl rfl (Ef.store0 0 tab_ok rfl rfl rfl rfl rfl rfl rfl rfl ?_) | refine WL.efN rfl rfl (Ef.store0 1 tab_ok rfl rfl rfl rfl rfl rfl rfl rfl ?_) | refine WL.efN rfl rfl (Ef.store0 2 tab_ok rfl rfl rfl rfl rfl rfl rfl rfl ?_) | refine WL.efN rfl rfl (Ef.store0 3 tab_ok rfl rfl rfl rfl rfl rfl rfl rfl ?_) | refine WL.efN rfl rfl (Ef.store0 4 tab_ok rfl rfl rfl rfl rfl rfl rfl rfl ?_) | refine WL.efN rfl rfl (Ef.store0 5 tab_ok rfl rfl rfl rfl rfl rfl rfl rfl ?_) | refine WL.efN rfl rfl (Ef.store0 6 tab_ok rfl rfl rfl rfl rfl rfl rfl rfl ?_) | refine WL.efN rfl rfl (Ef.store0 7 tab_ok rfl rfl rfl rfl rfl rfl rfl rfl ?_)
          refine WG.run tab_ok 1 rfl ?_
          refine WG.nil ?_
          refine WE.nxt ?_
          refine W.ret ?_
          refine WE.then_ret ?_
          refine WE.retF tab_ok [_, _, _] rfl ⟨rfl, ⟨_, _, _, rfl, rfl, rfl, ((by first | exact Rd.blk 0 rfl | exact Rd.blk 1 rfl | exact Rd.blk 2 rfl | exact Rd.blk 3 rfl | exact Rd.blk 4 rfl | exact Rd.blk 5 rfl | exact Rd.blk 6 rfl | exact Rd.blk 7 rfl)), rfl⟩, rfl, trivial⟩ ((by first | exact RLe.refl _ | exact hRk | exact hR1)) ?_
          exact ⟨by rw [← hgo]; rfl, qS⟩
        · try simp only [decide_eq_true_eq, decide_eq_false_iff_not, beq_iff_eq, bne_iff_ne, beq_eq_false_iff_ne, bne_eq_false_iff_eq, ne_eq, Bool.or_eq_true, Bool.or_eq_false_iff, Bool.and_eq_true, Bool.and_eq_false_imp, Bool.not_eq_true, Bool.not_eq_true', Bool.not_eq_false', Classical.not_not, Int.not_lt, Int.not_le, gt_iff_lt, ge_iff_le] at hc5
          obtain ⟨bb, th, i, v, a, rfl, rfl, hbb⟩ := hbest.resolve_left (fun h => by rw [h.1] at hc5; exact absurd hc5 (by decide))
          refine W.skip ?_
          refine WE.nxt ?_
          refine W.seq ?_
          refine W.regionH _ (ES := []) mixed ?_
          refine WA.take 0 rfl (by kernel_rfl) (by kernel_rfl) (by kernel_rfl) rfl rfl (by decide) (pureV_ok tab_ok rfl (fun _ => rfl)) qS (by first | exact RLe.refl _ | assumption) ?_
          refine WA.take 1 rfl (by kernel_rfl) (by kernel_rfl) (by kernel_rfl) rfl rfl (by decide) (pureV_ok tab_ok rfl (fun _ => rfl)) qS (by first | exact RLe.refl _ | assumption) ?_
          refine WA.take 2 rfl (by kernel_rfl) (by kernel_rfl) (by kernel_rfl) rfl rfl (by decide) (pureV_ok tab_ok rfl (fun _ => rfl)) qS (by first | exact RLe.refl _ | assumption) ?_
          refine' WA.take 3 rfl (by kernel_rfl) (by kernel_rfl) (by kernel_rfl) rfl rfl (by decide) (Yl.load1 tab_ok rfl rfl rfl (fun _ => rfl) ?r12 rfl ?h12) qS (by first | exact RLe.refl _ | assumption) ?_
          case r12 => apply Rd.add; (first | exact Rd.ro (by assumption) | exact Rd.blk 0 rfl | exact Rd.blk 1 rfl | exact Rd.blk 2 rfl | exact Rd.blk 3 rfl | exact Rd.blk 4 rfl | exact Rd.blk 5 rfl | exact Rd.blk 6 rfl | exact Rd.blk 7 rfl | (apply RS.rdD; assumption; ((try dsimp only) <;> omega)) | exact Rd.slD 0 rfl (by (try dsimp only) <;> omega) | exact Rd.slD 1 rfl (by (try dsimp only) <;> omega) | exact Rd.slD 2 rfl (by (try dsimp only) <;> omega) | exact Rd.slD 3 rfl (by (try dsimp only) <;> omega) | exact Rd.slD 4 rfl (by (try dsimp only) <;> omega) | exact Rd.slD 5 rfl (by (try dsimp only) <;> omega) | exact Rd.slD 6 rfl (by (try dsimp only) <;> omega) | exact Rd.slD 7 rfl (by (try dsimp only) <;> omega))
          case h12 => rfl
          refine WA.take 4 rfl (by kernel_rfl) (by kernel_rfl) (by kernel_rfl) rfl rfl (by decide) (pureV_ok tab_ok rfl (fun _ => rfl)) qS (by first | exact RLe.refl _ | assumption) ?_
          refine WA.take 5 rfl (by kernel_rfl) (by kernel_rfl) (by kernel_rfl) rfl rfl (by decide) (pureV_ok tab_ok rfl (fun _ => rfl)) qS (by first | exact RLe.refl _ | assumption) ?_
          refine WA.take 6 rfl (by kernel_rfl) (by kernel_rfl) (by kernel_rfl) rfl rfl (by decide) (pureV_ok tab_ok rfl (fun _ => rfl)) qS (by first | exact RLe.refl _ | assumption) ?_
          refine' WA.take 7 rfl (by kernel_rfl) (by kernel_rfl) (by kernel_rfl) rfl rfl (by decide) (Yl.load1 tab_ok rfl rfl rfl (fun _ => rfl) ?r13 rfl ?h13) qS (by first | exact RLe.refl _ | assumption) ?_
          case r13 => apply Rd.add; (first | exact Rd.ro (by assumption) | exact Rd.blk 0 rfl | exact Rd.blk 1 rfl | exact Rd.blk 2 rfl | exact Rd.blk 3 rfl | exact Rd.blk 4 rfl | exact Rd.blk 5 rfl | exact Rd.blk 6 rfl | exact Rd.blk 7 rfl | (apply RS.rdD; assumption; ((try dsimp only) <;> omega)) | exact Rd.slD 0 rfl (by (try dsimp only) <;> omega) | exact Rd.slD 1 rfl (by (try dsimp only) <;> omega) | exact Rd.slD 2 rfl (by (try dsimp only) <;> omega) | exact Rd.slD 3 rfl (by (try dsimp only) <;> omega) | exact Rd.slD 4 rfl (by (try dsimp only) <;> omega) | exact Rd.slD 5 rfl (by (try dsimp only) <;> omega) | exact Rd.slD 6 rfl (by (try dsimp only) <;> omega) | exact Rd.slD 7 rfl (by (try dsimp only) <;> omega))
          case h13 => rfl
          refine WA.take 8 rfl (by kernel_rfl) (by kernel_rfl) (by kernel_rfl) rfl rfl (by decide) (pureV_ok tab_ok rfl (fun _ => rfl)) qS (by first | exact RLe.refl _ | assumption) ?_
          first | refine WA.effN 9 rfl (by kernel_rfl) rfl rfl (Ef.store0 0 tab_ok rfl rfl rfl rfl rfl rfl rfl rfl ?_) | refine WA.effN 9 rfl (by kernel_rfl) rfl rfl (Ef.store0 1 tab_ok rfl rfl rfl rfl rfl rfl rfl rfl ?_) | refine WA.effN 9 rfl (by kernel_rfl) rfl rfl (Ef.store0 2 tab_ok rfl rfl rfl rfl rfl rfl rfl rfl ?_) | refine WA.effN 9 rfl (by kernel_rfl) rfl rfl (Ef.store0 3 tab_ok rfl rfl rfl rfl rfl rfl rfl rfl ?_) | refine WA.effN 9 rfl (by kernel_rfl) rfl rfl (Ef.store0 4 tab_ok rfl rfl rfl rfl rfl rfl rfl rfl ?_) | refine WA.effN 9 rfl (by kernel_rfl) rfl rfl (Ef.store0 5 tab_ok rfl rfl rfl rfl rfl rfl rfl rfl ?_) | refine WA.effN 9 rfl (by kernel_rfl) rfl rfl (Ef.store0 6 tab_ok rfl rfl rfl rfl rfl rfl rfl rfl ?_) | refine WA.effN 9 rfl (by kernel_rfl) rfl rfl (Ef.store0 7 tab_ok rfl rfl rfl rfl rfl rfl rfl rfl ?_)
          refine ⟨by first | exact RLe.refl _ | assumption, qS, ?_⟩
          refine WA.take 10 rfl (by kernel_rfl) (by kernel_rfl) (by kernel_rfl) rfl rfl (by decide) (pureV_ok tab_ok rfl (fun _ => rfl)) qS (by first | exact RLe.refl _ | assumption) ?_
          refine WA.done (by kernel_rfl) ?_
          refine WE.nxt ?_
          refine W.ret ?_
          refine WE.retF tab_ok [_, _, _] rfl ⟨rfl, ⟨_, _, _, rfl, rfl, rfl, ((by first | exact Rd.blk 0 rfl | exact Rd.blk 1 rfl | exact Rd.blk 2 rfl | exact Rd.blk 3 rfl | exact Rd.blk 4 rfl | exact Rd.blk 5 rfl | exact Rd.blk 6 rfl | exact Rd.blk 7 rfl)), rfl⟩, rfl, trivial⟩ ((by first | exact RLe.refl _ | exact hRk | exact hR1)) ?_
          exact ⟨by rw [← hgo]; rfl, qS⟩

end Go.Proofs.Ytolmmfphdieilaa
