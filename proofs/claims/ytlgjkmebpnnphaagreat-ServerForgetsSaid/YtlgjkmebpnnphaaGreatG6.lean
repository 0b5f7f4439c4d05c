/- ServerForgets: for every list of numbers the law returns true, and the list reads afterwards as it read before. No condition. -/
import Derived.Test.YtlgjkmebpnnphaaGreatG5
/- Curves raised, totals. No condition. -/
set_option maxRecDepth 4000
set_option linter.unusedSimpArgs false
set_option linter.unusedVariables false
namespace Go.Proofs.YtlgjkmebpnnphaaGreat
open Go Go.RowKit Go.Proofs.YtlgjkmebpnnphaaGreat.K Go.Proofs.YtlgjkmebpnnphaaGreat.M

theorem FlatF_V {R : Ro} {b1 : Nat} {k : Int} (h1 : R b1 = some [.int .i64 k]) (hk : 0 ≤ k ∧ k ≤ 1073741824) {t : Nat} (ht : t ≤ 1000000) : FnV Tryz.prog 170 [.int .i64 (t : Int), .pointer (some ⟨b1, 0, none⟩)] R (.int .i64 (flatF k t)) := by
  refine Fn.toV (fun w0 E => ?_)
  have hfl : k * (if (1 : Int) < (t : Int) then (1 : Int) else (t : Int)) = flatF k t := by
    unfold flatF
    by_cases h : t = 0
    · subst h; simp
    · rw [if_neg h, show (if (1 : Int) < (t : Int) then (1 : Int) else (t : Int)) = 1 by split <;> omega, Int.mul_one]
  have hfb : 0 ≤ flatF k t ∧ flatF k t ≤ 1073741824 := by unfold flatF; split <;> omega
  refine Fn.enter (n := 8) Tryz.func170 rfl rfl (Nat.le_of_ble_eq_true rfl) rfl ?_
  refine W.seq ?_
  refine W.region _ ?_
  refine WG.run tab_ok 1 rfl ?_
  refine WG.nil ?_
  refine WE.nxt ?_
  refine W.seq ?_
  refine W.region _ ?_
  refine' WG.y rfl rfl (by decide) (Yl.load1 tab_ok rfl rfl rfl (fun _ => rfl) ?r1 rfl ?h1) ?_
  case r1 => exact Rd.ro h1
  case h1 => rfl
  refine WG.run tab_ok 2 rfl ?_
  refine WG.y rfl rfl (by decide) (Yl.mul rfl rfl rfl (fun _ => rfl) (by intro _; constructor <;> (try dsimp only) <;> omega)) ?_
  refine WG.run tab_ok 1 rfl ?_
  refine WG.nil ?_
  refine WE.nxt ?_
  refine W.ret ?_
  refine WE.subE (E' := E) qS ?_
  refine WE.retF tab_ok [_] rfl ⟨rfl, trivial⟩ (RLe.refl _) ?_
  exact ⟨by rw [← hfl]; rfl, rfl⟩

theorem CFlat_C {R : Ro} {k : Int} (hk : 0 ≤ k ∧ k ≤ 1073741824) (w0 : World) (E : List Ent) : K.Fn Tryz.prog 155 [.int .i64 k] w0 R E (fun r R' E' => ∃ (f : Option Addr) (fc : Nat), r = cvV f fc (flatC k) ∧ RS R' 1 encI f (flatC k).1.vals ∧ E.Sublist E') := by
  have hd : flatC k = mbuild (flatF k) 1 1 0 := rfl
  refine Fn.enter (n := 14) Tryz.func155 rfl rfl (Nat.le_of_ble_eq_true rfl) rfl ?_
  refine W.seq ?_
  refine W.region _ ?_
  refine WL.ef rfl rfl (by decide) (Ef.box rfl rfl (fun b1 => ?_))
  refine WL.ef rfl rfl (by decide) (Ef.alloc tab_ok rfl rfl (fun b2 => ?_))
  refine WG.run tab_ok 1 rfl ?_
  refine WG.nil ?_
  refine WE.nxt ?_
  refine W.seq ?_
  refine W.seq ?_
  refine W.region _ ?_
  refine' WG.y rfl rfl (by decide) (Yl.load1 tab_ok rfl rfl rfl (fun _ => rfl) ?r1 rfl ?h1) ?_
  case r1 => (exact Rd.blk 1 rfl)
  case h1 => rfl
  refine WG.run tab_ok 1 rfl ?_
  refine WG.nil ?_
  refine WE.nxt ?_
  refine W.condD rfl (fun hc0 => ?_) (fun hc0 => ?_)
  · try dsimp only at hc0
    omega
  · try dsimp only at hc0
    refine W.skip ?_
    refine WE.nxt ?_
    refine W.seq ?_
    refine W.seq ?_
    refine W.region _ ?_
    refine' WG.y rfl rfl (by decide) (Yl.load1 tab_ok rfl rfl rfl (fun _ => rfl) ?r2 rfl ?h2) ?_
    case r2 => (exact Rd.blk 1 rfl)
    case h2 => rfl
    refine WG.run tab_ok 1 rfl ?_
    refine WG.nil ?_
    refine WE.nxt ?_
    refine W.condD rfl (fun hc1 => ?_) (fun hc1 => ?_)
    · try dsimp only at hc1
      omega
    · try dsimp only at hc1
      refine W.skip ?_
      refine WE.nxt ?_
      refine W.freezeBlk 1 rfl ?_
      intro R2 hR2 h1
      have hF : ∀ t : Nat, t < 1 + 1 → FnV Tryz.prog 170 ((#[] : Array Value).toList ++ [.int .i64 (t : Int)] ++ (#[.pointer (some ⟨b1, 0, none⟩)] : Array Value).toList) R2 (.int .i64 (flatF k t)) := fun t ht => FlatF_V h1 hk (by omega)
      refine W.seq ?_
      refine W.region _ ?_
      refine WG.run tab_ok 1 rfl ?_
      refine WL.call en144 rfl rfl (by decide) (CallOp.mkT rfl rfl rfl rfl) (Build_C (S := 1) (P := 1) (F := flatF k) en170 (by omega) (by omega) (by omega) (fun t ht => .inr (flatF_bound hk t)) hF w0 _) ?_
      rintro _ R4 E4 hR4 ⟨fr, frc, rfl, hfr, hsub⟩
      refine WL.subE hsub ?_
      rw [← hd] at hfr ⊢
      unfold cvV
      refine WG.run tab_ok 2 rfl ?_
      refine WL.efN rfl rfl (Ef.store0 0 tab_ok rfl rfl rfl rfl rfl rfl rfl rfl ?_)
      refine WG.run tab_ok 1 rfl ?_
      refine WG.nil ?_
      refine WE.nxt ?_
      refine W.ret ?_
      refine WE.retF tab_ok [_, _] rfl ⟨⟨_, _, _, rfl, rfl, rfl, ((by first | exact Rd.blk 0 rfl | exact Rd.blk 1 rfl | exact Rd.blk 2 rfl | exact Rd.blk 3 rfl)), rfl⟩, rfl, trivial⟩ (hR2.trans hR4) ?_
      exact ⟨fr, frc, rfl, hfr, qS⟩

set_option maxHeartbeats 1000000 in
theorem PTotal_C {R : Ro} {la : Option Addr} {lc : Nat} {ls : List CvS} (hla : RS R 3 encC la ls) (hls : ∀ x ∈ ls, RS R 1 encI x.a x.cv.vals ∧ validB x.cv = true) (w0 : World) (E : List Ent) : K.Fn Tryz.prog 117 [.slice la ls.length lc] w0 R E (fun r R' E' => ∃ (f : Option Addr) (fc : Nat), r = cvV f fc (totalC (ls.map CvS.cv)) ∧ RS R' 1 encI f (totalC (ls.map CvS.cv)).1.vals ∧ E.Sublist E') := by
  have hll := hla.len
  have hz0 : flatC 0 = (zeroC, 0) := flat_zero
  refine Fn.enter (n := 31) Tryz.func117 rfl rfl (Nat.le_of_ble_eq_true rfl) rfl ?_
  refine W.seq ?_
  refine W.region _ ?_
  refine WL.ef rfl rfl (by decide) (Ef.alloc tab_ok rfl rfl (fun b2 => ?_))
  refine WG.run tab_ok 1 rfl ?_
  refine WG.nil ?_
  refine WE.nxt ?_
  refine W.seq ?_
  refine W.region _ ?_
  refine WL.call en155 rfl rfl (by decide) (CallOp.mkT rfl rfl rfl rfl) (CFlat_C (k := 0) (by decide) w0 _) ?_
  rintro _ R1 _ hR1 ⟨fz, fzc, rfl, hfz, hsub⟩
  refine WL.subE hsub ?_
  rw [hz0] at hfz ⊢
  unfold cvV
  dsimp only at hfz ⊢
  refine WG.run tab_ok 3 rfl ?_
  refine WL.ef rfl rfl (by decide) (Ef.alloc tab_ok rfl rfl (fun b4 => ?_))
  refine WL.efN rfl rfl (Ef.store0 0 tab_ok rfl rfl rfl rfl rfl rfl rfl rfl ?_)
  refine WG.run tab_ok 1 rfl ?_
  refine WG.nil ?_
  refine WE.nxt ?_
  refine W.seq ?_
  refine W.seq ?_
  refine W.region _ ?_
  refine WG.run tab_ok 3 rfl ?_
  refine WG.nil ?_
  refine WE.nxt ?_
  refine W.block ?_
  refine W.loopR (β := Nat × Cv × Option Addr × Nat × Ro) (fun (i, s, sa, sc, Rk) => i ≤ ls.length ∧ RLe R1 Rk ∧ Nrm s ∧ RS Rk 1 encI sa s.vals ∧ totalC (ls.map CvS.cv) = totalGo s ((ls.map CvS.cv).drop i)) (fun (i, s, sa, sc, Rk) => [(5, true, .int .i64 0), (14, true, .int .i64 (i : Int))]) [2, 4, 12, 13] [_, _, _, _] [] _ rfl (fun (i, s, sa, sc, Rk) => [(0, .blk b4 [.slice sa s.vals.length sc, .int .i64 s.per, .int .i64 s.inc])]) (fun (i, s, sa, sc, Rk) => Rk) (fun (i, s, sa, sc, Rk) => ls.length - i) ((0, zeroC, fz, fzc, R1)) (⟨Nat.zero_le _, RLe.refl _, zero_nrm, hfz, rfl⟩) ⟨rfl, rfl, rfl, rfl, rfl, rfl, rfl⟩ (RLe.refl _) qS ?_
  intro zz hst
  obtain ⟨i, s, sa, sc, Rk⟩ := zz
  dsimp only [zipE, setAll, List.cons_append, List.nil_append, List.set_cons_zero, List.set_cons_succ] at hst ⊢
  obtain ⟨hi, hRk, hns, hsa, htot⟩ := hst
  have hla := hla.mono (hR1.trans hRk)
  refine W.seq ?_
  refine W.region _ ?_
  refine WG.run tab_ok 1 rfl ?_
  refine WG.nil ?_
  refine WE.nxt ?_
  refine W.seq ?_
  refine W.condD rfl (fun hc0 => ?_) (fun hc0 => ?_)
  · try dsimp only at hc0
    have hil : i < ls.length := by omega
    have hxi := hls _ (nth_mem hil)
    have hvx := hxi.2
    have hxa := hxi.1.mono (hR1.trans hRk)
    refine W.skip ?_
    refine WE.nxt ?_
    refine W.seq ?_
    refine W.block ?_
    refine W.seq ?_
    refine W.region _ ?_
    refine WG.y rfl rfl (by decide) (Yl.indexN tab_ok rfl rfl rfl rfl rfl rfl (fun _ => rfl) (by intro _; (try dsimp only) <;> omega) (by intro _; first | exact fun _ _ _ _ => rfl | exact RS.has (by assumption) | exact fun _ _ _ _ => (by assumption) | exact HasMem.ownD 0 rfl | exact HasMem.ownD 1 rfl | exact HasMem.ownD 2 rfl | exact HasMem.ownD 3 rfl | exact HasMem.ownD 4 rfl | exact HasMem.ownD 5 rfl)) ?_
    refine' WG.y rfl rfl (by decide) (Yl.load1 tab_ok rfl rfl rfl (fun _ => rfl) ?r1 rfl ?h1) ?_
    case r1 => ((apply RS.rdD; assumption; ((try dsimp only) <;> omega)))
    case h1 => rfl
    refine WL.ef rfl rfl (by decide) (Ef.alloc tab_ok rfl rfl (fun b7 => ?_))
    refine WL.efN rfl rfl (Ef.store0 0 tab_ok rfl rfl rfl rfl rfl rfl rfl rfl ?_)
    refine WG.nil ?_
    refine WE.nxt ?_
    refine W.seq ?_
    refine W.region _ ?_
    refine' WG.y rfl rfl (by decide) (Yl.load1 tab_ok rfl rfl rfl (fun _ => rfl) ?r2 rfl ?h2) ?_
    case r2 => (exact Rd.blk 1 rfl)
    case h2 => rfl
    refine' WG.y rfl rfl (by decide) (Yl.load1 tab_ok rfl rfl rfl (fun _ => rfl) ?r3 rfl ?h3) ?_
    case r3 => (exact Rd.blk 0 rfl)
    case h3 => rfl
    refine WL.call en156 rfl rfl (by decide) (CallOp.mkT rfl rfl rfl rfl) (PSum_C hns.valid hsa hvx hxa w0 _) ?_
    rintro _ R2 _ hR2 ⟨fr, frc, rfl, hfr, hsub⟩
    refine WL.subE hsub ?_
    unfold cvV
    have hgo : totalC (ls.map CvS.cv) = if (sumC s (nth ls i).cv).2 ≠ 0 then (zcv, (sumC s (nth ls i).cv).2) else totalGo (sumC s (nth ls i).cv).1 ((ls.map CvS.cv).drop (i + 1)) := by
      rw [htot, drop_map_cons hil]
      rfl
    have hsr := sum_res hns.valid hvx
    generalize sumC s (nth ls i).cv = sr at hfr hgo hsr ⊢
    obtain ⟨sv, se⟩ := sr
    dsimp only at hfr hgo hsr ⊢
    refine WG.run tab_ok 3 rfl ?_
    refine WL.efN rfl rfl (Ef.store0 1 tab_ok rfl rfl rfl rfl rfl rfl rfl rfl ?_)
    refine WG.run tab_ok 1 rfl ?_
    refine WG.nil ?_
    refine WE.nxt ?_
    refine W.seq ?_
    refine W.region _ ?_
    refine WG.run tab_ok 2 rfl ?_
    refine WG.nil ?_
    refine WE.nxt ?_
    refine W.condN rfl (fun hc1 => ?_) (fun hc1 => ?_)
    · try dsimp only at hc1
      have hd : totalC (ls.map CvS.cv) = (zcv, se) := by rw [hgo, if_pos hc1]
      refine W.seq ?_
      refine W.region _ ?_
      -- build
      refine WG.y rfl rfl (by decide) (Yl.build (parts := []) tab_ok rfl rfl rfl rfl (fun _ => rfl) rfl rfl) ?_
      refine WG.run tab_ok 1 rfl ?_
      refine WL.efN rfl rfl (Ef.store0 2 tab_ok rfl rfl rfl rfl rfl rfl rfl rfl ?_)
      refine WG.run tab_ok 1 rfl ?_
      refine WG.nil ?_
      refine WE.nxt ?_
      refine W.ret ?_
      refine WE.blk_ret ?_
      refine WE.then_ret ?_
      refine WE.then_ret ?_
      refine WE.blk_ret ?_
      refine WE.then_ret ?_
      refine WE.retF tab_ok [_, _] rfl ⟨⟨_, _, _, rfl, rfl, rfl, ((by first | exact Rd.blk 0 rfl | exact Rd.blk 1 rfl | exact Rd.blk 2 rfl | exact Rd.blk 3 rfl | exact Rd.blk 4 rfl | exact Rd.blk 5 rfl)), rfl⟩, rfl, trivial⟩ ((by first | exact hR1.trans (hRk.trans hR2) | exact hR1.trans hRk)) ?_
      exact ⟨none, 0, by rw [hd]; rfl, by rw [hd]; exact rs_nil, qS⟩
    · try dsimp only at hc1
      have hd2 : totalC (ls.map CvS.cv) = totalGo sv ((ls.map CvS.cv).drop (i + 1)) := by rw [hgo, if_neg (fun h => h hc1)]
      obtain ⟨rfl, hnsv⟩ : se = 0 ∧ Nrm sv := by
        rcases hsr with h | ⟨c, h1, h2, _⟩
        · have := congrArg Prod.snd h; dsimp only at this; omega
        · have e1 := congrArg Prod.fst h1
          have e2 := congrArg Prod.snd h1
          dsimp only at e1 e2
          exact ⟨e2, by rw [e1]; exact h2⟩
      refine W.skip ?_
      refine WE.blk _ ?_
      refine WE.nxt ?_
      refine W.region _ ?_
      refine WG.y rfl rfl (by decide) (Yl.add rfl rfl rfl (fun _ => rfl) (by intro _; constructor <;> (try dsimp only) <;> omega)) ?_
      refine WG.run tab_ok 1 rfl ?_
      refine WG.nil ?_
      refine WE.again ((i + 1, sv, fr, frc, R2)) (⟨by dsimp only; omega, hRk.trans hR2, hnsv, hfr, hd2⟩) (by (try dsimp only); omega) ⟨rfl, rfl, rfl, rfl, rfl, rfl, rfl⟩ (RLe.refl _) qS
  · try dsimp only at hc0
    obtain rfl : i = ls.length := by omega
    have hd : totalC (ls.map CvS.cv) = (s, 0) := by rw [htot, List.drop_eq_nil_of_le (by simp)]; rfl
    refine W.exit ?_
    refine WE.then_exit ?_
    refine WE.then_exit ?_
    refine WE.blk_exit ?_
    refine WE.nxt ?_
    refine W.seq ?_
    refine W.region _ ?_
    refine' WG.y rfl rfl (by decide) (Yl.load1 tab_ok rfl rfl rfl (fun _ => rfl) ?r4 rfl ?h4) ?_
    case r4 => (exact Rd.blk 0 rfl)
    case h4 => rfl
    refine WG.run tab_ok 1 rfl ?_
    refine WL.efN rfl rfl (Ef.store0 1 tab_ok rfl rfl rfl rfl rfl rfl rfl rfl ?_)
    refine WG.run tab_ok 1 rfl ?_
    refine WG.nil ?_
    refine WE.nxt ?_
    refine W.ret ?_
    refine WE.retF tab_ok [_, _] rfl ⟨⟨_, _, _, rfl, rfl, rfl, ((by first | exact Rd.blk 0 rfl | exact Rd.blk 1 rfl | exact Rd.blk 2 rfl | exact Rd.blk 3 rfl | exact Rd.blk 4 rfl | exact Rd.blk 5 rfl)), rfl⟩, rfl, trivial⟩ ((by first | exact hR1.trans (hRk.trans hR2) | exact hR1.trans hRk)) ?_
    exact ⟨sa, sc, by rw [hd]; rfl, by rw [hd]; exact hsa, qS⟩

end Go.Proofs.YtlgjkmebpnnphaaGreat

/- What a curve leaves of a line. No condition. -/
set_option maxRecDepth 4000
set_option linter.unusedSimpArgs false
set_option linter.unusedVariables false
namespace Go.Proofs.YtlgjkmebpnnphaaGreat
open Go Go.RowKit Go.Proofs.YtlgjkmebpnnphaaGreat.K Go.Proofs.YtlgjkmebpnnphaaGreat.M

end Go.Proofs.YtlgjkmebpnnphaaGreat

/- Chapter 18: the curve of a class. No condition. -/
set_option maxRecDepth 4000
set_option linter.unusedSimpArgs false
set_option linter.unusedVariables false
namespace Go.Proofs.YtlgjkmebpnnphaaGreat
open Go Go.RowKit Go.Proofs.YtlgjkmebpnnphaaGreat.K Go.Proofs.YtlgjkmebpnnphaaGreat.M

theorem PTotal_len {R : Ro} {la : Option Addr} {lc l : Nat} {ls : List CvS} (hl : ls.length = l) (hla : RS R 3 encC la ls) (hls : ∀ x ∈ ls, RS R 1 encI x.a x.cv.vals ∧ validB x.cv = true) (w0 : World) (E : List Ent) : K.Fn Tryz.prog 117 [.slice la l lc] w0 R E (fun r R' E' => ∃ (f : Option Addr) (fc : Nat), r = cvV f fc (totalC (ls.map CvS.cv)) ∧ RS R' 1 encI f (totalC (ls.map CvS.cv)).1.vals ∧ E.Sublist E') := by
  subst hl; exact PTotal_C hla hls w0 E

end Go.Proofs.YtlgjkmebpnnphaaGreat

/- Finite curves: where a value is reached; the greatest distance. No condition. -/
set_option maxRecDepth 4000
set_option linter.unusedSimpArgs false
set_option linter.unusedVariables false
namespace Go.Proofs.YtlgjkmebpnnphaaGreat
open Go Go.RowKit Go.Proofs.YtlgjkmebpnnphaaGreat.K Go.Proofs.YtlgjkmebpnnphaaGreat.M

theorem ReachF_V {R : Ro} {fa : Option Addr} {fc : Nat} {F : Nat → Int} {S P : Nat} {I : Int} (hf : FC F S P I) (ha : RS R 1 encI fa (fvals F (S + P))) {v : Int} (hv : 0 ≤ v ∧ v ≤ 1000000000000000) : FnV Tryz.prog 115 [.agg #[.slice fa (fvals F (S + P)).length fc, .int .i64 (P : Int), .int .i64 I], .int .i64 v] R (.tuple #[.int .i64 (reachF F S P I v).1, .bool (reachF F S P I v).2]) := by
  have hfl := fvals_len F (S + P)
  have hP := hf.hP
  have hn := hf.hn
  have hI := hf.hI
  refine Fn.toV (fun w0 E => ?_)
  refine Fn.enter (n := 66) Tryz.func115 rfl rfl (Nat.le_of_ble_eq_true rfl) rfl ?_
  refine W.seq ?_
  refine W.region _ ?_
  refine WL.ef rfl rfl (by decide) (Ef.box rfl rfl (fun b2 => ?_))
  refine WG.run tab_ok 2 rfl ?_
  refine WG.nil ?_
  refine WE.nxt ?_
  refine W.seq ?_
  refine W.seq ?_
  refine W.region _ ?_
  refine WG.run tab_ok 1 rfl ?_
  refine' WG.y rfl rfl (by decide) (Yl.load1 tab_ok rfl rfl rfl (fun _ => rfl) ?r1 rfl ?h1) ?_
  case r1 => apply Rd.add; (exact Rd.blk 0 rfl)
  case h1 => rfl
  refine WG.run tab_ok 2 rfl ?_
  refine WG.nil ?_
  refine WE.nxt ?_
  refine W.block ?_
  refine W.loopK (β := Nat) (fun t => t ≤ S + P ∧ ∀ j, j < t → F j < v) (fun t => [(15, true, .int .i64 (t : Int))]) [1, 2, 13, 14] [_, _, _, _] [] _ rfl (fun t => []) (fun t => S + P - t) (0) (⟨Nat.zero_le _, fun j hj => by omega⟩) ⟨rfl, rfl, rfl, rfl, rfl, rfl⟩ qS ?_
  intro t hst
  dsimp only [zipE, setAll, List.cons_append, List.nil_append, List.set_cons_zero, List.set_cons_succ] at hst ⊢
  obtain ⟨ht, hno⟩ := hst
  refine W.seq ?_
  refine W.region _ ?_
  refine WG.run tab_ok 1 rfl ?_
  refine WG.nil ?_
  refine WE.nxt ?_
  refine W.seq ?_
  refine W.condD rfl (fun hc0 => ?_) (fun hc0 => ?_)
  · try dsimp only at hc0
    have htl : t < S + P := by omega
    have hft := fvals_nth F htl
    refine W.skip ?_
    refine WE.nxt ?_
    refine W.seq ?_
    refine W.block ?_
    refine W.seq ?_
    refine W.region _ ?_
    refine WG.run tab_ok 1 rfl ?_
    refine WG.y rfl rfl (by decide) (Yl.indexN tab_ok rfl rfl rfl rfl rfl rfl (fun _ => rfl) (by intro _; (try dsimp only) <;> omega) (by intro _; first | exact fun _ _ _ _ => rfl | exact RS.has (by assumption) | exact fun _ _ _ _ => (by assumption) | exact HasMem.ownD 0 rfl | exact HasMem.ownD 1 rfl)) ?_
    refine' WG.y rfl rfl (by decide) (Yl.load1 tab_ok rfl rfl rfl (fun _ => rfl) ?r2 rfl ?h2) ?_
    case r2 => ((apply RS.rdD; assumption; ((try dsimp only) <;> omega)))
    case h2 => rfl
    refine WG.run tab_ok 2 rfl ?_
    refine WG.nil ?_
    refine WE.nxt ?_
    refine W.seq ?_
    refine W.region _ ?_
    refine WG.run tab_ok 3 rfl ?_
    refine WG.nil ?_
    refine WE.nxt ?_
    refine W.condD rfl (fun hc1 => ?_) (fun hc1 => ?_)
    · try dsimp only at hc1
      have hff : findFrom (fun t => decide (F t ≥ v)) (S + P) 0 = t := findFrom_some (Nat.zero_le _) (by omega) (decide_eq_true (by rw [← hft]; exact hc1)) (fun j _ hj => decide_eq_false (by have := hno j hj; omega))
      have hr : reachF F S P I v = ((t : Int), true) := by unfold reachF; rw [hff, if_pos (by omega)]
      refine W.seq ?_
      refine W.region _ ?_
      refine WG.run tab_ok 3 rfl ?_
      refine WG.nil ?_
      refine WE.nxt ?_
      refine W.ret ?_
      refine WE.blk_ret ?_
      refine WE.then_ret ?_
      refine WE.then_ret ?_
      refine WE.blk_ret ?_
      refine WE.then_ret ?_
      refine WE.subE (E' := E) qS ?_
      refine WE.retF tab_ok [_, _] rfl ⟨rfl, rfl, trivial⟩ (RLe.refl _) ?_
      exact ⟨by rw [hr]; rfl, rfl⟩
    · try dsimp only at hc1
      refine W.skip ?_
      refine WE.blk _ ?_
      refine WE.nxt ?_
      refine W.region _ ?_
      refine WG.y rfl rfl (by decide) (Yl.add rfl rfl rfl (fun _ => rfl) (by intro _; constructor <;> (try dsimp only) <;> omega)) ?_
      refine WG.run tab_ok 1 rfl ?_
      refine WG.nil ?_
      refine WE.again (t + 1) (⟨by omega, fun j hj => by
        by_cases e : j = t
        · subst e; rw [← hft]; omega
        · exact hno j (by omega)⟩) (by (try dsimp only); omega) ⟨rfl, rfl, rfl, rfl, rfl, rfl⟩ (RLe.refl _) qS
  · try dsimp only at hc0
    obtain rfl : t = S + P := by omega
    have hff : findFrom (fun t => decide (F t ≥ v)) (S + P) 0 = -1 := findFrom_none (fun j _ hj => decide_eq_false (by have := hno j (by omega); omega))
    have hlast := hno (S + P - 1) (by omega)
    have hvl : nth (fvals F (S + P)) ((((fvals F (S + P)).length : Int) - 1).toNat) = F (S + P - 1) := by rw [show (((fvals F (S + P)).length : Int) - 1).toNat = S + P - 1 by omega, fvals_nth F (by omega)]
    have hlb := hf.hb (S + P - 1) (by omega)
    have hl0 := hf.nonneg (S + P - 1)
    refine W.exit ?_
    refine WE.then_exit ?_
    refine WE.then_exit ?_
    refine WE.blk_exit ?_
    refine WE.nxt ?_
    refine W.seq ?_
    refine W.regionQ _ mixed (by kernel_rfl) ?_
    refine WG.run tab_ok 1 rfl ?_
    refine' WG.y rfl rfl (by decide) (Yl.load1 tab_ok rfl rfl rfl (fun _ => rfl) ?r3 rfl ?h3) ?_
    case r3 => apply Rd.add; (exact Rd.blk 0 rfl)
    case h3 => rfl
    refine WG.run tab_ok 2 rfl ?_
    refine' WG.y rfl rfl (by decide) (Yl.load1 tab_ok rfl rfl rfl (fun _ => rfl) ?r4 rfl ?h4) ?_
    case r4 => apply Rd.add; (exact Rd.blk 0 rfl)
    case h4 => rfl
    refine WG.run tab_ok 2 rfl ?_
    refine WG.nil ?_
    refine WE.nxt ?_
    refine W.seq ?_
    refine W.seq ?_
    refine W.region _ ?_
    refine WG.run tab_ok 3 rfl ?_
    refine WG.y rfl rfl (by decide) (pureV_ok tab_ok rfl qE) ?_
    refine' WG.y rfl rfl (by decide) (Yl.loadG tab_ok rfl rfl rfl qE ?r5 rfl ?h5 ?g5) ?_
    case r5 => apply Rd.addC; (exact Rd.blkC 0 rfl)
    case h5 => rfl
    case g5 => exact fun _ => trivial
    refine WG.y rfl rfl (by decide) (pureV_ok tab_ok rfl qE) ?_
    refine WG.y rfl rfl (by decide) (Yl.por rfl rfl rfl (fun _ => rfl) (by intro h1 h2; simp_all <;> omega)) ?_
    refine WG.nil ?_
    refine WE.nxt ?_
    refine W.cond rfl (fun hc2 => ?_) (fun hc2 => ?_)
    · try simp only [decide_eq_true_eq, decide_eq_false_iff_not, beq_iff_eq, bne_iff_ne, beq_eq_false_iff_ne, bne_eq_false_iff_eq, ne_eq, Bool.or_eq_true, Bool.or_eq_false_iff, Bool.and_eq_true, Bool.and_eq_false_imp, Bool.not_eq_true, Bool.not_eq_true', Bool.not_eq_false', Classical.not_not, Int.not_lt, Int.not_le, gt_iff_lt, ge_iff_le] at hc2
      have hI0 : I = 0 := by rcases hc2 with h | h; omega; exact h
      have hr : reachF F S P I v = (0, false) := by unfold reachF; rw [hff, if_neg (fun hh => hh rfl), if_pos hI0]
      refine W.seq ?_
      refine W.region _ ?_
      refine WG.run tab_ok 2 rfl ?_
      refine WG.nil ?_
      refine WE.nxt ?_
      refine W.ret ?_
      refine WE.then_ret ?_
      refine WE.subE (E' := E) qS ?_
      refine WE.retF tab_ok [_, _] rfl ⟨rfl, rfl, trivial⟩ (RLe.refl _) ?_
      exact ⟨by rw [hr]; rfl, rfl⟩
    · try simp only [decide_eq_true_eq, decide_eq_false_iff_not, beq_iff_eq, bne_iff_ne, beq_eq_false_iff_ne, bne_eq_false_iff_eq, ne_eq, Bool.or_eq_true, Bool.or_eq_false_iff, Bool.and_eq_true, Bool.and_eq_false_imp, Bool.not_eq_true, Bool.not_eq_true', Bool.not_eq_false', Classical.not_not, Int.not_lt, Int.not_le, gt_iff_lt, ge_iff_le] at hc2
      have hI0 : I ≠ 0 := by
        intro h
        apply Classical.byContradiction
        intro hn
        simp_all
      obtain ⟨g1, g2, g3, g4⟩ := reach_facts hf hI0 hlast
      obtain ⟨k, hk⟩ := Int.eq_ofNat_of_zero_le (show 0 ≤ (v - F (S + P - 1) + I - 1) / I by omega)
      have hkv : (k : Int) ≤ v + I := by
        have : (k : Int) * 1 ≤ (k : Int) * I := Int.mul_le_mul_of_nonneg_left (by omega) (by omega)
        rw [hk] at g2; omega
      have hr : reachF F S P I v = (findFrom (fun t => decide (F t ≥ v)) (P + 1) (S + P + (k - 1) * P), true) := by unfold reachF; rw [hff, if_neg (fun hh => hh rfl), if_neg hI0, hk, Int.toNat_natCast]
      rw [hk, Int.toNat_natCast] at g3
      rw [hk] at g1 g2 g4
      have hkP : ((k - 1) * P : Nat) ≤ 1100000000000000 * 120 := Nat.mul_le_mul (by omega) (by omega)
      have hkP2 : ((k : Int) - 1) * (P : Int) = (((k - 1) * P : Nat) : Int) := by rw [Int.natCast_mul, show ((k - 1 : Nat) : Int) = (k : Int) - 1 by omega]
      generalize ht0 : S + P + (k - 1) * P = t0 at hr g3
      refine W.skip ?_
      refine WE.nxt ?_
      refine W.seq ?_
      refine W.regionQ _ mixed (by kernel_rfl) ?_
      refine WG.run tab_ok 2 rfl ?_
      refine' WG.y rfl rfl (by decide) (Yl.load1 tab_ok rfl rfl rfl (fun _ => rfl) ?r6 rfl ?h6) ?_
      case r6 => apply Rd.add; (exact Rd.blk 0 rfl)
      case h6 => rfl
      refine WG.run tab_ok 1 rfl ?_
      refine WG.y rfl rfl (by decide) (Yl.sub rfl rfl rfl (fun _ => rfl) (by intro _; constructor <;> (try dsimp only) <;> omega)) ?_
      refine WG.y rfl rfl (by decide) (Yl.index tab_ok rfl rfl rfl rfl rfl rfl (fun _ => rfl) (by intro _; constructor <;> (try dsimp only) <;> omega) (by intro _; first | exact fun _ _ _ _ => rfl | exact RS.has (by assumption) | exact fun _ _ _ _ => (by assumption) | exact HasMem.ownD 0 rfl | exact HasMem.ownD 1 rfl)) ?_
      refine' WG.y rfl rfl (by decide) (Yl.load1 tab_ok rfl rfl rfl (fun _ => rfl) ?r7 rfl ?h7) ?_
      case r7 => ((apply RS.rdD; assumption; ((try dsimp only) <;> omega)))
      case h7 => rfl
      rw [hvl]
      refine WG.y rfl rfl (by decide) (Yl.sub rfl rfl rfl (fun _ => rfl) (by intro _; constructor <;> (try dsimp only) <;> omega)) ?_
      refine WG.run tab_ok 1 rfl ?_
      refine' WG.y rfl rfl (by decide) (Yl.load1 tab_ok rfl rfl rfl (fun _ => rfl) ?r8 rfl ?h8) ?_
      case r8 => apply Rd.add; (exact Rd.blk 0 rfl)
      case h8 => rfl
      refine WG.y rfl rfl (by decide) (Yl.add rfl rfl rfl (fun _ => rfl) (by intro _; constructor <;> (try dsimp only) <;> omega)) ?_
      refine WG.y rfl rfl (by decide) (Yl.sub rfl rfl rfl (fun _ => rfl) (by intro _; constructor <;> (try dsimp only) <;> omega)) ?_
      refine WG.run tab_ok 1 rfl ?_
      refine' WG.y rfl rfl (by decide) (Yl.load1 tab_ok rfl rfl rfl (fun _ => rfl) ?r9 rfl ?h9) ?_
      case r9 => apply Rd.add; (exact Rd.blk 0 rfl)
      case h9 => rfl
      refine WG.y rfl rfl (by decide) (Yl.quo rfl rfl rfl (fun _ => rfl) (by intro _; constructor <;> (try dsimp only) <;> omega) (by intro _; omega)) ?_
      refine WG.run tab_ok 1 rfl ?_
      refine WG.nil ?_
      refine WE.nxt ?_
      rw [hk]
      refine W.seq ?_
      refine W.region _ ?_
      refine WG.run tab_ok 2 rfl ?_
      refine WG.y rfl rfl (by decide) (Yl.sub rfl rfl rfl (fun _ => rfl) (by intro _; constructor <;> (try dsimp only) <;> omega)) ?_
      refine WG.run tab_ok 1 rfl ?_
      refine WG.y rfl rfl (by decide) (Yl.mul rfl rfl rfl (fun _ => rfl) (by intro _; constructor <;> (try dsimp only) <;> omega)) ?_
      refine WG.y rfl rfl (by decide) (Yl.add rfl rfl rfl (fun _ => rfl) (by intro _; constructor <;> (try dsimp only) <;> omega)) ?_
      rw [hkP2, show (((fvals F (S + P)).length : Int)) + (((k - 1) * P : Nat) : Int) = (t0 : Int) by omega]
      refine WG.run tab_ok 1 rfl ?_
      refine WG.nil ?_
      refine WE.nxt ?_
      refine W.seq ?_
      refine W.block ?_
      refine W.loopK (β := Nat) (fun t => t0 ≤ t ∧ t ≤ t0 + (P - 1) ∧ ∀ j, t0 ≤ j → j < t → F j < v) (fun t => [(11, true, .int .i64 (t : Int))]) [1, 2] [_, _] [] _ rfl (fun t => []) (fun t => t0 + P - t) (t0) (⟨Nat.le_refl _, by omega, fun j a b => by omega⟩) ⟨rfl, rfl, rfl, rfl⟩ qS ?_
      intro t hst
      dsimp only [zipE, setAll, List.cons_append, List.nil_append, List.set_cons_zero, List.set_cons_succ] at hst ⊢
      obtain ⟨ht1, ht2, hno2⟩ := hst
      have hmt := hf.mono ht2
      have hbt : F t ≤ v + 1073741824 := by omega
      refine W.seq ?_
      refine W.seq ?_
      refine W.region _ ?_
      refine' WG.y rfl rfl (by decide) (Yl.load1 tab_ok rfl rfl rfl (fun _ => rfl) ?r10 rfl ?h10) ?_
      case r10 => (exact Rd.blk 0 rfl)
      case h10 => rfl
      refine WG.run tab_ok 1 rfl ?_
      refine WG.callV en116 rfl rfl (by decide) (CallOp.mk' rfl rfl rfl rfl) (fun _ => rfl) (fun hg => WAt_V hf ha (by omega) (by omega)) ?_
      refine WG.run tab_ok 2 rfl ?_
      refine WG.nil ?_
      refine WE.nxt ?_
      refine W.condD rfl (fun hc3 => ?_) (fun hc3 => ?_)
      · try dsimp only at hc3
        refine W.skip ?_
        refine WE.nxt ?_
        refine W.block ?_
        refine W.region _ ?_
        refine WG.run tab_ok 1 rfl ?_
        refine WG.y rfl rfl (by decide) (Yl.add rfl rfl rfl (fun _ => rfl) (by intro _; constructor <;> (try dsimp only) <;> omega)) ?_
        refine WG.run tab_ok 1 rfl ?_
        refine WG.nil ?_
        refine WE.blk _ ?_
        refine WE.again (t + 1) (⟨by omega, by
          apply Classical.byContradiction
          intro hn
          have e : t = t0 + (P - 1) := by omega
          rw [e, g3] at hc3
          omega, fun j a b => by
          by_cases e : j = t
          · subst e; exact hc3
          · exact hno2 j a (by omega)⟩) (by (try dsimp only); omega) ⟨rfl, rfl, rfl, rfl⟩ (RLe.refl _) qS
      · try dsimp only at hc3
        have hff2 : findFrom (fun t => decide (F t ≥ v)) (P + 1) t0 = t := findFrom_some ht1 (by omega) (decide_eq_true (by omega)) (fun j a b => decide_eq_false (by have := hno2 j a b; omega))
        rw [hff2] at hr
        refine W.exit ?_
        refine WE.then_exit ?_
        refine WE.then_exit ?_
        refine WE.blk_exit ?_
        refine WE.nxt ?_
        refine W.seq ?_
        refine W.region _ ?_
        refine WG.run tab_ok 3 rfl ?_
        refine WG.nil ?_
        refine WE.nxt ?_
        refine W.ret ?_
        refine WE.subE (E' := E) qS ?_
        refine WE.retF tab_ok [_, _] rfl ⟨rfl, rfl, trivial⟩ (RLe.refl _) ?_
        exact ⟨by rw [hr]; rfl, rfl⟩

theorem Greatest_V {R : Ro} {g : FuncId} {fi ca : Array Value} {f : Nat → Int × Bool} {n : Nat} (hE : Enters Tryz.prog g) (hF : ∀ t : Nat, t < n → FnV Tryz.prog g (fi.toList ++ [.int .i64 (t : Int)] ++ ca.toList) R (.tuple #[.int .i64 (f t).1, .bool (f t).2])) (hn : n ≤ 1000000) : FnV Tryz.prog 113 [.int .i64 (n : Int), .func (.func g) fi ca] R (.agg #[.bool (greatW f n 0 0 0).1, .int .i64 (greatW f n 0 0 0).2.1, .int .i64 (greatW f n 0 0 0).2.2]) := by
  refine Fn.toVS (fun w0 E => ?_)
  refine Fn.enter (n := 32) Tryz.func113 rfl rfl (Nat.le_of_ble_eq_true rfl) rfl ?_
  refine W.seq ?_
  refine W.region _ ?_
  refine WL.ef rfl rfl (by decide) (Ef.alloc tab_ok rfl rfl (fun b4 => ?_))
  refine WG.nil ?_
  refine WE.nxt ?_
  refine W.seq ?_
  refine W.region _ ?_
  refine WL.ef rfl rfl (by decide) (Ef.alloc tab_ok rfl rfl (fun b5 => ?_))
  refine WG.nil ?_
  refine WE.nxt ?_
  refine W.seq ?_
  refine W.seq ?_
  refine W.region _ ?_
  refine WG.run tab_ok 2 rfl ?_
  refine WG.nil ?_
  refine WE.nxt ?_
  refine W.block ?_
  refine W.loopK (β := Nat × Int × Int) (fun (t, v, a) => t ≤ n ∧ greatW f (n - t) t v a = greatW f n 0 0 0) (fun (t, v, a) => [(10, true, .int .i64 (t : Int))]) [1, 4, 5, 9] [_, _, _, _] [] _ rfl (fun (t, v, a) => [(0, .blk b5 [.bool false, .int .i64 v, .int .i64 a])]) (fun (t, v, a) => n - t) ((0, 0, 0)) (⟨Nat.zero_le _, by rfl⟩) ⟨rfl, rfl, rfl, rfl, rfl, rfl⟩ qS ?_
  intro st hst
  obtain ⟨t, v, a⟩ := st
  dsimp only [zipE, setAll, List.cons_append, List.nil_append, List.set_cons_zero, List.set_cons_succ] at hst ⊢
  obtain ⟨ht, hg⟩ := hst
  refine W.seq ?_
  refine W.region _ ?_
  refine WG.run tab_ok 1 rfl ?_
  refine WG.nil ?_
  refine WE.nxt ?_
  refine W.seq ?_
  refine W.condD rfl (fun hc0 => ?_) (fun hc0 => ?_)
  · try dsimp only at hc0
    have htl : t < n := by omega
    obtain ⟨m, hm⟩ : ∃ m, n - t = m + 1 := ⟨n - t - 1, by omega⟩
    have hm2 : n - (t + 1) = m := by omega
    rw [hm, greatW] at hg
    refine W.skip ?_
    refine WE.nxt ?_
    refine W.seq ?_
    refine W.block ?_
    refine W.seq ?_
    refine W.region _ ?_
    refine WG.run tab_ok 2 rfl ?_
    refine WG.nil ?_
    refine WE.nxt ?_
    refine W.seq ?_
    refine W.region _ ?_
    refine WG.run tab_ok 2 rfl ?_
    refine WG.callV (v := .tuple #[.int .i64 (f t).1, .bool (f t).2]) hE rfl rfl (by decide) (CallOp.mk' rfl rfl rfl rfl) (fun _ => rfl) (fun hg => hF t htl) ?_
    refine WG.run tab_ok 5 rfl ?_
    refine WG.nil ?_
    refine WE.nxt ?_
    refine W.seq ?_
    refine W.seq ?_
    refine W.region _ ?_
    refine WG.run tab_ok 2 rfl ?_
    refine WG.nil ?_
    refine WE.nxt ?_
    refine W.cond rfl (fun hc1 => ?_) (fun hc1 => ?_)
    · try simp only [decide_eq_true_eq, decide_eq_false_iff_not, beq_iff_eq, bne_iff_ne, beq_eq_false_iff_ne, bne_eq_false_iff_eq, ne_eq, Bool.or_eq_true, Bool.or_eq_false_iff, Bool.and_eq_true, Bool.and_eq_false_imp, Bool.not_eq_true, Bool.not_eq_true', Bool.not_eq_false', Classical.not_not, Int.not_lt, Int.not_le, gt_iff_lt, ge_iff_le] at hc1
      have hok : (f t).2 = false := by simpa using hc1
      rw [if_pos hok] at hg
      refine W.seq ?_
      refine W.region _ ?_
      -- build
      refine WG.y rfl rfl (by decide) (Yl.build (parts := [(0, .const (.bool true))]) tab_ok rfl rfl rfl rfl (fun _ => rfl) rfl rfl) ?_
      refine WL.efN rfl rfl (Ef.store0 1 tab_ok rfl rfl rfl rfl rfl rfl rfl rfl ?_)
      refine WG.nil ?_
      refine WE.nxt ?_
      refine W.ret ?_
      refine WE.then_ret ?_
      refine WE.blk_ret ?_
      refine WE.then_ret ?_
      refine WE.then_ret ?_
      refine WE.blk_ret ?_
      refine WE.then_ret ?_
      refine WE.retF tab_ok [_] rfl ⟨⟨_, _, _, rfl, rfl, rfl, ((by first | exact Rd.blk 0 rfl | exact Rd.blk 1 rfl | exact Rd.blk 2 rfl)), rfl⟩, trivial⟩ (RLe.refl _) ?_
      exact ⟨by rw [← hg]; rfl, qS⟩
    · try simp only [decide_eq_true_eq, decide_eq_false_iff_not, beq_iff_eq, bne_iff_ne, beq_eq_false_iff_ne, bne_eq_false_iff_eq, ne_eq, Bool.or_eq_true, Bool.or_eq_false_iff, Bool.and_eq_true, Bool.and_eq_false_imp, Bool.not_eq_true, Bool.not_eq_true', Bool.not_eq_false', Classical.not_not, Int.not_lt, Int.not_le, gt_iff_lt, ge_iff_le] at hc1
      have hok : ¬ (f t).2 = false := by simpa using hc1
      rw [if_neg hok] at hg
      refine W.skip ?_
      refine WE.nxt ?_
      refine W.seq ?_
      refine W.region _ ?_
      refine WG.run tab_ok 2 rfl ?_
      refine' WG.y rfl rfl (by decide) (Yl.load1 tab_ok rfl rfl rfl (fun _ => rfl) ?r1 rfl ?h1) ?_
      case r1 => apply Rd.add; (exact Rd.blk 0 rfl)
      case h1 => rfl
      refine WG.run tab_ok 1 rfl ?_
      refine WG.nil ?_
      refine WE.nxt ?_
      refine W.condD rfl (fun hc2 => ?_) (fun hc2 => ?_)
      · try dsimp only at hc2
        rw [if_pos hc2, ← hm2] at hg
        refine W.region _ ?_
        refine WG.run tab_ok 3 rfl ?_
        refine WL.efN rfl rfl (Ef.store 0 tab_ok rfl rfl rfl rfl rfl rfl rfl rfl ?_)
        refine WG.run tab_ok 1 rfl ?_
        refine WL.efN rfl rfl (Ef.store 0 tab_ok rfl rfl rfl rfl rfl rfl rfl rfl ?_)
        refine WG.nil ?_
        refine WE.blk _ ?_
        refine WE.nxt ?_
        refine W.region _ ?_
        refine WG.y rfl rfl (by decide) (Yl.add rfl rfl rfl (fun _ => rfl) (by intro _; constructor <;> (try dsimp only) <;> omega)) ?_
        refine WG.run tab_ok 1 rfl ?_
        refine WG.nil ?_
        refine WE.again ((t + 1, (f t).1, t)) (⟨by dsimp only; omega, hg⟩) (by (try dsimp only); omega) ⟨rfl, rfl, rfl, rfl, rfl, rfl⟩ (RLe.refl _) qS
      · try dsimp only at hc2
        rw [if_neg (by omega), ← hm2] at hg
        refine W.skip ?_
        refine WE.blk _ ?_
        refine WE.nxt ?_
        refine W.region _ ?_
        refine WG.y rfl rfl (by decide) (Yl.add rfl rfl rfl (fun _ => rfl) (by intro _; constructor <;> (try dsimp only) <;> omega)) ?_
        refine WG.run tab_ok 1 rfl ?_
        refine WG.nil ?_
        refine WE.again ((t + 1, v, a)) (⟨by dsimp only; omega, hg⟩) (by (try dsimp only); omega) ⟨rfl, rfl, rfl, rfl, rfl, rfl⟩ (RLe.refl _) qS
  · try dsimp only at hc0
    obtain rfl : t = n := by omega
    rw [Nat.sub_self, greatW] at hg
    refine W.exit ?_
    refine WE.then_exit ?_
    refine WE.then_exit ?_
    refine WE.blk_exit ?_
    refine WE.nxt ?_
    refine W.seq ?_
    refine W.region _ ?_
    refine' WG.y rfl rfl (by decide) (Yl.load1 tab_ok rfl rfl rfl (fun _ => rfl) ?r2 rfl ?h2) ?_
    case r2 => (exact Rd.blk 0 rfl)
    case h2 => rfl
    refine WL.efN rfl rfl (Ef.store0 1 tab_ok rfl rfl rfl rfl rfl rfl rfl rfl ?_)
    refine WG.nil ?_
    refine WE.nxt ?_
    refine W.ret ?_
    refine WE.retF tab_ok [_] rfl ⟨⟨_, _, _, rfl, rfl, rfl, ((by first | exact Rd.blk 0 rfl | exact Rd.blk 1 rfl | exact Rd.blk 2 rfl)), rfl⟩, trivial⟩ (RLe.refl _) ?_
    exact ⟨by rw [← hg]; rfl, qS⟩

end Go.Proofs.YtlgjkmebpnnphaaGreat

/- Two finite curves in normal form. No condition. -/
set_option maxRecDepth 4000
set_option linter.unusedSimpArgs false
set_option linter.unusedVariables false
namespace Go.Proofs.YtlgjkmebpnnphaaGreat
open Go Go.RowKit Go.Proofs.YtlgjkmebpnnphaaGreat.K Go.Proofs.YtlgjkmebpnnphaaGreat.M

end Go.Proofs.YtlgjkmebpnnphaaGreat

/- The share: differences and their least. No condition. -/
set_option maxRecDepth 4000
set_option linter.unusedSimpArgs false
set_option linter.unusedVariables false
namespace Go.Proofs.YtlgjkmebpnnphaaGreat
open Go Go.RowKit Go.Proofs.YtlgjkmebpnnphaaGreat.K Go.Proofs.YtlgjkmebpnnphaaGreat.M

theorem CommonC_V {R : Ro} {m1 m2 : Cv} (hv1 : validB m1 = true) (hv2 : validB m2 = true) : FnV Tryz.prog 151 [.int .i64 m1.per, .int .i64 m2.per] R (.int .i64 (lcmC m1 m2 : Int)) := by
  obtain ⟨_, _, _, p1, p2, _⟩ := valid_range hv1
  obtain ⟨_, _, _, q1, q2, _⟩ := valid_range hv2
  have h := Common_V (R := R) (a := m1.per.toNat) (b := m2.per.toNat) (by omega) (by omega)
  rw [Int.toNat_of_nonneg (by omega), Int.toNat_of_nonneg (by omega)] at h
  exact h
theorem lcmC_le {m1 m2 : Cv} (hv1 : validB m1 = true) (hv2 : validB m2 = true) : lcmC m1 m2 ≤ 14400 := by
  obtain ⟨_, _, _, p1, p2, _⟩ := valid_range hv1
  obtain ⟨_, _, _, q1, q2, _⟩ := valid_range hv2
  exact Nat.le_trans (lcmN_facts (by omega) (by omega)).2.2.1 (Nat.mul_le_mul (show m1.per.toNat ≤ 120 by omega) (show m2.per.toNat ≤ 120 by omega))
end Go.Proofs.YtlgjkmebpnnphaaGreat

/- Delays and backlogs of any two valid curves. No condition. -/
set_option maxRecDepth 4000
set_option linter.unusedSimpArgs false
set_option linter.unusedVariables false
namespace Go.Proofs.YtlgjkmebpnnphaaGreat
open Go Go.RowKit Go.Proofs.YtlgjkmebpnnphaaGreat.K Go.Proofs.YtlgjkmebpnnphaaGreat.M

theorem ReachI_V {R : Ro} {fa : Option Addr} {fc : Nat} {c : Cv} (hv : validB c = true) (ha : RS R 1 encI fa c.vals) {v : Int} (hx : (v = 4611686018427387904 ∧ finB c = true) ∨ (finB c = false ∧ 0 ≤ v ∧ v ≤ 4611686018427387904)) : FnV Tryz.prog 115 [.agg #[.slice fa c.vals.length fc, .int .i64 c.per, .int .i64 c.inc], .int .i64 v] R (.tuple #[.int .i64 (reachG c v).1, .bool (reachG c v).2]) := by
  refine Fn.toV (fun w0 E => ?_)
  obtain ⟨hr1, hr2, hr3, hr4, hr5, hr6, hr7, hr8⟩ := valid_range hv
  refine Fn.enter (n := 66) Tryz.func115 rfl rfl (Nat.le_of_ble_eq_true rfl) rfl ?_
  refine W.seq ?_
  refine W.region _ ?_
  refine WL.ef rfl rfl (by decide) (Ef.box rfl rfl (fun b2 => ?_))
  refine WG.run tab_ok 2 rfl ?_
  refine WG.nil ?_
  refine WE.nxt ?_
  refine W.seq ?_
  refine W.seq ?_
  refine W.region _ ?_
  refine WG.run tab_ok 1 rfl ?_
  refine' WG.y rfl rfl (by decide) (Yl.load1 tab_ok rfl rfl rfl (fun _ => rfl) ?r1 rfl ?h1) ?_
  case r1 => apply Rd.add; (exact Rd.blk 0 rfl)
  case h1 => rfl
  refine WG.run tab_ok 2 rfl ?_
  refine WG.nil ?_
  refine WE.nxt ?_
  refine W.block ?_
  refine W.loopK (β := Nat) (fun t => t ≤ c.vals.length ∧ ∀ j, j < t → cvF c j < v) (fun t => [(15, true, .int .i64 (t : Int))]) [1, 2, 13, 14] [_, _, _, _] [] _ rfl (fun t => []) (fun t => c.vals.length - t) (0) (⟨Nat.zero_le _, fun j hj => by omega⟩) ⟨rfl, rfl, rfl, rfl, rfl, rfl⟩ qS ?_
  intro t hst
  dsimp only [zipE, setAll, List.cons_append, List.nil_append, List.set_cons_zero, List.set_cons_succ] at hst ⊢
  obtain ⟨ht, hno⟩ := hst
  refine W.seq ?_
  refine W.region _ ?_
  refine WG.run tab_ok 1 rfl ?_
  refine WG.nil ?_
  refine WE.nxt ?_
  refine W.seq ?_
  refine W.condD rfl (fun hc0 => ?_) (fun hc0 => ?_)
  · try dsimp only at hc0
    have htl : t < c.vals.length := by omega
    have hft := cvF_low htl
    refine W.skip ?_
    refine WE.nxt ?_
    refine W.seq ?_
    refine W.block ?_
    refine W.seq ?_
    refine W.region _ ?_
    refine WG.run tab_ok 1 rfl ?_
    refine WG.y rfl rfl (by decide) (Yl.indexN tab_ok rfl rfl rfl rfl rfl rfl (fun _ => rfl) (by intro _; (try dsimp only) <;> omega) (by intro _; first | exact fun _ _ _ _ => rfl | exact RS.has (by assumption) | exact fun _ _ _ _ => (by assumption) | exact HasMem.ownD 0 rfl | exact HasMem.ownD 1 rfl)) ?_
    refine' WG.y rfl rfl (by decide) (Yl.load1 tab_ok rfl rfl rfl (fun _ => rfl) ?r2 rfl ?h2) ?_
    case r2 => ((apply RS.rdD; assumption; ((try dsimp only) <;> omega)))
    case h2 => rfl
    refine WG.run tab_ok 2 rfl ?_
    refine WG.nil ?_
    refine WE.nxt ?_
    refine W.seq ?_
    refine W.region _ ?_
    refine WG.run tab_ok 3 rfl ?_
    refine WG.nil ?_
    refine WE.nxt ?_
    refine W.condD rfl (fun hc1 => ?_) (fun hc1 => ?_)
    · try dsimp only at hc1
      have hff : findFrom (fun t => decide (cvF c t ≥ v)) c.vals.length 0 = t := findFrom_some (Nat.zero_le _) (by omega) (decide_eq_true (by rw [hft]; exact hc1)) (fun j _ hj => decide_eq_false (by have := hno j hj; omega))
      have hr : reachG c v = ((t : Int), true) := by unfold reachG; rw [hff, if_pos (by omega)]
      refine W.seq ?_
      refine W.region _ ?_
      refine WG.run tab_ok 3 rfl ?_
      refine WG.nil ?_
      refine WE.nxt ?_
      refine W.ret ?_
      refine WE.blk_ret ?_
      refine WE.then_ret ?_
      refine WE.then_ret ?_
      refine WE.blk_ret ?_
      refine WE.then_ret ?_
      refine WE.subE (E' := E) qS ?_
      refine WE.retF tab_ok [_, _] rfl ⟨rfl, rfl, trivial⟩ (RLe.refl _) ?_
      exact ⟨by rw [hr]; rfl, rfl⟩
    · try dsimp only at hc1
      refine W.skip ?_
      refine WE.blk _ ?_
      refine WE.nxt ?_
      refine W.region _ ?_
      refine WG.y rfl rfl (by decide) (Yl.add rfl rfl rfl (fun _ => rfl) (by intro _; constructor <;> (try dsimp only) <;> omega)) ?_
      refine WG.run tab_ok 1 rfl ?_
      refine WG.nil ?_
      refine WE.again (t + 1) (⟨by omega, fun j hj => by
        by_cases e : j = t
        · subst e; rw [hft]; omega
        · exact hno j (by omega)⟩) (by (try dsimp only); omega) ⟨rfl, rfl, rfl, rfl, rfl, rfl⟩ (RLe.refl _) qS
  · try dsimp only at hc0
    obtain rfl : t = c.vals.length := by omega
    have hff : findFrom (fun t => decide (cvF c t ≥ v)) c.vals.length 0 = -1 := findFrom_none (fun j _ hj => decide_eq_false (by have := hno j (by omega); omega))
    refine W.exit ?_
    refine WE.then_exit ?_
    refine WE.then_exit ?_
    refine WE.blk_exit ?_
    refine WE.nxt ?_
    refine W.seq ?_
    refine W.regionQ _ mixed (by kernel_rfl) ?_
    refine WG.run tab_ok 1 rfl ?_
    refine' WG.y rfl rfl (by decide) (Yl.load1 tab_ok rfl rfl rfl (fun _ => rfl) ?r3 rfl ?h3) ?_
    case r3 => apply Rd.add; (exact Rd.blk 0 rfl)
    case h3 => rfl
    refine WG.run tab_ok 2 rfl ?_
    refine' WG.y rfl rfl (by decide) (Yl.load1 tab_ok rfl rfl rfl (fun _ => rfl) ?r4 rfl ?h4) ?_
    case r4 => apply Rd.add; (exact Rd.blk 0 rfl)
    case h4 => rfl
    refine WG.run tab_ok 2 rfl ?_
    refine WG.nil ?_
    refine WE.nxt ?_
    refine W.seq ?_
    refine W.seq ?_
    refine W.region _ ?_
    refine WG.run tab_ok 3 rfl ?_
    refine WG.y rfl rfl (by decide) (pureV_ok tab_ok rfl qE) ?_
    refine' WG.y rfl rfl (by decide) (Yl.loadG tab_ok rfl rfl rfl qE ?r5 rfl ?h5 ?g5) ?_
    case r5 => apply Rd.addC; (exact Rd.blkC 0 rfl)
    case h5 => rfl
    case g5 => exact fun _ => trivial
    refine WG.y rfl rfl (by decide) (pureV_ok tab_ok rfl qE) ?_
    refine WG.y rfl rfl (by decide) (Yl.por rfl rfl rfl (fun _ => rfl) (by intro h1 h2; simp_all <;> omega)) ?_
    refine WG.nil ?_
    refine WE.nxt ?_
    refine W.cond rfl (fun hc2 => ?_) (fun hc2 => ?_)
    · try simp only [decide_eq_true_eq, decide_eq_false_iff_not, beq_iff_eq, bne_iff_ne, beq_eq_false_iff_ne, bne_eq_false_iff_eq, ne_eq, Bool.or_eq_true, Bool.or_eq_false_iff, Bool.and_eq_true, Bool.and_eq_false_imp, Bool.not_eq_true, Bool.not_eq_true', Bool.not_eq_false', Classical.not_not, Int.not_lt, Int.not_le, gt_iff_lt, ge_iff_le] at hc2
      have hr : reachG c v = (0, false) := by unfold reachG; rw [hff, if_neg (fun hh => hh rfl), if_pos (by unfold INF; omega)]
      refine W.seq ?_
      refine W.region _ ?_
      refine WG.run tab_ok 2 rfl ?_
      refine WG.nil ?_
      refine WE.nxt ?_
      refine W.ret ?_
      refine WE.then_ret ?_
      refine WE.subE (E' := E) qS ?_
      refine WE.retF tab_ok [_, _] rfl ⟨rfl, rfl, trivial⟩ (RLe.refl _) ?_
      exact ⟨by rw [hr]; rfl, rfl⟩
    · try simp only [decide_eq_true_eq, decide_eq_false_iff_not, beq_iff_eq, bne_iff_ne, beq_eq_false_iff_ne, bne_eq_false_iff_eq, ne_eq, Bool.or_eq_true, Bool.or_eq_false_iff, Bool.and_eq_true, Bool.and_eq_false_imp, Bool.not_eq_true, Bool.not_eq_true', Bool.not_eq_false', Classical.not_not, Int.not_lt, Int.not_le, gt_iff_lt, ge_iff_le] at hc2
      exfalso
      rcases hx with ⟨h, _⟩ | ⟨h1, h2, h3⟩
      · first | exact hc2 (.inl h) | exact hc2.1 h
      · obtain ⟨n, n1, _, n3⟩ := inf_at hv h1
        have hs := stN_lt hv
        have h4 := hno n (by omega)
        rw [n3.hi n (Nat.le_refl _)] at h4
        unfold INF at h4; omega

theorem ReachG_V {R : Ro} {fa : Option Addr} {fc : Nat} {c : Cv} (hv : validB c = true) (ha : RS R 1 encI fa c.vals) {v : Int} (hvv : v = 4611686018427387904 ∨ (0 ≤ v ∧ v ≤ 1000000000000000)) : FnV Tryz.prog 115 [.agg #[.slice fa c.vals.length fc, .int .i64 c.per, .int .i64 c.inc], .int .i64 v] R (.tuple #[.int .i64 (reachG c v).1, .bool (reachG c v).2]) := by
  cases hf : finB c with
  | false => exact ReachI_V hv ha (.inr ⟨hf, by omega⟩)
  | true =>
    by_cases h : v = 4611686018427387904
    · exact ReachI_V hv ha (.inl ⟨h, hf⟩)
    · rcases valid_cases hv with ⟨S, P, e, hl, hp, hfc, _⟩ | ⟨_, _, _, _, _, _, _, f⟩
      · have h2 := reachG_F hl hp (v := v) (by unfold INF; exact h)
        have e2 : c.vals = fvals (cvF c) (S + P) := by rw [← hl]; exact cvF_vals c
        rw [h2, hp, e2]
        rw [e2] at ha
        exact ReachF_V hfc ha (by omega)
      · rw [hf] at f; cases f

set_option maxHeartbeats 2000000 in
theorem DBothG_C {R : Ro} {fa : Option Addr} {fc : Nat} {cf : Cv} (hvf : validB cf = true) (ha : RS R 1 encI fa cf.vals) {ga : Option Addr} {gc : Nat} {cg : Cv} (hvg : validB cg = true) (hb : RS R 1 encI ga cg.vals) (w0 : World) (E : List Ent) : K.Fn Tryz.prog 112 [.agg #[.slice fa cf.vals.length fc, .int .i64 cf.per, .int .i64 cf.inc], .agg #[.slice ga cg.vals.length gc, .int .i64 cg.per, .int .i64 cg.inc]] w0 R E (fun v R' E' => ∃ (f1 : Option Addr) (n1 c1 : Nat) (p1 q1 : Int) (f2 : Option Addr) (n2 c2 : Nat) (p2 q2 tk : Int) (lo : Bool) (e : Int), v = .tuple #[.agg #[.slice f1 n1 c1, .int .i64 p1, .int .i64 q1, .slice f2 n2 c2, .int .i64 p2, .int .i64 q2, .int .i64 tk, .bool lo], .int .i64 e] ∧
      ((e = 3 ∧ 120 < lcmC (normR cf) (normR cg)) ∨ (e = 0 ∧ ¬ 120 < lcmC (normR cf) (normR cg) ∧ n1 = (normR cf).vals.length ∧ p1 = (normR cf).per ∧ q1 = (normR cf).inc ∧ n2 = (normR cg).vals.length ∧ p2 = (normR cg).per ∧ q2 = (normR cg).inc ∧ RS R' 1 encI f1 (normR cf).vals ∧ RS R' 1 encI f2 (normR cg).vals ∧ tk = ((max (stN (normR cf)) (stN (normR cg)) + lcmC (normR cf) (normR cg) : Nat) : Int) ∧ lo = decide (loose (normR cf) (normR cg)))) ∧ E.Sublist E') := by
  have hnf := norm_nrm hvf
  have hng := norm_nrm hvg
  refine Fn.enter (n := 65) Tryz.func112 rfl rfl (Nat.le_of_ble_eq_true rfl) rfl ?_
  refine W.seq ?_
  refine W.region _ ?_
  refine WL.ef rfl rfl (by decide) (Ef.box rfl rfl (fun b2 => ?_))
  refine WL.ef rfl rfl (by decide) (Ef.box rfl rfl (fun b3 => ?_))
  refine WL.ef rfl rfl (by decide) (Ef.alloc tab_ok rfl rfl (fun b4 => ?_))
  refine WG.run tab_ok 1 rfl ?_
  refine WG.nil ?_
  refine WE.nxt ?_
  refine W.seq ?_
  refine W.region _ ?_
  refine' WG.y rfl rfl (by decide) (Yl.load1 tab_ok rfl rfl rfl (fun _ => rfl) ?r1 rfl ?h1) ?_
  case r1 => (exact Rd.blk 2 rfl)
  case h1 => rfl
  refine WL.call en150 rfl rfl (by decide) (CallOp.mkT rfl rfl rfl rfl) (CNormalV_C hvf ha w0 _) ?_
  rintro _ R1 _ hR1 ⟨fa1x, ca1x, rfl, ha1x, hsub⟩
  refine WL.subE hsub ?_
  unfold cvV
  dsimp only at ha1x ⊢
  have hb := hb.mono hR1
  refine WG.run tab_ok 3 rfl ?_
  refine WL.ef rfl rfl (by decide) (Ef.alloc tab_ok rfl rfl (fun b6 => ?_))
  refine WL.efN rfl rfl (Ef.store0 0 tab_ok rfl rfl rfl rfl rfl rfl rfl rfl ?_)
  refine WG.run tab_ok 1 rfl ?_
  refine WG.nil ?_
  refine WE.nxt ?_
  refine W.seq ?_
  refine W.seq ?_
  refine W.region _ ?_
  refine WG.run tab_ok 2 rfl ?_
  refine WG.nil ?_
  refine WE.nxt ?_
  refine W.condN rfl (fun hc0 => ?_) (fun hc0 => ?_)
  · try dsimp only at hc0
    exact absurd rfl hc0
  · try dsimp only at hc0
    refine W.skip ?_
    refine WE.nxt ?_
    refine W.seq ?_
    refine W.region _ ?_
    refine' WG.y rfl rfl (by decide) (Yl.load1 tab_ok rfl rfl rfl (fun _ => rfl) ?r2 rfl ?h2) ?_
    case r2 => (exact Rd.blk 2 rfl)
    case h2 => rfl
    refine WL.call en150 rfl rfl (by decide) (CallOp.mkT rfl rfl rfl rfl) (CNormalV_C hvg hb w0 _) ?_
    rintro _ R2 _ hR2 ⟨fa2x, ca2x, rfl, ha2x, hsub⟩
    refine WL.subE hsub ?_
    unfold cvV
    dsimp only at ha2x ⊢
    have ha1x := ha1x.mono hR2
    generalize normR cf = m1 at *
    generalize normR cg = m2 at *
    have hv1 := hnf.valid
    have hv2 := hng.valid
    have hlle := lcmC_le hv1 hv2
    have hlp := lcm_pos hv1 hv2
    have hs1 := stN_lt hv1
    have hs2 := stN_lt hv2
    refine WG.run tab_ok 3 rfl ?_
    refine WL.ef rfl rfl (by decide) (Ef.alloc tab_ok rfl rfl (fun b8 => ?_))
    refine WL.efN rfl rfl (Ef.store0 0 tab_ok rfl rfl rfl rfl rfl rfl rfl rfl ?_)
    refine WG.run tab_ok 1 rfl ?_
    refine WG.nil ?_
    refine WE.nxt ?_
    refine W.seq ?_
    refine W.seq ?_
    refine W.region _ ?_
    refine WG.run tab_ok 2 rfl ?_
    refine WG.nil ?_
    refine WE.nxt ?_
    refine W.condN rfl (fun hc1 => ?_) (fun hc1 => ?_)
    · try dsimp only at hc1
      exact absurd rfl hc1
    · try dsimp only at hc1
      refine W.skip ?_
      refine WE.nxt ?_
      refine W.seq ?_
      refine W.region _ ?_
      refine WG.run tab_ok 1 rfl ?_
      refine' WG.y rfl rfl (by decide) (Yl.load1 tab_ok rfl rfl rfl (fun _ => rfl) ?r3 rfl ?h3) ?_
      case r3 => apply Rd.add; (exact Rd.blk 1 rfl)
      case h3 => rfl
      refine WG.run tab_ok 1 rfl ?_
      refine' WG.y rfl rfl (by decide) (Yl.load1 tab_ok rfl rfl rfl (fun _ => rfl) ?r4 rfl ?h4) ?_
      case r4 => apply Rd.add; (exact Rd.blk 0 rfl)
      case h4 => rfl
      refine WG.callV (v := .int .i64 (lcmC m1 m2 : Int)) en151 rfl rfl (by decide) (CallOp.mk' rfl rfl rfl rfl) (fun _ => rfl) (fun hg => CommonC_V hv1 hv2) ?_
      refine WG.run tab_ok 1 rfl ?_
      refine WG.nil ?_
      refine WE.nxt ?_
      refine W.seq ?_
      refine W.seq ?_
      refine W.region _ ?_
      refine WG.run tab_ok 2 rfl ?_
      refine WG.nil ?_
      refine WE.nxt ?_
      refine W.condD rfl (fun hc2 => ?_) (fun hc2 => ?_)
      · try dsimp only at hc2
        refine W.seq ?_
        refine W.region _ ?_
        -- build
        refine WG.y rfl rfl (by decide) (Yl.build (parts := []) tab_ok rfl rfl rfl rfl (fun _ => rfl) rfl rfl) ?_
        refine WL.efN rfl rfl (Ef.store0 2 tab_ok rfl rfl rfl rfl rfl rfl rfl rfl ?_)
        refine WG.run tab_ok 1 rfl ?_
        refine WG.nil ?_
        refine WE.nxt ?_
        refine W.ret ?_
        refine WE.then_ret ?_
        refine WE.retF tab_ok [_, _] rfl ⟨⟨_, _, _, rfl, rfl, rfl, ((by first | exact Rd.blk 0 rfl | exact Rd.blk 1 rfl | exact Rd.blk 2 rfl | exact Rd.blk 3 rfl | exact Rd.blk 4 rfl | exact Rd.blk 5 rfl | exact Rd.blk 6 rfl)), rfl⟩, rfl, trivial⟩ (hR1.trans hR2) ?_
        exact ⟨none, 0, 0, 0, 0, none, 0, 0, 0, 0, 0, false, _, rfl, .inl ⟨rfl, by omega⟩, qS⟩
      · try dsimp only at hc2
        have hl1 : ¬ 120 < lcmC m1 m2 := by omega
        refine W.skip ?_
        refine WE.nxt ?_
        refine W.seqCut (β := Nat × Int) (fun (b10, tk) => tk = ((max (stN m1) (stN m2) + lcmC m1 m2 : Nat) : Int)) (fun (b10, tk) => [(4, true, .pointer (some ⟨b4, 0, none⟩)), (6, true, .pointer (some ⟨b6, 0, none⟩)), (8, true, .pointer (some ⟨b8, 0, none⟩)), (9, true, .int .i64 (lcmC m1 m2 : Int)), (10, true, .pointer (some ⟨b10, 0, none⟩))]) (fun _ => R2) (fun (b10, tk) => .blk b10 [.slice fa1x m1.vals.length ca1x, .int .i64 m1.per, .int .i64 m1.inc, .slice fa2x m2.vals.length ca2x, .int .i64 m2.per, .int .i64 m2.inc, .int .i64 tk, .bool false] :: .blk b8 [.slice fa2x m2.vals.length ca2x, .int .i64 m2.per, .int .i64 m2.inc] :: .blk b6 [.slice fa1x m1.vals.length ca1x, .int .i64 m1.per, .int .i64 m1.inc] :: .blk b4 [.slice none 0 0, .int .i64 0, .int .i64 0, .slice none 0 0, .int .i64 0, .int .i64 0, .int .i64 0, .bool false] :: E) ?_ ?_
        ·
          intro st hst
          obtain ⟨b10, tk⟩ := st
          obtain rfl : tk = _ := hst
          dsimp only
          have hloq : (finB m2 && (!finB m1 || decide (gainC m1 (lcmC m1 m2) > gainC m2 (lcmC m1 m2)))) = decide (loose m1 m2) := by
            rw [Bool.eq_iff_iff, decide_eq_true_iff]
            unfold loose
            simp
          refine W.seq ?_
          refine W.regionH _ (ES := [.blk b8 [.slice fa2x m2.vals.length ca2x, .int .i64 m2.per, .int .i64 m2.inc], .blk b6 [.slice fa1x m1.vals.length ca1x, .int .i64 m1.per, .int .i64 m1.inc]]) mixed ?_
          refine' WA.take 0 rfl (by kernel_rfl) (by kernel_rfl) (by kernel_rfl) rfl rfl (by decide) (Yl.load1 tab_ok rfl rfl rfl (fun _ => rfl) ?r5 rfl ?h5) qS (by first | exact RLe.refl _ | assumption) ?_
          case r5 => (exact Rd.blk 0 rfl)
          case h5 => rfl
          refine WA.callV 1 rfl (by kernel_rfl) en153 rfl rfl (by decide) (CallOp.mk' rfl rfl rfl rfl) (fun _ => rfl) (fun hg => WFiniteG_V hv2 ha2x) qS (by first | exact RLe.refl _ | assumption) ?_
          refine WA.take 2 rfl (by kernel_rfl) (by kernel_rfl) (by kernel_rfl) rfl rfl (by decide) (pureV_ok tab_ok rfl (fun _ => rfl)) qS (by first | exact RLe.refl _ | assumption) ?_
          refine' WA.take 3 rfl (by kernel_rfl) (by kernel_rfl) (by kernel_rfl) rfl rfl (by decide) (Yl.loadG tab_ok rfl rfl rfl qE ?r6 rfl ?h6 ?g6) qS (by first | exact RLe.refl _ | assumption) ?_
          case r6 => (exact Rd.blkC 1 rfl)
          case h6 => rfl
          case g6 => exact fun _ => trivial
          refine WA.callV 4 rfl (by kernel_rfl) en153 rfl rfl (by decide) (CallOp.mk' rfl rfl rfl rfl) qE (fun hg => WFiniteG_V hv1 ha1x) qS (by first | exact RLe.refl _ | assumption) ?_
          refine WA.take 5 rfl (by kernel_rfl) (by kernel_rfl) (by kernel_rfl) rfl rfl (by decide) (pureV_ok tab_ok rfl qE) qS (by first | exact RLe.refl _ | assumption) ?_
          refine WA.take 6 rfl (by kernel_rfl) (by kernel_rfl) (by kernel_rfl) rfl rfl (by decide) (pureV_ok tab_ok rfl qE) qS (by first | exact RLe.refl _ | assumption) ?_
          refine' WA.take 7 rfl (by kernel_rfl) (by kernel_rfl) (by kernel_rfl) rfl rfl (by decide) (Yl.loadG tab_ok rfl rfl rfl qE ?r7 rfl ?h7 ?g7) qS (by first | exact RLe.refl _ | assumption) ?_
          case r7 => (exact Rd.blkC 1 rfl)
          case h7 => rfl
          case g7 => exact fun _ => trivial
          refine WA.take 8 rfl (by kernel_rfl) (by kernel_rfl) (by kernel_rfl) rfl rfl (by decide) (pureV_ok tab_ok rfl qE) qS (by first | exact RLe.refl _ | assumption) ?_
          refine' WA.take 10 rfl (by kernel_rfl) (by kernel_rfl) (by kernel_rfl) rfl rfl (by decide) (Yl.loadG tab_ok rfl rfl rfl qE ?r8 rfl ?h8 ?g8) qS (by first | exact RLe.refl _ | assumption) ?_
          case r8 => (exact Rd.blkC 0 rfl)
          case h8 => rfl
          case g8 => exact fun _ => trivial
          refine WA.take 11 rfl (by kernel_rfl) (by kernel_rfl) (by kernel_rfl) rfl rfl (by decide) (pureV_ok tab_ok rfl qE) qS (by first | exact RLe.refl _ | assumption) ?_
          refine WA.callV 9 (v := .int .i64 (gainC m1 (lcmC m1 m2))) rfl (by kernel_rfl) en154 rfl rfl (by decide) (CallOp.mk' rfl rfl rfl rfl) qE (fun hg => WGainG_V hv1 ha1x (L := lcmC m1 m2) (by omega)) qS (by first | exact RLe.refl _ | assumption) ?_
          refine WA.callV 12 (v := .int .i64 (gainC m2 (lcmC m1 m2))) rfl (by kernel_rfl) en154 rfl rfl (by decide) (CallOp.mk' rfl rfl rfl rfl) qE (fun hg => WGainG_V hv2 ha2x (L := lcmC m1 m2) (by omega)) qS (by first | exact RLe.refl _ | assumption) ?_
          refine WA.take 13 rfl (by kernel_rfl) (by kernel_rfl) (by kernel_rfl) rfl rfl (by decide) (pureV_ok tab_ok rfl qE) qS (by first | exact RLe.refl _ | assumption) ?_
          refine WA.take 14 rfl (by kernel_rfl) (by kernel_rfl) (by kernel_rfl) rfl rfl (by decide) (Yl.por rfl rfl rfl qE (by intro h1 h2; simp_all <;> omega)) qS (by first | exact RLe.refl _ | assumption) ?_
          refine WA.take 15 rfl (by kernel_rfl) (by kernel_rfl) (by kernel_rfl) rfl rfl (by decide) (Yl.pand rfl rfl rfl (fun _ => rfl) (by intro h1 h2; simp_all <;> omega)) qS (by first | exact RLe.refl _ | assumption) ?_
          refine WA.take 16 rfl (by kernel_rfl) (by kernel_rfl) (by kernel_rfl) rfl rfl (by decide) (pureV_ok tab_ok rfl (fun _ => rfl)) qS (by first | exact RLe.refl _ | assumption) ?_
          refine WA.effN 17 rfl (by kernel_rfl) rfl rfl (Ef.store 0 tab_ok rfl rfl rfl rfl rfl rfl rfl rfl ?_)
          refine ⟨by first | exact RLe.refl _ | assumption, qS, ?_⟩
          refine WA.done (by kernel_rfl) ?_
          refine WE.nxt ?_
          refine W.seq ?_
          refine W.region _ ?_
          refine' WG.y rfl rfl (by decide) (Yl.load1 tab_ok rfl rfl rfl (fun _ => rfl) ?r9 rfl ?h9) ?_
          case r9 => (exact Rd.blk 0 rfl)
          case h9 => rfl
          refine WL.efN rfl rfl (Ef.store0 3 tab_ok rfl rfl rfl rfl rfl rfl rfl rfl ?_)
          refine WG.run tab_ok 1 rfl ?_
          refine WG.nil ?_
          refine WE.nxt ?_
          refine W.ret ?_
          refine WE.retF tab_ok [_, _] rfl ⟨⟨_, _, _, rfl, rfl, rfl, ((by first | exact Rd.blk 0 rfl | exact Rd.blk 1 rfl | exact Rd.blk 2 rfl | exact Rd.blk 3 rfl | exact Rd.blk 4 rfl | exact Rd.blk 5 rfl | exact Rd.blk 6 rfl)), rfl⟩, rfl, trivial⟩ (hR1.trans hR2) ?_
          refine ⟨fa1x, _, ca1x, _, _, fa2x, _, ca2x, _, _, _, _, _, rfl, .inr ⟨rfl, hl1, rfl, rfl, rfl, rfl, rfl, rfl, ha1x, ha2x, ?_, ?_⟩, qS⟩
          · first | rfl | omega | (split <;> omega)
          · first | exact hloq | (rw [← hloq]; rfl)
        ·
          refine W.regionH _ (ES := [.blk b8 [.slice fa2x m2.vals.length ca2x, .int .i64 m2.per, .int .i64 m2.inc], .blk b6 [.slice fa1x m1.vals.length ca1x, .int .i64 m1.per, .int .i64 m1.inc]]) mixed ?_
          refine' WA.take 0 rfl (by kernel_rfl) (by kernel_rfl) (by kernel_rfl) rfl rfl (by decide) (Yl.load1 tab_ok rfl rfl rfl (fun _ => rfl) ?r10 rfl ?h10) qS (by first | exact RLe.refl _ | assumption) ?_
          case r10 => (exact Rd.blk 1 rfl)
          case h10 => rfl
          refine' WA.take 1 rfl (by kernel_rfl) (by kernel_rfl) (by kernel_rfl) rfl rfl (by decide) (Yl.load1 tab_ok rfl rfl rfl (fun _ => rfl) ?r11 rfl ?h11) qS (by first | exact RLe.refl _ | assumption) ?_
          case r11 => (exact Rd.blk 0 rfl)
          case h11 => rfl
          refine' WA.take 2 rfl (by kernel_rfl) (by kernel_rfl) (by kernel_rfl) rfl rfl (by decide) (Yl.load1 tab_ok rfl rfl rfl (fun _ => rfl) ?r12 rfl ?h12) qS (by first | exact RLe.refl _ | assumption) ?_
          case r12 => (exact Rd.blk 1 rfl)
          case h12 => rfl
          refine' WA.take 4 rfl (by kernel_rfl) (by kernel_rfl) (by kernel_rfl) rfl rfl (by decide) (Yl.load1 tab_ok rfl rfl rfl (fun _ => rfl) ?r13 rfl ?h13) qS (by first | exact RLe.refl _ | assumption) ?_
          case r13 => (exact Rd.blk 0 rfl)
          case h13 => rfl
          refine WA.take 7 rfl (by kernel_rfl) (by kernel_rfl) (by kernel_rfl) rfl rfl (by decide) (pureV_ok tab_ok rfl (fun _ => rfl)) qS (by first | exact RLe.refl _ | assumption) ?_
          refine WA.br2 (i := 3) (j := 10) (by kernel_rfl) ?_ ?_
          ·
            refine WS.callV rfl en152 rfl rfl (by decide) (CallOp.mk' rfl rfl rfl rfl) (fun _ => rfl) (fun hg => WStartG_V hv1 ha1x) qS (by first | exact RLe.refl _ | assumption) ?_
            refine WA.br2 (i := 5) (j := 10) (by kernel_rfl) ?_ ?_
            ·
              refine WS.callV rfl en152 rfl rfl (by decide) (CallOp.mk' rfl rfl rfl rfl) (fun _ => rfl) (fun hg => WStartG_V hv2 ha2x) qS (by first | exact RLe.refl _ | assumption) ?_
              refine WA.take 6 rfl (by kernel_rfl) (by kernel_rfl) (by kernel_rfl) rfl rfl (by decide) (pureV_ok tab_ok rfl (fun _ => rfl)) qS (by first | exact RLe.refl _ | assumption) ?_
              refine WA.take 8 rfl (by kernel_rfl) (by kernel_rfl) (by kernel_rfl) rfl rfl (by decide) (Yl.add rfl rfl rfl (fun _ => rfl) (by intro _; constructor <;> (try dsimp only) <;> omega)) qS (by first | exact RLe.refl _ | assumption) ?_
              -- build
              refine WA.take 9 rfl (by kernel_rfl) (by kernel_rfl) (by kernel_rfl) rfl rfl (by decide) (Yl.build (parts := [(0, .tmp 37), (1, .tmp 38), (2, .tmp 45)]) tab_ok rfl rfl rfl rfl (fun _ => rfl) rfl rfl) qS (by first | exact RLe.refl _ | assumption) ?_
              refine WA.eff 10 rfl (by kernel_rfl) rfl rfl (by decide) (Ef.alloc tab_ok rfl rfl (fun b10 => ?_))
              refine ⟨by first | exact RLe.refl _ | assumption, qS, ?_⟩
              refine WA.effN 11 rfl (by kernel_rfl) rfl rfl (Ef.store0 0 tab_ok rfl rfl rfl rfl rfl rfl rfl rfl ?_)
              refine ⟨by first | exact RLe.refl _ | assumption, qS, ?_⟩
              refine WA.done (by kernel_rfl) ?_
              refine WE.cut (b10, (if (stN m1 : Int) < (stN m2 : Int) then (stN m2 : Int) else (stN m1 : Int)) + (lcmC m1 m2 : Int)) (by first | rfl | omega | (split <;> omega)) ⟨rfl, rfl, rfl, rfl, rfl, rfl⟩ (RLe.refl _) qS
            ·
              refine WS.eff rfl rfl rfl (by decide) (Ef.alloc tab_ok rfl rfl (fun b10 => ?_))
              refine ⟨by first | exact RLe.refl _ | assumption, qS, ?_⟩
              refine WA.callV 5 rfl (by kernel_rfl) en152 rfl rfl (by decide) (CallOp.mk' rfl rfl rfl rfl) (fun _ => rfl) (fun hg => WStartG_V hv2 ha2x) qS (by first | exact RLe.refl _ | assumption) ?_
              refine WA.take 6 rfl (by kernel_rfl) (by kernel_rfl) (by kernel_rfl) rfl rfl (by decide) (pureV_ok tab_ok rfl (fun _ => rfl)) qS (by first | exact RLe.refl _ | assumption) ?_
              refine WA.take 8 rfl (by kernel_rfl) (by kernel_rfl) (by kernel_rfl) rfl rfl (by decide) (Yl.add rfl rfl rfl (fun _ => rfl) (by intro _; constructor <;> (try dsimp only) <;> omega)) qS (by first | exact RLe.refl _ | assumption) ?_
              -- build
              refine WA.take 9 rfl (by kernel_rfl) (by kernel_rfl) (by kernel_rfl) rfl rfl (by decide) (Yl.build (parts := [(0, .tmp 37), (1, .tmp 38), (2, .tmp 45)]) tab_ok rfl rfl rfl rfl (fun _ => rfl) rfl rfl) qS (by first | exact RLe.refl _ | assumption) ?_
              refine WA.effN 11 rfl (by kernel_rfl) rfl rfl (Ef.store0 0 tab_ok rfl rfl rfl rfl rfl rfl rfl rfl ?_)
              refine ⟨by first | exact RLe.refl _ | assumption, qS, ?_⟩
              refine WA.done (by kernel_rfl) ?_
              refine WE.cut (b10, (if (stN m1 : Int) < (stN m2 : Int) then (stN m2 : Int) else (stN m1 : Int)) + (lcmC m1 m2 : Int)) (by first | rfl | omega | (split <;> omega)) ⟨rfl, rfl, rfl, rfl, rfl, rfl⟩ (RLe.refl _) qS
          ·
            refine WS.eff rfl rfl rfl (by decide) (Ef.alloc tab_ok rfl rfl (fun b10 => ?_))
            refine ⟨by first | exact RLe.refl _ | assumption, qS, ?_⟩
            refine WA.callV 3 rfl (by kernel_rfl) en152 rfl rfl (by decide) (CallOp.mk' rfl rfl rfl rfl) (fun _ => rfl) (fun hg => WStartG_V hv1 ha1x) qS (by first | exact RLe.refl _ | assumption) ?_
            refine WA.callV 5 rfl (by kernel_rfl) en152 rfl rfl (by decide) (CallOp.mk' rfl rfl rfl rfl) (fun _ => rfl) (fun hg => WStartG_V hv2 ha2x) qS (by first | exact RLe.refl _ | assumption) ?_
            refine WA.take 6 rfl (by kernel_rfl) (by kernel_rfl) (by kernel_rfl) rfl rfl (by decide) (pureV_ok tab_ok rfl (fun _ => rfl)) qS (by first | exact RLe.refl _ | assumption) ?_
            refine WA.take 8 rfl (by kernel_rfl) (by kernel_rfl) (by kernel_rfl) rfl rfl (by decide) (Yl.add rfl rfl rfl (fun _ => rfl) (by intro _; constructor <;> (try dsimp only) <;> omega)) qS (by first | exact RLe.refl _ | assumption) ?_
            -- build
            refine WA.take 9 rfl (by kernel_rfl) (by kernel_rfl) (by kernel_rfl) rfl rfl (by decide) (Yl.build (parts := [(0, .tmp 37), (1, .tmp 38), (2, .tmp 45)]) tab_ok rfl rfl rfl rfl (fun _ => rfl) rfl rfl) qS (by first | exact RLe.refl _ | assumption) ?_
            refine WA.effN 11 rfl (by kernel_rfl) rfl rfl (Ef.store0 0 tab_ok rfl rfl rfl rfl rfl rfl rfl rfl ?_)
            refine ⟨by first | exact RLe.refl _ | assumption, qS, ?_⟩
            refine WA.done (by kernel_rfl) ?_
            refine WE.cut (b10, (if (stN m1 : Int) < (stN m2 : Int) then (stN m2 : Int) else (stN m1 : Int)) + (lcmC m1 m2 : Int)) (by first | rfl | omega | (split <;> omega)) ⟨rfl, rfl, rfl, rfl, rfl, rfl⟩ (RLe.refl _) qS

theorem DelayFG_V {R : Ro} {a1 : Option Addr} {c1 : Nat} {m1 : Cv} (hv1 : validB m1 = true) (hx1 : RS R 1 encI a1 m1.vals) {a2 : Option Addr} {c2 : Nat} {m2 : Cv} (hv2 : validB m2 = true) (hx2 : RS R 1 encI a2 m2.vals) {b6 : Nat} {tk : Int} {lo : Bool} (h6 : R b6 = some [.slice a1 m1.vals.length c1, .int .i64 m1.per, .int .i64 m1.inc, .slice a2 m2.vals.length c2, .int .i64 m2.per, .int .i64 m2.inc, .int .i64 tk, .bool lo]) {t : Nat} (ht : t ≤ 100000) : FnV Tryz.prog 114 [.int .i64 (t : Int), .pointer (some ⟨b6, 0, none⟩)] R (.tuple #[.int .i64 (gapD m1 m2 t).1, .bool (gapD m1 m2 t).2]) := by
  have hlow := cvF_low15 hv1 ht
  have hrb := reachG_bound hv2 hlow
  unfold INF at hlow
  refine Fn.toV (fun w0 E => ?_)
  refine Fn.enter (n := 21) Tryz.func114 rfl rfl (Nat.le_of_ble_eq_true rfl) rfl ?_
  refine W.seq ?_
  refine W.region _ ?_
  refine WG.run tab_ok 2 rfl ?_
  refine WG.nil ?_
  refine WE.nxt ?_
  refine W.seq ?_
  refine W.regionQ _ mixed (by kernel_rfl) ?_
  refine WG.run tab_ok 1 rfl ?_
  refine' WG.y rfl rfl (by decide) (Yl.load1 tab_ok rfl rfl rfl (fun _ => rfl) ?r1 rfl ?h1) ?_
  case r1 => apply Rd.add; (exact Rd.ro (by assumption))
  case h1 => rfl
  refine WG.run tab_ok 1 rfl ?_
  refine' WG.y rfl rfl (by decide) (Yl.load1 tab_ok rfl rfl rfl (fun _ => rfl) ?r2 rfl ?h2) ?_
  case r2 => apply Rd.add; (exact Rd.ro (by assumption))
  case h2 => rfl
  refine WG.run tab_ok 1 rfl ?_
  refine WG.callV en116 rfl rfl (by decide) (CallOp.mk' rfl rfl rfl rfl) (fun _ => rfl) (fun hg => WAtG_V hv1 hx1 (by omega)) ?_
  refine WG.callV en115 rfl rfl (by decide) (CallOp.mk' rfl rfl rfl rfl) (fun _ => rfl) (fun hg => ReachG_V hv2 hx2 hlow) ?_
  refine WG.run tab_ok 5 rfl ?_
  refine WG.nil ?_
  refine WE.nxt ?_
  refine W.seq ?_
  refine W.region _ ?_
  refine WG.run tab_ok 2 rfl ?_
  refine WG.y rfl rfl (by decide) (Yl.sub rfl rfl rfl (fun _ => rfl) (by intro _; constructor <;> (try dsimp only) <;> omega)) ?_
  refine WG.run tab_ok 3 rfl ?_
  refine WG.nil ?_
  refine WE.nxt ?_
  refine W.ret ?_
  refine WE.subE (E' := E) qS ?_
  refine WE.retF tab_ok [_, _] rfl ⟨rfl, rfl, trivial⟩ (RLe.refl _) ?_
  exact ⟨rfl, rfl⟩

theorem DelayG_C {R : Ro} {fa : Option Addr} {fc : Nat} {cf : Cv} (hvf : validB cf = true) (ha : RS R 1 encI fa cf.vals) {ga : Option Addr} {gc : Nat} {cg : Cv} (hvg : validB cg = true) (hb : RS R 1 encI ga cg.vals) (w0 : World) (E : List Ent) : K.Fn Tryz.prog 75 [.agg #[.slice fa cf.vals.length fc, .int .i64 cf.per, .int .i64 cf.inc], .agg #[.slice ga cg.vals.length gc, .int .i64 cg.per, .int .i64 cg.inc]] w0 R E (fun v R' E' => v = .tuple #[.agg #[.bool ((devN (normR cf) (normR cg) (gapD (normR cf) (normR cg)))).1.1, .int .i64 ((devN (normR cf) (normR cg) (gapD (normR cf) (normR cg)))).1.2.1, .int .i64 ((devN (normR cf) (normR cg) (gapD (normR cf) (normR cg)))).1.2.2], .int .i64 ((devN (normR cf) (normR cg) (gapD (normR cf) (normR cg)))).2] ∧ E.Sublist E') := by
  have hnf := norm_nrm hvf
  have hng := norm_nrm hvg
  refine Fn.enter (n := 25) Tryz.func75 rfl rfl (Nat.le_of_ble_eq_true rfl) rfl ?_
  refine W.seq ?_
  refine W.region _ ?_
  refine WL.ef rfl rfl (by decide) (Ef.box rfl rfl (fun b2 => ?_))
  refine WL.ef rfl rfl (by decide) (Ef.box rfl rfl (fun b3 => ?_))
  refine WL.ef rfl rfl (by decide) (Ef.alloc tab_ok rfl rfl (fun b4 => ?_))
  refine WG.run tab_ok 1 rfl ?_
  refine WG.nil ?_
  refine WE.nxt ?_
  refine W.seq ?_
  refine W.region _ ?_
  refine' WG.y rfl rfl (by decide) (Yl.load1 tab_ok rfl rfl rfl (fun _ => rfl) ?r1 rfl ?h1) ?_
  case r1 => (exact Rd.blk 2 rfl)
  case h1 => rfl
  refine' WG.y rfl rfl (by decide) (Yl.load1 tab_ok rfl rfl rfl (fun _ => rfl) ?r2 rfl ?h2) ?_
  case r2 => (exact Rd.blk 1 rfl)
  case h2 => rfl
  refine WL.call en112 rfl rfl (by decide) (CallOp.mkT rfl rfl rfl rfl) (DBothG_C hvf ha hvg hb w0 _) ?_
  rintro _ R1 _ hR1 ⟨a1, n1, c1, p1, q1, a2, n2, c2, p2, q2, tk, lo, e, rfl, hpair, hsub⟩
  refine WL.subE hsub ?_
  refine WG.run tab_ok 3 rfl ?_
  refine WL.ef rfl rfl (by decide) (Ef.alloc tab_ok rfl rfl (fun b6 => ?_))
  refine WL.efN rfl rfl (Ef.store0 0 tab_ok rfl rfl rfl rfl rfl rfl rfl rfl ?_)
  refine WG.run tab_ok 1 rfl ?_
  refine WG.nil ?_
  refine WE.nxt ?_
  refine W.seq ?_
  refine W.seq ?_
  refine W.region _ ?_
  refine WG.run tab_ok 2 rfl ?_
  refine WG.nil ?_
  refine WE.nxt ?_
  refine W.condN rfl (fun hc0 => ?_) (fun hc0 => ?_)
  · try dsimp only at hc0
    obtain ⟨rfl, hl⟩ : e = 3 ∧ 120 < lcmC (normR cf) (normR cg) := by
      rcases hpair with h | h
      · exact h
      · exact absurd h.1 hc0
    have hd : (devN (normR cf) (normR cg) (gapD (normR cf) (normR cg))) = ((false, 0, 0), 3) := by unfold devN; rw [if_pos hl]
    refine W.seq ?_
    refine W.region _ ?_
    -- build
    refine WG.y rfl rfl (by decide) (Yl.build (parts := []) tab_ok rfl rfl rfl rfl (fun _ => rfl) rfl rfl) ?_
    refine WG.run tab_ok 1 rfl ?_
    refine WL.efN rfl rfl (Ef.store0 1 tab_ok rfl rfl rfl rfl rfl rfl rfl rfl ?_)
    refine WG.run tab_ok 1 rfl ?_
    refine WG.nil ?_
    refine WE.nxt ?_
    refine W.ret ?_
    refine WE.then_ret ?_
    refine WE.retF tab_ok [_, _] rfl ⟨⟨_, _, _, rfl, rfl, rfl, ((by first | exact Rd.blk 0 rfl | exact Rd.blk 1 rfl | exact Rd.blk 2 rfl | exact Rd.blk 3 rfl | exact Rd.blk 4 rfl | exact Rd.blk 5 rfl)), rfl⟩, rfl, trivial⟩ ((by first | exact hR1.trans (hR2.trans hR3) | exact hR1.trans hR2 | exact hR1)) ?_
    exact ⟨by rw [hd]; rfl, qS⟩
  · try dsimp only at hc0
    obtain ⟨rfl, hl, rfl, rfl, rfl, rfl, rfl, rfl, hx1, hx2, rfl, rfl⟩ := hpair.resolve_left (fun h => by omega)
    generalize normR cf = m1 at *
    generalize normR cg = m2 at *
    have hv1 := hnf.valid
    have hv2 := hng.valid
    have hs1 := stN_lt hv1
    have hs2 := stN_lt hv2
    refine W.skip ?_
    refine WE.nxt ?_
    refine W.seq ?_
    refine W.seq ?_
    refine W.region _ ?_
    refine WG.run tab_ok 1 rfl ?_
    refine' WG.y rfl rfl (by decide) (Yl.load1 tab_ok rfl rfl rfl (fun _ => rfl) ?r3 rfl ?h3) ?_
    case r3 => apply Rd.add; (exact Rd.blk 0 rfl)
    case h3 => rfl
    refine WG.nil ?_
    refine WE.nxt ?_
    refine W.cond rfl (fun hc1 => ?_) (fun hc1 => ?_)
    · try simp only [decide_eq_true_eq, decide_eq_false_iff_not, beq_iff_eq, bne_iff_ne, beq_eq_false_iff_ne, bne_eq_false_iff_eq, ne_eq, Bool.or_eq_true, Bool.or_eq_false_iff, Bool.and_eq_true, Bool.and_eq_false_imp, Bool.not_eq_true, Bool.not_eq_true', Bool.not_eq_false', Classical.not_not, Int.not_lt, Int.not_le, gt_iff_lt, ge_iff_le] at hc1
      have hlo : loose m1 m2 := by simpa using hc1
      have hd : devN m1 m2 (gapD m1 m2) = ((true, 0, 0), 0) := by unfold devN; rw [if_neg hl, if_pos hlo]
      refine W.seq ?_
      refine W.region _ ?_
      -- build
      refine WG.y rfl rfl (by decide) (Yl.build (parts := [(0, .const (.bool true))]) tab_ok rfl rfl rfl rfl (fun _ => rfl) rfl rfl) ?_
      refine WL.efN rfl rfl (Ef.store0 1 tab_ok rfl rfl rfl rfl rfl rfl rfl rfl ?_)
      refine WG.run tab_ok 1 rfl ?_
      refine WG.nil ?_
      refine WE.nxt ?_
      refine W.ret ?_
      refine WE.then_ret ?_
      refine WE.retF tab_ok [_, _] rfl ⟨⟨_, _, _, rfl, rfl, rfl, ((by first | exact Rd.blk 0 rfl | exact Rd.blk 1 rfl | exact Rd.blk 2 rfl | exact Rd.blk 3 rfl | exact Rd.blk 4 rfl | exact Rd.blk 5 rfl)), rfl⟩, rfl, trivial⟩ ((by first | exact hR1.trans (hR2.trans hR3) | exact hR1.trans hR2 | exact hR1)) ?_
      exact ⟨by rw [hd]; rfl, qS⟩
    · try simp only [decide_eq_true_eq, decide_eq_false_iff_not, beq_iff_eq, bne_iff_ne, beq_eq_false_iff_ne, bne_eq_false_iff_eq, ne_eq, Bool.or_eq_true, Bool.or_eq_false_iff, Bool.and_eq_true, Bool.and_eq_false_imp, Bool.not_eq_true, Bool.not_eq_true', Bool.not_eq_false', Classical.not_not, Int.not_lt, Int.not_le, gt_iff_lt, ge_iff_le] at hc1
      have hlo : ¬ loose m1 m2 := by simpa using hc1
      have hd : devN m1 m2 (gapD m1 m2) = (greatW (gapD m1 m2) (max (stN m1) (stN m2) + lcmC m1 m2) 0 0 0, 0) := by unfold devN; rw [if_neg hl, if_neg hlo]
      refine W.skip ?_
      refine WE.nxt ?_
      refine W.freezeBlk 0 rfl ?_
      intro R2 hR2 hb6
      have hF : ∀ t : Nat, t < max (stN m1) (stN m2) + lcmC m1 m2 → FnV Tryz.prog 114 ((#[] : Array Value).toList ++ [.int .i64 (t : Int)] ++ (#[.pointer (some ⟨b6, 0, none⟩)] : Array Value).toList) R2 (.tuple #[.int .i64 (gapD m1 m2 t).1, .bool (gapD m1 m2 t).2]) := fun t ht => DelayFG_V hv1 (hx1.mono hR2) hv2 (hx2.mono hR2) hb6 (by omega)
      refine W.seq ?_
      refine W.region _ ?_
      refine WG.run tab_ok 1 rfl ?_
      refine' WG.y rfl rfl (by decide) (Yl.load1 tab_ok rfl rfl rfl (fun _ => rfl) ?r4 rfl ?h4) ?_
      case r4 => apply Rd.add; (exact Rd.ro (by assumption))
      case h4 => rfl
      refine WG.run tab_ok 1 rfl ?_
      refine WG.callV en113 rfl rfl (by decide) (CallOp.mk' rfl rfl rfl rfl) (fun _ => rfl) (fun hg => Greatest_V (f := gapD m1 m2) (n := max (stN m1) (stN m2) + lcmC m1 m2) en114 hF (by omega)) ?_
      refine WL.efN rfl rfl (Ef.store0 0 tab_ok rfl rfl rfl rfl rfl rfl rfl rfl ?_)
      refine WG.run tab_ok 1 rfl ?_
      refine WG.nil ?_
      refine WE.nxt ?_
      refine W.ret ?_
      refine WE.retF tab_ok [_, _] rfl ⟨⟨_, _, _, rfl, rfl, rfl, ((by first | exact Rd.blk 0 rfl | exact Rd.blk 1 rfl | exact Rd.blk 2 rfl | exact Rd.blk 3 rfl | exact Rd.blk 4 rfl | exact Rd.blk 5 rfl)), rfl⟩, rfl, trivial⟩ ((by first | exact hR1.trans (hR2.trans hR3) | exact hR1.trans hR2 | exact hR1)) ?_
      exact ⟨by rw [hd]; rfl, qS⟩

end Go.Proofs.YtlgjkmebpnnphaaGreat

/- Chapter 22: curve.Wait, the delay of all. No condition. -/
set_option maxRecDepth 4000
set_option linter.unusedSimpArgs false
set_option linter.unusedVariables false
namespace Go.Proofs.YtlgjkmebpnnphaaGreat
open Go Go.RowKit Go.Proofs.YtlgjkmebpnnphaaGreat.K Go.Proofs.YtlgjkmebpnnphaaGreat.M

theorem Wait_C {R : Ro} {v : Int} (w0 : World) (E : List Ent) : K.Fn Tryz.prog 195 [.int .i64 v] w0 R E (fun r R' E' => ∃ (f : Option Addr) (fc : Nat), r = cvV f fc (waitC v) ∧ RS R' 1 encI f (waitC v).1.vals ∧ E.Sublist E') := by
  refine Fn.enter (n := 20) Tryz.func195 rfl rfl (Nat.le_of_ble_eq_true rfl) rfl ?_
  refine W.seq ?_
  refine W.region _ ?_
  refine WL.ef rfl rfl (by decide) (Ef.alloc tab_ok rfl rfl (fun b2 => ?_))
  refine WG.run tab_ok 1 rfl ?_
  refine WG.nil ?_
  refine WE.nxt ?_
  refine W.seq ?_
  refine W.seq ?_
  refine W.region _ ?_
  refine WG.run tab_ok 2 rfl ?_
  refine WG.nil ?_
  refine WE.nxt ?_
  refine W.condD rfl (fun hc0 => ?_) (fun hc0 => ?_)
  · try dsimp only at hc0
    have e : waitC v = (zcv, 2) := if_pos hc0
    refine W.seq ?_
    refine W.region _ ?_
    -- build
    refine WG.y rfl rfl (by decide) (Yl.build (parts := []) tab_ok rfl rfl rfl rfl (fun _ => rfl) rfl rfl) ?_
    refine WL.efN rfl rfl (Ef.store0 0 tab_ok rfl rfl rfl rfl rfl rfl rfl rfl ?_)
    refine WG.run tab_ok 1 rfl ?_
    refine WG.nil ?_
    refine WE.nxt ?_
    refine W.ret ?_
    refine WE.then_ret ?_
    refine WE.retF tab_ok [_, _] rfl ⟨⟨_, _, _, rfl, rfl, rfl, ((by first | exact Rd.blk 0 rfl | exact Rd.blk 1 rfl | exact Rd.blk 2 rfl | exact Rd.blk 3 rfl)), rfl⟩, rfl, trivial⟩ (by first | exact RLe.refl _ | exact hR1) ?_
    rw [e]
    exact ⟨none, 0, rfl, rs_nil, qS⟩
  · try dsimp only at hc0
    refine W.skip ?_
    refine WE.nxt ?_
    refine W.seq ?_
    refine W.seq ?_
    refine W.region _ ?_
    refine WG.run tab_ok 2 rfl ?_
    refine WG.nil ?_
    refine WE.nxt ?_
    refine W.condD rfl (fun hc1 => ?_) (fun hc1 => ?_)
    · try dsimp only at hc1
      have e : waitC v = (zcv, 3) := by unfold waitC; rw [if_neg (by omega), if_pos (by omega)]
      refine W.seq ?_
      refine W.region _ ?_
      -- build
      refine WG.y rfl rfl (by decide) (Yl.build (parts := []) tab_ok rfl rfl rfl rfl (fun _ => rfl) rfl rfl) ?_
      refine WL.efN rfl rfl (Ef.store0 0 tab_ok rfl rfl rfl rfl rfl rfl rfl rfl ?_)
      refine WG.run tab_ok 1 rfl ?_
      refine WG.nil ?_
      refine WE.nxt ?_
      refine W.ret ?_
      refine WE.then_ret ?_
      refine WE.retF tab_ok [_, _] rfl ⟨⟨_, _, _, rfl, rfl, rfl, ((by first | exact Rd.blk 0 rfl | exact Rd.blk 1 rfl | exact Rd.blk 2 rfl | exact Rd.blk 3 rfl)), rfl⟩, rfl, trivial⟩ (by first | exact RLe.refl _ | exact hR1) ?_
      rw [e]
      exact ⟨none, 0, rfl, rs_nil, qS⟩
    · try dsimp only at hc1
      have e : waitC v = (⟨waitL v, 1, 0⟩, 0) := by unfold waitC; rw [if_neg (by omega), if_neg (by omega)]
      refine W.skip ?_
      refine WE.nxt ?_
      refine W.seq ?_
      refine W.region _ ?_
      refine WG.run tab_ok 1 rfl ?_
      refine WG.y rfl rfl (by decide) (Yl.add rfl rfl rfl (fun _ => rfl) (by intro _; constructor <;> (try dsimp only) <;> omega)) ?_
      refine WL.ef rfl rfl (by decide) (Ef.makeSliceD (enc := encI) 0 tab_ok rfl rfl rfl rfl rfl rfl (by (try dsimp only) <;> omega) (by (try dsimp only) <;> omega) (by (try dsimp only) <;> omega) (by (try dsimp only) <;> omega) (by decide) rfl rfl (fun a13 => ?_))
      refine WG.run tab_ok 1 rfl ?_
      refine WG.nil ?_
      refine WE.nxt ?_
      refine W.seq ?_
      refine W.region _ ?_
      refine WG.run tab_ok 2 rfl ?_
      refine WG.y rfl rfl (by decide) (Yl.add rfl rfl rfl (fun _ => rfl) (by intro _; constructor <;> (try dsimp only) <;> omega)) ?_
      refine WG.y rfl rfl (by decide) (Yl.index tab_ok rfl rfl rfl rfl rfl rfl (fun _ => rfl) (by intro _; constructor <;> (try dsimp only) <;> omega) (by intro _; first | exact fun _ _ _ _ => rfl | exact RS.has (by assumption) | exact fun _ _ _ _ => (by assumption) | exact HasMem.ownD 0 rfl | exact HasMem.ownD 1 rfl | exact HasMem.ownD 2 rfl | exact HasMem.ownD 3 rfl)) ?_
      refine WL.efN rfl rfl (Ef.storeD (enc := encI) (xs := List.replicate (v + 2).toNat 0) 4611686018427387904 0 tab_ok rfl rfl rfl rfl rfl (by rw [List.length_replicate]; omega) rfl rfl rfl rfl ?_)
      refine WG.nil ?_
      refine WE.nxt ?_
      refine W.freeze (enc := encI) (xs := waitL v) 0 rfl ?_
      intro R1 hR1 hwz
      refine W.seq ?_
      refine W.region _ ?_
      refine WG.run tab_ok 1 rfl ?_
      -- build
      refine WG.y rfl rfl (by decide) (Yl.build (parts := [(0, .tmp 18), (1, .const (.int .i64 1))]) tab_ok rfl rfl rfl rfl (fun _ => rfl) rfl rfl) ?_
      refine WL.efN rfl rfl (Ef.store0 0 tab_ok rfl rfl rfl rfl rfl rfl rfl rfl ?_)
      refine WG.run tab_ok 1 rfl ?_
      refine WG.nil ?_
      refine WE.nxt ?_
      refine W.ret ?_
      refine WE.retF tab_ok [_, _] rfl ⟨⟨_, _, _, rfl, rfl, rfl, ((by first | exact Rd.blk 0 rfl | exact Rd.blk 1 rfl | exact Rd.blk 2 rfl | exact Rd.blk 3 rfl)), rfl⟩, rfl, trivial⟩ (by first | exact RLe.refl _ | exact hR1) ?_
      rw [e]
      refine ⟨some ⟨a13, 0, none⟩, (v + 2).toNat, ?_, hwz, qS⟩
      unfold cvV waitL
      dsimp only
      rw [List.length_set, List.length_replicate]
      rfl

theorem AllSrv_C {R : Ro} {aw at_ : Option Addr} {lw cw lt ct : Nat} {L : Ln} (hw : RS R 1 encI aw L.w) (hlw : L.w.length = lw) (ht : RS R 1 encI at_ L.tb) (hlt : L.tb.length = lt) {la : Option Addr} {lc ll : Nat} {ls : List CvS} (hla : RS R 3 encC la ls) (hll : ls.length = ll) (hls : ∀ x ∈ ls, RS R 1 encI x.a x.cv.vals ∧ validB x.cv = true) (hc : 1 ≤ L.cap ∧ L.cap ≤ 4000) (w0 : World) (E : List Ent) : K.Fn Tryz.prog 76 [.agg #[.int .i64 L.kind, .int .i64 L.cap, .int .i64 L.n, .slice aw lw cw, .slice at_ lt ct], .slice la ll lc] w0 R E (fun r R' E' => r = devV (allC L.cap (ls.map CvS.cv)) ∧ E.Sublist E') := by
  have hvt := total_valid (ls := ls.map CvS.cv) (fun c hc => by obtain ⟨x, hx, rfl⟩ := List.mem_map.1 hc; exact (hls x hx).2)
  have eA : allC L.cap (ls.map CvS.cv) = if (totalC (ls.map CvS.cv)).2 ≠ 0 then ((false, 0, 0), (totalC (ls.map CvS.cv)).2) else delayC (totalC (ls.map CvS.cv)).1 (lineC L.cap) := rfl
  refine Fn.enter (n := 33) Tryz.func76 rfl rfl (Nat.le_of_ble_eq_true rfl) rfl ?_
  refine W.seq ?_
  refine W.region _ ?_
  refine WL.ef rfl rfl (by decide) (Ef.box rfl rfl (fun b2 => ?_))
  refine WL.ef rfl rfl (by decide) (Ef.alloc tab_ok rfl rfl (fun b4 => ?_))
  refine WG.run tab_ok 1 rfl ?_
  refine WG.nil ?_
  refine WE.nxt ?_
  refine W.seq ?_
  refine W.region _ ?_
  refine WG.run tab_ok 1 rfl ?_
  refine WL.call en117 rfl rfl (by decide) (CallOp.mkT rfl rfl rfl rfl) (PTotal_len hll hla hls w0 _) ?_
  rintro _ R2 E2 hR2 ⟨f, fc, rfl, hf, hsub⟩
  refine WL.subE hsub ?_
  generalize hq : totalC (ls.map CvS.cv) = q at hf hvt eA ⊢
  unfold cvV
  refine WG.run tab_ok 3 rfl ?_
  refine WL.ef rfl rfl (by decide) (Ef.alloc tab_ok rfl rfl (fun b6 => ?_))
  refine WL.efN rfl rfl (Ef.store0 0 tab_ok rfl rfl rfl rfl rfl rfl rfl rfl ?_)
  refine WG.run tab_ok 1 rfl ?_
  refine WG.nil ?_
  refine WE.nxt ?_
  refine W.seq ?_
  refine W.seq ?_
  refine W.region _ ?_
  refine WG.run tab_ok 2 rfl ?_
  refine WG.nil ?_
  refine WE.nxt ?_
  refine W.condN rfl (fun hc0 => ?_) (fun hc0 => ?_)
  · try dsimp only at hc0
    rw [if_pos hc0] at eA
    refine W.seq ?_
    refine W.region _ ?_
    -- build
    refine WG.y rfl rfl (by decide) (Yl.build (parts := []) tab_ok rfl rfl rfl rfl (fun _ => rfl) rfl rfl) ?_
    refine WG.run tab_ok 1 rfl ?_
    refine WL.efN rfl rfl (Ef.store0 1 tab_ok rfl rfl rfl rfl rfl rfl rfl rfl ?_)
    refine WG.run tab_ok 1 rfl ?_
    refine WG.nil ?_
    refine WE.nxt ?_
    refine W.ret ?_
    refine WE.then_ret ?_
    refine WE.retF tab_ok [_, _] rfl ⟨⟨_, _, _, rfl, rfl, rfl, ((by first | exact Rd.blk 0 rfl | exact Rd.blk 1 rfl | exact Rd.blk 2 rfl | exact Rd.blk 3 rfl | exact Rd.blk 4 rfl | exact Rd.blk 5 rfl)), rfl⟩, rfl, trivial⟩ (by first | exact hR2 | exact hR2.trans (hR3.trans hR4)) ?_
    exact ⟨by rw [eA]; rfl, qS⟩
  · try dsimp only at hc0
    rw [if_neg (fun h => h hc0)] at eA
    refine W.skip ?_
    refine WE.nxt ?_
    refine W.seq ?_
    refine W.region _ ?_
    refine WG.run tab_ok 1 rfl ?_
    refine' WG.y rfl rfl (by decide) (Yl.load1 tab_ok rfl rfl rfl (fun _ => rfl) ?r1 rfl ?h1) ?_
    case r1 => apply Rd.add; (exact Rd.blk 2 rfl)
    case h1 => rfl
    refine WL.call en118 rfl rfl (by decide) (CallOp.mkT rfl rfl rfl rfl) (Serve_ok (cap := L.cap) w0 hc _) ?_
    rintro _ _ E3 - ⟨g, rfl, rfl, hsub3⟩
    refine WL.subE hsub3 ?_
    refine WL.freeze (enc := encI) (xs := [0]) 0 rfl ?_
    intro R3 hR3 hg0
    refine WG.run tab_ok 3 rfl ?_
    refine WL.ef rfl rfl (by decide) (Ef.alloc tab_ok rfl rfl (fun b8 => ?_))
    refine WL.efN rfl rfl (Ef.store0 0 tab_ok rfl rfl rfl rfl rfl rfl rfl rfl ?_)
    refine WG.run tab_ok 1 rfl ?_
    refine WG.nil ?_
    refine WE.nxt ?_
    refine W.seq ?_
    refine W.seq ?_
    refine W.region _ ?_
    refine WG.run tab_ok 2 rfl ?_
    refine WG.nil ?_
    refine WE.nxt ?_
    refine W.condN rfl (fun hc1 => ?_) (fun hc1 => ?_)
    · try dsimp only at hc1
      exact absurd rfl hc1
    · try dsimp only at hc1
      refine W.skip ?_
      refine WE.nxt ?_
      refine W.seq ?_
      refine W.region _ ?_
      refine' WG.y rfl rfl (by decide) (Yl.load1 tab_ok rfl rfl rfl (fun _ => rfl) ?r2 rfl ?h2) ?_
      case r2 => (exact Rd.blk 1 rfl)
      case h2 => rfl
      refine' WG.y rfl rfl (by decide) (Yl.load1 tab_ok rfl rfl rfl (fun _ => rfl) ?r3 rfl ?h3) ?_
      case r3 => (exact Rd.blk 0 rfl)
      case h3 => rfl
      refine WL.call en75 rfl rfl (by decide) (CallOp.mkT rfl rfl rfl rfl) (DelayG_C (cf := q.1) (cg := lineC L.cap) (hvt hc0) (hf.mono hR3) (line_facts (cap := L.cap) ⟨by omega, by omega⟩).1.valid hg0 w0 _) ?_
      rintro _ R4 E4 hR4 ⟨rfl, hsub4⟩
      refine WL.subE hsub4 ?_
      refine WG.run tab_ok 2 rfl ?_
      refine WL.efN rfl rfl (Ef.store0 2 tab_ok rfl rfl rfl rfl rfl rfl rfl rfl ?_)
      refine WG.run tab_ok 1 rfl ?_
      refine WG.nil ?_
      refine WE.nxt ?_
      refine W.ret ?_
      refine WE.retF tab_ok [_, _] rfl ⟨⟨_, _, _, rfl, rfl, rfl, ((by first | exact Rd.blk 0 rfl | exact Rd.blk 1 rfl | exact Rd.blk 2 rfl | exact Rd.blk 3 rfl | exact Rd.blk 4 rfl | exact Rd.blk 5 rfl)), rfl⟩, rfl, trivial⟩ (by first | exact hR2 | exact hR2.trans (hR3.trans hR4)) ?_
      exact ⟨by rw [eA]; rfl, qS⟩

end Go.Proofs.YtlgjkmebpnnphaaGreat

/- Chapter 19: the curve. No condition. -/
set_option maxRecDepth 4000
set_option linter.unusedSimpArgs false
set_option linter.unusedVariables false
namespace Go.Proofs.YtlgjkmebpnnphaaGreat
open Go Go.RowKit Go.Proofs.YtlgjkmebpnnphaaGreat.K Go.Proofs.YtlgjkmebpnnphaaGreat.M

end Go.Proofs.YtlgjkmebpnnphaaGreat

/- Chapter 20: checks, what others send, the curve. No condition. -/
set_option maxRecDepth 4000
set_option linter.unusedSimpArgs false
set_option linter.unusedVariables false
namespace Go.Proofs.YtlgjkmebpnnphaaGreat
open Go Go.RowKit Go.Proofs.YtlgjkmebpnnphaaGreat.K Go.Proofs.YtlgjkmebpnnphaaGreat.M

end Go.Proofs.YtlgjkmebpnnphaaGreat

/- Chapter 20: the curve. No condition. -/
set_option maxRecDepth 4000
set_option linter.unusedSimpArgs false
set_option linter.unusedVariables false
namespace Go.Proofs.YtlgjkmebpnnphaaGreat
open Go Go.RowKit Go.Proofs.YtlgjkmebpnnphaaGreat.K Go.Proofs.YtlgjkmebpnnphaaGreat.M

end Go.Proofs.YtlgjkmebpnnphaaGreat

/- Time slots: the table of the least counts, as the walk of the curve fills it. No condition. -/
namespace Go.Proofs.YtlgjkmebpnnphaaGreat.M
open Go Go.Proofs.YtlgjkmebpnnphaaGreat.K

def someN (tb : List Int) (cls : Int) : Nat → Bool
  | 0 => false
  | k + 1 => someN tb cls k || mineT tb cls k
def fillL (m k : Nat) : List Int := (List.range m).map fun j => if j < k then INF else 0
def tickL (C : Nat → Nat → Int) (m f k : Nat) : List Int := (List.range m).map fun j => if j < k then minTo (fun a => C a j) (f + 1) else minTo (fun a => C a j) f
/-- four copies of a table -/
def longT (tb : List Int) : List Int := ((tb ++ tb) ++ tb) ++ tb
end Go.Proofs.YtlgjkmebpnnphaaGreat.M

/- append to a slice that is read only and full, and s[:n:n]. No condition. -/
namespace Go.Proofs.YtlgjkmebpnnphaaGreat.K
open Go Go.RowKit

section
variable {P : Program} {T : Tab} {n : Nat} {env : Env} {w0 : World} {R : Ro} {E : List Ent} {o : Oper} {K : Value → Ro → List Ent → Prop} {p q pc : Bool}
end
end Go.Proofs.YtlgjkmebpnnphaaGreat.K

/- Chapter 21: the curve, its parts. No condition. -/
set_option maxRecDepth 4000
set_option linter.unusedSimpArgs false
set_option linter.unusedVariables false
namespace Go.Proofs.YtlgjkmebpnnphaaGreat
open Go Go.RowKit Go.Proofs.YtlgjkmebpnnphaaGreat.K Go.Proofs.YtlgjkmebpnnphaaGreat.M

end Go.Proofs.YtlgjkmebpnnphaaGreat

/- Chapter 21: the curve. No condition. -/
set_option maxRecDepth 4000
set_option linter.unusedSimpArgs false
set_option linter.unusedVariables false
namespace Go.Proofs.YtlgjkmebpnnphaaGreat
open Go Go.RowKit Go.Proofs.YtlgjkmebpnnphaaGreat.K Go.Proofs.YtlgjkmebpnnphaaGreat.M

end Go.Proofs.YtlgjkmebpnnphaaGreat

/- Chapter 22: the curves of each kind, the arguments. No condition. -/
set_option maxRecDepth 4000
set_option linter.unusedSimpArgs false
set_option linter.unusedVariables false
namespace Go.Proofs.YtlgjkmebpnnphaaGreat
open Go Go.RowKit Go.Proofs.YtlgjkmebpnnphaaGreat.K Go.Proofs.YtlgjkmebpnnphaaGreat.M

theorem CurFifo_C {R : Ro} {aw at_ : Option Addr} {lw cw lt ct : Nat} {L : Ln} (hw : RS R 1 encI aw L.w) (hlw : L.w.length = lw) (ht : RS R 1 encI at_ L.tb) (hlt : L.tb.length = lt) {la : Option Addr} {lc ll : Nat} {ls : List CvS} (hla : RS R 3 encC la ls) (hll : ls.length = ll) (hlc : ll ≤ lc) (hls : ∀ x ∈ ls, RS R 1 encI x.a x.cv.vals ∧ x.cv.vals.length ≤ 100000) {za : Option Addr} {zc lz : Nat} {z : List Sz} (hzr : RS R 2 encZ za z) (hlz : z.length = lz) (hzc : lz ≤ zc) {cls : Int} (hc : 1 ≤ L.cap ∧ L.cap ≤ 4000) (hvl : ∀ x ∈ ls, validB x.cv = true) (w0 : World) (E : List Ent) : K.Fn Tryz.prog 192 [.agg #[], .agg #[.int .i64 L.kind, .int .i64 L.cap, .int .i64 L.n, .slice aw lw cw, .slice at_ lt ct], .int .i64 cls, .slice la ll lc, .slice za lz zc] w0 R E (fun r R' E' => ∃ (f : Option Addr) (fc : Nat), r = cvV f fc (fifoC L.cap (ls.map CvS.cv)) ∧ RS R' 1 encI f (fifoC L.cap (ls.map CvS.cv)).1.vals ∧ E.Sublist E') := by
  have eF : fifoC L.cap (ls.map CvS.cv) = if (allC L.cap (ls.map CvS.cv)).2 ≠ 0 then (zcv, (allC L.cap (ls.map CvS.cv)).2) else if (allC L.cap (ls.map CvS.cv)).1.1 = true then (zcv, 5) else waitC (allC L.cap (ls.map CvS.cv)).1.2.1 := rfl
  refine Fn.enter (n := 32) Tryz.func192 rfl rfl (Nat.le_of_ble_eq_true rfl) rfl ?_
  refine W.seq ?_
  refine W.region _ ?_
  refine WL.ef rfl rfl (by decide) (Ef.box rfl rfl (fun b5 => ?_))
  refine WL.ef rfl rfl (by decide) (Ef.box rfl rfl (fun b6 => ?_))
  refine WL.ef rfl rfl (by decide) (Ef.alloc tab_ok rfl rfl (fun b10 => ?_))
  refine WG.run tab_ok 1 rfl ?_
  refine WG.nil ?_
  refine WE.nxt ?_
  refine W.seq ?_
  refine W.region _ ?_
  refine' WG.y rfl rfl (by decide) (Yl.load1 tab_ok rfl rfl rfl (fun _ => rfl) ?r1 rfl ?h1) ?_
  case r1 => (exact Rd.blk 1 rfl)
  case h1 => rfl
  refine WG.run tab_ok 1 rfl ?_
  refine WL.call en76 rfl rfl (by decide) (CallOp.mkT rfl rfl rfl rfl) (AllSrv_C hw hlw ht hlt hla hll (fun x hx => ⟨(hls x hx).1, hvl x hx⟩) hc w0 _) ?_
  rintro _ R2 E2 hR2 ⟨rfl, hsub⟩
  refine WL.subE hsub ?_
  generalize allC L.cap (ls.map CvS.cv) = q at eF ⊢
  unfold devV
  refine WG.run tab_ok 3 rfl ?_
  refine WL.ef rfl rfl (by decide) (Ef.alloc tab_ok rfl rfl (fun b12 => ?_))
  refine WL.efN rfl rfl (Ef.store0 0 tab_ok rfl rfl rfl rfl rfl rfl rfl rfl ?_)
  refine WG.run tab_ok 1 rfl ?_
  refine WG.nil ?_
  refine WE.nxt ?_
  refine W.seq ?_
  refine W.seq ?_
  refine W.region _ ?_
  refine WG.run tab_ok 2 rfl ?_
  refine WG.nil ?_
  refine WE.nxt ?_
  refine W.condN rfl (fun hc0 => ?_) (fun hc0 => ?_)
  · try dsimp only at hc0
    rw [if_pos hc0] at eF
    refine W.seq ?_
    refine W.region _ ?_
    -- build
    refine WG.y rfl rfl (by decide) (Yl.build (parts := []) tab_ok rfl rfl rfl rfl (fun _ => rfl) rfl rfl) ?_
    refine WG.run tab_ok 1 rfl ?_
    refine WL.efN rfl rfl (Ef.store0 1 tab_ok rfl rfl rfl rfl rfl rfl rfl rfl ?_)
    refine WG.run tab_ok 1 rfl ?_
    refine WG.nil ?_
    refine WE.nxt ?_
    refine W.ret ?_
    refine WE.then_ret ?_
    refine WE.retF tab_ok [_, _] rfl ⟨⟨_, _, _, rfl, rfl, rfl, ((by first | exact Rd.blk 0 rfl | exact Rd.blk 1 rfl | exact Rd.blk 2 rfl | exact Rd.blk 3 rfl | exact Rd.blk 4 rfl | exact Rd.blk 5 rfl)), rfl⟩, rfl, trivial⟩ (by first | exact hR2 | exact hR2.trans hR3) ?_
    rw [eF]
    exact ⟨none, 0, rfl, rs_nil, qS⟩
  · try dsimp only at hc0
    rw [if_neg (fun h => h hc0)] at eF
    refine W.skip ?_
    refine WE.nxt ?_
    refine W.seq ?_
    refine W.seq ?_
    refine W.region _ ?_
    refine WG.run tab_ok 1 rfl ?_
    refine' WG.y rfl rfl (by decide) (Yl.load1 tab_ok rfl rfl rfl (fun _ => rfl) ?r2 rfl ?h2) ?_
    case r2 => apply Rd.add; (exact Rd.blk 0 rfl)
    case h2 => rfl
    refine WG.nil ?_
    refine WE.nxt ?_
    refine W.cond rfl (fun hc1 => ?_) (fun hc1 => ?_)
    · try simp only [decide_eq_true_eq, decide_eq_false_iff_not, beq_iff_eq, bne_iff_ne, beq_eq_false_iff_ne, bne_eq_false_iff_eq, ne_eq, Bool.or_eq_true, Bool.or_eq_false_iff, Bool.and_eq_true, Bool.and_eq_false_imp, Bool.not_eq_true, Bool.not_eq_true', Bool.not_eq_false', Classical.not_not, Int.not_lt, Int.not_le, gt_iff_lt, ge_iff_le] at hc1
      rw [if_pos hc1] at eF
      refine W.seq ?_
      refine W.region _ ?_
      -- build
      refine WG.y rfl rfl (by decide) (Yl.build (parts := []) tab_ok rfl rfl rfl rfl (fun _ => rfl) rfl rfl) ?_
      refine WL.efN rfl rfl (Ef.store0 1 tab_ok rfl rfl rfl rfl rfl rfl rfl rfl ?_)
      refine WG.run tab_ok 1 rfl ?_
      refine WG.nil ?_
      refine WE.nxt ?_
      refine W.ret ?_
      refine WE.then_ret ?_
      refine WE.retF tab_ok [_, _] rfl ⟨⟨_, _, _, rfl, rfl, rfl, ((by first | exact Rd.blk 0 rfl | exact Rd.blk 1 rfl | exact Rd.blk 2 rfl | exact Rd.blk 3 rfl | exact Rd.blk 4 rfl | exact Rd.blk 5 rfl)), rfl⟩, rfl, trivial⟩ (by first | exact hR2 | exact hR2.trans hR3) ?_
      rw [eF]
      exact ⟨none, 0, rfl, rs_nil, qS⟩
    · try simp only [decide_eq_true_eq, decide_eq_false_iff_not, beq_iff_eq, bne_iff_ne, beq_eq_false_iff_ne, bne_eq_false_iff_eq, ne_eq, Bool.or_eq_true, Bool.or_eq_false_iff, Bool.and_eq_true, Bool.and_eq_false_imp, Bool.not_eq_true, Bool.not_eq_true', Bool.not_eq_false', Classical.not_not, Int.not_lt, Int.not_le, gt_iff_lt, ge_iff_le] at hc1
      rw [if_neg (by simp [hc1])] at eF
      refine W.skip ?_
      refine WE.nxt ?_
      refine W.seq ?_
      refine W.region _ ?_
      refine WG.run tab_ok 1 rfl ?_
      refine' WG.y rfl rfl (by decide) (Yl.load1 tab_ok rfl rfl rfl (fun _ => rfl) ?r3 rfl ?h3) ?_
      case r3 => apply Rd.add; (exact Rd.blk 0 rfl)
      case h3 => rfl
      refine WL.call en195 rfl rfl (by decide) (CallOp.mkT rfl rfl rfl rfl) (Wait_C (v := q.1.2.1) w0 _) ?_
      rintro _ R3 E3 hR3 ⟨f, fc, rfl, hf, hsub3⟩
      refine WL.subE hsub3 ?_
      rw [← eF] at hf ⊢
      unfold cvV
      refine WG.run tab_ok 2 rfl ?_
      refine WL.efN rfl rfl (Ef.store0 1 tab_ok rfl rfl rfl rfl rfl rfl rfl rfl ?_)
      refine WG.run tab_ok 1 rfl ?_
      refine WG.nil ?_
      refine WE.nxt ?_
      refine W.ret ?_
      refine WE.retF tab_ok [_, _] rfl ⟨⟨_, _, _, rfl, rfl, rfl, ((by first | exact Rd.blk 0 rfl | exact Rd.blk 1 rfl | exact Rd.blk 2 rfl | exact Rd.blk 3 rfl | exact Rd.blk 4 rfl | exact Rd.blk 5 rfl)), rfl⟩, rfl, trivial⟩ (by first | exact hR2 | exact hR2.trans hR3) ?_
      exact ⟨f, fc, rfl, hf, qS⟩

theorem ArgSrv_V {R : Ro} {aw at_ : Option Addr} {lw cw lt ct : Nat} {L : Ln} (hw : RS R 1 encI aw L.w) (hlw : L.w.length = lw) (ht : RS R 1 encI at_ L.tb) (hlt : L.tb.length = lt) {la : Option Addr} {lc ll : Nat} {ls : List CvS} (hla : RS R 3 encC la ls) (hll : ls.length = ll) (hlc : ll ≤ lc) (hls : ∀ x ∈ ls, RS R 1 encI x.a x.cv.vals ∧ x.cv.vals.length ≤ 100000) {za : Option Addr} {zc lz : Nat} {z : List Sz} (hzr : RS R 2 encZ za z) (hlz : z.length = lz) (hzc : lz ≤ zc) {cls : Int} : FnV Tryz.prog 73 [.agg #[.int .i64 L.kind, .int .i64 L.cap, .int .i64 L.n, .slice aw lw cw, .slice at_ lt ct], .int .i64 cls, .slice la ll lc, .slice za lz zc] R (.int .i64 (argE L cls (ls.map CvS.cv) z)) := by
  subst hll
  subst hlz
  have hl1 := hla.len
  have hl2 := hzr.len
  refine Fn.toV (fun w0 E => ?_)
  refine Fn.enter (n := 58) Tryz.func73 rfl rfl (Nat.le_of_ble_eq_true rfl) rfl ?_
  refine W.seq ?_
  refine W.region _ ?_
  refine WL.ef rfl rfl (by decide) (Ef.box rfl rfl (fun b4 => ?_))
  refine WG.run tab_ok 1 rfl ?_
  refine WG.nil ?_
  refine WE.nxt ?_
  refine W.seq ?_
  refine W.seq ?_
  refine W.region _ ?_
  refine' WG.y rfl rfl (by decide) (Yl.load1 tab_ok rfl rfl rfl (fun _ => rfl) ?r1 rfl ?h1) ?_
  case r1 => (exact Rd.blk 0 rfl)
  case h1 => rfl
  refine WG.callV en26 rfl rfl (by decide) (CallOp.mk' rfl rfl rfl rfl) (fun _ => rfl) (fun hg => ChkSrv_V hw hlw ht hlt) ?_
  refine WG.run tab_ok 1 rfl ?_
  refine WG.nil ?_
  refine WE.nxt ?_
  refine W.seq ?_
  refine W.region _ ?_
  refine WG.run tab_ok 2 rfl ?_
  refine WG.nil ?_
  refine WE.nxt ?_
  refine W.condN rfl (fun hc0 => ?_) (fun hc0 => ?_)
  · try dsimp only at hc0
    have e : argE L cls (ls.map CvS.cv) z = chkL L := if_pos hc0
    refine W.seq ?_
    refine W.region _ ?_
    refine WG.run tab_ok 2 rfl ?_
    refine WG.nil ?_
    refine WE.nxt ?_
    refine W.ret ?_
    refine WE.then_ret ?_
    refine WE.subE (E' := E) qS ?_
    refine WE.retF tab_ok [_] rfl ⟨rfl, trivial⟩ (RLe.refl _) ?_
    exact ⟨by rw [e]; rfl, rfl⟩
  · try dsimp only at hc0
    have hn := (chk_facts hc0).2.2.2
    refine W.skip ?_
    refine WE.nxt ?_
    refine W.seq ?_
    refine W.seq ?_
    refine W.region _ ?_
    refine WG.run tab_ok 3 rfl ?_
    refine WG.y rfl rfl (by decide) (pureV_ok tab_ok rfl qE) ?_
    refine WG.y rfl rfl (by decide) (pureV_ok tab_ok rfl qE) ?_
    refine' WG.y rfl rfl (by decide) (Yl.loadG tab_ok rfl rfl rfl qE ?r2 rfl ?h2 ?g2) ?_
    case r2 => apply Rd.addC; (exact Rd.blkC 0 rfl)
    case h2 => rfl
    case g2 => exact fun _ => trivial
    refine WG.y rfl rfl (by decide) (pureV_ok tab_ok rfl qE) ?_
    refine WG.y rfl rfl (by decide) (Yl.por rfl rfl rfl (fun _ => rfl) (by intro h1 h2; simp_all <;> omega)) ?_
    refine WG.run tab_ok 1 rfl ?_
    refine WG.y rfl rfl (by decide) (pureV_ok tab_ok rfl qE) ?_
    refine WG.y rfl rfl (by decide) (pureV_ok tab_ok rfl qE) ?_
    refine WG.y rfl rfl (by decide) (pureV_ok tab_ok rfl qE) ?_
    refine' WG.y rfl rfl (by decide) (Yl.loadG tab_ok rfl rfl rfl qE ?r3 rfl ?h3 ?g3) ?_
    case r3 => apply Rd.addC; (exact Rd.blkC 0 rfl)
    case h3 => rfl
    case g3 => exact fun _ => trivial
    refine WG.y rfl rfl (by decide) (pureV_ok tab_ok rfl qE) ?_
    refine WG.y rfl rfl (by decide) (Yl.por rfl rfl rfl (fun _ => rfl) (by intro h1 h2; simp_all <;> omega)) ?_
    refine WG.run tab_ok 1 rfl ?_
    refine WG.y rfl rfl (by decide) (pureV_ok tab_ok rfl qE) ?_
    refine WG.y rfl rfl (by decide) (pureV_ok tab_ok rfl qE) ?_
    refine WG.y rfl rfl (by decide) (pureV_ok tab_ok rfl qE) ?_
    refine' WG.y rfl rfl (by decide) (Yl.loadG tab_ok rfl rfl rfl qE ?r4 rfl ?h4 ?g4) ?_
    case r4 => apply Rd.addC; (exact Rd.blkC 0 rfl)
    case h4 => rfl
    case g4 => exact fun _ => trivial
    refine WG.y rfl rfl (by decide) (pureV_ok tab_ok rfl qE) ?_
    refine WG.y rfl rfl (by decide) (Yl.por rfl rfl rfl (fun _ => rfl) (by intro h1 h2; simp_all <;> omega)) ?_
    refine WG.nil ?_
    refine WE.nxt ?_
    refine W.cond rfl (fun hc1 => ?_) (fun hc1 => ?_)
    · try simp only [decide_eq_true_eq, decide_eq_false_iff_not, beq_iff_eq, bne_iff_ne, beq_eq_false_iff_ne, bne_eq_false_iff_eq, ne_eq, Bool.or_eq_true, Bool.or_eq_false_iff, Bool.and_eq_true, Bool.and_eq_false_imp, Bool.not_eq_true, Bool.not_eq_true', Bool.not_eq_false', Classical.not_not, Int.not_lt, Int.not_le, gt_iff_lt, ge_iff_le] at hc1
      have e : argE L cls (ls.map CvS.cv) z = 2 := by unfold argE; rw [if_neg (fun h => h hc0), if_pos (by rw [List.length_map]; omega)]
      refine W.seq ?_
      refine W.region _ ?_
      refine WG.run tab_ok 1 rfl ?_
      refine WG.nil ?_
      refine WE.nxt ?_
      refine W.ret ?_
      refine WE.then_ret ?_
      refine WE.subE (E' := E) qS ?_
      refine WE.retF tab_ok [_] rfl ⟨rfl, trivial⟩ (RLe.refl _) ?_
      exact ⟨by rw [e]; rfl, rfl⟩
    · try simp only [decide_eq_true_eq, decide_eq_false_iff_not, beq_iff_eq, bne_iff_ne, beq_eq_false_iff_ne, bne_eq_false_iff_eq, ne_eq, Bool.or_eq_true, Bool.or_eq_false_iff, Bool.and_eq_true, Bool.and_eq_false_imp, Bool.not_eq_true, Bool.not_eq_true', Bool.not_eq_false', Classical.not_not, Int.not_lt, Int.not_le, gt_iff_lt, ge_iff_le] at hc1
      refine W.skip ?_
      refine WE.nxt ?_
      refine W.seq ?_
      refine W.seq ?_
      refine W.region _ ?_
      refine WG.run tab_ok 1 rfl ?_
      refine' WG.y rfl rfl (by decide) (Yl.load1 tab_ok rfl rfl rfl (fun _ => rfl) ?r5 rfl ?h5) ?_
      case r5 => apply Rd.add; (exact Rd.blk 0 rfl)
      case h5 => rfl
      refine WG.run tab_ok 2 rfl ?_
      refine WG.callV en109 rfl rfl (by decide) (CallOp.mk' rfl rfl rfl rfl) (fun _ => rfl) (fun hg => CheckP_V hzr) ?_
      refine WG.run tab_ok 1 rfl ?_
      refine WG.nil ?_
      refine WE.nxt ?_
      refine W.seq ?_
      refine W.region _ ?_
      refine WG.run tab_ok 2 rfl ?_
      refine WG.nil ?_
      refine WE.nxt ?_
      refine W.condN rfl (fun hc2 => ?_) (fun hc2 => ?_)
      · try dsimp only at hc2
        have e : argE L cls (ls.map CvS.cv) z = chk18 L.cap cls z := by unfold argE; rw [if_neg (fun h => h hc0), if_neg (by rw [List.length_map]; omega), if_pos hc2]
        refine W.seq ?_
        refine W.region _ ?_
        refine WG.run tab_ok 2 rfl ?_
        refine WG.nil ?_
        refine WE.nxt ?_
        refine W.ret ?_
        refine WE.then_ret ?_
        refine WE.subE (E' := E) qS ?_
        refine WE.retF tab_ok [_] rfl ⟨rfl, trivial⟩ (RLe.refl _) ?_
        exact ⟨by rw [e]; rfl, rfl⟩
      · try dsimp only at hc2
        refine W.skip ?_
        refine WE.nxt ?_
        refine W.seq ?_
        refine W.seq ?_
        refine W.region _ ?_
        refine WG.run tab_ok 3 rfl ?_
        refine WG.nil ?_
        refine WE.nxt ?_
        refine W.block ?_
        refine W.loopK (β := Nat) (fun k => k ≤ ls.length ∧ ∀ i, i < k → validB (nth ls i).cv = true) (fun k => [(50, true, .int .i64 (k : Int))]) [48, 49] [_, _] [] _ rfl (fun k => []) (fun k => ls.length - k) (0) (⟨Nat.zero_le _, fun i hi => absurd hi (Nat.not_lt_zero i)⟩) ⟨rfl, rfl, rfl, rfl⟩ qS ?_
        intro k hst
        dsimp only [zipE, setAll, List.cons_append, List.nil_append, List.set_cons_zero, List.set_cons_succ] at hst ⊢
        obtain ⟨hk, hpre⟩ := hst
        refine W.seq ?_
        refine W.region _ ?_
        refine WG.run tab_ok 1 rfl ?_
        refine WG.nil ?_
        refine WE.nxt ?_
        refine W.seq ?_
        refine W.condD rfl (fun hc3 => ?_) (fun hc3 => ?_)
        · try dsimp only at hc3
          refine W.skip ?_
          refine WE.nxt ?_
          refine W.seq ?_
          refine W.block ?_
          refine W.seq ?_
          refine W.region _ ?_
          refine WG.y rfl rfl (by decide) (Yl.indexN tab_ok rfl rfl rfl rfl rfl rfl (fun _ => rfl) (by intro _; (try dsimp only) <;> omega) (by intro _; first | exact fun _ _ _ _ => rfl | exact RS.has (by assumption) | exact fun _ _ _ _ => (by assumption) | exact HasMem.ownD 0 rfl | exact HasMem.ownD 1 rfl | exact HasMem.ownD 2 rfl | exact HasMem.ownD 3 rfl)) ?_
          refine' WG.y rfl rfl (by decide) (Yl.load1 tab_ok rfl rfl rfl (fun _ => rfl) ?r6 rfl ?h6) ?_
          case r6 => ((apply RS.rdD; assumption; ((try dsimp only) <;> omega)))
          case h6 => rfl
          refine WL.ef rfl rfl (by decide) (Ef.alloc tab_ok rfl rfl (fun b12 => ?_))
          refine WL.efN rfl rfl (Ef.store0 0 tab_ok rfl rfl rfl rfl rfl rfl rfl rfl ?_)
          refine WG.nil ?_
          refine WE.nxt ?_
          refine W.seq ?_
          refine W.region _ ?_
          refine' WG.y rfl rfl (by decide) (Yl.load1 tab_ok rfl rfl rfl (fun _ => rfl) ?r7 rfl ?h7) ?_
          case r7 => (exact Rd.blk 0 rfl)
          case h7 => rfl
          refine WG.callV en110 rfl rfl (by decide) (CallOp.mk' rfl rfl rfl rfl) (fun _ => rfl) (fun hg => CValidG_V (hls _ (nth_mem (xs := ls) (k := k) (by omega))).1 (hls _ (nth_mem (xs := ls) (k := k) (by omega))).2) ?_
          refine WG.run tab_ok 1 rfl ?_
          refine WG.nil ?_
          refine WE.nxt ?_
          refine W.cond rfl (fun hc4 => ?_) (fun hc4 => ?_)
          · try simp only [decide_eq_true_eq, decide_eq_false_iff_not, beq_iff_eq, bne_iff_ne, beq_eq_false_iff_ne, bne_eq_false_iff_eq, ne_eq, Bool.or_eq_true, Bool.or_eq_false_iff, Bool.and_eq_true, Bool.and_eq_false_imp, Bool.not_eq_true, Bool.not_eq_true', Bool.not_eq_false', Classical.not_not, Int.not_lt, Int.not_le, gt_iff_lt, ge_iff_le] at hc4
            have e : argE L cls (ls.map CvS.cv) z = 1 := by
              unfold argE
              rw [if_neg (fun h => h hc0), if_neg (by rw [List.length_map]; omega), if_neg (fun h => h hc2), if_neg]
              intro hh
              have := List.all_eq_true.1 hh _ (List.mem_map.2 ⟨_, nth_mem (xs := ls) (k := k) (by omega), rfl⟩)
              rw [this] at hc4; cases hc4
            refine W.seq ?_
            refine W.region _ ?_
            refine WG.run tab_ok 1 rfl ?_
            refine WG.nil ?_
            refine WE.nxt ?_
            refine W.ret ?_
            refine WE.blk_ret ?_
            refine WE.then_ret ?_
            refine WE.then_ret ?_
            refine WE.blk_ret ?_
            refine WE.then_ret ?_
            refine WE.subE (E' := E) qS ?_
            refine WE.retF tab_ok [_] rfl ⟨rfl, trivial⟩ (RLe.refl _) ?_
            exact ⟨by rw [e]; rfl, rfl⟩
          · try simp only [decide_eq_true_eq, decide_eq_false_iff_not, beq_iff_eq, bne_iff_ne, beq_eq_false_iff_ne, bne_eq_false_iff_eq, ne_eq, Bool.or_eq_true, Bool.or_eq_false_iff, Bool.and_eq_true, Bool.and_eq_false_imp, Bool.not_eq_true, Bool.not_eq_true', Bool.not_eq_false', Classical.not_not, Int.not_lt, Int.not_le, gt_iff_lt, ge_iff_le] at hc4
            refine W.skip ?_
            refine WE.blk _ ?_
            refine WE.nxt ?_
            refine W.region _ ?_
            refine WG.y rfl rfl (by decide) (Yl.add rfl rfl rfl (fun _ => rfl) (by intro _; constructor <;> (try dsimp only) <;> omega)) ?_
            refine WG.run tab_ok 1 rfl ?_
            refine WG.nil ?_
            refine WE.again (k + 1) (⟨by omega, fun i hi => by rcases Nat.lt_or_ge i k with h | h; exact hpre i h; rw [show i = k by omega]; exact hc4⟩) (by (try dsimp only); omega) ⟨rfl, rfl, rfl, rfl⟩ (RLe.refl _) qS
        · try dsimp only at hc3
          refine W.exit ?_
          refine WE.then_exit ?_
          refine WE.then_exit ?_
          refine WE.blk_exit ?_
          refine WE.nxt ?_
          refine W.seq ?_
          refine W.region _ ?_
          refine WG.run tab_ok 1 rfl ?_
          refine WG.nil ?_
          refine WE.nxt ?_
          refine W.ret ?_
          refine WE.subE (E' := E) qS ?_
          refine WE.retF tab_ok [_] rfl ⟨rfl, trivial⟩ (RLe.refl _) ?_
          have e : argE L cls (ls.map CvS.cv) z = 0 := by
            unfold argE
            rw [if_neg (fun h => h hc0), if_neg (by rw [List.length_map]; omega), if_neg (fun h => h hc2), if_pos]
            rw [List.all_eq_true]
            intro x hx
            obtain ⟨y, hy, rfl⟩ := List.mem_map.1 hx
            obtain ⟨i, hi, rfl⟩ := List.getElem_of_mem hy
            have := hpre i (by omega)
            rw [show nth ls i = ls[i] by unfold nth List.getD; rw [List.getElem?_eq_getElem hi]; rfl] at this
            exact this
          exact ⟨by rw [e]; rfl, rfl⟩

end Go.Proofs.YtlgjkmebpnnphaaGreat

/- Chapter 22: server.Curve of any line. No condition. -/
set_option maxRecDepth 4000
set_option linter.unusedSimpArgs false
set_option linter.unusedVariables false
namespace Go.Proofs.YtlgjkmebpnnphaaGreat
open Go Go.RowKit Go.Proofs.YtlgjkmebpnnphaaGreat.K Go.Proofs.YtlgjkmebpnnphaaGreat.M

theorem meth_curve1 (x y z u : Value) : Meth Tryz.prog 121 (.agg #[]) "netcalculus/server.curve" 192 [x, y, z, u] := fun w => by kernel_rfl
theorem arg_facts {L : Ln} {cls : Int} {l : List Cv} {z : List Sz} (h : argE L cls l z = 0) : chkL L = 0 ∧ (0 ≤ cls ∧ cls < L.n ∧ (l.length : Int) = L.n ∧ (z.length : Int) = L.n) ∧ chk18 L.cap cls z = 0 ∧ ∀ c ∈ l, validB c = true := by
  unfold argE at h
  split at h
  · rename_i h1; exact absurd h h1
  · rename_i h1
    split at h
    · omega
    · split at h
      · rename_i h2; exact absurd h h2
      · rename_i h2
        split at h
        · rename_i h3
          exact ⟨by omega, by omega, by omega, fun c hc => List.all_eq_true.1 h3 c hc⟩
        · omega

theorem CurveSrv1_C {R : Ro} {aw at_ : Option Addr} {lw cw lt ct : Nat} {L : Ln} (hw : RS R 1 encI aw L.w) (hlw : L.w.length = lw) (ht : RS R 1 encI at_ L.tb) (hlt : L.tb.length = lt) {la : Option Addr} {lc ll : Nat} {ls : List CvS} (hla : RS R 3 encC la ls) (hll : ls.length = ll) (hlc : ll ≤ lc) (hls : ∀ x ∈ ls, RS R 1 encI x.a x.cv.vals ∧ x.cv.vals.length ≤ 100000) {za : Option Addr} {zc lz : Nat} {z : List Sz} (hzr : RS R 2 encZ za z) (hlz : z.length = lz) (hzc : lz ≤ zc) {cls : Int} (hk1 : L.kind = 1) (w0 : World) (E : List Ent) : K.Fn Tryz.prog 36 [.agg #[.int .i64 L.kind, .int .i64 L.cap, .int .i64 L.n, .slice aw lw cw, .slice at_ lt ct], .int .i64 cls, .slice la ll lc, .slice za lz zc] w0 R E (fun r R' E' => ∃ (f : Option Addr) (fc : Nat), r = cvV f fc (curveL L cls (ls.map CvS.cv) z) ∧ RS R' 1 encI f (curveL L cls (ls.map CvS.cv) z).1.vals ∧ E.Sublist E') := by
  refine Fn.enter (n := 36) Tryz.func36 rfl rfl (Nat.le_of_ble_eq_true rfl) rfl ?_
  refine W.seq ?_
  refine W.region _ ?_
  refine WL.ef rfl rfl (by decide) (Ef.box rfl rfl (fun b4 => ?_))
  refine WL.ef rfl rfl (by decide) (Ef.alloc tab_ok rfl rfl (fun b8 => ?_))
  refine WG.run tab_ok 1 rfl ?_
  refine WG.nil ?_
  refine WE.nxt ?_
  refine W.seq ?_
  refine W.seq ?_
  refine W.region _ ?_
  refine' WG.y rfl rfl (by decide) (Yl.load1 tab_ok rfl rfl rfl (fun _ => rfl) ?r1 rfl ?h1) ?_
  case r1 => (exact Rd.blk 1 rfl)
  case h1 => rfl
  refine WG.run tab_ok 3 rfl ?_
  refine WG.callV en73 rfl rfl (by decide) (CallOp.mk' rfl rfl rfl rfl) (fun _ => rfl) (fun hg => ArgSrv_V hw hlw ht hlt hla hll hlc hls hzr hlz hzc) ?_
  refine WG.run tab_ok 1 rfl ?_
  refine WG.nil ?_
  refine WE.nxt ?_
  refine W.seq ?_
  refine W.region _ ?_
  refine WG.run tab_ok 2 rfl ?_
  refine WG.nil ?_
  refine WE.nxt ?_
  refine W.condN rfl (fun hc0 => ?_) (fun hc0 => ?_)
  · try dsimp only at hc0
    have e : curveL L cls (ls.map CvS.cv) z = (zcv, argE L cls (ls.map CvS.cv) z) := if_pos hc0
    refine W.seq ?_
    refine W.region _ ?_
    -- build
    refine WG.y rfl rfl (by decide) (Yl.build (parts := []) tab_ok rfl rfl rfl rfl (fun _ => rfl) rfl rfl) ?_
    refine WG.run tab_ok 1 rfl ?_
    refine WL.efN rfl rfl (Ef.store0 0 tab_ok rfl rfl rfl rfl rfl rfl rfl rfl ?_)
    refine WG.run tab_ok 1 rfl ?_
    refine WG.nil ?_
    refine WE.nxt ?_
    refine W.ret ?_
    refine WE.then_ret ?_
    refine WE.retF tab_ok [_, _] rfl ⟨⟨_, _, _, rfl, rfl, rfl, ((by first | exact Rd.blk 0 rfl | exact Rd.blk 1 rfl | exact Rd.blk 2 rfl | exact Rd.blk 3 rfl | exact Rd.blk 4 rfl | exact Rd.blk 5 rfl)), rfl⟩, rfl, trivial⟩ (by first | exact RLe.refl _ | exact hR2) ?_
    rw [e]
    exact ⟨none, 0, rfl, rs_nil, qS⟩
  · try dsimp only at hc0
    have e : curveL L cls (ls.map CvS.cv) z = fifoC L.cap (ls.map CvS.cv) := (if_neg (fun h => h hc0)).trans (if_pos hk1)
    obtain ⟨hk0, -, -, hv⟩ := arg_facts hc0
    have hf := chk_facts hk0
    refine W.skip ?_
    refine WE.nxt ?_
    refine W.seq ?_
    refine W.region _ ?_
    refine WG.run tab_ok 1 rfl ?_
    refine' WG.y rfl rfl (by decide) (Yl.load1 tab_ok rfl rfl rfl (fun _ => rfl) ?r2 rfl ?h2) ?_
    case r2 => apply Rd.add; (exact Rd.blk 1 rfl)
    case h2 => rfl
    refine WG.callV en52 rfl rfl (by decide) (CallOp.mk' rfl rfl rfl rfl) (fun _ => rfl) (fun hg => Kind_V L.kind) ?_
    refine WG.run tab_ok 5 rfl ?_
    refine WG.nil ?_
    refine WE.nxt ?_
    rw [show kindI L.kind = .iface 121 (.agg #[]) by rw [hk1]; rfl]
    refine W.seq ?_
    refine W.region _ ?_
    refine WG.run tab_ok 1 rfl ?_
    refine' WG.y rfl rfl (by decide) (Yl.load1 tab_ok rfl rfl rfl (fun _ => rfl) ?r3 rfl ?h3) ?_
    case r3 => (exact Rd.blk 1 rfl)
    case h3 => rfl
    refine WG.run tab_ok 3 rfl ?_
    refine WL.callI (args := [.tmp 29, .tmp 30, .tmp 31, .tmp 32]) rfl rfl rfl (by decide) rfl rfl (meth_curve1 _ _ _ _) (CurFifo_C hw hlw ht hlt hla hll hlc hls hzr hlz hzc ⟨hf.2.1, hf.2.2.1⟩ (fun x hx => hv _ (List.mem_map.2 ⟨x, hx, rfl⟩)) w0 _) ?_
    rintro _ R2 E2 hR2 ⟨f, fc, rfl, hf, hsub⟩
    refine WL.subE hsub ?_
    rw [← e] at hf ⊢
    unfold cvV
    refine WG.run tab_ok 2 rfl ?_
    refine WL.efN rfl rfl (Ef.store0 0 tab_ok rfl rfl rfl rfl rfl rfl rfl rfl ?_)
    refine WG.run tab_ok 1 rfl ?_
    refine WG.nil ?_
    refine WE.nxt ?_
    refine W.ret ?_
    refine WE.retF tab_ok [_, _] rfl ⟨⟨_, _, _, rfl, rfl, rfl, ((by first | exact Rd.blk 0 rfl | exact Rd.blk 1 rfl | exact Rd.blk 2 rfl | exact Rd.blk 3 rfl | exact Rd.blk 4 rfl | exact Rd.blk 5 rfl)), rfl⟩, rfl, trivial⟩ (by first | exact RLe.refl _ | exact hR2) ?_
    exact ⟨f, fc, rfl, hf, qS⟩


end Go.Proofs.YtlgjkmebpnnphaaGreat

/- Four operations of which any may come first. No condition. -/
namespace Go.Proofs.YtlgjkmebpnnphaaGreat.K
open Go Go.RowKit
variable {P : Program} {T : Tab} {n : Nat} {env : Env} {w0 : World} {R : Ro} {E : List Ent} {Q : Exit → Act → World → Prop}
variable {ops : List Oper} {ES : List Ent} {R0 : Ro} {fuel : Nat} {listed : Array Bool}
theorem WE.retFS {E' : List Ent} (hE : E'.Sublist E) (hT : TabOk P T) {fn : Func} {Post : Value → Ro → List Ent → Prop} {R0 : Ro} {rs : List ResultVar} (vs : List Value) (hr : fn.results = rs.toArray) (h : ResAll T env R E rs vs) (hR : RLe R0 R) (hp : Post (resVal vs) R E') (hds : markOf env = none := by rfl) :
    WE (bodyPost P fn (FnR w0 R0 Post)) .ret n env w0 R E := fun _ _ hk hm => ⟨by rw [hk.defers]; unfold dsOf; rw [hds], resVal vs, results_ok hT hr hk hm h, resVal vs, R, E', rfl, hR, hm.sub (RLe.refl R) hE, hp⟩
end Go.Proofs.YtlgjkmebpnnphaaGreat.K

/- Chapter 22: the lines that are drawn. No condition. -/
set_option maxRecDepth 4000
set_option linter.unusedSimpArgs false
set_option linter.unusedVariables false
namespace Go.Proofs.YtlgjkmebpnnphaaGreat
open Go Go.RowKit Go.Proofs.YtlgjkmebpnnphaaGreat.K Go.Proofs.YtlgjkmebpnnphaaGreat.M

set_option maxHeartbeats 1000000 in
theorem Draw_C {R : Ro} {b : Nat} {a : Option Addr} {cp : Nat} {xs : List Int} {c : Nat} (w0 : World) (ha : RS R 1 encI a xs) : FnAt Tryz.prog 14 [.pointer (some ⟨b, 0, none⟩)] w0 R (srcE b a cp xs c)
    (fun v R' e' N => ∃ (L : Ln) (aw at_ : Option Addr) (cw ct cn : Nat), v = .agg #[.int .i64 L.kind, .int .i64 L.cap, .int .i64 L.n, .slice aw L.w.length cw, .slice at_ L.tb.length ct] ∧ RS R' 1 encI aw L.w ∧ RS R' 1 encI at_ L.tb ∧ DrawOk L ∧ e' = srcE b a cp xs cn ∧ N = []) := by
  intro F
  refine Fn.enter (n := 59) Tryz.func14 rfl rfl (Nat.le_of_ble_eq_true rfl) rfl ?_
  refine W.seq ?_
  refine W.region _ ?_
  refine WL.ef rfl rfl (by decide) (Ef.alloc tab_ok rfl rfl (fun b2 => ?_))
  refine WG.nil ?_
  refine WE.nxt ?_
  refine W.seq ?_
  refine W.region _ ?_
  refine WG.run tab_ok 1 rfl ?_
  refine WL.callAt 1 en20 rfl rfl (by decide) (CallOp.mkT rfl rfl rfl rfl) rfl (N_C w0 ha (by constructor <;> decide) _) ?_
  rintro _ _ _ _ - ⟨rfl, rfl, rfl, rfl⟩
  have hm0 := mod_range (nth xs (c)) (show (1 : Int) ≤ 5 by decide)
  refine WG.y rfl rfl (by decide) (Yl.add rfl rfl rfl (fun _ => rfl) (by intro _; constructor <;> (try dsimp only) <;> omega)) ?_
  refine WG.run tab_ok 1 rfl ?_
  refine WL.callAt 1 en20 rfl rfl (by decide) (CallOp.mkT rfl rfl rfl rfl) rfl (N_C w0 ha (by constructor <;> decide) _) ?_
  rintro _ _ _ _ - ⟨rfl, rfl, rfl, rfl⟩
  have hm1 := mod_range (nth xs (c + 1)) (show (1 : Int) ≤ 40 by decide)
  refine WG.y rfl rfl (by decide) (Yl.add rfl rfl rfl (fun _ => rfl) (by intro _; constructor <;> (try dsimp only) <;> omega)) ?_
  -- build
  refine WG.y rfl rfl (by decide) (Yl.build (parts := [(0, .tmp 7), (1, .tmp 10), (2, .const (.int .i64 3))]) tab_ok rfl rfl rfl rfl (fun _ => rfl) rfl rfl) ?_
  refine WL.ef rfl rfl (by decide) (Ef.alloc tab_ok rfl rfl (fun b3 => ?_))
  refine WL.efN rfl rfl (Ef.store0 0 tab_ok rfl rfl rfl rfl rfl rfl rfl rfl ?_)
  refine WG.nil ?_
  refine WE.nxt ?_
  refine W.seq ?_
  refine W.seq ?_
  refine W.region _ ?_
  refine WG.run tab_ok 1 rfl ?_
  refine' WG.y rfl rfl (by decide) (Yl.load1 tab_ok rfl rfl rfl (fun _ => rfl) ?r1 rfl ?h1) ?_
  case r1 => apply Rd.add; (exact Rd.blk 0 rfl)
  case h1 => rfl
  refine WG.nil ?_
  refine WE.nxt ?_
  refine W.block ?_
  refine W.seq ?_
  refine W.region _ ?_
  refine WG.run tab_ok 2 rfl ?_
  refine WG.nil ?_
  refine WE.nxt ?_
  refine W.condE rfl (fun hc0 => ?_) (fun hc0 => ?_)
  · try dsimp only at hc0
    refine W.region _ ?_
    refine WG.run tab_ok 1 rfl ?_
    refine WL.callAt 2 en20 rfl rfl (by decide) (CallOp.mkT rfl rfl rfl rfl) rfl (N_C w0 ha (by constructor <;> decide) _) ?_
    rintro _ _ _ _ - ⟨rfl, rfl, rfl, rfl⟩
    have hm2 := mod_range (nth xs (c + 1 + 1)) (show (1 : Int) ≤ 3 by decide)
    refine WG.y rfl rfl (by decide) (Yl.add rfl rfl rfl (fun _ => rfl) (by intro _; constructor <;> (try dsimp only) <;> omega)) ?_
    refine WG.run tab_ok 1 rfl ?_
    refine WL.callAt 2 en20 rfl rfl (by decide) (CallOp.mkT rfl rfl rfl rfl) rfl (N_C w0 ha (by constructor <;> decide) _) ?_
    rintro _ _ _ _ - ⟨rfl, rfl, rfl, rfl⟩
    have hm3 := mod_range (nth xs (c + 1 + 1 + 1)) (show (1 : Int) ≤ 3 by decide)
    refine WG.y rfl rfl (by decide) (Yl.add rfl rfl rfl (fun _ => rfl) (by intro _; constructor <;> (try dsimp only) <;> omega)) ?_
    refine WG.run tab_ok 1 rfl ?_
    refine WL.callAt 2 en20 rfl rfl (by decide) (CallOp.mkT rfl rfl rfl rfl) rfl (N_C w0 ha (by constructor <;> decide) _) ?_
    rintro _ _ _ _ - ⟨rfl, rfl, rfl, rfl⟩
    have hm4 := mod_range (nth xs (c + 1 + 1 + 1 + 1)) (show (1 : Int) ≤ 3 by decide)
    refine WG.y rfl rfl (by decide) (Yl.add rfl rfl rfl (fun _ => rfl) (by intro _; constructor <;> (try dsimp only) <;> omega)) ?_
    refine WL.ef rfl rfl (by decide) (Ef.buildSliceD (enc := encI) (parts := [.tmp 18, .tmp 21, .tmp 24]) [_, _, _] tab_ok rfl rfl rfl rfl rfl rfl rfl rfl (by decide) (by decide) (fun a25 => ?_))
    refine WG.run tab_ok 1 rfl ?_
    refine WL.efN rfl rfl (Ef.store 1 tab_ok rfl rfl rfl rfl rfl rfl rfl rfl ?_)
    refine WL.freeze (enc := encI) (xs := ([1 + mod (nth xs (c + 1 + 1)) 3, 1 + mod (nth xs (c + 1 + 1 + 1)) 3, 1 + mod (nth xs (c + 1 + 1 + 1 + 1)) 3] : List Int)) 0 rfl ?_
    intro R1 hR1 hwz
    refine WG.nil ?_
    refine WE.blk _ ?_
    refine WE.nxt ?_
    refine W.seq ?_
    refine W.region _ ?_
    refine' WG.y rfl rfl (by decide) (Yl.load1 tab_ok rfl rfl rfl (fun _ => rfl) ?r2 rfl ?h2) ?_
    case r2 => (exact Rd.blk 0 rfl)
    case h2 => rfl
    refine WL.efN rfl rfl (Ef.store0 1 tab_ok rfl rfl rfl rfl rfl rfl rfl rfl ?_)
    refine WG.nil ?_
    refine WE.nxt ?_
    refine W.ret ?_
    refine WE.retFS (E' := srcE b a cp xs (c + 1 + 1 + 1 + 1 + 1) :: F) qS tab_ok [_] rfl ⟨⟨_, _, _, rfl, rfl, rfl, ((by first | exact Rd.blk 0 rfl | exact Rd.blk 1 rfl | exact Rd.blk 2 rfl | exact Rd.blk 3 rfl | exact Rd.blk 4 rfl | exact Rd.blk 5 rfl)), rfl⟩, trivial⟩ (by first | exact hR1 | exact RLe.refl _) ?_
    exact ⟨_, [], rfl, ⟨(1 + mod (nth xs c) 5), (3 + mod (nth xs (c + 1)) 40), 3, ([1 + mod (nth xs (c + 1 + 1)) 3, 1 + mod (nth xs (c + 1 + 1 + 1)) 3, 1 + mod (nth xs (c + 1 + 1 + 1 + 1)) 3] : List Int), []⟩, _, none, _, 0, _, rfl, hwz, rs_nil, ⟨by dsimp only; omega, rfl, by dsimp only; omega, fun h => by dsimp only at h; omega, fun _ => ⟨rfl, fun x hx => by simp only [List.mem_cons, List.not_mem_nil, or_false] at hx; rcases hx with rfl | rfl | rfl <;> omega, rfl⟩, fun h => by dsimp only at h; omega, fun h => by dsimp only at h; omega⟩, rfl, rfl⟩
  · try dsimp only at hc0
    refine W.seq ?_
    refine W.region _ ?_
    refine WG.run tab_ok 2 rfl ?_
    refine WG.nil ?_
    refine WE.nxt ?_
    refine W.condE rfl (fun hc1 => ?_) (fun hc1 => ?_)
    · try dsimp only at hc1
      refine W.region _ ?_
      refine WG.run tab_ok 1 rfl ?_
      refine WL.callAt 2 en20 rfl rfl (by decide) (CallOp.mkT rfl rfl rfl rfl) rfl (N_C w0 ha (by constructor <;> decide) _) ?_
      rintro _ _ _ _ - ⟨rfl, rfl, rfl, rfl⟩
      have hm2 := mod_range (nth xs (c + 1 + 1)) (show (1 : Int) ≤ 50 by decide)
      refine WG.y rfl rfl (by decide) (Yl.add rfl rfl rfl (fun _ => rfl) (by intro _; constructor <;> (try dsimp only) <;> omega)) ?_
      refine WG.run tab_ok 1 rfl ?_
      refine WL.callAt 2 en20 rfl rfl (by decide) (CallOp.mkT rfl rfl rfl rfl) rfl (N_C w0 ha (by constructor <;> decide) _) ?_
      rintro _ _ _ _ - ⟨rfl, rfl, rfl, rfl⟩
      have hm3 := mod_range (nth xs (c + 1 + 1 + 1)) (show (1 : Int) ≤ 50 by decide)
      refine WG.y rfl rfl (by decide) (Yl.add rfl rfl rfl (fun _ => rfl) (by intro _; constructor <;> (try dsimp only) <;> omega)) ?_
      refine WG.run tab_ok 1 rfl ?_
      refine WL.callAt 2 en20 rfl rfl (by decide) (CallOp.mkT rfl rfl rfl rfl) rfl (N_C w0 ha (by constructor <;> decide) _) ?_
      rintro _ _ _ _ - ⟨rfl, rfl, rfl, rfl⟩
      have hm4 := mod_range (nth xs (c + 1 + 1 + 1 + 1)) (show (1 : Int) ≤ 50 by decide)
      refine WG.y rfl rfl (by decide) (Yl.add rfl rfl rfl (fun _ => rfl) (by intro _; constructor <;> (try dsimp only) <;> omega)) ?_
      refine WL.ef rfl rfl (by decide) (Ef.buildSliceD (enc := encI) (parts := [.tmp 31, .tmp 34, .tmp 37]) [_, _, _] tab_ok rfl rfl rfl rfl rfl rfl rfl rfl (by decide) (by decide) (fun a38 => ?_))
      refine WG.run tab_ok 1 rfl ?_
      refine WL.efN rfl rfl (Ef.store 1 tab_ok rfl rfl rfl rfl rfl rfl rfl rfl ?_)
      refine WL.freeze (enc := encI) (xs := ([1 + mod (nth xs (c + 1 + 1)) 50, 1 + mod (nth xs (c + 1 + 1 + 1)) 50, 1 + mod (nth xs (c + 1 + 1 + 1 + 1)) 50] : List Int)) 0 rfl ?_
      intro R1 hR1 hwz
      refine WG.nil ?_
      refine WE.blk _ ?_
      refine WE.nxt ?_
      refine W.seq ?_
      refine W.region _ ?_
      refine' WG.y rfl rfl (by decide) (Yl.load1 tab_ok rfl rfl rfl (fun _ => rfl) ?r3 rfl ?h3) ?_
      case r3 => (exact Rd.blk 0 rfl)
      case h3 => rfl
      refine WL.efN rfl rfl (Ef.store0 1 tab_ok rfl rfl rfl rfl rfl rfl rfl rfl ?_)
      refine WG.nil ?_
      refine WE.nxt ?_
      refine W.ret ?_
      refine WE.retFS (E' := srcE b a cp xs (c + 1 + 1 + 1 + 1 + 1) :: F) qS tab_ok [_] rfl ⟨⟨_, _, _, rfl, rfl, rfl, ((by first | exact Rd.blk 0 rfl | exact Rd.blk 1 rfl | exact Rd.blk 2 rfl | exact Rd.blk 3 rfl | exact Rd.blk 4 rfl | exact Rd.blk 5 rfl)), rfl⟩, trivial⟩ (by first | exact hR1 | exact RLe.refl _) ?_
      exact ⟨_, [], rfl, ⟨(1 + mod (nth xs c) 5), (3 + mod (nth xs (c + 1)) 40), 3, ([1 + mod (nth xs (c + 1 + 1)) 50, 1 + mod (nth xs (c + 1 + 1 + 1)) 50, 1 + mod (nth xs (c + 1 + 1 + 1 + 1)) 50] : List Int), []⟩, _, none, _, 0, _, rfl, hwz, rs_nil, ⟨by dsimp only; omega, rfl, by dsimp only; omega, fun h => by dsimp only at h; omega, fun h => by dsimp only at h; omega, fun _ => ⟨rfl, fun x hx => by simp only [List.mem_cons, List.not_mem_nil, or_false] at hx; rcases hx with rfl | rfl | rfl <;> omega, rfl⟩, fun h => by dsimp only at h; omega⟩, rfl, rfl⟩
    · try dsimp only at hc1
      refine W.seq ?_
      refine W.region _ ?_
      refine WG.run tab_ok 2 rfl ?_
      refine WG.nil ?_
      refine WE.nxt ?_
      refine W.condE rfl (fun hc2 => ?_) (fun hc2 => ?_)
      · try dsimp only at hc2
        refine W.seq ?_
        refine W.region _ ?_
        refine WL.ef rfl rfl (by decide) (Ef.buildSliceD (enc := encI) (parts := [.const (.int .i64 0), .const (.int .i64 1), .const (.int .i64 2)]) [_, _, _] tab_ok rfl rfl rfl rfl rfl rfl rfl rfl (by decide) (by decide) (fun a42 => ?_))
        refine WG.run tab_ok 1 rfl ?_
        refine WL.efN rfl rfl (Ef.store 1 tab_ok rfl rfl rfl rfl rfl rfl rfl rfl ?_)
        refine WG.nil ?_
        refine WE.nxt ?_
        refine W.seq ?_
        refine W.region _ ?_
        refine WG.run tab_ok 1 rfl ?_
        refine WL.callAt 3 en20 rfl rfl (by decide) (CallOp.mkT rfl rfl rfl rfl) rfl (N_C w0 ha (by constructor <;> decide) _) ?_
        rintro _ _ _ _ - ⟨rfl, rfl, rfl, rfl⟩
        have hm8 := mod_range (nth xs (c + 1 + 1)) (show (1 : Int) ≤ 4 by decide)
        obtain ⟨k8, hk8⟩ := Int.eq_ofNat_of_zero_le hm8.1
        rw [hk8]
        refine WG.run tab_ok 1 rfl ?_
        refine WG.nil ?_
        refine WE.nxt ?_
        refine W.block ?_
        refine W.loopK (β := Nat × List Int × Nat × Option Addr × Nat) (fun (k, ys, cn, a9, c9) => 3 ≤ ys.length ∧ ys.length + k ≤ 6 ∧ ∀ y ∈ ys, -1 ≤ y ∧ y ≤ 2) (fun (k, ys, cn, a9, c9) => [(4, true, .int .i64 (k : Int))]) [0, 2, 3] [_, _, _] [] _ rfl (fun (k, ys, cn, a9, c9) => [(0, .sl 3 1 a9 c9 (ys.map encI)), (1, .blk b3 [.int .i64 (1 + mod (nth xs c) 5), .int .i64 (3 + mod (nth xs (c + 1)) 40), .int .i64 3, .slice none 0 0, .slice a9 ys.length c9]), (3, srcE b a cp xs cn)]) (fun (k, ys, cn, a9, c9) => k) ((k8, [0, 1, 2], c + 1 + 1 + 1, some ⟨a42, 0, none⟩, 3)) (⟨by decide, by dsimp only [List.length_cons, List.length_nil]; omega, by decide⟩) ⟨rfl, rfl, rfl, rfl, rfl⟩ qS ?_
        intro zz hst
        obtain ⟨k, ys, cn, a9, c9⟩ := zz
        dsimp only [zipE, setAll, List.cons_append, List.nil_append, List.set_cons_zero, List.set_cons_succ] at hst ⊢
        obtain ⟨hy1, hy2, hy3⟩ := hst
        refine W.seq ?_
        refine W.seq ?_
        refine W.region _ ?_
        refine WG.run tab_ok 2 rfl ?_
        refine WG.nil ?_
        refine WE.nxt ?_
        refine W.condD rfl (fun hc3 => ?_) (fun hc3 => ?_)
        · try dsimp only at hc3
          obtain ⟨k, rfl⟩ : ∃ j, k = j + 1 := ⟨k - 1, by omega⟩
          refine W.skip ?_
          refine WE.nxt ?_
          refine W.seq ?_
          refine W.block ?_
          refine W.regionH _ (ES := (.blk b2 [.int .i64 0, .int .i64 0, .int .i64 0, .slice none 0 0, .slice none 0 0] :: F)) mixed ?_
          refine WA.take 0 rfl (by kernel_rfl) (by kernel_rfl) (by kernel_rfl) rfl rfl (by decide) (pureV_ok tab_ok rfl (fun _ => rfl)) qS (by first | exact RLe.refl _ | assumption) ?_
          refine WA.take 2 rfl (by kernel_rfl) (by kernel_rfl) (by kernel_rfl) rfl rfl (by decide) (pureV_ok tab_ok rfl (fun _ => rfl)) qS (by first | exact RLe.refl _ | assumption) ?_
          refine WA.br2 (i := 1) (j := 3) (by kernel_rfl) ?_ ?_
          ·
            refine' WS.yl rfl rfl rfl (by decide) (Yl.load1 tab_ok rfl rfl rfl (fun _ => rfl) ?r4 rfl ?h4) qS (RLe.refl _) ?_
            case r4 => apply Rd.add; (exact Rd.blk 1 rfl)
            case h4 => rfl
            refine WA.callAt 3 3 rfl (by kernel_rfl) en20 rfl rfl (by decide) (CallOp.mkT rfl rfl rfl rfl) rfl (N_C w0 ha (by constructor <;> decide) _) ?_
            rintro _ _ _ _ - ⟨rfl, rfl, rfl, rfl⟩
            refine ⟨RLe.refl _, qS, ?_⟩
            have hm9 := mod_range (nth xs cn) (show (1 : Int) ≤ 4 by decide)
            refine WA.take 4 rfl (by kernel_rfl) (by kernel_rfl) (by kernel_rfl) rfl rfl (by decide) (Yl.sub rfl rfl rfl (fun _ => rfl) (by intro _; constructor <;> (try dsimp only) <;> omega)) qS (by first | exact RLe.refl _ | assumption) ?_
            refine WA.eff 5 rfl (by kernel_rfl) rfl rfl (by decide) (Ef.buildSliceD (enc := encI) (parts := [.tmp 54]) [_] tab_ok rfl rfl rfl rfl rfl rfl rfl rfl (by decide) (by decide) (fun a55 => ?_))
            refine ⟨by first | exact RLe.refl _ | assumption, qS, ?_⟩
            refine WA.eff 6 rfl (by kernel_rfl) rfl rfl (by decide) (Ef.appendD 1 0 tab_ok rfl rfl rfl rfl rfl rfl rfl rfl rfl rfl rfl (fun _ _ => rfl) (by simp only [List.length_cons, List.length_nil]; omega) (by simp only [List.length_cons, List.length_nil]; omega) (fun a56 c56 ha56 => ?_))
            refine ⟨by first | exact RLe.refl _ | assumption, qS, ?_⟩
            refine WA.take 7 rfl (by kernel_rfl) (by kernel_rfl) (by kernel_rfl) rfl rfl (by decide) (pureV_ok tab_ok rfl (fun _ => rfl)) qS (by first | exact RLe.refl _ | assumption) ?_
            refine WA.effN 8 rfl (by kernel_rfl) rfl rfl (Ef.store 2 tab_ok rfl rfl rfl rfl rfl rfl rfl rfl ?_)
            refine ⟨by first | exact RLe.refl _ | assumption, qS, ?_⟩
            refine WA.done (by kernel_rfl) ?_
            refine WE.blk _ ?_
            refine WE.nxt ?_
            refine W.region _ ?_
            refine WG.run tab_ok 1 rfl ?_
            refine WG.y rfl rfl (by decide) (Yl.sub rfl rfl rfl (fun _ => rfl) (by intro _; constructor <;> (try dsimp only) <;> omega)) ?_
            refine WG.run tab_ok 1 rfl ?_
            refine WG.nil ?_
            refine WE.again ((k, ys ++ [mod (nth xs cn) 4 - 1], cn + 1, a56, c56)) (⟨by simp only [List.length_append, List.length_cons, List.length_nil]; omega, by simp only [List.length_append, List.length_cons, List.length_nil]; omega, fun y hy => by rcases List.mem_append.1 hy with h | h; exact hy3 y h; have := List.mem_singleton.1 h; omega⟩) (by (try dsimp only); omega) ⟨vint (by omega), rfl, rfl, rfl, rfl⟩ (RLe.refl _) qS
          ·
            refine WS.callAt 3 rfl en20 rfl rfl (by decide) (CallOp.mkT rfl rfl rfl rfl) rfl (N_C w0 ha (by constructor <;> decide) _) ?_
            rintro _ _ _ _ - ⟨rfl, rfl, rfl, rfl⟩
            refine ⟨RLe.refl _, qS, ?_⟩
            have hm9 := mod_range (nth xs cn) (show (1 : Int) ≤ 4 by decide)
            refine WA.take 4 rfl (by kernel_rfl) (by kernel_rfl) (by kernel_rfl) rfl rfl (by decide) (Yl.sub rfl rfl rfl (fun _ => rfl) (by intro _; constructor <;> (try dsimp only) <;> omega)) qS (by first | exact RLe.refl _ | assumption) ?_
            refine WA.br2 (i := 1) (j := 5) (by kernel_rfl) ?_ ?_
            ·
              refine' WS.yl rfl rfl rfl (by decide) (Yl.load1 tab_ok rfl rfl rfl (fun _ => rfl) ?r5 rfl ?h5) qS (RLe.refl _) ?_
              case r5 => apply Rd.add; (exact Rd.blk 1 rfl)
              case h5 => rfl
              refine WA.eff 5 rfl (by kernel_rfl) rfl rfl (by decide) (Ef.buildSliceD (enc := encI) (parts := [.tmp 54]) [_] tab_ok rfl rfl rfl rfl rfl rfl rfl rfl (by decide) (by decide) (fun a55 => ?_))
              refine ⟨by first | exact RLe.refl _ | assumption, qS, ?_⟩
              refine WA.eff 6 rfl (by kernel_rfl) rfl rfl (by decide) (Ef.appendD 1 0 tab_ok rfl rfl rfl rfl rfl rfl rfl rfl rfl rfl rfl (fun _ _ => rfl) (by simp only [List.length_cons, List.length_nil]; omega) (by simp only [List.length_cons, List.length_nil]; omega) (fun a56 c56 ha56 => ?_))
              refine ⟨by first | exact RLe.refl _ | assumption, qS, ?_⟩
              refine WA.take 7 rfl (by kernel_rfl) (by kernel_rfl) (by kernel_rfl) rfl rfl (by decide) (pureV_ok tab_ok rfl (fun _ => rfl)) qS (by first | exact RLe.refl _ | assumption) ?_
              refine WA.effN 8 rfl (by kernel_rfl) rfl rfl (Ef.store 2 tab_ok rfl rfl rfl rfl rfl rfl rfl rfl ?_)
              refine ⟨by first | exact RLe.refl _ | assumption, qS, ?_⟩
              refine WA.done (by kernel_rfl) ?_
              refine WE.blk _ ?_
              refine WE.nxt ?_
              refine W.region _ ?_
              refine WG.run tab_ok 1 rfl ?_
              refine WG.y rfl rfl (by decide) (Yl.sub rfl rfl rfl (fun _ => rfl) (by intro _; constructor <;> (try dsimp only) <;> omega)) ?_
              refine WG.run tab_ok 1 rfl ?_
              refine WG.nil ?_
              refine WE.again ((k, ys ++ [mod (nth xs cn) 4 - 1], cn + 1, a56, c56)) (⟨by simp only [List.length_append, List.length_cons, List.length_nil]; omega, by simp only [List.length_append, List.length_cons, List.length_nil]; omega, fun y hy => by rcases List.mem_append.1 hy with h | h; exact hy3 y h; have := List.mem_singleton.1 h; omega⟩) (by (try dsimp only); omega) ⟨vint (by omega), rfl, rfl, rfl, rfl⟩ (RLe.refl _) qS
            ·
              refine WS.eff rfl rfl rfl (by decide) (Ef.buildSliceD (enc := encI) (parts := [.tmp 54]) [_] tab_ok rfl rfl rfl rfl rfl rfl rfl rfl (by decide) (by decide) (fun a55 => ?_))
              refine ⟨by first | exact RLe.refl _ | assumption, qS, ?_⟩
              refine' WA.yl 1 rfl (by kernel_rfl) rfl rfl (by decide) (Yl.load1 tab_ok rfl rfl rfl (fun _ => rfl) ?r6 rfl ?h6) qS (RLe.refl _) ?_
              case r6 => apply Rd.add; (exact Rd.blk 2 rfl)
              case h6 => rfl
              refine WA.eff 6 rfl (by kernel_rfl) rfl rfl (by decide) (Ef.appendD 1 0 tab_ok rfl rfl rfl rfl rfl rfl rfl rfl rfl rfl rfl (fun _ _ => rfl) (by simp only [List.length_cons, List.length_nil]; omega) (by simp only [List.length_cons, List.length_nil]; omega) (fun a56 c56 ha56 => ?_))
              refine ⟨by first | exact RLe.refl _ | assumption, qS, ?_⟩
              refine WA.take 7 rfl (by kernel_rfl) (by kernel_rfl) (by kernel_rfl) rfl rfl (by decide) (pureV_ok tab_ok rfl (fun _ => rfl)) qS (by first | exact RLe.refl _ | assumption) ?_
              refine WA.effN 8 rfl (by kernel_rfl) rfl rfl (Ef.store 2 tab_ok rfl rfl rfl rfl rfl rfl rfl rfl ?_)
              refine ⟨by first | exact RLe.refl _ | assumption, qS, ?_⟩
              refine WA.done (by kernel_rfl) ?_
              refine WE.blk _ ?_
              refine WE.nxt ?_
              refine W.region _ ?_
              refine WG.run tab_ok 1 rfl ?_
              refine WG.y rfl rfl (by decide) (Yl.sub rfl rfl rfl (fun _ => rfl) (by intro _; constructor <;> (try dsimp only) <;> omega)) ?_
              refine WG.run tab_ok 1 rfl ?_
              refine WG.nil ?_
              refine WE.again ((k, ys ++ [mod (nth xs cn) 4 - 1], cn + 1, a56, c56)) (⟨by simp only [List.length_append, List.length_cons, List.length_nil]; omega, by simp only [List.length_append, List.length_cons, List.length_nil]; omega, fun y hy => by rcases List.mem_append.1 hy with h | h; exact hy3 y h; have := List.mem_singleton.1 h; omega⟩) (by (try dsimp only); omega) ⟨vint (by omega), rfl, rfl, rfl, rfl⟩ (RLe.refl _) qS
        · try dsimp only at hc3
          refine W.freeze (enc := encI) (xs := ys) 0 rfl ?_
          intro R1 hR1 hwz
          refine W.exit ?_
          refine WE.then_exit ?_
          refine WE.then_exit ?_
          refine WE.blk_exit ?_
          refine WE.blk _ ?_
          refine WE.nxt ?_
          refine W.seq ?_
          refine W.region _ ?_
          refine' WG.y rfl rfl (by decide) (Yl.load1 tab_ok rfl rfl rfl (fun _ => rfl) ?r7 rfl ?h7) ?_
          case r7 => (exact Rd.blk 0 rfl)
          case h7 => rfl
          refine WL.efN rfl rfl (Ef.store0 1 tab_ok rfl rfl rfl rfl rfl rfl rfl rfl ?_)
          refine WG.nil ?_
          refine WE.nxt ?_
          refine W.ret ?_
          refine WE.retFS (E' := srcE b a cp xs (cn) :: F) qS tab_ok [_] rfl ⟨⟨_, _, _, rfl, rfl, rfl, ((by first | exact Rd.blk 0 rfl | exact Rd.blk 1 rfl | exact Rd.blk 2 rfl | exact Rd.blk 3 rfl | exact Rd.blk 4 rfl | exact Rd.blk 5 rfl)), rfl⟩, trivial⟩ (by first | exact hR1 | exact RLe.refl _) ?_
          exact ⟨_, [], rfl, ⟨(1 + mod (nth xs c) 5), (3 + mod (nth xs (c + 1)) 40), 3, [], ys⟩, none, _, 0, _, _, rfl, rs_nil, hwz, ⟨by dsimp only; omega, rfl, by dsimp only; omega, fun h => by dsimp only at h; omega, fun h => by dsimp only at h; omega, fun h => by dsimp only at h; omega, fun _ => ⟨rfl, hy1, by dsimp only; omega, hy3⟩⟩, rfl, rfl⟩
      · try dsimp only at hc2
        refine W.skip ?_
        refine WE.blk _ ?_
        refine WE.nxt ?_
        refine W.seq ?_
        refine W.region _ ?_
        refine' WG.y rfl rfl (by decide) (Yl.load1 tab_ok rfl rfl rfl (fun _ => rfl) ?r8 rfl ?h8) ?_
        case r8 => (exact Rd.blk 0 rfl)
        case h8 => rfl
        refine WL.efN rfl rfl (Ef.store0 1 tab_ok rfl rfl rfl rfl rfl rfl rfl rfl ?_)
        refine WG.nil ?_
        refine WE.nxt ?_
        refine W.ret ?_
        refine WE.retFS (E' := srcE b a cp xs (c + 1 + 1) :: F) qS tab_ok [_] rfl ⟨⟨_, _, _, rfl, rfl, rfl, ((by first | exact Rd.blk 0 rfl | exact Rd.blk 1 rfl | exact Rd.blk 2 rfl | exact Rd.blk 3 rfl | exact Rd.blk 4 rfl | exact Rd.blk 5 rfl)), rfl⟩, trivial⟩ (by first | exact hR1 | exact RLe.refl _) ?_
        exact ⟨_, [], rfl, ⟨(1 + mod (nth xs c) 5), (3 + mod (nth xs (c + 1)) 40), 3, [], []⟩, none, none, 0, 0, _, rfl, rs_nil, rs_nil, ⟨by dsimp only; omega, rfl, by dsimp only; omega, fun _ => ⟨rfl, rfl⟩, fun h => by dsimp only at h; omega, fun h => by dsimp only at h; omega, fun h => by dsimp only at h; omega⟩, rfl, rfl⟩

end Go.Proofs.YtlgjkmebpnnphaaGreat

/- Chapter 22: the sanity check. No condition. -/
set_option maxRecDepth 4000
set_option linter.unusedSimpArgs false
set_option linter.unusedVariables false
namespace Go.Proofs.YtlgjkmebpnnphaaGreat
open Go Go.RowKit Go.Proofs.YtlgjkmebpnnphaaGreat.K Go.Proofs.YtlgjkmebpnnphaaGreat.M

theorem srv_awake1 : curveL (⟨1, 10, 2, [], []⟩ : Ln) 1 [(⟨[0, 15], 1, 0⟩ : Cv), (⟨[0, 15], 1, 0⟩ : Cv)] [⟨15, 15⟩, ⟨15, 15⟩] = (⟨[0, 0, 0, INF], 1, 0⟩, 0) := by kernel_rfl
theorem srv_awake2 : srvE (⟨1, 10, 2, [], []⟩ : Ln) 4 ([⟨0, 0, 15⟩, ⟨1, 0, 15⟩] : List Pkt) = 0 := by kernel_rfl
theorem srv_awake3 : (srvL (⟨1, 10, 2, [], []⟩ : Ln) 4 ([⟨0, 0, 15⟩, ⟨1, 0, 15⟩] : List Pkt)).1 = [1, 2] := by kernel_rfl
theorem srv_awake4 : chkL (⟨1, 10, 2, [], []⟩ : Ln) = 0 := by kernel_rfl
theorem srv_awake5 : chkL ⟨0, 0, 0, [], []⟩ = 9 := by kernel_rfl

set_option maxHeartbeats 1000000 in
theorem Awake22_C {R : Ro} (w0 : World) (E : List Ent) : K.Fn Tryz.prog 19 [] w0 R E (fun v R' E' => v = .bool true ∧ E.Sublist E') := by
  refine Fn.enter (n := 57) Tryz.func19 rfl rfl (Nat.le_of_ble_eq_true rfl) rfl ?_
  refine W.seq ?_
  refine W.region _ ?_
  refine WG.run tab_ok 1 rfl ?_
  refine WG.nil ?_
  refine WE.nxt ?_
  refine W.seq ?_
  refine W.region _ ?_
  -- build
  refine WG.y rfl rfl (by decide) (Yl.build (parts := [(0, .const (.int .i64 1)), (1, .const (.int .i64 10)), (2, .const (.int .i64 2))]) tab_ok rfl rfl rfl rfl (fun _ => rfl) rfl rfl) ?_
  refine WL.ef rfl rfl (by decide) (Ef.alloc tab_ok rfl rfl (fun b1 => ?_))
  refine WL.efN rfl rfl (Ef.store0 0 tab_ok rfl rfl rfl rfl rfl rfl rfl rfl ?_)
  refine WG.nil ?_
  refine WE.nxt ?_
  refine W.seq ?_
  refine W.region _ ?_
  refine WL.ef rfl rfl (by decide) (Ef.buildSliceD (enc := encI) (parts := [.const (.int .i64 0), .const (.int .i64 15)]) [_, _] tab_ok rfl rfl rfl rfl rfl rfl rfl rfl (by decide) (by decide) (fun a8 => ?_))
  refine WL.freeze (enc := encI) (xs := ([0, 15] : List Int)) 0 rfl ?_
  intro R1 hR1 hc1
  -- build
  refine WG.y rfl rfl (by decide) (Yl.build (parts := [(0, .tmp 8), (1, .const (.int .i64 1))]) tab_ok rfl rfl rfl rfl (fun _ => rfl) rfl rfl) ?_
  refine WL.ef rfl rfl (by decide) (Ef.alloc tab_ok rfl rfl (fun b2 => ?_))
  refine WL.efN rfl rfl (Ef.store0 0 tab_ok rfl rfl rfl rfl rfl rfl rfl rfl ?_)
  refine WG.nil ?_
  refine WE.nxt ?_
  refine W.seq ?_
  refine W.region _ ?_
  refine' WG.y rfl rfl (by decide) (Yl.load1 tab_ok rfl rfl rfl (fun _ => rfl) ?r1 rfl ?h1) ?_
  case r1 => (exact Rd.blk 1 rfl)
  case h1 => rfl
  refine' WG.y rfl rfl (by decide) (Yl.load1 tab_ok rfl rfl rfl (fun _ => rfl) ?r2 rfl ?h2) ?_
  case r2 => (exact Rd.blk 0 rfl)
  case h2 => rfl
  refine' WG.y rfl rfl (by decide) (Yl.load1 tab_ok rfl rfl rfl (fun _ => rfl) ?r3 rfl ?h3) ?_
  case r3 => (exact Rd.blk 0 rfl)
  case h3 => rfl
  refine WL.ef rfl rfl (by decide) (Ef.buildSlice (parts := [.tmp 12, .tmp 13]) tab_ok rfl rfl rfl rfl rfl rfl rfl (by decide) (by decide) (fun a14 => ?_))
  refine WL.freeze (enc := encC) (xs := ([⟨some ⟨a8, 0, none⟩, 2, (⟨[0, 15], 1, 0⟩ : Cv)⟩, ⟨some ⟨a8, 0, none⟩, 2, (⟨[0, 15], 1, 0⟩ : Cv)⟩] : List CvS)) 0 rfl ?_
  intro R2 hR2 hlc
  -- build
  refine WG.y rfl rfl (by decide) (Yl.build (parts := [(0, .const (.int .i64 15)), (1, .const (.int .i64 15))]) tab_ok rfl rfl rfl rfl (fun _ => rfl) rfl rfl) ?_
  -- build
  refine WG.y rfl rfl (by decide) (Yl.build (parts := [(0, .const (.int .i64 15)), (1, .const (.int .i64 15))]) tab_ok rfl rfl rfl rfl (fun _ => rfl) rfl rfl) ?_
  refine WL.ef rfl rfl (by decide) (Ef.buildSliceD (enc := encZ) (parts := [.tmp 15, .tmp 16]) [⟨_, _⟩, ⟨_, _⟩] tab_ok rfl rfl rfl rfl rfl rfl rfl rfl (by decide) (by decide) (fun a17 => ?_))
  refine WL.freeze (enc := encZ) (xs := ([⟨15, 15⟩, ⟨15, 15⟩] : List Sz)) 0 rfl ?_
  intro R3 hR3 hzz
  have hlc := hlc.mono hR3
  have hc1 := hc1.mono (hR2.trans hR3)
  have hls : ∀ x ∈ ([⟨some ⟨a8, 0, none⟩, 2, (⟨[0, 15], 1, 0⟩ : Cv)⟩, ⟨some ⟨a8, 0, none⟩, 2, (⟨[0, 15], 1, 0⟩ : Cv)⟩] : List CvS), RS R3 1 encI x.a x.cv.vals ∧ x.cv.vals.length ≤ 100000 := fun x hx => by
    simp only [List.mem_cons, List.not_mem_nil, or_false] at hx
    rcases hx with rfl | rfl
    · exact ⟨hc1, by show 2 ≤ 100000; decide⟩
    · exact ⟨hc1, by show 2 ≤ 100000; decide⟩
  refine WL.call en36 rfl rfl (by decide) (CallOp.mkT rfl rfl rfl rfl) (CurveSrv1_C (L := (⟨1, 10, 2, [], []⟩ : Ln)) (ls := ([⟨some ⟨a8, 0, none⟩, 2, (⟨[0, 15], 1, 0⟩ : Cv)⟩, ⟨some ⟨a8, 0, none⟩, 2, (⟨[0, 15], 1, 0⟩ : Cv)⟩] : List CvS)) (z := ([⟨15, 15⟩, ⟨15, 15⟩] : List Sz)) (cls := 1) (aw := none) (at_ := none) (lw := 0) (cw := 0) (lt := 0) (ct := 0) rs_nil rfl rs_nil rfl hlc rfl (Nat.le_refl 2) hls hzz rfl (Nat.le_refl 2) rfl w0 _) ?_
  rintro _ R4 E3 hR4 ⟨f1, fc1, rfl, hf1, hsub2⟩
  rw [show List.map CvS.cv ([⟨some ⟨a8, 0, none⟩, 2, (⟨[0, 15], 1, 0⟩ : Cv)⟩, ⟨some ⟨a8, 0, none⟩, 2, (⟨[0, 15], 1, 0⟩ : Cv)⟩] : List CvS) = [(⟨[0, 15], 1, 0⟩ : Cv), (⟨[0, 15], 1, 0⟩ : Cv)] from rfl, srv_awake1] at hf1 ⊢
  refine WL.subE hsub2 ?_
  unfold cvV
  refine WG.run tab_ok 3 rfl ?_
  refine WL.ef rfl rfl (by decide) (Ef.alloc tab_ok rfl rfl (fun b3 => ?_))
  refine WL.efN rfl rfl (Ef.store0 0 tab_ok rfl rfl rfl rfl rfl rfl rfl rfl ?_)
  refine WG.run tab_ok 1 rfl ?_
  refine WG.nil ?_
  refine WE.nxt ?_
  refine W.seq ?_
  refine W.region _ ?_
  refine' WG.y rfl rfl (by decide) (Yl.load1 tab_ok rfl rfl rfl (fun _ => rfl) ?r4 rfl ?h4) ?_
  case r4 => (exact Rd.blk 2 rfl)
  case h4 => rfl
  -- build
  refine WG.y rfl rfl (by decide) (Yl.build (parts := [(2, .const (.int .i64 15))]) tab_ok rfl rfl rfl rfl (fun _ => rfl) rfl rfl) ?_
  -- build
  refine WG.y rfl rfl (by decide) (Yl.build (parts := [(0, .const (.int .i64 1)), (2, .const (.int .i64 15))]) tab_ok rfl rfl rfl rfl (fun _ => rfl) rfl rfl) ?_
  refine WL.ef rfl rfl (by decide) (Ef.buildSliceD (enc := encP) (parts := [.tmp 23, .tmp 24]) [⟨_, _, _⟩, ⟨_, _, _⟩] tab_ok rfl rfl rfl rfl rfl rfl rfl rfl (by decide) (by decide) (fun a25 => ?_))
  refine WL.freeze (enc := encP) (xs := ([⟨0, 0, 15⟩, ⟨1, 0, 15⟩] : List Pkt)) 0 rfl ?_
  intro R5 hR5 hp
  have hf1 := hf1.mono hR5
  refine WL.call en16 rfl rfl (by decide) (CallOp.mkT rfl rfl rfl rfl) (RunSrv_C (L := (⟨1, 10, 2, [], []⟩ : Ln)) (ps := ([⟨0, 0, 15⟩, ⟨1, 0, 15⟩] : List Pkt)) (ticks := 4) (aw := none) (at_ := none) (lw := 0) (cw := 0) (lt := 0) (ct := 0) hp rfl rs_nil rfl rs_nil rfl w0 _) ?_
  rintro _ R6 E4 hR6 ⟨da, oa, dc, oc, rows, rfl, hd, ho, hrw, hrx, hcp, hsub⟩
  refine WL.subE hsub ?_
  rw [srv_awake3] at hd ⊢
  rw [srv_awake2]
  have hf1 := hf1.mono hR6
  refine WG.run tab_ok 3 rfl ?_
  refine WL.ef rfl rfl (by decide) (Ef.alloc tab_ok rfl rfl (fun b5 => ?_))
  refine WL.efN rfl rfl (Ef.store0 0 tab_ok rfl rfl rfl rfl rfl rfl rfl rfl ?_)
  refine WG.run tab_ok 1 rfl ?_
  refine WG.nil ?_
  refine WE.nxt ?_
  refine W.seq ?_
  refine W.region _ ?_
  refine' WG.y rfl rfl (by decide) (Yl.load1 tab_ok rfl rfl rfl (fun _ => rfl) ?r5 rfl ?h5) ?_
  case r5 => (exact Rd.blk 3 rfl)
  case h5 => rfl
  refine WG.callV (v := .int .i64 0) en26 rfl rfl (by decide) (CallOp.mk' rfl rfl rfl rfl) (fun _ => rfl) (fun hg => by
    have h := ChkSrv_V (R := R6) (L := (⟨1, 10, 2, [], []⟩ : Ln)) (aw := none) (at_ := none) (cw := 0) (ct := 0) rs_nil rfl rs_nil rfl
    rw [srv_awake4] at h
    exact h) ?_
  refine WG.run tab_ok 2 rfl ?_
  refine WL.guardT rfl (by rfl) ?_
  refine WG.y rfl rfl (by decide) (pureV_ok tab_ok rfl (fun _ => rfl)) ?_
  refine WL.guardT rfl (by rfl) ?_
  refine WG.y rfl rfl (by decide) (pureV_ok tab_ok rfl (fun _ => rfl)) ?_
  refine WG.y rfl rfl (by decide) (Yl.pand rfl rfl rfl (fun _ => rfl) (by intro h1 h2; simp_all <;> omega)) ?_
  refine WG.run tab_ok 1 rfl ?_
  refine WL.guardT rfl (by rfl) ?_
  refine' WG.y rfl rfl (by decide) (Yl.load1 tab_ok rfl rfl rfl (fun _ => rfl) ?r6 rfl ?h6) ?_
  case r6 => (exact Rd.blk 1 rfl)
  case h6 => rfl
  refine WL.guardT rfl (by rfl) ?_
  refine WL.ef rfl rfl (by decide) (Ef.buildSliceD (enc := encI) (parts := [.const (.int .i64 0), .const (.int .i64 0), .const (.int .i64 0), .const (.int .i64 4611686018427387904)]) [_, _, _, _] tab_ok rfl rfl rfl rfl rfl rfl rfl rfl (by decide) (by decide) (fun a38 => ?_))
  refine WL.freeze (enc := encI) (xs := ([0, 0, 0, 4611686018427387904] : List Int)) 0 rfl ?_
  intro R7 hR7 hi1
  have hd := hd.mono hR7
  have hf1 := hf1.mono hR7
  refine WL.guardT rfl (by rfl) ?_
  -- build
  refine WG.y rfl rfl (by decide) (Yl.build (parts := [(0, .tmp 38), (1, .const (.int .i64 1))]) tab_ok rfl rfl rfl rfl (fun _ => rfl) rfl rfl) ?_
  refine WL.guardT rfl (by rfl) ?_
  refine WG.callV (v := .bool true) en43 rfl rfl (by decide) (CallOp.mk' rfl rfl rfl rfl) (fun _ => rfl) (fun hg => by
    have h := Same02_V (ca := fc1) (cb := 4) (p1 := 1) (i1 := 0) (p2 := 1) (i2 := 0) hf1 hi1
    rw [decide_eq_true ⟨rfl, rfl, rfl⟩] at h
    exact h) ?_
  refine WG.y rfl rfl (by decide) (Yl.pand rfl rfl rfl (fun _ => rfl) (by intro h1 h2; simp_all <;> omega)) ?_
  refine WG.run tab_ok 1 rfl ?_
  refine WL.guardT rfl (by rfl) ?_
  refine WG.y rfl rfl (by decide) (pureV_ok tab_ok rfl (fun _ => rfl)) ?_
  refine WL.guardT rfl (by rfl) ?_
  refine WG.y rfl rfl (by decide) (pureV_ok tab_ok rfl (fun _ => rfl)) ?_
  refine WG.y rfl rfl (by decide) (Yl.pand rfl rfl rfl (fun _ => rfl) (by intro h1 h2; simp_all <;> omega)) ?_
  refine WG.run tab_ok 1 rfl ?_
  refine WL.guardT rfl (by rfl) ?_
  refine WG.y rfl rfl (by decide) (pureV_ok tab_ok rfl (fun _ => rfl)) ?_
  refine WL.guardT rfl (by rfl) ?_
  refine' WG.y rfl rfl (by decide) (Yl.load1 tab_ok rfl rfl rfl (fun _ => rfl) ?r7 rfl ?h7) ?_
  case r7 => apply Rd.add; (exact Rd.blk 0 rfl)
  case h7 => rfl
  refine WL.guardT rfl (by rfl) ?_
  refine WL.ef rfl rfl (by decide) (Ef.buildSliceD (enc := encI) (parts := [.const (.int .i64 1), .const (.int .i64 2)]) [_, _] tab_ok rfl rfl rfl rfl rfl rfl rfl rfl (by decide) (by decide) (fun a49 => ?_))
  refine WL.freeze (enc := encI) (xs := ([1, 2] : List Int)) 0 rfl ?_
  intro R8 hR8 hl1
  have hd := hd.mono hR8
  refine WL.guardT rfl (by rfl) ?_
  refine WG.callV (v := .bool true) en21 rfl rfl (by decide) (CallOp.mk' rfl rfl rfl rfl) (fun _ => rfl) (fun hg => by
    have h := Ints_V (ca := dc) (cb := 2) hd hl1
    exact h) ?_
  refine WG.y rfl rfl (by decide) (Yl.pand rfl rfl rfl (fun _ => rfl) (by intro h1 h2; simp_all <;> omega)) ?_
  refine WG.run tab_ok 1 rfl ?_
  refine WL.guardT rfl (by rfl) ?_
  -- build
  refine WG.y rfl rfl (by decide) (Yl.build (parts := []) tab_ok rfl rfl rfl rfl (fun _ => rfl) rfl rfl) ?_
  refine WL.guardT rfl (by rfl) ?_
  refine WG.callV (v := .int .i64 9) en26 rfl rfl (by decide) (CallOp.mk' rfl rfl rfl rfl) (fun _ => rfl) (fun hg => by
    have h := ChkSrv_V (R := R8) (L := (⟨0, 0, 0, [], []⟩ : Ln)) (aw := none) (at_ := none) (cw := 0) (ct := 0) rs_nil rfl rs_nil rfl
    rw [srv_awake5] at h
    exact h) ?_
  refine WL.guardT rfl (by rfl) ?_
  refine WG.y rfl rfl (by decide) (pureV_ok tab_ok rfl (fun _ => rfl)) ?_
  refine WG.y rfl rfl (by decide) (Yl.pand rfl rfl rfl (fun _ => rfl) (by intro h1 h2; simp_all <;> omega)) ?_
  refine WG.run tab_ok 1 rfl ?_
  refine WG.nil ?_
  refine WE.nxt ?_
  refine W.ret ?_
  refine WE.retF tab_ok [_] rfl ⟨rfl, trivial⟩ (hR1.trans (hR2.trans (hR3.trans (hR4.trans (hR5.trans (hR6.trans (hR7.trans hR8))))))) ?_
  exact ⟨rfl, qS⟩

end Go.Proofs.YtlgjkmebpnnphaaGreat

/- Chapter 22: ServerForgets. No condition. -/
set_option maxRecDepth 4000
set_option linter.unusedSimpArgs false
set_option linter.unusedVariables false
namespace Go.Proofs.YtlgjkmebpnnphaaGreat
open Go Go.RowKit Go.Proofs.YtlgjkmebpnnphaaGreat.K Go.Proofs.YtlgjkmebpnnphaaGreat.M

set_option maxHeartbeats 1000000 in
theorem ServerForgets_F {R : Ro} {a : Option Addr} {c : Nat} {xs : List Int} (ha : RS R 1 encI a xs) (hc : xs.length ≤ c) (w0 : World) : K.Fn Tryz.prog 4 [.slice a xs.length c] w0 R [] (fun v _ _ => v = .bool true) := by
  refine Fn.enter (n := 112) Tryz.func4 rfl rfl (Nat.le_of_ble_eq_true rfl) rfl ?_
  refine W.seq ?_
  refine W.region _ ?_
  refine WG.run tab_ok 1 rfl ?_
  refine WG.nil ?_
  refine WE.nxt ?_
  refine W.seq ?_
  refine W.region _ ?_
  refine WG.run tab_ok 1 rfl ?_
  refine WL.call en13 rfl rfl (by decide) (CallOp.mkT rfl rfl rfl rfl) (New_C w0 _ hc) ?_
  rintro _ _ _ - ⟨b, rfl, rfl, rfl⟩
  have hz := ha.take 2000
  refine WG.run tab_ok 1 rfl ?_
  refine WG.nil ?_
  refine WE.nxt ?_
  refine W.seq ?_
  refine W.region _ ?_
  refine WG.run tab_ok 1 rfl ?_
  refine WL.callAt 0 en14 rfl rfl (by decide) (CallOp.mkT rfl rfl rfl rfl) rfl (Draw_C w0 hz _) ?_
  rintro _ R0 _ _ hR0 ⟨L, aw, at_, cw, ct, cn, rfl, hw, ht, hL, rfl, rfl⟩
  have hz := hz.mono hR0
  refine WG.run tab_ok 1 rfl ?_
  refine WL.callAt 0 en15 rfl rfl (by decide) (CallOp.mkT rfl rfl rfl rfl) rfl (Traffic_C w0 hz (by decide) (by constructor <;> decide) (by decide) _) ?_
  rintro _ _ _ _ - ⟨a2, c2, rfl, rfl, rfl, rfl⟩
  refine WL.freeze (enc := encP) (xs := (traffic (xs.take 2000) 12 3 40 cn)) 0 rfl ?_
  intro R1 hR1 hp
  have hz := hz.mono hR1
  have hw := hw.mono hR1
  have ht := ht.mono hR1
  have hok := traffic_ok (xs.take 2000) (n := 12) (flows := 3) (most := 40) (by decide) (by decide) (by decide) cn
  have hat := traffic_at (xs.take 2000) (n := 12) (flows := 3) (most := 40) (by decide) (by decide) (by decide) cn
  have hlt := traffic_len (xs.take 2000) (n := 12) (flows := 3) (most := 40) (by decide) cn
  refine WG.run tab_ok 1 rfl ?_
  refine WL.callAt 0 en20 rfl rfl (by decide) (CallOp.mkT rfl rfl rfl rfl) rfl (N_C w0 hz (by constructor <;> decide) _) ?_
  rintro _ _ _ _ - ⟨rfl, rfl, rfl, rfl⟩
  have hm40 := mod_range (nth (xs.take 2000) ((cn + 1 + 3 * trafficK (xs.take 2000) 12 cn))) (show (1 : Int) ≤ 40 by decide)
  refine WL.ef rfl rfl (by decide) (Ef.alloc tab_ok rfl rfl (fun b4 => ?_))
  refine WL.efN rfl rfl (Ef.store0 0 tab_ok rfl rfl rfl rfl rfl rfl rfl rfl ?_)
  refine WG.run tab_ok 2 rfl ?_
  refine WG.nil ?_
  refine WE.nxt ?_
  refine W.sub (env' := [(3, true, .pointer (some ⟨b, 0, none⟩)), (4, true, .pointer (some ⟨b4, 0, none⟩)), (5, true, .slice a2 (traffic (xs.take 2000) 12 3 40 cn).length c2), (6, true, .int .i64 (mod (nth (xs.take 2000) (cn + 1 + 3 * trafficK (xs.take 2000) 12 cn)) 40))]) (R' := R1) (E' := [.blk b4 [.int .i64 L.kind, .int .i64 L.cap, .int .i64 L.n, .slice aw L.w.length cw, .slice at_ L.tb.length ct], srcE b a c (xs.take 2000) ((cn + 1 + 3 * trafficK (xs.take 2000) 12 cn) + 1)]) ⟨rfl, rfl, rfl, rfl, rfl⟩ (RLe.refl _) qS ?_
  have hN : 0 ≤ (mod (nth (xs.take 2000) (cn + 1 + 3 * trafficK (xs.take 2000) 12 cn)) 40) ∧ (mod (nth (xs.take 2000) (cn + 1 + 3 * trafficK (xs.take 2000) 12 cn)) 40) < 40 := by omega
  generalize (mod (nth (xs.take 2000) (cn + 1 + 3 * trafficK (xs.take 2000) 12 cn)) 40) = z at hN ⊢
  generalize (cn + 1 + 3 * trafficK (xs.take 2000) 12 cn) + 1 = cq
  generalize (traffic (xs.take 2000) 12 3 40 cn) = ps at hp hok hat hlt ⊢
  have hla := hp.len
  have hcap1 : 1 ≤ L.cap ∧ L.cap ≤ 42 := by have := hL.cap; omega
  have hp3 : P3 ps := ⟨fun p hp => by have := hat p hp; omega, fun p hp => by have := hat p hp; omega, hok.sorted, fun p hp => by have := hat p hp; omega⟩
  have hn3 := hL.n
  have hcap := hL.cap
  obtain ⟨n, rfl⟩ : ∃ n : Nat, z = n := ⟨z.toNat, by omega⟩
  obtain ⟨m, hm, hmi⟩ := M.early (n := (n : Int)) ps hok.sorted
  refine W.seq ?_
  refine W.region _ ?_
  refine WG.run tab_ok 1 rfl ?_
  refine WG.nil ?_
  refine WE.nxt ?_
  refine W.seq ?_
  refine W.nil 42 3 (by decide) ?_
  refine W.seq ?_
  refine W.region _ ?_
  refine WG.run tab_ok 3 rfl ?_
  refine WG.nil ?_
  refine WE.nxt ?_
  refine W.block ?_
  refine W.loopK (β := Nat × List Pkt × Option Addr × Nat) (fun (j, es, a9, c9) => j ≤ ps.length ∧ es = ps.take (min j m)) (fun (j, es, a9, c9) => [(7, true, .slice a9 es.length c9), (25, true, .int .i64 (j : Int))]) [3, 4, 5, 6, 23, 24] [_, _, _, _, _, _] [] _ rfl (fun (j, es, a9, c9) => [(0, .sl 42 3 a9 c9 (es.map encP))]) (fun (j, es, a9, c9) => ps.length - j) ((0, [], none, 0)) (⟨Nat.zero_le _, by simp⟩) ⟨rfl, rfl, rfl, rfl, rfl, rfl, rfl, rfl, rfl⟩ qS ?_
  intro zz hst
  obtain ⟨j, es, a9, c9⟩ := zz
  dsimp only [zipE, setAll, List.cons_append, List.nil_append, List.set_cons_zero, List.set_cons_succ] at hst ⊢
  obtain ⟨hj, hes⟩ := hst
  have hel : es.length ≤ ps.length := by rw [hes, List.length_take]; omega
  refine W.seq ?_
  refine W.region _ ?_
  refine WG.run tab_ok 1 rfl ?_
  refine WG.nil ?_
  refine WE.nxt ?_
  refine W.seq ?_
  refine W.condD rfl (fun hc0 => ?_) (fun hc0 => ?_)
  · try dsimp only at hc0
    refine W.skip ?_
    refine WE.nxt ?_
    refine W.seq ?_
    refine W.block ?_
    refine W.seq ?_
    refine W.region _ ?_
    refine WG.y rfl rfl (by decide) (Yl.indexN tab_ok rfl rfl rfl rfl rfl rfl (fun _ => rfl) (by intro _; (try dsimp only) <;> omega) (by intro _; first | exact (fun w0 w hm hl => RS.has ho1 w0 w hm (by omega)) | exact (fun w0 w hm hl => RS.has ho2 w0 w hm (by omega)) | exact fun _ _ _ _ => rfl | exact RS.has (by assumption) | exact fun _ _ _ _ => (by assumption) | exact HasMem.ownD 0 rfl | exact HasMem.ownD 1 rfl | exact HasMem.ownD 2 rfl | exact HasMem.ownD 3 rfl | exact HasMem.ownD 4 rfl | exact HasMem.ownD 5 rfl)) ?_
    refine' WG.y rfl rfl (by decide) (Yl.load1 tab_ok rfl rfl rfl (fun _ => rfl) ?r1 rfl ?h1) ?_
    case r1 => ((apply RS.rdD; assumption; ((try dsimp only) <;> omega)))
    case h1 => rfl
    refine WL.ef rfl rfl (by decide) (Ef.alloc tab_ok rfl rfl (fun b9 => ?_))
    refine WL.efN rfl rfl (Ef.store0 0 tab_ok rfl rfl rfl rfl rfl rfl rfl rfl ?_)
    refine WG.nil ?_
    refine WE.nxt ?_
    refine W.seq ?_
    refine W.region _ ?_
    refine WG.run tab_ok 1 rfl ?_
    refine' WG.y rfl rfl (by decide) (Yl.load1 tab_ok rfl rfl rfl (fun _ => rfl) ?r2 rfl ?h2) ?_
    case r2 => apply Rd.add; (exact Rd.blk 0 rfl)
    case h2 => rfl
    refine WG.run tab_ok 2 rfl ?_
    refine WG.nil ?_
    refine WE.nxt ?_
    refine W.condD rfl (fun hc1 => ?_) (fun hc1 => ?_)
    · try dsimp only at hc1
      have hjm := (hmi j (by omega)).1 hc1
      refine W.region _ ?_
      refine WG.run tab_ok 1 rfl ?_
      refine' WG.y rfl rfl (by decide) (Yl.load1 tab_ok rfl rfl rfl (fun _ => rfl) ?r3 rfl ?h3) ?_
      case r3 => (exact Rd.blk 0 rfl)
      case h3 => rfl
      refine WL.ef rfl rfl (by decide) (Ef.buildSliceD (enc := encP) (parts := [.tmp 34]) [⟨_, _, _⟩] tab_ok rfl rfl rfl rfl rfl rfl rfl rfl (by decide) (by decide) (fun a35 => ?_))
      refine WL.ef rfl rfl (by decide) (Ef.appendD 2 0 tab_ok rfl rfl rfl rfl rfl rfl rfl rfl rfl rfl rfl (fun _ _ => rfl) (by simp only [List.length_cons, List.length_nil]; omega) (by simp only [List.length_cons, List.length_nil]; omega) (fun a36 c36 ha36 => ?_))
      refine WG.run tab_ok 1 rfl ?_
      refine WG.nil ?_
      refine WE.blk _ ?_
      refine WE.nxt ?_
      refine W.region _ ?_
      refine WG.y rfl rfl (by decide) (Yl.add rfl rfl rfl (fun _ => rfl) (by intro _; constructor <;> (try dsimp only) <;> omega)) ?_
      refine WG.run tab_ok 1 rfl ?_
      refine WG.nil ?_
      refine WE.again ((j + 1, es ++ [nth ps j], a36, c36)) (⟨by dsimp only; omega, by dsimp only; rw [Nat.min_eq_left (show j + 1 ≤ m by omega), take_nth (by omega), hes, Nat.min_eq_left (by omega)]⟩) (by (try dsimp only); omega) ⟨rfl, rfl, rfl, rfl, rfl, rfl, rfl, rfl, rfl⟩ (RLe.refl _) qS
    · try dsimp only at hc1
      have hjm : ¬ j < m := fun h => hc1 ((hmi j (by omega)).2 h)
      refine W.skip ?_
      refine WE.blk _ ?_
      refine WE.nxt ?_
      refine W.region _ ?_
      refine WG.y rfl rfl (by decide) (Yl.add rfl rfl rfl (fun _ => rfl) (by intro _; constructor <;> (try dsimp only) <;> omega)) ?_
      refine WG.run tab_ok 1 rfl ?_
      refine WG.nil ?_
      refine WE.again ((j + 1, es, a9, c9)) (⟨by dsimp only; omega, by dsimp only; rw [hes]; congr 1; omega⟩) (by (try dsimp only); omega) ⟨rfl, rfl, rfl, rfl, rfl, rfl, rfl, rfl, rfl⟩ (RLe.refl _) qS
  · try dsimp only at hc0
    have hjl : j = ps.length := by omega
    rw [hjl, Nat.min_eq_right hm] at hes
    subst hes
    refine W.exit ?_
    refine WE.then_exit ?_
    refine WE.then_exit ?_
    refine WE.blk_exit ?_
    refine WE.nxt ?_
    refine W.freeze (enc := encP) (xs := ps.take m) 0 rfl ?_
    intro R2 hR2 hq
    have hp := hp.mono hR2
    have hw := hw.mono hR2
    have ht := ht.mono hR2
    have hz := hz.mono hR2
    have hml : (ps.take m).length = m := by simp; omega
    have hokq : Ok (ps.take m) := ⟨by have := hok.len; omega, fun p hp => hok.each p (List.mem_of_mem_take hp), hok.sorted.sublist (List.take_sublist _ _)⟩
    refine W.seq ?_
    refine W.region _ ?_
    refine' WG.y rfl rfl (by decide) (Yl.load1 tab_ok rfl rfl rfl (fun _ => rfl) ?r4 rfl ?h4) ?_
    case r4 => (exact Rd.blk 0 rfl)
    case h4 => rfl
    refine WG.run tab_ok 2 rfl ?_
    refine WL.call en16 rfl rfl (by decide) (CallOp.mkT rfl rfl rfl rfl) (RunSrv_C (L := L) (ps := ps) (ticks := (n : Int)) hp rfl hw rfl ht rfl w0 _) ?_
    rintro _ R3 E2 hR3 ⟨da1, oa1, dc1, oc1, rows1, rfl, hd1, ho1, hrw1, hrx1, hcp1, hsub1⟩
    refine WL.subE hsub1 ?_
    obtain ⟨ee1, ev1⟩ := fine_run (L := L) (ps := ps) hL.chk hn3 hok (fun p hp => (hat p hp).2.1) (ticks := (n : Int)) (t := n) rfl ⟨by omega, by omega⟩
    rw [ev1] at hd1 hrx1 ⊢
    rw [ee1]
    clear ee1 ev1
    have hq := hq.mono hR3
    have hw := hw.mono hR3
    have ht := ht.mono hR3
    have hz := hz.mono hR3
    obtain ⟨q1_1, q2_1, q3_1, q4_1⟩ := send_rows (L := L) (t := n) hL hp3 (by have := hok.len; omega)
    have hrl1 : rows1.length = 3 := by rw [← q2_1, ← hrx1, List.length_map]
    rw [hrl1, q1_1]
    have hx1 : ∀ r ∈ rows1, r.xs.length = n + 1 := fun r hr => (q3_1 r.xs (by rw [← hrx1]; exact List.mem_map_of_mem hr)).1
    generalize hq1 : sendL L n ps = Q1 at hd1 hrx1 q1_1 q2_1 q3_1 q4_1 ⊢
    refine WG.run tab_ok 3 rfl ?_
    refine WL.ef rfl rfl (by decide) (Ef.alloc tab_ok rfl rfl (fun b10 => ?_))
    refine WL.efN rfl rfl (Ef.store0 0 tab_ok rfl rfl rfl rfl rfl rfl rfl rfl ?_)
    refine WG.run tab_ok 1 rfl ?_
    refine WG.nil ?_
    refine WE.nxt ?_
    refine W.seq ?_
    refine W.regionH _ (ES := [.blk b10 [.slice da1 ps.length dc1, .slice oa1 3 oc1], .blk b4 [.int .i64 L.kind, .int .i64 L.cap, .int .i64 L.n, .slice aw L.w.length cw, .slice at_ L.tb.length ct]]) mixed ?_
    refine' WA.take 0 rfl (by kernel_rfl) (by kernel_rfl) (by kernel_rfl) rfl rfl (by decide) (Yl.load1 tab_ok rfl rfl rfl (fun _ => rfl) ?r5 rfl ?h5) qS (by first | exact RLe.refl _ | assumption) ?_
    case r5 => (exact Rd.blk 1 rfl)
    case h5 => rfl
    refine WA.take 1 rfl (by kernel_rfl) (by kernel_rfl) (by kernel_rfl) rfl rfl (by decide) (pureV_ok tab_ok rfl (fun _ => rfl)) qS (by first | exact RLe.refl _ | assumption) ?_
    refine WA.take 2 rfl (by kernel_rfl) (by kernel_rfl) (by kernel_rfl) rfl rfl (by decide) (pureV_ok tab_ok rfl (fun _ => rfl)) qS (by first | exact RLe.refl _ | assumption) ?_
    refine WA.take 3 rfl (by kernel_rfl) (by kernel_rfl) (by kernel_rfl) rfl rfl (by decide) (pureV_ok tab_ok rfl (fun _ => rfl)) qS (by first | exact RLe.refl _ | assumption) ?_
    refine WA.br2 (i := 4) (j := 10) (by kernel_rfl) ?_ ?_
    ·
      refine WS.callAt 2 rfl en20 rfl rfl (by decide) (CallOp.mkT rfl rfl rfl rfl) rfl (N_C w0 hz (by constructor <;> decide) _) ?_
      rintro _ _ _ _ - ⟨rfl, rfl, rfl, rfl⟩
      refine ⟨RLe.refl _, qS, ?_⟩
      have hk := mod_range (nth (xs.take 2000) cq) (show (1 : Int) ≤ 20 by decide)
      obtain ⟨k, hkk⟩ : ∃ k : Nat, mod (nth (xs.take 2000) cq) 20 = k := ⟨(mod (nth (xs.take 2000) cq) 20).toNat, by omega⟩
      rw [hkk] at hk ⊢
      refine WA.take 5 rfl (by kernel_rfl) (by kernel_rfl) (by kernel_rfl) rfl rfl (by decide) (Yl.add rfl rfl rfl (fun _ => rfl) (by intro _; constructor <;> (try dsimp only) <;> omega)) qS (by first | exact RLe.refl _ | assumption) ?_
      refine WA.br2 (i := 6) (j := 10) (by kernel_rfl) ?_ ?_
      ·
        refine WS.callG rfl en16 rfl (by first | rfl | decide) rfl (by decide) (CallOp.mkT rfl rfl rfl rfl) (RunSrv_C (L := L) (ps := (ps.take m)) (ticks := ((n : Int) + (k : Int))) hq rfl hw rfl ht rfl w0 _) ?_
        rintro _ R4 E2 hR4 ⟨da2, oa2, dc2, oc2, rows2, rfl, hd2, ho2, hrw2, hrx2, hcp2, hsub2⟩
        refine ⟨by first | assumption | exact RLe.refl _, List.Sublist.trans qS hsub2, ?_⟩
        refine WA.subE hsub2 ?_
        obtain ⟨ee2, ev2⟩ := fine_run (L := L) (ps := (ps.take m)) hL.chk hn3 hokq (fun p hp => (hat p (List.mem_of_mem_take hp)).2.1) (ticks := ((n : Int) + (k : Int))) (t := (n + k)) (by omega) ⟨by omega, by omega⟩
        rw [ev2] at hd2 hrx2 ⊢
        rw [ee2]
        clear ee2 ev2
        have ho1 := ho1.mono hR4
        obtain ⟨q1_2, q2_2, q3_2, q4_2⟩ := send_rows (L := L) (t := (n + k)) hL (hp3.take (m := m)) (by have := hok.len; rw [List.length_take]; omega)
        have hrl2 : rows2.length = 3 := by rw [← q2_2, ← hrx2, List.length_map]
        rw [hrl2, q1_2]
        have hx2 : ∀ r ∈ rows2, r.xs.length = (n + k) + 1 := fun r hr => (q3_2 r.xs (by rw [← hrx2]; exact List.mem_map_of_mem hr)).1
        generalize hq2 : sendL L (n + k) (ps.take m) = Q2 at hd2 hrx2 q1_2 q2_2 q3_2 q4_2 ⊢
        have hrw1 : ∀ r ∈ rows1, RS R4 1 encI r.a r.xs := fun r hr => (hrw1 r hr).mono hR4
        have hfo := early_sent (n := n) hL hp3 hm (fun i h1 h2 => by have := (hmi i h2).1; omega)
        have hsame : ∀ i, i < 3 → (nth Q2.2 i).take (n + 1) = nth Q1.2 i := fun i hi => by
          rw [← hq2, ← hq1, ← hfo]
          exact more_sent hL (hp3.take (m := m)) (by rw [List.length_take]; have := hok.len; omega) hi
        refine WA.take 7 rfl (by kernel_rfl) (by kernel_rfl) (by kernel_rfl) rfl rfl (by decide) (pureV_ok tab_ok rfl (fun _ => rfl)) qS (by first | exact RLe.refl _ | assumption) ?_
        refine WA.take 8 rfl (by kernel_rfl) (by kernel_rfl) (by kernel_rfl) rfl rfl (by decide) (pureV_ok tab_ok rfl (fun _ => rfl)) qS (by first | exact RLe.refl _ | assumption) ?_
        refine WA.take 9 rfl (by kernel_rfl) (by kernel_rfl) (by kernel_rfl) rfl rfl (by decide) (pureV_ok tab_ok rfl (fun _ => rfl)) qS (by first | exact RLe.refl _ | assumption) ?_
        refine WA.eff 10 rfl (by kernel_rfl) rfl rfl (by decide) (Ef.alloc tab_ok rfl rfl (fun b12 => ?_))
        refine ⟨by first | exact RLe.refl _ | assumption, qS, ?_⟩
        refine WA.effN 11 rfl (by kernel_rfl) rfl rfl (Ef.store0 0 tab_ok rfl rfl rfl rfl rfl rfl rfl rfl ?_)
        refine ⟨by first | exact RLe.refl _ | assumption, qS, ?_⟩
        refine WA.take 12 rfl (by kernel_rfl) (by kernel_rfl) (by kernel_rfl) rfl rfl (by decide) (pureV_ok tab_ok rfl (fun _ => rfl)) qS (by first | exact RLe.refl _ | assumption) ?_
        refine WA.done (by kernel_rfl) ?_
        refine WE.nxt ?_
        refine W.seq ?_
        refine W.seq ?_
        refine W.region _ ?_
        refine WG.run tab_ok 3 rfl ?_
        refine WL.guardT rfl (by rfl) ?_
        refine WG.y rfl rfl (by decide) (pureV_ok tab_ok rfl (fun _ => rfl)) ?_
        refine WL.guardT rfl (by rfl) ?_
        refine WG.y rfl rfl (by decide) (pureV_ok tab_ok rfl (fun _ => rfl)) ?_
        refine WG.y rfl rfl (by decide) (Yl.por rfl rfl rfl (fun _ => rfl) (by intro h1 h2; simp_all <;> omega)) ?_
        refine WG.run tab_ok 1 rfl ?_
        refine WL.guardT rfl (by rfl) ?_
        refine WG.y rfl rfl (by decide) (pureV_ok tab_ok rfl (fun _ => rfl)) ?_
        refine WL.guardT rfl (by rfl) ?_
        refine' WG.y rfl rfl (by decide) (Yl.load1 tab_ok rfl rfl rfl (fun _ => rfl) ?r6 rfl ?h6) ?_
        case r6 => (exact Rd.blk 1 rfl)
        case h6 => rfl
        refine WL.guardT rfl (by rfl) ?_
        refine WG.y rfl rfl (by decide) (pureV_ok tab_ok rfl (fun _ => rfl)) ?_
        refine WL.guardT rfl (by rfl) ?_
        refine WG.callV en17 rfl rfl (by decide) (CallOp.mk' rfl rfl rfl rfl) (fun _ => rfl) (fun hg => Sound_V (n := 3) ho1 hrl1 (by decide) (by omega) (fun r hr => by rw [hx1 r hr]; omega)) ?_
        refine WL.guardT rfl (by rfl) ?_
        refine WG.y rfl rfl (by decide) (pureV_ok tab_ok rfl (fun _ => rfl)) ?_
        refine WG.y rfl rfl (by decide) (Yl.por rfl rfl rfl (fun _ => rfl) (by intro h1 h2; simp_all <;> omega)) ?_
        refine WG.run tab_ok 1 rfl ?_
        refine WL.guardT rfl (by rfl) ?_
        refine WG.y rfl rfl (by decide) (pureV_ok tab_ok rfl (fun _ => rfl)) ?_
        refine WL.guardT rfl (by rfl) ?_
        refine' WG.y rfl rfl (by decide) (Yl.load1 tab_ok rfl rfl rfl (fun _ => rfl) ?r7 rfl ?h7) ?_
        case r7 => apply Rd.add; (exact Rd.blk 0 rfl)
        case h7 => rfl
        refine WL.guardT rfl (by rfl) ?_
        refine WG.y rfl rfl (by decide) (pureV_ok tab_ok rfl (fun _ => rfl)) ?_
        refine WL.guardT rfl (by rfl) ?_
        refine WG.y rfl rfl (by decide) (pureV_ok tab_ok rfl (fun _ => rfl)) ?_
        refine WG.y rfl rfl (by decide) (Yl.por rfl rfl rfl (fun _ => rfl) (by intro h1 h2; simp_all <;> omega)) ?_
        refine WG.run tab_ok 1 rfl ?_
        refine WL.guardT rfl (by rfl) ?_
        refine WG.y rfl rfl (by decide) (pureV_ok tab_ok rfl (fun _ => rfl)) ?_
        refine WL.guardT rfl (by rfl) ?_
        refine' WG.y rfl rfl (by decide) (Yl.load1 tab_ok rfl rfl rfl (fun _ => rfl) ?r8 rfl ?h8) ?_
        case r8 => apply Rd.add; (exact Rd.blk 0 rfl)
        case h8 => rfl
        refine WL.guardT rfl (by rfl) ?_
        refine WG.y rfl rfl (by decide) (pureV_ok tab_ok rfl (fun _ => rfl)) ?_
        refine WL.guardT rfl (by rfl) ?_
        refine WG.y rfl rfl (by decide) (pureV_ok tab_ok rfl (fun _ => rfl)) ?_
        refine WL.guardT rfl (by rfl) ?_
        refine WG.y rfl rfl (by decide) (pureV_ok tab_ok rfl (fun _ => rfl)) ?_
        refine WL.guardT rfl (by rfl) ?_
        refine WG.y rfl rfl (by decide) (pureV_ok tab_ok rfl (fun _ => rfl)) ?_
        refine WG.y rfl rfl (by decide) (Yl.por rfl rfl rfl (fun _ => rfl) (by intro h1 h2; simp_all <;> omega)) ?_
        refine WG.nil ?_
        refine WE.nxt ?_
        refine W.cond rfl (fun hc2 => ?_) (fun hc2 => ?_)
        · try simp only [decide_eq_true_eq, decide_eq_false_iff_not, beq_iff_eq, bne_iff_ne, beq_eq_false_iff_ne, bne_eq_false_iff_eq, ne_eq, Bool.or_eq_true, Bool.or_eq_false_iff, Bool.and_eq_true, Bool.and_eq_false_imp, Bool.not_eq_true, Bool.not_eq_true', Bool.not_eq_false', Classical.not_not, Int.not_lt, Int.not_le, gt_iff_lt, ge_iff_le] at hc2
          (simp at hc2; done)
        · try simp only [decide_eq_true_eq, decide_eq_false_iff_not, beq_iff_eq, bne_iff_ne, beq_eq_false_iff_ne, bne_eq_false_iff_eq, ne_eq, Bool.or_eq_true, Bool.or_eq_false_iff, Bool.and_eq_true, Bool.and_eq_false_imp, Bool.not_eq_true, Bool.not_eq_true', Bool.not_eq_false', Classical.not_not, Int.not_lt, Int.not_le, gt_iff_lt, ge_iff_le] at hc2
          refine W.skip ?_
          refine WE.nxt ?_
          refine W.seq ?_
          refine W.seq ?_
          refine W.region _ ?_
          refine WG.run tab_ok 1 rfl ?_
          refine WG.nil ?_
          refine WE.nxt ?_
          refine W.block ?_
          refine W.loopK (β := Nat) (fun i => i ≤ 3) (fun i => [(14, true, .int .i64 (i : Int))]) [6, 10, 12] [_, _, _] [] _ rfl (fun i => []) (fun i => 3 - i) (0) (Nat.zero_le _) ⟨rfl, rfl, rfl, rfl, rfl⟩ qS ?_
          intro i hst
          dsimp only [zipE, setAll, List.cons_append, List.nil_append, List.set_cons_zero, List.set_cons_succ] at hst ⊢
          
          refine W.seq ?_
          refine W.seq ?_
          refine W.region _ ?_
          refine WG.run tab_ok 2 rfl ?_
          refine WG.nil ?_
          refine WE.nxt ?_
          refine W.condD rfl (fun hc3 => ?_) (fun hc3 => ?_)
          · try dsimp only at hc3
            have q1 := hx2 _ (nth_mem (xs := rows2) (k := i) (by omega))
            have q2 := hx1 _ (nth_mem (xs := rows1) (k := i) (by omega))
            have q3 := hcp2 _ (nth_mem (xs := rows2) (k := i) (by omega))
            refine W.skip ?_
            refine WE.nxt ?_
            refine W.seq ?_
            refine W.block ?_
            refine W.seq ?_
            refine W.regionQ _ mixed (by kernel_rfl) ?_
            refine WG.run tab_ok 1 rfl ?_
            refine' WG.y rfl rfl (by decide) (Yl.load1 tab_ok rfl rfl rfl (fun _ => rfl) ?r9 rfl ?h9) ?_
            case r9 => apply Rd.add; (exact Rd.blk 0 rfl)
            case h9 => rfl
            refine WG.run tab_ok 1 rfl ?_
            refine WG.y rfl rfl (by decide) (Yl.indexN tab_ok rfl rfl rfl rfl rfl rfl (fun _ => rfl) (by intro _; (try dsimp only) <;> omega) (by intro _; first | exact (fun w0 w hm hl => RS.has ho1 w0 w hm (by omega)) | exact (fun w0 w hm hl => RS.has ho2 w0 w hm (by omega)) | exact fun _ _ _ _ => rfl | exact RS.has (by assumption) | exact fun _ _ _ _ => (by assumption) | exact HasMem.ownD 0 rfl | exact HasMem.ownD 1 rfl | exact HasMem.ownD 2 rfl | exact HasMem.ownD 3 rfl | exact HasMem.ownD 4 rfl | exact HasMem.ownD 5 rfl)) ?_
            refine' WG.y rfl rfl (by decide) (Yl.load1 tab_ok rfl rfl rfl (fun _ => rfl) ?r10 rfl ?h10) ?_
            case r10 => ((apply RS.rdD; assumption; ((try dsimp only) <;> omega)))
            case h10 => rfl
            refine WG.run tab_ok 4 rfl ?_
            refine WG.y rfl rfl (by decide) (pureV_ok tab_ok rfl qE) ?_
            refine' WG.y rfl rfl (by decide) (Yl.loadG tab_ok rfl rfl rfl qE ?r11 rfl ?h11 ?g11) ?_
            case r11 => apply Rd.addC; (exact Rd.blkC 0 rfl)
            case h11 => rfl
            case g11 => exact fun _ => trivial
            refine WG.y rfl rfl (by decide) (pureV_ok tab_ok rfl qE) ?_
            refine WG.y rfl rfl (by decide) (Yl.indexN tab_ok rfl rfl rfl rfl rfl rfl qE (by intro hg; (try simp only [decide_eq_true_eq, decide_eq_false_iff_not, beq_iff_eq, bne_iff_ne, beq_eq_false_iff_ne, bne_eq_false_iff_eq, ne_eq, Bool.or_eq_true, Bool.or_eq_false_iff, Bool.and_eq_true, Bool.and_eq_false_imp, Bool.not_eq_true, Bool.not_eq_true', Bool.not_eq_false', Classical.not_not, Int.not_lt, Int.not_le, gt_iff_lt, ge_iff_le] at hg); (try dsimp only) <;> omega) (by intro hg; (try simp only [decide_eq_true_eq, decide_eq_false_iff_not, beq_iff_eq, bne_iff_ne, beq_eq_false_iff_ne, bne_eq_false_iff_eq, ne_eq, Bool.or_eq_true, Bool.or_eq_false_iff, Bool.and_eq_true, Bool.and_eq_false_imp, Bool.not_eq_true, Bool.not_eq_true', Bool.not_eq_false', Classical.not_not, Int.not_lt, Int.not_le, gt_iff_lt, ge_iff_le] at hg); first | exact (fun w0 w hm hl => RS.has ho1 w0 w hm (by omega)) | exact (fun w0 w hm hl => RS.has ho2 w0 w hm (by omega)) | exact fun _ _ _ _ => rfl | exact RS.has (by assumption) | exact fun _ _ _ _ => (by assumption) | exact HasMem.ownD 0 rfl | exact HasMem.ownD 1 rfl | exact HasMem.ownD 2 rfl | exact HasMem.ownD 3 rfl | exact HasMem.ownD 4 rfl | exact HasMem.ownD 5 rfl)) ?_
            refine' WG.y rfl rfl (by decide) (Yl.loadG tab_ok rfl rfl rfl qE ?r12 rfl ?h12 ?g12) ?_
            case r12 => ((apply RS.rdC; assumption))
            case h12 => rfl
            case g12 => (intro hg; (try simp only [decide_eq_true_eq, decide_eq_false_iff_not, beq_iff_eq, bne_iff_ne, beq_eq_false_iff_ne, bne_eq_false_iff_eq, ne_eq, Bool.or_eq_true, Bool.or_eq_false_iff, Bool.and_eq_true, Bool.and_eq_false_imp, Bool.not_eq_true, Bool.not_eq_true', Bool.not_eq_false', Classical.not_not, Int.not_lt, Int.not_le, gt_iff_lt, ge_iff_le] at hg); (try dsimp only); omega)
            refine WG.y rfl rfl (by decide) (pureV_ok tab_ok rfl qE) ?_
            refine WG.y rfl rfl (by decide) (Yl.add rfl rfl rfl qE (by intro hg; (try simp only [decide_eq_true_eq, decide_eq_false_iff_not, beq_iff_eq, bne_iff_ne, beq_eq_false_iff_ne, bne_eq_false_iff_eq, ne_eq, Bool.or_eq_true, Bool.or_eq_false_iff, Bool.and_eq_true, Bool.and_eq_false_imp, Bool.not_eq_true, Bool.not_eq_true', Bool.not_eq_false', Classical.not_not, Int.not_lt, Int.not_le, gt_iff_lt, ge_iff_le] at hg); constructor <;> (try dsimp only) <;> omega)) ?_
            refine WG.y rfl rfl (by decide) (Yl.sliceH tab_ok rfl rfl rfl rfl rfl qE (by intro hg; (try simp only [decide_eq_true_eq, decide_eq_false_iff_not, beq_iff_eq, bne_iff_ne, beq_eq_false_iff_ne, bne_eq_false_iff_eq, ne_eq, Bool.or_eq_true, Bool.or_eq_false_iff, Bool.and_eq_true, Bool.and_eq_false_imp, Bool.not_eq_true, Bool.not_eq_true', Bool.not_eq_false', Classical.not_not, Int.not_lt, Int.not_le, gt_iff_lt, ge_iff_le] at hg); omega) rfl) ?_
            refine WG.y rfl rfl (by decide) (pureV_ok tab_ok rfl qE) ?_
            refine' WG.y rfl rfl (by decide) (Yl.loadG tab_ok rfl rfl rfl qE ?r13 rfl ?h13 ?g13) ?_
            case r13 => apply Rd.addC; (exact Rd.blkC 1 rfl)
            case h13 => rfl
            case g13 => exact fun _ => trivial
            refine WG.y rfl rfl (by decide) (pureV_ok tab_ok rfl qE) ?_
            refine WG.y rfl rfl (by decide) (Yl.indexN tab_ok rfl rfl rfl rfl rfl rfl qE (by intro hg; (try simp only [decide_eq_true_eq, decide_eq_false_iff_not, beq_iff_eq, bne_iff_ne, beq_eq_false_iff_ne, bne_eq_false_iff_eq, ne_eq, Bool.or_eq_true, Bool.or_eq_false_iff, Bool.and_eq_true, Bool.and_eq_false_imp, Bool.not_eq_true, Bool.not_eq_true', Bool.not_eq_false', Classical.not_not, Int.not_lt, Int.not_le, gt_iff_lt, ge_iff_le] at hg); (try dsimp only) <;> omega) (by intro hg; (try simp only [decide_eq_true_eq, decide_eq_false_iff_not, beq_iff_eq, bne_iff_ne, beq_eq_false_iff_ne, bne_eq_false_iff_eq, ne_eq, Bool.or_eq_true, Bool.or_eq_false_iff, Bool.and_eq_true, Bool.and_eq_false_imp, Bool.not_eq_true, Bool.not_eq_true', Bool.not_eq_false', Classical.not_not, Int.not_lt, Int.not_le, gt_iff_lt, ge_iff_le] at hg); first | exact (fun w0 w hm hl => RS.has ho1 w0 w hm (by omega)) | exact (fun w0 w hm hl => RS.has ho2 w0 w hm (by omega)) | exact fun _ _ _ _ => rfl | exact RS.has (by assumption) | exact fun _ _ _ _ => (by assumption) | exact HasMem.ownD 0 rfl | exact HasMem.ownD 1 rfl | exact HasMem.ownD 2 rfl | exact HasMem.ownD 3 rfl | exact HasMem.ownD 4 rfl | exact HasMem.ownD 5 rfl)) ?_
            refine' WG.y rfl rfl (by decide) (Yl.loadG tab_ok rfl rfl rfl qE ?r14 rfl ?h14 ?g14) ?_
            case r14 => ((apply RS.rdC; assumption))
            case h14 => rfl
            case g14 => (intro hg; (try simp only [decide_eq_true_eq, decide_eq_false_iff_not, beq_iff_eq, bne_iff_ne, beq_eq_false_iff_ne, bne_eq_false_iff_eq, ne_eq, Bool.or_eq_true, Bool.or_eq_false_iff, Bool.and_eq_true, Bool.and_eq_false_imp, Bool.not_eq_true, Bool.not_eq_true', Bool.not_eq_false', Classical.not_not, Int.not_lt, Int.not_le, gt_iff_lt, ge_iff_le] at hg); (try dsimp only); omega)
            refine WG.callV (v := .bool true) en21 rfl rfl (by decide) (CallOp.mk' rfl rfl rfl rfl) qE (fun hg => by
              have h := Ints_V (xs := (nth rows2 i).xs.take (n + 1)) (ca := (nth rows2 i).cap) (cb := (nth rows1 i).cap) ((hrw2 _ (nth_mem (xs := rows2) (k := i) (by omega))).take (n + 1)) (hrw1 _ (nth_mem (xs := rows1) (k := i) (by omega)))
              rw [List.length_take, Nat.min_eq_left (by omega), show decide ((nth rows2 i).xs.take (n + 1) = (nth rows1 i).xs) = true from decide_eq_true (by rw [nth_map_xs hrx2 (by omega), nth_map_xs hrx1 (by omega)]; exact hsame i (by omega))] at h
              exact h) ?_
            refine WG.y rfl rfl (by decide) (pureV_ok tab_ok rfl qE) ?_
            refine WG.y rfl rfl (by decide) (Yl.por rfl rfl rfl (fun _ => rfl) (by intro h1 h2; simp_all <;> omega)) ?_
            refine WG.nil ?_
            refine WE.nxt ?_
            refine W.cond rfl (fun hc4 => ?_) (fun hc4 => ?_)
            · try simp only [decide_eq_true_eq, decide_eq_false_iff_not, beq_iff_eq, bne_iff_ne, beq_eq_false_iff_ne, bne_eq_false_iff_eq, ne_eq, Bool.or_eq_true, Bool.or_eq_false_iff, Bool.and_eq_true, Bool.and_eq_false_imp, Bool.not_eq_true, Bool.not_eq_true', Bool.not_eq_false', Classical.not_not, Int.not_lt, Int.not_le, gt_iff_lt, ge_iff_le] at hc4
              (simp at hc4; omega)
            · try simp only [decide_eq_true_eq, decide_eq_false_iff_not, beq_iff_eq, bne_iff_ne, beq_eq_false_iff_ne, bne_eq_false_iff_eq, ne_eq, Bool.or_eq_true, Bool.or_eq_false_iff, Bool.and_eq_true, Bool.and_eq_false_imp, Bool.not_eq_true, Bool.not_eq_true', Bool.not_eq_false', Classical.not_not, Int.not_lt, Int.not_le, gt_iff_lt, ge_iff_le] at hc4
              refine W.skip ?_
              refine WE.blk _ ?_
              refine WE.nxt ?_
              refine W.region _ ?_
              refine WG.run tab_ok 1 rfl ?_
              refine WG.y rfl rfl (by decide) (Yl.add rfl rfl rfl (fun _ => rfl) (by intro _; constructor <;> (try dsimp only) <;> omega)) ?_
              refine WG.run tab_ok 1 rfl ?_
              refine WG.nil ?_
              refine WE.again (i + 1) (by omega) (by (try dsimp only); omega) ⟨rfl, rfl, rfl, rfl, rfl⟩ (RLe.refl _) qS
          · try dsimp only at hc3
            refine W.exit ?_
            refine WE.then_exit ?_
            refine WE.then_exit ?_
            refine WE.blk_exit ?_
            refine WE.nxt ?_
            refine W.seq ?_
            refine W.region _ ?_
            refine WL.call en19 rfl rfl (by decide) (CallOp.mkT rfl rfl rfl rfl) (Awake22_C w0 _) ?_
            rintro _ R5 E9 hR5 ⟨rfl, hsub9⟩
            refine WL.subE hsub9 ?_
            refine WG.run tab_ok 1 rfl ?_
            refine WG.nil ?_
            refine WE.nxt ?_
            refine W.ret ?_
            refine WE.retF tab_ok [_] rfl ⟨rfl, trivial⟩ (hR0.trans (hR1.trans (hR2.trans (hR3.trans (hR4.trans hR5))))) ?_
            exact rfl
      ·
        refine WS.eff rfl rfl rfl (by decide) (Ef.alloc tab_ok rfl rfl (fun b12 => ?_))
        refine ⟨by first | exact RLe.refl _ | assumption, qS, ?_⟩
        refine WA.callG 6 rfl (by kernel_rfl) en16 rfl (by first | rfl | decide) rfl (by decide) (CallOp.mkT rfl rfl rfl rfl) (RunSrv_C (L := L) (ps := (ps.take m)) (ticks := ((n : Int) + (k : Int))) hq rfl hw rfl ht rfl w0 _) ?_
        rintro _ R4 E2 hR4 ⟨da2, oa2, dc2, oc2, rows2, rfl, hd2, ho2, hrw2, hrx2, hcp2, hsub2⟩
        refine ⟨by first | assumption | exact RLe.refl _, List.Sublist.trans qS hsub2, ?_⟩
        refine WA.subE hsub2 ?_
        obtain ⟨ee2, ev2⟩ := fine_run (L := L) (ps := (ps.take m)) hL.chk hn3 hokq (fun p hp => (hat p (List.mem_of_mem_take hp)).2.1) (ticks := ((n : Int) + (k : Int))) (t := (n + k)) (by omega) ⟨by omega, by omega⟩
        rw [ev2] at hd2 hrx2 ⊢
        rw [ee2]
        clear ee2 ev2
        have ho1 := ho1.mono hR4
        obtain ⟨q1_2, q2_2, q3_2, q4_2⟩ := send_rows (L := L) (t := (n + k)) hL (hp3.take (m := m)) (by have := hok.len; rw [List.length_take]; omega)
        have hrl2 : rows2.length = 3 := by rw [← q2_2, ← hrx2, List.length_map]
        rw [hrl2, q1_2]
        have hx2 : ∀ r ∈ rows2, r.xs.length = (n + k) + 1 := fun r hr => (q3_2 r.xs (by rw [← hrx2]; exact List.mem_map_of_mem hr)).1
        generalize hq2 : sendL L (n + k) (ps.take m) = Q2 at hd2 hrx2 q1_2 q2_2 q3_2 q4_2 ⊢
        have hrw1 : ∀ r ∈ rows1, RS R4 1 encI r.a r.xs := fun r hr => (hrw1 r hr).mono hR4
        have hfo := early_sent (n := n) hL hp3 hm (fun i h1 h2 => by have := (hmi i h2).1; omega)
        have hsame : ∀ i, i < 3 → (nth Q2.2 i).take (n + 1) = nth Q1.2 i := fun i hi => by
          rw [← hq2, ← hq1, ← hfo]
          exact more_sent hL (hp3.take (m := m)) (by rw [List.length_take]; have := hok.len; omega) hi
        refine WA.take 7 rfl (by kernel_rfl) (by kernel_rfl) (by kernel_rfl) rfl rfl (by decide) (pureV_ok tab_ok rfl (fun _ => rfl)) qS (by first | exact RLe.refl _ | assumption) ?_
        refine WA.take 8 rfl (by kernel_rfl) (by kernel_rfl) (by kernel_rfl) rfl rfl (by decide) (pureV_ok tab_ok rfl (fun _ => rfl)) qS (by first | exact RLe.refl _ | assumption) ?_
        refine WA.take 9 rfl (by kernel_rfl) (by kernel_rfl) (by kernel_rfl) rfl rfl (by decide) (pureV_ok tab_ok rfl (fun _ => rfl)) qS (by first | exact RLe.refl _ | assumption) ?_
        refine WA.effN 11 rfl (by kernel_rfl) rfl rfl (Ef.store0 0 tab_ok rfl rfl rfl rfl rfl rfl rfl rfl ?_)
        refine ⟨by first | exact RLe.refl _ | assumption, qS, ?_⟩
        refine WA.take 12 rfl (by kernel_rfl) (by kernel_rfl) (by kernel_rfl) rfl rfl (by decide) (pureV_ok tab_ok rfl (fun _ => rfl)) qS (by first | exact RLe.refl _ | assumption) ?_
        refine WA.done (by kernel_rfl) ?_
        refine WE.nxt ?_
        refine W.seq ?_
        refine W.seq ?_
        refine W.region _ ?_
        refine WG.run tab_ok 3 rfl ?_
        refine WL.guardT rfl (by rfl) ?_
        refine WG.y rfl rfl (by decide) (pureV_ok tab_ok rfl (fun _ => rfl)) ?_
        refine WL.guardT rfl (by rfl) ?_
        refine WG.y rfl rfl (by decide) (pureV_ok tab_ok rfl (fun _ => rfl)) ?_
        refine WG.y rfl rfl (by decide) (Yl.por rfl rfl rfl (fun _ => rfl) (by intro h1 h2; simp_all <;> omega)) ?_
        refine WG.run tab_ok 1 rfl ?_
        refine WL.guardT rfl (by rfl) ?_
        refine WG.y rfl rfl (by decide) (pureV_ok tab_ok rfl (fun _ => rfl)) ?_
        refine WL.guardT rfl (by rfl) ?_
        refine' WG.y rfl rfl (by decide) (Yl.load1 tab_ok rfl rfl rfl (fun _ => rfl) ?r15 rfl ?h15) ?_
        case r15 => (exact Rd.blk 1 rfl)
        case h15 => rfl
        refine WL.guardT rfl (by rfl) ?_
        refine WG.y rfl rfl (by decide) (pureV_ok tab_ok rfl (fun _ => rfl)) ?_
        refine WL.guardT rfl (by rfl) ?_
        refine WG.callV en17 rfl rfl (by decide) (CallOp.mk' rfl rfl rfl rfl) (fun _ => rfl) (fun hg => Sound_V (n := 3) ho1 hrl1 (by decide) (by omega) (fun r hr => by rw [hx1 r hr]; omega)) ?_
        refine WL.guardT rfl (by rfl) ?_
        refine WG.y rfl rfl (by decide) (pureV_ok tab_ok rfl (fun _ => rfl)) ?_
        refine WG.y rfl rfl (by decide) (Yl.por rfl rfl rfl (fun _ => rfl) (by intro h1 h2; simp_all <;> omega)) ?_
        refine WG.run tab_ok 1 rfl ?_
        refine WL.guardT rfl (by rfl) ?_
        refine WG.y rfl rfl (by decide) (pureV_ok tab_ok rfl (fun _ => rfl)) ?_
        refine WL.guardT rfl (by rfl) ?_
        refine' WG.y rfl rfl (by decide) (Yl.load1 tab_ok rfl rfl rfl (fun _ => rfl) ?r16 rfl ?h16) ?_
        case r16 => apply Rd.add; (exact Rd.blk 0 rfl)
        case h16 => rfl
        refine WL.guardT rfl (by rfl) ?_
        refine WG.y rfl rfl (by decide) (pureV_ok tab_ok rfl (fun _ => rfl)) ?_
        refine WL.guardT rfl (by rfl) ?_
        refine WG.y rfl rfl (by decide) (pureV_ok tab_ok rfl (fun _ => rfl)) ?_
        refine WG.y rfl rfl (by decide) (Yl.por rfl rfl rfl (fun _ => rfl) (by intro h1 h2; simp_all <;> omega)) ?_
        refine WG.run tab_ok 1 rfl ?_
        refine WL.guardT rfl (by rfl) ?_
        refine WG.y rfl rfl (by decide) (pureV_ok tab_ok rfl (fun _ => rfl)) ?_
        refine WL.guardT rfl (by rfl) ?_
        refine' WG.y rfl rfl (by decide) (Yl.load1 tab_ok rfl rfl rfl (fun _ => rfl) ?r17 rfl ?h17) ?_
        case r17 => apply Rd.add; (exact Rd.blk 0 rfl)
        case h17 => rfl
        refine WL.guardT rfl (by rfl) ?_
        refine WG.y rfl rfl (by decide) (pureV_ok tab_ok rfl (fun _ => rfl)) ?_
        refine WL.guardT rfl (by rfl) ?_
        refine WG.y rfl rfl (by decide) (pureV_ok tab_ok rfl (fun _ => rfl)) ?_
        refine WL.guardT rfl (by rfl) ?_
        refine WG.y rfl rfl (by decide) (pureV_ok tab_ok rfl (fun _ => rfl)) ?_
        refine WL.guardT rfl (by rfl) ?_
        refine WG.y rfl rfl (by decide) (pureV_ok tab_ok rfl (fun _ => rfl)) ?_
        refine WG.y rfl rfl (by decide) (Yl.por rfl rfl rfl (fun _ => rfl) (by intro h1 h2; simp_all <;> omega)) ?_
        refine WG.nil ?_
        refine WE.nxt ?_
        refine W.cond rfl (fun hc5 => ?_) (fun hc5 => ?_)
        · try simp only [decide_eq_true_eq, decide_eq_false_iff_not, beq_iff_eq, bne_iff_ne, beq_eq_false_iff_ne, bne_eq_false_iff_eq, ne_eq, Bool.or_eq_true, Bool.or_eq_false_iff, Bool.and_eq_true, Bool.and_eq_false_imp, Bool.not_eq_true, Bool.not_eq_true', Bool.not_eq_false', Classical.not_not, Int.not_lt, Int.not_le, gt_iff_lt, ge_iff_le] at hc5
          (simp at hc5; done)
        · try simp only [decide_eq_true_eq, decide_eq_false_iff_not, beq_iff_eq, bne_iff_ne, beq_eq_false_iff_ne, bne_eq_false_iff_eq, ne_eq, Bool.or_eq_true, Bool.or_eq_false_iff, Bool.and_eq_true, Bool.and_eq_false_imp, Bool.not_eq_true, Bool.not_eq_true', Bool.not_eq_false', Classical.not_not, Int.not_lt, Int.not_le, gt_iff_lt, ge_iff_le] at hc5
          refine W.skip ?_
          refine WE.nxt ?_
          refine W.seq ?_
          refine W.seq ?_
          refine W.region _ ?_
          refine WG.run tab_ok 1 rfl ?_
          refine WG.nil ?_
          refine WE.nxt ?_
          refine W.block ?_
          refine W.loopK (β := Nat) (fun i => i ≤ 3) (fun i => [(14, true, .int .i64 (i : Int))]) [6, 10, 12] [_, _, _] [] _ rfl (fun i => []) (fun i => 3 - i) (0) (Nat.zero_le _) ⟨rfl, rfl, rfl, rfl, rfl⟩ qS ?_
          intro i hst
          dsimp only [zipE, setAll, List.cons_append, List.nil_append, List.set_cons_zero, List.set_cons_succ] at hst ⊢
          
          refine W.seq ?_
          refine W.seq ?_
          refine W.region _ ?_
          refine WG.run tab_ok 2 rfl ?_
          refine WG.nil ?_
          refine WE.nxt ?_
          refine W.condD rfl (fun hc6 => ?_) (fun hc6 => ?_)
          · try dsimp only at hc6
            have q1 := hx2 _ (nth_mem (xs := rows2) (k := i) (by omega))
            have q2 := hx1 _ (nth_mem (xs := rows1) (k := i) (by omega))
            have q3 := hcp2 _ (nth_mem (xs := rows2) (k := i) (by omega))
            refine W.skip ?_
            refine WE.nxt ?_
            refine W.seq ?_
            refine W.block ?_
            refine W.seq ?_
            refine W.regionQ _ mixed (by kernel_rfl) ?_
            refine WG.run tab_ok 1 rfl ?_
            refine' WG.y rfl rfl (by decide) (Yl.load1 tab_ok rfl rfl rfl (fun _ => rfl) ?r18 rfl ?h18) ?_
            case r18 => apply Rd.add; (exact Rd.blk 0 rfl)
            case h18 => rfl
            refine WG.run tab_ok 1 rfl ?_
            refine WG.y rfl rfl (by decide) (Yl.indexN tab_ok rfl rfl rfl rfl rfl rfl (fun _ => rfl) (by intro _; (try dsimp only) <;> omega) (by intro _; first | exact (fun w0 w hm hl => RS.has ho1 w0 w hm (by omega)) | exact (fun w0 w hm hl => RS.has ho2 w0 w hm (by omega)) | exact fun _ _ _ _ => rfl | exact RS.has (by assumption) | exact fun _ _ _ _ => (by assumption) | exact HasMem.ownD 0 rfl | exact HasMem.ownD 1 rfl | exact HasMem.ownD 2 rfl | exact HasMem.ownD 3 rfl | exact HasMem.ownD 4 rfl | exact HasMem.ownD 5 rfl)) ?_
            refine' WG.y rfl rfl (by decide) (Yl.load1 tab_ok rfl rfl rfl (fun _ => rfl) ?r19 rfl ?h19) ?_
            case r19 => ((apply RS.rdD; assumption; ((try dsimp only) <;> omega)))
            case h19 => rfl
            refine WG.run tab_ok 4 rfl ?_
            refine WG.y rfl rfl (by decide) (pureV_ok tab_ok rfl qE) ?_
            refine' WG.y rfl rfl (by decide) (Yl.loadG tab_ok rfl rfl rfl qE ?r20 rfl ?h20 ?g20) ?_
            case r20 => apply Rd.addC; (exact Rd.blkC 0 rfl)
            case h20 => rfl
            case g20 => exact fun _ => trivial
            refine WG.y rfl rfl (by decide) (pureV_ok tab_ok rfl qE) ?_
            refine WG.y rfl rfl (by decide) (Yl.indexN tab_ok rfl rfl rfl rfl rfl rfl qE (by intro hg; (try simp only [decide_eq_true_eq, decide_eq_false_iff_not, beq_iff_eq, bne_iff_ne, beq_eq_false_iff_ne, bne_eq_false_iff_eq, ne_eq, Bool.or_eq_true, Bool.or_eq_false_iff, Bool.and_eq_true, Bool.and_eq_false_imp, Bool.not_eq_true, Bool.not_eq_true', Bool.not_eq_false', Classical.not_not, Int.not_lt, Int.not_le, gt_iff_lt, ge_iff_le] at hg); (try dsimp only) <;> omega) (by intro hg; (try simp only [decide_eq_true_eq, decide_eq_false_iff_not, beq_iff_eq, bne_iff_ne, beq_eq_false_iff_ne, bne_eq_false_iff_eq, ne_eq, Bool.or_eq_true, Bool.or_eq_false_iff, Bool.and_eq_true, Bool.and_eq_false_imp, Bool.not_eq_true, Bool.not_eq_true', Bool.not_eq_false', Classical.not_not, Int.not_lt, Int.not_le, gt_iff_lt, ge_iff_le] at hg); first | exact (fun w0 w hm hl => RS.has ho1 w0 w hm (by omega)) | exact (fun w0 w hm hl => RS.has ho2 w0 w hm (by omega)) | exact fun _ _ _ _ => rfl | exact RS.has (by assumption) | exact fun _ _ _ _ => (by assumption) | exact HasMem.ownD 0 rfl | exact HasMem.ownD 1 rfl | exact HasMem.ownD 2 rfl | exact HasMem.ownD 3 rfl | exact HasMem.ownD 4 rfl | exact HasMem.ownD 5 rfl)) ?_
            refine' WG.y rfl rfl (by decide) (Yl.loadG tab_ok rfl rfl rfl qE ?r21 rfl ?h21 ?g21) ?_
            case r21 => ((apply RS.rdC; assumption))
            case h21 => rfl
            case g21 => (intro hg; (try simp only [decide_eq_true_eq, decide_eq_false_iff_not, beq_iff_eq, bne_iff_ne, beq_eq_false_iff_ne, bne_eq_false_iff_eq, ne_eq, Bool.or_eq_true, Bool.or_eq_false_iff, Bool.and_eq_true, Bool.and_eq_false_imp, Bool.not_eq_true, Bool.not_eq_true', Bool.not_eq_false', Classical.not_not, Int.not_lt, Int.not_le, gt_iff_lt, ge_iff_le] at hg); (try dsimp only); omega)
            refine WG.y rfl rfl (by decide) (pureV_ok tab_ok rfl qE) ?_
            refine WG.y rfl rfl (by decide) (Yl.add rfl rfl rfl qE (by intro hg; (try simp only [decide_eq_true_eq, decide_eq_false_iff_not, beq_iff_eq, bne_iff_ne, beq_eq_false_iff_ne, bne_eq_false_iff_eq, ne_eq, Bool.or_eq_true, Bool.or_eq_false_iff, Bool.and_eq_true, Bool.and_eq_false_imp, Bool.not_eq_true, Bool.not_eq_true', Bool.not_eq_false', Classical.not_not, Int.not_lt, Int.not_le, gt_iff_lt, ge_iff_le] at hg); constructor <;> (try dsimp only) <;> omega)) ?_
            refine WG.y rfl rfl (by decide) (Yl.sliceH tab_ok rfl rfl rfl rfl rfl qE (by intro hg; (try simp only [decide_eq_true_eq, decide_eq_false_iff_not, beq_iff_eq, bne_iff_ne, beq_eq_false_iff_ne, bne_eq_false_iff_eq, ne_eq, Bool.or_eq_true, Bool.or_eq_false_iff, Bool.and_eq_true, Bool.and_eq_false_imp, Bool.not_eq_true, Bool.not_eq_true', Bool.not_eq_false', Classical.not_not, Int.not_lt, Int.not_le, gt_iff_lt, ge_iff_le] at hg); omega) rfl) ?_
            refine WG.y rfl rfl (by decide) (pureV_ok tab_ok rfl qE) ?_
            refine' WG.y rfl rfl (by decide) (Yl.loadG tab_ok rfl rfl rfl qE ?r22 rfl ?h22 ?g22) ?_
            case r22 => apply Rd.addC; (exact Rd.blkC 1 rfl)
            case h22 => rfl
            case g22 => exact fun _ => trivial
            refine WG.y rfl rfl (by decide) (pureV_ok tab_ok rfl qE) ?_
            refine WG.y rfl rfl (by decide) (Yl.indexN tab_ok rfl rfl rfl rfl rfl rfl qE (by intro hg; (try simp only [decide_eq_true_eq, decide_eq_false_iff_not, beq_iff_eq, bne_iff_ne, beq_eq_false_iff_ne, bne_eq_false_iff_eq, ne_eq, Bool.or_eq_true, Bool.or_eq_false_iff, Bool.and_eq_true, Bool.and_eq_false_imp, Bool.not_eq_true, Bool.not_eq_true', Bool.not_eq_false', Classical.not_not, Int.not_lt, Int.not_le, gt_iff_lt, ge_iff_le] at hg); (try dsimp only) <;> omega) (by intro hg; (try simp only [decide_eq_true_eq, decide_eq_false_iff_not, beq_iff_eq, bne_iff_ne, beq_eq_false_iff_ne, bne_eq_false_iff_eq, ne_eq, Bool.or_eq_true, Bool.or_eq_false_iff, Bool.and_eq_true, Bool.and_eq_false_imp, Bool.not_eq_true, Bool.not_eq_true', Bool.not_eq_false', Classical.not_not, Int.not_lt, Int.not_le, gt_iff_lt, ge_iff_le] at hg); first | exact (fun w0 w hm hl => RS.has ho1 w0 w hm (by omega)) | exact (fun w0 w hm hl => RS.has ho2 w0 w hm (by omega)) | exact fun _ _ _ _ => rfl | exact RS.has (by assumption) | exact fun _ _ _ _ => (by assumption) | exact HasMem.ownD 0 rfl | exact HasMem.ownD 1 rfl | exact HasMem.ownD 2 rfl | exact HasMem.ownD 3 rfl | exact HasMem.ownD 4 rfl | exact HasMem.ownD 5 rfl)) ?_
            refine' WG.y rfl rfl (by decide) (Yl.loadG tab_ok rfl rfl rfl qE ?r23 rfl ?h23 ?g23) ?_
            case r23 => ((apply RS.rdC; assumption))
            case h23 => rfl
            case g23 => (intro hg; (try simp only [decide_eq_true_eq, decide_eq_false_iff_not, beq_iff_eq, bne_iff_ne, beq_eq_false_iff_ne, bne_eq_false_iff_eq, ne_eq, Bool.or_eq_true, Bool.or_eq_false_iff, Bool.and_eq_true, Bool.and_eq_false_imp, Bool.not_eq_true, Bool.not_eq_true', Bool.not_eq_false', Classical.not_not, Int.not_lt, Int.not_le, gt_iff_lt, ge_iff_le] at hg); (try dsimp only); omega)
            refine WG.callV (v := .bool true) en21 rfl rfl (by decide) (CallOp.mk' rfl rfl rfl rfl) qE (fun hg => by
              have h := Ints_V (xs := (nth rows2 i).xs.take (n + 1)) (ca := (nth rows2 i).cap) (cb := (nth rows1 i).cap) ((hrw2 _ (nth_mem (xs := rows2) (k := i) (by omega))).take (n + 1)) (hrw1 _ (nth_mem (xs := rows1) (k := i) (by omega)))
              rw [List.length_take, Nat.min_eq_left (by omega), show decide ((nth rows2 i).xs.take (n + 1) = (nth rows1 i).xs) = true from decide_eq_true (by rw [nth_map_xs hrx2 (by omega), nth_map_xs hrx1 (by omega)]; exact hsame i (by omega))] at h
              exact h) ?_
            refine WG.y rfl rfl (by decide) (pureV_ok tab_ok rfl qE) ?_
            refine WG.y rfl rfl (by decide) (Yl.por rfl rfl rfl (fun _ => rfl) (by intro h1 h2; simp_all <;> omega)) ?_
            refine WG.nil ?_
            refine WE.nxt ?_
            refine W.cond rfl (fun hc7 => ?_) (fun hc7 => ?_)
            · try simp only [decide_eq_true_eq, decide_eq_false_iff_not, beq_iff_eq, bne_iff_ne, beq_eq_false_iff_ne, bne_eq_false_iff_eq, ne_eq, Bool.or_eq_true, Bool.or_eq_false_iff, Bool.and_eq_true, Bool.and_eq_false_imp, Bool.not_eq_true, Bool.not_eq_true', Bool.not_eq_false', Classical.not_not, Int.not_lt, Int.not_le, gt_iff_lt, ge_iff_le] at hc7
              (simp at hc7; omega)
            · try simp only [decide_eq_true_eq, decide_eq_false_iff_not, beq_iff_eq, bne_iff_ne, beq_eq_false_iff_ne, bne_eq_false_iff_eq, ne_eq, Bool.or_eq_true, Bool.or_eq_false_iff, Bool.and_eq_true, Bool.and_eq_false_imp, Bool.not_eq_true, Bool.not_eq_true', Bool.not_eq_false', Classical.not_not, Int.not_lt, Int.not_le, gt_iff_lt, ge_iff_le] at hc7
              refine W.skip ?_
              refine WE.blk _ ?_
              refine WE.nxt ?_
              refine W.region _ ?_
              refine WG.run tab_ok 1 rfl ?_
              refine WG.y rfl rfl (by decide) (Yl.add rfl rfl rfl (fun _ => rfl) (by intro _; constructor <;> (try dsimp only) <;> omega)) ?_
              refine WG.run tab_ok 1 rfl ?_
              refine WG.nil ?_
              refine WE.again (i + 1) (by omega) (by (try dsimp only); omega) ⟨rfl, rfl, rfl, rfl, rfl⟩ (RLe.refl _) qS
          · try dsimp only at hc6
            refine W.exit ?_
            refine WE.then_exit ?_
            refine WE.then_exit ?_
            refine WE.blk_exit ?_
            refine WE.nxt ?_
            refine W.seq ?_
            refine W.region _ ?_
            refine WL.call en19 rfl rfl (by decide) (CallOp.mkT rfl rfl rfl rfl) (Awake22_C w0 _) ?_
            rintro _ R5 E9 hR5 ⟨rfl, hsub9⟩
            refine WL.subE hsub9 ?_
            refine WG.run tab_ok 1 rfl ?_
            refine WG.nil ?_
            refine WE.nxt ?_
            refine W.ret ?_
            refine WE.retF tab_ok [_] rfl ⟨rfl, trivial⟩ (hR0.trans (hR1.trans (hR2.trans (hR3.trans (hR4.trans hR5))))) ?_
            exact rfl
    ·
      refine WS.eff rfl rfl rfl (by decide) (Ef.alloc tab_ok rfl rfl (fun b12 => ?_))
      refine ⟨by first | exact RLe.refl _ | assumption, qS, ?_⟩
      refine WA.callAt 3 4 rfl (by kernel_rfl) en20 rfl rfl (by decide) (CallOp.mkT rfl rfl rfl rfl) rfl (N_C w0 hz (by constructor <;> decide) _) ?_
      rintro _ _ _ _ - ⟨rfl, rfl, rfl, rfl⟩
      refine ⟨RLe.refl _, qS, ?_⟩
      have hk := mod_range (nth (xs.take 2000) cq) (show (1 : Int) ≤ 20 by decide)
      obtain ⟨k, hkk⟩ : ∃ k : Nat, mod (nth (xs.take 2000) cq) 20 = k := ⟨(mod (nth (xs.take 2000) cq) 20).toNat, by omega⟩
      rw [hkk] at hk ⊢
      refine WA.take 5 rfl (by kernel_rfl) (by kernel_rfl) (by kernel_rfl) rfl rfl (by decide) (Yl.add rfl rfl rfl (fun _ => rfl) (by intro _; constructor <;> (try dsimp only) <;> omega)) qS (by first | exact RLe.refl _ | assumption) ?_
      refine WA.callG 6 rfl (by kernel_rfl) en16 rfl (by first | rfl | decide) rfl (by decide) (CallOp.mkT rfl rfl rfl rfl) (RunSrv_C (L := L) (ps := (ps.take m)) (ticks := ((n : Int) + (k : Int))) hq rfl hw rfl ht rfl w0 _) ?_
      rintro _ R4 E2 hR4 ⟨da2, oa2, dc2, oc2, rows2, rfl, hd2, ho2, hrw2, hrx2, hcp2, hsub2⟩
      refine ⟨by first | assumption | exact RLe.refl _, List.Sublist.trans qS hsub2, ?_⟩
      refine WA.subE hsub2 ?_
      obtain ⟨ee2, ev2⟩ := fine_run (L := L) (ps := (ps.take m)) hL.chk hn3 hokq (fun p hp => (hat p (List.mem_of_mem_take hp)).2.1) (ticks := ((n : Int) + (k : Int))) (t := (n + k)) (by omega) ⟨by omega, by omega⟩
      rw [ev2] at hd2 hrx2 ⊢
      rw [ee2]
      clear ee2 ev2
      have ho1 := ho1.mono hR4
      obtain ⟨q1_2, q2_2, q3_2, q4_2⟩ := send_rows (L := L) (t := (n + k)) hL (hp3.take (m := m)) (by have := hok.len; rw [List.length_take]; omega)
      have hrl2 : rows2.length = 3 := by rw [← q2_2, ← hrx2, List.length_map]
      rw [hrl2, q1_2]
      have hx2 : ∀ r ∈ rows2, r.xs.length = (n + k) + 1 := fun r hr => (q3_2 r.xs (by rw [← hrx2]; exact List.mem_map_of_mem hr)).1
      generalize hq2 : sendL L (n + k) (ps.take m) = Q2 at hd2 hrx2 q1_2 q2_2 q3_2 q4_2 ⊢
      have hrw1 : ∀ r ∈ rows1, RS R4 1 encI r.a r.xs := fun r hr => (hrw1 r hr).mono hR4
      have hfo := early_sent (n := n) hL hp3 hm (fun i h1 h2 => by have := (hmi i h2).1; omega)
      have hsame : ∀ i, i < 3 → (nth Q2.2 i).take (n + 1) = nth Q1.2 i := fun i hi => by
        rw [← hq2, ← hq1, ← hfo]
        exact more_sent hL (hp3.take (m := m)) (by rw [List.length_take]; have := hok.len; omega) hi
      refine WA.take 7 rfl (by kernel_rfl) (by kernel_rfl) (by kernel_rfl) rfl rfl (by decide) (pureV_ok tab_ok rfl (fun _ => rfl)) qS (by first | exact RLe.refl _ | assumption) ?_
      refine WA.take 8 rfl (by kernel_rfl) (by kernel_rfl) (by kernel_rfl) rfl rfl (by decide) (pureV_ok tab_ok rfl (fun _ => rfl)) qS (by first | exact RLe.refl _ | assumption) ?_
      refine WA.take 9 rfl (by kernel_rfl) (by kernel_rfl) (by kernel_rfl) rfl rfl (by decide) (pureV_ok tab_ok rfl (fun _ => rfl)) qS (by first | exact RLe.refl _ | assumption) ?_
      refine WA.effN 11 rfl (by kernel_rfl) rfl rfl (Ef.store0 0 tab_ok rfl rfl rfl rfl rfl rfl rfl rfl ?_)
      refine ⟨by first | exact RLe.refl _ | assumption, qS, ?_⟩
      refine WA.take 12 rfl (by kernel_rfl) (by kernel_rfl) (by kernel_rfl) rfl rfl (by decide) (pureV_ok tab_ok rfl (fun _ => rfl)) qS (by first | exact RLe.refl _ | assumption) ?_
      refine WA.done (by kernel_rfl) ?_
      refine WE.nxt ?_
      refine W.seq ?_
      refine W.seq ?_
      refine W.region _ ?_
      refine WG.run tab_ok 3 rfl ?_
      refine WL.guardT rfl (by rfl) ?_
      refine WG.y rfl rfl (by decide) (pureV_ok tab_ok rfl (fun _ => rfl)) ?_
      refine WL.guardT rfl (by rfl) ?_
      refine WG.y rfl rfl (by decide) (pureV_ok tab_ok rfl (fun _ => rfl)) ?_
      refine WG.y rfl rfl (by decide) (Yl.por rfl rfl rfl (fun _ => rfl) (by intro h1 h2; simp_all <;> omega)) ?_
      refine WG.run tab_ok 1 rfl ?_
      refine WL.guardT rfl (by rfl) ?_
      refine WG.y rfl rfl (by decide) (pureV_ok tab_ok rfl (fun _ => rfl)) ?_
      refine WL.guardT rfl (by rfl) ?_
      refine' WG.y rfl rfl (by decide) (Yl.load1 tab_ok rfl rfl rfl (fun _ => rfl) ?r24 rfl ?h24) ?_
      case r24 => (exact Rd.blk 1 rfl)
      case h24 => rfl
      refine WL.guardT rfl (by rfl) ?_
      refine WG.y rfl rfl (by decide) (pureV_ok tab_ok rfl (fun _ => rfl)) ?_
      refine WL.guardT rfl (by rfl) ?_
      refine WG.callV en17 rfl rfl (by decide) (CallOp.mk' rfl rfl rfl rfl) (fun _ => rfl) (fun hg => Sound_V (n := 3) ho1 hrl1 (by decide) (by omega) (fun r hr => by rw [hx1 r hr]; omega)) ?_
      refine WL.guardT rfl (by rfl) ?_
      refine WG.y rfl rfl (by decide) (pureV_ok tab_ok rfl (fun _ => rfl)) ?_
      refine WG.y rfl rfl (by decide) (Yl.por rfl rfl rfl (fun _ => rfl) (by intro h1 h2; simp_all <;> omega)) ?_
      refine WG.run tab_ok 1 rfl ?_
      refine WL.guardT rfl (by rfl) ?_
      refine WG.y rfl rfl (by decide) (pureV_ok tab_ok rfl (fun _ => rfl)) ?_
      refine WL.guardT rfl (by rfl) ?_
      refine' WG.y rfl rfl (by decide) (Yl.load1 tab_ok rfl rfl rfl (fun _ => rfl) ?r25 rfl ?h25) ?_
      case r25 => apply Rd.add; (exact Rd.blk 0 rfl)
      case h25 => rfl
      refine WL.guardT rfl (by rfl) ?_
      refine WG.y rfl rfl (by decide) (pureV_ok tab_ok rfl (fun _ => rfl)) ?_
      refine WL.guardT rfl (by rfl) ?_
      refine WG.y rfl rfl (by decide) (pureV_ok tab_ok rfl (fun _ => rfl)) ?_
      refine WG.y rfl rfl (by decide) (Yl.por rfl rfl rfl (fun _ => rfl) (by intro h1 h2; simp_all <;> omega)) ?_
      refine WG.run tab_ok 1 rfl ?_
      refine WL.guardT rfl (by rfl) ?_
      refine WG.y rfl rfl (by decide) (pureV_ok tab_ok rfl (fun _ => rfl)) ?_
      refine WL.guardT rfl (by rfl) ?_
      refine' WG.y rfl rfl (by decide) (Yl.load1 tab_ok rfl rfl rfl (fun _ => rfl) ?r26 rfl ?h26) ?_
      case r26 => apply Rd.add; (exact Rd.blk 0 rfl)
      case h26 => rfl
      refine WL.guardT rfl (by rfl) ?_
      refine WG.y rfl rfl (by decide) (pureV_ok tab_ok rfl (fun _ => rfl)) ?_
      refine WL.guardT rfl (by rfl) ?_
      refine WG.y rfl rfl (by decide) (pureV_ok tab_ok rfl (fun _ => rfl)) ?_
      refine WL.guardT rfl (by rfl) ?_
      refine WG.y rfl rfl (by decide) (pureV_ok tab_ok rfl (fun _ => rfl)) ?_
      refine WL.guardT rfl (by rfl) ?_
      refine WG.y rfl rfl (by decide) (pureV_ok tab_ok rfl (fun _ => rfl)) ?_
      refine WG.y rfl rfl (by decide) (Yl.por rfl rfl rfl (fun _ => rfl) (by intro h1 h2; simp_all <;> omega)) ?_
      refine WG.nil ?_
      refine WE.nxt ?_
      refine W.cond rfl (fun hc8 => ?_) (fun hc8 => ?_)
      · try simp only [decide_eq_true_eq, decide_eq_false_iff_not, beq_iff_eq, bne_iff_ne, beq_eq_false_iff_ne, bne_eq_false_iff_eq, ne_eq, Bool.or_eq_true, Bool.or_eq_false_iff, Bool.and_eq_true, Bool.and_eq_false_imp, Bool.not_eq_true, Bool.not_eq_true', Bool.not_eq_false', Classical.not_not, Int.not_lt, Int.not_le, gt_iff_lt, ge_iff_le] at hc8
        (simp at hc8; done)
      · try simp only [decide_eq_true_eq, decide_eq_false_iff_not, beq_iff_eq, bne_iff_ne, beq_eq_false_iff_ne, bne_eq_false_iff_eq, ne_eq, Bool.or_eq_true, Bool.or_eq_false_iff, Bool.and_eq_true, Bool.and_eq_false_imp, Bool.not_eq_true, Bool.not_eq_true', Bool.not_eq_false', Classical.not_not, Int.not_lt, Int.not_le, gt_iff_lt, ge_iff_le] at hc8
        refine W.skip ?_
        refine WE.nxt ?_
        refine W.seq ?_
        refine W.seq ?_
        refine W.region _ ?_
        refine WG.run tab_ok 1 rfl ?_
        refine WG.nil ?_
        refine WE.nxt ?_
        refine W.block ?_
        refine W.loopK (β := Nat) (fun i => i ≤ 3) (fun i => [(14, true, .int .i64 (i : Int))]) [6, 10, 12] [_, _, _] [] _ rfl (fun i => []) (fun i => 3 - i) (0) (Nat.zero_le _) ⟨rfl, rfl, rfl, rfl, rfl⟩ qS ?_
        intro i hst
        dsimp only [zipE, setAll, List.cons_append, List.nil_append, List.set_cons_zero, List.set_cons_succ] at hst ⊢
        
        refine W.seq ?_
        refine W.seq ?_
        refine W.region _ ?_
        refine WG.run tab_ok 2 rfl ?_
        refine WG.nil ?_
        refine WE.nxt ?_
        refine W.condD rfl (fun hc9 => ?_) (fun hc9 => ?_)
        · try dsimp only at hc9
          have q1 := hx2 _ (nth_mem (xs := rows2) (k := i) (by omega))
          have q2 := hx1 _ (nth_mem (xs := rows1) (k := i) (by omega))
          have q3 := hcp2 _ (nth_mem (xs := rows2) (k := i) (by omega))
          refine W.skip ?_
          refine WE.nxt ?_
          refine W.seq ?_
          refine W.block ?_
          refine W.seq ?_
          refine W.regionQ _ mixed (by kernel_rfl) ?_
          refine WG.run tab_ok 1 rfl ?_
          refine' WG.y rfl rfl (by decide) (Yl.load1 tab_ok rfl rfl rfl (fun _ => rfl) ?r27 rfl ?h27) ?_
          case r27 => apply Rd.add; (exact Rd.blk 0 rfl)
          case h27 => rfl
          refine WG.run tab_ok 1 rfl ?_
          refine WG.y rfl rfl (by decide) (Yl.indexN tab_ok rfl rfl rfl rfl rfl rfl (fun _ => rfl) (by intro _; (try dsimp only) <;> omega) (by intro _; first | exact (fun w0 w hm hl => RS.has ho1 w0 w hm (by omega)) | exact (fun w0 w hm hl => RS.has ho2 w0 w hm (by omega)) | exact fun _ _ _ _ => rfl | exact RS.has (by assumption) | exact fun _ _ _ _ => (by assumption) | exact HasMem.ownD 0 rfl | exact HasMem.ownD 1 rfl | exact HasMem.ownD 2 rfl | exact HasMem.ownD 3 rfl | exact HasMem.ownD 4 rfl | exact HasMem.ownD 5 rfl)) ?_
          refine' WG.y rfl rfl (by decide) (Yl.load1 tab_ok rfl rfl rfl (fun _ => rfl) ?r28 rfl ?h28) ?_
          case r28 => ((apply RS.rdD; assumption; ((try dsimp only) <;> omega)))
          case h28 => rfl
          refine WG.run tab_ok 4 rfl ?_
          refine WG.y rfl rfl (by decide) (pureV_ok tab_ok rfl qE) ?_
          refine' WG.y rfl rfl (by decide) (Yl.loadG tab_ok rfl rfl rfl qE ?r29 rfl ?h29 ?g29) ?_
          case r29 => apply Rd.addC; (exact Rd.blkC 0 rfl)
          case h29 => rfl
          case g29 => exact fun _ => trivial
          refine WG.y rfl rfl (by decide) (pureV_ok tab_ok rfl qE) ?_
          refine WG.y rfl rfl (by decide) (Yl.indexN tab_ok rfl rfl rfl rfl rfl rfl qE (by intro hg; (try simp only [decide_eq_true_eq, decide_eq_false_iff_not, beq_iff_eq, bne_iff_ne, beq_eq_false_iff_ne, bne_eq_false_iff_eq, ne_eq, Bool.or_eq_true, Bool.or_eq_false_iff, Bool.and_eq_true, Bool.and_eq_false_imp, Bool.not_eq_true, Bool.not_eq_true', Bool.not_eq_false', Classical.not_not, Int.not_lt, Int.not_le, gt_iff_lt, ge_iff_le] at hg); (try dsimp only) <;> omega) (by intro hg; (try simp only [decide_eq_true_eq, decide_eq_false_iff_not, beq_iff_eq, bne_iff_ne, beq_eq_false_iff_ne, bne_eq_false_iff_eq, ne_eq, Bool.or_eq_true, Bool.or_eq_false_iff, Bool.and_eq_true, Bool.and_eq_false_imp, Bool.not_eq_true, Bool.not_eq_true', Bool.not_eq_false', Classical.not_not, Int.not_lt, Int.not_le, gt_iff_lt, ge_iff_le] at hg); first | exact (fun w0 w hm hl => RS.has ho1 w0 w hm (by omega)) | exact (fun w0 w hm hl => RS.has ho2 w0 w hm (by omega)) | exact fun _ _ _ _ => rfl | exact RS.has (by assumption) | exact fun _ _ _ _ => (by assumption) | exact HasMem.ownD 0 rfl | exact HasMem.ownD 1 rfl | exact HasMem.ownD 2 rfl | exact HasMem.ownD 3 rfl | exact HasMem.ownD 4 rfl | exact HasMem.ownD 5 rfl)) ?_
          refine' WG.y rfl rfl (by decide) (Yl.loadG tab_ok rfl rfl rfl qE ?r30 rfl ?h30 ?g30) ?_
          case r30 => ((apply RS.rdC; assumption))
          case h30 => rfl
          case g30 => (intro hg; (try simp only [decide_eq_true_eq, decide_eq_false_iff_not, beq_iff_eq, bne_iff_ne, beq_eq_false_iff_ne, bne_eq_false_iff_eq, ne_eq, Bool.or_eq_true, Bool.or_eq_false_iff, Bool.and_eq_true, Bool.and_eq_false_imp, Bool.not_eq_true, Bool.not_eq_true', Bool.not_eq_false', Classical.not_not, Int.not_lt, Int.not_le, gt_iff_lt, ge_iff_le] at hg); (try dsimp only); omega)
          refine WG.y rfl rfl (by decide) (pureV_ok tab_ok rfl qE) ?_
          refine WG.y rfl rfl (by decide) (Yl.add rfl rfl rfl qE (by intro hg; (try simp only [decide_eq_true_eq, decide_eq_false_iff_not, beq_iff_eq, bne_iff_ne, beq_eq_false_iff_ne, bne_eq_false_iff_eq, ne_eq, Bool.or_eq_true, Bool.or_eq_false_iff, Bool.and_eq_true, Bool.and_eq_false_imp, Bool.not_eq_true, Bool.not_eq_true', Bool.not_eq_false', Classical.not_not, Int.not_lt, Int.not_le, gt_iff_lt, ge_iff_le] at hg); constructor <;> (try dsimp only) <;> omega)) ?_
          refine WG.y rfl rfl (by decide) (Yl.sliceH tab_ok rfl rfl rfl rfl rfl qE (by intro hg; (try simp only [decide_eq_true_eq, decide_eq_false_iff_not, beq_iff_eq, bne_iff_ne, beq_eq_false_iff_ne, bne_eq_false_iff_eq, ne_eq, Bool.or_eq_true, Bool.or_eq_false_iff, Bool.and_eq_true, Bool.and_eq_false_imp, Bool.not_eq_true, Bool.not_eq_true', Bool.not_eq_false', Classical.not_not, Int.not_lt, Int.not_le, gt_iff_lt, ge_iff_le] at hg); omega) rfl) ?_
          refine WG.y rfl rfl (by decide) (pureV_ok tab_ok rfl qE) ?_
          refine' WG.y rfl rfl (by decide) (Yl.loadG tab_ok rfl rfl rfl qE ?r31 rfl ?h31 ?g31) ?_
          case r31 => apply Rd.addC; (exact Rd.blkC 1 rfl)
          case h31 => rfl
          case g31 => exact fun _ => trivial
          refine WG.y rfl rfl (by decide) (pureV_ok tab_ok rfl qE) ?_
          refine WG.y rfl rfl (by decide) (Yl.indexN tab_ok rfl rfl rfl rfl rfl rfl qE (by intro hg; (try simp only [decide_eq_true_eq, decide_eq_false_iff_not, beq_iff_eq, bne_iff_ne, beq_eq_false_iff_ne, bne_eq_false_iff_eq, ne_eq, Bool.or_eq_true, Bool.or_eq_false_iff, Bool.and_eq_true, Bool.and_eq_false_imp, Bool.not_eq_true, Bool.not_eq_true', Bool.not_eq_false', Classical.not_not, Int.not_lt, Int.not_le, gt_iff_lt, ge_iff_le] at hg); (try dsimp only) <;> omega) (by intro hg; (try simp only [decide_eq_true_eq, decide_eq_false_iff_not, beq_iff_eq, bne_iff_ne, beq_eq_false_iff_ne, bne_eq_false_iff_eq, ne_eq, Bool.or_eq_true, Bool.or_eq_false_iff, Bool.and_eq_true, Bool.and_eq_false_imp, Bool.not_eq_true, Bool.not_eq_true', Bool.not_eq_false', Classical.not_not, Int.not_lt, Int.not_le, gt_iff_lt, ge_iff_le] at hg); first | exact (fun w0 w hm hl => RS.has ho1 w0 w hm (by omega)) | exact (fun w0 w hm hl => RS.has ho2 w0 w hm (by omega)) | exact fun _ _ _ _ => rfl | exact RS.has (by assumption) | exact fun _ _ _ _ => (by assumption) | exact HasMem.ownD 0 rfl | exact HasMem.ownD 1 rfl | exact HasMem.ownD 2 rfl | exact HasMem.ownD 3 rfl | exact HasMem.ownD 4 rfl | exact HasMem.ownD 5 rfl)) ?_
          refine' WG.y rfl rfl (by decide) (Yl.loadG tab_ok rfl rfl rfl qE ?r32 rfl ?h32 ?g32) ?_
          case r32 => ((apply RS.rdC; assumption))
          case h32 => rfl
          case g32 => (intro hg; (try simp only [decide_eq_true_eq, decide_eq_false_iff_not, beq_iff_eq, bne_iff_ne, beq_eq_false_iff_ne, bne_eq_false_iff_eq, ne_eq, Bool.or_eq_true, Bool.or_eq_false_iff, Bool.and_eq_true, Bool.and_eq_false_imp, Bool.not_eq_true, Bool.not_eq_true', Bool.not_eq_false', Classical.not_not, Int.not_lt, Int.not_le, gt_iff_lt, ge_iff_le] at hg); (try dsimp only); omega)
          refine WG.callV (v := .bool true) en21 rfl rfl (by decide) (CallOp.mk' rfl rfl rfl rfl) qE (fun hg => by
            have h := Ints_V (xs := (nth rows2 i).xs.take (n + 1)) (ca := (nth rows2 i).cap) (cb := (nth rows1 i).cap) ((hrw2 _ (nth_mem (xs := rows2) (k := i) (by omega))).take (n + 1)) (hrw1 _ (nth_mem (xs := rows1) (k := i) (by omega)))
            rw [List.length_take, Nat.min_eq_left (by omega), show decide ((nth rows2 i).xs.take (n + 1) = (nth rows1 i).xs) = true from decide_eq_true (by rw [nth_map_xs hrx2 (by omega), nth_map_xs hrx1 (by omega)]; exact hsame i (by omega))] at h
            exact h) ?_
          refine WG.y rfl rfl (by decide) (pureV_ok tab_ok rfl qE) ?_
          refine WG.y rfl rfl (by decide) (Yl.por rfl rfl rfl (fun _ => rfl) (by intro h1 h2; simp_all <;> omega)) ?_
          refine WG.nil ?_
          refine WE.nxt ?_
          refine W.cond rfl (fun hc10 => ?_) (fun hc10 => ?_)
          · try simp only [decide_eq_true_eq, decide_eq_false_iff_not, beq_iff_eq, bne_iff_ne, beq_eq_false_iff_ne, bne_eq_false_iff_eq, ne_eq, Bool.or_eq_true, Bool.or_eq_false_iff, Bool.and_eq_true, Bool.and_eq_false_imp, Bool.not_eq_true, Bool.not_eq_true', Bool.not_eq_false', Classical.not_not, Int.not_lt, Int.not_le, gt_iff_lt, ge_iff_le] at hc10
            (simp at hc10; omega)
          · try simp only [decide_eq_true_eq, decide_eq_false_iff_not, beq_iff_eq, bne_iff_ne, beq_eq_false_iff_ne, bne_eq_false_iff_eq, ne_eq, Bool.or_eq_true, Bool.or_eq_false_iff, Bool.and_eq_true, Bool.and_eq_false_imp, Bool.not_eq_true, Bool.not_eq_true', Bool.not_eq_false', Classical.not_not, Int.not_lt, Int.not_le, gt_iff_lt, ge_iff_le] at hc10
            refine W.skip ?_
            refine WE.blk _ ?_
            refine WE.nxt ?_
            refine W.region _ ?_
            refine WG.run tab_ok 1 rfl ?_
            refine WG.y rfl rfl (by decide) (Yl.add rfl rfl rfl (fun _ => rfl) (by intro _; constructor <;> (try dsimp only) <;> omega)) ?_
            refine WG.run tab_ok 1 rfl ?_
            refine WG.nil ?_
            refine WE.again (i + 1) (by omega) (by (try dsimp only); omega) ⟨rfl, rfl, rfl, rfl, rfl⟩ (RLe.refl _) qS
        · try dsimp only at hc9
          refine W.exit ?_
          refine WE.then_exit ?_
          refine WE.then_exit ?_
          refine WE.blk_exit ?_
          refine WE.nxt ?_
          refine W.seq ?_
          refine W.region _ ?_
          refine WL.call en19 rfl rfl (by decide) (CallOp.mkT rfl rfl rfl rfl) (Awake22_C w0 _) ?_
          rintro _ R5 E9 hR5 ⟨rfl, hsub9⟩
          refine WL.subE hsub9 ?_
          refine WG.run tab_ok 1 rfl ?_
          refine WG.nil ?_
          refine WE.nxt ?_
          refine W.ret ?_
          refine WE.retF tab_ok [_] rfl ⟨rfl, trivial⟩ (hR0.trans (hR1.trans (hR2.trans (hR3.trans (hR4.trans hR5))))) ?_
          exact rfl

end Go.Proofs.YtlgjkmebpnnphaaGreat

/- ServerForgets: for every list of numbers the law returns true, and the list reads afterwards as it read before. No condition. -/
namespace Go.Proofs.YtlgjkmebpnnphaaGreat
open Go Go.RowKit Go.ChangeShapes Go.WideShapes Go.ChangeAt Go.WideElems Go.Maps Go.Proofs.YtlgjkmebpnnphaaGreat.K
namespace serverForgets
theorem law : LawI Tryz.prog 4 := fun ha hc w0 => ServerForgets_F ha hc w0
theorem own : ownKnob Tryz.prog.godebug = none := by kernel_rfl
theorem laidOut : laidOutB Tryz.prog = true := by kernel_rfl
theorem cellsI : Tryz.prog.cellsOf 3 = 1 := by kernel_rfl
set_option maxRecDepth 100000 in
theorem lifted (os : Os) (started : os.Started) (H : Type) (enc : TypeId × Value → H) :
    ReturnsInHanded {} Tryz.checked os 4 .any (Rows.serverForgetsSpec.pre6 enc Tryz.prog Tryz.f4 Rows.serverForgetsRow.domain false) (Rows.serverForgetsSpec.post enc Tryz.prog Tryz.f4 false true false false) := by
  refine returnsInHanded_of_change (C := Tryz.checked) own started (by kernel_rfl) Tryz.func4
    (ChangeSpec.witness6 (enc := enc) (C := Tryz.checked) false ⟨#[], #[.slice none 0 0], []⟩ 8 (by kernel_rfl) (by kernel_rfl) (by kernel_rfl) (by kernel_rfl)) ?_
  intro W base args ds gs before hval0 hW _ _
  have hval : ∀ (j : Nat) t v, Tryz.f4.params[j]? = some t → args[j]? = some v → Value.okWide Tryz.prog W .any base t v := hval0
  have hW' := hW
  obtain ⟨p, q, hA0, hV, rfl, _, _⟩ := hW
  have hA : DataW.TrodAll enc Tryz.prog W 0 (fun _ => true) true Tryz.f4.params.toList args.toList ds p := hA0
  rw [Tryz.params4] at hA hval
  obtain ⟨v0, d0, rfl, rfl, h0⟩ := trodAll_one hA
  obtain ⟨rfl, rfl⟩ := trodVars_none hV
  have h0k := h0
  obtain ⟨fuel, hf⟩ := h0
  clear hA0 hval0
  simp only [List.append_nil] at hW'
  have hlt : ∀ x ∈ p, x.block < W.heap.size := fun x hx => by simpa using hW'.lt x hx
  have hargs : ∀ W', Below W.heap.size W W' → DataW.Trod enc Tryz.prog W' 0 (fun b => decide (b < W.heap.size)) true 22 v0 d0 p := fun W' hb =>
    Below.trod laidOut (by kernel_rfl) (of_decide_eq_true (by kernel_rfl)) h0k hb hlt
  obtain ⟨a0, len, cap, rfl⟩ := okWide_slice Tryz.underlying22 (hval 0 22 v0 rfl rfl)
  rcases open_ints Tryz.underlying22 Tryz.underlying3 cellsI hf with ⟨hcs, hx⟩ | ⟨a, len', cap', zs, hcs, _, hl, hm, hz, hx, hcell, hwz⟩
  · simp [Value.cells] at hcs
    obtain ⟨rfl, rfl, rfl⟩ := hcs
    simp only [Prod.mk.injEq] at hx
    obtain ⟨rfl, rfl⟩ := hx
    refine (law.nil W).mono fun e W' ⟨he, hb⟩ => ?_
    subst he
    exact ⟨_, rfl, ⟨_, _, _, [], _, [], hW', trodAll_mk1 (shut_bool Tryz.underlying4 _), trodAll_mk1 (hargs W' hb), rfl, hb.frame _, fun h => by cases h⟩⟩
  · simp [Value.cells] at hcs
    obtain ⟨rfl, rfl, rfl⟩ := hcs
    simp only [Prod.mk.injEq] at hx
    obtain ⟨rfl, rfl⟩ := hx
    simp only [if_true] at hz
    refine (law.some (len := len) hcell (by rw [hz]; simp only [maxLen] at hm; omega) hz hl).mono fun e W' ⟨he, hb⟩ => ?_
    subst he
    exact ⟨_, rfl, ⟨_, _, _, [], _, [], hW', trodAll_mk1 (shut_bool Tryz.underlying4 _), trodAll_mk1 (hargs W' hb), rfl, hb.frame _, fun h => by cases h⟩⟩
end serverForgets
theorem serverForgets_holds : Rows.ServerForgetsSaid :=
  OpenClaim.holds_of_wide 4 Tryz.f4 rfl rfl rfl rfl rfl rfl rfl ⟨rfl, rfl, rfl, rfl, rfl⟩ rfl rfl rfl rfl rfl (by kernel_rfl) Tryz.func4 (by kernel_rfl)
    (of_decide_eq_true (by kernel_rfl)) (by unfold Func.isWrapper; first | (rw [if_pos (by decide +kernel)]; kernel_rfl) | (rw [if_neg (by decide +kernel)]; exact ⟨rfl, rfl⟩))
    (fun os started H enc _ => serverForgets.lifted os started H enc)
end Go.Proofs.YtlgjkmebpnnphaaGreat
