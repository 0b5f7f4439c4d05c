/- ServerCurves: for every input the law returns true, and the input reads afterwards as it read before. No condition. -/
import Derived.Test.YtaoakchgjgmedaaGreatG6
set_option maxRecDepth 4000
set_option linter.unusedSimpArgs false
set_option linter.unusedVariables false
namespace Go.Proofs.YtaoakchgjgmedaaGreat
open Go Go.RowKit Go.Proofs.YtaoakchgjgmedaaGreat.K Go.Proofs.YtaoakchgjgmedaaGreat.M
theorem Curve19K_C {R : Ro} {wa za : Option Addr} {wc zc : Nat} {w : List Int} {z : List Sz} (hwr : RS R 1 encI wa w) (hzr : RS R 2 encZ za z) {cap cls : Int} (w0 : World) (E : List Ent) : K.Fn Tryz.prog 35 [.int .i64 cap, .int .i64 cls, .slice wa w.length wc, .slice za z.length zc] w0 R E (fun r R' E' => ∃ (f : Option Addr) (fc : Nat), r = cvV f fc (robinC cap cls w z) ∧ RS R' 1 encI f (robinC cap cls w z).1.vals ∧ (robinC cap cls w z).1.vals.length ≤ fc ∧ E.Sublist E') := by
 have hla := hzr.len
 have hlw := hwr.len
 refine fE 103 Tryz.func35 ?_
 refine zQ (zG ?_)
 refine zA fun b8 => ?_
 refine zR 1 rfl (zN (zU (zQ (zQ (zG (zR 4 rfl ?_))))))
 refine WG.callV en60 rfl rfl qD (CallOp.mk' rfl rfl rfl rfl) (fun _ => rfl) (fun hg => Check19_V hwr hzr) ?_
 refine zR 1 rfl (zN (zU (zQ (zG (zR 2 rfl (zN (zU ?_)))))))
 refine cN rfl ?_ ?_ <;> intro hc0
 ·
  have hrob : robinC cap cls w z = (zcv, chkW 20 cap cls w z) := if_pos hc0
  refine zQ (zG ?_)
  refine yW [] ?_
  refine zR 1 rfl ?_
  refine zE 0 ?_
  refine zR 1 rfl (zN (zU (zT (wt ?_))))
  refine zq4 (by first | exact hR1.trans hR4 | exact RLe.refl _) ?_
  exact ⟨none, 0, by rw [hrob]; rfl, by rw [hrob]; exact rs_nil, by rw [hrob]; exact Nat.le_refl _, qS⟩
 ·
  obtain ⟨_, _, hk1, hk2, _, hk4, hk5, hk6⟩ := chkW_ok hc0
  have hwk := hk5 _ (nth_mem (xs := w) (k := cls.toNat) (by omega))
  have hzk := hk6 _ (nth_mem (xs := z) (k := cls.toNat) (by omega))
  have hrb := mulB (a := nth w cls.toNat) (b := (nth z cls.toNat).least) (A := 20) (B := 1500) (by omega) (by omega)
  refine zK (zU (zQ ?_))
  refine W.regionQ _ mixed qK ?_
  refine zR 2 rfl ?_
  refine yX ?_
  refine yD (r := by ((apply RS.rdD; assumption; ((try dsimp only) <;> omega)))) (k := ?_)
  refine zR 2 rfl ?_
  refine yX ?_
  refine zR 1 rfl ?_
  refine yD (r := by apply Rd.add; ((apply RS.rdD; assumption; ((try dsimp only) <;> omega)))) (k := ?_)
  refine yU ?_
  refine zR 1 rfl (zN (zU (zQ (zQ (zG (zR 2 rfl ?_))))))
  refine yX ?_
  refine zR 1 rfl ?_
  refine yD (r := by apply Rd.add; ((apply RS.rdD; assumption; ((try dsimp only) <;> omega)))) (k := ?_)
  refine zR 1 rfl (zN (zU ?_))
  refine cD rfl ?_ ?_ <;> intro hc1
  ·
   have hrob : robinC cap cls w z = (zcv, 5) := by unfold robinC; rw [if_neg (fun h => h hc0), if_pos hc1]
   refine zQ (zG ?_)
   refine yW [] ?_
   refine zE 0 ?_
   refine zR 1 rfl (zN (zU (zT (wt ?_))))
   refine zq4 (by first | exact hR1.trans hR4 | exact RLe.refl _) ?_
   exact ⟨none, 0, by rw [hrob]; rfl, by rw [hrob]; exact rs_nil, by rw [hrob]; exact Nat.le_refl _, qS⟩
  ·
   obtain ⟨cn, kn, m, r, rfl, rfl, c1, k1, zl, hwl, hw, hz, hr, r1, hm, m1, hcase⟩ := rob_cases hc0 (by omega)
   have hqb := qSum_bound (k := (kn : Int)) hw hz w.length (Nat.le_refl _) (by omega)
   rw [show nth w (Int.toNat (kn : Int)) * (nth z (Int.toNat (kn : Int))).least = r from hr.symm]
   refine zK (zU (zQ (zG (zR 4 rfl ?_))))
   refine WG.callV en62 rfl rfl qD (CallOp.mk' rfl rfl rfl rfl) (fun _ => rfl) (fun hg => Sum19_V hwr hzr hw hz hwl qO) ?_
   refine yA ?_
   refine zR 1 rfl ?_
   refine WG.callV (v := svR (shortN m cn)) en61 rfl rfl (by decide) (CallOp.mk' rfl rfl rfl rfl) (fun _ => rfl) (fun hg => by rw [← hm]; exact Short_V (by omega) (by omega)) ?_
   refine zR 5 rfl (zN (zU (zQ (zQ (zG (zR 2 rfl (zN (zU ?_))))))))
   refine cC rfl ?_ ?_ <;> intro hc2
   ·try simp only [zk] at hc2
    have hrob : robinC cn kn w z = (zcv, 3) := by
     rcases hcase with ⟨_, h⟩ | ⟨s, p, mm, hro, _⟩
     ·exact h
     ·rw [hro.hs] at hc2; omega
    refine zQ (zG ?_)
    refine yW [] ?_
    refine zE 0 ?_
    refine zR 1 rfl (zN (zU (zT (wt ?_))))
    refine zq4 (by first | exact hR1.trans hR4 | exact RLe.refl _) ?_
    exact ⟨none, 0, by rw [hrob]; rfl, by rw [hrob]; exact rs_nil, by rw [hrob]; exact Nat.le_refl _, qS⟩
   ·try simp only [zk] at hc2
    refine zK (zU ?_)
    obtain ⟨s, p, mm, hro, hrob⟩ : ∃ s p mm, RobOk cn kn w z cn kn m s p mm r ∧ robinC cn kn w z = mbuild (robinF cn s r) 0 p ((cn : Int) * p / s * r) := by
     rcases hcase with ⟨h, _⟩ | h
     ·exact absurd h hc2
     ·exact h
    have hsn := hro.hs
    have hne : ¬ ((s : Int) = -1) := by omega
    have hs1 := hro.s1
    have hp1 := hro.p1
    obtain ⟨hgr, hinc, hFb, hmade⟩ := hro.facts
    rw [hsn, if_neg hne]
    have hcp := mulB (a := (cn : Int)) (b := (p : Int)) (A := 4000) (B := 120) (by omega) (by omega)
    have hcq : 0 ≤ (cn : Int) * p / s := Int.ediv_nonneg (by omega) (by omega)
    have hcq2 : (cn : Int) * p / s ≤ (cn : Int) * p := Int.ediv_le_self _ (by omega)
    have hg : 0 < Nat.gcd s cn := Nat.gcd_pos_of_pos_right _ (by omega)
    have epp : (s : Int) / (Nat.gcd s cn : Int) = (p : Int) := by rw [hro.hp]; rfl
    refine zQ (zG (zR 3 rfl ?_))
    refine WG.callV en63 rfl rfl qD (CallOp.mk' rfl rfl rfl rfl) (fun _ => rfl) (fun hg => Gcd_V) ?_
    refine yV ?_
    refine zR 1 rfl (zN (zU ?_))
    rw [epp]
    refine zQ (zG (zR 3 rfl ?_))
    refine yU ?_
    refine zR 1 rfl ?_
    refine yV ?_
    refine zR 1 rfl ?_
    refine yU ?_
    refine yW [(1, .tmp 63), (2, .tmp 70)] ?_
    refine zA fun b15 => ?_
    refine zE 0 ?_
    refine zN (zU ?_)
    refine W.nil 3 1 qD ?_
    refine zQ (zG (zR 1 rfl (zN (zU (zQ (zQ (zG (zR 1 rfl (zN (zU (zB ?_)))))))))))
    refine W.loopK (β := Nat × Nat × Option Addr × Nat) (fun (t, y, a9, c9) => t ≤ p ∧ ∀ j, j < y → robinH cn s r t j = false) (fun (t, y, a9, c9) => [(16, true, .int .i64 (y : Int)), (17, true, .int .i64 (t : Int))]) [0, 8, 11, 12, 14, 15] [_, _, _, _, _, _] [] _ rfl (fun (t, y, a9, c9) => [(0, .sl 3 1 a9 c9 ((fvals (robinF cn s r) t).map encI)), (1, .blk b15 [.slice a9 (fvals (robinF cn s r) t).length c9, .int .i64 (p : Int), .int .i64 ((cn : Int) * p / s * r)])]) (fun (t, y, a9, c9) => p - t) ((0, 0, none, 0)) (⟨Nat.zero_le _, fun j hj => by omega⟩) ⟨rfl, rfl, rfl, rfl, rfl, rfl, rfl, rfl, rfl⟩ qS ?_
    intro st hst
    obtain ⟨t, y, a9, c9⟩ := st
    dsimp only [zipE, setAll, List.cons_append, List.nil_append, List.set_cons_zero, List.set_cons_succ]
    obtain ⟨htp0, hlow⟩ := hst
    have hfl := fvals_len (robinF cn s r) t
    refine zQ (zQ (zG (zR 3 rfl (zN (zU ?_)))))
    refine cD rfl ?_ ?_ <;> intro hc3
    ·
     have htp : t < p := by omega
     have hct := mulB (a := (cn : Int)) (b := (t : Int)) (A := 4000) (B := 120) (by omega) (by omega)
     have hHb := robinH_bound (cap := (cn : Int)) (s := (s : Int)) (r := r) (by omega) (by omega) t (by omega)
     obtain ⟨l1, l2, l3⟩ := leastY_is hHb
     refine zK (zU (zQ (zB (zQ (zB ?_)))))
     refine W.loopK (β := Nat) (fun y => ∀ j, j < y → robinH cn s r t j = false) (fun y => [(16, true, .int .i64 (y : Int))]) [0, 8, 11, 12, 14, 15, 17] [_, _, _, _, _, _, _] [] _ rfl (fun y => []) (fun y => leastY (robinH cn s r t) ((cn : Int) * t).toNat + 1 - y) (y) (hlow) ⟨rfl, rfl, rfl, rfl, rfl, rfl, rfl, rfl, rfl⟩ qS ?_
     intro y hst
     dsimp only [zipE, setAll, List.cons_append, List.nil_append, List.set_cons_zero, List.set_cons_succ]
     have hyl : y ≤ leastY (robinH cn s r t) ((cn : Int) * t).toNat := by
      apply Classical.byContradiction
      intro hh
      rw [hst _ (Nat.lt_of_not_le hh)] at l2; cases l2
     have hq0 : 0 ≤ (y : Int) / r := Int.ediv_nonneg (by omega) (by omega)
     have hq1 : (y : Int) / r ≤ y := Int.ediv_le_self _ (by omega)
     have hp3 := mulB (a := (s : Int) - r) (b := (y : Int) / r + 1) (A := 480000) (B := 480001) (by omega) (by omega)
     refine zQ (zQ (zG (zR 3 rfl ?_)))
     refine yS ?_
     refine zR 2 rfl ?_
     refine yV ?_
     refine yA ?_
     refine yU ?_
     refine yA ?_
     refine zR 2 rfl ?_
     refine yU ?_
     refine zR 1 rfl (zN (zU ?_))
     refine cD rfl ?_ ?_ <;> intro hc4
     ·
      have hno : robinH cn s r t y = false := decide_eq_false (by omega)
      refine zK (zU (zB (zG (zR 1 rfl ?_))))
      refine yA ?_
      refine zR 1 rfl (zN (zL ?_))
      refine WE.again (y + 1) (fun j hj => by
       by_cases e : j = y
       ·subst e; exact hno
       ·exact hst j (by omega)) (by (try dsimp only); omega) ⟨rfl, rfl, rfl, rfl, rfl, rfl, rfl, rfl, rfl⟩ (RLe.refl _) qS
     ·
      have hyes : robinH cn s r t y = true := decide_eq_true (by omega)
      have hfy : robinF cn s r t = (y : Int) := by unfold robinF; rw [leastY_eq hHb hyes hst]
      have e1 : fvals (robinF cn s r) (t + 1) = fvals (robinF cn s r) t ++ [(y : Int)] := by rw [fvals_snoc, hfy]
      refine zX ?_
      refine wx (wx (zY (zU (zG (zR 1 rfl ?_)))))
      refine yM 1 ?_
      refine zR 1 rfl ?_
      refine WL.ef rfl rfl qD (Ef.buildSliceD (enc := encI) (parts := [.tmp 95]) [_] tab_ok rfl rfl rfl rfl rfl rfl rfl rfl qD qD (fun a96 => ?_))
      refine WL.ef rfl rfl (by decide) (Ef.appendD 1 0 tab_ok rfl rfl rfl rfl rfl rfl rfl rfl rfl rfl rfl (fun _ _ => rfl) (by simp only [List.length_cons, List.length_nil]; omega) (by simp only [List.length_cons, List.length_nil]; omega) (fun a97 c97 ha97 => ?_))
      refine zR 1 rfl ?_
      refine zF 2 ?_
      refine zN (zL (zU (zG (zR 1 rfl ?_))))
      refine yA ?_
      refine zR 1 rfl (zN ?_)
      refine WE.again ((t + 1, y, a97, c97)) (⟨by dsimp only; omega, fun j hj => by
       rw [← Bool.not_eq_true]
       intro h
       have := robinH_less (by omega) h
       rw [hst j hj] at this; cases this⟩) (by (try dsimp only); omega) ⟨rfl, rfl, rfl, rfl, rfl, rfl, rfl, rfl, rfl⟩ (RLe.refl _) (by dsimp only [setAll, List.set_cons_zero, List.set_cons_succ]; rw [e1]; exact List.Sublist.cons _ (List.Sublist.refl _))
    ·
     obtain rfl : t = p := by omega
     refine zX ?_
     refine wx (wx (zY (zU ?_)))
     refine W.freeze (enc := encI) (xs := fvals (robinF cn s r) t) 0 rfl ?_
     intro R1 hR1 hv0
     have hpre := made_pre (S := 0) (by omega) (by omega) (by omega) hgr (fun t ht => by have := hFb t (by omega); omega)
     rw [Nat.zero_add] at hpre
     refine zQ (zG ?_)
     refine yB 0 ?_
     refine WL.call en64 rfl rfl (by decide) (CallOp.mkT rfl rfl rfl rfl) (MadeK_C (per := (t : Int)) hv0 ⟨by rw [fvals_len]; omega, by rw [fvals_len]; omega⟩ (fun h => absurd hpre.2.2.2.1 h) (by omega) (by omega) hpre.1 (fun _ => hpre.2.1) (fun t h1 h2 _ => hpre.2.2.1 t h1 h2) hpre.2.2.2.2 w0 _) ?_
     rintro _ R4 E4 hR4 ⟨f, fc, rfl, hf, hcpk, hsub⟩
     refine WL.subE hsub ?_
     unfold cvV
     refine zR 2 rfl ?_
     refine zE 1 ?_
     refine zR 1 rfl (zN (zU (zT ?_)))
     refine zq4 (by first | exact hR1.trans hR4 | exact RLe.refl _) ?_
     exact ⟨f, fc, by rw [hrob, hmade]; rfl, by rw [hrob, hmade]; exact hf, by rw [hrob, hmade]; exact hcpk, qS⟩

theorem Curve20K_C {R : Ro} {wa za : Option Addr} {wc zc : Nat} {w : List Int} {z : List Sz} (hwr : RS R 1 encI wa w) (hzr : RS R 2 encZ za z) {cap cls : Int} (w0 : World) (E : List Ent) : K.Fn Tryz.prog 36 [.int .i64 cap, .int .i64 cls, .slice wa w.length wc, .slice za z.length zc] w0 R E (fun r R' E' => ∃ (f : Option Addr) (fc : Nat), r = cvV f fc (defC cap cls w z) ∧ RS R' 1 encI f (defC cap cls w z).1.vals ∧ (defC cap cls w z).1.vals.length ≤ fc ∧ E.Sublist E') := by
 have hla := hzr.len
 have hlw := hwr.len
 refine fE 136 Tryz.func36 ?_
 refine zQ (zG ?_)
 refine zA fun b8 => ?_
 refine zR 1 rfl (zN (zU (zQ (zQ (zG (zR 4 rfl ?_))))))
 refine WG.callV en65 rfl rfl qD (CallOp.mk' rfl rfl rfl rfl) (fun _ => rfl) (fun hg => Check20_V hwr hzr) ?_
 refine zR 1 rfl (zN (zU (zQ (zG (zR 2 rfl (zN (zU ?_)))))))
 refine cN rfl ?_ ?_ <;> intro hc0
 ·
  have hdef : defC cap cls w z = (zcv, chkW 6000 cap cls w z) := if_pos hc0
  refine zQ (zG ?_)
  refine yW [] ?_
  refine zR 1 rfl ?_
  refine zE 0 ?_
  refine zR 1 rfl (zN (zU (zT (wt ?_))))
  refine zq4 (by first | exact hR1.trans hR4 | exact RLe.refl _) ?_
  exact ⟨none, 0, by rw [hdef]; rfl, by rw [hdef]; exact rs_nil, by rw [hdef]; exact Nat.le_refl _, qS⟩
 ·
  obtain ⟨_, _, hk1, hk2, _, hk4, _⟩ := chkW_ok hc0
  refine zK (zU (zQ (zQ (zG (zR 2 rfl ?_)))))
  refine yX ?_
  refine zR 1 rfl ?_
  refine yD (r := by apply Rd.add; ((apply RS.rdD; assumption; ((try dsimp only) <;> omega)))) (k := ?_)
  refine zR 1 rfl (zN (zU ?_))
  refine cD rfl ?_ ?_ <;> intro hc1
  ·
   have hdef : defC cap cls w z = (zcv, 5) := by unfold defC; rw [if_neg (fun h => h hc0), if_pos hc1]
   refine zQ (zG ?_)
   refine yW [] ?_
   refine zE 0 ?_
   refine zR 1 rfl (zN (zU (zT (wt ?_))))
   refine zq4 (by first | exact hR1.trans hR4 | exact RLe.refl _) ?_
   exact ⟨none, 0, by rw [hdef]; rfl, by rw [hdef]; exact rs_nil, by rw [hdef]; exact Nat.le_refl _, qS⟩
  ·
   obtain ⟨cn, kn, m, q, l, x, y, rfl, rfl, c1, k1, zl, hwl, hw, hz, hq, hl, q1, l1, hx, hy, x1, y1, hm, m1, hcase⟩ := def_cases hc0 (by omega)
   refine zK (zU (zQ ?_))
   refine W.regionQ _ mixed qK ?_
   refine zR 2 rfl ?_
   refine yX ?_
   refine yD (r := by ((apply RS.rdD; assumption; ((try dsimp only) <;> omega)))) (k := ?_)
   refine zR 2 rfl ?_
   refine yX ?_
   refine zR 1 rfl ?_
   refine yD (r := by apply Rd.add; ((apply RS.rdD; assumption; ((try dsimp only) <;> omega)))) (k := ?_)
   refine zR 2 rfl (zN (zU ?_))
   rw [show nth w (Int.toNat (kn : Int)) = q from hq.symm, show (nth z (Int.toNat (kn : Int))).most = l from hl.symm]
   refine zQ (zG (zR 3 rfl ?_))
   refine WG.callV (v := .tuple #[.int .i64 x, .int .i64 y]) en66 rfl rfl (by decide) (CallOp.mk' rfl rfl rfl rfl) (fun _ => rfl) (fun hg => by rw [hx, hy]; exact Sums20_V hwr hzr hw hz hwl (by omega)) ?_
   refine zR 5 rfl (zN (zU (zQ (zG (zR 2 rfl ?_)))))
   refine yA ?_
   refine zR 1 rfl ?_
   refine WG.callV (v := svR (shortN m cn)) en61 rfl rfl (by decide) (CallOp.mk' rfl rfl rfl rfl) (fun _ => rfl) (fun hg => by rw [← hm]; exact Short_V (by omega) (by omega)) ?_
   refine zR 5 rfl (zN (zU (zQ (zQ (zG (zR 2 rfl (zN (zU ?_))))))))
   refine cC rfl ?_ ?_ <;> intro hc2
   ·try simp only [zk] at hc2
    have hdef : defC cn kn w z = (zcv, 3) := by
     rcases hcase with ⟨_, h⟩ | ⟨s, p, mm, hro, _⟩
     ·exact h
     ·rw [hro.hs] at hc2; omega
    refine zQ (zG ?_)
    refine yW [] ?_
    refine zE 0 ?_
    refine zR 1 rfl (zN (zU (zT (wt ?_))))
    refine zq4 (by first | exact hR1.trans hR4 | exact RLe.refl _) ?_
    exact ⟨none, 0, by rw [hdef]; rfl, by rw [hdef]; exact rs_nil, by rw [hdef]; exact Nat.le_refl _, qS⟩
   ·try simp only [zk] at hc2
    refine zK (zU ?_)
    obtain ⟨s, p, mm, hro, hdef⟩ : ∃ s p mm, DefOk cn kn w z cn kn m s p mm q l x y ∧ defC cn kn w z = if 400 < fromD cn s q l y then (zcv, 3) else madeR ⟨fvals (defFn cn s q l y) ((fromD cn s q l y).toNat + p), p, (cn : Int) * p / s * q⟩ := by
     rcases hcase with ⟨h, _⟩ | h
     ·exact absurd h hc2
     ·exact h
    have hsn := hro.hs
    have hne : ¬ ((s : Int) = -1) := by omega
    have hs1 := hro.s1
    have hsx := hro.sx
    have hp1 := hro.p1
    have hsb : (s : Int) ≤ 480000 := by omega
    obtain ⟨hst0, hst1, hst2⟩ := start_bound (cap := (cn : Int)) (s := (s : Int)) (q := q) (l := l) (z := y) (by omega) (by omega) (by omega) (by omega) (by omega)
    have hFb : ∀ t : Nat, t ≤ 1000 → 0 ≤ defFn cn s q l y t ∧ defFn cn s q l y t ≤ 4000000 := fun t ht => by
     have h1 := defFn_bound (cap := (cn : Int)) (s := (s : Int)) (q := q) (l := l) (z := y) (by omega) (by omega) (by omega) (by omega) (by omega) t
     have h2 := mulB (a := (cn : Int)) (b := (t : Int)) (A := 4000) (B := 1000) (by omega) (by omega)
     omega
    have hinc : 0 ≤ (cn : Int) * p / s * q ∧ (cn : Int) * p / s * q ≤ 24000000 := by
     rw [hro.hinc]
     have := hro.mm1
     have := mulB (a := (mm : Int)) (b := q) (A := 4000) (B := 6000) (by omega) (by omega)
     omega
    have hcp := mulB (a := (cn : Int)) (b := (p : Int)) (A := 4000) (B := 120) (by omega) (by omega)
    have hcq : 0 ≤ (cn : Int) * p / s := Int.ediv_nonneg (by omega) (by omega)
    have hcq2 : (cn : Int) * p / s ≤ (cn : Int) * p := Int.ediv_le_self _ (by omega)
    rw [hsn, if_neg hne]
    have hg : 0 < Nat.gcd s cn := Nat.gcd_pos_of_pos_right _ (by omega)
    have epp : (s : Int) / (Nat.gcd s cn : Int) = (p : Int) := by rw [hro.hp]; rfl
    refine zQ (zG (zR 3 rfl ?_))
    refine WG.callV en63 rfl rfl qD (CallOp.mk' rfl rfl rfl rfl) (fun _ => rfl) (fun hg => Gcd_V) ?_
    refine yV ?_
    refine zR 1 rfl (zN (zU ?_))
    rw [epp]
    have hl0 : 0 ≤ (l - 1) / q := Int.ediv_nonneg (by omega) (by omega)
    have hl1 : (l - 1) / q ≤ l - 1 := Int.ediv_le_self _ (by omega)
    have hfb := mulB (a := (s : Int) - q) (b := (l - 1) / q + 1) (A := 480000) (B := 1500) (by omega) (by omega)
    have hf0 : 0 ≤ (((s : Int) - q) * ((l - 1) / q + 1) + y) / (cn : Int) := Int.ediv_nonneg (by omega) (by omega)
    have hf1 : (((s : Int) - q) * ((l - 1) / q + 1) + y) / (cn : Int) ≤ ((s : Int) - q) * ((l - 1) / q + 1) + y := Int.ediv_le_self _ (by omega)
    refine zQ (zG (zR 2 rfl ?_))
    refine yS ?_
    refine zR 1 rfl ?_
    refine yS ?_
    refine zR 1 rfl ?_
    refine yV ?_
    refine yA ?_
    refine yU ?_
    refine zR 1 rfl ?_
    refine yA ?_
    refine zR 1 rfl (zN (zU (zQ (zG (zR 2 rfl ?_)))))
    refine yV ?_
    refine yA ?_
    refine zR 1 rfl (zN (zU (zQ ?_)))
    obtain ⟨Fr, hFr⟩ := Int.eq_ofNat_of_zero_le (show 0 ≤ fromD (cn : Int) (s : Int) q l y by omega)
    rw [show (((s : Int) - q) * ((l - 1) / q + 1) + y) / (cn : Int) + 1 = (Fr : Int) from hFr]
    have hgr := defFn_grows (cap := (cn : Int)) (s := (s : Int)) (q := q) (l := l) (z := y) (S := Fr) (by omega) (by omega) (by omega) (by omega) (by omega) hro.hmm (by omega)
    rw [← hro.hinc] at hgr
    refine zQ (zG (zR 2 rfl (zN (zU ?_))))
    refine cD rfl ?_ ?_ <;> intro hc3
    ·
     have hdef : defC cn kn w z = (zcv, 3) := by rw [hdef, if_pos (by omega)]
     refine zQ (zG ?_)
     refine yW [] ?_
     refine zE 0 ?_
     refine zR 1 rfl (zN (zU (zT (wt ?_))))
     refine zq4 (by first | exact hR1.trans hR4 | exact RLe.refl _) ?_
     exact ⟨none, 0, by rw [hdef]; rfl, by rw [hdef]; exact rs_nil, by rw [hdef]; exact Nat.le_refl _, qS⟩
    ·
     refine zK (zU (zQ (zG (zR 3 rfl ?_))))
     refine yU ?_
     refine zR 1 rfl ?_
     refine yV ?_
     refine zR 1 rfl ?_
     refine yU ?_
     refine yW [(1, .tmp 89), (2, .tmp 96)] ?_
     refine zA fun b20 => ?_
     refine zE 0 ?_
     refine zN (zU (zQ (zG (zR 1 rfl (zN (zU (zQ ?_)))))))
     refine W.nil 3 1 qD ?_
     refine zQ (zG (zR 1 rfl (zN (zU (zB ?_)))))
     refine W.loopK (β := Nat × Nat × Option Addr × Nat) (fun (t, v, a9, c9) => t ≤ Fr + p ∧ ∀ j, j < v → defH cn s q l y t j = false) (fun (t, v, a9, c9) => [(21, true, .int .i64 (v : Int)), (22, true, .int .i64 (t : Int))]) [0, 8, 11, 12, 14, 15, 17, 19, 20] [_, _, _, _, _, _, _, _, _] [] _ rfl (fun (t, v, a9, c9) => [(0, .sl 3 1 a9 c9 ((fvals (defFn (cn : Int) (s : Int) q l y) t).map encI)), (1, .blk b20 [.slice a9 (fvals (defFn (cn : Int) (s : Int) q l y) t).length c9, .int .i64 (p : Int), .int .i64 ((cn : Int) * p / s * q)])]) (fun (t, v, a9, c9) => Fr + p - t) ((0, 0, none, 0)) (⟨Nat.zero_le _, fun j hj => by omega⟩) ⟨rfl, rfl, rfl, rfl, rfl, rfl, rfl, rfl, rfl, rfl, rfl, rfl⟩ qS ?_
     intro st hst
     obtain ⟨t, v, a9, c9⟩ := st
     dsimp only [zipE, setAll, List.cons_append, List.nil_append, List.set_cons_zero, List.set_cons_succ]
     obtain ⟨htp0, hlow⟩ := hst
     have hfl := fvals_len (defFn (cn : Int) (s : Int) q l y) t
     refine zQ (zQ (zG (zR 3 rfl ?_)))
     refine yA ?_
     refine zR 1 rfl (zN (zU ?_))
     refine cD rfl ?_ ?_ <;> intro hc4
     ·
      have htp : t < Fr + p := by omega
      have hct := mulB (a := (cn : Int)) (b := (t : Int)) (A := 4000) (B := 520) (by omega) (by omega)
      have hHb := defH_bound (cap := (cn : Int)) (s := (s : Int)) (q := q) (l := l) (z := y) (by omega) (by omega) (by omega) (by omega) t (by omega)
      obtain ⟨l1', l2', l3'⟩ := leastY_is hHb
      refine zK (zU (zQ (zB (zQ (zB ?_)))))
      refine W.loopK (β := Nat) (fun v => ∀ j, j < v → defH cn s q l y t j = false) (fun v => [(21, true, .int .i64 (v : Int))]) [0, 8, 11, 12, 14, 15, 17, 19, 20, 22] [_, _, _, _, _, _, _, _, _, _] [] _ rfl (fun v => []) (fun v => leastY (defH cn s q l y t) ((cn : Int) * t).toNat + 1 - v) (v) (hlow) ⟨rfl, rfl, rfl, rfl, rfl, rfl, rfl, rfl, rfl, rfl, rfl, rfl⟩ qS ?_
      intro v hst
      dsimp only [zipE, setAll, List.cons_append, List.nil_append, List.set_cons_zero, List.set_cons_succ]
      have hyl : v ≤ leastY (defH cn s q l y t) ((cn : Int) * t).toNat := by
       apply Classical.byContradiction
       intro hh
       rw [hst _ (Nat.lt_of_not_le hh)] at l2'; cases l2'
      have hq0 : 0 ≤ ((v : Int) + l - 1) / q := Int.ediv_nonneg (by omega) (by omega)
      have hq1 : ((v : Int) + l - 1) / q ≤ (v : Int) + l - 1 := Int.ediv_le_self _ (by omega)
      have hp3 := mulB (a := (s : Int) - q) (b := ((v : Int) + l - 1) / q + 1) (A := 480000) (B := 2100000) (by omega) (by omega)
      refine zQ (zQ (zG (zR 3 rfl ?_)))
      refine yS ?_
      refine zR 2 rfl ?_
      refine yA ?_
      refine yS ?_
      refine zR 1 rfl ?_
      refine yV ?_
      refine yA ?_
      refine yU ?_
      refine yA ?_
      refine zR 1 rfl ?_
      refine yA ?_
      refine zR 2 rfl ?_
      refine yU ?_
      refine zR 1 rfl (zN (zU ?_))
      refine cD rfl ?_ ?_ <;> intro hc5
      ·
       have hno : defH cn s q l y t v = false := decide_eq_false (by unfold allD; omega)
       refine zK (zU (zB (zG (zR 1 rfl ?_))))
       refine yA ?_
       refine zR 1 rfl (zN (zL ?_))
       refine WE.again (v + 1) (fun j hj => by
        by_cases e : j = v
        ·subst e; exact hno
        ·exact hst j (by omega)) (by (try dsimp only); omega) ⟨rfl, rfl, rfl, rfl, rfl, rfl, rfl, rfl, rfl, rfl, rfl, rfl⟩ (RLe.refl _) qS
      ·
       have hyes : defH cn s q l y t v = true := decide_eq_true (by unfold allD; omega)
       have hfy : defFn cn s q l y t = (v : Int) := by unfold defFn; rw [leastY_eq hHb hyes hst]
       have e1 : fvals (defFn (cn : Int) (s : Int) q l y) (t + 1) = fvals (defFn (cn : Int) (s : Int) q l y) t ++ [(v : Int)] := by rw [fvals_snoc, hfy]
       refine zX ?_
       refine wx (wx (zY (zU (zG (zR 1 rfl ?_)))))
       refine yM 1 ?_
       refine zR 1 rfl ?_
       refine WL.ef rfl rfl qD (Ef.buildSliceD (enc := encI) (parts := [.tmp 128]) [_] tab_ok rfl rfl rfl rfl rfl rfl rfl rfl qD qD (fun a129 => ?_))
       refine WL.ef rfl rfl (by decide) (Ef.appendD 1 0 tab_ok rfl rfl rfl rfl rfl rfl rfl rfl rfl rfl rfl (fun _ _ => rfl) (by simp only [List.length_cons, List.length_nil]; omega) (by simp only [List.length_cons, List.length_nil]; omega) (fun a130 c130 ha130 => ?_))
       refine zR 1 rfl ?_
       refine zF 2 ?_
       refine zN (zL (zU (zG (zR 1 rfl ?_))))
       refine yA ?_
       refine zR 1 rfl (zN ?_)
       refine WE.again ((t + 1, v, a130, c130)) (⟨by dsimp only; omega, fun j hj => by
        rw [← Bool.not_eq_true]
        intro h
        have := defH_less (by omega) h
        rw [hst j hj] at this; cases this⟩) (by (try dsimp only); omega) ⟨rfl, rfl, rfl, rfl, rfl, rfl, rfl, rfl, rfl, rfl, rfl, rfl⟩ (RLe.refl _) (by dsimp only [setAll, List.set_cons_zero, List.set_cons_succ]; rw [e1]; exact List.Sublist.cons _ (List.Sublist.refl _))
     ·
      obtain rfl : t = Fr + p := by omega
      refine zX ?_
      refine wx (wx (zY (zU ?_)))
      refine W.freeze (enc := encI) (xs := fvals (defFn (cn : Int) (s : Int) q l y) (Fr + p)) 0 rfl ?_
      intro R1 hR1 hv0
      have hpre := made_pre (S := Fr) (by omega) (by omega) (by omega) hgr (fun t ht => by have := hFb t (by omega); omega)
      refine zQ (zG ?_)
      refine yB 0 ?_
      refine WL.call en64 rfl rfl (by decide) (CallOp.mkT rfl rfl rfl rfl) (MadeK_C (per := (p : Int)) hv0 ⟨by rw [fvals_len]; omega, by rw [fvals_len]; omega⟩ (fun h => absurd hpre.2.2.2.1 h) (by omega) (by omega) hpre.1 (fun _ => hpre.2.1) (fun t h1 h2 _ => hpre.2.2.1 t h1 h2) hpre.2.2.2.2 w0 _) ?_
      rintro _ R4 E4 hR4 ⟨f, fc, rfl, hf, hcpk, hsub⟩
      refine WL.subE hsub ?_
      have hbm : madeR ⟨fvals (defFn cn s q l y) (Fr + p), p, (cn : Int) * p / s * q⟩ = defC cn kn w z := by rw [hdef, hFr, if_neg (by omega), Int.toNat_natCast]
      rw [hbm] at hf hcpk ⊢
      unfold cvV
      refine zR 2 rfl ?_
      refine zE 1 ?_
      refine zR 1 rfl (zN (zU (zT ?_)))
      refine zq4 (by first | exact hR1.trans hR4 | exact RLe.refl _) ?_
      exact ⟨f, fc, rfl, hf, hcpk, qS⟩

theorem vbool {a b : Bool} (h : a = b) : some (true, Value.bool a) = some (true, Value.bool b) := by rw [h]
theorem Counts_V {R : Ro} {wa : Option Addr} {wc : Nat} {tb : List Int} (hwr : RS R 1 encI wa tb) {cap cls most : Int} {a k : Nat} (hn : 0 < tb.length) (hc : 0 ≤ cap ∧ cap ≤ 4000) (hm : 1 ≤ most ∧ most ≤ 1500) (hak : a + k ≤ 1000) : FnV Tryz.prog 69 [.int .i64 cap, .int .i64 cls, .slice wa tb.length wc, .int .i64 most, .int .i64 (a : Int), .int .i64 (k : Int)] R (.int .i64 (cntS cap (most - 1) (mineT tb cls) a k)) := by
 have hla := hwr.len
 refine Fn.toV (fun w0 E => ?_)
 refine fE 52 Tryz.func69 ?_
 refine zQ (zG (zR 1 rfl (zN (zU (zQ (zG (zR 2 rfl (zN (zU (zQ (zQ (zG (zR 2 rfl (zN (zU (zB ?_))))))))))))))))
 refine W.loopK (β := Nat) (fun i => i ≤ k + 1) (fun i => [(13, true, .int .i64 (crow cap (most - 1) (mineT tb cls) a k i).1), (14, true, .int .i64 ((crow cap (most - 1) (mineT tb cls) a k i).2 : Int)), (15, true, .int .i64 ((a : Int) + (i : Int)))]) [0, 1, 2, 3, 4, 5] [_, _, _, _, _, _] [] _ rfl (fun i => []) (fun i => k + 1 - i) (0) (Nat.zero_le _) ⟨vint (by unfold crow; rw [if_pos (Nat.zero_le _)]; rfl), vint (by unfold crow; rw [if_pos (Nat.zero_le _)]; rfl), vint (by simp), rfl, rfl, rfl, rfl, rfl, rfl, rfl⟩ qS ?_
 intro i hst
 have hce : ((a : Int) + (i : Int)) % (tb.length : Int) = (((a + i) % tb.length : Nat) : Int) := rfl
 have hml := Nat.mod_lt (a + i) hn
 have hS := slotS_nonneg (cap := cap) (lost := (most - 1)) (mine := mineT tb cls) (a := a) hc.1 i
 rw [slotS_rowR, show max 0 (-(most - 1)) = 0 by omega, Int.zero_mul] at hS
 dsimp only at hS
 have hcb := mulB (a := cap) (b := (i : Int)) (A := 4000) (B := 1001) (by omega) (by omega)
 have hrl := rowR_le cap (most - 1) (mineT tb cls) a i
 generalize hRR : rowR cap (most - 1) (mineT tb cls) a i = rr at hS hrl
 refine zQ (zQ (zG (zR 3 rfl ?_)))
 refine yA ?_
 refine zR 1 rfl (zN (zU ?_))
 refine cD rfl ?_ ?_ <;> intro hc0
 ·
  have hik : i ≤ k := by omega
  have ecr : (crow cap (most - 1) (mineT tb cls) a k i) = rr := by unfold crow; rw [if_pos hik, hRR]
  refine zK (zU (zQ (zB (zQ ?_))))
  rw [ecr]
  refine zQ (zG (zR 3 rfl ?_))
  refine yA ?_
  refine zR 2 rfl ?_
  refine yP ?_
  refine yP ?_
  refine yP ?_
  refine yP ?_
  refine WG.y rfl rfl (by decide) (Yl.rem rfl rfl rfl qE (by intro hg; (try simp only [zk] at hg); (try dsimp only) <;> omega) (by intro hg; (try simp only [zk] at hg); (try dsimp only) <;> omega)) ?_
  rw [hce]
  refine gI ?_
  refine yJ (r := by ((apply RS.rdC; assumption))) (k := ?_)
  refine yP ?_
  refine yP ?_
  refine yN ?_
  refine zN (zU ?_)
  refine cC rfl ?_ ?_ <;> intro hc1
  ·try simp only [zk] at hc1
   have hm1 : mineT tb cls (a + i) = true := by unfold mineT slotT; rw [beq_iff_eq]; exact hc1.2
   have ecn : crow cap (most - 1) (mineT tb cls) a k (i + 1) = (rr.1, rr.2 + 1) := by unfold crow; rw [if_pos (by omega)]; simp only [rowR]; rw [if_pos hm1, hRR]
   refine zQ (zG (zR 1 rfl ?_))
   refine yA ?_
   refine zR 1 rfl (zN (zU ?_))
   refine zX ?_
   refine wx (zY (zU (zG (zR 1 rfl ?_))))
   refine yA ?_
   refine zR 1 rfl (zN ?_)
   refine WE.again (i + 1) (by omega) (by (try dsimp only); omega) ⟨vint (by rw [ecn]), vint (by rw [ecn]; simp), vint (by simp; omega), rfl, rfl, rfl, rfl, rfl, rfl, rfl⟩ (RLe.refl _) qS
  ·try simp only [zk] at hc1
   have hmx : (if (0 : Int) < cap * (rr.2 : Int) - (most - 1) then cap * (rr.2 : Int) - (most - 1) else 0) = max 0 (cap * (rr.2 : Int) - (most - 1)) := by split <;> omega
   have ecn : crow cap (most - 1) (mineT tb cls) a k (i + 1) = (rr.1 + max 0 (cap * (rr.2 : Int) - (most - 1)), 0) := by
    unfold crow
    by_cases hik2 : i + 1 ≤ k
    ·have hm1 : ¬ mineT tb cls (a + i) = true := by
      unfold mineT slotT
      rw [beq_iff_eq]
      intro h
      have hlt : (a : Int) + (i : Int) < (a : Int) + (k : Int) := by omega
      exact hc1 hlt h
     rw [if_pos hik2]; simp only [rowR]; rw [if_neg hm1, hRR]
    ·obtain rfl : i = k := by omega
     rw [if_neg hik2, cntS_rowR, hRR]
   refine zK (zU (zQ (zG (zR 3 rfl ?_))))
   refine yU ?_
   refine zR 1 rfl ?_
   refine yS ?_
   refine yS ?_
   refine zR 1 rfl ?_
   refine yA ?_
   refine zR 1 rfl (zN (zU (zG (zR 1 rfl (zN (zL (zU (zG (zR 1 rfl ?_)))))))))
   refine yA ?_
   refine zR 1 rfl (zN ?_)
   refine WE.again (i + 1) (by omega) (by (try dsimp only); omega) ⟨vint (by rw [ecn, ← hmx]), vint (by rw [ecn]; rfl), vint (by simp; omega), rfl, rfl, rfl, rfl, rfl, rfl, rfl⟩ (RLe.refl _) qS
 ·
  obtain rfl : i = k + 1 := by omega
  have ecr : (crow cap (most - 1) (mineT tb cls) a k (k + 1)) = (cntS cap (most - 1) (mineT tb cls) a k, 0) := by unfold crow; rw [if_neg (by omega)]
  refine zX ?_
  refine wx (wx (zY (zU (zQ (zG (zR 2 rfl (zN (zU (zT ?_)))))))))
  refine sE (E := E) ?_
  refine zr1 ?_
  exact ⟨by rw [ecr]; rfl, rfl⟩
theorem ServeR_ok {R : Ro} {cap : Int} (hc : 1 ≤ cap ∧ cap ≤ 4000) (w0 : World) (E : List Ent) :
  K.Fn Tryz.prog 58 [.int .i64 cap] w0 R E (fun v R' E' => ∃ f : Option Addr, v = .tuple #[.agg #[.slice f 1 1, .int .i64 1, .int .i64 cap], .int .i64 0] ∧ RS R' 1 encI f [0] ∧ E.Sublist E') := by
 refine fE 14 Tryz.func58 ?_
 refine zQ (zG ?_)
 refine zA fun b2 => ?_
 refine zR 1 rfl (zN (zU (zQ (zQ (zG (zR 3 rfl ?_))))))
 refine yP ?_
 refine yP ?_
 refine yO ?_
 refine zN (zU ?_)
 refine cC rfl ?_ ?_ <;> intro hc0
 ·try simp only [zk] at hc0
  omega
 ·try simp only [zk] at hc0
  refine zK (zU (zQ (zG ?_)))
  refine WL.ef rfl rfl qD (Ef.buildSliceD (enc := encI) (parts := [.const (.int .i64 0)]) [_] tab_ok rfl rfl rfl rfl rfl rfl rfl rfl qD qD (fun a11 => ?_))
  refine WL.freeze (enc := encI) (xs := [0]) 0 rfl ?_
  intro R1 hR1 hsv
  refine zR 1 rfl ?_
  refine yW [(0, .tmp 11), (1, .const (.int .i64 1)), (2, .tmp 12)] ?_
  refine zE 0 ?_
  refine zR 1 rfl (zN (zU (zT ?_)))
  refine zq4 (hR1) ?_
  exact ⟨_, rfl, hsv, qS⟩

theorem Lower05K_C {R : Ro} {fa : Option Addr} {fc : Nat} {c : Cv} (hv : validB c = true) (ha : RS R 1 encI fa c.vals) (hcap : c.vals.length ≤ fc) {k : Int} (hk : 0 ≤ k ∧ k ≤ 1073741824) (w0 : World) (E : List Ent) : K.Fn Tryz.prog 68 [.agg #[.slice fa c.vals.length fc, .int .i64 c.per, .int .i64 c.inc], .int .i64 k] w0 R E (fun r R' E' => ∃ (f : Option Addr) (fc : Nat), r = cvV f fc (lowerR c k) ∧ RS R' 1 encI f (lowerR c k).1.vals ∧ (lowerR c k).1.vals.length ≤ fc ∧ E.Sublist E') := by
 refine fE 72 Tryz.func68 ?_
 refine zQ (zG ?_)
 refine zO fun b2 => ?_
 refine zA fun b4 => ?_
 refine zR 1 rfl (zN (zU (zQ (zG ?_))))
 refine yB 1 ?_
 refine WL.call en91 rfl rfl qD (CallOp.mkT rfl rfl rfl rfl) (Normal02_C hv ha hcap w0 _) ?_
 rintro _ R1 E1 hR1 ⟨fn, fnc, rfl, hfn, hsub⟩
 refine WL.subE hsub ?_
 unfold cvV
 obtain ⟨hnv, hncv, hnl, _, _⟩ := norm_valid hv
 generalize hN : normR c = n at hfn hnv hncv hnl ⊢
 obtain ⟨h1, h2, h3, h4, h5, h6, h7, h8⟩ := valid_range hnv
 refine zR 3 rfl ?_
 refine zA fun b6 => ?_
 refine zE 0 ?_
 refine zR 1 rfl (zN (zU (zQ (zQ (zG (zR 2 rfl (zN (zU ?_))))))))
 refine cN rfl ?_ ?_ <;> intro hc0
 ·dsimp only at hc0
  exact absurd rfl hc0
 ·dsimp only at hc0
  refine zK (zU (zQ (zQ (zG (zR 3 rfl ?_)))))
  refine yP ?_
  refine yP ?_
  refine yO ?_
  refine zN (zU ?_)
  refine cC rfl ?_ ?_ <;> intro hc1
  ·try simp only [zk] at hc1
   omega
  ·try simp only [zk] at hc1
   refine zK (zU (zQ (zQ (zG ?_))))
   refine yB 0 ?_
   refine WG.callV en79 rfl rfl qD (CallOp.mk' rfl rfl rfl rfl) (fun _ => rfl) (fun hg => FiniteG_V hnv hfn) ?_
   refine zR 1 rfl ?_
   refine yP ?_
   refine yG (Rd.addC (Rd.blkC 0 rfl) _) ?_
   refine yP ?_
   refine yN ?_
   refine zR 1 rfl ?_
   refine yG (Rd.blkC 0 rfl) ?_
   refine WG.callV (v := .int .i64 (cvF n 400)) en83 rfl rfl qD (CallOp.mk' rfl rfl rfl rfl) qE (fun hg => by have h := AtG_V (fc := fnc) hnv hfn (t := 400) qD; exact h) ?_
   refine yP ?_
   refine yP ?_
   refine yN ?_
   refine zN (zU ?_)
   refine cC rfl ?_ ?_ <;> intro hc2
   ·try simp only [zk] at hc2
    have hlr : lowerR c k = (zcv, 3) := by unfold lowerR; rw [hN]; exact if_pos ⟨hc2.1.1, hc2.1.2, hc2.2⟩
    refine zQ (zG ?_)
    refine yW [] ?_
    refine zE 1 ?_
    refine zR 1 rfl (zN (zU (zT (wt ?_))))
    refine zq4 (by first | exact hR1.trans (hR2.trans hR4) | exact hR1 | exact RLe.refl _) ?_
    exact ⟨none, 0, by rw [hlr]; rfl, by rw [hlr]; exact rs_nil, by rw [hlr]; exact Nat.le_refl _, qS⟩
   ·try simp only [zk] at hc2
    have hno : ¬ (finB n = true ∧ 0 < n.inc ∧ cvF n 400 < k) := fun h => by first | exact hc2 ⟨⟨h.1, h.2.1⟩, h.2.2⟩ | (have := hc2 ⟨h.1, h.2.1⟩; omega) | (have := hc2 h.1 h.2.1; omega)
    have hlr : lowerR c k = madeR ⟨fvals (lowF n k) (400 + n.per.toNat), n.per, n.inc⟩ := by unfold lowerR; rw [hN]; exact if_neg hno
    obtain ⟨P, hP⟩ := Int.eq_ofNat_of_zero_le (show 0 ≤ n.per by omega)
    refine zK (zU (zQ (zG (zR 1 rfl ?_))))
    refine yM 0 ?_
    refine zR 1 rfl ?_
    refine yM 0 ?_
    refine yW [(1, .tmp 42), (2, .tmp 44)] ?_
    refine zA fun b8 => ?_
    refine zE 0 ?_
    refine zN (zU (zQ ?_))
    refine W.nil 3 1 qD ?_
    refine zQ (zG (zR 1 rfl (zN (zU (zB ?_)))))
    refine W.loopK (β := Nat × Option Addr × Nat) (fun (t, a9, c9) => t ≤ 400 + n.per.toNat) (fun (t, a9, c9) => [(9, true, .int .i64 (t : Int))]) [1, 4, 6, 8] [_, _, _, _] [] _ rfl (fun (t, a9, c9) => [(0, .sl 3 1 a9 c9 ((fvals (lowF n k) t).map encI)), (1, .blk b8 [.slice a9 (fvals (lowF n k) t).length c9, .int .i64 n.per, .int .i64 n.inc])]) (fun (t, a9, c9) => 400 + n.per.toNat - t) ((0, none, 0)) (Nat.zero_le _) ⟨rfl, rfl, rfl, rfl, rfl, rfl⟩ qS ?_
    intro st hst
    obtain ⟨t, a9, c9⟩ := st
    dsimp only [zipE, setAll, List.cons_append, List.nil_append, List.set_cons_zero, List.set_cons_succ]
    have hfl := fvals_len (lowF n k) t
    refine zQ (zQ (zG (zR 2 rfl ?_)))
    refine yM 2 ?_
    refine yA ?_
    refine zR 1 rfl (zN (zU ?_))
    refine cD rfl ?_ ?_ <;> intro hc3
    ·
     have htp : t < 400 + n.per.toNat := by omega
     have hcb := cvF_bound hnv t
     have hinf := isInf_iff hnv (t := t) (by omega)
     refine zK (zU (zQ (zB (zQ (zG ?_)))))
     refine yB 2 ?_
     refine zR 1 rfl ?_
     refine WG.callV en83 rfl rfl qD (CallOp.mk' rfl rfl rfl rfl) (fun _ => rfl) (fun hg => AtG_V hnv hfn qO) ?_
     refine zR 1 rfl (zN (zU (zQ (zQ (zG (zR 2 rfl (zN (zU ?_))))))))
     refine cN rfl ?_ ?_ <;> intro hc4
     ·
      have hlo : lowF n k t = max 0 (cvF n t - k) := if_neg (fun h => hc4 (hinf.1 h))
      have hb2 : cvF n t ≤ 1073741824 * ((t : Int) + 2) := hcb.2.resolve_left hc4
      have hmx : (if (0 : Int) < cvF n t - k then cvF n t - k else 0) = lowF n k t := by rw [hlo]; split <;> omega
      have e1 : fvals (lowF n k) (t + 1) = fvals (lowF n k) t ++ [if (0 : Int) < cvF n t - k then cvF n t - k else 0] := by rw [fvals_snoc, hmx]
      refine zG (zR 2 rfl ?_)
      refine yS ?_
      refine zR 2 rfl (zN (zU (zG (zR 1 rfl ?_))))
      refine yM 1 ?_
      refine zR 1 rfl ?_
      refine WL.ef rfl rfl qD (Ef.buildSliceD (enc := encI) (parts := [.tmp 64]) [_] tab_ok rfl rfl rfl rfl rfl rfl rfl rfl qD qD (fun a65 => ?_))
      refine WL.ef rfl rfl (by decide) (Ef.appendD 1 0 tab_ok rfl rfl rfl rfl rfl rfl rfl rfl rfl rfl rfl (fun _ _ => rfl) (by simp only [List.length_cons, List.length_nil]; omega) (by simp only [List.length_cons, List.length_nil]; omega) (fun a66 c66 ha66 => ?_))
      refine zR 1 rfl ?_
      refine zF 2 ?_
      refine zN (zL (zU (zG (zR 1 rfl ?_))))
      refine yA ?_
      refine zR 1 rfl (zN ?_)
      refine WE.again ((t + 1, a66, c66)) (by dsimp only; omega) (by (try dsimp only); omega) ⟨rfl, rfl, rfl, rfl, rfl, rfl⟩ (RLe.refl _) (by dsimp only [setAll, List.set_cons_zero, List.set_cons_succ]; rw [e1]; exact List.Sublist.cons _ (List.Sublist.refl _))
     ·
      have hlo : lowF n k t = 4611686018427387904 := if_pos (hinf.2 (by first | exact hc4 | simpa using hc4))
      have hc4e : cvF n t = 4611686018427387904 := by first | exact hc4 | simpa using hc4
      have e1 : fvals (lowF n k) (t + 1) = fvals (lowF n k) t ++ [cvF n t] := by rw [fvals_snoc, hlo, hc4e]
      refine zK (zU (zG (zR 1 rfl ?_)))
      refine yM 1 ?_
      refine zR 1 rfl ?_
      refine WL.ef rfl rfl qD (Ef.buildSliceD (enc := encI) (parts := [.tmp 64]) [_] tab_ok rfl rfl rfl rfl rfl rfl rfl rfl qD qD (fun a65 => ?_))
      refine WL.ef rfl rfl (by decide) (Ef.appendD 1 0 tab_ok rfl rfl rfl rfl rfl rfl rfl rfl rfl rfl rfl (fun _ _ => rfl) (by simp only [List.length_cons, List.length_nil]; omega) (by simp only [List.length_cons, List.length_nil]; omega) (fun a66 c66 ha66 => ?_))
      refine zR 1 rfl ?_
      refine zF 2 ?_
      refine zN (zL (zU (zG (zR 1 rfl ?_))))
      refine yA ?_
      refine zR 1 rfl (zN ?_)
      refine WE.again ((t + 1, a66, c66)) (by dsimp only; omega) (by (try dsimp only); omega) ⟨rfl, rfl, rfl, rfl, rfl, rfl⟩ (RLe.refl _) (by dsimp only [setAll, List.set_cons_zero, List.set_cons_succ]; rw [e1]; exact List.Sublist.cons _ (List.Sublist.refl _))
    ·
     obtain rfl : t = 400 + n.per.toNat := by omega
     refine zX ?_
     refine wx (wx (zY (zU ?_)))
     refine W.cap 0 rfl ?_
     intro hcp
     rw [List.length_map, fvals_len] at hcp
     refine W.freeze (enc := encI) (xs := fvals (lowF n k) (400 + n.per.toNat)) 0 rfl ?_
     intro R2 hR2 hv0
     refine zQ (zG ?_)
     refine yB 0 ?_
     refine WL.call en64 rfl rfl (by decide) (CallOp.mkT rfl rfl rfl rfl) (MadeGK_C hv0 (by rw [fvals_len]; omega) (lowF_ok hnv hk.1 hno) (by rw [fvals_len]; exact hcp) w0 _) ?_
     rintro _ R4 E4 hR4 ⟨f, fc, rfl, hf, hcpk, hsub⟩
     refine WL.subE hsub ?_
     unfold cvV
     refine zR 2 rfl ?_
     refine zE 2 ?_
     refine zR 1 rfl (zN (zU (zT ?_)))
     refine zq4 (by first | exact hR1.trans (hR2.trans hR4) | exact hR1 | exact RLe.refl _) ?_
     exact ⟨f, fc, by rw [hlr]; rfl, by rw [hlr]; exact hf, by rw [hlr]; exact hcpk, qS⟩
set_option maxHeartbeats 1000000 in
theorem Curve21K_C {R : Ro} {wa za : Option Addr} {wc zc : Nat} {tb : List Int} {z : List Sz} (hwr : RS R 1 encI wa tb) (hzr : RS R 2 encZ za z) {cap cls : Int} (w0 : World) (E : List Ent) : K.Fn Tryz.prog 37 [.int .i64 cap, .int .i64 cls, .slice wa tb.length wc, .slice za z.length zc] w0 R E (fun r R' E' => ∃ (f : Option Addr) (fc : Nat), r = cvV f fc (slotC cap cls tb z) ∧ RS R' 1 encI f (slotC cap cls tb z).1.vals ∧ (slotC cap cls tb z).1.vals.length ≤ fc ∧ E.Sublist E') := by
 have hla := hzr.len
 have hlw := hwr.len
 refine fE 135 Tryz.func37 ?_
 refine zQ (zG ?_)
 refine zA fun b8 => ?_
 refine zR 1 rfl (zN (zU (zQ (zQ (zG (zR 4 rfl ?_))))))
 refine WG.callV en67 rfl rfl qD (CallOp.mk' rfl rfl rfl rfl) (fun _ => rfl) (fun hg => Check21_V hwr hzr) ?_
 refine zR 1 rfl (zN (zU (zQ (zG (zR 2 rfl (zN (zU ?_)))))))
 refine cN rfl ?_ ?_ <;> intro hc0
 ·
  have hd : slotC cap cls tb z = (zcv, chkT cap cls tb z) := if_pos hc0
  refine zQ (zG ?_)
  refine yW [] ?_
  refine zR 1 rfl ?_
  refine zE 0 ?_
  refine zR 1 rfl (zN (zU (zT (wt ?_))))
  refine zq4 (by first | exact RLe.refl _ | exact hR1.trans hR4 | exact hR2.trans hR4) ?_
  exact ⟨none, 0, by rw [hd]; rfl, by rw [hd]; exact rs_nil, by rw [hd]; exact Nat.le_refl _, qS⟩
 ·
  obtain ⟨c1, c2, k1, k2, zl, ⟨t1, t2, htb⟩, hz⟩ := chkT_ok hc0
  have hck : cls.toNat < z.length := by omega
  have hzk := hz _ (nth_mem hck)
  refine zK (zU (zQ (zG (zR 2 rfl (zN (zU (zQ (zQ (zG (zR 1 rfl (zN (zU (zB ?_)))))))))))))
  refine W.loopK (β := Nat) (fun i => i ≤ tb.length) (fun i => [(11, true, .bool (someN tb cls i)), (12, true, .bool (allN tb cls i)), (13, true, .int .i64 (i : Int))]) [0, 1, 2, 3, 8] [_, _, _, _, _] [] _ rfl (fun i => []) (fun i => tb.length - i) (0) (Nat.zero_le _) ⟨rfl, rfl, rfl, rfl, rfl, rfl, rfl, rfl, rfl⟩ qS ?_
  intro i hst
  dsimp only [zipE, setAll, List.cons_append, List.nil_append, List.set_cons_zero, List.set_cons_succ]
  refine zQ (zQ (zG (zR 4 rfl (zN (zU ?_)))))
  refine cD rfl ?_ ?_ <;> intro hc1
  ·
   have hkl : i < tb.length := by omega
   have hmi : mineT tb cls i = (nth tb i == cls) := by unfold mineT slotT; rw [Nat.mod_eq_of_lt hkl]
   have hsn : someN tb cls (i + 1) = (someN tb cls i || (nth tb i == cls)) := by simp only [someN, hmi]
   have han : allN tb cls (i + 1) = (allN tb cls i && (nth tb i == cls)) := by simp only [allN, hmi]
   refine zK (zU (zQ (zB ?_)))
   refine W.regionQ _ mixed qK ?_
   refine zR 2 rfl ?_
   refine yP ?_
   refine yP ?_
   refine gI ?_
   refine yJ (r := by ((apply RS.rdC; assumption))) (k := ?_)
   refine yP ?_
   refine yP ?_
   refine yO ?_
   refine zR 2 rfl ?_
   refine yP ?_
   refine yP ?_
   refine gI ?_
   refine yJ (r := by ((apply RS.rdC; assumption))) (k := ?_)
   refine yP ?_
   refine yP ?_
   refine yN ?_
   refine zR 2 rfl (zN (zL (zU (zG (zR 1 rfl ?_)))))
   refine yA ?_
   refine zR 1 rfl (zN ?_)
   refine WE.again (i + 1) (by omega) (by (try dsimp only); omega) ⟨vbool (by rw [hsn]), vbool (by rw [han]), rfl, rfl, rfl, rfl, rfl, rfl, rfl⟩ (RLe.refl _) qS
  ·
   obtain rfl : i = tb.length := by omega
   rw [someN_all, allN_all]
   refine zX ?_
   refine wx (wx (zY (zU (zQ (zQ (zG (zR 3 rfl ?_)))))))
   refine yP ?_
   refine yP ?_
   refine gX ?_
   refine yP ?_
   refine yJ (r := by apply Rd.addC; ((apply RS.rdC; assumption))) (k := ?_)
   refine yP ?_
   refine yO ?_
   refine zN (zU ?_)
   refine cC rfl ?_ ?_ <;> intro hc2
   ·try simp only [zk] at hc2
    have hd : slotC cap cls tb z = (zcv, 5) := by unfold slotC; rw [if_neg (fun h => h hc0), if_pos hc2]
    refine zQ (zG ?_)
    refine yW [] ?_
    refine zE 0 ?_
    refine zR 1 rfl (zN (zU (zT (wt ?_))))
    refine zq4 (by first | exact RLe.refl _ | exact hR1.trans hR4 | exact hR2.trans hR4) ?_
    exact ⟨none, 0, by rw [hd]; rfl, by rw [hd]; exact rs_nil, by rw [hd]; exact Nat.le_refl _, qS⟩
   ·try simp only [zk] at hc2
    have hc2n : ¬ (someT cls tb = false ∨ (nth z cls.toNat).most < 1) := by
     rintro (h | h)
     ·simp_all
     ·omega
    have hmo : 1 ≤ (nth z cls.toNat).most := by omega
    refine zK (zU (zQ (zQ (zG (zR 1 rfl (zN (zU ?_)))))))
    refine cC rfl ?_ ?_ <;> intro hc3
    ·try simp only [zk] at hc3
     have hd : slotC cap cls tb z = if 400 * cap < (nth z cls.toNat).most - 1 then (zcv, 3) else madeR ⟨fvals (lineF cap ((nth z cls.toNat).most - 1)) 401, 1, cap⟩ := by unfold slotC; rw [if_neg (fun h => h hc0), if_neg hc2n, if_pos hc3]
     have hdl := hd
     refine zQ (zG (zR 1 rfl ?_))
     refine WL.call en58 rfl rfl qD (CallOp.mkT rfl rfl rfl rfl) (ServeR_ok (cap := cap) qO w0 _) ?_
     rintro _ R1 _ hR1 ⟨fl, rfl, hfl1, hsub⟩
     refine WL.subE hsub ?_
     have hzr := hzr.mono hR1
     refine zR 3 rfl ?_
     refine zA fun b14 => ?_
     refine zE 0 ?_
     refine zR 1 rfl (zN (zU (zQ ?_)))
     refine W.regionH _ (ES := [.blk b14 [.slice fl 1 1, .int .i64 1, .int .i64 cap]]) mixed ?_
     refine tL 0 (Rd.blk 0 rfl) ?_
     refine tP 1 ?_
     refine tP 2 ?_
     refine tX 3 ?_
     refine tP 4 ?_
     refine tD 5 (r := by apply Rd.add; ((apply RS.rdD; assumption; ((try dsimp only) <;> omega)))) (k := ?_)
     refine tS 6 ?_
     refine WA.callG 7 rfl qK en68 rfl (by first | rfl | decide) rfl qD (CallOp.mkT rfl rfl rfl rfl) (Lower05K_C (c := ⟨[0], 1, cap⟩) (k := (nth z cls.toNat).most - 1) (lower_line (cap := cap) (lost := 0) qO qD).1 hfl1 (Nat.le_refl _) qO w0 _) ?_
     rintro _ R4 E4 hR4 ⟨f, fc, rfl, hf, hcpk, hsub⟩
     refine ⟨hR4, List.Sublist.trans qS hsub, ?_⟩
     refine WA.subE hsub ?_
     rw [(lower_line (cap := cap) (lost := (nth z cls.toNat).most - 1) (by omega) (by omega)).2, ← hdl] at hf hcpk ⊢
     unfold cvV
     refine tP 8 ?_
     refine tP 9 ?_
     refine zCE 10 1 ?_
     refine tP 11 ?_
     refine WA.done qK ?_
     refine zU (zT (wt ?_))
     refine zq4 (by first | exact RLe.refl _ | exact hR1.trans hR4 | exact hR2.trans hR4) ?_
     exact ⟨f, fc, by rw [hd]; rfl, by rw [hd]; rw [← hd]; exact hf, by rw [hd]; rw [← hd]; exact hcpk, qS⟩
    ·try simp only [zk] at hc3
     have hna : ¬ allT cls tb = true := by simp [hc3]
     obtain ⟨b, _, hbm⟩ := allT_not hna
     obtain ⟨lost, hlm⟩ : ∃ l, (nth z cls.toNat).most - 1 = l := ⟨_, rfl⟩
     obtain ⟨g1, g2, g3, g4⟩ := slot_build (cap := cap) (lost := lost) (mine := mineT tb cls) (n := tb.length) (by omega) (by omega) (fun i => mineT_per i) (by omega) hbm
     have hd : slotC cap cls tb z = madeR ⟨fvals (slotF cap lost (mineT tb cls) tb.length) (3 * tb.length + tb.length), tb.length, (slotF cap lost (mineT tb cls) tb.length) (4 * tb.length - 1) - (slotF cap lost (mineT tb cls) tb.length) (3 * tb.length - 1)⟩ := by unfold slotC; rw [if_neg (fun h => h hc0), if_neg hc2n, if_neg hna, hlm]
     have hFb : ∀ t : Nat, t ≤ 10000 → 0 ≤ (slotF cap lost (mineT tb cls) tb.length) t ∧ (slotF cap lost (mineT tb cls) tb.length) t ≤ 40000000 := fun t ht => by
      have h1 := slotF_bound (cap := cap) (lost := lost) (mine := mineT tb cls) (n := tb.length) (by omega) (by omega) (by omega) t
      have h2 := mulB (a := cap) (b := (t : Int)) (A := 4000) (B := 10000) (by omega) (by omega)
      omega
     have hcb : ∀ a k : Nat, k ≤ 1000 → 0 ≤ cntS cap lost (mineT tb cls) a k ∧ cntS cap lost (mineT tb cls) a k ≤ 4000000 := fun a k hk => by
      have h1 := cntS_bound (cap := cap) (lost := lost) (mine := mineT tb cls) (a := a) (by omega) (by omega) k
      have h2 := mulB (a := cap) (b := (k : Int)) (A := 4000) (B := 1000) (by omega) (by omega)
      omega
     rw [g1] at g2 g3
     have hmok : MadeOk (fvals (slotF cap lost (mineT tb cls) tb.length) (3 * tb.length + tb.length)) tb.length ((slotF cap lost (mineT tb cls) tb.length) (4 * tb.length - 1) - (slotF cap lost (mineT tb cls) tb.length) (3 * tb.length - 1)) := madeOk_fin (by omega) (by omega) (by have := hFb (4 * tb.length - 1) (by omega); have := hFb (3 * tb.length - 1) (by omega); omega) (g2.mono (by omega)) (fun t ht => by have := hFb t (by omega); omega)
     refine zK (zU (zQ (zG (zR 3 rfl (zN (zU (zQ (zG (zR 1 rfl ?_)))))))))
     refine yW [(1, .tmp 83)] ?_
     refine zA fun b17 => ?_
     refine zE 0 ?_
     refine zN (zU (zQ ?_))
     refine W.nil 3 1 qD ?_
     refine zQ (zG (zR 1 rfl (zN (zU (zB ?_)))))
     refine W.loopK (β := Nat × Option Addr × Nat) (fun (k, a9, c9) => k ≤ 4 * tb.length) (fun (k, a9, c9) => [(18, true, .int .i64 (k : Int))]) [0, 1, 2, 3, 8, 16, 17] [_, _, _, _, _, _, _] [] _ rfl (fun (k, a9, c9) => [(0, .sl 3 1 a9 c9 ((fvals (slotF cap lost (mineT tb cls) tb.length) k).map encI)), (1, .blk b17 [.slice a9 (fvals (slotF cap lost (mineT tb cls) tb.length) k).length c9, .int .i64 (tb.length : Int), .int .i64 0])]) (fun (k, a9, c9) => 4 * tb.length - k) ((0, none, 0)) (Nat.zero_le _) ⟨rfl, rfl, rfl, rfl, rfl, rfl, rfl, rfl, rfl⟩ qS ?_
     intro st hst
     obtain ⟨k, a9, c9⟩ := st
     dsimp only [zipE, setAll, List.cons_append, List.nil_append, List.set_cons_zero, List.set_cons_succ]
     have hfl := fvals_len (slotF cap lost (mineT tb cls) tb.length) k
     refine zQ (zQ (zG (zR 2 rfl ?_)))
     refine yU ?_
     refine zR 1 rfl (zN (zU ?_))
     refine cD rfl ?_ ?_ <;> intro hc4
     ·
      have hk4 : k < 4 * tb.length := by omega
      refine zK (zU (zQ (zB (zQ (zG (zR 1 rfl (zN (zU (zQ (zQ (zG (zR 1 rfl (zN (zU (zB ?_)))))))))))))))
      refine W.loopK (β := Nat) (fun f => f ≤ tb.length) (fun f => [(19, true, .int .i64 (minTo (fun a => cntS cap lost (mineT tb cls) a k) f)), (20, true, .int .i64 (f : Int))]) [0, 1, 2, 3, 8, 16, 17, 18] [_, _, _, _, _, _, _, _] [] _ rfl (fun f => []) (fun f => tb.length - f) (0) (Nat.zero_le _) ⟨rfl, rfl, rfl, rfl, rfl, rfl, rfl, rfl, rfl, rfl, rfl⟩ qS ?_
      intro f hst
      dsimp only [zipE, setAll, List.cons_append, List.nil_append, List.set_cons_zero, List.set_cons_succ]
      refine zQ (zQ (zG (zR 3 rfl (zN (zU ?_)))))
      refine cD rfl ?_ ?_ <;> intro hc5
      ·
       have hfl : f < tb.length := by omega
       refine zK (zU (zQ (zB (zG (zR 6 rfl ?_)))))
       refine yX ?_
       refine zR 1 rfl ?_
       refine yD (r := by apply Rd.add; ((apply RS.rdD; assumption; ((try dsimp only) <;> omega)))) (k := ?_)
       refine zR 2 rfl ?_
       refine WG.callV (v := .int .i64 (cntS cap lost (mineT tb cls) f k)) en69 rfl rfl (by decide) (CallOp.mk' rfl rfl rfl rfl) (fun _ => rfl) (fun hg => by have h := Counts_V (wc := wc) (cap := cap) (cls := cls) (most := (nth z cls.toNat).most) (a := f) (k := k) hwr (by omega) (by omega) (by omega) (by omega); rw [hlm] at h; exact h) ?_
       refine zR 2 rfl (zN (zL (zU (zG (zR 1 rfl ?_)))))
       refine yA ?_
       refine zR 1 rfl (zN ?_)
       refine WE.again (f + 1) (by omega) (by (try dsimp only); omega) ⟨vint (by simp only [minTo]; omega), rfl, rfl, rfl, rfl, rfl, rfl, rfl, rfl, rfl, rfl⟩ (RLe.refl _) qS
      ·
       obtain rfl : f = tb.length := by omega
       have hmn : minTo (fun a => cntS cap lost (mineT tb cls) a k) tb.length = (slotF cap lost (mineT tb cls) tb.length) k := minTo_minN (by have := hcb 0 k (by omega); omega) (by omega)
       have e1 : fvals (slotF cap lost (mineT tb cls) tb.length) (k + 1) = fvals (slotF cap lost (mineT tb cls) tb.length) k ++ [minTo (fun a => cntS cap lost (mineT tb cls) a k) tb.length] := by rw [fvals_snoc, hmn]
       refine zX ?_
       refine wx (wx (zY (zU (zG (zR 1 rfl ?_)))))
       refine yM 1 ?_
       refine zR 1 rfl ?_
       refine WL.ef rfl rfl qD (Ef.buildSliceD (enc := encI) (parts := [.tmp 111]) [_] tab_ok rfl rfl rfl rfl rfl rfl rfl rfl qD qD (fun a112 => ?_))
       refine WL.ef rfl rfl (by decide) (Ef.appendD 1 0 tab_ok rfl rfl rfl rfl rfl rfl rfl rfl rfl rfl rfl (fun _ _ => rfl) (by simp only [List.length_cons, List.length_nil]; omega) (by simp only [List.length_cons, List.length_nil]; omega) (fun a113 c113 ha113 => ?_))
       refine zR 1 rfl ?_
       refine zF 2 ?_
       refine zN (zL (zU (zG (zR 1 rfl ?_))))
       refine yA ?_
       refine zR 1 rfl (zN ?_)
       refine WE.again ((k + 1, a113, c113)) (by dsimp only; omega) (by (try dsimp only); omega) ⟨rfl, rfl, rfl, rfl, rfl, rfl, rfl, rfl, rfl⟩ (RLe.refl _) (by dsimp only [setAll, List.set_cons_zero, List.set_cons_succ]; rw [e1]; exact List.Sublist.cons _ (List.Sublist.refl _))
     ·
      obtain rfl : k = 4 * tb.length := by omega
      refine zX ?_
      refine wx (wx (zY (zU ?_)))
      refine W.cap 0 rfl ?_
      intro hcp
      rw [List.length_map, fvals_len] at hcp
      refine W.freeze (enc := encI) (xs := fvals (slotF cap lost (mineT tb cls) tb.length) (4 * tb.length)) 0 rfl ?_
      intro R2 hR2 hv0
      have h34 : 3 * tb.length + tb.length = 4 * tb.length := by omega
      rw [h34] at hmok hd
      have hfl4 := fvals_len (slotF cap lost (mineT tb cls) tb.length) (4 * tb.length)
      have eA : nth (fvals (slotF cap lost (mineT tb cls) tb.length) (4 * tb.length)) (4 * (tb.length : Int) - 1).toNat = (slotF cap lost (mineT tb cls) tb.length) (4 * tb.length - 1) := by rw [show (4 * (tb.length : Int) - 1).toNat = 4 * tb.length - 1 by omega]; exact fvals_nth _ (by omega)
      have eB : nth (fvals (slotF cap lost (mineT tb cls) tb.length) (4 * tb.length)) (3 * (tb.length : Int) - 1).toNat = (slotF cap lost (mineT tb cls) tb.length) (3 * tb.length - 1) := by rw [show (3 * (tb.length : Int) - 1).toNat = 3 * tb.length - 1 by omega]; exact fvals_nth _ (by omega)
      have hI1 := hFb (4 * tb.length - 1) (by omega)
      have hI2 := hFb (3 * tb.length - 1) (by omega)
      refine zQ ?_
      refine W.regionD _ [] [.blk b17 [.slice a9 (fvals (slotF cap lost (mineT tb cls) tb.length) (4 * tb.length)).length c9, .int .i64 (tb.length : Int), .int .i64 0]] [16] mixed ?_
      refine vP 0 ?_
      refine vD 1 (r := by apply Rd.add; (exact Rd.blk 0 rfl)) (k := ?_)
      refine vP 2 ?_
      refine VA.take2 3 rfl qK qK qK rfl qK qK rfl rfl qD (Yl.mul rfl rfl rfl (fun _ => rfl) qA) qS qR qS ?_
      refine VA.take2 4 rfl qK qK qK rfl qK qK rfl rfl qD (Yl.sub rfl rfl rfl (fun _ => rfl) qA) qS qR qS ?_
      refine VA.take2 5 rfl qK qK qK rfl qK qK rfl rfl qD (Yl.index tab_ok rfl rfl rfl rfl rfl rfl (fun _ => rfl) qA qH) qS qR qS ?_
      refine vD 6 (r := by exact RS.rdD hv0 qO) (k := ?_)
      refine vP 7 ?_
      refine vD 8 (r := by apply Rd.add; (exact Rd.blk 0 rfl)) (k := ?_)
      refine vP 9 ?_
      refine VA.take2 10 rfl qK qK qK rfl qK qK rfl rfl qD (Yl.mul rfl rfl rfl (fun _ => rfl) qA) qS qR qS ?_
      refine VA.take2 11 rfl qK qK qK rfl qK qK rfl rfl qD (Yl.sub rfl rfl rfl (fun _ => rfl) qA) qS qR qS ?_
      refine VA.take2 12 rfl qK qK qK rfl qK qK rfl rfl qD (Yl.index tab_ok rfl rfl rfl rfl rfl rfl (fun _ => rfl) qA qH) qS qR qS ?_
      refine vD 13 (r := by exact RS.rdD hv0 qO) (k := ?_)
      refine VA.take2 14 rfl (by kernel_rfl) (by kernel_rfl) (by kernel_rfl) rfl (by kernel_rfl) (by kernel_rfl) rfl rfl (by decide) (Yl.sub rfl rfl rfl (fun _ => rfl) (by intro _; rw [eA, eB]; constructor <;> omega)) qS (by first | exact RLe.refl _ | assumption) qS ?_
      refine vP 15 ?_
      refine VA.one (i := 16) qK ?_
      refine VS.effN rfl rfl rfl (Ef.store 0 tab_ok rfl rfl rfl rfl rfl rfl rfl rfl ?_)
      refine ⟨by first | exact RLe.refl _ | assumption, qS, (noD qK), ?_⟩
      refine VA.done qK ?_
      refine zU ?_
      rw [eA, eB]
      refine zQ (zG ?_)
      refine yB 0 ?_
      refine WL.call en64 rfl rfl (by decide) (CallOp.mkT rfl rfl rfl rfl) (MadeGK_C hv0 (by rw [fvals_len]; omega) hmok (by rw [fvals_len]; exact hcp) w0 _) ?_
      rintro _ R4 E4 hR4 ⟨f, fc, rfl, hf, hcpk, hsub⟩
      refine WL.subE hsub ?_
      unfold cvV
      refine zR 2 rfl ?_
      refine zE 1 ?_
      refine zR 1 rfl (zN (zU (zT ?_)))
      refine zq4 (by first | exact RLe.refl _ | exact hR1.trans hR4 | exact hR2.trans hR4) ?_
      exact ⟨f, fc, by rw [hd]; rfl, by rw [hd]; exact hf, by rw [hd]; exact hcpk, qS⟩

theorem Wait02_C {R : Ro} {v : Int} (w0 : World) (E : List Ent) : K.Fn Tryz.prog 39 [.int .i64 v] w0 R E (fun r R' E' => ∃ (f : Option Addr) (fc : Nat), r = cvV f fc (waitC v) ∧ RS R' 1 encI f (waitC v).1.vals ∧ (waitC v).1.vals.length ≤ fc ∧ E.Sublist E') := by
 refine fE 19 Tryz.func39 ?_
 refine zQ (zG ?_)
 refine zA fun b2 => ?_
 refine zR 1 rfl (zN (zU (zQ (zQ (zG (zR 2 rfl (zN (zU ?_))))))))
 refine cD rfl ?_ ?_ <;> intro hc0
 ·
  have e : waitC v = (zcv, 2) := if_pos hc0
  refine zQ (zG ?_)
  refine yW [] ?_
  refine zE 0 ?_
  refine zR 1 rfl (zN (zU (zT (wt ?_))))
  refine zq4 (by first | exact RLe.refl _ | exact hR1.trans hR4) ?_
  rw [e]
  exact ⟨none, 0, rfl, rs_nil, Nat.le_refl _, qS⟩
 ·
  refine zK (zU (zQ (zQ (zG (zR 2 rfl (zN (zU ?_)))))))
  refine cD rfl ?_ ?_ <;> intro hc1
  ·
   have e : waitC v = (zcv, 3) := by unfold waitC; rw [if_neg (by omega), if_pos (by omega)]
   refine zQ (zG ?_)
   refine yW [] ?_
   refine zE 0 ?_
   refine zR 1 rfl (zN (zU (zT (wt ?_))))
   refine zq4 (by first | exact RLe.refl _ | exact hR1.trans hR4) ?_
   rw [e]
   exact ⟨none, 0, rfl, rs_nil, Nat.le_refl _, qS⟩
  ·
   obtain ⟨ewm, hok⟩ := wait_made (v := v) (by omega) (by omega)
   unfold INF at ewm hok
   refine zK (zU (zQ (zG (zR 1 rfl ?_))))
   refine yA ?_
   refine WL.ef rfl rfl qD (Ef.makeSliceD (enc := encI) 0 tab_ok rfl rfl rfl rfl rfl rfl qX qX qX qX qD rfl rfl (fun a12 => ?_))
   refine WL.ef rfl rfl qD (Ef.buildSliceD (enc := encI) (parts := [.const (.int .i64 4611686018427387904)]) [_] tab_ok rfl rfl rfl rfl rfl rfl rfl rfl qD qD (fun a13 => ?_))
   refine WL.ef rfl rfl (by decide) (Ef.appendD (enc := encI) (xs := List.replicate (v + 1).toNat 0) (ys := [4611686018427387904]) 1 0 tab_ok rfl rfl rfl rfl rfl (by rw [List.length_replicate]) rfl rfl rfl rfl rfl (fun _ _ => rfl) (by rw [List.length_replicate]; show ((v + 1).toNat + 1) * 8 ≤ _; omega) (by rw [List.length_replicate]; show (v + 1).toNat + 1 ≤ _; omega) (fun a14 c14 ha14 => ?_))
   refine WL.cap 1 rfl ?_
   intro hcw
   rw [List.length_map] at hcw
   refine WL.freeze (enc := encI) (xs := (List.replicate (v + 1).toNat 0 ++ [4611686018427387904])) 1 rfl ?_
   intro R1 hR1 hwz
   refine yW [(0, .tmp 14), (1, .const (.int .i64 1))] ?_
   refine WL.call en64 rfl rfl (by decide) (CallOp.mkT rfl rfl rfl rfl) (MadeGK_C hwz (by rw [List.length_append, List.length_replicate]; show (v + 1).toNat + 1 ≤ _; omega) hok hcw w0 _) ?_
   rintro _ R4 E4 hR4 ⟨f, fc, rfl, hf, hcpk, hsub⟩
   refine WL.subE hsub ?_
   rw [ewm] at hf hcpk ⊢
   unfold cvV
   refine zR 2 rfl ?_
   refine zE 1 ?_
   refine zR 1 rfl (zN (zU (zT ?_)))
   refine zq4 (by first | exact RLe.refl _ | exact hR1.trans hR4) ?_
   exact ⟨f, fc, rfl, hf, hcpk, qS⟩

theorem Within22_V {R : Ro} {a : Option Addr} {c l : Nat} {xs : List Int} {lo hi : Int} (ha : RS R 1 encI a xs) (hl : xs.length = l) :
  FnV Tryz.prog 87 [.slice a l c, .int .i64 lo, .int .i64 hi] R (.bool (withinB xs lo hi)) := by
 subst hl
 have hla := ha.len
 refine Fn.toV (fun w0 E => ?_)
 refine fE 28 Tryz.func87 ?_
 refine zQ (zG (zR 1 rfl (zN (zU (zQ (zQ (zG (zR 1 rfl (zN (zU (zB ?_)))))))))))
 refine W.loopK (β := Nat) (fun k => k ≤ xs.length ∧ ∀ i, i < k → lo ≤ nth xs i ∧ nth xs i ≤ hi) (fun k => [(7, true, .int .i64 (k : Int))]) [0, 1, 2] [_, _, _] [] _ rfl (fun k => []) (fun k => xs.length - k) (0) (⟨Nat.zero_le _, fun i hi => absurd hi (Nat.not_lt_zero i)⟩) ⟨rfl, rfl, rfl, rfl, rfl⟩ qS ?_
 intro st hst
 obtain ⟨hk, hpre⟩ := hst
 refine zQ (zQ (zG (zR 4 rfl (zN (zU ?_)))))
 refine cD rfl ?_ ?_ <;> intro hc0
 ·
  refine zK (zU (zQ (zB (zQ (zG (zR 2 rfl ?_))))))
  refine yI ?_
  refine yD (r := by ((apply RS.rdD; assumption; ((try dsimp only) <;> omega)))) (k := ?_)
  refine zR 3 rfl ?_
  refine yP ?_
  refine yP ?_
  refine gI ?_
  refine yJ (r := by ((apply RS.rdC; assumption))) (k := ?_)
  refine yP ?_
  refine yP ?_
  refine yO ?_
  refine zN (zU ?_)
  refine cC rfl ?_ ?_ <;> intro hc1
  ·try simp only [zk] at hc1
   refine zQ (zG (zR 1 rfl (zN (zU (zT (wb (wt (wt (wb (wt ?_))))))))))
   refine sE (E := E) ?_
   refine zr1 ?_
   exact ⟨congrArg Value.bool (within_no (k := st) qO qO).symm, rfl⟩
  ·try simp only [zk] at hc1
   refine zK (zL (zU (zG (zR 1 rfl ?_))))
   refine yA ?_
   refine zR 1 rfl (zN ?_)
   refine WE.again (st + 1) (⟨by omega, fun i hi => by
    rcases Nat.lt_or_ge i st with h | h
    ·exact hpre i h
    ·obtain rfl : i = st := by omega
     omega⟩) (by (try dsimp only); omega) ⟨rfl, rfl, rfl, rfl, rfl⟩ (RLe.refl _) qS
 ·
  refine zX ?_
  refine wx (wx (zY (zU (zQ (zG (zR 1 rfl (zN (zU (zT ?_)))))))))
  refine sE (E := E) ?_
  refine zr1 ?_
  exact ⟨congrArg Value.bool (within_yes (fun i hi => hpre i qO)).symm, rfl⟩
theorem Chk22_V {R : Ro} {aw at_ : Option Addr} {lw cw lt ct : Nat} {L : Ln} (hw : RS R 1 encI aw L.w) (hlw : L.w.length = lw) (ht : RS R 1 encI at_ L.tb) (hlt : L.tb.length = lt) : FnV Tryz.prog 51 [.agg #[.int .i64 L.kind, .int .i64 L.cap, .int .i64 L.n, .slice aw lw cw, .slice at_ lt ct]] R (.int .i64 (chkL L)) := by
 refine Fn.toV (fun w0 E => ?_)
 refine fE 101 Tryz.func51 ?_
 refine zQ (zG ?_)
 refine zO fun b1 => ?_
 refine zR 1 rfl (zN (zU (zQ (zQ (zG (zR 1 rfl ?_))))))
 refine yM 0 ?_
 refine zR 2 rfl ?_
 refine yP ?_
 refine yG (Rd.addC (Rd.blkC 0 rfl) _) ?_
 refine yP ?_
 refine yO ?_
 refine zN (zU ?_)
 refine cC rfl ?_ ?_ <;> intro hc0
 ·try simp only [zk] at hc0
  refine zQ (zG (zR 1 rfl (zN (zU (zT (wt ?_))))))
  refine sE (E := E) ?_
  refine zr1 ?_
  exact ⟨congrArg (Value.int IntKind.i64) (if_pos hc0).symm, rfl⟩
 ·try simp only [zk] at hc0
  refine zK (zU (zQ (zQ (zG (zR 1 rfl ?_)))))
  refine yM 0 ?_
  refine zR 2 rfl ?_
  refine yP ?_
  refine yG (Rd.addC (Rd.blkC 0 rfl) _) ?_
  refine yP ?_
  refine yO ?_
  refine zR 1 rfl ?_
  refine yP ?_
  refine yG (Rd.addC (Rd.blkC 0 rfl) _) ?_
  refine yP ?_
  refine yO ?_
  refine zR 1 rfl ?_
  refine yP ?_
  refine yG (Rd.addC (Rd.blkC 0 rfl) _) ?_
  refine yP ?_
  refine yO ?_
  refine zN (zU ?_)
  refine cC rfl ?_ ?_ <;> intro hc1
  ·try simp only [zk] at hc1
   refine zQ (zG (zR 1 rfl (zN (zU (zT (wt ?_))))))
   refine sE (E := E) ?_
   refine zr1 ?_
   exact ⟨congrArg (Value.int IntKind.i64) (by unfold chkL; rw [if_neg (by omega), if_pos (by omega)]), rfl⟩
  ·try simp only [zk] at hc1
   refine zK (zU (zQ (zG (zR 1 rfl ?_))))
   refine yM 0 ?_
   refine zR 2 rfl ?_
   refine yP ?_
   refine yG (Rd.addC (Rd.blkC 0 rfl) _) ?_
   refine yP ?_
   refine yO ?_
   refine zR 1 rfl (zN (zU (zQ (zG (zR 1 rfl (zN (zU (zQ (zQ (zG (zR 1 rfl ?_)))))))))))
   refine yM 0 ?_
   refine zR 1 rfl (zN (zU ?_))
   refine cE rfl ?_ ?_ <;> intro hc2
   ·
    refine zG (zR 1 rfl (zN (zU (zQ (zQ (zG (zR 2 rfl ?_)))))))
    refine yP ?_
    refine yG (Rd.addC (Rd.blkC 0 rfl) _) ?_
    refine yP ?_
    refine yP ?_
    refine yG (Rd.addC (Rd.blkC 0 rfl) _) ?_
    refine yP ?_
    refine yP ?_
    refine yP ?_
    refine yG (Rd.addC (Rd.blkC 0 rfl) _) ?_
    refine yP ?_
    refine WG.callV en87 rfl rfl qD (CallOp.mk' rfl rfl rfl rfl) qE (fun hg => Within22_V hw hlw) ?_
    refine yP ?_
    refine yO ?_
    refine yN ?_
    refine zN (zU ?_)
    refine cC rfl ?_ ?_ <;> intro hc3
    ·try simp only [zk] at hc3
     refine zQ (zG (zR 1 rfl (zN (zU (zT (wt ?_))))))
     refine sE (E := E) ?_
     refine zr1 ?_
     exact ⟨congrArg (Value.int IntKind.i64) (by rw [chk_spec (m := 6000) (by omega) hc0 hc1, hlw, hlt]; rw [if_pos hc3]), rfl⟩
    ·try simp only [zk] at hc3
     refine zK (zU (zQ (zQ (zG (zR 1 rfl ?_)))))
     refine yM 0 ?_
     refine zR 2 rfl ?_
     refine yP ?_
     refine yG (Rd.addC (Rd.blkC 0 rfl) _) ?_
     refine yP ?_
     refine yP ?_
     refine yP ?_
     refine yP ?_
     refine yG (Rd.addC (Rd.blkC 0 rfl) _) ?_
     refine yP ?_
     refine yP ?_
     refine yO ?_
     refine yP ?_
     refine yP ?_
     refine yG (Rd.addC (Rd.blkC 0 rfl) _) ?_
     refine yP ?_
     refine yG (Rd.addC (Rd.blkC 0 rfl) _) ?_
     refine WG.y rfl rfl (by decide) (Yl.sub rfl rfl rfl qE (by intro hg; (try simp only [zk] at hg); constructor <;> (try dsimp only) <;> omega)) ?_
     refine WG.callV en87 rfl rfl qD (CallOp.mk' rfl rfl rfl rfl) qE (fun hg => Within22_V ht hlt) ?_
     refine yP ?_
     refine yO ?_
     refine yN ?_
     refine zN (zU ?_)
     refine cC rfl ?_ ?_ <;> intro hc4
     ·try simp only [zk] at hc4
      refine zQ (zG (zR 1 rfl (zN (zU (zT (wt ?_))))))
      refine sE (E := E) ?_
      refine zr1 ?_
      exact ⟨congrArg (Value.int IntKind.i64) (by rw [chk_spec (m := 6000) (by omega) hc0 hc1, hlw, hlt]; rw [if_neg (no_a hc3), if_pos hc4]), rfl⟩
     ·try simp only [zk] at hc4
      refine zK (zU (zQ (zQ (zG (zR 3 rfl ?_)))))
      refine yP ?_
      refine yG (Rd.addC (Rd.blkC 0 rfl) _) ?_
      refine yP ?_
      refine yP ?_
      refine yN ?_
      refine zR 1 rfl ?_
      refine yP ?_
      refine yG (Rd.addC (Rd.blkC 0 rfl) _) ?_
      refine yP ?_
      refine yP ?_
      refine yP ?_
      refine yG (Rd.addC (Rd.blkC 0 rfl) _) ?_
      refine yP ?_
      refine yP ?_
      refine yN ?_
      refine yO ?_
      refine zN (zU ?_)
      refine cC rfl ?_ ?_ <;> intro hc5
      ·try simp only [zk] at hc5
       refine zQ (zG (zR 1 rfl (zN (zU (zT (wt ?_))))))
       refine sE (E := E) ?_
       refine zr1 ?_
       exact ⟨congrArg (Value.int IntKind.i64) (by rw [chk_spec (m := 6000) (by omega) hc0 hc1, hlw, hlt]; rw [if_neg (no_a hc3), if_neg (no_b hc4), if_pos hc5]), rfl⟩
      ·try simp only [zk] at hc5
       refine zK (zU (zQ (zG (zR 1 rfl (zN (zU (zT ?_)))))))
       refine sE (E := E) ?_
       refine zr1 ?_
       exact ⟨congrArg (Value.int IntKind.i64) (by rw [chk_spec (m := 6000) (by omega) hc0 hc1, hlw, hlt]; rw [if_neg (no_a hc3), if_neg (no_b hc4), if_neg (no_c hc5)]), rfl⟩
   ·
    refine zK (zU (zQ (zQ (zG (zR 2 rfl ?_)))))
    refine yP ?_
    refine yG (Rd.addC (Rd.blkC 0 rfl) _) ?_
    refine yP ?_
    refine yP ?_
    refine yG (Rd.addC (Rd.blkC 0 rfl) _) ?_
    refine yP ?_
    refine yP ?_
    refine yP ?_
    refine yG (Rd.addC (Rd.blkC 0 rfl) _) ?_
    refine yP ?_
    refine WG.callV en87 rfl rfl qD (CallOp.mk' rfl rfl rfl rfl) qE (fun hg => Within22_V hw hlw) ?_
    refine yP ?_
    refine yO ?_
    refine yN ?_
    refine zN (zU ?_)
    refine cC rfl ?_ ?_ <;> intro hc6
    ·try simp only [zk] at hc6
     refine zQ (zG (zR 1 rfl (zN (zU (zT (wt ?_))))))
     refine sE (E := E) ?_
     refine zr1 ?_
     exact ⟨congrArg (Value.int IntKind.i64) (by rw [chk_spec (m := 20) (by omega) hc0 hc1, hlw, hlt]; rw [if_pos hc6]), rfl⟩
    ·try simp only [zk] at hc6
     refine zK (zU (zQ (zQ (zG (zR 1 rfl ?_)))))
     refine yM 0 ?_
     refine zR 2 rfl ?_
     refine yP ?_
     refine yG (Rd.addC (Rd.blkC 0 rfl) _) ?_
     refine yP ?_
     refine yP ?_
     refine yP ?_
     refine yP ?_
     refine yG (Rd.addC (Rd.blkC 0 rfl) _) ?_
     refine yP ?_
     refine yP ?_
     refine yO ?_
     refine yP ?_
     refine yP ?_
     refine yG (Rd.addC (Rd.blkC 0 rfl) _) ?_
     refine yP ?_
     refine yG (Rd.addC (Rd.blkC 0 rfl) _) ?_
     refine WG.y rfl rfl (by decide) (Yl.sub rfl rfl rfl qE (by intro hg; (try simp only [zk] at hg); constructor <;> (try dsimp only) <;> omega)) ?_
     refine WG.callV en87 rfl rfl qD (CallOp.mk' rfl rfl rfl rfl) qE (fun hg => Within22_V ht hlt) ?_
     refine yP ?_
     refine yO ?_
     refine yN ?_
     refine zN (zU ?_)
     refine cC rfl ?_ ?_ <;> intro hc7
     ·try simp only [zk] at hc7
      refine zQ (zG (zR 1 rfl (zN (zU (zT (wt ?_))))))
      refine sE (E := E) ?_
      refine zr1 ?_
      exact ⟨congrArg (Value.int IntKind.i64) (by rw [chk_spec (m := 20) (by omega) hc0 hc1, hlw, hlt]; rw [if_neg (no_a hc6), if_pos hc7]), rfl⟩
     ·try simp only [zk] at hc7
      refine zK (zU (zQ (zQ (zG (zR 3 rfl ?_)))))
      refine yP ?_
      refine yG (Rd.addC (Rd.blkC 0 rfl) _) ?_
      refine yP ?_
      refine yP ?_
      refine yN ?_
      refine zR 1 rfl ?_
      refine yP ?_
      refine yG (Rd.addC (Rd.blkC 0 rfl) _) ?_
      refine yP ?_
      refine yP ?_
      refine yP ?_
      refine yG (Rd.addC (Rd.blkC 0 rfl) _) ?_
      refine yP ?_
      refine yP ?_
      refine yN ?_
      refine yO ?_
      refine zN (zU ?_)
      refine cC rfl ?_ ?_ <;> intro hc8
      ·try simp only [zk] at hc8
       refine zQ (zG (zR 1 rfl (zN (zU (zT (wt ?_))))))
       refine sE (E := E) ?_
       refine zr1 ?_
       exact ⟨congrArg (Value.int IntKind.i64) (by rw [chk_spec (m := 20) (by omega) hc0 hc1, hlw, hlt]; rw [if_neg (no_a hc6), if_neg (no_b hc7), if_pos hc8]), rfl⟩
      ·try simp only [zk] at hc8
       refine zK (zU (zQ (zG (zR 1 rfl (zN (zU (zT ?_)))))))
       refine sE (E := E) ?_
       refine zr1 ?_
       exact ⟨congrArg (Value.int IntKind.i64) (by rw [chk_spec (m := 20) (by omega) hc0 hc1, hlw, hlt]; rw [if_neg (no_a hc6), if_neg (no_b hc7), if_neg (no_c hc8)]), rfl⟩

theorem Bad22_V {R : Ro} {aw at_ : Option Addr} {lw cw lt ct : Nat} {L : Ln} (hw : RS R 1 encI aw L.w) (hlw : L.w.length = lw) (ht : RS R 1 encI at_ L.tb) (hlt : L.tb.length = lt) {la : Option Addr} {lc ll : Nat} {ls : List CvS} (hla : RS R 3 encC la ls) (hll : ls.length = ll) (hlc : ll ≤ lc) (hls : ∀ x ∈ ls, RS R 1 encI x.a x.cv.vals ∧ x.cv.vals.length ≤ 100000 ∧ x.cv.vals.length ≤ x.cap) {za : Option Addr} {zc lz : Nat} {z : List Sz} (hzr : RS R 2 encZ za z) (hlz : z.length = lz) {cls : Int} : FnV Tryz.prog 33 [.agg #[.int .i64 L.kind, .int .i64 L.cap, .int .i64 L.n, .slice aw lw cw, .slice at_ lt ct], .int .i64 cls, .slice la ll lc, .slice za lz zc] R (.int .i64 (argE L cls (ls.map CvS.cv) z)) := by
 subst hll
 subst hlz
 have hl1 := hla.len
 have hl2 := hzr.len
 have hlm : (ls.map CvS.cv).length = ls.length := List.length_map ..
 have ea := arg_ref L cls (ls.map CvS.cv) z
 rw [hlm] at ea
 refine Fn.toV (fun w0 E => ?_)
 refine fE 45 Tryz.func33 ?_
 refine zQ (zG ?_)
 refine zO fun b4 => ?_
 refine zR 1 rfl (zN (zU (zQ (zQ (zG ?_)))))
 refine yB 0 ?_
 refine WG.callV (v := .int .i64 (chkL L)) en51 rfl rfl qD (CallOp.mk' rfl rfl rfl rfl) (fun _ => rfl) (fun hg => Chk22_V hw hlw ht hlt) ?_
 refine zR 1 rfl (zN (zU (zQ (zG (zR 2 rfl (zN (zU ?_)))))))
 refine cN rfl ?_ ?_ <;> intro hc0
 ·
  rw [if_pos hc0] at ea
  refine zQ (zG (zR 2 rfl (zN (zU (zT (wt ?_))))))
  refine sE (E := E) ?_
  refine zr1 ?_
  exact ⟨by rw [ea]; rfl, rfl⟩
 ·
  rw [if_neg (fun h => h hc0)] at ea
  refine zK (zU (zQ (zQ (zG (zR 3 rfl ?_)))))
  refine yP ?_
  refine yP ?_
  refine yG (Rd.addC (Rd.blkC 0 rfl) _) ?_
  refine yP ?_
  refine yO ?_
  refine zR 1 rfl ?_
  refine yP ?_
  refine yP ?_
  refine yP ?_
  refine yG (Rd.addC (Rd.blkC 0 rfl) _) ?_
  refine yP ?_
  refine yO ?_
  refine zR 1 rfl ?_
  refine yP ?_
  refine yP ?_
  refine yP ?_
  refine yG (Rd.addC (Rd.blkC 0 rfl) _) ?_
  refine yP ?_
  refine yO ?_
  refine zR 1 rfl ?_
  refine yP ?_
  refine WG.callV (v := .bool (zOk z)) en52 rfl rfl qD (CallOp.mk' rfl rfl rfl rfl) qE (fun hg => Right18_V hzr) ?_
  refine yP ?_
  refine yO ?_
  refine zN (zU ?_)
  refine cC rfl ?_ ?_ <;> intro hc1
  ·try simp only [zk] at hc1
   refine zQ (zG (zR 1 rfl (zN (zU (zT (wt ?_))))))
   refine sE (E := E) ?_
   refine zr1 ?_
   exact ⟨by rw [ea, if_pos (by rcases hc1 with (((h | h) | h) | h) | h <;> simp [h])]; rfl, rfl⟩
  ·try simp only [zk] at hc1
   have hn : ¬ (cls < 0 ∨ L.n ≤ cls ∨ (ls.length : Int) ≠ L.n ∨ (z.length : Int) ≠ L.n ∨ zOk z = false) := by
    rintro (h | h | h | h | h) <;> first | (simp_all; done) | omega
   refine zK (zU (zQ (zQ (zG (zR 1 rfl ?_)))))
   refine WG.callV (v := .bool (allV (ls.map CvS.cv))) en53 rfl rfl qD (CallOp.mk' rfl rfl rfl rfl) (fun _ => rfl) (fun hg => Valid18_V hla hls) ?_
   refine zR 1 rfl (zN (zU ?_))
   refine cC rfl ?_ ?_ <;> intro hc2
   ·try simp only [zk] at hc2
    refine zQ (zG (zR 1 rfl (zN (zU (zT (wt ?_))))))
    refine sE (E := E) ?_
    refine zr1 ?_
    exact ⟨by rw [ea, if_neg hn, if_neg (by simp [hc2])]; rfl, rfl⟩
   ·try simp only [zk] at hc2
    refine zK (zU (zQ (zG (zR 1 rfl (zN (zU (zT ?_)))))))
    refine sE (E := E) ?_
    refine zr1 ?_
    exact ⟨by rw [ea, if_neg hn, if_pos (by first | exact hc2 | simpa using hc2)]; rfl, rfl⟩

theorem Fifo22_C {R : Ro} {aw at_ : Option Addr} {lw cw lt ct : Nat} {L : Ln} (hw : RS R 1 encI aw L.w) (hlw : L.w.length = lw) (ht : RS R 1 encI at_ L.tb) (hlt : L.tb.length = lt) {la : Option Addr} {lc ll : Nat} {ls : List CvS} (hla : RS R 3 encC la ls) (hll : ls.length = ll) (hls : ∀ x ∈ ls, RS R 1 encI x.a x.cv.vals ∧ validB x.cv = true ∧ x.cv.vals.length ≤ x.cap) (hc : 1 ≤ L.cap ∧ L.cap ≤ 4000) (w0 : World) (E : List Ent) : K.Fn Tryz.prog 38 [.agg #[.int .i64 L.kind, .int .i64 L.cap, .int .i64 L.n, .slice aw lw cw, .slice at_ lt ct], .slice la ll lc] w0 R E (fun r R' E' => r = devV (allC L.cap (ls.map CvS.cv)) ∧ E.Sublist E') := by
 have hvt := total_valid (ls := ls.map CvS.cv) (fun c hc => by obtain ⟨x, hx, rfl⟩ := List.mem_map.1 hc; exact (hls x hx).2.1)
 have eA : allC L.cap (ls.map CvS.cv) = if (totalC (ls.map CvS.cv)).2 ≠ 0 then ((false, 0, 0), (totalC (ls.map CvS.cv)).2) else delayC (totalC (ls.map CvS.cv)).1 (lineC L.cap) := rfl
 have hlv := (line_facts (cap := L.cap) ⟨by omega, by omega⟩).1.valid
 refine fE 30 Tryz.func38 ?_
 refine zQ (zG ?_)
 refine zO fun b2 => ?_
 refine zA fun b4 => ?_
 refine zR 1 rfl (zN (zU (zQ (zG (zR 1 rfl ?_)))))
 refine WL.call en55 rfl rfl qD (CallOp.mkT rfl rfl rfl rfl) (TotalG05_C hll hla hls w0 _) ?_
 rintro _ R2 E2 hR2 ⟨f, fc, rfl, hf, hcpk, hsub⟩
 refine WL.subE hsub ?_
 generalize hq : totalC (ls.map CvS.cv) = q at hf hcpk hvt eA ⊢
 unfold cvV
 refine zR 3 rfl ?_
 refine zA fun b6 => ?_
 refine zE 0 ?_
 refine zR 1 rfl (zN (zU (zQ (zQ (zG (zR 2 rfl (zN (zU ?_))))))))
 refine cN rfl ?_ ?_ <;> intro hc0
 ·
  rw [if_pos hc0] at eA
  refine zQ (zG ?_)
  refine yW [] ?_
  refine zR 1 rfl ?_
  refine zE 1 ?_
  refine zR 1 rfl (zN (zU (zT (wt ?_))))
  refine zq4 (by first | exact hR2 | exact hR2.trans (hR3.trans hR4)) ?_
  exact ⟨by rw [eA]; rfl, qS⟩
 ·
  rw [if_neg (fun h => h hc0)] at eA
  refine zK (zU (zQ (zG (zR 1 rfl ?_))))
  refine yM 2 ?_
  refine WL.call en58 rfl rfl qD (CallOp.mkT rfl rfl rfl rfl) (ServeR_ok (cap := L.cap) hc w0 _) ?_
  rintro _ R3 E3 hR3 ⟨g, rfl, hg0, hsub3⟩
  refine WL.subE hsub3 ?_
  refine zR 3 rfl ?_
  refine zA fun b8 => ?_
  refine zE 0 ?_
  refine zR 1 rfl (zN (zU (zQ (zG ?_))))
  refine yB 1 ?_
  refine yB 0 ?_
  refine WL.call en43 rfl rfl qD (CallOp.mkT rfl rfl rfl rfl) (Delay10_C (cf := q.1) (cg := lineC L.cap) (hvt hc0) (hf.mono hR3) hcpk hlv hg0 (Nat.le_refl 1) w0 _) ?_
  rintro _ R4 E4 hR4 ⟨rfl, hsub4⟩
  refine WL.subE hsub4 ?_
  rw [← delay_same (norm_nrm (hvt hc0)).valid (norm_nrm hlv).valid]
  refine zR 2 rfl ?_
  refine zE 2 ?_
  refine zR 1 rfl (zN (zU (zT ?_)))
  refine zq4 (by first | exact hR2 | exact hR2.trans (hR3.trans hR4)) ?_
  exact ⟨by rw [eA]; rfl, qS⟩
theorem Curve22_C {R : Ro} {aw at_ : Option Addr} {lw cw lt ct : Nat} {L : Ln} (hw : RS R 1 encI aw L.w) (hlw : L.w.length = lw) (ht : RS R 1 encI at_ L.tb) (hlt : L.tb.length = lt) {la : Option Addr} {lc ll : Nat} {ls : List CvS} (hla : RS R 3 encC la ls) (hll : ls.length = ll) (hlc : ll ≤ lc) (hls : ∀ x ∈ ls, RS R 1 encI x.a x.cv.vals ∧ x.cv.vals.length ≤ 100000 ∧ x.cv.vals.length ≤ x.cap) {za : Option Addr} {zc lz : Nat} {z : List Sz} (hzr : RS R 2 encZ za z) (hlz : z.length = lz) {cls : Int} (w0 : World) (E : List Ent) : K.Fn Tryz.prog 17 [.agg #[.int .i64 L.kind, .int .i64 L.cap, .int .i64 L.n, .slice aw lw cw, .slice at_ lt ct], .int .i64 cls, .slice la ll lc, .slice za lz zc] w0 R E (fun r R' E' => ∃ (f : Option Addr) (fc : Nat), r = cvV f fc (curveL L cls (ls.map CvS.cv) z) ∧ RS R' 1 encI f (curveL L cls (ls.map CvS.cv) z).1.vals ∧ (curveL L cls (ls.map CvS.cv) z).1.vals.length ≤ fc ∧ E.Sublist E') := by
 subst hll
 subst hlz
 subst hlw
 subst hlt
 refine fE 85 Tryz.func17 ?_
 refine zQ (zG ?_)
 refine zO fun b4 => ?_
 refine zA fun b8 => ?_
 refine zR 1 rfl (zN (zU (zQ (zQ (zG ?_)))))
 refine yB 1 ?_
 refine zR 3 rfl ?_
 refine WG.callV (v := .int .i64 (argE L cls (ls.map CvS.cv) z)) en33 rfl rfl qD (CallOp.mk' rfl rfl rfl rfl) (fun _ => rfl) (fun hg => Bad22_V hw rfl ht rfl hla rfl hlc hls hzr rfl) ?_
 refine zR 1 rfl (zN (zU (zQ (zG (zR 2 rfl (zN (zU ?_)))))))
 refine cN rfl ?_ ?_ <;> intro hc0
 ·
  have e : curveL L cls (ls.map CvS.cv) z = (zcv, argE L cls (ls.map CvS.cv) z) := if_pos hc0
  refine zQ (zG ?_)
  refine yW [] ?_
  refine zR 1 rfl ?_
  refine zE 0 ?_
  refine zR 1 rfl (zN (zU (zT (wt ?_))))
  refine zq4 (by first | exact RLe.refl _ | exact hR2 | exact hR2.trans hR3) ?_
  rw [e]
  exact ⟨none, 0, rfl, rs_nil, Nat.le_refl _, qS⟩
 ·
  have e : curveL L cls (ls.map CvS.cv) z = schedC L cls (ls.map CvS.cv) z := if_neg (fun h => h hc0)
  obtain ⟨hk0, -, -, hv⟩ := arg_facts hc0
  have hf := chk_facts hk0
  refine zK (zU (zQ (zQ (zG (zR 1 rfl ?_)))))
  refine yM 1 ?_
  refine zN (zU (zB (zQ (zG (zR 2 rfl (zN (zU ?_)))))))
  refine cE rfl ?_ ?_ <;> intro hc1
  ·
   refine zQ (zG (zR 1 rfl ?_))
   refine yM 1 ?_
   refine zR 3 rfl ?_
   refine WL.call en34 rfl rfl qD (CallOp.mkT rfl rfl rfl rfl) (RCurve18_C hla hlc hls hzr L.cap cls w0 _) ?_
   rintro _ R2 E2 hR2 ⟨f, fc, rfl, hf, hcpk, hsub⟩
   refine WL.subE hsub ?_
   rw [← (show schedC L cls (ls.map CvS.cv) z = prioC L.cap cls (ls.map CvS.cv) z from by simp [schedC, hc1]), ← e] at hf hcpk ⊢
   unfold cvV
   refine zR 2 rfl ?_
   refine zE 0 ?_
   refine zR 1 rfl (zN (zU (zT (wb (wt ?_)))))
   refine zq4 (by first | exact RLe.refl _ | exact hR2 | exact hR2.trans hR3) ?_
   exact ⟨f, fc, rfl, hf, hcpk, qS⟩
  ·
   refine zQ (zG (zR 2 rfl (zN (zU ?_))))
   refine cE rfl ?_ ?_ <;> intro hc2
   ·
    refine zQ (zG (zR 1 rfl ?_))
    refine yM 1 ?_
    refine zR 2 rfl ?_
    refine yM 1 ?_
    refine zR 1 rfl ?_
    refine WL.call en35 rfl rfl qD (CallOp.mkT rfl rfl rfl rfl) (Curve19K_C hw hzr w0 _) ?_
    rintro _ R2 E2 hR2 ⟨f, fc, rfl, hf, hcpk, hsub⟩
    refine WL.subE hsub ?_
    rw [← (show schedC L cls (ls.map CvS.cv) z = robinC L.cap cls L.w z from by simp [schedC, hc2]), ← e] at hf hcpk ⊢
    unfold cvV
    refine zR 2 rfl ?_
    refine zE 0 ?_
    refine zR 1 rfl (zN (zU (zT (wb (wt ?_)))))
    refine zq4 (by first | exact RLe.refl _ | exact hR2 | exact hR2.trans hR3) ?_
    exact ⟨f, fc, rfl, hf, hcpk, qS⟩
   ·
    refine zQ (zG (zR 2 rfl (zN (zU ?_))))
    refine cE rfl ?_ ?_ <;> intro hc3
    ·
     refine zQ (zG (zR 1 rfl ?_))
     refine yM 1 ?_
     refine zR 2 rfl ?_
     refine yM 1 ?_
     refine zR 1 rfl ?_
     refine WL.call en36 rfl rfl qD (CallOp.mkT rfl rfl rfl rfl) (Curve20K_C hw hzr w0 _) ?_
     rintro _ R2 E2 hR2 ⟨f, fc, rfl, hf, hcpk, hsub⟩
     refine WL.subE hsub ?_
     rw [← (show schedC L cls (ls.map CvS.cv) z = defC L.cap cls L.w z from by simp [schedC, hc3]), ← e] at hf hcpk ⊢
     unfold cvV
     refine zR 2 rfl ?_
     refine zE 0 ?_
     refine zR 1 rfl (zN (zU (zT (wb (wt ?_)))))
     refine zq4 (by first | exact RLe.refl _ | exact hR2 | exact hR2.trans hR3) ?_
     exact ⟨f, fc, rfl, hf, hcpk, qS⟩
    ·
     refine zQ (zG (zR 2 rfl (zN (zU ?_))))
     refine cE rfl ?_ ?_ <;> intro hc4
     ·
      refine zQ (zG (zR 1 rfl ?_))
      refine yM 1 ?_
      refine zR 2 rfl ?_
      refine yM 1 ?_
      refine zR 1 rfl ?_
      refine WL.call en37 rfl rfl qD (CallOp.mkT rfl rfl rfl rfl) (Curve21K_C ht hzr w0 _) ?_
      rintro _ R2 E2 hR2 ⟨f, fc, rfl, hf, hcpk, hsub⟩
      refine WL.subE hsub ?_
      rw [← (show schedC L cls (ls.map CvS.cv) z = slotC L.cap cls L.tb z from by simp [schedC, hc4]), ← e] at hf hcpk ⊢
      unfold cvV
      refine zR 2 rfl ?_
      refine zE 0 ?_
      refine zR 1 rfl (zN (zU (zT (wb (wt ?_)))))
      refine zq4 (by first | exact RLe.refl _ | exact hR2 | exact hR2.trans hR3) ?_
      exact ⟨f, fc, rfl, hf, hcpk, qS⟩
     ·
      have hk1 : L.kind = 1 := by have := hf.1; omega
      refine zK (zL (zU (zQ (zG ?_))))
      refine yB 1 ?_
      refine zR 1 rfl ?_
      refine WL.call en38 rfl rfl qD (CallOp.mkT rfl rfl rfl rfl) (Fifo22_C hw rfl ht rfl hla rfl (fun x hx => ⟨(hls x hx).1, hv _ (List.mem_map.2 ⟨x, hx, rfl⟩), (hls x hx).2.2⟩) ⟨hf.2.1, hf.2.2.1⟩ w0 _) ?_
      rintro _ R2 E2 hR2 ⟨rfl, hsub⟩
      refine WL.subE hsub ?_
      have e1 : curveL L cls (ls.map CvS.cv) z = if (allC L.cap (ls.map CvS.cv)).2 ≠ 0 then (zcv, (allC L.cap (ls.map CvS.cv)).2) else if (allC L.cap (ls.map CvS.cv)).1.1 = true then (zcv, 5) else waitC (allC L.cap (ls.map CvS.cv)).1.2.1 := by rw [e]; unfold schedC; rw [if_pos hk1]; rfl
      generalize allC L.cap (ls.map CvS.cv) = q at e1 ⊢
      unfold devV
      refine zR 3 rfl ?_
      refine zA fun b11 => ?_
      refine zE 0 ?_
      refine zR 1 rfl (zN (zU (zQ (zQ (zG (zR 2 rfl (zN (zU ?_))))))))
      refine cN rfl ?_ ?_ <;> intro hc5
      ·
       rw [if_pos hc5] at e1
       refine zQ (zG ?_)
       refine yW [] ?_
       refine zR 1 rfl ?_
       refine zE 1 ?_
       refine zR 1 rfl (zN (zU (zT (wt ?_))))
       refine zq4 (by first | exact RLe.refl _ | exact hR2 | exact hR2.trans hR3) ?_
       rw [e1]
       exact ⟨none, 0, rfl, rs_nil, Nat.le_refl _, qS⟩
      ·
       rw [if_neg (fun h => h hc5)] at e1
       refine zK (zU (zQ (zQ (zG (zR 1 rfl ?_)))))
       refine yM 0 ?_
       refine zN (zU ?_)
       refine cC rfl ?_ ?_ <;> intro hc6
       ·try simp only [zk] at hc6
        rw [if_pos hc6] at e1
        refine zQ (zG ?_)
        refine yW [] ?_
        refine zE 1 ?_
        refine zR 1 rfl (zN (zU (zT (wt ?_))))
        refine zq4 (by first | exact RLe.refl _ | exact hR2 | exact hR2.trans hR3) ?_
        rw [e1]
        exact ⟨none, 0, rfl, rs_nil, Nat.le_refl _, qS⟩
       ·try simp only [zk] at hc6
        rw [if_neg (by simp [hc6])] at e1
        refine zK (zU (zQ (zG (zR 1 rfl ?_))))
        refine yM 0 ?_
        refine WL.call en39 rfl rfl qD (CallOp.mkT rfl rfl rfl rfl) (Wait02_C (v := q.1.2.1) w0 _) ?_
        rintro _ R3 E3 hR3 ⟨f, fc, rfl, hf, hcpk, hsub3⟩
        refine WL.subE hsub3 ?_
        rw [← e1] at hf hcpk ⊢
        unfold cvV
        refine zR 2 rfl ?_
        refine zE 1 ?_
        refine zR 1 rfl (zN (zU (zT ?_)))
        refine zq4 (by first | exact RLe.refl _ | exact hR2 | exact hR2.trans hR3) ?_
        exact ⟨f, fc, rfl, hf, hcpk, qS⟩

set_option maxHeartbeats 2000000 in
theorem Above10_C {R : Ro} {fa : Option Addr} {fc : Nat} {cf : Cv} (hvf : validB cf = true) (ha : RS R 1 encI fa cf.vals) (hcap : cf.vals.length ≤ fc) {ga : Option Addr} {gc : Nat} {cg : Cv} (hvg : validB cg = true) (hb : RS R 1 encI ga cg.vals) (hcapd : cg.vals.length ≤ gc) {dd : Nat} (hdd : dd ≤ 10) (w0 : World) (E : List Ent) : K.Fn Tryz.prog 85 [.agg #[.slice fa cf.vals.length fc, .int .i64 cf.per, .int .i64 cf.inc], .agg #[.slice ga cg.vals.length gc, .int .i64 cg.per, .int .i64 cg.inc], .int .i64 (dd : Int)] w0 R E (fun v R' E' => v = .tuple #[.agg #[.bool ((devQ (normR cf) (normR cg) (gapA (normR cf) (normR cg) dd))).1.1, .int .i64 ((devQ (normR cf) (normR cg) (gapA (normR cf) (normR cg) dd))).1.2.1, .int .i64 ((devQ (normR cf) (normR cg) (gapA (normR cf) (normR cg) dd))).1.2.2], .int .i64 ((devQ (normR cf) (normR cg) (gapA (normR cf) (normR cg) dd))).2] ∧ E.Sublist E') := by
 have hnf := norm_nrm hvf
 have hng := norm_nrm hvg
 refine fE 76 Tryz.func85 ?_
 refine zQ (zG ?_)
 refine zO fun b3 => ?_
 refine zO fun b4 => ?_
 refine zA fun b6 => ?_
 refine zR 1 rfl (zN (zU (zQ (zG ?_))))
 refine yB 2 ?_
 refine yB 1 ?_
 refine WL.call en78 rfl rfl qD (CallOp.mkT rfl rfl rfl rfl) (Pair05_C hvf ha hcap hvg hb hcapd w0 _) ?_
 rintro _ R1 _ hR1 ⟨fa1x, ca1x, fa2x, ca2x, rfl, ha1x, ha2x, hsub1⟩
 refine WL.subE hsub1 ?_
 generalize normR cf = m1 at *
 generalize normR cg = m2 at *
 have hv1 := hnf.valid
 have hv2 := hng.valid
 have hlp := lcm_pos hv1 hv2
 have hs1 := stN_lt hv1
 have hs2 := stN_lt hv2
 have hlle := lcmC_le hv1 hv2
 refine zR 5 rfl ?_
 refine zA fun b8 => ?_
 refine zA fun b9 => ?_
 refine zE 1 ?_
 refine zE 0 ?_
 refine zR 2 rfl (zN (zU (zQ (zQ (zG (zR 2 rfl (zN (zU ?_))))))))
 refine cN rfl ?_ ?_ <;> intro hc0
 ·
  have hl1 : 120 < lcmC m1 m2 := by
   apply Classical.byContradiction
   intro h
   rw [if_neg h] at hc0
   exact hc0 rfl
  rw [if_pos hl1]
  have hd : devQ m1 m2 (gapA m1 m2 dd) = ((false, 0, 0), 3) := by unfold devQ; rw [if_pos hl1]
  refine zQ (zG ?_)
  refine yW [] ?_
  refine zR 1 rfl ?_
  refine zE 2 ?_
  refine zR 1 rfl (zN (zU (zT (wt ?_))))
  refine zq4 (hR1) ?_
  exact ⟨by rw [hd]; rfl, qS⟩
 ·
  have hl1 : ¬ 120 < lcmC m1 m2 := fun h => by rw [if_pos h] at hc0; exact absurd hc0 (by decide)
  rw [if_neg hl1, if_neg hl1]
  refine zK (zU (zQ (zQ (zG ?_))))
  refine yB 1 ?_
  refine WG.callV en79 rfl rfl qD (CallOp.mk' rfl rfl rfl rfl) (fun _ => rfl) (fun hg => FiniteG_V hv1 ha1x) ?_
  refine zR 1 rfl ?_
  refine' WG.y rfl rfl (by decide) (Yl.loadG tab_ok rfl rfl rfl (by first | exact fun _ => rfl | exact fun h => h | (intro h; simp_all; done) | ((try generalize decide (driftG m1 m2 < 0) = k1); (try generalize (driftG m1 m2 == 0) = k2); (try generalize decide (gainC m1 (lcmC m1 m2) - gainC m2 (lcmC m1 m2) > 0) = k5); (try generalize finB m1 = k3); (try generalize finB m2 = k4); (try revert k1); (try revert k2); (try revert k3); (try revert k4); (try revert k5); decide)) ?r4 rfl ?h4 ?g4) ?_
  case r4 => (exact Rd.blkC 0 rfl)
  case h4 => rfl
  case g4 => exact fun _ => trivial
  refine WG.callV en79 rfl rfl (by decide) (CallOp.mk' rfl rfl rfl rfl) (by first | exact fun _ => rfl | exact fun h => h | (intro h; simp_all; done) | ((try generalize decide (driftG m1 m2 < 0) = k1); (try generalize (driftG m1 m2 == 0) = k2); (try generalize decide (gainC m1 (lcmC m1 m2) - gainC m2 (lcmC m1 m2) > 0) = k5); (try generalize finB m1 = k3); (try generalize finB m2 = k4); (try revert k1); (try revert k2); (try revert k3); (try revert k4); (try revert k5); decide)) (fun hg => FiniteG_V hv2 ha2x) ?_
  refine WG.y rfl rfl (by decide) (Yl.pand rfl rfl rfl (fun _ => rfl) (by first | exact fun _ _ => rfl | ((try generalize decide (driftG m1 m2 < 0) = k1); (try generalize (driftG m1 m2 == 0) = k2); (try generalize decide (gainC m1 (lcmC m1 m2) - gainC m2 (lcmC m1 m2) > 0) = k5); (try generalize finB m1 = k3); (try generalize finB m2 = k4); (try revert k1); (try revert k2); (try revert k3); (try revert k4); (try revert k5); decide) | (intro h1 h2; simp_all <;> omega))) ?_
  refine zR 1 rfl ?_
  refine' WG.y rfl rfl (by decide) (Yl.loadG tab_ok rfl rfl rfl (by first | exact fun _ => rfl | exact fun h => h | (intro h; simp_all; done) | ((try generalize decide (driftG m1 m2 < 0) = k1); (try generalize (driftG m1 m2 == 0) = k2); (try generalize decide (gainC m1 (lcmC m1 m2) - gainC m2 (lcmC m1 m2) > 0) = k5); (try generalize finB m1 = k3); (try generalize finB m2 = k4); (try revert k1); (try revert k2); (try revert k3); (try revert k4); (try revert k5); decide)) ?r5 rfl ?h5 ?g5) ?_
  case r5 => (exact Rd.blkC 1 rfl)
  case h5 => rfl
  case g5 => exact fun _ => trivial
  refine' WG.y rfl rfl (by decide) (Yl.loadG tab_ok rfl rfl rfl (by first | exact fun _ => rfl | exact fun h => h | (intro h; simp_all; done) | ((try generalize decide (driftG m1 m2 < 0) = k1); (try generalize (driftG m1 m2 == 0) = k2); (try generalize decide (gainC m1 (lcmC m1 m2) - gainC m2 (lcmC m1 m2) > 0) = k5); (try generalize finB m1 = k3); (try generalize finB m2 = k4); (try revert k1); (try revert k2); (try revert k3); (try revert k4); (try revert k5); decide)) ?r6 rfl ?h6 ?g6) ?_
  case r6 => (exact Rd.blkC 0 rfl)
  case h6 => rfl
  case g6 => exact fun _ => trivial
  refine WG.y rfl rfl (by decide) (pureV_ok tab_ok rfl (by first | exact fun _ => rfl | exact fun h => h | (intro h; simp_all; done) | ((try generalize decide (driftG m1 m2 < 0) = k1); (try generalize (driftG m1 m2 == 0) = k2); (try generalize decide (gainC m1 (lcmC m1 m2) - gainC m2 (lcmC m1 m2) > 0) = k5); (try generalize finB m1 = k3); (try generalize finB m2 = k4); (try revert k1); (try revert k2); (try revert k3); (try revert k4); (try revert k5); decide))) ?_
  refine WG.callV en80 rfl rfl (by decide) (CallOp.mk' rfl rfl rfl rfl) (by first | exact fun _ => rfl | exact fun h => h | (intro h; simp_all; done) | ((try generalize decide (driftG m1 m2 < 0) = k1); (try generalize (driftG m1 m2 == 0) = k2); (try generalize decide (gainC m1 (lcmC m1 m2) - gainC m2 (lcmC m1 m2) > 0) = k5); (try generalize finB m1 = k3); (try generalize finB m2 = k4); (try revert k1); (try revert k2); (try revert k3); (try revert k4); (try revert k5); decide)) (fun hg => Grows10_V hv1 ha1x hv2 ha2x (L := lcmC m1 m2) (by omega)) ?_
  refine WG.y rfl rfl (by decide) (Yl.pand rfl rfl rfl (fun _ => rfl) (by first | exact fun _ _ => rfl | ((try generalize decide (driftG m1 m2 < 0) = k1); (try generalize (driftG m1 m2 == 0) = k2); (try generalize decide (gainC m1 (lcmC m1 m2) - gainC m2 (lcmC m1 m2) > 0) = k5); (try generalize finB m1 = k3); (try generalize finB m2 = k4); (try revert k1); (try revert k2); (try revert k3); (try revert k4); (try revert k5); decide) | (intro h1 h2; simp_all <;> omega))) ?_
  refine zN (zU ?_)
  refine cC rfl ?_ ?_ <;> intro hc1
  ·try simp only [zk] at hc1
   have hq : fastQ m1 m2 := ⟨hc1.1.1, hc1.1.2, by omega⟩
   have hd : devQ m1 m2 (gapA m1 m2 dd) = ((true, 0, 0), 0) := by unfold devQ; rw [if_neg hl1, if_pos hq]
   refine zQ (zG ?_)
   refine yW [(0, .const (.bool true))] ?_
   refine zE 2 ?_
   refine zR 1 rfl (zN (zU (zT (wt ?_))))
   refine zq4 (hR1) ?_
   exact ⟨by rw [hd]; rfl, qS⟩
  ·try simp only [zk] at hc1
   have hq : ¬ fastQ m1 m2 := fun ⟨g1, g2, g3⟩ => by have := hc1 ⟨g1, g2⟩; omega
   have hd : devQ m1 m2 (gapA m1 m2 dd) = (greatW (gapA m1 m2 dd) (max m1.vals.length m2.vals.length + lcmC m1 m2) 0 0 0, 0) := by unfold devQ; rw [if_neg hl1, if_neg hq]
   refine zK (zU (zQ (zG ?_)))
   refine yW [] ?_
   refine zA fun b12 => ?_
   refine zE 0 ?_
   refine zN (zU (zQ (zQ (zG (zR 1 rfl (zN (zU (zB ?_))))))))
   refine W.loopK (β := Nat × Int × Int) (fun (t, v, a) => 0 ≤ v ∧ t ≤ (max m1.vals.length m2.vals.length + lcmC m1 m2) ∧ greatW (gapA m1 m2 dd) ((max m1.vals.length m2.vals.length + lcmC m1 m2) - t) t v a = greatW (gapA m1 m2 dd) (max m1.vals.length m2.vals.length + lcmC m1 m2) 0 0 0) (fun (t, v, a) => [(13, true, .int .i64 (t : Int))]) [2, 6, 8, 9, 10, 12] [_, _, _, _, _, _] [] _ rfl (fun (t, v, a) => [(0, .blk b12 [.bool false, .int .i64 v, .int .i64 a])]) (fun (t, v, a) => (max m1.vals.length m2.vals.length + lcmC m1 m2) - t) ((0, 0, 0)) (⟨Int.le_refl _, Nat.zero_le _, by rfl⟩) ⟨rfl, rfl, rfl, rfl, rfl, rfl, rfl, rfl⟩ qS ?_
   intro st hst
   obtain ⟨t, v, a⟩ := st
   dsimp only [zipE, setAll, List.cons_append, List.nil_append, List.set_cons_zero, List.set_cons_succ]
   obtain ⟨hv0, ht, hg⟩ := hst
   refine zQ (zQ (zG (zR 1 rfl ?_)))
   refine yB 2 ?_
   refine yB 1 ?_
   refine zR 1 rfl ?_
   refine WG.callV en81 rfl rfl qD (CallOp.mk' rfl rfl rfl rfl) (fun _ => rfl) (fun hg => Window10_V hv1 ha1x hv2 ha2x (L := lcmC m1 m2) qO) ?_
   refine zR 1 rfl (zN (zU ?_))
   refine cD rfl ?_ ?_ <;> intro hc2
   ·
    have htl : t < (max m1.vals.length m2.vals.length + lcmC m1 m2) := by omega
    obtain ⟨m, hm⟩ : ∃ m, (max m1.vals.length m2.vals.length + lcmC m1 m2) - t = m + 1 := ⟨(max m1.vals.length m2.vals.length + lcmC m1 m2) - t - 1, by omega⟩
    have hm2 : (max m1.vals.length m2.vals.length + lcmC m1 m2) - (t + 1) = m := by omega
    rw [hm, greatW] at hg
    have hl1 := cvF_bound hv1 (t + dd)
    have hl2 := cvF_bound hv2 t
    have i1 := isInf_iff hv1 (t := t + dd) (by omega)
    have i2 := isInf_iff hv2 (t := t) (by omega)
    unfold INF at hl1 hl2 i1 i2
    refine zK (zU (zQ (zB (zQ ?_))))
    refine W.regionQ _ mixed qK ?_
    refine yB 2 ?_
    refine zR 2 rfl ?_
    refine yA ?_
    refine WG.callV (v := .int .i64 (cvF m1 (t + dd))) en83 rfl rfl qD (CallOp.mk' rfl rfl rfl rfl) (fun _ => rfl) (fun hg => AtG_V (t := t + dd) hv1 ha1x qO) ?_
    refine yB 1 ?_
    refine zR 1 rfl ?_
    refine WG.callV (v := .int .i64 (cvF m2 t)) en83 rfl rfl qD (CallOp.mk' rfl rfl rfl rfl) (fun _ => rfl) (fun hg => AtG_V (t := t) hv2 ha2x qO) ?_
    refine zR 2 rfl (zN (zU (zQ (zQ (zG (zR 2 rfl (zN (zU ?_))))))))
    refine cE rfl ?_ ?_ <;> intro hc3
    ·
     have hgt : gapA m1 m2 dd t = (0, true) := if_pos (i2.2 hc3)
     rw [hgt, if_neg (by decide), if_neg (show ¬ (0 : Int) > v by omega), ← hm2] at hg
     refine zX ?_
     refine wx (zY (zU (zG (zR 1 rfl ?_))))
     refine yA ?_
     refine zR 1 rfl (zN ?_)
     refine WE.again ((t + 1, v, a)) (⟨by dsimp only; omega, by dsimp only; omega, hg⟩) (by (try dsimp only); omega) ⟨rfl, rfl, rfl, rfl, rfl, rfl, rfl, rfl⟩ (RLe.refl _) qS
    ·
     have hgt : gapA m1 m2 dd t = (cvF m1 (t + dd) - cvF m2 t, !decide (isInf m1 (t + dd))) := if_neg (fun h => hc3 (i2.1 h))
     rw [hgt] at hg
     dsimp only at hg
     refine zK (zU (zQ (zQ (zG (zR 2 rfl (zN (zU ?_)))))))
     refine cE rfl ?_ ?_ <;> intro hc4
     ·
      rw [if_pos (by rw [decide_eq_true (i1.2 hc4)]; rfl)] at hg
      refine zQ (zG ?_)
      refine yW [(0, .const (.bool true))] ?_
      refine zE 3 ?_
      refine zR 1 rfl (zN (zU (zT (wt (wb (wt (wt (wb (wt ?_)))))))))
      refine zq4 (hR1) ?_
      exact ⟨by rw [hd, ← hg]; rfl, qS⟩
     ·
      rw [if_neg (by rw [decide_eq_false (fun h => hc4 (i1.1 h))]; decide)] at hg
      refine zK (zU (zQ (zG (zR 2 rfl ?_))))
      refine yS ?_
      refine zR 1 rfl ?_
      refine yM 0 ?_
      refine zR 1 rfl (zN (zU ?_))
      refine cD rfl ?_ ?_ <;> intro hc5
      ·
       rw [if_pos hc5, ← hm2] at hg
       refine zG (zR 2 rfl ?_)
       refine yS ?_
       refine zR 2 rfl ?_
       refine zF 0 ?_
       refine zR 1 rfl ?_
       refine zF 0 ?_
       refine zN (zL (zU (zG (zR 1 rfl ?_))))
       refine yA ?_
       refine zR 1 rfl (zN ?_)
       refine WE.again ((t + 1, cvF m1 (t + dd) - cvF m2 t, t)) (⟨by dsimp only; omega, by dsimp only; omega, hg⟩) (by (try dsimp only); omega) ⟨rfl, rfl, rfl, rfl, rfl, rfl, rfl, rfl⟩ (RLe.refl _) qS
      ·
       rw [if_neg (by omega), ← hm2] at hg
       refine zK (zL (zU (zG (zR 1 rfl ?_))))
       refine yA ?_
       refine zR 1 rfl (zN ?_)
       refine WE.again ((t + 1, v, a)) (⟨by dsimp only; omega, by dsimp only; omega, hg⟩) (by (try dsimp only); omega) ⟨rfl, rfl, rfl, rfl, rfl, rfl, rfl, rfl⟩ (RLe.refl _) qS
   ·
    obtain rfl : t = (max m1.vals.length m2.vals.length + lcmC m1 m2) := by omega
    rw [Nat.sub_self, greatW] at hg
    refine zX ?_
    refine wx (wx (zY (zU (zQ (zG ?_)))))
    refine yB 0 ?_
    refine zE 3 ?_
    refine zR 1 rfl (zN (zU (zT ?_)))
    refine zq4 (hR1) ?_
    exact ⟨by rw [hd, ← hg]; rfl, qS⟩
theorem Back10_C {R : Ro} {fa : Option Addr} {fc : Nat} {cf : Cv} (hvf : validB cf = true) (ha : RS R 1 encI fa cf.vals) (hcap : cf.vals.length ≤ fc) {ga : Option Addr} {gc : Nat} {cg : Cv} (hvg : validB cg = true) (hb : RS R 1 encI ga cg.vals) (hcapd : cg.vals.length ≤ gc) (w0 : World) (E : List Ent) : K.Fn Tryz.prog 45 [.agg #[.slice fa cf.vals.length fc, .int .i64 cf.per, .int .i64 cf.inc], .agg #[.slice ga cg.vals.length gc, .int .i64 cg.per, .int .i64 cg.inc]] w0 R E (fun v R' E' => v = .tuple #[.agg #[.bool ((devQ (normR cf) (normR cg) (gapA (normR cf) (normR cg) 0))).1.1, .int .i64 ((devQ (normR cf) (normR cg) (gapA (normR cf) (normR cg) 0))).1.2.1, .int .i64 ((devQ (normR cf) (normR cg) (gapA (normR cf) (normR cg) 0))).1.2.2], .int .i64 ((devQ (normR cf) (normR cg) (gapA (normR cf) (normR cg) 0))).2] ∧ E.Sublist E') := by
 refine fE 11 Tryz.func45 ?_
 refine zQ (zG ?_)
 refine zO fun b2 => ?_
 refine zO fun b3 => ?_
 refine zA fun b4 => ?_
 refine zR 1 rfl (zN (zU (zQ (zG ?_))))
 refine yB 2 ?_
 refine yB 1 ?_
 refine WL.call en85 rfl rfl qD (CallOp.mkT rfl rfl rfl rfl) (Above10_C (dd := 0) hvf ha hcap hvg hb hcapd qD w0 _) ?_
 rintro _ R1 _ hR1 ⟨rfl, hsub⟩
 refine WL.subE hsub ?_
 refine zR 2 rfl ?_
 refine zE 0 ?_
 refine zR 1 rfl (zN (zU (zT ?_)))
 refine zq4 (hR1) ?_
 exact ⟨rfl, qS⟩
theorem Peak10_C {R : Ro} {fa : Option Addr} {fc : Nat} {cf : Cv} (hvf : validB cf = true) (ha : RS R 1 encI fa cf.vals) (hcap : cf.vals.length ≤ fc) {ga : Option Addr} {gc : Nat} {cg : Cv} (hvg : validB cg = true) (hb : RS R 1 encI ga cg.vals) (hcapd : cg.vals.length ≤ gc) (w0 : World) (E : List Ent) : K.Fn Tryz.prog 47 [.agg #[.slice fa cf.vals.length fc, .int .i64 cf.per, .int .i64 cf.inc], .agg #[.slice ga cg.vals.length gc, .int .i64 cg.per, .int .i64 cg.inc]] w0 R E (fun v R' E' => v = .tuple #[.agg #[.bool ((devQ (normR cf) (normR cg) (gapA (normR cf) (normR cg) 1))).1.1, .int .i64 ((devQ (normR cf) (normR cg) (gapA (normR cf) (normR cg) 1))).1.2.1, .int .i64 ((devQ (normR cf) (normR cg) (gapA (normR cf) (normR cg) 1))).1.2.2], .int .i64 ((devQ (normR cf) (normR cg) (gapA (normR cf) (normR cg) 1))).2] ∧ E.Sublist E') := by
 refine fE 11 Tryz.func47 ?_
 refine zQ (zG ?_)
 refine zO fun b2 => ?_
 refine zO fun b3 => ?_
 refine zA fun b4 => ?_
 refine zR 1 rfl (zN (zU (zQ (zG ?_))))
 refine yB 2 ?_
 refine yB 1 ?_
 refine WL.call en85 rfl rfl qD (CallOp.mkT rfl rfl rfl rfl) (Above10_C (dd := 1) hvf ha hcap hvg hb hcapd qD w0 _) ?_
 rintro _ R1 _ hR1 ⟨rfl, hsub⟩
 refine WL.subE hsub ?_
 refine zR 2 rfl ?_
 refine zE 0 ?_
 refine zR 1 rfl (zN (zU (zT ?_)))
 refine zq4 (hR1) ?_
 exact ⟨rfl, qS⟩

theorem Delay22_C {R : Ro} {aw at_ : Option Addr} {lw cw lt ct : Nat} {L : Ln} (hw : RS R 1 encI aw L.w) (hlw : L.w.length = lw) (ht : RS R 1 encI at_ L.tb) (hlt : L.tb.length = lt) {la : Option Addr} {lc ll : Nat} {ls : List CvS} (hla : RS R 3 encC la ls) (hll : ls.length = ll) (hlc : ll ≤ lc) (hls : ∀ x ∈ ls, RS R 1 encI x.a x.cv.vals ∧ x.cv.vals.length ≤ 100000 ∧ x.cv.vals.length ≤ x.cap) {za : Option Addr} {zc lz : Nat} {z : List Sz} (hzr : RS R 2 encZ za z) (hlz : z.length = lz) {cls : Int} (w0 : World) (E : List Ent) : K.Fn Tryz.prog 20 [.agg #[.int .i64 L.kind, .int .i64 L.cap, .int .i64 L.n, .slice aw lw cw, .slice at_ lt ct], .int .i64 cls, .slice la ll lc, .slice za lz zc] w0 R E (fun r R' E' => r = devV (delayL L cls (ls.map CvS.cv) z) ∧ E.Sublist E') := by
 have hl1 := hla.len
 have eM : measL delayC L cls (ls.map CvS.cv) z = if (curveL L cls (ls.map CvS.cv) z).2 ≠ 0 then ((false, 0, 0), (curveL L cls (ls.map CvS.cv) z).2) else delayC (nth (ls.map CvS.cv) cls.toNat) (curveL L cls (ls.map CvS.cv) z).1 := rfl
 have eD : delayL L cls (ls.map CvS.cv) z = if L.kind ≠ 1 then measL delayC L cls (ls.map CvS.cv) z else if argE L cls (ls.map CvS.cv) z ≠ 0 then ((false, 0, 0), argE L cls (ls.map CvS.cv) z) else allC L.cap (ls.map CvS.cv) := rfl
 refine fE 50 Tryz.func20 ?_
 refine zQ (zG ?_)
 refine zO fun b4 => ?_
 refine zA fun b8 => ?_
 refine zR 1 rfl (zN (zU (zQ (zQ (zG ?_)))))
 refine yB 1 ?_
 refine zR 3 rfl ?_
 refine WG.callV (v := .int .i64 (argE L cls (ls.map CvS.cv) z)) en33 rfl rfl qD (CallOp.mk' rfl rfl rfl rfl) (fun _ => rfl) (fun hg => Bad22_V hw hlw ht hlt hla hll hlc hls hzr hlz) ?_
 refine zR 1 rfl (zN (zU (zQ (zG (zR 2 rfl (zN (zU ?_)))))))
 refine cN rfl ?_ ?_ <;> intro hc0
 ·
  have eD0 : delayL L cls (ls.map CvS.cv) z = ((false, 0, 0), argE L cls (ls.map CvS.cv) z) := by
   rw [eD]
   split
   ·rw [eM]
    have e2 : curveL L cls (ls.map CvS.cv) z = (zcv, argE L cls (ls.map CvS.cv) z) := if_pos hc0
    rw [e2, if_pos hc0]
   ·first | rfl | rw [if_pos hc0]
  refine zQ (zG ?_)
  refine yW [] ?_
  refine zR 1 rfl ?_
  refine zE 0 ?_
  refine zR 1 rfl (zN (zU (zT (wt ?_))))
  refine zq4 (by first | exact RLe.refl _ | exact hR2 | exact hR2.trans hR3) ?_
  rw [eD0]
  exact ⟨rfl, qS⟩
 ·
  refine zK (zU (zQ (zQ (zG (zR 1 rfl ?_)))))
  refine yM 1 ?_
  refine zR 1 rfl (zN (zU ?_))
  refine cE rfl ?_ ?_ <;> intro hc1
  ·
   refine zQ (zG ?_)
   refine yB 1 ?_
   refine zR 1 rfl ?_
   refine WL.call en38 rfl rfl qD (CallOp.mkT rfl rfl rfl rfl) (Fifo22_C hw hlw ht hlt hla hll (fun x hx => ⟨(hls x hx).1, (arg_facts hc0).2.2.2 _ (List.mem_map.2 ⟨x, hx, rfl⟩), (hls x hx).2.2⟩) ⟨(chk_facts (arg_facts hc0).1).2.1, (chk_facts (arg_facts hc0).1).2.2.1⟩ w0 _) ?_
   rintro _ R2 E2 hR2 ⟨rfl, hsub⟩
   refine WL.subE hsub ?_
   rw [if_neg (fun h => h hc1), if_neg (fun h => h hc0)] at eD
   unfold devV
   refine zR 2 rfl ?_
   refine zE 0 ?_
   refine zR 1 rfl (zN (zU (zT (wt ?_))))
   refine zq4 (by first | exact RLe.refl _ | exact hR2 | exact hR2.trans hR3) ?_
   rw [eD]
   exact ⟨rfl, qS⟩
  ·
   rw [if_pos hc1] at eD
   refine zK (zU (zQ (zG ?_)))
   refine yB 1 ?_
   refine zR 3 rfl ?_
   refine WL.call en17 rfl rfl qD (CallOp.mkT rfl rfl rfl rfl) (Curve22_C hw hlw ht hlt hla hll hlc hls hzr hlz w0 _) ?_
   rintro _ R2 E2 hR2 ⟨f, fc, rfl, hf, hcpk, hsub⟩
   refine WL.subE hsub ?_
   have hcv : (curveL L cls (ls.map CvS.cv) z).2 = 0 → argE L cls (ls.map CvS.cv) z = 0 ∧ validB (curveL L cls (ls.map CvS.cv) z).1 = true := fun h => by
    have ha : argE L cls (ls.map CvS.cv) z = 0 := by
     apply Classical.byContradiction
     intro hn
     unfold curveL at h
     rw [if_pos hn] at h
     exact hn h
    refine ⟨ha, ?_⟩
    have e : curveL L cls (ls.map CvS.cv) z = schedC L cls (ls.map CvS.cv) z := if_neg (fun hn => hn ha)
    rw [e] at h ⊢
    exact sched_valid (arg_facts ha).2.2.2 h
   generalize curveL L cls (ls.map CvS.cv) z = q at hf hcpk eM hcv ⊢
   unfold cvV
   refine zR 3 rfl ?_
   refine zA fun b11 => ?_
   refine zE 0 ?_
   refine zR 1 rfl (zN (zU (zQ (zQ (zG (zR 2 rfl (zN (zU ?_))))))))
   refine cN rfl ?_ ?_ <;> intro hc2
   ·
    rw [if_pos hc2] at eM
    refine zQ (zG ?_)
    refine yW [] ?_
    refine zR 1 rfl ?_
    refine zE 1 ?_
    refine zR 1 rfl (zN (zU (zT (wt ?_))))
    refine zq4 (by first | exact RLe.refl _ | exact hR2 | exact hR2.trans hR3) ?_
    rw [eD, eM]
    exact ⟨rfl, qS⟩
   ·
    rw [if_neg (fun h => h hc2)] at eM
    obtain ⟨ha, hqv⟩ := hcv hc2
    obtain ⟨-, hcl, -, hv⟩ := arg_facts ha
    rw [List.length_map] at hcl
    have hck : cls.toNat < ls.length := by omega
    have hla2 := hla.mono hR2
    have hnv : nth (ls.map CvS.cv) cls.toNat = (nth ls cls.toNat).cv := nth_map_lt _ hck
    have hvk : validB (nth ls cls.toNat).cv = true := hv _ (List.mem_map.2 ⟨_, nth_mem hck, rfl⟩)
    have hrk := (hls _ (nth_mem hck)).1.mono hR2
    have hck2 := (hls _ (nth_mem hck)).2.2
    obtain ⟨k, rfl⟩ := Int.eq_ofNat_of_zero_le hcl.1
    simp only [Int.toNat_natCast] at hck hnv hvk hrk hck2 eM
    subst hll
    refine zK (zU (zQ ?_))
    refine W.regionH _ (ES := (.blk b11 [.slice f q.1.vals.length fc, .int .i64 q.1.per, .int .i64 q.1.inc] :: E)) mixed ?_
    refine tP 0 ?_
    refine tP 1 ?_
    refine WA.take 2 rfl qK qK qK rfl rfl qD (Yl.indexN tab_ok rfl rfl rfl rfl rfl rfl (fun _ => rfl) qN (by intro _; first | exact RS.has hla2 | exact qI)) qS qR ?_
    refine tD 3 (r := by exact RS.rdD hla2 qO) (k := ?_)
    refine tL 4 (Rd.blk 0 rfl) ?_
    refine WA.callG 5 rfl qK en43 rfl (by first | rfl | decide) rfl qD (CallOp.mkT rfl rfl rfl rfl) (Delay10_C (cf := (nth ls k).cv) (cg := q.1) (fc := (nth ls k).cap) (gc := fc) hvk hrk hck2 hqv hf hcpk w0 _) ?_
    rintro _ R3 E3 hR3 ⟨rfl, hsub3⟩
    refine ⟨hR3, List.Sublist.trans qS hsub3, ?_⟩
    refine WA.subE hsub3 ?_
    rw [← delay_same (norm_nrm hvk).valid (norm_nrm hqv).valid]
    refine tP 6 ?_
    refine tP 7 ?_
    refine zCE 8 1 ?_
    refine tP 9 ?_
    refine WA.done qK ?_
    refine zU (zT ?_)
    refine zq4 (by first | exact RLe.refl _ | exact hR2 | exact hR2.trans hR3) ?_
    rw [eD, eM, hnv]
    exact ⟨rfl, qS⟩
theorem Back22_C {R : Ro} {aw at_ : Option Addr} {lw cw lt ct : Nat} {L : Ln} (hw : RS R 1 encI aw L.w) (hlw : L.w.length = lw) (ht : RS R 1 encI at_ L.tb) (hlt : L.tb.length = lt) {la : Option Addr} {lc ll : Nat} {ls : List CvS} (hla : RS R 3 encC la ls) (hll : ls.length = ll) (hlc : ll ≤ lc) (hls : ∀ x ∈ ls, RS R 1 encI x.a x.cv.vals ∧ x.cv.vals.length ≤ 100000 ∧ x.cv.vals.length ≤ x.cap) {za : Option Addr} {zc lz : Nat} {z : List Sz} (hzr : RS R 2 encZ za z) (hlz : z.length = lz) {cls : Int} (w0 : World) (E : List Ent) : K.Fn Tryz.prog 22 [.agg #[.int .i64 L.kind, .int .i64 L.cap, .int .i64 L.n, .slice aw lw cw, .slice at_ lt ct], .int .i64 cls, .slice la ll lc, .slice za lz zc] w0 R E (fun r R' E' => r = devV (measL backC L cls (ls.map CvS.cv) z) ∧ E.Sublist E') := by
 have hl1 := hla.len
 have eM : measL backC L cls (ls.map CvS.cv) z = if (curveL L cls (ls.map CvS.cv) z).2 ≠ 0 then ((false, 0, 0), (curveL L cls (ls.map CvS.cv) z).2) else backC (nth (ls.map CvS.cv) cls.toNat) (curveL L cls (ls.map CvS.cv) z).1 := rfl
 refine fE 32 Tryz.func22 ?_
 refine zQ (zG ?_)
 refine zO fun b4 => ?_
 refine zA fun b8 => ?_
 refine zR 1 rfl (zN (zU (zQ (zG ?_))))
 refine yB 1 ?_
 refine zR 3 rfl ?_
 refine WL.call en17 rfl rfl qD (CallOp.mkT rfl rfl rfl rfl) (Curve22_C hw hlw ht hlt hla hll hlc hls hzr hlz w0 _) ?_
 rintro _ R2 E2 hR2 ⟨f, fc, rfl, hf, hcpk, hsub⟩
 refine WL.subE hsub ?_
 have hcv : (curveL L cls (ls.map CvS.cv) z).2 = 0 → argE L cls (ls.map CvS.cv) z = 0 ∧ validB (curveL L cls (ls.map CvS.cv) z).1 = true := fun h => by
  have ha : argE L cls (ls.map CvS.cv) z = 0 := by
   apply Classical.byContradiction
   intro hn
   unfold curveL at h
   rw [if_pos hn] at h
   exact hn h
  refine ⟨ha, ?_⟩
  have e : curveL L cls (ls.map CvS.cv) z = schedC L cls (ls.map CvS.cv) z := if_neg (fun hn => hn ha)
  rw [e] at h ⊢
  exact sched_valid (arg_facts ha).2.2.2 h
 generalize curveL L cls (ls.map CvS.cv) z = q at hf hcpk eM hcv ⊢
 unfold cvV
 refine zR 3 rfl ?_
 refine zA fun b10 => ?_
 refine zE 0 ?_
 refine zR 1 rfl (zN (zU (zQ (zQ (zG (zR 2 rfl (zN (zU ?_))))))))
 refine cN rfl ?_ ?_ <;> intro hc0
 ·
  rw [if_pos hc0] at eM
  refine zQ (zG ?_)
  refine yW [] ?_
  refine zR 1 rfl ?_
  refine zE 1 ?_
  refine zR 1 rfl (zN (zU (zT (wt ?_))))
  refine zq4 (by first | exact RLe.refl _ | exact hR2 | exact hR2.trans hR3) ?_
  rw [eM]
  exact ⟨rfl, qS⟩
 ·
  rw [if_neg (fun h => h hc0)] at eM
  obtain ⟨ha, hqv⟩ := hcv hc0
  obtain ⟨-, hcl, -, hv⟩ := arg_facts ha
  rw [List.length_map] at hcl
  have hck : cls.toNat < ls.length := by omega
  have hla2 := hla.mono hR2
  have hnv : nth (ls.map CvS.cv) cls.toNat = (nth ls cls.toNat).cv := nth_map_lt _ hck
  have hvk : validB (nth ls cls.toNat).cv = true := hv _ (List.mem_map.2 ⟨_, nth_mem hck, rfl⟩)
  have hrk := (hls _ (nth_mem hck)).1.mono hR2
  have hck2 := (hls _ (nth_mem hck)).2.2
  obtain ⟨k, rfl⟩ := Int.eq_ofNat_of_zero_le hcl.1
  simp only [Int.toNat_natCast] at hck hnv hvk hrk hck2 eM
  subst hll
  refine zK (zU (zQ ?_))
  refine W.regionH _ (ES := (.blk b10 [.slice f q.1.vals.length fc, .int .i64 q.1.per, .int .i64 q.1.inc] :: E)) mixed ?_
  refine tP 0 ?_
  refine tP 1 ?_
  refine WA.take 2 rfl qK qK qK rfl rfl qD (Yl.indexN tab_ok rfl rfl rfl rfl rfl rfl (fun _ => rfl) qN (by intro _; first | exact RS.has hla2 | exact qI)) qS qR ?_
  refine tD 3 (r := by exact RS.rdD hla2 qO) (k := ?_)
  refine tL 4 (Rd.blk 0 rfl) ?_
  refine WA.callG 5 rfl qK en45 rfl (by first | rfl | decide) rfl qD (CallOp.mkT rfl rfl rfl rfl) (Back10_C (cf := (nth ls k).cv) (cg := q.1) (fc := (nth ls k).cap) (gc := fc) hvk hrk hck2 hqv hf hcpk w0 _) ?_
  rintro _ R3 E3 hR3 ⟨rfl, hsub3⟩
  refine ⟨hR3, List.Sublist.trans qS hsub3, ?_⟩
  refine WA.subE hsub3 ?_
  rw [← ahead_same (norm_nrm hvk).valid (norm_nrm hqv).valid]
  refine tP 6 ?_
  refine tP 7 ?_
  refine zCE 8 1 ?_
  refine tP 9 ?_
  refine WA.done qK ?_
  refine zU (zT ?_)
  refine zq4 (by first | exact RLe.refl _ | exact hR2 | exact hR2.trans hR3) ?_
  rw [eM, hnv]
  exact ⟨rfl, qS⟩
theorem Peak22_C {R : Ro} {aw at_ : Option Addr} {lw cw lt ct : Nat} {L : Ln} (hw : RS R 1 encI aw L.w) (hlw : L.w.length = lw) (ht : RS R 1 encI at_ L.tb) (hlt : L.tb.length = lt) {la : Option Addr} {lc ll : Nat} {ls : List CvS} (hla : RS R 3 encC la ls) (hll : ls.length = ll) (hlc : ll ≤ lc) (hls : ∀ x ∈ ls, RS R 1 encI x.a x.cv.vals ∧ x.cv.vals.length ≤ 100000 ∧ x.cv.vals.length ≤ x.cap) {za : Option Addr} {zc lz : Nat} {z : List Sz} (hzr : RS R 2 encZ za z) (hlz : z.length = lz) {cls : Int} (w0 : World) (E : List Ent) : K.Fn Tryz.prog 24 [.agg #[.int .i64 L.kind, .int .i64 L.cap, .int .i64 L.n, .slice aw lw cw, .slice at_ lt ct], .int .i64 cls, .slice la ll lc, .slice za lz zc] w0 R E (fun r R' E' => r = devV (measL peakC L cls (ls.map CvS.cv) z) ∧ E.Sublist E') := by
 have hl1 := hla.len
 have eM : measL peakC L cls (ls.map CvS.cv) z = if (curveL L cls (ls.map CvS.cv) z).2 ≠ 0 then ((false, 0, 0), (curveL L cls (ls.map CvS.cv) z).2) else peakC (nth (ls.map CvS.cv) cls.toNat) (curveL L cls (ls.map CvS.cv) z).1 := rfl
 refine fE 32 Tryz.func24 ?_
 refine zQ (zG ?_)
 refine zO fun b4 => ?_
 refine zA fun b8 => ?_
 refine zR 1 rfl (zN (zU (zQ (zG ?_))))
 refine yB 1 ?_
 refine zR 3 rfl ?_
 refine WL.call en17 rfl rfl qD (CallOp.mkT rfl rfl rfl rfl) (Curve22_C hw hlw ht hlt hla hll hlc hls hzr hlz w0 _) ?_
 rintro _ R2 E2 hR2 ⟨f, fc, rfl, hf, hcpk, hsub⟩
 refine WL.subE hsub ?_
 have hcv : (curveL L cls (ls.map CvS.cv) z).2 = 0 → argE L cls (ls.map CvS.cv) z = 0 ∧ validB (curveL L cls (ls.map CvS.cv) z).1 = true := fun h => by
  have ha : argE L cls (ls.map CvS.cv) z = 0 := by
   apply Classical.byContradiction
   intro hn
   unfold curveL at h
   rw [if_pos hn] at h
   exact hn h
  refine ⟨ha, ?_⟩
  have e : curveL L cls (ls.map CvS.cv) z = schedC L cls (ls.map CvS.cv) z := if_neg (fun hn => hn ha)
  rw [e] at h ⊢
  exact sched_valid (arg_facts ha).2.2.2 h
 generalize curveL L cls (ls.map CvS.cv) z = q at hf hcpk eM hcv ⊢
 unfold cvV
 refine zR 3 rfl ?_
 refine zA fun b10 => ?_
 refine zE 0 ?_
 refine zR 1 rfl (zN (zU (zQ (zQ (zG (zR 2 rfl (zN (zU ?_))))))))
 refine cN rfl ?_ ?_ <;> intro hc0
 ·
  rw [if_pos hc0] at eM
  refine zQ (zG ?_)
  refine yW [] ?_
  refine zR 1 rfl ?_
  refine zE 1 ?_
  refine zR 1 rfl (zN (zU (zT (wt ?_))))
  refine zq4 (by first | exact RLe.refl _ | exact hR2 | exact hR2.trans hR3) ?_
  rw [eM]
  exact ⟨rfl, qS⟩
 ·
  rw [if_neg (fun h => h hc0)] at eM
  obtain ⟨ha, hqv⟩ := hcv hc0
  obtain ⟨-, hcl, -, hv⟩ := arg_facts ha
  rw [List.length_map] at hcl
  have hck : cls.toNat < ls.length := by omega
  have hla2 := hla.mono hR2
  have hnv : nth (ls.map CvS.cv) cls.toNat = (nth ls cls.toNat).cv := nth_map_lt _ hck
  have hvk : validB (nth ls cls.toNat).cv = true := hv _ (List.mem_map.2 ⟨_, nth_mem hck, rfl⟩)
  have hrk := (hls _ (nth_mem hck)).1.mono hR2
  have hck2 := (hls _ (nth_mem hck)).2.2
  obtain ⟨k, rfl⟩ := Int.eq_ofNat_of_zero_le hcl.1
  simp only [Int.toNat_natCast] at hck hnv hvk hrk hck2 eM
  subst hll
  refine zK (zU (zQ ?_))
  refine W.regionH _ (ES := (.blk b10 [.slice f q.1.vals.length fc, .int .i64 q.1.per, .int .i64 q.1.inc] :: E)) mixed ?_
  refine tP 0 ?_
  refine tP 1 ?_
  refine WA.take 2 rfl qK qK qK rfl rfl qD (Yl.indexN tab_ok rfl rfl rfl rfl rfl rfl (fun _ => rfl) qN (by intro _; first | exact RS.has hla2 | exact qI)) qS qR ?_
  refine tD 3 (r := by exact RS.rdD hla2 qO) (k := ?_)
  refine tL 4 (Rd.blk 0 rfl) ?_
  refine WA.callG 5 rfl qK en47 rfl (by first | rfl | decide) rfl qD (CallOp.mkT rfl rfl rfl rfl) (Peak10_C (cf := (nth ls k).cv) (cg := q.1) (fc := (nth ls k).cap) (gc := fc) hvk hrk hck2 hqv hf hcpk w0 _) ?_
  rintro _ R3 E3 hR3 ⟨rfl, hsub3⟩
  refine ⟨hR3, List.Sublist.trans qS hsub3, ?_⟩
  refine WA.subE hsub3 ?_
  rw [← ahead_same (norm_nrm hvk).valid (norm_nrm hqv).valid]
  refine tP 6 ?_
  refine tP 7 ?_
  refine zCE 8 1 ?_
  refine tP 9 ?_
  refine WA.done qK ?_
  refine zU (zT ?_)
  refine zq4 (by first | exact RLe.refl _ | exact hR2 | exact hR2.trans hR3) ?_
  rw [eM, hnv]
  exact ⟨rfl, qS⟩

set_option maxHeartbeats 2000000 in
theorem BentLK_C {R : Ro} {b : Nat} {a : Option Addr} {cp : Nat} {xs : List Int} {c : Nat} {aw at_ : Option Addr} {cw ct K : Nat} {L : Ln} (w0 : World) (ha : RS R 1 encI a xs) (hw : RS R 1 encI aw L.w) (ht : RS R 1 encI at_ L.tb) (hK : 42 ≤ K ∧ K ≤ 1000) (hlw : L.w.length ≤ K) (hlt : L.tb.length ≤ K) : FnAt Tryz.prog 11 [.pointer (some ⟨b, 0, none⟩), .agg #[.int .i64 L.kind, .int .i64 L.cap, .int .i64 L.n, .slice aw L.w.length cw, .slice at_ L.tb.length ct]] w0 R (srcE b a cp xs c) (fun v R' e' N => ∃ (M : Ln) (bw bt : Option Addr) (dw dt cn : Nat), v = .agg #[.int .i64 M.kind, .int .i64 M.cap, .int .i64 M.n, .slice bw M.w.length dw, .slice bt M.tb.length dt] ∧ RS R' 1 encI bw M.w ∧ RS R' 1 encI bt M.tb ∧ M.w.length ≤ K + 1 ∧ M.tb.length ≤ K + 1 ∧ M.tb.length ≤ dt ∧ e' = srcE b a cp xs cn ∧ N = []) := by
 intro F
 refine fE 84 Tryz.func11 ?_
 refine zQ (zG ?_)
 refine zO fun b3 => ?_
 refine zA fun b4 => ?_
 refine zN (zU ?_)
 refine W.seqCut (β := Option Addr × Nat × Option Addr × Nat) (fun (a8, c8, a12, c12) => (0 < L.w.length → a8.isSome = true) ∧ (0 < L.tb.length → a12.isSome = true)) (fun (a8, c8, a12, c12) => [(0, true, .pointer (some ⟨b, 0, none⟩)), (3, true, .pointer (some ⟨b3, 0, none⟩)), (4, true, .pointer (some ⟨b4, 0, none⟩))]) (fun _ => R) (fun (a8, c8, a12, c12) => .sl 3 1 a12 c12 ((L.tb).map encI) :: .sl 3 1 a8 c8 ((L.w).map encI) :: .blk b4 [.int .i64 0, .int .i64 0, .int .i64 0, .slice none 0 0, .slice none 0 0] :: .blk b3 [.int .i64 L.kind, .int .i64 L.cap, .int .i64 L.n, .slice a8 L.w.length c8, .slice a12 L.tb.length c12] :: srcE b a cp xs c :: F) ?_ ?_
 ·
  intro st hst
  obtain ⟨a8, c8, a12, c12⟩ := st
  obtain ⟨ha8, ha12⟩ := hst
  dsimp only at ha8 ha12 ⊢
  refine zQ (zQ (zG (zR 1 rfl ?_)))
  refine WL.callAt 4 en13 rfl rfl qD (CallOp.mkT rfl rfl rfl rfl) rfl (N_C w0 ha (by constructor <;> decide) _) ?_
  rintro _ _ _ _ - ⟨rfl, rfl, rfl, rfl⟩
  refine zN (zU (zB (zQ (zG (zR 2 rfl (zN (zU ?_)))))))
  refine cE rfl ?_ ?_ <;> intro hc0
  ·
   refine zG (zR 1 rfl ?_)
   refine WL.callAt 4 en13 rfl rfl qD (CallOp.mkT rfl rfl rfl rfl) rfl (N_C w0 ha (by constructor <;> decide) _) ?_
   rintro _ _ _ _ - ⟨rfl, rfl, rfl, rfl⟩
   refine zR 1 rfl ?_
   refine zF 3 ?_
   refine zN (zL (zU ?_))
   (refine W.cap 0 rfl ?_; intro hcb; refine W.freeze (enc := encI) 1 rfl ?_; intro R1 hR1 hz1; refine W.freeze (enc := encI) 0 rfl ?_; intro R2 hR2 hz2; have hz1 := hz1.mono hR2)
   refine zQ (zG ?_)
   refine yB 1 ?_
   refine zE 0 ?_
   refine zN (zU (zT ?_))
   refine WE.retFS (E' := srcE b a cp xs (c + 1 + 1) :: F) qS tab_ok [_] rfl ⟨⟨_, _, _, rfl, rfl, rfl, qB, rfl⟩, trivial⟩ (hR1.trans hR2) ?_
   exact ⟨_, [], rfl, ⟨_, _, _, L.w, L.tb⟩, _, _, _, _, _, rfl, hz1, hz2, by (try dsimp only); (try simp only [List.length_set, List.length_append, List.length_cons, List.length_nil]); omega, by (try dsimp only); (try simp only [List.length_set, List.length_append, List.length_cons, List.length_nil]); omega, (by (try simp only [List.length_map, List.length_append, List.length_cons, List.length_nil] at hcb); (try dsimp only); (try simp only [List.length_append, List.length_cons, List.length_nil]); omega), rfl, rfl⟩
  ·
   refine zQ (zG (zR 2 rfl (zN (zU ?_))))
   refine cE rfl ?_ ?_ <;> intro hc1
   ·
    refine zG (zR 1 rfl ?_)
    refine WL.ef rfl rfl qD (Ef.buildSliceD (enc := encI) (parts := [.const (.int .i64 0), .const (.int .i64 1), .const (.int .i64 4000), .const (.int .i64 4001)]) [_, _, _, _] tab_ok rfl rfl rfl rfl rfl rfl rfl rfl qD qD (fun a43 => ?_))
    refine WL.callAt 5 en15 rfl rfl qD (CallOp.mkT rfl rfl rfl rfl) rfl (PickM_C (j := 0) w0 ([0, 1, 4000, 4001] : List Int) rfl qD qD ha rfl) ?_
    rintro _ _ _ _ - ⟨rfl, rfl, rfl, rfl⟩
    refine zR 1 rfl ?_
    refine zF 4 ?_
    refine zN (zL (zU ?_))
    (refine W.cap 1 rfl ?_; intro hcb; refine W.freeze (enc := encI) 2 rfl ?_; intro R1 hR1 hz1; refine W.freeze (enc := encI) 1 rfl ?_; intro R2 hR2 hz2; have hz1 := hz1.mono hR2)
    refine zQ (zG ?_)
    refine yB 2 ?_
    refine zE 1 ?_
    refine zN (zU (zT ?_))
    refine WE.retFS (E' := srcE b a cp xs (c + 1 + 1) :: F) qS tab_ok [_] rfl ⟨⟨_, _, _, rfl, rfl, rfl, qB, rfl⟩, trivial⟩ (hR1.trans hR2) ?_
    exact ⟨_, [], rfl, ⟨L.kind, nth ([0, 1, 4000, 4001] : List Int) (mod (nth xs (c + 1)) ((4 : Nat) : Int)).toNat, L.n, L.w, L.tb⟩, _, _, _, _, _, rfl, hz1, hz2, by (try dsimp only); (try simp only [List.length_set, List.length_append, List.length_cons, List.length_nil]); omega, by (try dsimp only); (try simp only [List.length_set, List.length_append, List.length_cons, List.length_nil]); omega, (by (try simp only [List.length_map, List.length_append, List.length_cons, List.length_nil] at hcb); (try dsimp only); (try simp only [List.length_append, List.length_cons, List.length_nil]); omega), rfl, rfl⟩
   ·
    refine zQ (zG (zR 2 rfl (zN (zU ?_))))
    refine cE rfl ?_ ?_ <;> intro hc2
    ·
     refine zG (zR 1 rfl ?_)
     refine WL.ef rfl rfl qD (Ef.buildSliceD (enc := encI) (parts := [.const (.int .i64 0), .const (.int .i64 1), .const (.int .i64 2), .const (.int .i64 3), .const (.int .i64 6), .const (.int .i64 7)]) [_, _, _, _, _, _] tab_ok rfl rfl rfl rfl rfl rfl rfl rfl qD qD (fun a49 => ?_))
     refine WL.callAt 5 en15 rfl rfl qD (CallOp.mkT rfl rfl rfl rfl) rfl (PickM_C (j := 0) w0 ([0, 1, 2, 3, 6, 7] : List Int) rfl qD qD ha rfl) ?_
     rintro _ _ _ _ - ⟨rfl, rfl, rfl, rfl⟩
     refine zR 1 rfl ?_
     refine zF 4 ?_
     refine zN (zL (zU ?_))
     (refine W.cap 1 rfl ?_; intro hcb; refine W.freeze (enc := encI) 2 rfl ?_; intro R1 hR1 hz1; refine W.freeze (enc := encI) 1 rfl ?_; intro R2 hR2 hz2; have hz1 := hz1.mono hR2)
     refine zQ (zG ?_)
     refine yB 2 ?_
     refine zE 1 ?_
     refine zN (zU (zT ?_))
     refine WE.retFS (E' := srcE b a cp xs (c + 1 + 1) :: F) qS tab_ok [_] rfl ⟨⟨_, _, _, rfl, rfl, rfl, qB, rfl⟩, trivial⟩ (hR1.trans hR2) ?_
     exact ⟨_, [], rfl, ⟨L.kind, L.cap, nth ([0, 1, 2, 3, 6, 7] : List Int) (mod (nth xs (c + 1)) ((6 : Nat) : Int)).toNat, L.w, L.tb⟩, _, _, _, _, _, rfl, hz1, hz2, by (try dsimp only); (try simp only [List.length_set, List.length_append, List.length_cons, List.length_nil]); omega, by (try dsimp only); (try simp only [List.length_set, List.length_append, List.length_cons, List.length_nil]); omega, (by (try simp only [List.length_map, List.length_append, List.length_cons, List.length_nil] at hcb); (try dsimp only); (try simp only [List.length_append, List.length_cons, List.length_nil]); omega), rfl, rfl⟩
    ·
     refine zQ (zG (zR 2 rfl (zN (zU ?_))))
     refine cE rfl ?_ ?_ <;> intro hc3
     ·
      refine W.regionD _ [] [.blk b3 [.int .i64 L.kind, .int .i64 L.cap, .int .i64 L.n, .slice a8 L.w.length c8, .slice a12 L.tb.length c12]] [7] mixed ?_
      refine vP 0 ?_
      refine vD 1 (r := by apply Rd.add; (exact Rd.blk 0 rfl)) (k := ?_)
      refine vP 2 ?_
      refine VA.one (i := 3) qK ?_
      refine VS.callAt 4 rfl en13 rfl rfl qD (CallOp.mkT rfl rfl rfl rfl) rfl (N_C w0 ha (by constructor <;> decide) _) ?_
      rintro _ _ _ _ - ⟨rfl, rfl, rfl, rfl⟩
      refine ⟨RLe.refl _, qS, (fun _ => qS), ?_⟩
      refine VA.one (i := 4) qK ?_
      refine VS.eff rfl rfl rfl qD (Ef.buildSliceD (enc := encI) (parts := [.tmp 57]) [_] tab_ok rfl rfl rfl rfl rfl rfl rfl rfl qD qD (fun a58 => ?_))
      refine ⟨by first | exact RLe.refl _ | assumption, qS, (fun _ => qS), ?_⟩
      refine VA.one (i := 5) qK ?_
      refine VS.eff rfl rfl rfl (by decide) (Ef.appendD 2 0 tab_ok rfl rfl rfl rfl rfl rfl rfl rfl rfl rfl rfl (fun _ _ => rfl) (by simp only [List.length_cons, List.length_nil]; omega) (by simp only [List.length_cons, List.length_nil]; omega) (fun a59 c59 ha59 => ?_))
      refine ⟨by first | exact RLe.refl _ | assumption, qS, (fun _ => qS), ?_⟩
      refine vP 6 ?_
      refine VA.one (i := 7) qK ?_
      refine VS.effN rfl rfl rfl (Ef.store 4 tab_ok rfl rfl rfl rfl rfl rfl rfl rfl ?_)
      refine ⟨by first | exact RLe.refl _ | assumption, qS, (noD qK), ?_⟩
      refine VA.done qK ?_
      refine zL (zU ?_)
      (refine W.cap 1 rfl ?_; intro hcb; refine W.freeze (enc := encI) 2 rfl ?_; intro R1 hR1 hz1; refine W.freeze (enc := encI) 1 rfl ?_; intro R2 hR2 hz2; have hz1 := hz1.mono hR2)
      refine zQ (zG ?_)
      refine yB 2 ?_
      refine zE 1 ?_
      refine zN (zU (zT ?_))
      refine WE.retFS (E' := srcE b a cp xs (c + 1 + 1) :: F) qS tab_ok [_] rfl ⟨⟨_, _, _, rfl, rfl, rfl, qB, rfl⟩, trivial⟩ (hR1.trans hR2) ?_
      exact ⟨_, [], rfl, ⟨L.kind, L.cap, L.n, L.w ++ [_], L.tb⟩, _, _, _, _, _, by simp only [List.length_set, List.length_append, List.length_cons, List.length_nil]; rfl, hz1, hz2, by (try dsimp only); (try simp only [List.length_set, List.length_append, List.length_cons, List.length_nil]); omega, by (try dsimp only); (try simp only [List.length_set, List.length_append, List.length_cons, List.length_nil]); omega, (by (try simp only [List.length_map, List.length_append, List.length_cons, List.length_nil] at hcb); (try dsimp only); (try simp only [List.length_append, List.length_cons, List.length_nil]); omega), rfl, rfl⟩
     ·
      refine zQ (zG (zR 2 rfl (zN (zU ?_))))
      refine cE rfl ?_ ?_ <;> intro hc4
      ·
       refine W.regionD _ [] [.blk b3 [.int .i64 L.kind, .int .i64 L.cap, .int .i64 L.n, .slice a8 L.w.length c8, .slice a12 L.tb.length c12]] [8] mixed ?_
       refine vP 0 ?_
       refine vD 1 (r := by apply Rd.add; (exact Rd.blk 0 rfl)) (k := ?_)
       refine vP 2 ?_
       refine VA.one (i := 3) qK ?_
       refine VS.eff rfl rfl rfl qD (Ef.buildSliceD (enc := encI) (parts := [.const (.int .i64 (-2)), .const (.int .i64 (-1)), .const (.int .i64 0), .const (.int .i64 2), .const (.int .i64 3)]) [_, _, _, _, _] tab_ok rfl rfl rfl rfl rfl rfl rfl rfl qD qD (fun a66 => ?_))
       refine ⟨by first | exact RLe.refl _ | assumption, qS, (fun _ => qS), ?_⟩
       refine VA.one (i := 4) qK ?_
       refine VS.callAt 5 rfl en15 rfl rfl qD (CallOp.mkT rfl rfl rfl rfl) rfl (PickM_C (j := 0) w0 ([-2, -1, 0, 2, 3] : List Int) rfl qD qD ha rfl) ?_
       rintro _ _ _ _ - ⟨rfl, rfl, rfl, rfl⟩
       refine ⟨RLe.refl _, qS, (fun _ => qS), ?_⟩
       refine VA.one (i := 5) qK ?_
       refine VS.eff rfl rfl rfl qD (Ef.buildSliceD (enc := encI) (parts := [.tmp 67]) [_] tab_ok rfl rfl rfl rfl rfl rfl rfl rfl qD qD (fun a68 => ?_))
       refine ⟨by first | exact RLe.refl _ | assumption, qS, (fun _ => qS), ?_⟩
       refine VA.one (i := 6) qK ?_
       refine VS.eff rfl rfl rfl (by decide) (Ef.appendD 2 0 tab_ok rfl rfl rfl rfl rfl rfl rfl rfl rfl rfl rfl (fun _ _ => rfl) (by simp only [List.length_cons, List.length_nil]; omega) (by simp only [List.length_cons, List.length_nil]; omega) (fun a69 c69 ha69 => ?_))
       refine ⟨by first | exact RLe.refl _ | assumption, qS, (fun _ => qS), ?_⟩
       refine vP 7 ?_
       refine VA.one (i := 8) qK ?_
       refine VS.effN rfl rfl rfl (Ef.store 5 tab_ok rfl rfl rfl rfl rfl rfl rfl rfl ?_)
       refine ⟨by first | exact RLe.refl _ | assumption, qS, (noD qK), ?_⟩
       refine VA.done qK ?_
       refine zL (zU ?_)
       (refine W.cap 2 rfl ?_; intro hcb; refine W.freeze (enc := encI) 3 rfl ?_; intro R1 hR1 hz1; refine W.freeze (enc := encI) 2 rfl ?_; intro R2 hR2 hz2; have hz1 := hz1.mono hR2)
       refine zQ (zG ?_)
       refine yB 3 ?_
       refine zE 2 ?_
       refine zN (zU (zT ?_))
       refine WE.retFS (E' := srcE b a cp xs (c + 1 + 1) :: F) qS tab_ok [_] rfl ⟨⟨_, _, _, rfl, rfl, rfl, qB, rfl⟩, trivial⟩ (hR1.trans hR2) ?_
       exact ⟨_, [], rfl, ⟨L.kind, L.cap, L.n, L.w, L.tb ++ [_]⟩, _, _, _, _, _, by simp only [List.length_set, List.length_append, List.length_cons, List.length_nil]; rfl, hz1, hz2, by (try dsimp only); (try simp only [List.length_set, List.length_append, List.length_cons, List.length_nil]); omega, by (try dsimp only); (try simp only [List.length_set, List.length_append, List.length_cons, List.length_nil]); omega, (by (try simp only [List.length_map, List.length_append, List.length_cons, List.length_nil] at hcb); (try dsimp only); (try simp only [List.length_append, List.length_cons, List.length_nil]); omega), rfl, rfl⟩
      ·
       refine zQ (zG (zR 2 rfl (zN (zU ?_))))
       refine cE rfl ?_ ?_ <;> intro hc5
       ·
        refine zQ (zG (zR 1 rfl ?_))
        refine yM 3 ?_
        refine zR 2 rfl (zN (zU ?_))
        refine cD rfl ?_ ?_ <;> intro hc6
        ·
         refine W.regionH _ (ES := [.blk b3 [.int .i64 L.kind, .int .i64 L.cap, .int .i64 L.n, .slice a8 L.w.length c8, .slice a12 L.tb.length c12]]) mixed ?_
         refine tP 0 ?_
         refine tL 1 (Rd.add (Rd.blk 0 rfl) _) ?_
         refine tP 2 ?_
         refine WA.eff 3 rfl qK rfl rfl qD (Ef.buildSliceD (enc := encI) (parts := [.const (.int .i64 0), .const (.int .i64 20), .const (.int .i64 21), .const (.int .i64 6000), .const (.int .i64 6001)]) [_, _, _, _, _] tab_ok rfl rfl rfl rfl rfl rfl rfl rfl qD qD (fun a80 => ?_))
         refine ⟨qR, qS, ?_⟩
         refine WA.callAt 5 4 rfl qK en15 rfl rfl qD (CallOp.mkT rfl rfl rfl rfl) rfl (PickM_C (j := 0) w0 ([0, 20, 21, 6000, 6001] : List Int) rfl qD qD ha rfl) ?_
         rintro _ _ _ _ - ⟨rfl, rfl, rfl, rfl⟩
         refine ⟨RLe.refl _, qS, ?_⟩
         refine WA.yl 5 rfl qK rfl rfl qD (Yl.index tab_ok rfl rfl rfl rfl rfl rfl (fun _ => rfl) qA (by intro _; first | exact fun _ _ _ _ => ha8 qO | exact qI)) qS qR ?_
         refine WA.effN 6 rfl qK rfl rfl (Ef.storeD _ 2 tab_ok rfl rfl rfl rfl rfl qX rfl rfl rfl rfl ?_)
         refine ⟨qR, qS, ?_⟩
         refine WA.done qK ?_
         refine zL (zU ?_)
         (refine W.cap 1 rfl ?_; intro hcb; refine W.freeze (enc := encI) 2 rfl ?_; intro R1 hR1 hz1; refine W.freeze (enc := encI) 1 rfl ?_; intro R2 hR2 hz2; have hz1 := hz1.mono hR2)
         refine zQ (zG ?_)
         refine yB 2 ?_
         refine zE 1 ?_
         refine zN (zU (zT ?_))
         refine WE.retFS (E' := srcE b a cp xs (c + 1 + 1) :: F) qS tab_ok [_] rfl ⟨⟨_, _, _, rfl, rfl, rfl, qB, rfl⟩, trivial⟩ (hR1.trans hR2) ?_
         exact ⟨_, [], rfl, ⟨L.kind, L.cap, L.n, L.w.set _ _, L.tb⟩, _, _, _, _, _, by simp only [List.length_set, List.length_append, List.length_cons, List.length_nil]; rfl, hz1, hz2, by (try dsimp only); (try simp only [List.length_set, List.length_append, List.length_cons, List.length_nil]); omega, by (try dsimp only); (try simp only [List.length_set, List.length_append, List.length_cons, List.length_nil]); omega, (by (try simp only [List.length_map, List.length_append, List.length_cons, List.length_nil] at hcb); (try dsimp only); (try simp only [List.length_append, List.length_cons, List.length_nil]); omega), rfl, rfl⟩
        ·
         refine zK (zL (zU ?_))
         (refine W.cap 0 rfl ?_; intro hcb; refine W.freeze (enc := encI) 1 rfl ?_; intro R1 hR1 hz1; refine W.freeze (enc := encI) 0 rfl ?_; intro R2 hR2 hz2; have hz1 := hz1.mono hR2)
         refine zQ (zG ?_)
         refine yB 1 ?_
         refine zE 0 ?_
         refine zN (zU (zT ?_))
         refine WE.retFS (E' := srcE b a cp xs (c + 1) :: F) qS tab_ok [_] rfl ⟨⟨_, _, _, rfl, rfl, rfl, qB, rfl⟩, trivial⟩ (hR1.trans hR2) ?_
         exact ⟨_, [], rfl, ⟨_, _, _, L.w, L.tb⟩, _, _, _, _, _, rfl, hz1, hz2, by (try dsimp only); (try simp only [List.length_set, List.length_append, List.length_cons, List.length_nil]); omega, by (try dsimp only); (try simp only [List.length_set, List.length_append, List.length_cons, List.length_nil]); omega, (by (try simp only [List.length_map, List.length_append, List.length_cons, List.length_nil] at hcb); (try dsimp only); (try simp only [List.length_append, List.length_cons, List.length_nil]); omega), rfl, rfl⟩
       ·
        refine zB ?_
        refine W.loopK (β := List Int × Option Addr × Nat × Nat) (fun (ts, at2, ct2, cn) => ts.length ≤ K) (fun (ts, at2, ct2, cn) => []) [0, 3, 4] [_, _, _] [] _ rfl (fun (ts, at2, ct2, cn) => [(0, .sl 3 1 at2 ct2 ((ts).map encI)), (3, .blk b3 [.int .i64 L.kind, .int .i64 L.cap, .int .i64 L.n, .slice a8 L.w.length c8, .slice at2 ts.length ct2]), (4, srcE b a cp xs cn)]) (fun (ts, at2, ct2, cn) => 41 - ts.length) ((L.tb, a12, c12, c + 1)) (by (try dsimp only); omega) ⟨rfl, rfl, rfl, rfl⟩ qS ?_
        intro zz hst
        obtain ⟨ts, at2, ct2, cn⟩ := zz
        refine zQ (zQ ?_)
        refine W.regionH _ (ES := [.blk b3 [.int .i64 L.kind, .int .i64 L.cap, .int .i64 L.n, .slice a8 L.w.length c8, .slice at2 ts.length ct2]]) mixed ?_
        refine tP 0 ?_
        refine tL 1 (Rd.add (Rd.blk 0 rfl) _) ?_
        refine tP 2 ?_
        refine tP 3 ?_
        refine WA.callAt 4 4 rfl qK en13 rfl rfl qD (CallOp.mkT rfl rfl rfl rfl) rfl (N_C w0 ha (by constructor <;> decide) _) ?_
        rintro _ _ _ _ - ⟨rfl, rfl, rfl, rfl⟩
        refine ⟨qR, qS, ?_⟩
        have hm3 := mod_range (nth xs cn) (show (1 : Int) ≤ 2 by decide)
        refine tA 5 ?_
        refine tP 6 ?_
        refine tP 7 ?_
        refine WA.take 8 rfl qK qK qK rfl rfl qD (pureV_ok tab_ok rfl qE) qS qR ?_
        refine' WA.take 9 rfl qK qK qK rfl rfl qD (Yl.loadG tab_ok rfl rfl rfl qE ?r13 rfl ?h13 ?g13) qS qR ?_
        case r13 => apply Rd.addC; (exact Rd.blkC 0 rfl)
        case h13 => rfl
        case g13 => exact fun _ => trivial
        refine WA.take 10 rfl qK qK qK rfl rfl qD (pureV_ok tab_ok rfl qE) qS qR ?_
        refine WA.take 11 rfl qK qK qK rfl rfl qD (pureV_ok tab_ok rfl qE) qS qR ?_
        refine WA.take 12 rfl (by kernel_rfl) (by kernel_rfl) (by kernel_rfl) rfl rfl (by decide) (Yl.pand rfl rfl rfl (fun _ => rfl) (by intro h1 h2; simp_all <;> omega)) qS (by first | exact RLe.refl _ | assumption) ?_
        refine WA.done qK ?_
        refine zU ?_
        refine cC rfl ?_ ?_ <;> intro hc7
        ·try simp only [zk] at hc7
         refine zK (zU (zB (zG (zR 1 rfl ?_))))
         refine yM 3 ?_
         refine WL.ef rfl rfl qD (Ef.buildSliceD (enc := encI) (parts := [.const (.int .i64 0)]) [_] tab_ok rfl rfl rfl rfl rfl rfl rfl rfl qD qD (fun a32 => ?_))
         refine WL.ef rfl rfl (by decide) (Ef.appendD 1 0 tab_ok rfl rfl rfl rfl rfl rfl rfl rfl rfl rfl rfl (fun _ _ => rfl) (by simp only [List.length_cons, List.length_nil]; omega) (by simp only [List.length_cons, List.length_nil]; omega) (fun a33 c33 ha33 => ?_))
         refine zR 1 rfl ?_
         refine zF 4 ?_
         refine zN (zL ?_)
         refine WE.again ((ts ++ [0], a33, c33, cn + 1)) (by simp only [List.length_append, List.length_cons, List.length_nil]; omega) (by simp only [List.length_append, List.length_cons, List.length_nil]; omega) ⟨rfl, rfl, rfl, rfl⟩ (RLe.refl _) qS
        ·try simp only [zk] at hc7
         refine zX ?_
         refine wx (wx (zY (zL (zU ?_))))
         (refine W.cap 0 rfl ?_; intro hcb; refine W.freeze (enc := encI) 1 rfl ?_; intro R1 hR1 hz1; refine W.freeze (enc := encI) 0 rfl ?_; intro R2 hR2 hz2; have hz1 := hz1.mono hR2)
         refine zQ (zG ?_)
         refine yB 1 ?_
         refine zE 0 ?_
         refine zN (zU (zT ?_))
         refine WE.retFS (E' := srcE b a cp xs (cn + 1) :: F) qS tab_ok [_] rfl ⟨⟨_, _, _, rfl, rfl, rfl, qB, rfl⟩, trivial⟩ (hR1.trans hR2) ?_
         exact ⟨_, [], rfl, ⟨_, _, _, L.w, ts⟩, _, _, _, _, _, rfl, hz1, hz2, by (try dsimp only); (try simp only [List.length_set, List.length_append, List.length_cons, List.length_nil]); omega, by (try dsimp only); (try simp only [List.length_set, List.length_append, List.length_cons, List.length_nil]); omega, (by (try simp only [List.length_map, List.length_append, List.length_cons, List.length_nil] at hcb); (try dsimp only); (try simp only [List.length_append, List.length_cons, List.length_nil]); omega), rfl, rfl⟩
 ·
  refine W.regionD _ [] [.blk b3 [.int .i64 L.kind, .int .i64 L.cap, .int .i64 L.n, .slice aw L.w.length cw, .slice at_ L.tb.length ct]] [9, 11] mixed ?_
  refine vP 1 ?_
  refine vD 2 (r := by apply Rd.add; (exact Rd.blk 0 rfl)) (k := ?_)
  refine vP 5 ?_
  refine vD 6 (r := by apply Rd.add; (exact Rd.blk 0 rfl)) (k := ?_)
  refine VA.br2 qK (i := 0) (j := 4) ?_ ?_
  ·
   refine VS.eff rfl rfl rfl qD (Ef.buildSliceD (enc := encI) (parts := []) [] tab_ok rfl rfl rfl rfl rfl rfl rfl rfl qD qD (fun a5 => ?_))
   refine ⟨by first | exact RLe.refl _ | assumption, qS, (fun _ => qS), ?_⟩
   refine VA.br2 qK (i := 3) (j := 4) ?_ ?_
   ·
    refine VS.eff rfl rfl rfl qD (Ef.cloneL (enc := encI) 0 tab_ok rfl rfl rfl rfl rfl rfl rfl rfl rfl rfl hw (fun _ _ => rfl) (by dsimp only; omega) qO (fun a8 c8 ha8 => ?_))
    refine ⟨by first | exact RLe.refl _ | assumption, qS, (fun _ => qS), ?_⟩
    refine vP 8 ?_
    refine VA.one (i := 4) qK ?_
    refine VS.eff rfl rfl rfl qD (Ef.buildSliceD (enc := encI) (parts := []) [] tab_ok rfl rfl rfl rfl rfl rfl rfl rfl qD qD (fun a9 => ?_))
    refine ⟨by first | exact RLe.refl _ | assumption, qS, (fun _ => qS), ?_⟩
    refine VA.one (i := 7) qK ?_
    refine VS.eff rfl rfl rfl qD (Ef.cloneL (enc := encI) 0 tab_ok rfl rfl rfl rfl rfl rfl rfl rfl rfl rfl ht (fun _ _ => rfl) (by dsimp only; omega) qO (fun a12 c12 ha12 => ?_))
    refine ⟨by first | exact RLe.refl _ | assumption, qS, (fun _ => qS), ?_⟩
    refine VA.one (i := 9) qK ?_
    refine VS.effN rfl rfl rfl (Ef.store 3 tab_ok rfl rfl rfl rfl rfl rfl rfl rfl ?_)
    refine ⟨by first | exact RLe.refl _ | assumption, qS, (noD qK), ?_⟩
    refine VA.take 10 rfl qK qK qK rfl rfl rfl qD (pureV_ok tab_ok rfl (fun _ => rfl)) qS qR (noD qK) ?_
    refine VA.one (i := 11) qK ?_
    refine VS.effN rfl rfl rfl (Ef.store 3 tab_ok rfl rfl rfl rfl rfl rfl rfl rfl ?_)
    refine ⟨by first | exact RLe.refl _ | assumption, qS, (noD qK), ?_⟩
    refine VA.done qK ?_
    refine WE.cutP (a8, c8, a12, c12) ⟨ha8, ha12⟩ ⟨rfl, rfl, rfl, rfl⟩ (RLe.refl _) (by dsimp only; first | exact List.Perm.refl _ | exact List.Perm.swap _ _ _)
   ·
    refine VS.eff rfl rfl rfl qD (Ef.buildSliceD (enc := encI) (parts := []) [] tab_ok rfl rfl rfl rfl rfl rfl rfl rfl qD qD (fun a9 => ?_))
    refine ⟨by first | exact RLe.refl _ | assumption, qS, (fun _ => qS), ?_⟩
    refine VA.one (i := 3) qK ?_
    refine VS.eff rfl rfl rfl qD (Ef.cloneL (enc := encI) 1 tab_ok rfl rfl rfl rfl rfl rfl rfl rfl rfl rfl hw (fun _ _ => rfl) (by dsimp only; omega) qO (fun a8 c8 ha8 => ?_))
    refine ⟨by first | exact RLe.refl _ | assumption, qS, (fun _ => qS), ?_⟩
    refine vP 8 ?_
    refine VA.one (i := 7) qK ?_
    refine VS.eff rfl rfl rfl qD (Ef.cloneL (enc := encI) 0 tab_ok rfl rfl rfl rfl rfl rfl rfl rfl rfl rfl ht (fun _ _ => rfl) (by dsimp only; omega) qO (fun a12 c12 ha12 => ?_))
    refine ⟨by first | exact RLe.refl _ | assumption, qS, (fun _ => qS), ?_⟩
    refine VA.one (i := 9) qK ?_
    refine VS.effN rfl rfl rfl (Ef.store 3 tab_ok rfl rfl rfl rfl rfl rfl rfl rfl ?_)
    refine ⟨by first | exact RLe.refl _ | assumption, qS, (noD qK), ?_⟩
    refine VA.take 10 rfl qK qK qK rfl rfl rfl qD (pureV_ok tab_ok rfl (fun _ => rfl)) qS qR (noD qK) ?_
    refine VA.one (i := 11) qK ?_
    refine VS.effN rfl rfl rfl (Ef.store 3 tab_ok rfl rfl rfl rfl rfl rfl rfl rfl ?_)
    refine ⟨by first | exact RLe.refl _ | assumption, qS, (noD qK), ?_⟩
    refine VA.done qK ?_
    refine WE.cutP (a8, c8, a12, c12) ⟨ha8, ha12⟩ ⟨rfl, rfl, rfl, rfl⟩ (RLe.refl _) (by dsimp only; first | exact List.Perm.refl _ | exact List.Perm.swap _ _ _)
  ·
   refine VS.eff rfl rfl rfl qD (Ef.buildSliceD (enc := encI) (parts := []) [] tab_ok rfl rfl rfl rfl rfl rfl rfl rfl qD qD (fun a9 => ?_))
   refine ⟨by first | exact RLe.refl _ | assumption, qS, (fun _ => qS), ?_⟩
   refine VA.one (i := 0) qK ?_
   refine VS.eff rfl rfl rfl qD (Ef.buildSliceD (enc := encI) (parts := []) [] tab_ok rfl rfl rfl rfl rfl rfl rfl rfl qD qD (fun a5 => ?_))
   refine ⟨by first | exact RLe.refl _ | assumption, qS, (fun _ => qS), ?_⟩
   refine VA.one (i := 3) qK ?_
   refine VS.eff rfl rfl rfl qD (Ef.cloneL (enc := encI) 0 tab_ok rfl rfl rfl rfl rfl rfl rfl rfl rfl rfl hw (fun _ _ => rfl) (by dsimp only; omega) qO (fun a8 c8 ha8 => ?_))
   refine ⟨by first | exact RLe.refl _ | assumption, qS, (fun _ => qS), ?_⟩
   refine vP 8 ?_
   refine VA.one (i := 7) qK ?_
   refine VS.eff rfl rfl rfl qD (Ef.cloneL (enc := encI) 1 tab_ok rfl rfl rfl rfl rfl rfl rfl rfl rfl rfl ht (fun _ _ => rfl) (by dsimp only; omega) qO (fun a12 c12 ha12 => ?_))
   refine ⟨by first | exact RLe.refl _ | assumption, qS, (fun _ => qS), ?_⟩
   refine VA.one (i := 9) qK ?_
   refine VS.effN rfl rfl rfl (Ef.store 3 tab_ok rfl rfl rfl rfl rfl rfl rfl rfl ?_)
   refine ⟨by first | exact RLe.refl _ | assumption, qS, (noD qK), ?_⟩
   refine VA.take 10 rfl qK qK qK rfl rfl rfl qD (pureV_ok tab_ok rfl (fun _ => rfl)) qS qR (noD qK) ?_
   refine VA.one (i := 11) qK ?_
   refine VS.effN rfl rfl rfl (Ef.store 3 tab_ok rfl rfl rfl rfl rfl rfl rfl rfl ?_)
   refine ⟨by first | exact RLe.refl _ | assumption, qS, (noD qK), ?_⟩
   refine VA.done qK ?_
   refine WE.cutP (a8, c8, a12, c12) ⟨ha8, ha12⟩ ⟨rfl, rfl, rfl, rfl⟩ (RLe.refl _) (by dsimp only; first | exact List.Perm.refl _ | exact List.Perm.swap _ _ _)

structure SlZ where
 a : Option Addr
 cap : Nat
 xs : List Sz
instance instSlZ : Inhabited SlZ := ⟨⟨none, 0, []⟩⟩
theorem foldl_inv {α β : Type} {f : β → α → β} {I : β → Prop} : ∀ (l : List α) (b : β), I b → (∀ b a, a ∈ l → I b → I (f b a)) → I (l.foldl f b)
 | [], b, h, _ => h
 | x :: l, b, h, hs => foldl_inv l (f b x) (hs b x (by simp) h) (fun b a ha hb => hs b a (by simp [ha]) hb)
theorem sizes_ok {ps : List Pkt} {n : Nat} {M : Int} (hM : 0 ≤ M) (hs : ∀ p ∈ ps, 1 ≤ p.size ∧ p.size ≤ M) : (sizesL n ps).length = n ∧ ∀ s ∈ sizesL n ps, 0 ≤ s.least ∧ s.least ≤ s.most ∧ s.most ≤ M := by
 unfold sizesL
 refine foldl_inv (I := fun (z : List Sz) => z.length = n ∧ ∀ s ∈ z, 0 ≤ s.least ∧ s.least ≤ s.most ∧ s.most ≤ M) ps _ ⟨by simp, fun s h => ?_⟩ ?_
 ·obtain rfl := List.eq_of_mem_replicate h
  exact ⟨by decide, by decide, hM⟩
 ·intro z p hp ⟨h1, h2⟩
  have hps := hs p hp
  refine ⟨by rw [szAdd_len]; exact h1, ?_⟩
  unfold szAdd
  split
  ·exact h2
  ·rename_i hf
   have hfl : p.flow.toNat < z.length := by omega
   have h3 : ∀ s ∈ szPre z p, 0 ≤ s.least ∧ s.least ≤ s.most ∧ s.most ≤ M := by
    unfold szPre
    split
    ·intro s h
     rcases List.mem_or_eq_of_mem_set h with h | rfl
     ·exact h2 s h
     ·dsimp only; omega
    ·exact h2
   intro s h
   have h4 := h3 _ (nth_mem (xs := szPre z p) (k := p.flow.toNat) (by rw [szPre_len]; exact hfl))
   rcases List.mem_or_eq_of_mem_set h with h | rfl
   ·exact h3 s h
   ·dsimp only
    split <;> split <;> omega
theorem trio51 : Trio Tryz.prog 51 := ⟨_, _, _, Tryz.underlying51, by kernel_rfl, by kernel_rfl, ⟨by decide, by decide, by decide⟩, ⟨rfl, rfl, rfl⟩, Tryz.underlying4, ⟨_, Tryz.underlying3⟩, ⟨_, Tryz.underlying3⟩, fun xs w v h => run_part_plain w (by kernel_rfl) h, fun xs w v h => run_part_plain w (by kernel_rfl) h, fun xs w v h => run_part_plain w (by kernel_rfl) h⟩
set_option maxHeartbeats 8000000 in
theorem ServerCurves_F {R : Ro} {m0 : LnM} {la sa : Option Addr} {lc sc : Nat} {ls : List CvS} {sizes : List Sz} {cls : Int} {a : Option Addr} {c : Nat} {xs : List Int} (h0 : OkLc R m0) (hls : RS R 3 encC la ls) (hlc : ls.length ≤ lc) (hoi : ∀ x ∈ ls, RS R 1 encI x.a x.cv.vals ∧ x.cv.vals.length ≤ x.cap) (hsz : RS R 2 encZ sa sizes) (hsc : sizes.length ≤ sc) (ha : RS R 1 encI a xs) (hc : xs.length ≤ c) (w0 : World) : K.Fn Tryz.prog 3 [.agg #[.int .i64 m0.L.kind, .int .i64 m0.L.cap, .int .i64 m0.L.n, .slice m0.a1 m0.L.w.length m0.c1, .slice m0.a2 m0.L.tb.length m0.c2], .slice la ls.length lc, .slice sa sizes.length sc, .int .i64 cls, .slice a xs.length c] w0 R [] (fun v _ _ => v = .bool true) := by
 have hlr := hsz.len
 have hll := hls.len
 refine fE 225 Tryz.func3 ?_
 refine zQ (zG ?_)
 refine zO fun b5 => ?_
 refine WL.freezeBlk 0 rfl ?_
 intro R0 hR0 hb5
 have h0 := h0.mono hR0
 have hls := hls.mono hR0
 have hsz := hsz.mono hR0
 have ha := ha.mono hR0
 have hoi : ∀ x ∈ ls, RS R0 1 encI x.a x.cv.vals ∧ x.cv.vals.length ≤ x.cap := fun x hx => ⟨(hoi x hx).1.mono hR0, (hoi x hx).2⟩
 refine zR 1 rfl (zN (zU ?_))
 refine W.seqCut (β := List CvS × List Sz) (fun (l, z) => K.RS R0 3 encC la l ∧ l.length ≤ lc ∧ (∀ x ∈ l, K.RS R0 1 encI x.a x.cv.vals ∧ x.cv.vals.length ≤ x.cap) ∧ K.RS R0 2 encZ sa z ∧ z.length ≤ sc ∧ l.length ≤ 8 ∧ z.length ≤ 8) (fun (l, z) => [(1, true, .slice la l.length lc), (2, true, .slice sa z.length sc), (3, true, .int .i64 cls), (4, true, .slice a xs.length c), (5, true, .pointer (some ⟨b5, 0, none⟩))]) (fun _ => R0) (fun _ => []) ?_ ?_
 ·
  intro st hst
  clear hls hlc hoi hsz hsc hlr hll
  obtain ⟨ls, sizes⟩ := st
  obtain ⟨hls, hlc, hoi, hsz, hsc, hl8, hz8⟩ := hst
  dsimp only at hls hlc hoi hsz hsc hl8 hz8 ⊢
  refine zQ (zQ (zG (zR 3 rfl (zN (zU (zB ?_))))))
  refine W.loopK (β := Nat) (fun i => i ≤ ls.length ∧ ∀ j, j < i → (nth ls j).cv.vals.length ≤ 800) (fun i => [(49, true, .int .i64 (i : Int))]) [1, 2, 3, 4, 5, 48] [_, _, _, _, _, _] [] _ rfl (fun i => []) (fun i => ls.length - i) (0) (⟨Nat.zero_le _, fun j hj => by omega⟩) ⟨rfl, rfl, rfl, rfl, rfl, rfl, rfl, rfl⟩ qS ?_
  intro i hst
  refine zQ (zG (zR 1 rfl (zN (zU (zQ ?_)))))
  refine cD rfl ?_ ?_ <;> intro hc0
  ·
   have hil : i < ls.length := by omega
   refine zK (zU (zQ (zB (zQ (zG (zR 2 rfl (zN (zU (zQ (zG (zR 2 rfl ?_)))))))))))
   refine yI ?_
   refine yD (r := by exact RS.rdD hls qO) (k := ?_)
   refine WG.callV (v := .bool (decide (((nth ls i).cv.vals.length : Int) ≤ 800))) en4 rfl rfl qD (CallOp.mk' rfl rfl rfl rfl) (fun _ => rfl) (fun hg => SmallK_V) ?_
   refine zR 1 rfl (zN (zU ?_))
   refine cC rfl ?_ ?_ <;> intro hc1
   ·try simp only [zk] at hc1
    refine zQ (zG ?_)
    refine WL.call en5 rfl rfl qD (CallOp.mkT rfl rfl rfl rfl) (AwakeC_C w0 _) ?_
    rintro _ R9 E9 hR9 ⟨rfl, hsub9⟩
    refine WL.subE hsub9 ?_
    refine zR 1 rfl (zN (zU (zT (wb (wt (wt (wb (wt ?_))))))))
    refine zq1 (by first | exact RLe.refl _ | assumption | exact hR0.trans (hR04.trans (hRk.trans hR9)) | exact hR0.trans hR9) ?_
    exact rfl
   ·try simp only [zk] at hc1
    have hi8 : (nth ls i).cv.vals.length ≤ 800 := by first | omega | (simp at hc1; omega)
    refine zK (zL (zU (zG ?_)))
    refine yA ?_
    refine zR 1 rfl (zN ?_)
    refine WE.again (i + 1) (⟨by omega, fun j hj => by
     by_cases e : j = i
     ·subst e; exact hi8
     ·exact hst.2 j (by omega)⟩) (by (try dsimp only); omega) ⟨rfl, rfl, rfl, rfl, rfl, rfl, rfl, rfl⟩ (RLe.refl _) qS
  ·
   obtain rfl : i = ls.length := by omega
   have hsm : ∀ x ∈ ls, x.cv.vals.length ≤ 800 := fun x hx => by
    obtain ⟨j, hj, rfl⟩ := List.getElem_of_mem hx
    have := hst.2 j hj
    rw [nth_eq hj] at this
    exact this
   refine zX ?_
   refine wx (wx (zY (zU (zQ (zG (zR 1 rfl ?_))))))
   refine WL.call en6 rfl rfl qD (CallOp.mkT rfl rfl rfl rfl) (New_C w0 _ hc) ?_
   rintro _ _ _ - ⟨b, rfl, rfl, rfl⟩
   have hz := ha.take 2000
   refine zR 1 rfl (zN (zU (zQ (zG (zR 1 rfl ?_)))))
   refine WL.callAt 0 en7 rfl rfl qD (CallOp.mkT rfl rfl rfl rfl) rfl (DrawC_C w0 hz _) ?_
   rintro _ R2 _ _ hR2 ⟨L, aw, at_, cw, ct, cn, rfl, hw, ht, hL, hct, rfl, rfl⟩
   have h0 := h0.mono hR2
   have hls := hls.mono hR2
   have hsz := hsz.mono hR2
   have hz := hz.mono hR2
   have hoi : ∀ x ∈ ls, RS R2 1 encI x.a x.cv.vals ∧ x.cv.vals.length ≤ x.cap := fun x hx => ⟨(hoi x hx).1.mono hR2, (hoi x hx).2⟩
   refine zA fun b13 => ?_
   refine zE 0 ?_
   refine zN (zU ?_)
   refine W.freezeBlk 0 rfl ?_
   intro R2c hR2c hb13
   have h0 := h0.mono hR2c
   have hls := hls.mono hR2c
   have hsz := hsz.mono hR2c
   have hz := hz.mono hR2c
   have hw := hw.mono hR2c
   have ht := ht.mono hR2c
   have hoi : ∀ x ∈ ls, RS R2c 1 encI x.a x.cv.vals ∧ x.cv.vals.length ≤ x.cap := fun x hx => ⟨(hoi x hx).1.mono hR2c, (hoi x hx).2⟩
   refine zQ (zG (zR 1 rfl ?_))
   refine WL.callAt 0 en8 rfl rfl qD (CallOp.mkT rfl rfl rfl rfl) rfl (Zero_C w0 hz (most := 4) qD _) ?_
   rintro _ Rz1 _ _ hRz1 ⟨f1, k1, n1, v1, rfl, hf1, hs1, hfn1, h01, hcp1, rfl, rfl⟩
   have h0 := h0.mono hRz1
   have hls := hls.mono hRz1
   have hsz := hsz.mono hRz1
   have hz := hz.mono hRz1
   have hw := hw.mono hRz1
   have ht := ht.mono hRz1
   have hoi : ∀ x ∈ ls, RS Rz1 1 encI x.a x.cv.vals ∧ x.cv.vals.length ≤ x.cap := fun x hx => ⟨(hoi x hx).1.mono hRz1, (hoi x hx).2⟩
   refine zR 1 rfl ?_
   refine WL.callAt 0 en8 rfl rfl qD (CallOp.mkT rfl rfl rfl rfl) rfl (Zero_C w0 hz (most := 4) qD _) ?_
   rintro _ Rz2 _ _ hRz2 ⟨f2, k2, n2, v2, rfl, hf2, hs2, hfn2, h02, hcp2, rfl, rfl⟩
   have h0 := h0.mono hRz2
   have hls := hls.mono hRz2
   have hsz := hsz.mono hRz2
   have hz := hz.mono hRz2
   have hw := hw.mono hRz2
   have ht := ht.mono hRz2
   have hf1 := hf1.mono hRz2
   have hoi : ∀ x ∈ ls, RS Rz2 1 encI x.a x.cv.vals ∧ x.cv.vals.length ≤ x.cap := fun x hx => ⟨(hoi x hx).1.mono hRz2, (hoi x hx).2⟩
   refine zR 1 rfl ?_
   refine WL.callAt 0 en8 rfl rfl qD (CallOp.mkT rfl rfl rfl rfl) rfl (Zero_C w0 hz (most := 4) qD _) ?_
   rintro _ Rz3 _ _ hRz3 ⟨f3, k3, n3, v3, rfl, hf3, hs3, hfn3, h03, hcp3, rfl, rfl⟩
   have h0 := h0.mono hRz3
   have hls := hls.mono hRz3
   have hsz := hsz.mono hRz3
   have hz := hz.mono hRz3
   have hw := hw.mono hRz3
   have ht := ht.mono hRz3
   have hf1 := hf1.mono hRz3
   have hf2 := hf2.mono hRz3
   have hoi : ∀ x ∈ ls, RS Rz3 1 encI x.a x.cv.vals ∧ x.cv.vals.length ≤ x.cap := fun x hx => ⟨(hoi x hx).1.mono hRz3, (hoi x hx).2⟩
   refine WL.ef rfl rfl qD (Ef.buildSliceD (enc := encC) (parts := [.tmp 65, .tmp 67, .tmp 69]) [(⟨f1, k1, v1⟩ : CvS), ⟨f2, k2, v2⟩, ⟨f3, k3, v3⟩] tab_ok rfl rfl rfl rfl rfl rfl rfl rfl qD qD (fun a70 => ?_))
   refine WL.freeze (enc := encC) (xs := ([⟨f1, k1, v1⟩, ⟨f2, k2, v2⟩, ⟨f3, k3, v3⟩] : List CvS)) 0 rfl ?_
   intro R1 hR1 hal
   have h0 := h0.mono hR1
   have hls := hls.mono hR1
   have hsz := hsz.mono hR1
   have hz := hz.mono hR1
   have hw := hw.mono hR1
   have ht := ht.mono hR1
   have hf1 := hf1.mono hR1
   have hf2 := hf2.mono hR1
   have hf3 := hf3.mono hR1
   have hoi : ∀ x ∈ ls, RS R1 1 encI x.a x.cv.vals ∧ x.cv.vals.length ≤ x.cap := fun x hx => ⟨(hoi x hx).1.mono hR1, (hoi x hx).2⟩
   refine zR 1 rfl ?_
   refine WL.callAt 0 en10 rfl rfl qD (CallOp.mkT rfl rfl rfl rfl) rfl (Traffic_C w0 hz qD (by constructor <;> decide) qD _) ?_
   rintro _ _ _ _ - ⟨a2, c2, rfl, rfl, rfl, rfl⟩
   refine WL.freeze (enc := encP) (xs := (traffic (xs.take 2000) 9 3 40 (n3))) 0 rfl ?_
   intro R2t hR2t hp
   have hok := traffic_ok (xs.take 2000) (n := 9) (flows := 3) (most := 40) (by decide) (by decide) (by decide) (n3)
   have hat := traffic_at (xs.take 2000) (n := 9) (flows := 3) (most := 40) (by decide) (by decide) (by decide) (n3)
   have hlt := traffic_len (xs.take 2000) (n := 9) (flows := 3) (most := 40) (by decide) (n3)
   generalize (traffic (xs.take 2000) 9 3 40 (n3)) = ps at hp hok hat hlt ⊢
   have h0 := h0.mono hR2t
   have hls := hls.mono hR2t
   have hsz := hsz.mono hR2t
   have hz := hz.mono hR2t
   have hw := hw.mono hR2t
   have ht := ht.mono hR2t
   have hf1 := hf1.mono hR2t
   have hf2 := hf2.mono hR2t
   have hf3 := hf3.mono hR2t
   have hal := hal.mono hR2t
   have hoi : ∀ x ∈ ls, RS R2t 1 encI x.a x.cv.vals ∧ x.cv.vals.length ≤ x.cap := fun x hx => ⟨(hoi x hx).1.mono hR2t, (hoi x hx).2⟩
   refine WL.call en9 rfl rfl qD (CallOp.mkT rfl rfl rfl rfl) (Sizes_C hp rfl (n := 3) qD w0 _) ?_
   rintro _ _ E4 - ⟨az, cz, rfl, rfl, hsub4⟩
   refine WL.subE hsub4 ?_
   obtain ⟨hzzl, hzzb⟩ := sizes_ok (n := 3) (M := 40) (by decide) (fun p hp => by have := hat p hp; omega : ∀ p ∈ ps, 1 ≤ p.size ∧ p.size ≤ 40)
   generalize sizesL 3 ps = zz at hzzl hzzb ⊢
   refine WL.cap 0 rfl ?_
   intro hcz
   rw [List.length_map] at hcz
   refine WL.freeze (enc := encZ) (xs := zz) 0 rfl ?_
   intro R3 hR3 hzz
   generalize n3 + 1 + 3 * trafficK (xs.take 2000) 9 n3 = cn1
   have h0 := h0.mono hR3
   have hls := hls.mono hR3
   have hsz := hsz.mono hR3
   have hz := hz.mono hR3
   have hw := hw.mono hR3
   have ht := ht.mono hR3
   have hf1 := hf1.mono hR3
   have hf2 := hf2.mono hR3
   have hf3 := hf3.mono hR3
   have hal := hal.mono hR3
   have hoi : ∀ x ∈ ls, RS R3 1 encI x.a x.cv.vals ∧ x.cv.vals.length ≤ x.cap := fun x hx => ⟨(hoi x hx).1.mono hR3, (hoi x hx).2⟩
   refine zR 2 rfl (zN (zU (zQ ?_)))
   have hR03 := hR2.trans (hR2c.trans (hRz1.trans (hRz2.trans (hRz3.trans (hR1.trans (hR2t.trans hR3))))))
   have hb13 := (hRz1.trans (hRz2.trans (hRz3.trans (hR1.trans (hR2t.trans hR3))))) _ _ hb13
   have hb5 := hR03 _ _ hb5
   refine zQ ?_
   refine W.regionH _ (ES := []) mixed ?_
   refine tD 0 (r := by exact Rd.ro hb13) (k := ?_)
   refine tD 1 (r := by exact Rd.ro hb5) (k := ?_)
   refine tP 2 ?_
   refine tD 3 (r := by exact Rd.ro hb13) (k := ?_)
   refine tP 7 ?_
   refine WA.callAt 0 4 rfl qK en11 rfl rfl qD (CallOp.mkT rfl rfl rfl rfl) rfl (BentLK_C (K := 42) (L := L) w0 hz hw ht qD hL.lens.1 hL.lens.2 _) ?_
   rintro _ Rb E2 N2 hRb ⟨Mb, bw, bt, dw, dt, cn2, rfl, hbw, hbt, hlw2, hlt2, hdt, rfl, rfl⟩
   refine ⟨hRb, qS, ?_⟩
   have h0 := h0.mono hRb
   have hls := hls.mono hRb
   have hsz := hsz.mono hRb
   have hz := hz.mono hRb
   have hw := hw.mono hRb
   have ht := ht.mono hRb
   have hf1 := hf1.mono hRb
   have hf2 := hf2.mono hRb
   have hf3 := hf3.mono hRb
   have hal := hal.mono hRb
   have hzz := hzz.mono hRb
   have hoi : ∀ x ∈ ls, RS Rb 1 encI x.a x.cv.vals ∧ x.cv.vals.length ≤ x.cap := fun x hx => ⟨(hoi x hx).1.mono hRb, (hoi x hx).2⟩
   refine WA.eff 5 rfl qK rfl rfl qD (Ef.buildSliceD (enc := encLn) (parts := [.tmp 74, .tmp 75, .tmp 78]) [(⟨aw, cw, at_, ct, L⟩ : LnM), m0, (⟨bw, dw, bt, dt, Mb⟩ : LnM)] tab_ok rfl rfl rfl rfl rfl rfl rfl rfl qD qD (fun a79 => ?_))
   refine ⟨qR, qS, ?_⟩
   refine WA.freeze (enc := encLn) 0 rfl ?_
   intro R4 hR4 hyl0
   obtain ⟨yl, hyl0, hyll, hyl⟩ : ∃ yl : List LnM, K.RS R4 5 encLn (some ⟨a79, 0, none⟩) yl ∧ yl.length = 3 ∧ ∀ m ∈ yl, OkLc R4 m := ⟨_, hyl0, rfl, fun y hy => by
    simp only [List.mem_cons, List.not_mem_nil, or_false] at hy
    rcases hy with rfl | rfl | rfl
    ·exact ⟨⟨hw.mono hR4, ht.mono hR4⟩, hct⟩
    ·exact h0.mono hR4
    ·exact ⟨⟨hbw.mono hR4, hbt.mono hR4⟩, hdt⟩⟩
   have hls := hls.mono hR4
   have hsz := hsz.mono hR4
   have hz := hz.mono hR4
   have hf1 := hf1.mono hR4
   have hf2 := hf2.mono hR4
   have hf3 := hf3.mono hR4
   have hal := hal.mono hR4
   have hzz := hzz.mono hR4
   have hoi : ∀ x ∈ ls, RS R4 1 encI x.a x.cv.vals ∧ x.cv.vals.length ≤ x.cap := fun x hx => ⟨(hoi x hx).1.mono hR4, (hoi x hx).2⟩
   have hRb4 := hRb.trans hR4
   have hR04 := hR03.trans hRb4
   refine tP 6 ?_
   refine WA.done qK ?_
   refine zU (zB ?_)
   refine W.loopR (β := Nat × Nat × Ro) (fun (j, cn2, Rk) => j ≤ yl.length ∧ RLe R4 Rk) (fun (j, cn2, Rk) => [(81, true, .int .i64 (j : Int))]) [1, 2, 3, 12, 14, 15, 79, 80] [_, _, _, _, _, _, _, _] [] _ rfl (fun (j, cn2, Rk) => [(0, srcE b a c (xs.take 2000) cn2)]) (fun (j, cn2, Rk) => Rk) (fun (j, cn2, Rk) => yl.length - j) ((0, cn2, R4)) (⟨Nat.zero_le _, RLe.refl _⟩) ⟨rfl, rfl, rfl, rfl, rfl, rfl, rfl, rfl, rfl, rfl⟩ (RLe.refl _) qS ?_
   intro zz1 hst
   obtain ⟨j, cn2, Rk⟩ := zz1
   obtain ⟨hj, hRk⟩ := hst
   have hyl0 := hyl0.mono hRk
   have hyl : ∀ m ∈ yl, OkLc Rk m := fun m hm => (hyl m hm).mono hRk
   have hls := hls.mono hRk
   have hsz := hsz.mono hRk
   have hz := hz.mono hRk
   have hf1 := hf1.mono hRk
   have hf2 := hf2.mono hRk
   have hf3 := hf3.mono hRk
   have hal := hal.mono hRk
   have hzz := hzz.mono hRk
   have hoi : ∀ x ∈ ls, RS Rk 1 encI x.a x.cv.vals ∧ x.cv.vals.length ≤ x.cap := fun x hx => ⟨(hoi x hx).1.mono hRk, (hoi x hx).2⟩
   refine zQ (zG (zR 1 rfl (zN (zU (zQ ?_)))))
   refine cD rfl ?_ ?_ <;> intro hc2
   ·
    have hjl : j < yl.length := by omega
    have hy := hyl _ (nth_mem (xs := yl) (k := j) hjl)
    generalize hyy : nth yl j = y at hy
    refine zK (zU (zQ (zB (zQ (zG ?_)))))
    refine yI ?_
    refine yD (r := by exact RS.rdD hyl0 qO) (k := ?_)
    rw [hyy]
    refine zA fun b17 => ?_
    refine zE 0 ?_
    refine zN (zU ?_)
    refine W.freezeBlk 0 rfl ?_
    intro R17 hR17 hb17
    have hls := hls.mono hR17
    have hsz := hsz.mono hR17
    have hz := hz.mono hR17
    have hf1 := hf1.mono hR17
    have hf2 := hf2.mono hR17
    have hf3 := hf3.mono hR17
    have hal := hal.mono hR17
    have hzz := hzz.mono hR17
    have hy := hy.mono hR17
    have hoi : ∀ x ∈ ls, RS R17 1 encI x.a x.cv.vals ∧ x.cv.vals.length ≤ x.cap := fun x hx => ⟨(hoi x hx).1.mono hR17, (hoi x hx).2⟩
    refine W.seqCut (β := List (SlA CvS) × Nat × Ro × Nat) (fun (tx, cnb, Rq, ax) => RS Rq 1 encSl (some ⟨ax, 0, none⟩) tx ∧ tx.length = 4 ∧ (∀ s ∈ tx, OkL Rq s) ∧ RLe R17 Rq) (fun (tx, cnb, Rq, ax) => [(1, true, .slice la ls.length lc), (2, true, .slice sa sizes.length sc), (3, true, .int .i64 cls), (12, true, .pointer (some ⟨b, 0, none⟩)), (14, true, .slice (some ⟨a70, 0, none⟩) 3 3), (15, true, .slice az zz.length cz), (17, true, .pointer (some ⟨b17, 0, none⟩)), (79, true, .slice (some ⟨a79, 0, none⟩) 3 3), (80, true, .int .i64 ((3 : Nat) : Int)), (81, true, .int .i64 (j : Int)), (103, true, .slice (some ⟨ax, 0, none⟩) 4 4), (104, true, .int .i64 ((4 : Nat) : Int)), (105, true, .int .i64 0)]) (fun (tx, cnb, Rq, ax) => Rq) (fun (tx, cnb, Rq, ax) => [srcE b a c (xs.take 2000) cnb]) ?_ ?_
    ·
     intro st hst
     obtain ⟨tx, cnb, Rq, ax⟩ := st
     obtain ⟨htx0, htxl, htx, hRq⟩ := hst
     dsimp only at htx0 htxl htx hRq ⊢
     have hsz := hsz.mono hRq
     have hz := hz.mono hRq
     have hzz := hzz.mono hRq
     have hy := hy.mono hRq
     have hb17 := hRq _ _ hb17
     refine zB ?_
     refine W.loopR (β := Nat × Nat × Ro) (fun (i, cnb, Rk1) => i ≤ tx.length ∧ RLe Rq Rk1) (fun (i, cnb, Rk1) => [(105, true, .int .i64 (i : Int))]) [1, 2, 3, 12, 14, 15, 17, 79, 80, 81, 103, 104] [_, _, _, _, _, _, _, _, _, _, _, _] [] _ rfl (fun (i, cnb, Rk1) => [(0, srcE b a c (xs.take 2000) cnb)]) (fun (i, cnb, Rk1) => Rk1) (fun (i, cnb, Rk1) => tx.length - i) ((0, cnb, Rq)) (⟨Nat.zero_le _, RLe.refl _⟩) ⟨rfl, rfl, rfl, rfl, rfl, rfl, rfl, rfl, rfl, rfl, rfl, rfl, rfl, rfl⟩ (RLe.refl _) qS ?_
     intro zz2 hst
     obtain ⟨i, cnb, Rk1⟩ := zz2
     obtain ⟨hi, hRk1⟩ := hst
     have htx0 := htx0.mono hRk1
     have htx : ∀ s ∈ tx, OkL Rk1 s := fun s hs => (htx s hs).mono hRk1
     have hb17 := hRk1 _ _ hb17
     have hsz := hsz.mono hRk1
     have hz := hz.mono hRk1
     have hzz := hzz.mono hRk1
     have hy := hy.mono hRk1
     refine zQ (zG (zR 1 rfl (zN (zU (zQ ?_)))))
     refine cD rfl ?_ ?_ <;> intro hc3
     ·
      have hil : i < tx.length := by omega
      have hX := htx _ (nth_mem (xs := tx) (k := i) hil)
      generalize hxx : nth tx i = X at hX
      refine zK (zU (zQ (zB (zQ (zG ?_)))))
      refine yI ?_
      refine yD (r := by exact RS.rdD htx0 qO) (k := ?_)
      rw [hxx]
      refine zR 1 rfl (zN (zU (zQ (zG (zR 4 rfl ?_)))))
      refine WL.callAt 0 en14 rfl rfl qD (CallOp.mkT rfl rfl rfl rfl) rfl (TwistedK_C w0 hz hzz rfl qO (fun s hs => by have := hzzb s hs; omega) _) ?_
      rintro _ Ra _ _ hRa ⟨a113, c113, cnb2, qs2, rfl, hqs2, hcq, rfl, rfl⟩
      have hz := hz.mono hRa
      have hzz := hzz.mono hRa
      have hsz := hsz.mono hRa
      have hX := hX.mono hRa
      have hy := hy.mono hRa
      have hb17 := hRa _ _ hb17
      refine WL.ef rfl rfl qD (Ef.buildSliceD (enc := encSl (α := Sz)) (parts := [.tmp 109, .tmp 110, .tmp 113]) [(⟨az, cz, zz⟩ : SlA Sz), ⟨sa, sc, sizes⟩, ⟨a113, c113, qs2⟩] tab_ok rfl rfl rfl rfl rfl rfl rfl rfl qD qD (fun a114 => ?_))
      refine WL.freeze (enc := encSl (α := Sz)) 0 rfl ?_
      intro Rc hRc htz0
      obtain ⟨tz, htz0, htzl, htz⟩ : ∃ tz : List (SlA Sz), RS Rc 1 encSl (some ⟨a114, 0, none⟩) tz ∧ tz.length = 3 ∧ ∀ s ∈ tz, RS Rc 2 encZ s.a s.xs ∧ s.xs.length ≤ s.cap := ⟨_, htz0, rfl, by
       simp only [List.mem_cons, List.not_mem_nil, or_false, forall_eq_or_imp, forall_eq]
       exact ⟨⟨hzz.mono hRc, hcz⟩, ⟨hsz.mono hRc, hsc⟩, ⟨hqs2.mono hRc, hcq⟩⟩⟩
      have hz := hz.mono hRc
      have hX := hX.mono hRc
      have hy := hy.mono hRc
      have hb17 := hRc _ _ hb17
      refine zR 2 rfl (zN (zU (zB ?_)))
      refine W.loopR (β := Nat × Nat × Ro) (fun (k, cnc, Rk2) => k ≤ tz.length ∧ RLe Rc Rk2) (fun (k, cnc, Rk2) => [(116, true, .int .i64 (k : Int))]) [1, 2, 3, 12, 14, 15, 17, 19, 79, 80, 81, 103, 104, 105, 114, 115] [_, _, _, _, _, _, _, _, _, _, _, _, _, _, _, _] [] _ rfl (fun (k, cnc, Rk2) => [(0, srcE b a c (xs.take 2000) cnc)]) (fun (k, cnc, Rk2) => Rk2) (fun (k, cnc, Rk2) => tz.length - k) ((0, cnb2, Rc)) (⟨Nat.zero_le _, RLe.refl _⟩) ⟨rfl, rfl, rfl, rfl, rfl, rfl, rfl, rfl, rfl, rfl, rfl, rfl, rfl, rfl, rfl, rfl, rfl, rfl⟩ (RLe.refl _) qS ?_
      intro zz3 hst
      obtain ⟨k, cnc, Rk2⟩ := zz3
      obtain ⟨hk, hRk2⟩ := hst
      have htz0 := htz0.mono hRk2
      have htz : ∀ s ∈ tz, RS Rk2 2 encZ s.a s.xs ∧ s.xs.length ≤ s.cap := fun s hs => ⟨(htz s hs).1.mono hRk2, (htz s hs).2⟩
      have hz := hz.mono hRk2
      have hX := hX.mono hRk2
      have hy := hy.mono hRk2
      have hb17 := hRk2 _ _ hb17
      refine zQ (zG (zR 1 rfl (zN (zU (zQ ?_)))))
      refine cD rfl ?_ ?_ <;> intro hc4
      ·
       have hkl : k < tz.length := by omega
       have hY := htz _ (nth_mem (xs := tz) (k := k) hkl)
       generalize hzy : nth tz k = Y at hY
       refine zK (zU (zQ (zB (zQ (zG ?_)))))
       refine yI ?_
       refine yD (r := by exact RS.rdD htz0 qO) (k := ?_)
       rw [hzy]
       refine zR 1 rfl (zN (zU (zQ (zG (zR 2 rfl ?_)))))
       refine WL.ef rfl rfl qD (Ef.buildSliceD (enc := encI) (parts := [.tmp 121, .const (.int .i64 0), .const (.int .i64 1), .const (.int .i64 2), .const (.int .i64 (-1)), .const (.int .i64 3)]) [_, _, _, _, _, _] tab_ok rfl rfl rfl rfl rfl rfl rfl rfl qD qD (fun a122 => ?_))
       refine WL.callAt 1 en15 rfl rfl qD (CallOp.mkT rfl rfl rfl rfl) rfl (PickM_C (j := 0) w0 ([cls, 0, 1, 2, -1, 3] : List Int) rfl qD qD hz rfl) ?_
       rintro _ _ _ _ - ⟨rfl, rfl, rfl, rfl⟩
       generalize (nth ([cls, 0, 1, 2, -1, 3] : List Int) (mod (nth (xs.take 2000) cnc) ((6 : Nat) : Int)).toNat) = kq
       refine zR 1 rfl (zN (zU (zQ (zG ?_))))
       refine yD (r := by exact Rd.ro hb17) (k := ?_)
       refine zR 3 rfl ?_
       refine WL.call en16 rfl rfl qD (CallOp.mkT rfl rfl rfl rfl) (CurveSrv_C (L := y.L) (cls := kq) hy.1.1 rfl hy.1.2 rfl hX.1 rfl hX.2.1 (fun x hx => ⟨(hX.2.2 x hx).1, by have := (hX.2.2 x hx).2.1; omega⟩) hY.1 rfl hY.2 hy.2 w0 _) ?_
       rintro _ R5 _ hR5 ⟨g1, kg1, rfl, hg1, hsub1⟩
       refine WL.subE hsub1 ?_
       unfold cvV
       have hX := hX.mono hR5
       have hy := hy.mono hR5
       have hb17 := hR5 _ _ hb17
       have hY : RS R5 2 encZ Y.a Y.xs ∧ Y.xs.length ≤ Y.cap := ⟨hY.1.mono hR5, hY.2⟩
       refine zR 3 rfl ?_
       refine zA fun b23 => ?_
       refine zE 0 ?_
       refine zR 1 rfl (zN (zU (zQ (zG ?_))))
       refine yD (r := by exact Rd.ro hb17) (k := ?_)
       refine zR 3 rfl ?_
       refine WL.call en17 rfl rfl qD (CallOp.mkT rfl rfl rfl rfl) (Curve22_C (L := y.L) (cls := kq) hy.1.1 rfl hy.1.2 rfl hX.1 rfl hX.2.1 (fun x hx => ⟨(hX.2.2 x hx).1, by have := (hX.2.2 x hx).2.1; omega, (hX.2.2 x hx).2.2⟩) hY.1 rfl  w0 _) ?_
       rintro _ R6 _ hR6 ⟨g2, kg2, rfl, hg2, hkg2, hsub2⟩
       refine WL.subE hsub2 ?_
       unfold cvV
       have hg1 := hg1.mono hR6
       generalize curveL y.L kq (X.xs.map CvS.cv) Y.xs = q at hg1 hg2 hkg2 ⊢
       have hX := hX.mono hR6
       have hy := hy.mono hR6
       have hb17 := hR6 _ _ hb17
       have hY : RS R6 2 encZ Y.a Y.xs ∧ Y.xs.length ≤ Y.cap := ⟨hY.1.mono hR6, hY.2⟩
       refine zR 3 rfl ?_
       refine zA fun b25 => ?_
       refine zE 0 ?_
       refine zR 1 rfl (zN (zU (zQ (zQ (zG (zR 4 rfl ?_))))))
       refine yG (Rd.blkC 1 rfl) ?_
       refine yG (Rd.blkC 0 rfl) ?_
       refine WG.callV (v := .bool true) en18 rfl rfl (by decide) (CallOp.mk' rfl rfl rfl rfl) qE (fun hg => by have h := Same02_V (ca := kg1) (cb := kg2) (p1 := q.1.per) (i1 := q.1.inc) (p2 := q.1.per) (i2 := q.1.inc) hg1 hg2; rw [decide_eq_true ⟨rfl, rfl, rfl⟩] at h; exact h) ?_
       refine yP ?_
       refine yO ?_
       refine zN (zU ?_)
       refine cC rfl ?_ ?_ <;> intro hc5
       ·try simp only [zk] at hc5
        (simp at hc5; done)
       ·try simp only [zk] at hc5
        refine zK (zU (zQ (zG ?_)))
        refine yD (r := by exact Rd.ro hb17) (k := ?_)
        refine zR 3 rfl ?_
        refine WL.call en19 rfl rfl qD (CallOp.mkT rfl rfl rfl rfl) (DelaySrv_C (L := y.L) (cls := kq) hy.1.1 rfl hy.1.2 rfl hX.1 rfl hX.2.1 (fun x hx => ⟨(hX.2.2 x hx).1, by have := (hX.2.2 x hx).2.1; omega⟩) hY.1 rfl hY.2 hy.2 w0 _) ?_
        rintro _ R7 _ hR7 ⟨rfl, hsub3⟩
        refine WL.subE hsub3 ?_
        unfold devV
        have hX := hX.mono hR7
        have hy := hy.mono hR7
        have hb17 := hR7 _ _ hb17
        have hY : RS R7 2 encZ Y.a Y.xs ∧ Y.xs.length ≤ Y.cap := ⟨hY.1.mono hR7, hY.2⟩
        refine zR 3 rfl ?_
        refine zA fun b27 => ?_
        refine zE 0 ?_
        refine zR 1 rfl (zN (zU (zQ (zG ?_))))
        refine yD (r := by exact Rd.ro hb17) (k := ?_)
        refine zR 3 rfl ?_
        refine WL.call en20 rfl rfl qD (CallOp.mkT rfl rfl rfl rfl) (Delay22_C (L := y.L) (cls := kq) hy.1.1 rfl hy.1.2 rfl hX.1 rfl hX.2.1 (fun x hx => ⟨(hX.2.2 x hx).1, by have := (hX.2.2 x hx).2.1; omega, (hX.2.2 x hx).2.2⟩) hY.1 rfl  w0 _) ?_
        rintro _ R8 _ hR8 ⟨rfl, hsub4⟩
        refine WL.subE hsub4 ?_
        unfold devV
        generalize delayL y.L kq (X.xs.map CvS.cv) Y.xs = q2
        have hX := hX.mono hR8
        have hy := hy.mono hR8
        have hb17 := hR8 _ _ hb17
        have hY : RS R8 2 encZ Y.a Y.xs ∧ Y.xs.length ≤ Y.cap := ⟨hY.1.mono hR8, hY.2⟩
        refine zR 3 rfl ?_
        refine zA fun b28 => ?_
        refine zE 0 ?_
        refine zR 1 rfl (zN (zU (zQ (zQ (zG ?_)))))
        refine yB 1 ?_
        refine yB 0 ?_
        refine WG.y rfl rfl qD (Yl.neTrio trio51 rfl rfl rfl (fun _ => rfl)) ?_
        refine zR 1 rfl ?_
        refine yP ?_
        refine yP ?_
        refine yP ?_
        refine yO ?_
        refine zN (zU ?_)
        refine cC rfl ?_ ?_ <;> intro hc6
        ·try simp only [zk] at hc6
         (simp at hc6; done)
        ·try simp only [zk] at hc6
         refine zK (zU (zQ (zG ?_)))
         refine yD (r := by exact Rd.ro hb17) (k := ?_)
         refine zR 3 rfl ?_
         refine WL.call en21 rfl rfl qD (CallOp.mkT rfl rfl rfl rfl) (BackSrv_C (L := y.L) (cls := kq) hy.1.1 rfl hy.1.2 rfl hX.1 rfl hX.2.1 (fun x hx => ⟨(hX.2.2 x hx).1, by have := (hX.2.2 x hx).2.1; omega⟩) hY.1 rfl hY.2 hy.2 w0 _) ?_
         rintro _ R10 _ hR10 ⟨rfl, hsub5⟩
         refine WL.subE hsub5 ?_
         unfold devV
         have hX := hX.mono hR10
         have hy := hy.mono hR10
         have hb17 := hR10 _ _ hb17
         have hY : RS R10 2 encZ Y.a Y.xs ∧ Y.xs.length ≤ Y.cap := ⟨hY.1.mono hR10, hY.2⟩
         refine zR 3 rfl ?_
         refine zE 1 ?_
         refine zR 1 rfl (zN (zU (zQ (zG ?_))))
         refine yD (r := by exact Rd.ro hb17) (k := ?_)
         refine zR 3 rfl ?_
         refine WL.call en22 rfl rfl qD (CallOp.mkT rfl rfl rfl rfl) (Back22_C (L := y.L) (cls := kq) hy.1.1 rfl hy.1.2 rfl hX.1 rfl hX.2.1 (fun x hx => ⟨(hX.2.2 x hx).1, by have := (hX.2.2 x hx).2.1; omega, (hX.2.2 x hx).2.2⟩) hY.1 rfl  w0 _) ?_
         rintro _ R11 _ hR11 ⟨rfl, hsub6⟩
         refine WL.subE hsub6 ?_
         unfold devV
         generalize measL backC y.L kq (X.xs.map CvS.cv) Y.xs = q3
         have hX := hX.mono hR11
         have hy := hy.mono hR11
         have hb17 := hR11 _ _ hb17
         have hY : RS R11 2 encZ Y.a Y.xs ∧ Y.xs.length ≤ Y.cap := ⟨hY.1.mono hR11, hY.2⟩
         refine zR 3 rfl ?_
         refine zE 0 ?_
         refine zR 1 rfl (zN (zU (zQ (zQ (zG ?_)))))
         refine yB 1 ?_
         refine yB 0 ?_
         refine WG.y rfl rfl qD (Yl.neTrio trio51 rfl rfl rfl (fun _ => rfl)) ?_
         refine zR 1 rfl ?_
         refine yP ?_
         refine yP ?_
         refine yP ?_
         refine yO ?_
         refine zN (zU ?_)
         refine cC rfl ?_ ?_ <;> intro hc7
         ·try simp only [zk] at hc7
          (simp at hc7; done)
         ·try simp only [zk] at hc7
          refine zK (zU (zQ (zG ?_)))
          refine yD (r := by exact Rd.ro hb17) (k := ?_)
          refine zR 3 rfl ?_
          refine WL.call en23 rfl rfl qD (CallOp.mkT rfl rfl rfl rfl) (PeakSrv_C (L := y.L) (cls := kq) hy.1.1 rfl hy.1.2 rfl hX.1 rfl hX.2.1 (fun x hx => ⟨(hX.2.2 x hx).1, by have := (hX.2.2 x hx).2.1; omega⟩) hY.1 rfl hY.2 hy.2 w0 _) ?_
          rintro _ R12 _ hR12 ⟨rfl, hsub7⟩
          refine WL.subE hsub7 ?_
          unfold devV
          have hX := hX.mono hR12
          have hy := hy.mono hR12
          have hb17 := hR12 _ _ hb17
          have hY : RS R12 2 encZ Y.a Y.xs ∧ Y.xs.length ≤ Y.cap := ⟨hY.1.mono hR12, hY.2⟩
          refine zR 3 rfl ?_
          refine zE 1 ?_
          refine zR 1 rfl (zN (zU (zQ (zG ?_))))
          refine yD (r := by exact Rd.ro hb17) (k := ?_)
          refine zR 3 rfl ?_
          refine WL.call en24 rfl rfl qD (CallOp.mkT rfl rfl rfl rfl) (Peak22_C (L := y.L) (cls := kq) hy.1.1 rfl hy.1.2 rfl hX.1 rfl hX.2.1 (fun x hx => ⟨(hX.2.2 x hx).1, by have := (hX.2.2 x hx).2.1; omega, (hX.2.2 x hx).2.2⟩) hY.1 rfl  w0 _) ?_
          rintro _ R13 _ hR13 ⟨rfl, hsub8⟩
          refine WL.subE hsub8 ?_
          unfold devV
          generalize measL peakC y.L kq (X.xs.map CvS.cv) Y.xs = q4
          have hX := hX.mono hR13
          have hy := hy.mono hR13
          have hb17 := hR13 _ _ hb17
          have hY : RS R13 2 encZ Y.a Y.xs ∧ Y.xs.length ≤ Y.cap := ⟨hY.1.mono hR13, hY.2⟩
          refine zR 3 rfl ?_
          refine zE 0 ?_
          refine zR 1 rfl (zN (zU (zQ (zG ?_))))
          refine yB 1 ?_
          refine yB 0 ?_
          refine WG.y rfl rfl qD (Yl.neTrio trio51 rfl rfl rfl (fun _ => rfl)) ?_
          refine zR 1 rfl ?_
          refine yP ?_
          refine yP ?_
          refine yP ?_
          refine yO ?_
          refine zN (zU ?_)
          refine cC rfl ?_ ?_ <;> intro hc8
          ·try simp only [zk] at hc8
           (simp at hc8; done)
          ·try simp only [zk] at hc8
           refine zK (zL (zU (zG ?_)))
           refine yA ?_
           refine zR 1 rfl (zN ?_)
           refine WE.again ((k + 1, cnc + 1, R13)) (⟨by (try dsimp only); omega, hRk2.trans (hR5.trans (hR6.trans (hR7.trans (hR8.trans (hR10.trans (hR11.trans (hR12.trans hR13)))))))⟩) (by (try dsimp only); omega) ⟨rfl, rfl, rfl, rfl, rfl, rfl, rfl, rfl, rfl, rfl, rfl, rfl, rfl, rfl, rfl, rfl, rfl, rfl⟩ (RLe.refl _) qS
      ·
       refine zX ?_
       refine wx (wx (zY (zL (zU (zG ?_)))))
       refine yA ?_
       refine zR 1 rfl (zN ?_)
       refine WE.again ((i + 1, cnc, Rk2)) (⟨by (try dsimp only); omega, hRk1.trans (hRa.trans (hRc.trans hRk2))⟩) (by (try dsimp only); omega) ⟨rfl, rfl, rfl, rfl, rfl, rfl, rfl, rfl, rfl, rfl, rfl, rfl, rfl, rfl⟩ (RLe.refl _) qS
     ·
      refine zX ?_
      refine wx (wx (zY (zL (zU (zG ?_)))))
      refine yA ?_
      refine zR 1 rfl (zN ?_)
      refine WE.again ((j + 1, cnb, Rk1)) (⟨by (try dsimp only); omega, hRk.trans (hR17.trans (hRq.trans hRk1))⟩) (by (try dsimp only); omega) ⟨rfl, rfl, rfl, rfl, rfl, rfl, rfl, rfl, rfl, rfl⟩ (RLe.refl _) qS
    ·
     refine W.regionH _ (ES := []) mixed ?_
     refine tP 0 ?_
     refine tP 1 ?_
     refine tP 2 ?_
     refine WA.take 3 rfl qK qK qK rfl rfl qD (Yl.index tab_ok rfl rfl rfl rfl rfl rfl (fun _ => rfl) (by intro _; constructor <;> decide) qH) qS qR ?_
     refine tD 4 (r := by exact RS.rdD hal (by show 0 < 3; decide)) (k := ?_)
     refine tP 5 ?_
     refine tP 6 ?_
     refine WA.take 7 rfl qK qK qK rfl rfl qD (Yl.index tab_ok rfl rfl rfl rfl rfl rfl (fun _ => rfl) (by intro _; constructor <;> decide) qH) qS qR ?_
     refine tD 8 (r := by exact RS.rdD hal (by show 1 < 3; decide)) (k := ?_)
     refine tP 10 ?_
     refine WA.take 11 rfl qK qK qK rfl rfl qD (Yl.index tab_ok rfl rfl rfl rfl rfl rfl (fun _ => rfl) (by intro _; constructor <;> decide) qH) qS qR ?_
     refine tD 12 (r := by exact RS.rdD hal (by show 2 < 3; decide)) (k := ?_)
     refine tP 14 ?_
     refine tP 15 ?_
     refine tP 20 ?_
     refine WA.callAt 0 9 rfl qK en12 rfl rfl qD (CallOp.mkT rfl rfl rfl rfl) rfl (Bent_C w0 hz hs2.valid hf2 _) ?_
     rintro _ R14 _ _ hR14 ⟨f4, k4, n4, v4, rfl, hf4, hl4, hcp4, rfl, rfl⟩
     have hls := hls.mono hR14
     have hsz := hsz.mono hR14
     have hz := hz.mono hR14
     have hf1 := hf1.mono hR14
     have hf2 := hf2.mono hR14
     have hf3 := hf3.mono hR14
     have hal := hal.mono hR14
     have hzz := hzz.mono hR14
     have hy := hy.mono hR14
     have hoi : ∀ x ∈ ls, RS R14 1 encI x.a x.cv.vals ∧ x.cv.vals.length ≤ x.cap := fun x hx => ⟨(hoi x hx).1.mono hR14, (hoi x hx).2⟩
     have hb17 := hR14 _ _ hb17
     refine ⟨hR14, qS, ?_⟩
     refine WA.br2 (i := 13) (j := 16) qK ?_ ?_
     ·
      refine WS.eff rfl rfl rfl qD (Ef.buildSliceD (enc := encC) (parts := [.tmp 89, .tmp 94, .tmp 97]) [(⟨f1, k1, v1⟩ : CvS), ⟨f4, k4, v4⟩, ⟨f3, k3, v3⟩] tab_ok rfl rfl rfl rfl rfl rfl rfl rfl qD qD (fun a98 => ?_))
      refine ⟨qR, qS, ?_⟩
      refine WA.callAt 1 16 rfl qK en13 rfl rfl qD (CallOp.mkT rfl rfl rfl rfl) rfl (N_C w0 hz (by constructor <;> decide) _) ?_
      rintro _ _ _ _ - ⟨rfl, rfl, rfl, rfl⟩
      obtain ⟨m, hm, hm3⟩ : ∃ m : Nat, mod (nth (xs.take 2000) n4) 3 = ((([⟨f1, k1, v1⟩, ⟨f2, k2, v2⟩, ⟨f3, k3, v3⟩] : List CvS).take m).length : Int) ∧ (([⟨f1, k1, v1⟩, ⟨f2, k2, v2⟩, ⟨f3, k3, v3⟩] : List CvS).take m).length ≤ 3 := by
       have := mod_range (nth (xs.take 2000) n4) (show (1 : Int) ≤ 3 by decide)
       refine ⟨(mod (nth (xs.take 2000) n4) 3).toNat, ?_, by rw [List.length_take]; exact Nat.min_le_right _ _⟩
       rw [List.length_take]
       simp only [List.length_cons, List.length_nil]
       omega
      rw [hm]
      refine ⟨qR, qS, ?_⟩
      refine WA.take 17 rfl qK qK qK rfl rfl qD (Yl.sliceH tab_ok rfl rfl rfl rfl rfl (fun _ => rfl) (by intro _; omega) rfl) qS qR ?_
      refine WA.eff 18 rfl qK rfl rfl qD (Ef.buildSliceD (enc := encSl (α := CvS)) (parts := [.tmp 85, .tmp 86, .tmp 98, .tmp 102]) [(⟨some ⟨a70, 0, none⟩, 3, ([⟨f1, k1, v1⟩, ⟨f2, k2, v2⟩, ⟨f3, k3, v3⟩] : List CvS)⟩ : SlA CvS), ⟨la, lc, ls⟩, ⟨some ⟨a98, 0, none⟩, 3, ([⟨f1, k1, v1⟩, ⟨f4, k4, v4⟩, ⟨f3, k3, v3⟩] : List CvS)⟩, ⟨some ⟨a70, 0, none⟩, 3, ([⟨f1, k1, v1⟩, ⟨f2, k2, v2⟩, ⟨f3, k3, v3⟩] : List CvS).take m⟩] tab_ok rfl rfl rfl rfl rfl rfl rfl rfl qD qD (fun a103 => ?_))
      refine ⟨qR, qS, ?_⟩
      refine tP 19 ?_
      refine WA.done qK ?_
      refine WE.freeze (enc := encC) (xs := ([⟨f1, k1, v1⟩, ⟨f4, k4, v4⟩, ⟨f3, k3, v3⟩] : List CvS)) 1 rfl ?_
      intro R4b hR4b hab
      refine WE.freeze (enc := encSl (α := CvS)) (xs := ([⟨some ⟨a70, 0, none⟩, 3, ([⟨f1, k1, v1⟩, ⟨f2, k2, v2⟩, ⟨f3, k3, v3⟩] : List CvS)⟩, ⟨la, lc, ls⟩, ⟨some ⟨a98, 0, none⟩, 3, ([⟨f1, k1, v1⟩, ⟨f4, k4, v4⟩, ⟨f3, k3, v3⟩] : List CvS)⟩, ⟨some ⟨a70, 0, none⟩, 3, ([⟨f1, k1, v1⟩, ⟨f2, k2, v2⟩, ⟨f3, k3, v3⟩] : List CvS).take m⟩] : List (SlA CvS))) 0 rfl ?_
      intro Rp hRp htx0
      have hR4p := hR4b.trans hRp
      have hab := hab.mono hRp
      have hls := hls.mono hR4p
      have hsz := hsz.mono hR4p
      have hz := hz.mono hR4p
      have hf1 := hf1.mono hR4p
      have hf2 := hf2.mono hR4p
      have hf3 := hf3.mono hR4p
      have hal := hal.mono hR4p
      have hf4 := hf4.mono hR4p
      have hoi : ∀ x ∈ ls, RS Rp 1 encI x.a x.cv.vals ∧ x.cv.vals.length ≤ x.cap := fun x hx => ⟨(hoi x hx).1.mono hR4p, (hoi x hx).2⟩
      have hRR := hR14.trans hR4p
      have y1 := valid_range hs1.valid
      have y2 := valid_range hs2.valid
      have y3 := valid_range hs3.valid
      have o1 : OkC Rp ⟨f1, k1, v1⟩ := ⟨hf1, by (try dsimp only); omega, hcp1⟩
      have o2 : OkC Rp ⟨f2, k2, v2⟩ := ⟨hf2, by (try dsimp only); omega, hcp2⟩
      have o3 : OkC Rp ⟨f3, k3, v3⟩ := ⟨hf3, by (try dsimp only); omega, hcp3⟩
      have o4 : OkC Rp ⟨f4, k4, v4⟩ := ⟨hf4, by (try dsimp only); omega, hcp4⟩
      have oal : ∀ x ∈ ([⟨f1, k1, v1⟩, ⟨f2, k2, v2⟩, ⟨f3, k3, v3⟩] : List CvS), OkC Rp x := by
       simp only [List.mem_cons, List.not_mem_nil, or_false, forall_eq_or_imp, forall_eq]
       exact ⟨o1, o2, o3⟩
      refine WE.cut (([⟨some ⟨a70, 0, none⟩, 3, ([⟨f1, k1, v1⟩, ⟨f2, k2, v2⟩, ⟨f3, k3, v3⟩] : List CvS)⟩, ⟨la, lc, ls⟩, ⟨some ⟨a98, 0, none⟩, 3, ([⟨f1, k1, v1⟩, ⟨f4, k4, v4⟩, ⟨f3, k3, v3⟩] : List CvS)⟩, ⟨some ⟨a70, 0, none⟩, 3, ([⟨f1, k1, v1⟩, ⟨f2, k2, v2⟩, ⟨f3, k3, v3⟩] : List CvS).take m⟩] : List (SlA CvS)), n4 + 1, Rp, a103) ⟨htx0, rfl, ?_, hRR⟩ ⟨rfl, rfl, rfl, rfl, rfl, rfl, rfl, rfl, rfl, rfl, rfl, rfl, rfl, rfl⟩ (RLe.refl _) qS
      simp only [List.mem_cons, List.not_mem_nil, or_false, forall_eq_or_imp, forall_eq]
      refine ⟨⟨hal, Nat.le_refl _, oal⟩, ⟨hls, hlc, fun x hx => ⟨(hoi x hx).1, by have := hsm x hx; omega, (hoi x hx).2⟩⟩, ⟨hab, Nat.le_refl _, ?_⟩, ⟨hal.take m, by rw [List.length_take]; exact Nat.le_trans (Nat.min_le_right _ _) (Nat.le_refl _), fun x hx => oal x (List.mem_of_mem_take hx)⟩⟩
      simp only [List.mem_cons, List.not_mem_nil, or_false, forall_eq_or_imp, forall_eq]
      exact ⟨o1, o4, o3⟩
     ·
      refine WS.callAt 0 rfl en13 rfl rfl qD (CallOp.mkT rfl rfl rfl rfl) rfl (N_C w0 hz (by constructor <;> decide) _) ?_
      rintro _ _ _ _ - ⟨rfl, rfl, rfl, rfl⟩
      obtain ⟨m, hm, hm3⟩ : ∃ m : Nat, mod (nth (xs.take 2000) n4) 3 = ((([⟨f1, k1, v1⟩, ⟨f2, k2, v2⟩, ⟨f3, k3, v3⟩] : List CvS).take m).length : Int) ∧ (([⟨f1, k1, v1⟩, ⟨f2, k2, v2⟩, ⟨f3, k3, v3⟩] : List CvS).take m).length ≤ 3 := by
       have := mod_range (nth (xs.take 2000) n4) (show (1 : Int) ≤ 3 by decide)
       refine ⟨(mod (nth (xs.take 2000) n4) 3).toNat, ?_, by rw [List.length_take]; exact Nat.min_le_right _ _⟩
       rw [List.length_take]
       simp only [List.length_cons, List.length_nil]
       omega
      rw [hm]
      refine ⟨qR, qS, ?_⟩
      refine WA.take 17 rfl qK qK qK rfl rfl qD (Yl.sliceH tab_ok rfl rfl rfl rfl rfl (fun _ => rfl) (by intro _; omega) rfl) qS qR ?_
      refine WA.eff 13 rfl qK rfl rfl qD (Ef.buildSliceD (enc := encC) (parts := [.tmp 89, .tmp 94, .tmp 97]) [(⟨f1, k1, v1⟩ : CvS), ⟨f4, k4, v4⟩, ⟨f3, k3, v3⟩] tab_ok rfl rfl rfl rfl rfl rfl rfl rfl qD qD (fun a98 => ?_))
      refine ⟨qR, qS, ?_⟩
      refine WA.eff 18 rfl qK rfl rfl qD (Ef.buildSliceD (enc := encSl (α := CvS)) (parts := [.tmp 85, .tmp 86, .tmp 98, .tmp 102]) [(⟨some ⟨a70, 0, none⟩, 3, ([⟨f1, k1, v1⟩, ⟨f2, k2, v2⟩, ⟨f3, k3, v3⟩] : List CvS)⟩ : SlA CvS), ⟨la, lc, ls⟩, ⟨some ⟨a98, 0, none⟩, 3, ([⟨f1, k1, v1⟩, ⟨f4, k4, v4⟩, ⟨f3, k3, v3⟩] : List CvS)⟩, ⟨some ⟨a70, 0, none⟩, 3, ([⟨f1, k1, v1⟩, ⟨f2, k2, v2⟩, ⟨f3, k3, v3⟩] : List CvS).take m⟩] tab_ok rfl rfl rfl rfl rfl rfl rfl rfl qD qD (fun a103 => ?_))
      refine ⟨qR, qS, ?_⟩
      refine tP 19 ?_
      refine WA.done qK ?_
      refine WE.freeze (enc := encC) (xs := ([⟨f1, k1, v1⟩, ⟨f4, k4, v4⟩, ⟨f3, k3, v3⟩] : List CvS)) 1 rfl ?_
      intro R4b hR4b hab
      refine WE.freeze (enc := encSl (α := CvS)) (xs := ([⟨some ⟨a70, 0, none⟩, 3, ([⟨f1, k1, v1⟩, ⟨f2, k2, v2⟩, ⟨f3, k3, v3⟩] : List CvS)⟩, ⟨la, lc, ls⟩, ⟨some ⟨a98, 0, none⟩, 3, ([⟨f1, k1, v1⟩, ⟨f4, k4, v4⟩, ⟨f3, k3, v3⟩] : List CvS)⟩, ⟨some ⟨a70, 0, none⟩, 3, ([⟨f1, k1, v1⟩, ⟨f2, k2, v2⟩, ⟨f3, k3, v3⟩] : List CvS).take m⟩] : List (SlA CvS))) 0 rfl ?_
      intro Rp hRp htx0
      have hR4p := hR4b.trans hRp
      have hab := hab.mono hRp
      have hls := hls.mono hR4p
      have hsz := hsz.mono hR4p
      have hz := hz.mono hR4p
      have hf1 := hf1.mono hR4p
      have hf2 := hf2.mono hR4p
      have hf3 := hf3.mono hR4p
      have hal := hal.mono hR4p
      have hf4 := hf4.mono hR4p
      have hoi : ∀ x ∈ ls, RS Rp 1 encI x.a x.cv.vals ∧ x.cv.vals.length ≤ x.cap := fun x hx => ⟨(hoi x hx).1.mono hR4p, (hoi x hx).2⟩
      have hRR := hR14.trans hR4p
      have y1 := valid_range hs1.valid
      have y2 := valid_range hs2.valid
      have y3 := valid_range hs3.valid
      have o1 : OkC Rp ⟨f1, k1, v1⟩ := ⟨hf1, by (try dsimp only); omega, hcp1⟩
      have o2 : OkC Rp ⟨f2, k2, v2⟩ := ⟨hf2, by (try dsimp only); omega, hcp2⟩
      have o3 : OkC Rp ⟨f3, k3, v3⟩ := ⟨hf3, by (try dsimp only); omega, hcp3⟩
      have o4 : OkC Rp ⟨f4, k4, v4⟩ := ⟨hf4, by (try dsimp only); omega, hcp4⟩
      have oal : ∀ x ∈ ([⟨f1, k1, v1⟩, ⟨f2, k2, v2⟩, ⟨f3, k3, v3⟩] : List CvS), OkC Rp x := by
       simp only [List.mem_cons, List.not_mem_nil, or_false, forall_eq_or_imp, forall_eq]
       exact ⟨o1, o2, o3⟩
      refine WE.cut (([⟨some ⟨a70, 0, none⟩, 3, ([⟨f1, k1, v1⟩, ⟨f2, k2, v2⟩, ⟨f3, k3, v3⟩] : List CvS)⟩, ⟨la, lc, ls⟩, ⟨some ⟨a98, 0, none⟩, 3, ([⟨f1, k1, v1⟩, ⟨f4, k4, v4⟩, ⟨f3, k3, v3⟩] : List CvS)⟩, ⟨some ⟨a70, 0, none⟩, 3, ([⟨f1, k1, v1⟩, ⟨f2, k2, v2⟩, ⟨f3, k3, v3⟩] : List CvS).take m⟩] : List (SlA CvS)), n4 + 1, Rp, a103) ⟨htx0, rfl, ?_, hRR⟩ ⟨rfl, rfl, rfl, rfl, rfl, rfl, rfl, rfl, rfl, rfl, rfl, rfl, rfl, rfl⟩ (RLe.refl _) qS
      simp only [List.mem_cons, List.not_mem_nil, or_false, forall_eq_or_imp, forall_eq]
      refine ⟨⟨hal, Nat.le_refl _, oal⟩, ⟨hls, hlc, fun x hx => ⟨(hoi x hx).1, by have := hsm x hx; omega, (hoi x hx).2⟩⟩, ⟨hab, Nat.le_refl _, ?_⟩, ⟨hal.take m, by rw [List.length_take]; exact Nat.le_trans (Nat.min_le_right _ _) (Nat.le_refl _), fun x hx => oal x (List.mem_of_mem_take hx)⟩⟩
      simp only [List.mem_cons, List.not_mem_nil, or_false, forall_eq_or_imp, forall_eq]
      exact ⟨o1, o4, o3⟩
   ·
    refine zX ?_
    refine wx (wx (zY (zU (zQ (zG ?_)))))
    refine WL.call en5 rfl rfl qD (CallOp.mkT rfl rfl rfl rfl) (AwakeC_C w0 _) ?_
    rintro _ R9 E9 hR9 ⟨rfl, hsub9⟩
    refine WL.subE hsub9 ?_
    refine zR 1 rfl (zN (zU (zT ?_)))
    refine zq1 (by first | exact RLe.refl _ | assumption | exact hR0.trans (hR04.trans (hRk.trans hR9)) | exact hR0.trans hR9) ?_
    exact rfl
 ·
  refine zQ (zG (zR 4 rfl ?_))
  refine yP ?_
  refine yP ?_
  refine yP ?_
  refine yO ?_
  refine zN (zU ?_)
  refine cC rfl ?_ ?_ <;> intro hc9
  ·try simp only [zk] at hc9
   refine W.regionQ _ mixed qK ?_
   refine zR 4 rfl ?_
   obtain ⟨k1, hk1, hk1l⟩ : ∃ k : Nat, (if (8 : Int) < (ls.length : Int) then (8 : Int) else (ls.length : Int)) = (k : Int) ∧ k ≤ ls.length ∧ k ≤ 8 := by
    split
    ·exact ⟨8, rfl, by omega, by omega⟩
    ·exact ⟨ls.length, rfl, by omega, by omega⟩
   rw [hk1]
   refine WG.y rfl rfl qD (Yl.sliceH tab_ok rfl rfl rfl rfl rfl (fun _ => rfl) (by intro _; (constructor <;> omega)) rfl) ?_
   refine zR 4 rfl ?_
   obtain ⟨k2, hk2, hk2l⟩ : ∃ k : Nat, (if (8 : Int) < (sizes.length : Int) then (8 : Int) else (sizes.length : Int)) = (k : Int) ∧ k ≤ sizes.length ∧ k ≤ 8 := by
    split
    ·exact ⟨8, rfl, by omega, by omega⟩
    ·exact ⟨sizes.length, rfl, by omega, by omega⟩
   rw [hk2]
   refine WG.y rfl rfl qD (Yl.sliceH tab_ok rfl rfl rfl rfl rfl (fun _ => rfl) (by intro _; (constructor <;> omega)) rfl) ?_
   refine zR 2 rfl (zN ?_)
   refine WE.cut (ls.take k1, sizes.take k2) ⟨hls.take k1, by rw [List.length_take]; omega, fun x hx => hoi x (List.mem_of_mem_take hx), hsz.take k2, by rw [List.length_take]; omega, by rw [List.length_take]; omega, by rw [List.length_take]; omega⟩ ⟨(by rw [List.length_take, Nat.min_eq_left (by omega)]; rfl), (by rw [List.length_take, Nat.min_eq_left (by omega)]; rfl), rfl, rfl, rfl, rfl⟩ (RLe.refl _) qS
  ·try simp only [zk] at hc9
   refine zK ?_
   refine WE.cut (ls, sizes) ⟨hls, hlc, hoi, hsz, hsc, by omega, by omega⟩ ⟨rfl, rfl, rfl, rfl, rfl, rfl⟩ (RLe.refl _) qS
end Go.Proofs.YtaoakchgjgmedaaGreat
namespace Go.Proofs.YtaoakchgjgmedaaGreat
open Go Go.RowKit Go.ChangeShapes Go.WideShapes Go.ChangeAt Go.WideElems Go.Maps Go.Proofs.YtaoakchgjgmedaaGreat.K Go.Proofs.YtaoakchgjgmedaaGreat.M
namespace serverCurves
theorem own : ownKnob Tryz.prog.godebug = none := by kernel_rfl
theorem laidOut : laidOutB Tryz.prog = true := by kernel_rfl
theorem readable : (Tryz.f3.params.toList).all (fun t => Tryz.prog.readableRec t && decide (t < Tryz.prog.types.size)) = true := by kernel_rfl
theorem cellsI : Tryz.prog.cellsOf 3 = 1 := by kernel_rfl
section
variable {H : Type} {enc : TypeId × Value → H}
theorem flat_sizes : Flat enc Tryz.prog 56 2 := flat_struct Tryz.underlying56 (by kernel_rfl) (by
 intro j f hf
 match j, hf with
 | 0, hf => obtain rfl : _ = f := Option.some.inj hf; exact ⟨rfl, by kernel_rfl, Tryz.underlying3⟩
 | 1, hf => obtain rfl : _ = f := Option.some.inj hf; exact ⟨rfl, by kernel_rfl, Tryz.underlying3⟩
 | j + 2, hf => simp at hf)
theorem cells_sizes : Tryz.prog.cellsOf 56 = 2 := by kernel_rfl
theorem flat_ints : Flat enc Tryz.prog 3 1 := flat_int Tryz.underlying3
theorem cells_ints : Tryz.prog.cellsOf 3 = 1 := by kernel_rfl
theorem opn_cv : Opn enc Tryz.prog 29 3 encC OkI := opn_curve Tryz.underlying29 (by kernel_rfl) rfl rfl rfl (by kernel_rfl) (by kernel_rfl) rfl rfl rfl Tryz.underlying22 Tryz.underlying3
theorem opn_ln : Opn enc Tryz.prog 24 5 encLn OkLc := opn_lineC Tryz.underlying24 (by kernel_rfl) rfl rfl rfl rfl rfl (by kernel_rfl) (by kernel_rfl) rfl rfl rfl rfl rfl Tryz.underlying22 Tryz.underlying3
theorem opn_cvs : Opn enc Tryz.prog 25 1 (encSl (α := CvS)) (fun R s => RS R 3 encC s.a s.xs ∧ s.xs.length ≤ s.cap ∧ ∀ x ∈ s.xs, OkI R x) := opn_slice Tryz.underlying25 (by decide) (by kernel_rfl) opn_cv
end
set_option maxRecDepth 100000 in
theorem lifted (os : Os) (started : os.Started) (H : Type) (enc : TypeId × Value → H) :
  ReturnsInHanded {} Tryz.checked os 3 .any (Rows.serverCurvesSpec.pre6 enc Tryz.prog Tryz.f3 Rows.serverCurvesRow.domain false) (Rows.serverCurvesSpec.post enc Tryz.prog Tryz.f3 false true false false) := by
 refine returnsInHanded_of_change (C := Tryz.checked) own started (by kernel_rfl) Tryz.func3
  (ChangeSpec.witness6 (enc := enc) (C := Tryz.checked) false ⟨#[], #[.agg #[.int .i64 0, .int .i64 0, .int .i64 0, .slice none 0 0, .slice none 0 0], .slice none 0 0, .slice none 0 0, .int .i64 0, .slice none 0 0], []⟩ 8 (by kernel_rfl) (by kernel_rfl) (by kernel_rfl) (by kernel_rfl)) ?_
 intro W base args ds gs before hval0 hW _ _
 have hval : ∀ (j : Nat) t v, Tryz.f3.params[j]? = some t → args[j]? = some v → Value.okWide Tryz.prog W .any base t v := hval0
 have hW' := hW
 obtain ⟨p, q, hA0, hV, rfl, _, _⟩ := hW
 have hA : DataW.TrodAll enc Tryz.prog W 0 (fun _ => true) true Tryz.f3.params.toList args.toList ds p := hA0
 have hA1 := hA
 obtain ⟨rfl, rfl⟩ := trodVars_none hV
 simp only [List.append_nil] at hW'
 have hlt : ∀ x ∈ p, x.block < W.heap.size := fun x hx => by simpa using hW'.lt x hx
 have hcarry : ∀ W', Below W.heap.size W W' → DataW.TrodAll enc Tryz.prog W' 0 (fun b => decide (b < W.heap.size)) true Tryz.f3.params.toList args.toList ds p := fun W' hb => carryAll laidOut readable hA1 hb hlt
 clear hA0 hval0 hA1
 rw [Tryz.params3] at hA
 obtain ⟨v0, vs0, d0, ds0, p0, q0, e0, rfl, e20, h0, t0⟩ := trodAll_cons hA
 obtain ⟨v1, vs1, d1, ds1, p1, q1, rfl, rfl, e21, h1, t1⟩ := trodAll_cons t0
 obtain ⟨v2, vs2, d2, ds2, p2, q2, rfl, rfl, e22, h2, t2⟩ := trodAll_cons t1
 obtain ⟨v3, vs3, d3, ds3, p3, q3, rfl, rfl, e23, h3, t3⟩ := trodAll_cons t2
 obtain ⟨v4, vs4, d4, ds4, p4, q4, rfl, rfl, e24, h4, t4⟩ := trodAll_cons t3
 obtain ⟨rfl, rfl, _⟩ := trodAll_nil t4
 have hargs : args = #[v0, v1, v2, v3, v4] := by rw [← Array.toArray_toList (xs := args), e0]
 subst hargs
 obtain ⟨s0, rfl, k0⟩ := opn_ln.top Tryz.underlying24 (hval 0 24 _ rfl rfl) h0
 obtain ⟨s1, rfl, k1⟩ := opn_cvs.topS Tryz.underlying25 (hval 1 25 _ rfl rfl) h1
 obtain ⟨a2, cp2, zs2, rfl, c2, l2, m2, r2⟩ := open_flat Tryz.underlying26 (by decide) cells_sizes flat_sizes (hval 2 26 _ rfl rfl) h2
 have g2 : RS (roOf W) 2 encZ a2 (zs2.map decZ) := RS.ofFlat m2 l2 decZ_enc
 have n2 : (zs2.map decZ).length = zs2.length := by simp
 rw [← n2] at c2
 obtain ⟨z3, rfl, _, _, w3⟩ := open_int Tryz.underlying3 (hval 3 3 _ rfl rfl) h3
 have r3 : InR z3 := bounds_i64 w3
 obtain ⟨a4, cp4, zs4, rfl, c4, l4, m4, r4⟩ := open_flat Tryz.underlying22 (by decide) cells_ints flat_ints (hval 4 22 _ rfl rfl) h4
 have g4 : RS (roOf W) 1 encI a4 (zs4.map decI) := RS.ofFlat m4 l4 decI_enc
 have n4 : (zs4.map decI).length = zs4.length := by simp
 rw [← n4] at c4
 have hcall := lift_calls (P := Tryz.prog) (f := 3) (args := [.agg #[.int .i64 s0.L.kind, .int .i64 s0.L.cap, .int .i64 s0.L.n, .slice s0.a1 s0.L.w.length s0.c1, .slice s0.a2 s0.L.tb.length s0.c2], .slice s1.a s1.xs.length s1.cap, .slice a2 (zs2.map decZ).length cp2, .int .i64 z3, .slice a4 (zs4.map decI).length cp4]) (W := W) (ServerCurves_F k0 k1.1 k1.2.1 (fun x hx => ⟨(k1.2.2 x hx).1, (k1.2.2 x hx).2.1⟩) g2 c2 g4 c4 W)
 simp only [List.length_map] at hcall
 refine hcall.mono fun e W' ⟨he, hb⟩ => ?_
 subst he
 exact ⟨_, rfl, ⟨_, _, _, [], _, [], hW', trodAll_mk1 (shut_bool Tryz.underlying4 _), hcarry W' hb, rfl, hb.frame _, fun h => by cases h⟩⟩
end serverCurves
theorem serverCurves_holds : Rows.ServerCurvesSaid :=
 OpenClaim.holds_of_wide 3 Tryz.f3 rfl rfl rfl rfl rfl rfl rfl ⟨rfl, rfl, rfl, rfl, rfl⟩ rfl rfl rfl rfl rfl (by kernel_rfl) Tryz.func3 (by kernel_rfl)
  (of_decide_eq_true (by kernel_rfl)) (by unfold Func.isWrapper; first | (rw [if_pos (by decide +kernel)]; kernel_rfl) | (rw [if_neg (by decide +kernel)]; exact ⟨rfl, rfl⟩))
  (fun os started H enc _ => serverCurves.lifted os started H enc)
end Go.Proofs.YtaoakchgjgmedaaGreat