/- TopGreedy: for every input the law returns true, and the input reads afterwards as it read before. No condition. -/
import Derived.Test.YtehaepbflkncdaaGreatG6
set_option linter.unusedSimpArgs false
set_option linter.unusedVariables false
set_option linter.unnecessarySimpa false
set_option maxRecDepth 4000
set_option linter.unusedSimpArgs false
set_option linter.unusedVariables false
namespace Go.Proofs.YtehaepbflkncdaaGreat
open Go Go.RowKit Go.Proofs.YtehaepbflkncdaaGreat.K Go.Proofs.YtehaepbflkncdaaGreat.M
theorem cvF_nonneg {c : Cv} (hv : validB c = true) (hfi : finB c = true) (t : Nat) : 0 ≤ cvF c t := by
 rcases valid_cases hv with ⟨S, P, _, _, _, hf, _⟩ | ⟨n, _, _, _, _, _, _, hfb⟩
 ·exact hf.nonneg t
 ·rw [hfb] at hfi; cases hfi
theorem GreedyC_C {R : Ro} {c : Cv} {fa : Option Addr} {fc : Nat} (hv : validB c = true) (hfi : finB c = true) (hfa : RS R 1 encI fa c.vals) {size offset count : Int} (hsz : 1 ≤ size ∧ size ≤ 1500) (hof : 0 ≤ offset ∧ offset ≤ 200) (hcn : 0 ≤ count ∧ count ≤ 60) (w0 : World) (E : List Ent) : K.Fn Tryz.prog 28 [.agg #[.slice fa c.vals.length fc, .int .i64 c.per, .int .i64 c.inc], .int .i64 size, .int .i64 offset, .int .i64 count] w0 R E (fun v R' E' => ∃ (a : Option Addr) (k : Nat) (l : List Int), v = .tuple #[.slice a l.length k, .int .i64 0] ∧ RS R' 1 encI a l ∧ Gd (cvF c) size l ∧ (l.length : Int) ≤ count ∧ E.Sublist E') := by
 rcases valid_cases hv with ⟨S, P, hcc, hcl, hcp, hf, hfb⟩ | ⟨n, _, _, _, _, _, _, hfb⟩
 ·have hcv : c.vals = fvals (cvF c) (S + P) := congrArg Cv.vals hcc
  rw [hcp]
  rw [hcv] at hfa ⊢
  exact Greedy_C hf hfa hsz hof hcn w0 E
 ·rw [hfb] at hfi; cases hfi
set_option maxHeartbeats 4000000 in
theorem Build37_C {R : Ro} {na la fa : Option Addr} {nc lc fc : Nat} {names : List (List UInt8)} {ms : List LnM} {fs : List FlM} (hna : K.RS R 1 encT na names) (hla : K.RS R 5 encLn la ms) (hfa : K.RS R 8 encFl fa fs) (hokn : ∀ m ∈ ms, OkLn R m) (hof : ∀ m ∈ fs, OkFl R m) (hnl : ∀ x ∈ names, x.length ≤ 9223372036854775807) (hck : chkNet names (ms.map (·.L)) (fs.map (·.f)) = 0) (hcvs : ∀ m ∈ fs, validB m.f.cv = true ∧ finB m.f.cv = true ∧ 1 ≤ m.f.hi ∧ m.f.hi ≤ 1500) (hf8 : fs.length ≤ 8) {oa ca : Option Addr} {oc cc : Nat} {offs cnts : List Int} (hoa : RS R 1 encI oa offs) (hca : RS R 1 encI ca cnts) (hol : offs.length = fs.length) (hcl : cnts.length = fs.length) (hob : ∀ y ∈ offs, 0 ≤ y ∧ y ≤ 200) (hcb : ∀ y ∈ cnts, 0 ≤ y ∧ y ≤ 6) (w0 : World) (E : List Ent) : K.Fn Tryz.prog 10 [.agg #[.slice na names.length nc, .slice la ms.length lc, .slice fa fs.length fc], .slice oa offs.length oc, .slice ca cnts.length cc] w0 R E (fun v R' E' => ∃ (a : Option Addr) (k : Nat) (ps : List Pkt), v = .tuple #[.slice a ps.length k, .int .i64 0] ∧ RS R' 3 encP a ps ∧ BI fs fs.length ps ∧ ps.length ≤ 60 ∧ E.Sublist E') := by
 have hlf := hfa.len
 have hcvp := fun (k : Nat) (hk : k < fs.length) (t : Nat) => cvF_nonneg (hcvs _ (nth_mem hk)).1 (hcvs _ (nth_mem hk)).2.1 t
 refine fE 123 Tryz.func10 ?_
 refine zQ (zG ?_)
 refine zO fun b3 => ?_
 refine zR 2 rfl (zN (zU (zQ (zQ (zG ?_)))))
 refine yD (r := by (first | exact Rd.blk 0 rfl | exact Rd.blk 1 rfl | exact Rd.blk 2 rfl | exact Rd.blk 3 rfl | exact Rd.blk 4 rfl | exact Rd.blk 5 rfl | exact Rd.blk 6 rfl | exact Rd.blk 7 rfl)) (k := ?_)
 refine WG.callV (v := .int .i64 0) en27 rfl rfl qD (CallOp.mk' rfl rfl rfl rfl) (fun _ => rfl) (fun hg => by
  have h := RCheck23_V (nc := nc) (lc := lc) (fc := fc) hna hla hfa hokn hof hnl
  rw [hck] at h
  exact h) ?_
 refine zR 1 rfl (zN (zU ?_))
 refine cN rfl ?_ ?_ <;> intro hc0
 ·try dsimp only at hc0
  first | exact absurd rfl hc0 | (simp at hc0)
 ·try dsimp only at hc0
  refine zK (zU (zQ (zQ (zG (zR 3 rfl ?_)))))
  refine yD (r := by apply Rd.add; (first | exact Rd.blk 0 rfl | exact Rd.blk 1 rfl | exact Rd.blk 2 rfl | exact Rd.blk 3 rfl | exact Rd.blk 4 rfl | exact Rd.blk 5 rfl | exact Rd.blk 6 rfl | exact Rd.blk 7 rfl)) (k := ?_)
  refine zR 3 rfl ?_
  refine yP ?_
  refine yP ?_
  refine yP ?_
  refine yJ (r := by apply Rd.addC; (first | exact Rd.blkC 0 rfl | exact Rd.blkC 1 rfl | exact Rd.blkC 2 rfl | exact Rd.blkC 3 rfl | exact Rd.blkC 4 rfl | exact Rd.blkC 5 rfl | exact Rd.blkC 6 rfl | exact Rd.blkC 7 rfl)) (k := ?_)
  refine yP ?_
  refine yP ?_
  refine yO ?_
  refine zN (zU ?_)
  refine cC rfl ?_ ?_ <;> intro hc1
  ·try simp only [zk] at hc1
   exfalso; rcases hc1 with h | h <;> first | exact h hol | exact h hcl | omega
  ·try simp only [zk] at hc1
   refine zK (zU (zQ (zG (zR 1 rfl (zN (zU (zQ ?_)))))))
   refine W.nil 55 3 qD ?_
   refine zQ (zG (zR 1 rfl (zN (zU (zB ?_)))))
   refine W.loopR (β := Nat × List Pkt × Option Addr × Nat × Ro) (fun (i, out, a9, c9, Rk) => i ≤ fs.length ∧ RLe R Rk ∧ out.length ≤ 6 * i ∧ BI fs i out) (fun (i, out, a9, c9, Rk) => [(8, true, .slice a9 out.length c9), (9, true, .int .i64 (i : Int))]) [1, 2, 3] [_, _, _] [] _ rfl (fun (i, out, a9, c9, Rk) => [(0, .sl 55 3 a9 c9 (out.map encP))]) (fun (i, out, a9, c9, Rk) => Rk) (fun (i, out, a9, c9, Rk) => fs.length - i) ((0, [], none, 0, R)) (⟨Nat.zero_le _, RLe.refl _, Nat.le_refl _, BI.nil hcvp⟩) ⟨rfl, rfl, rfl, rfl, rfl, rfl⟩ (RLe.refl _) qS ?_
   intro zz hst
   obtain ⟨i, out, a9, c9, Rk⟩ := zz
   dsimp only [zipE, setAll, List.cons_append, List.nil_append, List.set_cons_zero, List.set_cons_succ] at hst ⊢
   obtain ⟨hi, hRk, hol6, hbi⟩ := hst
   have hna := hna.mono hRk
   have hla := hla.mono hRk
   have hfa := hfa.mono hRk
   have hoa := hoa.mono hRk
   have hca := hca.mono hRk
   have hof := fun m hm => (hof m hm).mono hRk
   refine zQ (zQ (zG (zR 2 rfl ?_)))
   refine yD (r := by apply Rd.add; (first | exact Rd.blk 0 rfl | exact Rd.blk 1 rfl | exact Rd.blk 2 rfl | exact Rd.blk 3 rfl | exact Rd.blk 4 rfl | exact Rd.blk 5 rfl | exact Rd.blk 6 rfl | exact Rd.blk 7 rfl)) (k := ?_)
   refine zR 2 rfl (zN (zU ?_))
   refine cD rfl ?_ ?_ <;> intro hc2
   ·try dsimp only at hc2
    have hil : i < fs.length := by omega
    refine zK (zU (zQ (zB (zQ (zG (zR 1 rfl ?_))))))
    refine yD (r := by apply Rd.add; (first | exact Rd.blk 0 rfl | exact Rd.blk 1 rfl | exact Rd.blk 2 rfl | exact Rd.blk 3 rfl | exact Rd.blk 4 rfl | exact Rd.blk 5 rfl | exact Rd.blk 6 rfl | exact Rd.blk 7 rfl)) (k := ?_)
    refine zR 1 rfl ?_
    refine WG.y rfl rfl (by decide) (Yl.indexN tab_ok rfl rfl rfl rfl rfl rfl (fun _ => rfl) (by intro _; (try dsimp only) <;> omega) (by intro _; first | exact fun _ _ _ _ => ha81 (by simp) | exact qI)) ?_
    refine yD (r := by (first | (apply RS.rdD; assumption; ((try dsimp only) <;> omega)) | exact Rd.slD 0 rfl qX | exact Rd.slD 1 rfl qX | exact Rd.slD 2 rfl qX | exact Rd.slD 3 rfl qX | exact Rd.slD 4 rfl qX | exact Rd.slD 5 rfl qX | exact Rd.slD 6 rfl qX | exact Rd.slD 7 rfl qX)) (k := ?_)
    refine zA fun b10 => ?_
    first | refine WL.efN rfl rfl (Ef.store0 0 tab_ok rfl rfl rfl rfl rfl rfl rfl rfl ?_) | refine WL.efN rfl rfl (Ef.store0 1 tab_ok rfl rfl rfl rfl rfl rfl rfl rfl ?_) | refine WL.efN rfl rfl (Ef.store0 2 tab_ok rfl rfl rfl rfl rfl rfl rfl rfl ?_) | refine WL.efN rfl rfl (Ef.store0 3 tab_ok rfl rfl rfl rfl rfl rfl rfl rfl ?_) | refine WL.efN rfl rfl (Ef.store0 4 tab_ok rfl rfl rfl rfl rfl rfl rfl rfl ?_) | refine WL.efN rfl rfl (Ef.store0 5 tab_ok rfl rfl rfl rfl rfl rfl rfl rfl ?_) | refine WL.efN rfl rfl (Ef.store0 6 tab_ok rfl rfl rfl rfl rfl rfl rfl rfl ?_) | refine WL.efN rfl rfl (Ef.store0 7 tab_ok rfl rfl rfl rfl rfl rfl rfl rfl ?_)
    refine zN (zU (zQ ?_))
    refine W.regionH _ (ES := [.blk b10 (encFl (nth fs i))]) mixed ?_
    refine tP 0 ?_
    refine tD 1 (r := by apply Rd.add; (first | exact Rd.blk 0 rfl | exact Rd.blk 1 rfl | exact Rd.blk 2 rfl | exact Rd.blk 3 rfl | exact Rd.blk 4 rfl | exact Rd.blk 5 rfl | exact Rd.blk 6 rfl | exact Rd.blk 7 rfl)) (k := ?_)
    refine tP 2 ?_
    refine tP 3 ?_
    refine tD 4 (r := by apply Rd.add; apply Rd.add; (first | exact Rd.blk 0 rfl | exact Rd.blk 1 rfl | exact Rd.blk 2 rfl | exact Rd.blk 3 rfl | exact Rd.blk 4 rfl | exact Rd.blk 5 rfl | exact Rd.blk 6 rfl | exact Rd.blk 7 rfl)) (k := ?_)
    refine tP 5 ?_
    refine tP 6 ?_
    refine WA.take 7 rfl (by kernel_rfl) (by kernel_rfl) (by kernel_rfl) rfl rfl (by decide) (Yl.indexN tab_ok rfl rfl rfl rfl rfl rfl (fun _ => rfl) (by intro _; (try dsimp only) <;> omega) (by intro _; first | exact fun _ _ _ _ => ha81 (by simp) | exact qI)) qS (by first | exact RLe.refl _ | assumption) ?_
    refine tD 8 (r := by (first | (apply RS.rdD; assumption; ((try dsimp only) <;> omega)) | exact Rd.slD 0 rfl qX | exact Rd.slD 1 rfl qX | exact Rd.slD 2 rfl qX | exact Rd.slD 3 rfl qX | exact Rd.slD 4 rfl qX | exact Rd.slD 5 rfl qX | exact Rd.slD 6 rfl qX | exact Rd.slD 7 rfl qX)) (k := ?_)
    refine tP 9 ?_
    refine tP 10 ?_
    refine WA.take 11 rfl (by kernel_rfl) (by kernel_rfl) (by kernel_rfl) rfl rfl (by decide) (Yl.indexN tab_ok rfl rfl rfl rfl rfl rfl (fun _ => rfl) (by intro _; (try dsimp only) <;> omega) (by intro _; first | exact fun _ _ _ _ => ha81 (by simp) | exact qI)) qS (by first | exact RLe.refl _ | assumption) ?_
    refine tD 12 (r := by (first | (apply RS.rdD; assumption; ((try dsimp only) <;> omega)) | exact Rd.slD 0 rfl qX | exact Rd.slD 1 rfl qX | exact Rd.slD 2 rfl qX | exact Rd.slD 3 rfl qX | exact Rd.slD 4 rfl qX | exact Rd.slD 5 rfl qX | exact Rd.slD 6 rfl qX | exact Rd.slD 7 rfl qX)) (k := ?_)
    refine WA.callG 13 rfl qK en28 rfl (by first | rfl | decide) rfl qD (CallOp.mkT rfl rfl rfl rfl) (GreedyC_C (c := (nth fs i).f.cv) (hcvs _ (nth_mem hil)).1 (hcvs _ (nth_mem hil)).2.1 (hof _ (nth_mem hil)).vals (hcvs _ (nth_mem hil)).2.2 (hob _ (nth_mem qO)) (by have := hcb _ (nth_mem (xs := cnts) (k := i) qO); omega) w0 _) ?_
    rintro _ R1 E1 hR1 ⟨l2, lc2, l, rfl, hl, hgd, hll, hsub1⟩
    refine ⟨by first | exact hR1 | exact hRk.trans hR1, List.Sublist.trans qS hsub1, ?_⟩
    refine WA.subE hsub1 ?_
    have hlb := hcb _ (nth_mem (xs := cnts) (k := i) (by omega))
    have hll6 : l.length ≤ 6 := by omega
    refine tP 14 ?_
    refine tP 15 ?_
    refine tP 16 ?_
    refine tP 17 ?_
    refine tP 18 ?_
    refine WA.done qK ?_
    refine zU (zQ (zQ (zG (zR 2 rfl (zN (zU ?_))))))
    refine cN rfl ?_ ?_ <;> intro hc3
    ·try dsimp only at hc3
     first | exact absurd rfl hc3 | (simp at hc3)
    ·try dsimp only at hc3
     refine zK (zU (zQ (zG (zR 1 rfl (zN (zU (zB ?_)))))))
     refine W.loopK (β := Nat × List Pkt × Option Addr × Nat) (fun (k, o2, a8, c8) => k ≤ l.length ∧ o2.length = out.length + k ∧ o2.Perm (out ++ (l.take k).map (mkP (i : Int) (nth fs i).f.hi)) ∧ o2.Pairwise (fun a b => a.time ≤ b.time)) (fun (k, o2, a8, c8) => [(8, true, .slice a8 o2.length c8), (13, true, .int .i64 (k : Int))]) [1, 2, 3, 9, 10, 11] [_, _, _, _, _, _] [] _ rfl (fun (k, o2, a8, c8) => [(1, .sl 55 3 a8 c8 (o2.map encP))]) (fun (k, o2, a8, c8) => l.length - k) ((0, out, a9, c9)) (⟨Nat.zero_le _, rfl, by simp, hbi.sorted⟩) ⟨rfl, rfl, rfl, rfl, rfl, rfl, rfl, rfl, rfl⟩ qS ?_
     intro zy hst
     obtain ⟨k, o2, a8, c8⟩ := zy
     dsimp only [zipE, setAll, List.cons_append, List.nil_append, List.set_cons_zero, List.set_cons_succ] at hst ⊢
     obtain ⟨hk, hol2, hpm, hso⟩ := hst
     refine zQ (zQ (zG (zR 4 rfl (zN (zU ?_)))))
     refine cD rfl ?_ ?_ <;> intro hc4
     ·try dsimp only at hc4
      have hkl : k < l.length := by omega
      refine zK (zU (zQ (zB (zQ ?_))))
      refine W.regionH _ (ES := [.blk b10 (encFl (nth fs i))]) mixed ?_
      refine tP 0 ?_
      refine tP 1 ?_
      refine tP 2 ?_
      refine tP 3 ?_
      refine WA.take 4 rfl (by kernel_rfl) (by kernel_rfl) (by kernel_rfl) rfl rfl (by decide) (Yl.indexN tab_ok rfl rfl rfl rfl rfl rfl (fun _ => rfl) (by intro _; (try dsimp only) <;> omega) (by intro _; first | exact fun _ _ _ _ => ha81 (by simp) | exact qI)) qS (by first | exact RLe.refl _ | assumption) ?_
      refine tD 5 (r := by (first | (apply RS.rdD; assumption; ((try dsimp only) <;> omega)) | exact Rd.slD 0 rfl qX | exact Rd.slD 1 rfl qX | exact Rd.slD 2 rfl qX | exact Rd.slD 3 rfl qX | exact Rd.slD 4 rfl qX | exact Rd.slD 5 rfl qX | exact Rd.slD 6 rfl qX | exact Rd.slD 7 rfl qX)) (k := ?_)
      refine tP 6 ?_
      refine tP 7 ?_
      refine tD 8 (r := by apply Rd.add; apply Rd.add; (first | exact Rd.blk 0 rfl | exact Rd.blk 1 rfl | exact Rd.blk 2 rfl | exact Rd.blk 3 rfl | exact Rd.blk 4 rfl | exact Rd.blk 5 rfl | exact Rd.blk 6 rfl | exact Rd.blk 7 rfl)) (k := ?_)
      refine WA.take 9 rfl qK qK qK rfl rfl qD (Yl.build (parts := [(0, .tmp 71), (1, .tmp 75), (2, .tmp 78)]) tab_ok rfl rfl rfl rfl (fun _ => rfl) rfl rfl) qS qR ?_
      refine WA.eff 10 rfl qK rfl rfl qD (Ef.buildSliceD (enc := encP) (parts := [.tmp 79]) [mkP (i : Int) (nth fs i).f.hi (nth l k)] tab_ok rfl rfl rfl rfl rfl rfl rfl rfl qD qD (fun a80 => ?_))
      refine ⟨qR, qS, ?_⟩
      first | refine WA.eff 11 rfl (by kernel_rfl) rfl rfl (by decide) (Ef.appendD 1 0 tab_ok rfl rfl rfl rfl rfl rfl rfl rfl rfl rfl rfl (fun _ _ => rfl) (by simp only [List.length_cons, List.length_nil]; omega) (by simp only [List.length_cons, List.length_nil]; omega) (fun a81 c81 ha81 => ?_)) | refine WA.eff 11 rfl (by kernel_rfl) rfl rfl (by decide) (Ef.appendD 2 0 tab_ok rfl rfl rfl rfl rfl rfl rfl rfl rfl rfl rfl (fun _ _ => rfl) (by simp only [List.length_cons, List.length_nil]; omega) (by simp only [List.length_cons, List.length_nil]; omega) (fun a81 c81 ha81 => ?_)) | refine WA.eff 11 rfl (by kernel_rfl) rfl rfl (by decide) (Ef.appendD 3 0 tab_ok rfl rfl rfl rfl rfl rfl rfl rfl rfl rfl rfl (fun _ _ => rfl) (by simp only [List.length_cons, List.length_nil]; omega) (by simp only [List.length_cons, List.length_nil]; omega) (fun a81 c81 ha81 => ?_)) | refine WA.eff 11 rfl (by kernel_rfl) rfl rfl (by decide) (Ef.appendD 4 0 tab_ok rfl rfl rfl rfl rfl rfl rfl rfl rfl rfl rfl (fun _ _ => rfl) (by simp only [List.length_cons, List.length_nil]; omega) (by simp only [List.length_cons, List.length_nil]; omega) (fun a81 c81 ha81 => ?_)) | refine WA.eff 11 rfl (by kernel_rfl) rfl rfl (by decide) (Ef.appendD 5 0 tab_ok rfl rfl rfl rfl rfl rfl rfl rfl rfl rfl rfl (fun _ _ => rfl) (by simp only [List.length_cons, List.length_nil]; omega) (by simp only [List.length_cons, List.length_nil]; omega) (fun a81 c81 ha81 => ?_)) | refine WA.eff 11 rfl (by kernel_rfl) rfl rfl (by decide) (Ef.appendD 6 0 tab_ok rfl rfl rfl rfl rfl rfl rfl rfl rfl rfl rfl (fun _ _ => rfl) (by simp only [List.length_cons, List.length_nil]; omega) (by simp only [List.length_cons, List.length_nil]; omega) (fun a81 c81 ha81 => ?_)) | refine WA.eff 11 rfl (by kernel_rfl) rfl rfl (by decide) (Ef.appendD 7 0 tab_ok rfl rfl rfl rfl rfl rfl rfl rfl rfl rfl rfl (fun _ _ => rfl) (by simp only [List.length_cons, List.length_nil]; omega) (by simp only [List.length_cons, List.length_nil]; omega) (fun a81 c81 ha81 => ?_)) | refine WA.eff 11 rfl (by kernel_rfl) rfl rfl (by decide) (Ef.appendR 0 tab_ok rfl rfl rfl rfl rfl rfl rfl rfl rfl rfl (by assumption) (fun _ _ => rfl) (by (try dsimp only); omega) (by omega) (fun a81 c81 ha81 => ?_)) | refine WA.eff 11 rfl (by kernel_rfl) rfl rfl (by decide) (Ef.appendR 1 tab_ok rfl rfl rfl rfl rfl rfl rfl rfl rfl rfl (by assumption) (fun _ _ => rfl) (by (try dsimp only); omega) (by omega) (fun a81 c81 ha81 => ?_)) | refine WA.eff 11 rfl (by kernel_rfl) rfl rfl (by decide) (Ef.appendR 2 tab_ok rfl rfl rfl rfl rfl rfl rfl rfl rfl rfl (by assumption) (fun _ _ => rfl) (by (try dsimp only); omega) (by omega) (fun a81 c81 ha81 => ?_)) | refine WA.eff 11 rfl (by kernel_rfl) rfl rfl (by decide) (Ef.appendR 3 tab_ok rfl rfl rfl rfl rfl rfl rfl rfl rfl rfl (by assumption) (fun _ _ => rfl) (by (try dsimp only); omega) (by omega) (fun a81 c81 ha81 => ?_)) | refine WA.eff 11 rfl (by kernel_rfl) rfl rfl (by decide) (Ef.appendR 4 tab_ok rfl rfl rfl rfl rfl rfl rfl rfl rfl rfl (by assumption) (fun _ _ => rfl) (by (try dsimp only); omega) (by omega) (fun a81 c81 ha81 => ?_)) | refine WA.eff 11 rfl (by kernel_rfl) rfl rfl (by decide) (Ef.appendR 5 tab_ok rfl rfl rfl rfl rfl rfl rfl rfl rfl rfl (by assumption) (fun _ _ => rfl) (by (try dsimp only); omega) (by omega) (fun a81 c81 ha81 => ?_)) | refine WA.eff 11 rfl (by kernel_rfl) rfl rfl (by decide) (Ef.appendR 6 tab_ok rfl rfl rfl rfl rfl rfl rfl rfl rfl rfl (by assumption) (fun _ _ => rfl) (by (try dsimp only); omega) (by omega) (fun a81 c81 ha81 => ?_)) | refine WA.eff 11 rfl (by kernel_rfl) rfl rfl (by decide) (Ef.appendR 7 tab_ok rfl rfl rfl rfl rfl rfl rfl rfl rfl rfl (by assumption) (fun _ _ => rfl) (by (try dsimp only); omega) (by omega) (fun a81 c81 ha81 => ?_))
      refine ⟨qR, qS, ?_⟩
      refine tP 12 ?_
      refine WA.done qK ?_
      refine zU ?_
      generalize hP : mkP (i : Int) (nth fs i).f.hi (nth l k) = P
      rw [← insP_all (ys := o2) (p := P)]
      have hoc : (insP o2 o2.length P).length = o2.length + 1 := insP_len (Nat.le_refl _)
      refine zQ (zG (zR 2 rfl ?_))
      refine yS ?_
      rw [show (((insP o2 o2.length P).length : Nat) : Int) - 1 = (o2.length : Int) by omega]
      refine zR 1 rfl (zN (zU (zB ?_)))
      refine W.loopK (β := Nat) (fun j => j ≤ o2.length ∧ ∀ x ∈ o2.drop j, P.time < x.time) (fun j => [(8, true, .slice a81 (insP o2 j P).length c81), (14, true, .int .i64 (j : Int))]) [1, 2, 3, 9, 10, 11, 13] [_, _, _, _, _, _, _] [] _ rfl (fun j => [(2, .sl 55 3 a81 c81 ((insP o2 j P).map encP))]) (fun j => j) (o2.length) (⟨Nat.le_refl _, fun x hx => by simp at hx⟩) ⟨rfl, rfl, rfl, rfl, rfl, rfl, rfl, rfl, rfl, rfl⟩ qS ?_
      intro j hst
      dsimp only [zipE, setAll, List.cons_append, List.nil_append, List.set_cons_zero, List.set_cons_succ] at hst ⊢
      obtain ⟨hj, hjd⟩ := hst
      have hil2 := insP_len (p := P) hj
      have hia := insP_at (p := P) hj
      refine zQ (zQ ?_)
      refine W.regionQ _ mixed qK ?_
      refine zR 3 rfl ?_
      refine yP ?_
      refine yP ?_
      refine WG.y rfl rfl (by decide) (Yl.indexN tab_ok rfl rfl rfl rfl rfl rfl qE (by intro hg; (try simp only [zk] at hg); (try dsimp only) <;> omega) (by intro hg; (try simp only [zk] at hg); first | exact fun _ _ _ _ => ha81 (by simp) | exact qI)) ?_
      refine yP ?_
      refine yJ (r := by intro hg; apply Rd.add; exact Rd.slD 2 rfl qO) (k := ?_)
      refine yP ?_
      refine yP ?_
      refine WG.y rfl rfl (by decide) (Yl.sub rfl rfl rfl qE (by intro hg; (try simp only [zk] at hg); constructor <;> (try dsimp only) <;> omega)) ?_
      refine WG.y rfl rfl (by decide) (Yl.index tab_ok rfl rfl rfl rfl rfl rfl qE (by intro hg; (try simp only [zk] at hg); constructor <;> (try dsimp only) <;> omega) (by intro hg; (try simp only [zk] at hg); first | exact fun _ _ _ _ => ha81 (by simp) | exact qI)) ?_
      refine yP ?_
      refine yJ (r := by intro hg; apply Rd.add; exact Rd.slD 2 rfl (by first | omega | (simp at hg; omega))) (k := ?_)
      refine yP ?_
      refine yN ?_
      refine zN (zU ?_)
      refine cC rfl ?_ ?_ <;> intro hc5
      ·try simp only [zk] at hc5
       have hj0 : 0 < j := by omega
       have hb1 := insP_bef (p := P) hj hj0
       have hjx : ((j : Int) - 1).toNat = j - 1 := by omega
       have hsw := insP_swap (p := P) hj hj0
       have hil1 := insP_len (ys := o2) (p := P) (j := j - 1) (by omega)
       refine zK (zU (zQ (zB ?_)))
       refine W.regionD _ [.blk b10 (encFl (nth fs i))] [.blk b10 (encFl (nth fs i)), .sl 55 3 a81 c81 ((insP o2 j P).map encP)] [15, 17] mixed ?_
       refine vP 0 ?_
       refine vP 1 ?_
       refine VA.take 2 rfl qK qK qK rfl rfl rfl qD (pureV_ok tab_ok rfl (fun _ => rfl)) qS qR (fun _ => qS) ?_
       refine VA.take 3 rfl qK qK qK rfl rfl rfl qD (pureV_ok tab_ok rfl (fun _ => rfl)) qS qR (fun _ => qS) ?_
       refine VA.take 4 rfl qK qK qK rfl rfl rfl qD (Yl.sub rfl rfl rfl (fun _ => rfl) qA) qS qR (fun _ => qS) ?_
       refine vP 5 ?_
       refine vP 6 ?_
       refine VA.take2 7 rfl qK qK qK rfl qK qK rfl rfl qD (Yl.sub rfl rfl rfl (fun _ => rfl) qA) qS qR qS ?_
       refine VA.take2 8 rfl (by kernel_rfl) (by kernel_rfl) (by kernel_rfl) rfl (by kernel_rfl) (by kernel_rfl) rfl rfl (by decide) (Yl.index tab_ok rfl rfl rfl rfl rfl rfl (fun _ => rfl) (by intro _; constructor <;> (try dsimp only) <;> omega) (by intro _; first | exact fun _ _ _ _ => ha81 (by simp) | exact qI)) qS (by first | exact RLe.refl _ | assumption) qS ?_
       refine vD 9 (r := by exact Rd.slD 1 rfl qO) (k := ?_)
       refine VA.take 10 rfl qK qK qK rfl rfl rfl qD (pureV_ok tab_ok rfl (fun _ => rfl)) qS qR (fun _ => qS) ?_
       refine VA.take 11 rfl qK qK qK rfl rfl rfl qD (pureV_ok tab_ok rfl (fun _ => rfl)) qS qR (fun _ => qS) ?_
       refine VA.take 12 rfl (by kernel_rfl) (by kernel_rfl) (by kernel_rfl) rfl rfl rfl (by decide) (Yl.indexN tab_ok rfl rfl rfl rfl rfl rfl (fun _ => rfl) (by intro _; (try dsimp only) <;> omega) (by intro _; first | exact fun _ _ _ _ => ha81 (by simp) | exact qI)) qS (by first | exact RLe.refl _ | assumption) (fun _ => qS) ?_
       refine vD 13 (r := by exact Rd.slD 1 rfl qO) (k := ?_)
       refine VA.take2 14 rfl (by kernel_rfl) (by kernel_rfl) (by kernel_rfl) rfl (by kernel_rfl) (by kernel_rfl) rfl rfl (by decide) (Yl.indexN tab_ok rfl rfl rfl rfl rfl rfl (fun _ => rfl) (by intro _; (try dsimp only) <;> omega) (by intro _; first | exact fun _ _ _ _ => ha81 (by simp) | exact qI)) qS (by first | exact RLe.refl _ | assumption) qS ?_
       refine VA.one (i := 15) qK ?_
       refine VS.effN rfl rfl rfl (Ef.storeD (enc := encP) (xs := insP o2 j P) (nth (insP o2 j P) ((j : Int) - 1).toNat) 2 tab_ok rfl rfl rfl rfl rfl qO rfl rfl rfl rfl ?_)
       refine ⟨by first | exact RLe.refl _ | assumption, qS, (noD qK), ?_⟩
       refine VA.take 16 rfl (by kernel_rfl) (by kernel_rfl) (by kernel_rfl) rfl rfl rfl (by decide) (Yl.index tab_ok rfl rfl rfl rfl rfl rfl (fun _ => rfl) (by intro _; constructor <;> (try dsimp only) <;> omega) (by intro _; first | exact fun _ _ _ _ => ha81 (by simp) | exact qI)) qS (by first | exact RLe.refl _ | assumption) (noD (by kernel_rfl)) ?_
       refine VA.one (i := 17) qK ?_
       refine VS.effN rfl rfl rfl (Ef.storeD (enc := encP) (xs := (insP o2 j P).set j (nth (insP o2 j P) ((j : Int) - 1).toNat)) (nth (insP o2 j P) j) 2 tab_ok rfl rfl rfl rfl rfl (by rw [List.length_set]; omega) rfl rfl rfl rfl ?_)
       refine ⟨by first | exact RLe.refl _ | assumption, qS, (noD qK), ?_⟩
       refine VA.done qK ?_
       refine zL (zU (zG (zR 1 rfl ?_)))
       refine yS ?_
       refine zR 1 rfl (zN ?_)
       rw [hjx, hb1, hia, hsw, show (j : Int) - 1 = ((j - 1 : Nat) : Int) by omega, show (insP o2 j P).length = (insP o2 (j - 1) P).length by omega]
       refine WE.again (j - 1) (⟨by omega, fun x hx => by
        have hlt := hc5.2
        rw [hia, hjx, hb1] at hlt
        rw [drop_nth (xs := o2) (k := j - 1) (by omega), show j - 1 + 1 = j by omega] at hx
        rcases List.mem_cons.1 hx with h | h
        ·rw [h]; exact hlt
        ·exact hjd x h⟩) (by omega) ⟨rfl, rfl, rfl, rfl, rfl, rfl, rfl, rfl, rfl, rfl⟩ (RLe.refl _) qS
      ·try simp only [zk] at hc5
       have hjo : j = 0 ∨ (nth o2 (j - 1)).time ≤ P.time := by
        rcases Nat.eq_zero_or_pos j with h | h
        ·exact .inl h
        ·right
         have h2 := hc5 (by omega)
         rw [hia, show ((j : Int) - 1).toNat = j - 1 by omega, insP_bef hj h] at h2
         omega
       refine zX ?_
       refine wx (wx (zY (zL (zU (zG (zR 1 rfl ?_))))))
       refine yA ?_
       refine zR 1 rfl (zN ?_)
       refine WE.again ((k + 1, insP o2 j P, a81, c81)) (⟨by (try dsimp only); omega, by (try dsimp only); omega, by
        (try dsimp only)
        rw [take_nth (xs := l) (k := k) hkl, List.map_append, List.map_singleton, hP, ← List.append_assoc]
        exact insP_perm.trans (hpm.append_right [P]), insP_sorted hso hjd hj hjo⟩) (by (try dsimp only); omega) ⟨rfl, rfl, rfl, rfl, rfl, rfl, rfl, rfl, rfl⟩ (RLe.refl _) qS
     ·try dsimp only at hc4
      obtain rfl : k = l.length := by omega
      rw [List.take_length] at hpm
      have hbi2 := hbi.step hil (hcvp i hil) hgd hpm hso
      refine zX ?_
      refine wx (wx (zY (zL (zU (zG (zR 1 rfl ?_))))))
      refine yA ?_
      refine zR 1 rfl (zN ?_)
      refine WE.again ((i + 1, o2, a8, c8, R1)) (⟨by (try dsimp only); omega, hRk.trans hR1, by (try dsimp only); omega, hbi2⟩) (by (try dsimp only); omega) ⟨rfl, rfl, rfl, rfl, rfl, rfl⟩ (RLe.refl _) qS
   ·try dsimp only at hc2
    obtain rfl : i = fs.length := by omega
    refine W.freeze (enc := encP) (xs := out) 0 rfl ?_
    intro R5 hR5 hqs
    refine zX ?_
    refine wx (wx (zY (zU (zQ (zQ (zG (zR 3 rfl (zN (zU ?_)))))))))
    refine cD rfl ?_ ?_ <;> intro hc6
    ·try dsimp only at hc6
     exfalso; omega
    ·try dsimp only at hc6
     refine zK (zU (zQ (zG (zR 3 rfl (zN (zU (zT ?_)))))))
     refine zq2 (by first | exact hRk.trans hR5 | exact hRk | exact RLe.refl _) ?_
     exact ⟨_, _, out, rfl, hqs, hbi, by omega, qS⟩

set_option maxHeartbeats 8000000 in
theorem TopGreedy_F {R : Ro} {z : Int} {a : Option Addr} {c : Nat} {xs : List Int} (ha : RS R 1 encI a xs) (hzr : 0 ≤ z ∧ z ≤ 255) (hc : xs.length ≤ c) (w0 : World) : K.Fn Tryz.prog 4 [.slice a xs.length c, .int .u8 z] w0 R [] (fun v _ _ => v = .bool true) := by
 refine fE 103 Tryz.func4 ?_
 refine zQ (zG (zR 1 rfl (zN (zU (zQ (zQ (zG (zR 3 rfl (zN (zU ?_))))))))))
 refine cD rfl ?_ ?_ <;> intro hc0
 ·try dsimp only at hc0
  refine zQ (zG ?_)
  refine WG.callV (v := .bool true) en5 rfl rfl qD (CallOp.mk' rfl rfl rfl rfl) (fun _ => rfl) (fun hg => I.Made_V) ?_
  refine zR 1 rfl (zN (zU (zT (wt ?_))))
  refine zq1 (by first | exact RLe.refl _ | exact (hR1.trans hR24).trans hR57 | exact (((hR1.trans hR24).trans hR57).trans hR8).trans hR9 | exact ((hR1.trans hR24).trans hR57).trans hR8) ?_
  first | exact rfl | (show Value.bool _ = Value.bool true; simp)
 ·try dsimp only at hc0
  refine zK (zU (zQ (zG (zR 1 rfl ?_))))
  refine WL.call en6 rfl rfl qD (CallOp.mkT rfl rfl rfl rfl) (New_C w0 _ hc) ?_
  rintro _ _ _ - ⟨b, rfl, rfl, rfl⟩
  have hz := ha.take 2000
  refine zR 1 rfl (zN (zU (zQ (zG (zR 1 rfl ?_)))))
  refine WL.callAt 0 en7 rfl rfl qD (CallOp.mkT rfl rfl rfl rfl) rfl (Net24_C (nl := 3) (nf := 4) w0 hz qD qD _) ?_
  rintro _ R1 _ _ hR1 ⟨k, ms, fs, na, la, fa, nc, lc, fc, cn, rfl, hk, hml, hfl, hna, hla, hfa, hmd, hfd, hfn, hcaps, rfl, rfl⟩
  have hD : DrawN k ms fs := ⟨hk, ⟨hml.1, by omega⟩, by omega, fun m hm => (hmd m hm).2, fun x hx => (hfd x hx).2.2, hfn⟩
  have hck := hD.chk
  obtain ⟨hszf, hcvs⟩ := hD.szf
  have hokn := fun m hm => (hmd m hm).1
  have hof := fun x hx => (hfd x hx).1
  have hnl : ∀ x ∈ nm4.take ms.length, x.length ≤ 9223372036854775807 := fun x hx => by have := (nm4_len hx).1; omega
  have hz := hz.mono hR1
  refine zA fun b6 => ?_
  first | refine WL.efN rfl rfl (Ef.store0 0 tab_ok rfl rfl rfl rfl rfl rfl rfl rfl ?_) | refine WL.efN rfl rfl (Ef.store0 1 tab_ok rfl rfl rfl rfl rfl rfl rfl rfl ?_) | refine WL.efN rfl rfl (Ef.store0 2 tab_ok rfl rfl rfl rfl rfl rfl rfl rfl ?_) | refine WL.efN rfl rfl (Ef.store0 3 tab_ok rfl rfl rfl rfl rfl rfl rfl rfl ?_) | refine WL.efN rfl rfl (Ef.store0 4 tab_ok rfl rfl rfl rfl rfl rfl rfl rfl ?_) | refine WL.efN rfl rfl (Ef.store0 5 tab_ok rfl rfl rfl rfl rfl rfl rfl rfl ?_)
  refine zN (zU (zQ ?_))
  refine W.regionH _ (ES := [.blk b6 [.slice na (nm4.take ms.length).length nc, .slice la ms.length lc, .slice fa fs.length fc]]) mixed ?_
  refine tD 0 (r := by (first | exact Rd.blk 0 rfl | exact Rd.blk 1 rfl | exact Rd.blk 2 rfl | exact Rd.blk 3 rfl | exact Rd.blk 4 rfl | exact Rd.blk 5 rfl)) (k := ?_)
  refine tP 1 ?_
  refine tP 2 ?_
  refine tD 3 (r := by apply Rd.add; (first | exact Rd.blk 0 rfl | exact Rd.blk 1 rfl | exact Rd.blk 2 rfl | exact Rd.blk 3 rfl | exact Rd.blk 4 rfl | exact Rd.blk 5 rfl)) (k := ?_)
  refine tP 4 ?_
  refine tP 6 ?_
  refine tP 7 ?_
  refine tD 8 (r := by apply Rd.add; (first | exact Rd.blk 0 rfl | exact Rd.blk 1 rfl | exact Rd.blk 2 rfl | exact Rd.blk 3 rfl | exact Rd.blk 4 rfl | exact Rd.blk 5 rfl)) (k := ?_)
  refine tP 9 ?_
  refine WA.callAt 1 5 rfl qK en11 rfl rfl qD (CallOp.mkT rfl rfl rfl rfl) rfl (Numbers_C (many := fs.length) (m := 8) w0 hz qD qO _) ?_
  rintro _ R2 _ _ hR2 ⟨oa, oc, cn2, offs, rfl, hoa, hol, hob, rfl, rfl⟩
  refine ⟨hR2, qS, ?_⟩
  have hz := hz.mono hR2
  have hna := hna.mono hR2
  have hla := hla.mono hR2
  have hfa := hfa.mono hR2
  have hokn := fun m hm => (hokn m hm).mono hR2
  have hof := fun x hx => (hof x hx).mono hR2
  refine WA.callAt 1 10 rfl qK en11 rfl rfl qD (CallOp.mkT rfl rfl rfl rfl) rfl (Numbers_C (many := fs.length) (m := 7) w0 hz qD qO _) ?_
  rintro _ R3 _ _ hR3 ⟨ca, cc, cn3, cnts, rfl, hca, hcl, hcb, rfl, rfl⟩
  have hR23 := hR2.trans hR3
  refine ⟨hR23, qS, ?_⟩
  have hz := hz.mono hR3
  have hna := hna.mono hR3
  have hla := hla.mono hR3
  have hfa := hfa.mono hR3
  have hoa := hoa.mono hR3
  have hokn := fun m hm => (hokn m hm).mono hR3
  have hof := fun x hx => (hof x hx).mono hR3
  refine WA.callG 11 rfl qK en10 rfl (by first | rfl | decide) rfl qD (CallOp.mkT rfl rfl rfl rfl) (Build37_C (nc := nc) (lc := lc) (fc := fc) hna hla hfa hokn hof hnl hck hcvs hszf.1 hoa hca hol hcl (fun y hy => by have := hob y hy; omega) (fun y hy => by have := hcb y hy; omega) w0 _) ?_
  rintro _ R4 E4 hR4 ⟨pa, pc, ps, rfl, hp, hbi, hpl, hsub4⟩
  have hR24 := (hR2.trans hR3).trans hR4
  refine ⟨hR24, List.Sublist.trans qS hsub4, ?_⟩
  refine WA.subE hsub4 ?_
  have hz := hz.mono hR4
  have hna := hna.mono hR4
  have hla := hla.mono hR4
  have hfa := hfa.mono hR4
  have hokn := fun m hm => (hokn m hm).mono hR4
  have hof := fun x hx => (hof x hx).mono hR4
  obtain ⟨hgp, hokp, hsz0, en, hen, he⟩ := hbi.good hszf hpl
  refine tP 12 ?_
  refine tP 13 ?_
  refine tP 14 ?_
  refine tP 15 ?_
  refine tP 16 ?_
  refine WA.done qK ?_
  refine zU (zQ (zQ (zG (zR 2 rfl (zN (zU ?_))))))
  refine cN rfl ?_ ?_ <;> intro hc1
  ·try dsimp only at hc1
   first | exact absurd rfl hc1 | (simp at hc1)
  ·try dsimp only at hc1
   refine zK (zU (zQ (zQ ?_)))
   refine W.regionH _ (ES := [.blk b6 [.slice na (nm4.take ms.length).length nc, .slice la ms.length lc, .slice fa fs.length fc]]) mixed ?_
   refine tD 0 (r := by (first | exact Rd.blk 0 rfl | exact Rd.blk 1 rfl | exact Rd.blk 2 rfl | exact Rd.blk 3 rfl | exact Rd.blk 4 rfl | exact Rd.blk 5 rfl)) (k := ?_)
   refine tP 1 ?_
   refine WA.callG 2 rfl qK en12 rfl (by first | rfl | decide) rfl qD (CallOp.mkT rfl rfl rfl rfl) (OKeep_C (nc := nc) (lc := lc) (fc := fc) hp hna hla hfa hokn hof hnl hck hgp hokp (fun m hm => ⟨(hcvs m hm).1, (hcvs m hm).2.1⟩) hen he w0 _) ?_
   rintro _ R5 E5 hR5 ⟨b1, rfl, hk1, _, hsub5⟩
   obtain rfl := keep_true hbi hk1
   refine ⟨hR5, List.Sublist.trans qS hsub5, ?_⟩
   refine WA.subE hsub5 ?_
   have hz := hz.mono hR5
   have hna := hna.mono hR5
   have hla := hla.mono hR5
   have hfa := hfa.mono hR5
   have hp := hp.mono hR5
   have hokn := fun m hm => (hokn m hm).mono hR5
   have hof := fun x hx => (hof x hx).mono hR5
   refine tP 3 ?_
   refine tP 4 ?_
   refine' WA.take 5 rfl qK qK qK rfl rfl qD (Yl.loadG tab_ok rfl rfl rfl qE ?r5 rfl ?h5 ?g5) qS qR ?_
   case r5 => (first | exact Rd.blkC 0 rfl | exact Rd.blkC 1 rfl | exact Rd.blkC 2 rfl | exact Rd.blkC 3 rfl | exact Rd.blkC 4 rfl | exact Rd.blkC 5 rfl)
   case h5 => rfl
   case g5 => first | exact fun _ => trivial | (intro hg; (try simp only [zk] at hg); (try dsimp only); omega)
   refine WA.take 6 rfl qK qK qK rfl rfl qD (pureV_ok tab_ok rfl qE) qS qR ?_
   refine WA.take 7 rfl qK qK qK rfl rfl qD (pureV_ok tab_ok rfl qE) qS qR ?_
   refine WA.callG 8 rfl qK en13 rfl (by first | rfl | decide) rfl qD (CallOp.mkT rfl rfl rfl rfl) (FnAt.at 1 rfl (Some_C w0 hz hp qO)) ?_
   rintro _ R6 _ hR6 ⟨_, _, rfl, qa, qc, cn6, qs, rfl, hqs, hqsub, rfl, rfl⟩
   have hbq := hbi.sub hqsub hsz0
   have hql : qs.length ≤ 60 := by have := hqsub.length_le; omega
   obtain ⟨hgq, hokq, _, en2, hen2, he2⟩ := hbq.good hszf hql
   have hR56 := hR5.trans hR6
   refine ⟨hR56, qS, ?_⟩
   have hz := hz.mono hR6
   have hna := hna.mono hR6
   have hla := hla.mono hR6
   have hfa := hfa.mono hR6
   have hokn := fun m hm => (hokn m hm).mono hR6
   have hof := fun x hx => (hof x hx).mono hR6
   refine WA.callG 9 rfl qK en12 rfl (by first | rfl | decide) rfl qD (CallOp.mkT rfl rfl rfl rfl) (OKeep_C (nc := nc) (lc := lc) (fc := fc) hqs hna hla hfa hokn hof hnl hck hgq hokq (fun m hm => ⟨(hcvs m hm).1, (hcvs m hm).2.1⟩) hen2 he2 w0 _) ?_
   rintro _ R7 E7 hR7 ⟨b2, rfl, hk3, _, hsub7⟩
   obtain rfl := keep_true hbq hk3
   have hR57 := (hR5.trans hR6).trans hR7
   refine ⟨hR57, List.Sublist.trans qS hsub7, ?_⟩
   refine WA.subE hsub7 ?_
   have hz := hz.mono hR7
   have hna := hna.mono hR7
   have hla := hla.mono hR7
   have hfa := hfa.mono hR7
   have hokn := fun m hm => (hokn m hm).mono hR7
   have hof := fun x hx => (hof x hx).mono hR7
   refine WA.take 10 rfl qK qK qK rfl rfl qD (pureV_ok tab_ok rfl qE) qS qR ?_
   refine WA.take 11 rfl (by kernel_rfl) (by kernel_rfl) (by kernel_rfl) rfl rfl (by decide) (Yl.por rfl rfl rfl (fun _ => rfl) (by intro h1 h2; simp_all <;> omega)) qS (by first | exact RLe.refl _ | assumption) ?_
   refine WA.done qK ?_
   refine zU ?_
   refine cC rfl ?_ ?_ <;> intro hc2
   ·try simp only [zk] at hc2
    first | (simp at hc2; done) | exact absurd hc2 (by decide)
   ·try simp only [zk] at hc2
    refine zK (zU (zQ (zQ (zG (zR 1 rfl ?_)))))
    refine yD (r := by apply Rd.add; (first | exact Rd.blk 0 rfl | exact Rd.blk 1 rfl | exact Rd.blk 2 rfl | exact Rd.blk 3 rfl | exact Rd.blk 4 rfl | exact Rd.blk 5 rfl)) (k := ?_)
    refine zR 2 rfl (zN (zU ?_))
    refine cE rfl ?_ ?_ <;> intro hc3
    ·try dsimp only at hc3
     refine zQ (zG ?_)
     refine WG.callV (v := .bool true) en5 rfl rfl qD (CallOp.mk' rfl rfl rfl rfl) (fun _ => rfl) (fun hg => I.Made_V) ?_
     refine zR 1 rfl (zN (zU (zT (wt ?_))))
     refine zq1 (by first | exact RLe.refl _ | exact (hR1.trans hR24).trans hR57 | exact (((hR1.trans hR24).trans hR57).trans hR8).trans hR9 | exact ((hR1.trans hR24).trans hR57).trans hR8) ?_
     first | exact rfl | (show Value.bool _ = Value.bool true; simp)
    ·try dsimp only at hc3
     have hf0 : 0 < fs.length := by omega
     refine zK (zU (zQ (zG (zR 1 rfl ?_))))
     refine WG.y rfl rfl qD (Yl.convId tab_ok rfl rfl rfl rfl rfl rfl (fun _ => rfl) (by intro _; (try dsimp only); first | exact u64_id ⟨by omega, by omega⟩ | exact i64_wrap ⟨by omega, by omega⟩ | exact u8_id ⟨by omega, by omega⟩)) ?_
     refine zR 1 rfl ?_
     refine yD (r := by apply Rd.add; (first | exact Rd.blk 0 rfl | exact Rd.blk 1 rfl | exact Rd.blk 2 rfl | exact Rd.blk 3 rfl | exact Rd.blk 4 rfl | exact Rd.blk 5 rfl)) (k := ?_)
     refine zR 1 rfl ?_
     refine WG.y rfl rfl qD (Yl.tmod rfl rfl rfl (fun _ => rfl) (by intro _; omega)) ?_
     obtain ⟨q, hqz, hqf⟩ : ∃ q : Nat, z.tmod (fs.length : Int) = (q : Int) ∧ q < fs.length := ⟨(z.tmod (fs.length : Int)).toNat, by have := Int.tmod_nonneg (fs.length : Int) hzr.1; omega, by have h1 := Int.tmod_nonneg (fs.length : Int) hzr.1; have h2 := Int.tmod_lt_of_pos z (show (0 : Int) < fs.length by omega); omega⟩
     rw [hqz]
     have hs1 := stair_one (hfd _ (nth_mem hqf)).2.2.cv
     have hsz := hszf.2 _ (nth_mem hqf)
     refine zR 1 rfl (zN (zU (zQ (zG (zR 1 rfl (zN (zU (zQ ?_))))))))
     refine W.nil 55 3 qD ?_
     refine zQ (zG (zR 1 rfl (zN (zU (zB ?_)))))
     refine W.loopK (β := Nat × Int × Option Addr × Nat) (fun (n, sm, a9, c9) => n ≤ 17 ∧ sm = (n : Int) * (nth fs q).f.hi ∧ 0 ≤ sm ∧ sm ≤ 2000) (fun (n, sm, a9, c9) => [(10, true, .slice a9 (bst n q (nth fs q).f.hi).length c9), (11, true, .int .i64 sm)]) [6, 9] [_, _] [] _ rfl (fun (n, sm, a9, c9) => [(0, .sl 55 3 a9 c9 ((bst n q (nth fs q).f.hi).map encP))]) (fun (n, sm, a9, c9) => 17 - n) ((0, 0, none, 0)) (⟨Nat.zero_le _, by simp, by decide, by decide⟩) ⟨rfl, rfl, rfl, rfl, rfl⟩ qS ?_
     intro zz hst
     obtain ⟨n, sm, a9, c9⟩ := zz
     dsimp only [zipE, setAll, List.cons_append, List.nil_append, List.set_cons_zero, List.set_cons_succ] at hst ⊢
     obtain ⟨hn17, hsm, hsm0, hsm1⟩ := hst
     have hbl := bst_len n q (nth fs q).f.hi
     refine zQ (zQ (zG (zR 2 rfl ?_)))
     refine yD (r := by apply Rd.add; (first | exact Rd.blk 0 rfl | exact Rd.blk 1 rfl | exact Rd.blk 2 rfl | exact Rd.blk 3 rfl | exact Rd.blk 4 rfl | exact Rd.blk 5 rfl)) (k := ?_)
     refine zR 1 rfl ?_
     refine yI ?_
     refine zR 1 rfl ?_
     refine yD (r := by apply Rd.add; (first | (apply RS.rdD; assumption; ((try dsimp only) <;> omega)) | exact Rd.slD 0 rfl qX | exact Rd.slD 1 rfl qX | exact Rd.slD 2 rfl qX | exact Rd.slD 3 rfl qX | exact Rd.slD 4 rfl qX | exact Rd.slD 5 rfl qX)) (k := ?_)
     refine WG.callV en14 rfl rfl qD (CallOp.mk' rfl rfl rfl rfl) (fun _ => rfl) (fun hg => KAt_V (t := 1) (hof _ (nth_mem hqf)).vals hs1.1 hs1.2.1) ?_
     refine zR 1 rfl (zN (zU ?_))
     refine cD rfl ?_ ?_ <;> intro hc4
     ·try dsimp only at hc4
      have hn1 : (n : Int) * 1 ≤ (n : Int) * (nth fs q).f.hi := Int.mul_le_mul_of_nonneg_left (by omega) (by omega)
      have hn16 : n ≤ 16 := by omega
      refine zK (zU (zQ (zB (zG (zR 3 rfl ?_)))))
      refine yD (r := by apply Rd.add; (first | exact Rd.blk 0 rfl | exact Rd.blk 1 rfl | exact Rd.blk 2 rfl | exact Rd.blk 3 rfl | exact Rd.blk 4 rfl | exact Rd.blk 5 rfl)) (k := ?_)
      refine zR 1 rfl ?_
      refine yI ?_
      refine zR 2 rfl ?_
      refine yD (r := by apply Rd.add; apply Rd.add; (first | (apply RS.rdD; assumption; ((try dsimp only) <;> omega)) | exact Rd.slD 0 rfl qX | exact Rd.slD 1 rfl qX | exact Rd.slD 2 rfl qX | exact Rd.slD 3 rfl qX | exact Rd.slD 4 rfl qX | exact Rd.slD 5 rfl qX)) (k := ?_)
      refine yW [(0, .tmp 80), (1, .const (.int .i64 7)), (2, .tmp 87)] ?_
      refine WL.ef rfl rfl qD (Ef.buildSliceD (enc := encP) (parts := [.tmp 88]) [⟨(q : Int), 7, (nth fs q).f.hi⟩] tab_ok rfl rfl rfl rfl rfl rfl rfl rfl qD qD (fun a89 => ?_))
      first | refine WL.ef rfl rfl (by decide) (Ef.appendD 1 0 tab_ok rfl rfl rfl rfl rfl rfl rfl rfl rfl rfl rfl (fun _ _ => rfl) (by simp only [List.length_cons, List.length_nil]; omega) (by simp only [List.length_cons, List.length_nil]; omega) (fun a90 c90 ha90 => ?_)) | refine WL.ef rfl rfl (by decide) (Ef.appendD 2 0 tab_ok rfl rfl rfl rfl rfl rfl rfl rfl rfl rfl rfl (fun _ _ => rfl) (by simp only [List.length_cons, List.length_nil]; omega) (by simp only [List.length_cons, List.length_nil]; omega) (fun a90 c90 ha90 => ?_)) | refine WL.ef rfl rfl (by decide) (Ef.appendD 3 0 tab_ok rfl rfl rfl rfl rfl rfl rfl rfl rfl rfl rfl (fun _ _ => rfl) (by simp only [List.length_cons, List.length_nil]; omega) (by simp only [List.length_cons, List.length_nil]; omega) (fun a90 c90 ha90 => ?_)) | refine WL.ef rfl rfl (by decide) (Ef.appendD 4 0 tab_ok rfl rfl rfl rfl rfl rfl rfl rfl rfl rfl rfl (fun _ _ => rfl) (by simp only [List.length_cons, List.length_nil]; omega) (by simp only [List.length_cons, List.length_nil]; omega) (fun a90 c90 ha90 => ?_)) | refine WL.ef rfl rfl (by decide) (Ef.appendD 5 0 tab_ok rfl rfl rfl rfl rfl rfl rfl rfl rfl rfl rfl (fun _ _ => rfl) (by simp only [List.length_cons, List.length_nil]; omega) (by simp only [List.length_cons, List.length_nil]; omega) (fun a90 c90 ha90 => ?_)) | refine WL.ef rfl rfl (by decide) (Ef.appendR 0 tab_ok rfl rfl rfl rfl rfl rfl rfl rfl rfl rfl (by assumption) (fun _ _ => rfl) (by (try dsimp only); omega) (by omega) (fun a90 c90 ha90 => ?_)) | refine WL.ef rfl rfl (by decide) (Ef.appendR 1 tab_ok rfl rfl rfl rfl rfl rfl rfl rfl rfl rfl (by assumption) (fun _ _ => rfl) (by (try dsimp only); omega) (by omega) (fun a90 c90 ha90 => ?_)) | refine WL.ef rfl rfl (by decide) (Ef.appendR 2 tab_ok rfl rfl rfl rfl rfl rfl rfl rfl rfl rfl (by assumption) (fun _ _ => rfl) (by (try dsimp only); omega) (by omega) (fun a90 c90 ha90 => ?_)) | refine WL.ef rfl rfl (by decide) (Ef.appendR 3 tab_ok rfl rfl rfl rfl rfl rfl rfl rfl rfl rfl (by assumption) (fun _ _ => rfl) (by (try dsimp only); omega) (by omega) (fun a90 c90 ha90 => ?_)) | refine WL.ef rfl rfl (by decide) (Ef.appendR 4 tab_ok rfl rfl rfl rfl rfl rfl rfl rfl rfl rfl (by assumption) (fun _ _ => rfl) (by (try dsimp only); omega) (by omega) (fun a90 c90 ha90 => ?_)) | refine WL.ef rfl rfl (by decide) (Ef.appendR 5 tab_ok rfl rfl rfl rfl rfl rfl rfl rfl rfl rfl (by assumption) (fun _ _ => rfl) (by (try dsimp only); omega) (by omega) (fun a90 c90 ha90 => ?_))
      refine zR 1 rfl (zN (zL (zU (zG (zR 2 rfl ?_)))))
      refine yD (r := by apply Rd.add; (first | exact Rd.blk 0 rfl | exact Rd.blk 1 rfl | exact Rd.blk 2 rfl | exact Rd.blk 3 rfl | exact Rd.blk 4 rfl | exact Rd.blk 5 rfl)) (k := ?_)
      refine zR 1 rfl ?_
      refine yI ?_
      refine zR 2 rfl ?_
      refine yD (r := by apply Rd.add; apply Rd.add; (first | (apply RS.rdD; assumption; ((try dsimp only) <;> omega)) | exact Rd.slD 0 rfl qX | exact Rd.slD 1 rfl qX | exact Rd.slD 2 rfl qX | exact Rd.slD 3 rfl qX | exact Rd.slD 4 rfl qX | exact Rd.slD 5 rfl qX)) (k := ?_)
      refine yA ?_
      refine zR 1 rfl (zN ?_)
      rw [← bst_snoc]
      refine WE.again ((n + 1, sm + (nth fs q).f.hi, a90, c90)) (⟨by (try dsimp only); omega, by (try dsimp only); rw [hsm, show ((n + 1 : Nat) : Int) = (n : Int) + 1 from rfl, Int.add_mul]; omega, by (try dsimp only); omega, by (try dsimp only); omega⟩) (by (try dsimp only); omega) ⟨rfl, rfl, rfl, rfl, rfl⟩ (RLe.refl _) qS
     ·try dsimp only at hc4
      have hn0 : 1 ≤ n := by
       rcases Nat.eq_zero_or_pos n with h | h
       ·subst h; simp at hsm; omega
       ·exact h
      have hww : cvF (nth fs q).f.cv 1 < (n : Int) * (nth fs q).f.hi := by omega
      refine W.freeze (enc := encP) (xs := bst n q (nth fs q).f.hi) 0 rfl ?_
      intro R8 hR8 hbp
      have hz := hz.mono hR8
      have hna := hna.mono hR8
      have hla := hla.mono hR8
      have hfa := hfa.mono hR8
      have hokn := fun m hm => (hokn m hm).mono hR8
      have hof := fun x hx => (hof x hx).mono hR8
      obtain ⟨hgb, hokb, henb⟩ := bst_good (n := n) hszf hqf ⟨hn0, by omega⟩
      refine zX ?_
      refine wx (wx (zY (zU (zQ (zG (zR 4 rfl ?_))))))
      refine yJ (r := by (first | exact Rd.blkC 0 rfl | exact Rd.blkC 1 rfl | exact Rd.blkC 2 rfl | exact Rd.blkC 3 rfl | exact Rd.blkC 4 rfl | exact Rd.blkC 5 rfl)) (k := ?_)
      refine yP ?_
      refine WL.callT en12 rfl (by simp [bst_len]; omega) rfl (by decide) (CallOp.mk' rfl rfl rfl rfl) (by simp [bst_len]; omega) (OKeep_C (nc := nc) (lc := lc) (fc := fc) hbp hna hla hfa hokn hof hnl hck hgb hokb (fun m hm => ⟨(hcvs m hm).1, (hcvs m hm).2.1⟩) henb (by decide) w0 _) ?_
      rintro _ R9 E9 hR9 ⟨b3, rfl, _, hk4, hsub9⟩
      obtain rfl := keep_false hszf hqf hn0 hww hk4
      refine WL.subE hsub9 ?_
      refine yP ?_
      refine yP ?_
      refine WG.callV (v := .bool true) en5 rfl rfl qD (CallOp.mk' rfl rfl rfl rfl) qE (fun hg => I.Made_V) ?_
      refine yN ?_
      refine yO ?_
      refine zR 1 rfl (zN (zU (zT ?_)))
      refine zq1 (by first | exact RLe.refl _ | exact (hR1.trans hR24).trans hR57 | exact (((hR1.trans hR24).trans hR57).trans hR8).trans hR9 | exact ((hR1.trans hR24).trans hR57).trans hR8) ?_
      first | exact rfl | (show Value.bool _ = Value.bool true; simp)
end Go.Proofs.YtehaepbflkncdaaGreat
namespace Go.Proofs.YtehaepbflkncdaaGreat
open Go Go.RowKit Go.ChangeShapes Go.WideShapes Go.ChangeAt Go.WideElems Go.Maps Go.Proofs.YtehaepbflkncdaaGreat.K Go.Proofs.YtehaepbflkncdaaGreat.M
namespace topGreedy
theorem own : ownKnob Tryz.prog.godebug = none := by kernel_rfl
theorem laidOut : laidOutB Tryz.prog = true := by kernel_rfl
theorem readable : (Tryz.f4.params.toList).all (fun t => Tryz.prog.readableRec t && decide (t < Tryz.prog.types.size)) = true := by kernel_rfl
theorem cellsI : Tryz.prog.cellsOf 3 = 1 := by kernel_rfl
section
variable {H : Type} {enc : TypeId × Value → H}
theorem flat_ints : Flat enc Tryz.prog 3 1 := flat_int Tryz.underlying3
theorem cells_ints : Tryz.prog.cellsOf 3 = 1 := by kernel_rfl
end
set_option maxRecDepth 100000 in
theorem lifted (os : Os) (started : os.Started) (H : Type) (enc : TypeId × Value → H) :
  ReturnsInHanded {} Tryz.checked os 4 .any (Rows.topGreedySpec.pre6 enc Tryz.prog Tryz.f4 Rows.topGreedyRow.domain false) (Rows.topGreedySpec.post enc Tryz.prog Tryz.f4 false true false false) := by
 refine returnsInHanded_of_change (C := Tryz.checked) own started (by kernel_rfl) Tryz.func4
  (ChangeSpec.witness6 (enc := enc) (C := Tryz.checked) false ⟨#[], #[.slice none 0 0, .int .u8 0], []⟩ 8 (by kernel_rfl) (by kernel_rfl) (by kernel_rfl) (by kernel_rfl)) ?_
 intro W base args ds gs before hval0 hW _ _
 have hval : ∀ (j : Nat) t v, Tryz.f4.params[j]? = some t → args[j]? = some v → Value.okWide Tryz.prog W .any base t v := hval0
 have hW' := hW
 obtain ⟨p, q, hA0, hV, rfl, _, _⟩ := hW
 have hA : DataW.TrodAll enc Tryz.prog W 0 (fun _ => true) true Tryz.f4.params.toList args.toList ds p := hA0
 have hA1 := hA
 obtain ⟨rfl, rfl⟩ := trodVars_none hV
 simp only [List.append_nil] at hW'
 have hlt : ∀ x ∈ p, x.block < W.heap.size := fun x hx => by simpa using hW'.lt x hx
 have hcarry : ∀ W', Below W.heap.size W W' → DataW.TrodAll enc Tryz.prog W' 0 (fun b => decide (b < W.heap.size)) true Tryz.f4.params.toList args.toList ds p := fun W' hb => carryAll laidOut readable hA1 hb hlt
 clear hA0 hval0 hA1
 rw [Tryz.params4] at hA
 obtain ⟨v0, vs0, d0, ds0, p0, q0, e0, rfl, e20, h0, t0⟩ := trodAll_cons hA
 obtain ⟨v1, vs1, d1, ds1, p1, q1, rfl, rfl, e21, h1, t1⟩ := trodAll_cons t0
 obtain ⟨rfl, rfl, _⟩ := trodAll_nil t1
 have hargs : args = #[v0, v1] := by rw [← Array.toArray_toList (xs := args), e0]
 subst hargs
 obtain ⟨a0, cp0, zs0, rfl, c0, l0, m0, r0⟩ := open_flat Tryz.underlying22 (by decide) cells_ints flat_ints (hval 0 22 _ rfl rfl) h0
 have g0 : RS (roOf W) 1 encI a0 (zs0.map decI) := RS.ofFlat m0 l0 decI_enc
 have n0 : (zs0.map decI).length = zs0.length := by simp
 rw [← n0] at c0
 obtain ⟨z1, rfl, _, _, w1⟩ := open_int Tryz.underlying5 (hval 1 5 _ rfl rfl) h1
 have r1 := bounds_u8 w1
 have hcall := lift_calls (P := Tryz.prog) (f := 4) (args := [.slice a0 (zs0.map decI).length cp0, .int .u8 z1]) (W := W) (TopGreedy_F g0 r1 c0 W)
 simp only [List.length_map] at hcall
 refine hcall.mono fun e W' ⟨he, hb⟩ => ?_
 subst he
 exact ⟨_, rfl, ⟨_, _, _, [], _, [], hW', trodAll_mk1 (shut_bool Tryz.underlying4 _), hcarry W' hb, rfl, hb.frame _, fun h => by cases h⟩⟩
end topGreedy
theorem topGreedy_holds : Rows.TopGreedySaid :=
 OpenClaim.holds_of_wide 4 Tryz.f4 rfl rfl rfl rfl rfl rfl rfl ⟨rfl, rfl, rfl, rfl, rfl⟩ rfl rfl rfl rfl rfl (by kernel_rfl) Tryz.func4 (by kernel_rfl)
  (of_decide_eq_true (by kernel_rfl)) (by unfold Func.isWrapper; first | (rw [if_pos (by decide +kernel)]; kernel_rfl) | (rw [if_neg (by decide +kernel)]; exact ⟨rfl, rfl⟩))
  (fun os started H enc _ => topGreedy.lifted os started H enc)
end Go.Proofs.YtehaepbflkncdaaGreat