/- Rules and walks, joined from 17 texts: the first of them says: The reader of words: a curve. No condition. -/
import Derived.Test.YtejpkjapmhpmpaaDoorG5
/- The reader of words: a curve. No condition. -/
set_option maxRecDepth 4000
set_option linter.unusedSimpArgs false
set_option linter.unusedVariables false
namespace Go.Proofs.YtejpkjapmhpmpaaDoor
open Go Go.RowKit Go.Proofs.YtejpkjapmhpmpaaDoor.K Go.Proofs.YtejpkjapmhpmpaaDoor.M

set_option maxHeartbeats 2000000 in
theorem CurveR_C {R : Ro} {b : Nat} {a : Option Addr} {cp : Nat} {ws : List (List UInt8)} {size : Nat} (w0 : World) (hws : RS R 1 encT a ws) (hsz : size ≤ 1000000) (hG : GlobE R) (hrm : remL ws ≤ 10000) (F : List Ent) : FnX Tryd.prog 38 [.pointer (some ⟨b, 0, none⟩)] w0 R (rdE b a cp ws 0 0 size :: F) (fun v R' E' => ∃ (c : Cv) (f : Option Addr) (fc : Nat), v = .agg #[.slice f c.vals.length fc, .int .i64 c.per, .int .i64 c.inc] ∧ RS R' 1 encI f c.vals ∧ c.vals.length ≤ fc ∧ c.vals.length ≤ 10000 ∧ parseGo size 0 [] 0 0 0 ws = (c, 0, 0) ∧ F.Sublist E') (fun v R' E' => ∃ (p : Nat) (e : Int), v = failV p e ∧ parseGo size 0 [] 0 0 0 ws = (zcv, p, e) ∧ e ≠ 0 ∧ F.Sublist E') := by
 have hwl := hws.len
 have hlw : ∀ w ∈ ws, w.length ≤ 1000000 := fun w hw => by have := remL_mem hw; omega
 have hwn := remL_len ws
 refine FnX.enter (n := 55) Tryd.func38 rfl rfl (Nat.le_of_ble_eq_true rfl) rfl ?_
 refine zQ (zG ?_)
 refine zA fun b2 => ?_
 refine zN (zU ?_)
 refine W.nil 3 1 qD ?_
 refine zQ (zG ?_)
 refine zA fun b3 => ?_
 refine zN (zU (zQ (zB ?_)))
 refine W.loopK (β := List Int × Option Addr × Nat × Nat × Nat) (fun (vs, a9, c9, k, p) => Rdr size ws (whV vs) vs 0 0 p k) (fun (vs, a9, c9, k, p) => []) [0, 2, 3] [_, _, _] [] _ rfl (fun (vs, a9, c9, k, p) => [(0, .blk b3 [.slice a9 (vs).length c9, .int .i64 0, .int .i64 0]), (1, .sl 3 1 a9 c9 ((vs).map encI)), (3, rdE b a cp ws k p size)]) (fun (vs, a9, c9, k, p) => ws.length - k) (([], none, 0, 0, 0)) (Rdr.start hrm) ⟨rfl, rfl, rfl, rfl⟩ qS ?_
 intro zz hst
 obtain ⟨vs, a9, c9, k, p⟩ := zz
 dsimp only [zipE, setAll, List.cons_append, List.nil_append, List.set_cons_zero, List.set_cons_succ] at hst ⊢
 have hr := hst
 have hw1 := whV_le vs
 have hvl := hr.len
 have hkl := hr.le
 refine zQ (zQ (zG (zR 1 rfl ?_)))
 refine WL.callXAt 3 en46 rfl rfl qD (CallOp.mkT rfl rfl rfl rfl) rfl (Need_C w0 hws hsz _) ?_ ?_
 ·
  rintro _ _ _ - ⟨rfl, hk, rfl, rfl⟩
  refine WE.then_panic ?_
  refine WE.then_panic ?_
  refine WE.then_panic ?_
  refine WE.blk_panic ?_
  refine WE.then_panic ?_
  refine WE.panicX (by first | exact RLe.refl _ | exact hR1) ?_
  exact ⟨_, _, rfl, hr.eof hk qO, by decide, qS⟩
 rintro _ _ _ _ - ⟨rfl, hk, rfl, rfl, rfl⟩
 refine WG.y rfl rfl qD (Yl.neS rfl rfl rfl (fun _ => rfl)) ?_
 refine zR 1 rfl ?_
 refine yP ?_
 refine' WG.y rfl rfl qD (Yl.loadG tab_ok rfl rfl rfl qE ?r1 rfl ?h1 ?g1) ?_
 case r1 => apply Rd.addC; (first | exact Rd.blkC 0 rfl | exact Rd.blkC 1 rfl | exact Rd.blkC 2 rfl | exact Rd.blkC 3 rfl | exact Rd.blkC 4 rfl)
 case h1 => rfl
 case g1 => first | exact fun _ => trivial | (intro hg; (try simp only [zk] at hg); (try dsimp only); omega)
 refine yP ?_
 refine yP ?_
 refine yO ?_
 refine zN (zU ?_)
 refine W.cond rfl (fun hc0 => ?_) (fun hc0 => ?_)
 ·try simp only [zk] at hc0
  have hnp : whV vs = 1 → nth ws k ≠ wPer := fun h e => by
   rcases hc0 with h0 | h0
   ·exact h0 (by rw [e]; rfl)
   ·have : vs = [] := List.eq_nil_of_length_eq_zero (by omega)
    rw [this] at h; cases h
  refine zK (zU (zB (zQ (zQ (zG (zR 1 rfl ?_))))))
  refine WL.callXAt 3 en46 rfl rfl qD (CallOp.mkT rfl rfl rfl rfl) rfl (Need_C w0 hws hsz _) ?_ ?_
  ·
   rintro _ _ _ - ⟨rfl, hk, rfl, rfl⟩
   refine WE.then_panic ?_
   refine WE.then_panic ?_
   refine WE.blk_panic ?_
   refine WE.then_panic ?_
   refine WE.blk_panic ?_
   refine WE.then_panic ?_
   refine WE.panicX (by first | exact RLe.refl _ | exact hR1) ?_
   exact ⟨_, _, rfl, hr.eof hk qO, by decide, qS⟩
  rintro _ _ _ _ - ⟨rfl, hk, rfl, rfl, rfl⟩
  refine WG.y rfl rfl qD (Yl.eqS rfl rfl rfl (fun _ => rfl)) ?_
  refine zN (zU ?_)
  refine W.cond rfl (fun hc1 => ?_) (fun hc1 => ?_)
  ·try simp only [zk] at hc1
   have hinf : nth ws k = wInf := str_inj (b := wInf) hc1
   refine zQ (zG (zR 1 rfl ?_))
   refine' WG.y rfl rfl qD (Yl.load1 tab_ok rfl rfl rfl (fun _ => rfl) ?r2 rfl ?h2) ?_
   case r2 => apply Rd.add; (first | exact Rd.blk 0 rfl | exact Rd.blk 1 rfl | exact Rd.blk 2 rfl | exact Rd.blk 3 rfl | exact Rd.blk 4 rfl)
   case h2 => rfl
   refine WL.ef rfl rfl qD (Ef.buildSliceD (enc := encI) (parts := [.const (.int .i64 4611686018427387904)]) [_] tab_ok rfl rfl rfl rfl rfl rfl rfl rfl qD qD (fun a20 => ?_))
   first | refine WL.ef rfl rfl (by decide) (Ef.appendD 1 0 tab_ok rfl rfl rfl rfl rfl rfl rfl rfl rfl rfl rfl (fun _ _ => rfl) (by simp only [List.length_cons, List.length_nil]; omega) (by simp only [List.length_cons, List.length_nil]; omega) (fun a21 c21 ha21 => ?_)) | refine WL.ef rfl rfl (by decide) (Ef.appendD 2 0 tab_ok rfl rfl rfl rfl rfl rfl rfl rfl rfl rfl rfl (fun _ _ => rfl) (by simp only [List.length_cons, List.length_nil]; omega) (by simp only [List.length_cons, List.length_nil]; omega) (fun a21 c21 ha21 => ?_)) | refine WL.ef rfl rfl (by decide) (Ef.appendD 3 0 tab_ok rfl rfl rfl rfl rfl rfl rfl rfl rfl rfl rfl (fun _ _ => rfl) (by simp only [List.length_cons, List.length_nil]; omega) (by simp only [List.length_cons, List.length_nil]; omega) (fun a21 c21 ha21 => ?_)) | refine WL.ef rfl rfl (by decide) (Ef.appendD 4 0 tab_ok rfl rfl rfl rfl rfl rfl rfl rfl rfl rfl rfl (fun _ _ => rfl) (by simp only [List.length_cons, List.length_nil]; omega) (by simp only [List.length_cons, List.length_nil]; omega) (fun a21 c21 ha21 => ?_)) | refine WL.ef rfl rfl (by decide) (Ef.appendR 0 tab_ok rfl rfl rfl rfl rfl rfl rfl rfl rfl rfl (by assumption) (fun _ _ => rfl) (by (try dsimp only); omega) (by omega) (fun a21 c21 ha21 => ?_)) | refine WL.ef rfl rfl (by decide) (Ef.appendR 1 tab_ok rfl rfl rfl rfl rfl rfl rfl rfl rfl rfl (by assumption) (fun _ _ => rfl) (by (try dsimp only); omega) (by omega) (fun a21 c21 ha21 => ?_)) | refine WL.ef rfl rfl (by decide) (Ef.appendR 2 tab_ok rfl rfl rfl rfl rfl rfl rfl rfl rfl rfl (by assumption) (fun _ _ => rfl) (by (try dsimp only); omega) (by omega) (fun a21 c21 ha21 => ?_)) | refine WL.ef rfl rfl (by decide) (Ef.appendR 3 tab_ok rfl rfl rfl rfl rfl rfl rfl rfl rfl rfl (by assumption) (fun _ _ => rfl) (by (try dsimp only); omega) (by omega) (fun a21 c21 ha21 => ?_)) | refine WL.ef rfl rfl (by decide) (Ef.appendR 4 tab_ok rfl rfl rfl rfl rfl rfl rfl rfl rfl rfl (by assumption) (fun _ _ => rfl) (by (try dsimp only); omega) (by omega) (fun a21 c21 ha21 => ?_))
   refine zR 1 rfl ?_
   first | refine WL.efN rfl rfl (Ef.store 0 tab_ok rfl rfl rfl rfl rfl rfl rfl rfl ?_) | refine WL.efN rfl rfl (Ef.store 1 tab_ok rfl rfl rfl rfl rfl rfl rfl rfl ?_) | refine WL.efN rfl rfl (Ef.store 2 tab_ok rfl rfl rfl rfl rfl rfl rfl rfl ?_) | refine WL.efN rfl rfl (Ef.store 3 tab_ok rfl rfl rfl rfl rfl rfl rfl rfl ?_) | refine WL.efN rfl rfl (Ef.store 4 tab_ok rfl rfl rfl rfl rfl rfl rfl rfl ?_)
   refine zN (zU (zQ (zG (zR 1 rfl ?_))))
   refine WL.callAt 4 en47 rfl rfl qD (CallOp.mkT rfl rfl rfl rfl) rfl (Skip_C w0 hws hsz hk (hr.at_le hk) _) ?_
   rintro _ _ _ _ - ⟨rfl, rfl, rfl, rfl⟩
   refine zN (zU ?_)
   refine zX ?_
   refine wx (zY ?_)
   refine WE.again ((vs ++ [INF], a21, c21, k + 1, p + (nth ws k).length + 1)) (by (try dsimp only); rw [whV_snoc]; exact hr.infS hk hw1 hinf) (by (try dsimp only); omega) ⟨rfl, rfl, rfl, rfl⟩ (RLe.refl _) qS
  ·try simp only [zk] at hc1
   have hinf : nth ws k ≠ wInf := fun e => hc1 (by rw [e]; rfl)
   refine zK (zU ?_)
   refine W.regionX _ (ES := []) mixed ?_
   refine WAX.take 0 rfl qK qK qK rfl rfl qD (pureV_ok tab_ok rfl (fun _ => rfl)) qS qR ?_
   refine WAX.take 2 rfl qK qK qK rfl rfl qD (pureV_ok tab_ok rfl (fun _ => rfl)) qS qR ?_
   refine WAX.br2 (i := 1) (j := 3) qK ?_ ?_
   ·
    refine' WSX.yl rfl rfl rfl qD (Yl.load1 tab_ok rfl rfl rfl (fun _ => rfl) ?r3 rfl ?h3) qS qR ?_
    case r3 => apply Rd.add; (first | exact Rd.blk 0 rfl | exact Rd.blk 1 rfl | exact Rd.blk 2 rfl | exact Rd.blk 3 rfl | exact Rd.blk 4 rfl)
    case h3 => rfl
    refine WAX.one (i := 3) qK ?_
    first | refine WSX.callXAt 3 rfl en48 rfl rfl qD (CallOp.mkT rfl rfl rfl rfl) rfl (Number_C w0 hws hsz hG hlw hr.at_le _) ?_ ?_
    ·
     rintro _ _ _ - ⟨rfl, hn, rfl, rfl⟩
     refine WE.blk_panic ?_
     refine WE.then_panic ?_
     refine WE.blk_panic ?_
     refine WE.then_panic ?_
     refine WE.panicX (by first | exact RLe.refl _ | exact hR1) ?_
     exact ⟨_, _, rfl, hr.numErr qO (fun _ _ => hinf) (fun _ h => hnp h) hn, hn, qS⟩
    rintro _ _ _ _ - ⟨rfl, hk2, hn2, rfl, rfl, rfl⟩
    refine ⟨RLe.refl _, List.nil_sublist _, ?_⟩
    refine WA.eff 4 rfl qK rfl rfl qD (Ef.buildSliceD (enc := encI) (parts := [.tmp 28]) [_] tab_ok rfl rfl rfl rfl rfl rfl rfl rfl qD qD (fun a29 => ?_))
    refine ⟨qR, qS, ?_⟩
    first | refine WA.eff 5 rfl (by kernel_rfl) rfl rfl (by decide) (Ef.appendD 1 0 tab_ok rfl rfl rfl rfl rfl rfl rfl rfl rfl rfl rfl (fun _ _ => rfl) (by simp only [List.length_cons, List.length_nil]; omega) (by simp only [List.length_cons, List.length_nil]; omega) (fun a30 c30 ha30 => ?_)) | refine WA.eff 5 rfl (by kernel_rfl) rfl rfl (by decide) (Ef.appendD 2 0 tab_ok rfl rfl rfl rfl rfl rfl rfl rfl rfl rfl rfl (fun _ _ => rfl) (by simp only [List.length_cons, List.length_nil]; omega) (by simp only [List.length_cons, List.length_nil]; omega) (fun a30 c30 ha30 => ?_)) | refine WA.eff 5 rfl (by kernel_rfl) rfl rfl (by decide) (Ef.appendD 3 0 tab_ok rfl rfl rfl rfl rfl rfl rfl rfl rfl rfl rfl (fun _ _ => rfl) (by simp only [List.length_cons, List.length_nil]; omega) (by simp only [List.length_cons, List.length_nil]; omega) (fun a30 c30 ha30 => ?_)) | refine WA.eff 5 rfl (by kernel_rfl) rfl rfl (by decide) (Ef.appendD 4 0 tab_ok rfl rfl rfl rfl rfl rfl rfl rfl rfl rfl rfl (fun _ _ => rfl) (by simp only [List.length_cons, List.length_nil]; omega) (by simp only [List.length_cons, List.length_nil]; omega) (fun a30 c30 ha30 => ?_)) | refine WA.eff 5 rfl (by kernel_rfl) rfl rfl (by decide) (Ef.appendR 0 tab_ok rfl rfl rfl rfl rfl rfl rfl rfl rfl rfl (by assumption) (fun _ _ => rfl) (by (try dsimp only); omega) (by omega) (fun a30 c30 ha30 => ?_)) | refine WA.eff 5 rfl (by kernel_rfl) rfl rfl (by decide) (Ef.appendR 1 tab_ok rfl rfl rfl rfl rfl rfl rfl rfl rfl rfl (by assumption) (fun _ _ => rfl) (by (try dsimp only); omega) (by omega) (fun a30 c30 ha30 => ?_)) | refine WA.eff 5 rfl (by kernel_rfl) rfl rfl (by decide) (Ef.appendR 2 tab_ok rfl rfl rfl rfl rfl rfl rfl rfl rfl rfl (by assumption) (fun _ _ => rfl) (by (try dsimp only); omega) (by omega) (fun a30 c30 ha30 => ?_)) | refine WA.eff 5 rfl (by kernel_rfl) rfl rfl (by decide) (Ef.appendR 3 tab_ok rfl rfl rfl rfl rfl rfl rfl rfl rfl rfl (by assumption) (fun _ _ => rfl) (by (try dsimp only); omega) (by omega) (fun a30 c30 ha30 => ?_)) | refine WA.eff 5 rfl (by kernel_rfl) rfl rfl (by decide) (Ef.appendR 4 tab_ok rfl rfl rfl rfl rfl rfl rfl rfl rfl rfl (by assumption) (fun _ _ => rfl) (by (try dsimp only); omega) (by omega) (fun a30 c30 ha30 => ?_))
    refine ⟨qR, qS, ?_⟩
    refine tP 6 ?_
    first | refine WA.effN 7 rfl qK rfl rfl (Ef.store 0 tab_ok rfl rfl rfl rfl rfl rfl rfl rfl ?_) | refine WA.effN 7 rfl qK rfl rfl (Ef.store 1 tab_ok rfl rfl rfl rfl rfl rfl rfl rfl ?_) | refine WA.effN 7 rfl qK rfl rfl (Ef.store 2 tab_ok rfl rfl rfl rfl rfl rfl rfl rfl ?_) | refine WA.effN 7 rfl qK rfl rfl (Ef.store 3 tab_ok rfl rfl rfl rfl rfl rfl rfl rfl ?_) | refine WA.effN 7 rfl qK rfl rfl (Ef.store 4 tab_ok rfl rfl rfl rfl rfl rfl rfl rfl ?_)
    refine ⟨qR, qS, ?_⟩
    refine WA.done qK ?_
    refine zL ?_
    refine WE.again ((vs ++ [(numV (nth ws k) : Int)], a30, c30, k + 1, p + (nth ws k).length + 1)) (by (try dsimp only); rw [whV_snoc]; exact hr.val hk hw1 hn2) (by (try dsimp only); omega) ⟨rfl, rfl, rfl, rfl⟩ (RLe.refl _) qS
   ·
    first | refine WSX.callXAt 3 rfl en48 rfl rfl qD (CallOp.mkT rfl rfl rfl rfl) rfl (Number_C w0 hws hsz hG hlw hr.at_le _) ?_ ?_
    ·
     rintro _ _ _ - ⟨rfl, hn, rfl, rfl⟩
     refine WE.blk_panic ?_
     refine WE.then_panic ?_
     refine WE.blk_panic ?_
     refine WE.then_panic ?_
     refine WE.panicX (by first | exact RLe.refl _ | exact hR1) ?_
     exact ⟨_, _, rfl, hr.numErr qO (fun _ _ => hinf) (fun _ h => hnp h) hn, hn, qS⟩
    rintro _ _ _ _ - ⟨rfl, hk2, hn2, rfl, rfl, rfl⟩
    refine ⟨RLe.refl _, List.nil_sublist _, ?_⟩
    refine WA.br2 (i := 1) (j := 4) qK ?_ ?_
    ·
     refine' WS.yl rfl rfl rfl qD (Yl.load1 tab_ok rfl rfl rfl (fun _ => rfl) ?r4 rfl ?h4) qS qR ?_
     case r4 => apply Rd.add; (first | exact Rd.blk 0 rfl | exact Rd.blk 1 rfl | exact Rd.blk 2 rfl | exact Rd.blk 3 rfl | exact Rd.blk 4 rfl)
     case h4 => rfl
     refine WA.eff 4 rfl qK rfl rfl qD (Ef.buildSliceD (enc := encI) (parts := [.tmp 28]) [_] tab_ok rfl rfl rfl rfl rfl rfl rfl rfl qD qD (fun a29 => ?_))
     refine ⟨qR, qS, ?_⟩
     first | refine WA.eff 5 rfl (by kernel_rfl) rfl rfl (by decide) (Ef.appendD 1 0 tab_ok rfl rfl rfl rfl rfl rfl rfl rfl rfl rfl rfl (fun _ _ => rfl) (by simp only [List.length_cons, List.length_nil]; omega) (by simp only [List.length_cons, List.length_nil]; omega) (fun a30 c30 ha30 => ?_)) | refine WA.eff 5 rfl (by kernel_rfl) rfl rfl (by decide) (Ef.appendD 2 0 tab_ok rfl rfl rfl rfl rfl rfl rfl rfl rfl rfl rfl (fun _ _ => rfl) (by simp only [List.length_cons, List.length_nil]; omega) (by simp only [List.length_cons, List.length_nil]; omega) (fun a30 c30 ha30 => ?_)) | refine WA.eff 5 rfl (by kernel_rfl) rfl rfl (by decide) (Ef.appendD 3 0 tab_ok rfl rfl rfl rfl rfl rfl rfl rfl rfl rfl rfl (fun _ _ => rfl) (by simp only [List.length_cons, List.length_nil]; omega) (by simp only [List.length_cons, List.length_nil]; omega) (fun a30 c30 ha30 => ?_)) | refine WA.eff 5 rfl (by kernel_rfl) rfl rfl (by decide) (Ef.appendD 4 0 tab_ok rfl rfl rfl rfl rfl rfl rfl rfl rfl rfl rfl (fun _ _ => rfl) (by simp only [List.length_cons, List.length_nil]; omega) (by simp only [List.length_cons, List.length_nil]; omega) (fun a30 c30 ha30 => ?_)) | refine WA.eff 5 rfl (by kernel_rfl) rfl rfl (by decide) (Ef.appendR 0 tab_ok rfl rfl rfl rfl rfl rfl rfl rfl rfl rfl (by assumption) (fun _ _ => rfl) (by (try dsimp only); omega) (by omega) (fun a30 c30 ha30 => ?_)) | refine WA.eff 5 rfl (by kernel_rfl) rfl rfl (by decide) (Ef.appendR 1 tab_ok rfl rfl rfl rfl rfl rfl rfl rfl rfl rfl (by assumption) (fun _ _ => rfl) (by (try dsimp only); omega) (by omega) (fun a30 c30 ha30 => ?_)) | refine WA.eff 5 rfl (by kernel_rfl) rfl rfl (by decide) (Ef.appendR 2 tab_ok rfl rfl rfl rfl rfl rfl rfl rfl rfl rfl (by assumption) (fun _ _ => rfl) (by (try dsimp only); omega) (by omega) (fun a30 c30 ha30 => ?_)) | refine WA.eff 5 rfl (by kernel_rfl) rfl rfl (by decide) (Ef.appendR 3 tab_ok rfl rfl rfl rfl rfl rfl rfl rfl rfl rfl (by assumption) (fun _ _ => rfl) (by (try dsimp only); omega) (by omega) (fun a30 c30 ha30 => ?_)) | refine WA.eff 5 rfl (by kernel_rfl) rfl rfl (by decide) (Ef.appendR 4 tab_ok rfl rfl rfl rfl rfl rfl rfl rfl rfl rfl (by assumption) (fun _ _ => rfl) (by (try dsimp only); omega) (by omega) (fun a30 c30 ha30 => ?_))
     refine ⟨qR, qS, ?_⟩
     refine tP 6 ?_
     first | refine WA.effN 7 rfl qK rfl rfl (Ef.store 0 tab_ok rfl rfl rfl rfl rfl rfl rfl rfl ?_) | refine WA.effN 7 rfl qK rfl rfl (Ef.store 1 tab_ok rfl rfl rfl rfl rfl rfl rfl rfl ?_) | refine WA.effN 7 rfl qK rfl rfl (Ef.store 2 tab_ok rfl rfl rfl rfl rfl rfl rfl rfl ?_) | refine WA.effN 7 rfl qK rfl rfl (Ef.store 3 tab_ok rfl rfl rfl rfl rfl rfl rfl rfl ?_) | refine WA.effN 7 rfl qK rfl rfl (Ef.store 4 tab_ok rfl rfl rfl rfl rfl rfl rfl rfl ?_)
     refine ⟨qR, qS, ?_⟩
     refine WA.done qK ?_
     refine zL ?_
     refine WE.again ((vs ++ [(numV (nth ws k) : Int)], a30, c30, k + 1, p + (nth ws k).length + 1)) (by (try dsimp only); rw [whV_snoc]; exact hr.val hk hw1 hn2) (by (try dsimp only); omega) ⟨rfl, rfl, rfl, rfl⟩ (RLe.refl _) qS
    ·
     refine WS.eff rfl rfl rfl qD (Ef.buildSliceD (enc := encI) (parts := [.tmp 28]) [_] tab_ok rfl rfl rfl rfl rfl rfl rfl rfl qD qD (fun a29 => ?_))
     refine ⟨qR, qS, ?_⟩
     refine' WA.yl 1 rfl qK rfl rfl qD (Yl.load1 tab_ok rfl rfl rfl (fun _ => rfl) ?r5 rfl ?h5) qS qR ?_
     case r5 => apply Rd.add; (first | exact Rd.blk 0 rfl | exact Rd.blk 1 rfl | exact Rd.blk 2 rfl | exact Rd.blk 3 rfl | exact Rd.blk 4 rfl)
     case h5 => rfl
     first | refine WA.eff 5 rfl (by kernel_rfl) rfl rfl (by decide) (Ef.appendD 1 0 tab_ok rfl rfl rfl rfl rfl rfl rfl rfl rfl rfl rfl (fun _ _ => rfl) (by simp only [List.length_cons, List.length_nil]; omega) (by simp only [List.length_cons, List.length_nil]; omega) (fun a30 c30 ha30 => ?_)) | refine WA.eff 5 rfl (by kernel_rfl) rfl rfl (by decide) (Ef.appendD 2 0 tab_ok rfl rfl rfl rfl rfl rfl rfl rfl rfl rfl rfl (fun _ _ => rfl) (by simp only [List.length_cons, List.length_nil]; omega) (by simp only [List.length_cons, List.length_nil]; omega) (fun a30 c30 ha30 => ?_)) | refine WA.eff 5 rfl (by kernel_rfl) rfl rfl (by decide) (Ef.appendD 3 0 tab_ok rfl rfl rfl rfl rfl rfl rfl rfl rfl rfl rfl (fun _ _ => rfl) (by simp only [List.length_cons, List.length_nil]; omega) (by simp only [List.length_cons, List.length_nil]; omega) (fun a30 c30 ha30 => ?_)) | refine WA.eff 5 rfl (by kernel_rfl) rfl rfl (by decide) (Ef.appendD 4 0 tab_ok rfl rfl rfl rfl rfl rfl rfl rfl rfl rfl rfl (fun _ _ => rfl) (by simp only [List.length_cons, List.length_nil]; omega) (by simp only [List.length_cons, List.length_nil]; omega) (fun a30 c30 ha30 => ?_)) | refine WA.eff 5 rfl (by kernel_rfl) rfl rfl (by decide) (Ef.appendR 0 tab_ok rfl rfl rfl rfl rfl rfl rfl rfl rfl rfl (by assumption) (fun _ _ => rfl) (by (try dsimp only); omega) (by omega) (fun a30 c30 ha30 => ?_)) | refine WA.eff 5 rfl (by kernel_rfl) rfl rfl (by decide) (Ef.appendR 1 tab_ok rfl rfl rfl rfl rfl rfl rfl rfl rfl rfl (by assumption) (fun _ _ => rfl) (by (try dsimp only); omega) (by omega) (fun a30 c30 ha30 => ?_)) | refine WA.eff 5 rfl (by kernel_rfl) rfl rfl (by decide) (Ef.appendR 2 tab_ok rfl rfl rfl rfl rfl rfl rfl rfl rfl rfl (by assumption) (fun _ _ => rfl) (by (try dsimp only); omega) (by omega) (fun a30 c30 ha30 => ?_)) | refine WA.eff 5 rfl (by kernel_rfl) rfl rfl (by decide) (Ef.appendR 3 tab_ok rfl rfl rfl rfl rfl rfl rfl rfl rfl rfl (by assumption) (fun _ _ => rfl) (by (try dsimp only); omega) (by omega) (fun a30 c30 ha30 => ?_)) | refine WA.eff 5 rfl (by kernel_rfl) rfl rfl (by decide) (Ef.appendR 4 tab_ok rfl rfl rfl rfl rfl rfl rfl rfl rfl rfl (by assumption) (fun _ _ => rfl) (by (try dsimp only); omega) (by omega) (fun a30 c30 ha30 => ?_))
     refine ⟨qR, qS, ?_⟩
     refine tP 6 ?_
     first | refine WA.effN 7 rfl qK rfl rfl (Ef.store 0 tab_ok rfl rfl rfl rfl rfl rfl rfl rfl ?_) | refine WA.effN 7 rfl qK rfl rfl (Ef.store 1 tab_ok rfl rfl rfl rfl rfl rfl rfl rfl ?_) | refine WA.effN 7 rfl qK rfl rfl (Ef.store 2 tab_ok rfl rfl rfl rfl rfl rfl rfl rfl ?_) | refine WA.effN 7 rfl qK rfl rfl (Ef.store 3 tab_ok rfl rfl rfl rfl rfl rfl rfl rfl ?_) | refine WA.effN 7 rfl qK rfl rfl (Ef.store 4 tab_ok rfl rfl rfl rfl rfl rfl rfl rfl ?_)
     refine ⟨qR, qS, ?_⟩
     refine WA.done qK ?_
     refine zL ?_
     refine WE.again ((vs ++ [(numV (nth ws k) : Int)], a30, c30, k + 1, p + (nth ws k).length + 1)) (by (try dsimp only); rw [whV_snoc]; exact hr.val hk hw1 hn2) (by (try dsimp only); omega) ⟨rfl, rfl, rfl, rfl⟩ (RLe.refl _) qS
 ·try simp only [zk] at hc0
  have hper : nth ws k = wPer := str_inj (b := wPer) hc0.1
  have hw : whV vs = 1 := if_neg (fun e => by rw [e] at hc0; exact hc0.2 rfl)
  rw [hw] at hr
  have h2 := hr.perS hk hper
  refine zX ?_
  refine wx (wx (zY (zU (zQ (zG (zR 1 rfl ?_))))))
  refine WL.callAt 3 en47 rfl rfl qD (CallOp.mkT rfl rfl rfl rfl) rfl (Skip_C w0 hws hsz hk (hr.at_le hk) _) ?_
  rintro _ _ _ _ - ⟨rfl, rfl, rfl, rfl⟩
  refine zN (zU (zQ (zG (zR 1 rfl ?_))))
  refine WL.callXAt 3 en48 rfl rfl qD (CallOp.mkT rfl rfl rfl rfl) rfl (Number_C w0 hws hsz hG hlw h2.at_le _) ?_ ?_
  ·
   rintro _ _ _ - ⟨rfl, hn, rfl, rfl⟩
   refine WE.then_panic ?_
   refine WE.panicX (by first | exact RLe.refl _ | exact hR1) ?_
   exact ⟨_, _, rfl, h2.numErr qD (fun _ h => absurd h qD) (fun _ h => absurd h qD) hn, hn, qS⟩
  rintro _ _ _ _ - ⟨rfl, hk2, hn2, rfl, rfl, rfl⟩
  have h3 := h2.num2 hk2 hn2
  refine zR 1 rfl ?_
  first | refine WL.efN rfl rfl (Ef.store 0 tab_ok rfl rfl rfl rfl rfl rfl rfl rfl ?_) | refine WL.efN rfl rfl (Ef.store 1 tab_ok rfl rfl rfl rfl rfl rfl rfl rfl ?_) | refine WL.efN rfl rfl (Ef.store 2 tab_ok rfl rfl rfl rfl rfl rfl rfl rfl ?_) | refine WL.efN rfl rfl (Ef.store 3 tab_ok rfl rfl rfl rfl rfl rfl rfl rfl ?_) | refine WL.efN rfl rfl (Ef.store 4 tab_ok rfl rfl rfl rfl rfl rfl rfl rfl ?_)
  refine zN (zU (zQ (zG (zR 1 rfl ?_))))
  refine WL.callXAt 3 en49 rfl rfl qD (CallOp.mkT rfl rfl rfl rfl) rfl (Word_C (want := wInc) w0 hws hsz h3.at_le _) ?_ ?_
  ·
   rintro _ _ _ - ⟨rfl, hn, rfl, rfl⟩
   refine WE.then_panic ?_
   refine WE.panicX (by first | exact RLe.refl _ | exact hR1) ?_
   exact ⟨_, _, rfl, h3.incErr hn, hn, qS⟩
  rintro _ _ _ _ - ⟨rfl, hk3, hwd, rfl, rfl, rfl⟩
  have h4 := h3.incS hk3 hwd
  refine zN (zU (zQ (zG (zR 1 rfl ?_))))
  refine WL.callXAt 3 en48 rfl rfl qD (CallOp.mkT rfl rfl rfl rfl) rfl (Number_C w0 hws hsz hG hlw h4.at_le _) ?_ ?_
  ·
   rintro _ _ _ - ⟨rfl, hn, rfl, rfl⟩
   refine WE.then_panic ?_
   refine WE.panicX (by first | exact RLe.refl _ | exact hR1) ?_
   exact ⟨_, _, rfl, h4.numErr qD (fun _ h => absurd h qD) (fun _ h => absurd h qD) hn, hn, qS⟩
  rintro _ _ _ _ - ⟨rfl, hk4, hn4, rfl, rfl, rfl⟩
  have h5 := h4.num4 hk4 hn4
  refine zR 1 rfl ?_
  first | refine WL.efN rfl rfl (Ef.store 0 tab_ok rfl rfl rfl rfl rfl rfl rfl rfl ?_) | refine WL.efN rfl rfl (Ef.store 1 tab_ok rfl rfl rfl rfl rfl rfl rfl rfl ?_) | refine WL.efN rfl rfl (Ef.store 2 tab_ok rfl rfl rfl rfl rfl rfl rfl rfl ?_) | refine WL.efN rfl rfl (Ef.store 3 tab_ok rfl rfl rfl rfl rfl rfl rfl rfl ?_) | refine WL.efN rfl rfl (Ef.store 4 tab_ok rfl rfl rfl rfl rfl rfl rfl rfl ?_)
  refine zN (zU (zQ (zQ (zG (zR 1 rfl ?_)))))
  refine WL.callAt 3 en50 rfl rfl qD (CallOp.mkT rfl rfl rfl rfl) rfl (Peek_C w0 hws hsz _) ?_
  rintro _ _ _ _ - ⟨rfl, rfl, rfl, rfl⟩
  refine zR 5 rfl (zN (zU (zQ (zG (zR 1 rfl (zN (zU ?_)))))))
  refine W.cond rfl (fun hc2 => ?_) (fun hc2 => ?_)
  ·try simp only [zk] at hc2
   have hk5 := hc2
   refine zG (zR 3 rfl ?_)
   refine' WG.y rfl rfl qD (Yl.load1 tab_ok rfl rfl rfl (fun _ => rfl) ?r6 rfl ?h6) ?_
   case r6 => apply Rd.add; (first | exact Rd.blk 0 rfl | exact Rd.blk 1 rfl | exact Rd.blk 2 rfl | exact Rd.blk 3 rfl | exact Rd.blk 4 rfl | (apply RS.rdD; assumption; ((try dsimp only) <;> omega)) | exact Rd.slD 0 rfl qX | exact Rd.slD 1 rfl qX | exact Rd.slD 2 rfl qX | exact Rd.slD 3 rfl qX | exact Rd.slD 4 rfl qX)
   case h6 => rfl
   -- build
   refine WG.y rfl rfl qD (Yl.build (parts := [(0, .tmp 51), (1, .const (.int .i64 4))]) tab_ok rfl rfl rfl rfl (fun _ => rfl) rfl rfl) ?_
   refine WG.y rfl rfl qD (Yl.toIface tab_ok rfl rfl rfl rfl (fun _ => rfl)) ?_
   refine WL.panic rfl rfl rfl ?_
   refine WE.then_panic ?_
   refine WE.panicX (by first | exact RLe.refl _ | exact hR1) ?_
   exact ⟨_, _, rfl, h5.more hk5, by decide, qS⟩
  ·try simp only [zk] at hc2
   have hk5 := hc2
   refine zK (zU ?_)
   refine W.cap 1 rfl ?_
   intro hcp
   rw [List.length_map] at hcp
   refine W.freeze (enc := encI) (xs := vs) 1 rfl ?_
   intro R1 hR1 hvs
   refine zQ (zG ?_)
   refine' WG.y rfl rfl qD (Yl.load1 tab_ok rfl rfl rfl (fun _ => rfl) ?r7 rfl ?h7) ?_
   case r7 => (first | exact Rd.blk 0 rfl | exact Rd.blk 1 rfl | exact Rd.blk 2 rfl | exact Rd.blk 3 rfl | exact Rd.blk 4 rfl)
   case h7 => rfl
   first | refine WL.efN rfl rfl (Ef.store0 0 tab_ok rfl rfl rfl rfl rfl rfl rfl rfl ?_) | refine WL.efN rfl rfl (Ef.store0 1 tab_ok rfl rfl rfl rfl rfl rfl rfl rfl ?_) | refine WL.efN rfl rfl (Ef.store0 2 tab_ok rfl rfl rfl rfl rfl rfl rfl rfl ?_) | refine WL.efN rfl rfl (Ef.store0 3 tab_ok rfl rfl rfl rfl rfl rfl rfl rfl ?_) | refine WL.efN rfl rfl (Ef.store0 4 tab_ok rfl rfl rfl rfl rfl rfl rfl rfl ?_)
   refine zN (zU (zT ?_))
   refine WE.retX tab_ok [_] rfl ⟨⟨_, _, _, rfl, rfl, rfl, qB, rfl⟩, trivial⟩ (by first | exact RLe.refl _ | exact hR1) ?_
   exact ⟨⟨vs, _, _⟩, a9, c9, rfl, hvs, hcp, by dsimp only; omega, h5.fin hk5, qS⟩



theorem Split_C {R : Ro} (hG : GlobE R) {s : List UInt8} {d : UInt8} (hs : s.length ≤ 4000000000) (w0 : World) (E : List Ent) : K.Fn Tryd.prog 37 [.string (str s), .string (str [d])] w0 R E (fun v R' E' => ∃ a : Addr, v = .slice (some a) (splC d s).length (splC d s).length ∧ RS R' 1 encT (some a) (splC d s) ∧ E = E') := by
 obtain ⟨m, rest, hm0⟩ := hG.m
 intro w hm
 have hsz := str_size s
 obtain ⟨g1, g2⟩ := split_splC d s.length s (Nat.le_refl _)
 have hls : (str s).data.toList = s := by simp [str]
 have hld : (str [d]).data.toList = [d] := by simp [str]
 have hcb : Lib.countB (str s) (str [d]) + 1 = (splC d s).length := by
  show Lib.count _ _ + 1 = _
  rw [hls, hld]; exact g2
 have hsp : (Lib.splitB (str [d]) 0 (Lib.countB (str s) (str [d])) (str s)).map Value.string = ((splC d s).map encT).flatten := by
  have h1 := Lib.splitB_data (str [d]) 0 (Lib.countB (str s) (str [d])) (str s)
  have h2 : Lib.splitB (str [d]) 0 (Lib.countB (str s) (str [d])) (str s) = (splC d s).map str := by
   have h3 : (Lib.splitB (str [d]) 0 (Lib.countB (str s) (str [d])) (str s)) = ((Lib.splitB (str [d]) 0 (Lib.countB (str s) (str [d])) (str s)).map (·.data.toList)).map str := by
    rw [List.map_map]
    refine (List.map_id'' (fun x => ?_) _).symm
    exact (str_of x).symm
   rw [h3, h1]
   show (Lib.splitK _ _ (Lib.count _ _) _).map str = _
   rw [hls, hld, g1]
  rw [h2, List.map_map]
  generalize splC d s = l
  induction l with
  | nil => rfl
  | cons x l ih => simp only [List.map_cons, List.flatten_cons, ih]; rfl
 refine (sh_strings_Split (str s) (str [d]) m w (by omega) (hm.cell hm0) (by rw [str_size]; exact Nat.le_refl 1)).mono ?_
 rintro e w' ⟨rfl, rfl⟩
 rw [hcb, hsp]
 have hlen := splC_len d s
 have hfl : ((splC d s).map encT).flatten.length = (splC d s).length := by
  generalize splC d s = l
  induction l with
  | nil => rfl
  | cons x l ih => simp only [List.map_cons, List.flatten_cons, List.length_append, ih, List.length_cons]; show 1 + _ = _; omega
 have hmn : Mem w0 (w.alloc (.cells ((splC d s).map encT).flatten.toArray 9)) R (.sl 9 1 (some ⟨w.heap.size, 0, none⟩) (splC d s).length ((splC d s).map encT) :: E) := by
  refine hm.new (e' := .sl 9 1 (some ⟨w.heap.size, 0, none⟩) (splC d s).length ((splC d s).map encT)) ⟨rfl, rfl, rfl, by simp, fun j hj _ => heap_alloc_old w _ hj⟩ ?_ (fun b hb => by simp [Ent.block] at hb; omega)
  refine ⟨fun r hr => by obtain ⟨c, _, rfl⟩ := List.mem_map.1 hr; rfl, Nat.one_pos, ?_, ?_⟩
  ·rw [hfl, List.length_map]; omega
  ·right
   refine ⟨w.heap.size, _, _, by rw [List.length_map], hm.below.size, heap_alloc_new w _, by rw [List.length_map]; exact Nat.le_refl _, by unfold maxLen; omega, by simp only [List.size_toArray]; rw [hfl]; omega, ?_⟩
   rw [List.length_map]; exact List.take_of_length_le (by show ((splC d s).map encT).flatten.length ≤ _; rw [hfl]; omega)
 obtain ⟨R2, k1, k2, k3⟩ := hmn.freeze (i := 0) (enc := encT) (xs := splC d s) rfl
 exact ⟨_, R2, E, rfl, k1, k3, ⟨w.heap.size, 0, none⟩, rfl, k2, rfl⟩



theorem nilI20 : Tryd.prog.underlying 20 = some (.interface (Tryd.prog.methodsAt 20)) := by kernel_rfl

theorem ParseD_ret {R : Ro} {x2 x3 x4 : Nat} (w0 : World) (E : List Ent) : FnDR Tryd.prog 36 [.pointer (some ⟨x2, 0, none⟩), .pointer (some ⟨x3, 0, none⟩), .pointer (some ⟨x4, 0, none⟩)] w0 R E .returning (fun R' E' u' => settle u' = .returning ∧ R = R' ∧ E = E') := by
 refine FnDR.enter (n := 22) Tryd.func36 rfl rfl (Nat.le_of_ble_eq_true rfl) rfl ?_
 intro c0 cs hc
 refine WD.seq ?_
 refine WD.region ?_
 refine WDG.recover (v := .nilIface) (cs' := { c0 with mode := .returning } :: cs) rfl rfl rfl qD rfl rfl (by cases c0; cases hc; rfl) ?_
 refine WDG.yl rfl rfl rfl qD (pureV_ok tab_ok rfl (fun _ => rfl)) ?_
 refine WDG.nil ?_
 refine WD.plain ?_
 refine zQ (zQ (zG (zR 1 rfl ?_)))
 refine WG.y rfl rfl qD (Yl.eqNilI nilI20 rfl rfl rfl (fun _ => rfl) (by first | exact .inl ⟨rfl, rfl⟩ | exact .inr ⟨⟨_, _, rfl⟩, rfl⟩)) ?_
 refine zN (zU ?_)
 refine W.cond rfl (fun hc0 => ?_) (fun hc0 => ?_)
 ·try simp only [zk] at hc0
  refine zT (wt ?_)
  refine WE.retDR rfl (RLe.refl _) ?_
  exact ⟨rfl, rfl, rfl⟩
 ·try simp only [zk] at hc0
  first | (simp at hc0; done) | exact absurd hc0 (by decide)

set_option maxHeartbeats 1000000 in
theorem ParseD_panic {R : Ro} {x2 x3 x4 : Nat} {q0 q1 q2 : Value} {q3 q4 : Int} {p : Nat} {e : Int} (w0 : World) (E : List Ent) : FnDR Tryd.prog 36 [.pointer (some ⟨x2, 0, none⟩), .pointer (some ⟨x3, 0, none⟩), .pointer (some ⟨x4, 0, none⟩)] w0 R (.blk x4 [.int .i64 q4] :: .blk x3 [.int .i64 q3] :: .blk x2 [q0, q1, q2] :: E) (.panicking [{ v := failV p e, recovered := false }]) (fun R' E' u' => settle u' = .returning ∧ R = R' ∧ E' = .blk x4 [.int .i64 e] :: .blk x3 [.int .i64 (p : Int)] :: .blk x2 [.slice none 0 0, .int .i64 0, .int .i64 0] :: E) := by
 refine FnDR.enter (n := 22) Tryd.func36 rfl rfl (Nat.le_of_ble_eq_true rfl) rfl ?_
 intro c0 cs hc
 refine WD.seq ?_
 refine WD.region ?_
 refine WDG.recover (v := failV p e) (cs' := { c0 with mode := .panicking [{ v := failV p e, recovered := true }] } :: cs) rfl rfl rfl qD rfl rfl (by cases c0; cases hc; rfl) ?_
 refine WDG.yl rfl rfl rfl qD (pureV_ok tab_ok rfl (fun _ => rfl)) ?_
 refine WDG.nil ?_
 refine WD.plain ?_
 refine zQ (zQ (zG (zR 1 rfl ?_)))
 refine WG.y rfl rfl qD (Yl.eqNilI nilI20 rfl rfl rfl (fun _ => rfl) (by first | exact .inl ⟨rfl, rfl⟩ | exact .inr ⟨⟨_, _, rfl⟩, rfl⟩)) ?_
 refine zN (zU ?_)
 refine W.cond rfl (fun hc0 => ?_) (fun hc0 => ?_)
 ·try simp only [zk] at hc0
  first | (simp at hc0; done) | exact absurd hc0 (by decide)
 ·try simp only [zk] at hc0
  refine zK (zU (zQ (zG (zR 1 rfl ?_))))
  refine WG.y rfl rfl qD (Yl.assert (v := .tuple #[.agg #[.int .i64 (p : Int), .int .i64 e], .bool true]) rfl rfl (fun w => by kernel_rfl) (fun _ => rfl)) ?_
  refine zR 3 rfl ?_
  refine zA fun b4 => ?_
  first | refine WL.efN rfl rfl (Ef.store0 0 tab_ok rfl rfl rfl rfl rfl rfl rfl rfl ?_) | refine WL.efN rfl rfl (Ef.store0 1 tab_ok rfl rfl rfl rfl rfl rfl rfl rfl ?_) | refine WL.efN rfl rfl (Ef.store0 2 tab_ok rfl rfl rfl rfl rfl rfl rfl rfl ?_) | refine WL.efN rfl rfl (Ef.store0 3 tab_ok rfl rfl rfl rfl rfl rfl rfl rfl ?_) | refine WL.efN rfl rfl (Ef.store0 4 tab_ok rfl rfl rfl rfl rfl rfl rfl rfl ?_)
  refine zR 1 rfl (zN (zU (zQ (zQ (zG (zR 2 rfl (zN (zU ?_))))))))
  refine W.cond rfl (fun hc1 => ?_) (fun hc1 => ?_)
  ·try simp only [zk] at hc1
   first | (simp at hc1; done) | exact absurd hc1 (by decide)
  ·try simp only [zk] at hc1
   refine zK (zU ?_)
   refine W.regionH _ (ES := [.blk b4 [.int .i64 (p : Int), .int .i64 e]]) mixed ?_
   -- build
   refine WA.take 0 rfl qK qK qK rfl rfl qD (Yl.build (parts := []) tab_ok rfl rfl rfl rfl (fun _ => rfl) rfl rfl) qS qR ?_
   refine tP 1 ?_
   refine' WA.take 2 rfl qK qK qK rfl rfl qD (Yl.load1 tab_ok rfl rfl rfl (fun _ => rfl) ?r1 rfl ?h1) qS qR ?_
   case r1 => apply Rd.add; (first | exact Rd.blk 0 rfl | exact Rd.blk 1 rfl | exact Rd.blk 2 rfl | exact Rd.blk 3 rfl | exact Rd.blk 4 rfl)
   case h1 => rfl
   refine tP 3 ?_
   refine' WA.take 4 rfl qK qK qK rfl rfl qD (Yl.load1 tab_ok rfl rfl rfl (fun _ => rfl) ?r2 rfl ?h2) qS qR ?_
   case r2 => apply Rd.add; (first | exact Rd.blk 0 rfl | exact Rd.blk 1 rfl | exact Rd.blk 2 rfl | exact Rd.blk 3 rfl | exact Rd.blk 4 rfl)
   case h2 => rfl
   first | refine WA.effN 5 rfl qK rfl rfl (Ef.store0 0 tab_ok rfl rfl rfl rfl rfl rfl rfl rfl ?_) | refine WA.effN 5 rfl qK rfl rfl (Ef.store0 1 tab_ok rfl rfl rfl rfl rfl rfl rfl rfl ?_) | refine WA.effN 5 rfl qK rfl rfl (Ef.store0 2 tab_ok rfl rfl rfl rfl rfl rfl rfl rfl ?_) | refine WA.effN 5 rfl qK rfl rfl (Ef.store0 3 tab_ok rfl rfl rfl rfl rfl rfl rfl rfl ?_) | refine WA.effN 5 rfl qK rfl rfl (Ef.store0 4 tab_ok rfl rfl rfl rfl rfl rfl rfl rfl ?_)
   refine ⟨qR, qS, ?_⟩
   first | refine WA.effN 6 rfl qK rfl rfl (Ef.store0 0 tab_ok rfl rfl rfl rfl rfl rfl rfl rfl ?_) | refine WA.effN 6 rfl qK rfl rfl (Ef.store0 1 tab_ok rfl rfl rfl rfl rfl rfl rfl rfl ?_) | refine WA.effN 6 rfl qK rfl rfl (Ef.store0 2 tab_ok rfl rfl rfl rfl rfl rfl rfl rfl ?_) | refine WA.effN 6 rfl qK rfl rfl (Ef.store0 3 tab_ok rfl rfl rfl rfl rfl rfl rfl rfl ?_) | refine WA.effN 6 rfl qK rfl rfl (Ef.store0 4 tab_ok rfl rfl rfl rfl rfl rfl rfl rfl ?_)
   refine ⟨qR, qS, ?_⟩
   first | refine WA.effN 7 rfl qK rfl rfl (Ef.store0 0 tab_ok rfl rfl rfl rfl rfl rfl rfl rfl ?_) | refine WA.effN 7 rfl qK rfl rfl (Ef.store0 1 tab_ok rfl rfl rfl rfl rfl rfl rfl rfl ?_) | refine WA.effN 7 rfl qK rfl rfl (Ef.store0 2 tab_ok rfl rfl rfl rfl rfl rfl rfl rfl ?_) | refine WA.effN 7 rfl qK rfl rfl (Ef.store0 3 tab_ok rfl rfl rfl rfl rfl rfl rfl rfl ?_) | refine WA.effN 7 rfl qK rfl rfl (Ef.store0 4 tab_ok rfl rfl rfl rfl rfl rfl rfl rfl ?_)
   refine ⟨qR, qS, ?_⟩
   refine WA.done qK ?_
   refine WE.subE (E' := .blk x4 [.int .i64 e] :: .blk x3 [.int .i64 (p : Int)] :: .blk x2 [.slice none 0 0, .int .i64 0, .int .i64 0] :: E) qS ?_
   refine WE.endDR rfl (RLe.refl _) ?_
   exact ⟨rfl, rfl, rfl⟩

set_option maxHeartbeats 1000000 in
theorem Parse03_C {R : Ro} {s : List UInt8} (hG : GlobE R) (hs : s.length ≤ 1000000) (w0 : World) (E : List Ent) : K.Fn Tryd.prog 13 [.string (str s)] w0 R E (fun v R' E' => ∃ (f : Option Addr) (fc : Nat), v = .tuple #[.agg #[.slice f (parseR s).1.vals.length fc, .int .i64 (parseR s).1.per, .int .i64 (parseR s).1.inc], .int .i64 ((parseR s).2.1 : Int), .int .i64 (parseR s).2.2] ∧ RS R' 1 encI f (parseR s).1.vals ∧ (parseR s).1.vals.length ≤ fc ∧ E.Sublist E') := by
 have hss := str_size s
 refine Fn.enterD (n := 24) Tryd.func13 rfl rfl (Nat.le_of_ble_eq_true rfl) rfl ?_
 refine zQ (zG ?_)
 refine zA fun b2 => ?_
 refine zA fun b3 => ?_
 refine zA fun b4 => ?_
 refine zN (zU (zQ (zQ (zG (zR 3 rfl (zN (zU ?_)))))))
 refine W.condD rfl (fun hc0 => ?_) (fun hc0 => ?_)
 ·try dsimp only at hc0
  have hp : parseR s = (zcv, 0, 3) := if_pos (by omega)
  refine zQ (zG ?_)
  -- build
  refine WG.y rfl rfl qD (Yl.build (parts := []) tab_ok rfl rfl rfl rfl (fun _ => rfl) rfl rfl) ?_
  first | refine WL.efN rfl rfl (Ef.store0 0 tab_ok rfl rfl rfl rfl rfl rfl rfl rfl ?_) | refine WL.efN rfl rfl (Ef.store0 1 tab_ok rfl rfl rfl rfl rfl rfl rfl rfl ?_) | refine WL.efN rfl rfl (Ef.store0 2 tab_ok rfl rfl rfl rfl rfl rfl rfl rfl ?_) | refine WL.efN rfl rfl (Ef.store0 3 tab_ok rfl rfl rfl rfl rfl rfl rfl rfl ?_) | refine WL.efN rfl rfl (Ef.store0 4 tab_ok rfl rfl rfl rfl rfl rfl rfl rfl ?_)
  first | refine WL.efN rfl rfl (Ef.store0 0 tab_ok rfl rfl rfl rfl rfl rfl rfl rfl ?_) | refine WL.efN rfl rfl (Ef.store0 1 tab_ok rfl rfl rfl rfl rfl rfl rfl rfl ?_) | refine WL.efN rfl rfl (Ef.store0 2 tab_ok rfl rfl rfl rfl rfl rfl rfl rfl ?_) | refine WL.efN rfl rfl (Ef.store0 3 tab_ok rfl rfl rfl rfl rfl rfl rfl rfl ?_) | refine WL.efN rfl rfl (Ef.store0 4 tab_ok rfl rfl rfl rfl rfl rfl rfl rfl ?_)
  first | refine WL.efN rfl rfl (Ef.store0 0 tab_ok rfl rfl rfl rfl rfl rfl rfl rfl ?_) | refine WL.efN rfl rfl (Ef.store0 1 tab_ok rfl rfl rfl rfl rfl rfl rfl rfl ?_) | refine WL.efN rfl rfl (Ef.store0 2 tab_ok rfl rfl rfl rfl rfl rfl rfl rfl ?_) | refine WL.efN rfl rfl (Ef.store0 3 tab_ok rfl rfl rfl rfl rfl rfl rfl rfl ?_) | refine WL.efN rfl rfl (Ef.store0 4 tab_ok rfl rfl rfl rfl rfl rfl rfl rfl ?_)
  refine zN (zU (zT (wt ?_)))
  refine WE.retD0 tab_ok [_, _, _] rfl ⟨⟨_, _, _, rfl, rfl, rfl, Rd.blk 2 rfl, rfl⟩, ⟨_, _, _, rfl, rfl, rfl, Rd.blk 1 rfl, rfl⟩, ⟨_, _, _, rfl, rfl, rfl, Rd.blk 0 rfl, rfl⟩, trivial⟩ (RLe.refl _) ?_
  exact ⟨none, 0, by rw [hp]; rfl, by rw [hp]; exact rs_nil, by rw [hp]; exact Nat.le_refl 0, qS⟩
 ·try dsimp only at hc0
  refine zK (zU (zQ (zG (zR 1 rfl ?_))))
  refine WL.defer rfl rfl rfl rfl rfl rfl rfl ?_
  refine zN (zU (zQ (zG (zR 1 rfl ?_))))
  refine WL.call en37 rfl rfl qD (CallOp.mkT rfl rfl rfl rfl) (Split_C hG (s := s) (d := 32) qO w0 _) ?_
  rintro _ R1 _ hR1 ⟨a12, rfl, hws, rfl⟩
  rw [← spl_eq] at hws ⊢
  refine zR 2 rfl ?_
  -- build
  refine WG.y rfl rfl qD (Yl.build (parts := [(0, .tmp 12), (3, .tmp 14)]) tab_ok rfl rfl rfl rfl (fun _ => rfl) rfl rfl) ?_
  refine zO fun b16 => ?_
  refine zR 1 rfl (zN (zU (zQ (zG (zR 1 rfl ?_)))))
  refine WL.callX en38 rfl rfl (by decide) (CallOp.mkT rfl rfl rfl rfl) (CurveR_C w0 hws (by omega) (hG.mono hR1) (by rw [remL_spl]; omega) _) ?_ ?_
  ·
   rintro _ R2 E2 hR2 ⟨p, e, rfl, hpg, hne, hsub⟩
   rw [hss] at hpg
   have hp : parseR s = (zcv, p, e) := by unfold parseR; rw [if_neg (by omega), hpg, if_pos hne]
   refine WE.then_panic ?_
   refine WE.subE (E' := .blk b4 [.int .i64 0] :: .blk b3 [.int .i64 0] :: .blk b2 [.slice none 0 0, .int .i64 0, .int .i64 0] :: E) hsub ?_
   refine WE.panicD tab_ok rfl rfl en36 ?_
   refine FnDR.mono (ParseD_panic w0 _) ?_
   rintro _ _ _ - ⟨hse, rfl, rfl⟩
   refine ⟨hse, hR1.trans hR2, [_, _, _], ⟨⟨_, _, _, rfl, rfl, rfl, Rd.blk 2 rfl, rfl⟩, ⟨_, _, _, rfl, rfl, rfl, Rd.blk 1 rfl, rfl⟩, ⟨_, _, _, rfl, rfl, rfl, Rd.blk 0 rfl, rfl⟩, trivial⟩, ⟨none, 0, by rw [hp]; rfl, by rw [hp]; exact rs_nil, by rw [hp]; exact Nat.le_refl 0, qS⟩⟩
  rintro _ R2 E2 hR2 ⟨c, f, fc, rfl, hf, hfc, hcl, hpg, hsub⟩
  rw [hss] at hpg
  refine WL.subE hsub ?_
  first | refine WL.efN rfl rfl (Ef.store0 0 tab_ok rfl rfl rfl rfl rfl rfl rfl rfl ?_) | refine WL.efN rfl rfl (Ef.store0 1 tab_ok rfl rfl rfl rfl rfl rfl rfl rfl ?_) | refine WL.efN rfl rfl (Ef.store0 2 tab_ok rfl rfl rfl rfl rfl rfl rfl rfl ?_) | refine WL.efN rfl rfl (Ef.store0 3 tab_ok rfl rfl rfl rfl rfl rfl rfl rfl ?_) | refine WL.efN rfl rfl (Ef.store0 4 tab_ok rfl rfl rfl rfl rfl rfl rfl rfl ?_)
  refine zN (zU (zQ (zQ (zG ?_))))
  refine' WG.y rfl rfl qD (Yl.load1 tab_ok rfl rfl rfl (fun _ => rfl) ?r1 rfl ?h1) ?_
  case r1 => (first | exact Rd.blk 0 rfl | exact Rd.blk 1 rfl | exact Rd.blk 2 rfl | exact Rd.blk 3 rfl | exact Rd.blk 4 rfl)
  case h1 => rfl
  refine WG.callV en39 rfl rfl qD (CallOp.mk' rfl rfl rfl rfl) (fun _ => rfl) (fun hg => CValidG_V (fc := fc) (c := c) hf qO) ?_
  refine zR 1 rfl (zN (zU ?_))
  refine W.cond rfl (fun hc1 => ?_) (fun hc1 => ?_)
  ·try simp only [zk] at hc1
   have hv : validB c = false := by simpa using hc1
   have hp : parseR s = (zcv, 0, 1) := by unfold parseR; rw [if_neg (by omega), hpg, if_neg (fun h => h rfl), if_neg (by rw [hv]; decide)]
   refine zQ (zG ?_)
   -- build
   refine WG.y rfl rfl qD (Yl.build (parts := []) tab_ok rfl rfl rfl rfl (fun _ => rfl) rfl rfl) ?_
   first | refine WL.efN rfl rfl (Ef.store0 0 tab_ok rfl rfl rfl rfl rfl rfl rfl rfl ?_) | refine WL.efN rfl rfl (Ef.store0 1 tab_ok rfl rfl rfl rfl rfl rfl rfl rfl ?_) | refine WL.efN rfl rfl (Ef.store0 2 tab_ok rfl rfl rfl rfl rfl rfl rfl rfl ?_) | refine WL.efN rfl rfl (Ef.store0 3 tab_ok rfl rfl rfl rfl rfl rfl rfl rfl ?_) | refine WL.efN rfl rfl (Ef.store0 4 tab_ok rfl rfl rfl rfl rfl rfl rfl rfl ?_)
   first | refine WL.efN rfl rfl (Ef.store0 0 tab_ok rfl rfl rfl rfl rfl rfl rfl rfl ?_) | refine WL.efN rfl rfl (Ef.store0 1 tab_ok rfl rfl rfl rfl rfl rfl rfl rfl ?_) | refine WL.efN rfl rfl (Ef.store0 2 tab_ok rfl rfl rfl rfl rfl rfl rfl rfl ?_) | refine WL.efN rfl rfl (Ef.store0 3 tab_ok rfl rfl rfl rfl rfl rfl rfl rfl ?_) | refine WL.efN rfl rfl (Ef.store0 4 tab_ok rfl rfl rfl rfl rfl rfl rfl rfl ?_)
   first | refine WL.efN rfl rfl (Ef.store0 0 tab_ok rfl rfl rfl rfl rfl rfl rfl rfl ?_) | refine WL.efN rfl rfl (Ef.store0 1 tab_ok rfl rfl rfl rfl rfl rfl rfl rfl ?_) | refine WL.efN rfl rfl (Ef.store0 2 tab_ok rfl rfl rfl rfl rfl rfl rfl rfl ?_) | refine WL.efN rfl rfl (Ef.store0 3 tab_ok rfl rfl rfl rfl rfl rfl rfl rfl ?_) | refine WL.efN rfl rfl (Ef.store0 4 tab_ok rfl rfl rfl rfl rfl rfl rfl rfl ?_)
   refine zN (zU (zT (wt ?_)))
   refine WE.retD tab_ok rfl rfl en36 ?_
   refine FnDR.mono (ParseD_ret w0 _) ?_
   rintro _ _ _ - ⟨hse, rfl, rfl⟩
   refine ⟨hse, hR1.trans hR2, [_, _, _], ⟨⟨_, _, _, rfl, rfl, rfl, Rd.blk 2 rfl, rfl⟩, ⟨_, _, _, rfl, rfl, rfl, Rd.blk 1 rfl, rfl⟩, ⟨_, _, _, rfl, rfl, rfl, Rd.blk 0 rfl, rfl⟩, trivial⟩, ⟨none, 0, by rw [hp]; rfl, by rw [hp]; exact rs_nil, by rw [hp]; exact Nat.le_refl 0, qS⟩⟩
  ·try simp only [zk] at hc1
   have hv : validB c = true := by simpa using hc1
   have hp : parseR s = (c, 0, 0) := by unfold parseR; rw [if_neg (by omega), hpg, if_neg (fun h => h rfl), if_pos hv]
   refine zK (zU (zQ (zG ?_)))
   refine' WG.y rfl rfl qD (Yl.load1 tab_ok rfl rfl rfl (fun _ => rfl) ?r2 rfl ?h2) ?_
   case r2 => (first | exact Rd.blk 0 rfl | exact Rd.blk 1 rfl | exact Rd.blk 2 rfl | exact Rd.blk 3 rfl | exact Rd.blk 4 rfl)
   case h2 => rfl
   first | refine WL.efN rfl rfl (Ef.store0 0 tab_ok rfl rfl rfl rfl rfl rfl rfl rfl ?_) | refine WL.efN rfl rfl (Ef.store0 1 tab_ok rfl rfl rfl rfl rfl rfl rfl rfl ?_) | refine WL.efN rfl rfl (Ef.store0 2 tab_ok rfl rfl rfl rfl rfl rfl rfl rfl ?_) | refine WL.efN rfl rfl (Ef.store0 3 tab_ok rfl rfl rfl rfl rfl rfl rfl rfl ?_) | refine WL.efN rfl rfl (Ef.store0 4 tab_ok rfl rfl rfl rfl rfl rfl rfl rfl ?_)
   first | refine WL.efN rfl rfl (Ef.store0 0 tab_ok rfl rfl rfl rfl rfl rfl rfl rfl ?_) | refine WL.efN rfl rfl (Ef.store0 1 tab_ok rfl rfl rfl rfl rfl rfl rfl rfl ?_) | refine WL.efN rfl rfl (Ef.store0 2 tab_ok rfl rfl rfl rfl rfl rfl rfl rfl ?_) | refine WL.efN rfl rfl (Ef.store0 3 tab_ok rfl rfl rfl rfl rfl rfl rfl rfl ?_) | refine WL.efN rfl rfl (Ef.store0 4 tab_ok rfl rfl rfl rfl rfl rfl rfl rfl ?_)
   first | refine WL.efN rfl rfl (Ef.store0 0 tab_ok rfl rfl rfl rfl rfl rfl rfl rfl ?_) | refine WL.efN rfl rfl (Ef.store0 1 tab_ok rfl rfl rfl rfl rfl rfl rfl rfl ?_) | refine WL.efN rfl rfl (Ef.store0 2 tab_ok rfl rfl rfl rfl rfl rfl rfl rfl ?_) | refine WL.efN rfl rfl (Ef.store0 3 tab_ok rfl rfl rfl rfl rfl rfl rfl rfl ?_) | refine WL.efN rfl rfl (Ef.store0 4 tab_ok rfl rfl rfl rfl rfl rfl rfl rfl ?_)
   refine zN (zU (zT ?_))
   refine WE.retD tab_ok rfl rfl en36 ?_
   refine FnDR.mono (ParseD_ret w0 _) ?_
   rintro _ _ _ - ⟨hse, rfl, rfl⟩
   refine ⟨hse, hR1.trans hR2, [_, _, _], ⟨⟨_, _, _, rfl, rfl, rfl, Rd.blk 2 rfl, rfl⟩, ⟨_, _, _, rfl, rfl, rfl, Rd.blk 1 rfl, rfl⟩, ⟨_, _, _, rfl, rfl, rfl, Rd.blk 0 rfl, rfl⟩, trivial⟩, ⟨f, fc, by rw [hp]; rfl, by rw [hp]; exact hf, by rw [hp]; exact hfc, qS⟩⟩



theorem fmt_ex : formatR ⟨[0], 1, 3⟩ = ([48, 32, 112, 101, 114, 32, 49, 32, 105, 110, 99, 32, 51], 0) := by
 have e : fmtC ⟨[0], 1, 3⟩ = [48, 32, 112, 101, 114, 32, 49, 32, 105, 110, 99, 32, 51] := by
  unfold fmtC
  dsimp only [fmtVals]
  unfold wordV
  rw [if_neg (by decide), itoa_pos (by decide), itoa_pos (by decide), itoa_pos (by decide), show (0 : Int).toNat = 0 from rfl, show (1 : Int).toNat = 1 from rfl, show (3 : Int).toNat = 3 from rfl, dec_one (by decide), dec_one (by decide), dec_one (by decide)]
  rfl
 unfold formatR
 rw [if_neg (by decide), e, if_neg (by decide)]
theorem par_ex1 : parseR [48, 32, 120, 32, 112, 101, 114, 32, 49, 32, 105, 110, 99, 32, 51] = (zcv, 2, 4) := by kernel_rfl
theorem par_ex2 : parseR [53, 32, 52, 32, 112, 101, 114, 32, 49, 32, 105, 110, 99, 32, 48] = (zcv, 0, 1) := by kernel_rfl
theorem par_ex3 : parseR [48, 32, 105, 110, 102, 32, 112, 101, 114, 32, 49, 32, 105, 110, 99, 32, 48] = (⟨[0, 4611686018427387904], 1, 0⟩, 0, 0) := by kernel_rfl

set_option maxHeartbeats 1000000 in
theorem Awake03_C {R : Ro} (hG : GlobE R) (w0 : World) (E : List Ent) : K.Fn Tryd.prog 7 [] w0 R E (fun v R' E' => v = .bool true ∧ E.Sublist E') := by
 refine fE 61 Tryd.func7 ?_
 refine zQ (zG (zR 1 rfl (zN (zU (zQ (zG ?_))))))
 refine WL.ef rfl rfl qD (Ef.buildSliceD (enc := encI) (parts := [.const (.int .i64 0)]) [_] tab_ok rfl rfl rfl rfl rfl rfl rfl rfl qD qD (fun a13 => ?_))
 refine WL.freeze (enc := encI) (xs := [0]) 0 rfl ?_
 intro R0 hR0 hl0
 have hG := hG.mono hR0
 -- build
 refine WG.y rfl rfl qD (Yl.build (parts := [(0, .tmp 13), (1, .const (.int .i64 1)), (2, .const (.int .i64 3))]) tab_ok rfl rfl rfl rfl (fun _ => rfl) rfl rfl) ?_
 refine WG.callV (v := .tuple #[.string (str [48, 32, 112, 101, 114, 32, 49, 32, 105, 110, 99, 32, 51]), .int .i64 0]) en16 rfl rfl qD (CallOp.mk' rfl rfl rfl rfl) (fun _ => rfl) (fun hg => by
  have h := Fmt03_V (fc := 1) (c := ⟨[0], 1, 3⟩) hG hl0 (by decide)
  rw [fmt_ex] at h
  exact h) ?_
 refine zR 5 rfl (zN (zU (zQ (zG ?_))))
 refine WL.call en13 rfl rfl qD (CallOp.mkT rfl rfl rfl rfl) (Parse03_C (s := [48, 32, 120, 32, 112, 101, 114, 32, 49, 32, 105, 110, 99, 32, 51]) hG qD w0 _) ?_
 rintro _ R1 E1 hR1 ⟨f1, k1, rfl, hf1, _, hsub1⟩
 refine WL.subE hsub1 ?_
 rw [par_ex1] at hf1 ⊢
 dsimp only at hf1 ⊢
 have hG := hG.mono hR1
 refine zR 4 rfl ?_
 refine zA fun b3 => ?_
 first | refine WL.efN rfl rfl (Ef.store0 0 tab_ok rfl rfl rfl rfl rfl rfl rfl rfl ?_) | refine WL.efN rfl rfl (Ef.store0 1 tab_ok rfl rfl rfl rfl rfl rfl rfl rfl ?_) | refine WL.efN rfl rfl (Ef.store0 2 tab_ok rfl rfl rfl rfl rfl rfl rfl rfl ?_) | refine WL.efN rfl rfl (Ef.store0 3 tab_ok rfl rfl rfl rfl rfl rfl rfl rfl ?_) | refine WL.efN rfl rfl (Ef.store0 4 tab_ok rfl rfl rfl rfl rfl rfl rfl rfl ?_) | refine WL.efN rfl rfl (Ef.store0 5 tab_ok rfl rfl rfl rfl rfl rfl rfl rfl ?_)
 refine zR 2 rfl (zN (zU (zQ (zG ?_))))
 refine WL.call en13 rfl rfl qD (CallOp.mkT rfl rfl rfl rfl) (Parse03_C (s := [53, 32, 52, 32, 112, 101, 114, 32, 49, 32, 105, 110, 99, 32, 48]) hG qD w0 _) ?_
 rintro _ R2 E2 hR2 ⟨f2, k2, rfl, hf2, _, hsub2⟩
 refine WL.subE hsub2 ?_
 rw [par_ex2] at hf2 ⊢
 dsimp only at hf2 ⊢
 have hG := hG.mono hR2
 refine zR 4 rfl ?_
 refine zA fun b6 => ?_
 first | refine WL.efN rfl rfl (Ef.store0 0 tab_ok rfl rfl rfl rfl rfl rfl rfl rfl ?_) | refine WL.efN rfl rfl (Ef.store0 1 tab_ok rfl rfl rfl rfl rfl rfl rfl rfl ?_) | refine WL.efN rfl rfl (Ef.store0 2 tab_ok rfl rfl rfl rfl rfl rfl rfl rfl ?_) | refine WL.efN rfl rfl (Ef.store0 3 tab_ok rfl rfl rfl rfl rfl rfl rfl rfl ?_) | refine WL.efN rfl rfl (Ef.store0 4 tab_ok rfl rfl rfl rfl rfl rfl rfl rfl ?_) | refine WL.efN rfl rfl (Ef.store0 5 tab_ok rfl rfl rfl rfl rfl rfl rfl rfl ?_)
 refine zR 2 rfl (zN (zU (zQ (zG ?_))))
 refine WL.call en13 rfl rfl qD (CallOp.mkT rfl rfl rfl rfl) (Parse03_C (s := [48, 32, 105, 110, 102, 32, 112, 101, 114, 32, 49, 32, 105, 110, 99, 32, 48]) hG qD w0 _) ?_
 rintro _ R3 E3 hR3 ⟨f3, k3, rfl, hf3, _, hsub3⟩
 refine WL.subE hsub3 ?_
 rw [par_ex3] at hf3 ⊢
 dsimp only at hf3 ⊢
 have hG := hG.mono hR3
 refine zR 4 rfl ?_
 refine zA fun b9 => ?_
 first | refine WL.efN rfl rfl (Ef.store0 0 tab_ok rfl rfl rfl rfl rfl rfl rfl rfl ?_) | refine WL.efN rfl rfl (Ef.store0 1 tab_ok rfl rfl rfl rfl rfl rfl rfl rfl ?_) | refine WL.efN rfl rfl (Ef.store0 2 tab_ok rfl rfl rfl rfl rfl rfl rfl rfl ?_) | refine WL.efN rfl rfl (Ef.store0 3 tab_ok rfl rfl rfl rfl rfl rfl rfl rfl ?_) | refine WL.efN rfl rfl (Ef.store0 4 tab_ok rfl rfl rfl rfl rfl rfl rfl rfl ?_) | refine WL.efN rfl rfl (Ef.store0 5 tab_ok rfl rfl rfl rfl rfl rfl rfl rfl ?_)
 refine zR 2 rfl (zN (zU (zQ (zG (zR 3 rfl ?_)))))
 refine WL.guardT rfl (by rfl) ?_
 refine yP ?_
 refine WL.guardT rfl (by rfl) ?_
 refine WG.y rfl rfl qD (Yl.eqS rfl rfl rfl (fun _ => rfl)) ?_
 refine yN ?_
 refine zR 1 rfl ?_
 refine WL.guardT rfl (by rfl) ?_
 refine yP ?_
 refine WL.guardT rfl (by rfl) ?_
 refine yP ?_
 refine yN ?_
 refine zR 1 rfl ?_
 refine WL.guardT rfl (by rfl) ?_
 refine yP ?_
 refine WL.guardT rfl (by rfl) ?_
 refine yP ?_
 refine yN ?_
 refine zR 1 rfl ?_
 refine WL.guardT rfl (by rfl) ?_
 refine yP ?_
 refine WL.guardT rfl (by rfl) ?_
 refine yP ?_
 refine yN ?_
 refine zR 1 rfl ?_
 refine WL.guardT rfl (by rfl) ?_
 refine yP ?_
 refine WL.guardT rfl (by rfl) ?_
 refine yP ?_
 refine yN ?_
 refine zR 1 rfl ?_
 refine WL.guardT rfl (by rfl) ?_
 refine' WG.y rfl rfl qD (Yl.load1 tab_ok rfl rfl rfl (fun _ => rfl) ?r1 rfl ?h1) ?_
 case r1 => (first | exact Rd.blk 0 rfl | exact Rd.blk 1 rfl | exact Rd.blk 2 rfl | exact Rd.blk 3 rfl | exact Rd.blk 4 rfl | exact Rd.blk 5 rfl)
 case h1 => rfl
 refine WL.guardT rfl (by rfl) ?_
 refine WL.ef rfl rfl qD (Ef.buildSliceD (enc := encI) (parts := [.const (.int .i64 0), .const (.int .i64 4611686018427387904)]) [_, _] tab_ok rfl rfl rfl rfl rfl rfl rfl rfl qD qD (fun a57 => ?_))
 refine WL.freeze (enc := encI) (xs := [0, 4611686018427387904]) 0 rfl ?_
 intro R9 hR9 hl9
 refine WL.guardT rfl (by rfl) ?_
 -- build
 refine WG.y rfl rfl qD (Yl.build (parts := [(0, .tmp 57), (1, .const (.int .i64 1))]) tab_ok rfl rfl rfl rfl (fun _ => rfl) rfl rfl) ?_
 refine WL.guardT rfl (by rfl) ?_
 refine WG.callV (v := .bool true) en18 rfl rfl qD (CallOp.mk' rfl rfl rfl rfl) (fun _ => rfl) (fun hg => by
  have h := Same02_V (ca := k3) (cb := 2) (p1 := 1) (i1 := 0) (p2 := 1) (i2 := 0) (hf3.mono hR9) hl9
  exact h) ?_
 refine yN ?_
 refine zR 1 rfl (zN (zU (zT ?_)))
 refine WE.retF tab_ok [_] rfl ⟨rfl, trivial⟩ (hR0.trans (hR1.trans (hR2.trans (hR3.trans hR9)))) ?_
 exact ⟨rfl, qS⟩



theorem Decimal_V {R : Ro} (u : Nat) : u ≤ 1073741824 → FnV Tryd.prog 32 [.int .i64 (u : Int)] R (.string (str (Lib.decDigits u))) := by
 refine Nat.strongRecOn (motive := fun u => u ≤ 1073741824 → FnV Tryd.prog 32 [.int .i64 (u : Int)] R (.string (str (Lib.decDigits u)))) u (fun u ih hu => ?_)
 refine Fn.toV (fun w0 E => ?_)
 refine fE 25 Tryd.func32 ?_
 refine zQ (zG (zR 1 rfl (zN (zU (zQ (zQ (zG (zR 2 rfl (zN (zU ?_))))))))))
 refine W.condD rfl (fun hc0 => ?_) (fun hc0 => ?_)
 ·try dsimp only at hc0
  omega
 ·try dsimp only at hc0
  refine zK (zU (zQ (zQ (zG (zR 2 rfl (zN (zU ?_)))))))
  refine W.condD rfl (fun hc1 => ?_) (fun hc1 => ?_)
  ·try dsimp only at hc1
   refine zQ (zG (zR 2 rfl ?_))
   refine yA ?_
   refine WG.y rfl rfl (by decide) (Yl.sliceSLH tab_ok rfl rfl rfl rfl rfl rfl (fun _ => rfl) (by intro _; (simp only [List.length_cons, List.length_nil]; omega))) ?_
   refine zR 1 rfl (zN (zU (zT (wt ?_))))
   refine sE (E := E) ?_
   refine WE.retF tab_ok [_] rfl ⟨rfl, trivial⟩ (RLe.refl _) ?_
   have e : str ((([48, 49, 50, 51, 52, 53, 54, 55, 56, 57] : List UInt8).take ((u : Int) + 1).toNat).drop (u : Int).toNat) = str (Lib.decDigits u) := by
    rw [show ((u : Int) + 1).toNat = u + 1 by omega, show (u : Int).toNat = u by omega, dig_slice (by omega), Lib.decDigits, dif_pos (by omega)]
   exact ⟨congrArg Value.string e, rfl⟩
  ·try dsimp only at hc1
   refine zK (zU (zQ ?_))
   refine W.regionQ _ mixed qK ?_
   refine zR 1 rfl ?_
   refine WG.y rfl rfl qD (Yl.quo rfl rfl rfl (fun _ => rfl) qA (by intro _; omega)) ?_
   refine WG.callV (v := .string (str (Lib.decDigits (u / 10)))) en32 rfl rfl qD (CallOp.mk' rfl rfl rfl rfl) (fun _ => rfl) (fun hg => by
    have h := ih (u / 10) (by omega) (by omega)
    exact h) ?_
   refine zR 1 rfl ?_
   refine WG.y rfl rfl qD (Yl.rem rfl rfl rfl (fun _ => rfl) qN qN) ?_
   refine zR 1 rfl ?_
   refine WG.y rfl rfl qD (Yl.rem rfl rfl rfl (fun _ => rfl) qN qN) ?_
   refine yA ?_
   refine WG.y rfl rfl (by decide) (Yl.sliceSLH tab_ok rfl rfl rfl rfl rfl rfl (fun _ => rfl) (by intro _; (simp only [List.length_cons, List.length_nil]; omega))) ?_
   refine WG.y rfl rfl (by decide) (Yl.cat rfl rfl rfl (fun _ => rfl) (by intro _; (rw [str_size, str_size]; have h1 := decDigits_le (u / 10); simp only [List.length_drop, List.length_take, List.length_cons, List.length_nil]; omega))) ?_
   refine zR 1 rfl (zN (zU (zT ?_)))
   refine sE (E := E) ?_
   refine WE.retF tab_ok [_] rfl ⟨rfl, trivial⟩ (RLe.refl _) ?_
   have e : str (Lib.decDigits (u / 10)) ++ str ((([48, 49, 50, 51, 52, 53, 54, 55, 56, 57] : List UInt8).take ((u : Int) % 10 + 1).toNat).drop ((u : Int) % 10).toNat) = str (Lib.decDigits u) := by
    rw [show ((u : Int) % 10 + 1).toNat = u % 10 + 1 by omega, show ((u : Int) % 10).toNat = u % 10 by omega, dig_slice (by omega), str_append]
    conv => rhs; rw [Lib.decDigits, dif_neg (by omega)]
   exact ⟨congrArg Value.string e, rfl⟩

theorem DecimalZ_V {R : Ro} {n : Int} (hn : -1073741824 ≤ n ∧ n ≤ 1073741824) : FnV Tryd.prog 32 [.int .i64 n] R (.string (str (Lib.itoa n))) := by
 by_cases hneg : 0 ≤ n
 ·have h := Decimal_V (R := R) n.toNat (by omega)
  rw [show ((n.toNat : Nat) : Int) = n by omega] at h
  have e : Lib.itoa n = Lib.decDigits n.toNat := by unfold Lib.itoa; rw [if_neg (by omega)]
  rw [e]; exact h
 refine Fn.toV (fun w0 E => ?_)
 have e : Lib.itoa n = 45 :: Lib.decDigits n.natAbs := by unfold Lib.itoa; rw [if_pos (by omega)]
 have hsz := str_size (Lib.decDigits n.natAbs)
 have hdl := decDigits_le n.natAbs
 refine fE 25 Tryd.func32 ?_
 refine zQ (zG (zR 1 rfl (zN (zU (zQ (zQ (zG (zR 2 rfl (zN (zU ?_))))))))))
 refine W.condD rfl (fun hc0 => ?_) (fun hc0 => ?_)
 ·try dsimp only at hc0
  refine zQ (zG (zR 1 rfl ?_))
  refine WG.y rfl rfl qD (Yl.neg rfl rfl (fun _ => rfl) qA) ?_
  refine WG.callV (v := .string (str (Lib.decDigits n.natAbs))) en32 rfl rfl qD (CallOp.mk' rfl rfl rfl rfl) (fun _ => rfl) (fun hg => by
   have h := Decimal_V (R := R) n.natAbs (by omega)
   rw [show ((n.natAbs : Nat) : Int) = -n by omega] at h
   exact h) ?_
  refine WG.y rfl rfl (by decide) (Yl.cat rfl rfl rfl (fun _ => rfl) (by intro _; (show (str [45]).size + _ ≤ _; rw [str_size]; simp only [List.length_cons, List.length_nil]; omega))) ?_
  refine zR 1 rfl (zN (zU (zT (wt ?_))))
  refine sE (E := E) ?_
  refine WE.retF tab_ok [_] rfl ⟨rfl, trivial⟩ (RLe.refl _) ?_
  exact ⟨by show Value.string (str [45] ++ str (Lib.decDigits n.natAbs)) = _; rw [str_append, e]; rfl, rfl⟩
 ·try dsimp only at hc0
  omega

set_option maxHeartbeats 1000000 in
theorem RFmt03_V {R : Ro} {fa : Option Addr} {fc : Nat} {c : Cv} (ha : RS R 1 encI fa c.vals) : FnV Tryd.prog 9 [.agg #[.slice fa c.vals.length fc, .int .i64 c.per, .int .i64 c.inc]] R (.tuple #[.string (str (formatR c).1), .int .i64 (formatR c).2]) := by
 refine Fn.toV (fun w0 E => ?_)
 refine fE 48 Tryd.func9 ?_
 refine zQ (zG ?_)
 refine zO fun b1 => ?_
 refine zR 2 rfl (zN (zU (zQ (zQ (zG ?_)))))
 refine' WG.y rfl rfl qD (Yl.load1 tab_ok rfl rfl rfl (fun _ => rfl) ?r1 rfl ?h1) ?_
 case r1 => (first | exact Rd.blk 0 rfl | exact Rd.blk 1 rfl | exact Rd.blk 2 rfl)
 case h1 => rfl
 refine WG.callV (v := .bool (validB c)) en31 rfl rfl qD (CallOp.mk' rfl rfl rfl rfl) (fun _ => rfl) (fun hg => ValidA_V (c := fc) ha) ?_
 refine zR 1 rfl (zN (zU ?_))
 refine W.cond rfl (fun hc0 => ?_) (fun hc0 => ?_)
 ·try simp only [zk] at hc0
  have hf : formatR c = ([], 1) := if_pos (by simpa using hc0)
  refine zQ (zG (zR 2 rfl (zN (zU (zT (wt ?_))))))
  refine sE (E := E) ?_
  refine WE.retF tab_ok [_, _] rfl ⟨rfl, rfl, trivial⟩ (RLe.refl _) ?_
  exact ⟨by rw [hf]; rfl, rfl⟩
 ·try simp only [zk] at hc0
  have hv : validB c = true := by simpa using hc0
  have hvrg := valid_range hv
  have hfcl := fmtC_len hv
  refine zK (zU (zQ (zG (zR 1 rfl (zN (zU (zQ (zQ (zG (zR 1 rfl (zN (zU (zB ?_)))))))))))))
  refine W.loopK (β := Nat) (fun i => i ≤ c.vals.length) (fun i => [(4, true, .string (str (fmtVals (c.vals.take i)))), (5, true, .int .i64 (i : Int))]) [1] [_] [] _ rfl (fun i => []) (fun i => c.vals.length - i) (0) (Nat.zero_le _) ⟨rfl, rfl, rfl, rfl⟩ qS ?_
  intro i hst
  dsimp only [zipE, setAll, List.cons_append, List.nil_append, List.set_cons_zero, List.set_cons_succ] at hst ⊢
  
  refine zQ (zQ (zG (zR 2 rfl ?_)))
  refine' WG.y rfl rfl qD (Yl.load1 tab_ok rfl rfl rfl (fun _ => rfl) ?r2 rfl ?h2) ?_
  case r2 => apply Rd.add; (first | exact Rd.blk 0 rfl | exact Rd.blk 1 rfl | exact Rd.blk 2 rfl)
  case h2 => rfl
  refine zR 2 rfl (zN (zU ?_))
  refine W.condD rfl (fun hc1 => ?_) (fun hc1 => ?_)
  ·try dsimp only at hc1
   have hjl : i < c.vals.length := by omega
   have hvv := valid_vals hv _ (nth_mem hjl)
   have hwl := wordV_len hvv
   have hfl := fmtVals_len (c.vals.take i) (fun v h => valid_vals hv v (List.mem_of_mem_take h))
   rw [List.length_take] at hfl
   have hsn : fmtVals (c.vals.take (i + 1)) = (fmtVals (c.vals.take i) ++ wordV (nth c.vals i)) ++ [32] := by
    rw [← fmtVals_snoc, nth_eq hjl, List.take_succ_eq_append_getElem hjl]
   have hss := str_size (fmtVals (c.vals.take i))
   refine zK (zU (zQ (zB (zQ (zG (zR 1 rfl ?_))))))
   refine' WG.y rfl rfl qD (Yl.load1 tab_ok rfl rfl rfl (fun _ => rfl) ?r3 rfl ?h3) ?_
   case r3 => apply Rd.add; (first | exact Rd.blk 0 rfl | exact Rd.blk 1 rfl | exact Rd.blk 2 rfl)
   case h3 => rfl
   refine zR 1 rfl ?_
   refine WG.y rfl rfl qD (Yl.indexN tab_ok rfl rfl rfl rfl rfl rfl (fun _ => rfl) qN qH) ?_
   refine' WG.y rfl rfl qD (Yl.load1 tab_ok rfl rfl rfl (fun _ => rfl) ?r4 rfl ?h4) ?_
   case r4 => (first | (apply RS.rdD; assumption; ((try dsimp only) <;> omega)) | exact Rd.slD 0 rfl qX | exact Rd.slD 1 rfl qX | exact Rd.slD 2 rfl qX)
   case h4 => rfl
   refine zR 1 rfl (zN (zU ?_))
   refine W.condE rfl (fun hc2 => ?_) (fun hc2 => ?_)
   ·try dsimp only at hc2
    have ew : wordV (nth c.vals i) = wInf := if_pos hc2
    rw [ew, List.append_assoc] at hsn
    refine zG (zR 1 rfl ?_)
    refine WG.y rfl rfl qD (Yl.catS rfl rfl rfl (fun _ => rfl) (by intro _; (show _ + 4 ≤ _; omega))) ?_
    rw [show fmtVals (c.vals.take i) ++ [105, 110, 102, 32] = fmtVals (c.vals.take (i + 1)) from hsn.symm]
    refine zR 1 rfl (zN (zL (zU (zG (zR 1 rfl ?_)))))
    refine yA ?_
    refine zR 1 rfl (zN ?_)
    refine WE.again (i + 1) (by (try dsimp only); omega) (by (try dsimp only); omega) ⟨rfl, rfl, rfl, rfl⟩ (RLe.refl _) qS
   ·try dsimp only at hc2
    unfold INF at hvv
    have ew : wordV (nth c.vals i) = Lib.itoa (nth c.vals i) := if_neg hc2
    rw [ew] at hsn hwl
    have hvv2 := hvv.resolve_left hc2
    refine zG (zR 2 rfl ?_)
    refine' WG.y rfl rfl qD (Yl.load1 tab_ok rfl rfl rfl (fun _ => rfl) ?r5 rfl ?h5) ?_
    case r5 => apply Rd.add; (first | exact Rd.blk 0 rfl | exact Rd.blk 1 rfl | exact Rd.blk 2 rfl)
    case h5 => rfl
    refine zR 1 rfl ?_
    refine WG.y rfl rfl qD (Yl.indexN tab_ok rfl rfl rfl rfl rfl rfl (fun _ => rfl) qN qH) ?_
    refine' WG.y rfl rfl qD (Yl.load1 tab_ok rfl rfl rfl (fun _ => rfl) ?r6 rfl ?h6) ?_
    case r6 => (first | (apply RS.rdD; assumption; ((try dsimp only) <;> omega)) | exact Rd.slD 0 rfl qX | exact Rd.slD 1 rfl qX | exact Rd.slD 2 rfl qX)
    case h6 => rfl
    refine WG.callV en32 rfl rfl qD (CallOp.mk' rfl rfl rfl rfl) (fun _ => rfl) (fun hg => DecimalZ_V qO) ?_
    refine WG.y rfl rfl qD (Yl.catS rfl rfl rfl (fun _ => rfl) (by intro _; omega)) ?_
    refine WG.y rfl rfl (by decide) (Yl.catS rfl rfl rfl (fun _ => rfl) (by intro _; (simp only [List.length_append, List.length_cons, List.length_nil]; omega))) ?_
    rw [← hsn]
    refine zR 1 rfl (zN (zL (zU (zG (zR 1 rfl ?_)))))
    refine yA ?_
    refine zR 1 rfl (zN ?_)
    refine WE.again (i + 1) (by (try dsimp only); omega) (by (try dsimp only); omega) ⟨rfl, rfl, rfl, rfl⟩ (RLe.refl _) qS
  ·try dsimp only at hc1
   obtain rfl : i = c.vals.length := by omega
   rw [List.take_length]
   have hfl := fmtVals_len c.vals (valid_vals hv)
   have hwp := wordV_len (v := c.per) (.inr (by omega))
   have hwi := wordV_len (v := c.inc) (.inr (by omega))
   have ep : wordV c.per = Lib.itoa c.per := if_neg (by unfold INF; omega)
   have ei : wordV c.inc = Lib.itoa c.inc := if_neg (by unfold INF; omega)
   rw [ep] at hwp
   rw [ei] at hwi
   refine zX ?_
   refine wx (wx (zY (zU (zQ ?_))))
   refine W.regionQ _ mixed qK ?_
   refine zR 1 rfl ?_
   refine WG.y rfl rfl qD (Yl.catS rfl rfl rfl (fun _ => rfl) (by intro _; (show _ + 4 ≤ _; omega))) ?_
   refine zR 1 rfl ?_
   refine' WG.y rfl rfl qD (Yl.load1 tab_ok rfl rfl rfl (fun _ => rfl) ?r7 rfl ?h7) ?_
   case r7 => apply Rd.add; (first | exact Rd.blk 0 rfl | exact Rd.blk 1 rfl | exact Rd.blk 2 rfl)
   case h7 => rfl
   refine WG.callV en32 rfl rfl qD (CallOp.mk' rfl rfl rfl rfl) (fun _ => rfl) (fun hg => DecimalZ_V qO) ?_
   refine WG.y rfl rfl (by decide) (Yl.catS rfl rfl rfl (fun _ => rfl) (by intro _; (simp only [List.length_append, List.length_cons, List.length_nil]; omega))) ?_
   refine WG.y rfl rfl (by decide) (Yl.catS rfl rfl rfl (fun _ => rfl) (by intro _; (simp only [List.length_append, List.length_cons, List.length_nil]; omega))) ?_
   refine zR 1 rfl ?_
   refine' WG.y rfl rfl qD (Yl.load1 tab_ok rfl rfl rfl (fun _ => rfl) ?r8 rfl ?h8) ?_
   case r8 => apply Rd.add; (first | exact Rd.blk 0 rfl | exact Rd.blk 1 rfl | exact Rd.blk 2 rfl)
   case h8 => rfl
   refine WG.callV en32 rfl rfl qD (CallOp.mk' rfl rfl rfl rfl) (fun _ => rfl) (fun hg => DecimalZ_V qO) ?_
   refine WG.y rfl rfl (by decide) (Yl.catS rfl rfl rfl (fun _ => rfl) (by intro _; (simp only [List.length_append, List.length_cons, List.length_nil]; omega))) ?_
   refine zR 1 rfl (zN (zU (zQ ?_)))
   have efc : ((((fmtVals c.vals ++ [112, 101, 114, 32]) ++ Lib.itoa c.per) ++ [32, 105, 110, 99, 32]) ++ Lib.itoa c.inc) = fmtC c := by
    unfold fmtC
    simp [wPer, wInc]
   rw [efc]
   have hss := str_size (fmtC c)
   refine zQ (zG (zR 3 rfl (zN (zU ?_))))
   refine W.condD rfl (fun hc3 => ?_) (fun hc3 => ?_)
   ·try dsimp only at hc3
    have hf : formatR c = ([], 3) := by unfold formatR; rw [if_neg (by rw [hv]; decide), if_pos (by omega)]
    refine zQ (zG (zR 2 rfl (zN (zU (zT (wt ?_))))))
    refine sE (E := E) ?_
    refine WE.retF tab_ok [_, _] rfl ⟨rfl, rfl, trivial⟩ (RLe.refl _) ?_
    exact ⟨by rw [hf]; rfl, rfl⟩
   ·try dsimp only at hc3
    have hf : formatR c = (fmtC c, 0) := by unfold formatR; rw [if_neg (by rw [hv]; decide), if_neg (by omega)]
    refine zK (zU (zQ (zG (zR 3 rfl (zN (zU (zT ?_)))))))
    refine sE (E := E) ?_
    refine WE.retF tab_ok [_, _] rfl ⟨rfl, rfl, trivial⟩ (RLe.refl _) ?_
    exact ⟨by rw [hf]; rfl, rfl⟩



theorem fmtR_len (c : Cv) : (formatR c).1.length ≤ 4000 := by
 unfold formatR
 split
 ·exact Nat.zero_le _
 ·split
  ·exact Nat.zero_le _
  ·rename_i h; show (fmtC c).length ≤ 4000; omega


def rnumV (w : List UInt8) : Int := if digs w = true then min (numV w : Int) 1073741825 else 0
theorem numV_take {w : List UInt8} {i : Nat} (h : i < w.length) : numV (w.take (i + 1)) = 10 * numV (w.take i) + (w[i].toNat - 48) := by
 rw [List.take_succ_eq_append_getElem h, numV_snoc]

theorem RNum03_V {R : Ro} {w : List UInt8} (hw : w.length ≤ 1000000) : FnV Tryd.prog 41 [.string (str w)] R (.tuple #[.int .i64 (rnumV w), .bool (digs w)]) := by
 refine Fn.toV (fun w0 E => ?_)
 have hss := str_size w
 refine fE 45 Tryd.func41 ?_
 refine zQ (zG (zR 2 rfl (zN (zU (zQ (zQ (zG (zR 4 rfl ?_))))))))
 refine yP ?_
 refine yP ?_
 refine yP ?_
 refine yP ?_
 refine yP ?_
 refine WG.y rfl rfl (by decide) (Yl.sidx tab_ok rfl rfl rfl rfl rfl qE (by intro hg; (try simp only [zk] at hg); constructor <;> (try dsimp only) <;> omega)) ?_
 refine yP ?_
 refine yN ?_
 refine yO ?_
 refine zN (zU ?_)
 refine W.cond rfl (fun hc0 => ?_) (fun hc0 => ?_)
 ·try simp only [zk] at hc0
  have hno : digs w = false := by
   unfold digs
   rw [decide_eq_false_iff_not]
   rintro ⟨h1, h2, _⟩
   rcases hc0 with h | h
   ·exact h1 (List.eq_nil_of_length_eq_zero (by omega))
   ·exact h2 ⟨by omega, h.2⟩
  refine zQ (zG (zR 2 rfl (zN (zU (zT (wt ?_))))))
  refine sE (E := E) ?_
  refine WE.retF tab_ok [_, _] rfl ⟨rfl, rfl, trivial⟩ (RLe.refl _) ?_
  exact ⟨by unfold rnumV; rw [hno]; rfl, rfl⟩
 ·try simp only [zk] at hc0
  have hy1 : w ≠ [] := fun h => hc0.1 (by rw [hss, h]; rfl)
  have hy2 : ¬ (1 < w.length ∧ byteAt w 0 = 48) := fun h => by
   obtain ⟨h1, h2⟩ := hc0
   first | exact h2 qO h.2 | (have := h2 qO; omega) | (rcases h2 with h2 | h2; omega; exact h2 h.2)
  refine zK (zU (zQ (zG (zR 1 rfl (zN (zU (zQ (zQ (zG (zR 1 rfl (zN (zU (zB ?_)))))))))))))
  refine W.loopK (β := Nat) (fun i => i ≤ w.length ∧ ∀ j, j < i → 48 ≤ byteAt w j ∧ byteAt w j ≤ 57) (fun i => [(4, true, .int .i64 (min (numV (w.take i) : Int) 1073741825)), (5, true, .int .i64 (i : Int))]) [0] [_] [] _ rfl (fun i => []) (fun i => w.length - i) (0) (⟨Nat.zero_le _, fun j hj => by omega⟩) ⟨rfl, rfl, rfl, rfl⟩ qS ?_
  intro i hst
  dsimp only [zipE, setAll, List.cons_append, List.nil_append, List.set_cons_zero, List.set_cons_succ] at hst ⊢
  
  refine zQ (zQ (zG (zR 4 rfl (zN (zU ?_)))))
  refine W.condD rfl (fun hc1 => ?_) (fun hc1 => ?_)
  ·try dsimp only at hc1
   have hil : i < w.length := by omega
   have hbt : byteAt w ((i : Int)).toNat = byteAt w i := rfl
   have hbr := byteAt_range w i
   refine zK (zU (zQ (zB (zQ (zQ (zG (zR 2 rfl ?_)))))))
   refine WG.y rfl rfl qD (Yl.sidx tab_ok rfl rfl rfl rfl rfl (fun _ => rfl) qA) ?_
   refine zR 2 rfl ?_
   refine yP ?_
   refine yP ?_
   refine WG.y rfl rfl (by decide) (Yl.sidx tab_ok rfl rfl rfl rfl rfl qE (by intro hg; (try simp only [zk] at hg); constructor <;> (try dsimp only) <;> omega)) ?_
   refine yP ?_
   refine yO ?_
   refine zN (zU ?_)
   refine W.cond rfl (fun hc2 => ?_) (fun hc2 => ?_)
   ·try simp only [zk] at hc2
    have hno : digs w = false := by
     unfold digs
     rw [decide_eq_false_iff_not]
     rintro ⟨_, _, h3⟩
     have := h3 i hil
     rw [hbt] at hc2
     omega
    refine zQ (zG (zR 2 rfl (zN (zU (zT (wt (wb (wt (wt (wb (wt ?_)))))))))))
    refine sE (E := E) ?_
    refine WE.retF tab_ok [_, _] rfl ⟨rfl, rfl, trivial⟩ (RLe.refl _) ?_
    exact ⟨by unfold rnumV; rw [hno]; rfl, rfl⟩
   ·try simp only [zk] at hc2
    rw [hbt] at hc2
    have hy : 48 ≤ byteAt w i ∧ byteAt w i ≤ 57 := by omega
    have hnt := numV_take hil
    have hbg := byte_get hil
    have hmn : min (10 * min (numV (w.take i) : Int) 1073741825 + (byteAt w i - 48)) 1073741825 = min (numV (w.take (i + 1)) : Int) 1073741825 := by rw [hnt]; omega
    refine zK (zU (zG (zR 1 rfl ?_)))
    refine WG.y rfl rfl qD (Yl.mul rfl rfl rfl (fun _ => rfl) qA) ?_
    refine zR 2 rfl ?_
    refine WG.y rfl rfl qD (Yl.sidx tab_ok rfl rfl rfl rfl rfl (fun _ => rfl) qA) ?_
    refine WG.y rfl rfl qD (Yl.subB rfl rfl rfl (fun _ => rfl) qA) ?_
    refine WG.y rfl rfl qD (Yl.convId tab_ok rfl rfl rfl rfl rfl rfl (fun _ => rfl) (by intro _; (try dsimp only); first | exact u64_id ⟨by omega, by omega⟩ | exact i64_wrap ⟨by omega, by omega⟩ | exact u8_id ⟨by omega, by omega⟩)) ?_
    refine yA ?_
    refine zR 1 rfl ?_
    rw [show (if 1073741825 < 10 * min (numV (w.take i) : Int) 1073741825 + (byteAt w ((i : Int)).toNat - 48) then (1073741825 : Int) else 10 * min (numV (w.take i) : Int) 1073741825 + (byteAt w ((i : Int)).toNat - 48)) = min (numV (w.take (i + 1)) : Int) 1073741825 from by rw [← hmn]; show (if _ < 10 * _ + (byteAt w i - 48) then _ else 10 * _ + (byteAt w i - 48)) = _; split <;> omega]
    refine zR 1 rfl (zN (zL (zU (zG (zR 1 rfl ?_)))))
    refine yA ?_
    refine zR 1 rfl (zN ?_)
    refine WE.again (i + 1) (⟨by omega, fun j hj => by
     by_cases e : j = i
     ·subst e; exact hy
     ·exact hst.2 j (by omega)⟩) (by (try dsimp only); omega) ⟨rfl, rfl, rfl, rfl⟩ (RLe.refl _) qS
  ·try dsimp only at hc1
   obtain rfl : i = w.length := by omega
   rw [List.take_length]
   refine zX ?_
   refine wx (wx (zY (zU (zQ (zG (zR 3 rfl (zN (zU (zT ?_)))))))))
   refine sE (E := E) ?_
   refine WE.retF tab_ok [_, _] rfl ⟨rfl, rfl, trivial⟩ (RLe.refl _) ?_
   have hyes : digs w = true := decide_eq_true ⟨hy1, hy2, hst.2⟩
   exact ⟨by unfold rnumV; rw [hyes]; rfl, rfl⟩



set_option maxHeartbeats 4000000 in
theorem RParse03_C {R : Ro} {s : List UInt8} (hs : s.length ≤ 1000000) (w0 : World) (E : List Ent) : K.Fn Tryd.prog 17 [.string (str s)] w0 R E (fun v R' E' => ∃ (f : Option Addr) (fc : Nat), v = .tuple #[.agg #[.slice f (parseR s).1.vals.length fc, .int .i64 (parseR s).1.per, .int .i64 (parseR s).1.inc], .int .i64 ((parseR s).2.1 : Int), .int .i64 (parseR s).2.2] ∧ RS R' 1 encI f (parseR s).1.vals ∧ (parseR s).1.vals.length ≤ fc ∧ E.Sublist E') := by
 have hss := str_size s
 refine fE 110 Tryd.func17 ?_
 refine zQ (zG ?_)
 refine zA fun b2 => ?_
 refine zR 2 rfl (zN (zU (zQ (zQ (zG (zR 3 rfl (zN (zU ?_))))))))
 refine W.condD rfl (fun hc0 => ?_) (fun hc0 => ?_)
 ·try dsimp only at hc0
  have hp : parseR s = (zcv, 0, 3) := if_pos (by omega)
  refine zQ (zG ?_)
  -- build
  refine WG.y rfl rfl qD (Yl.build (parts := []) tab_ok rfl rfl rfl rfl (fun _ => rfl) rfl rfl) ?_
  first | refine WL.efN rfl rfl (Ef.store0 0 tab_ok rfl rfl rfl rfl rfl rfl rfl rfl ?_) | refine WL.efN rfl rfl (Ef.store0 1 tab_ok rfl rfl rfl rfl rfl rfl rfl rfl ?_) | refine WL.efN rfl rfl (Ef.store0 2 tab_ok rfl rfl rfl rfl rfl rfl rfl rfl ?_) | refine WL.efN rfl rfl (Ef.store0 3 tab_ok rfl rfl rfl rfl rfl rfl rfl rfl ?_)
  refine zR 2 rfl (zN (zU (zT (wt ?_))))
  refine WE.retF tab_ok [_, _, _] rfl ⟨⟨_, _, _, rfl, rfl, rfl, qB, rfl⟩, rfl, rfl, trivial⟩ (by first | exact RLe.refl _ | exact hR1) ?_
  exact ⟨none, 0, by rw [hp]; rfl, by rw [hp]; exact rs_nil, by rw [hp]; exact Nat.le_refl 0, qS⟩
 ·try dsimp only at hc0
  have hnl : ¬ 4000 < s.length := by omega
  refine zK (zU (zQ (zG ?_)))
  refine zA fun b5 => ?_
  refine zN (zU ?_)
  refine W.nil 3 1 qD ?_
  refine zQ (zG (zR 2 rfl (zN (zU (zQ (zQ (zG (zR 1 rfl (zN (zU (zB ?_)))))))))))
  refine W.loopK (β := Nat × List Int × Int × Int × Nat × Nat × Option Addr × Nat) (fun (wh, vals, per, inc, a, i, a9, c9) => Scan s wh vals per inc a i ∧ wh ≤ 5 ∧ vals.length ≤ i) (fun (wh, vals, per, inc, a, i, a9, c9) => [(6, true, .int .i64 (wh : Int)), (7, true, .int .i64 (a : Int)), (8, true, .int .i64 (i : Int))]) [0, 2, 5] [_, _, _] [] _ rfl (fun (wh, vals, per, inc, a, i, a9, c9) => [(0, .sl 3 1 a9 c9 ((vals).map encI)), (1, .blk b5 [.slice a9 vals.length c9, .int .i64 per, .int .i64 inc])]) (fun (wh, vals, per, inc, a, i, a9, c9) => s.length + 1 - i) ((0, [], 0, 0, 0, 0, none, 0)) (⟨Scan.start s, by decide, Nat.le_refl 0⟩) ⟨rfl, rfl, rfl, rfl, rfl, rfl, rfl⟩ qS ?_
  intro zz hst
  obtain ⟨wh, vals, per, inc, a, i, a9, c9⟩ := zz
  dsimp only [zipE, setAll, List.cons_append, List.nil_append, List.set_cons_zero, List.set_cons_succ] at hst ⊢
  obtain ⟨hsc, hw5, hvl⟩ := hst
  have hle := hsc.le
  refine zQ (zQ (zG (zR 4 rfl (zN (zU ?_)))))
  refine W.condD rfl (fun hc1 => ?_) (fun hc1 => ?_)
  ·try dsimp only at hc1
   have hil : i ≤ s.length := by omega
   refine zK (zU (zQ (zB (zQ (zQ (zG (zR 5 rfl ?_)))))))
   refine yP ?_
   refine yP ?_
   refine WG.y rfl rfl (by decide) (Yl.sidx tab_ok rfl rfl rfl rfl rfl qE (by intro hg; (try simp only [zk] at hg); constructor <;> (try dsimp only) <;> omega)) ?_
   refine yP ?_
   refine yN ?_
   refine zN (zU ?_)
   refine W.cond rfl (fun hc2 => ?_) (fun hc2 => ?_)
   ·try simp only [zk] at hc2
    have hib : i < s.length := by omega
    have hbt : byteAt s ((i : Int)).toNat = byteAt s i := rfl
    rw [hbt] at hc2
    refine zX ?_
    refine wx (zY (zU (zG (zR 1 rfl ?_))))
    refine yA ?_
    refine zR 1 rfl (zN ?_)
    refine WE.again ((wh, vals, per, inc, a, i + 1, a9, c9)) (⟨hsc.skip hib qO, hw5, by (try dsimp only); omega⟩) (by (try dsimp only); omega) ⟨rfl, rfl, rfl, rfl, rfl, rfl, rfl⟩ (RLe.refl _) qS
   ·try simp only [zk] at hc2
    have hbt : byteAt s ((i : Int)).toNat = byteAt s i := rfl
    rw [hbt] at hc2
    have hbd : i = s.length ∨ byteAt s i = 32 := by
     by_cases h : i = s.length
     ·exact .inl h
     ·right
      first | exact hc2 qO | (have := hc2 qO; omega) | (rcases hc2 with h2 | h2; omega; omega)
    obtain ⟨ws, hgo, hnx⟩ := hsc.word hil hbd
    have hWl : ((s.take i).drop a).length ≤ 4000 := by rw [List.length_drop, List.length_take]; omega
    refine zK (zU (zQ (zG (zR 3 rfl ?_))))
    refine WG.y rfl rfl qD (Yl.sliceSLH tab_ok rfl rfl rfl rfl rfl rfl (fun _ => rfl) (by intro _; omega)) ?_
    simp only [Int.toNat_natCast]
    generalize (s.take i).drop a = wd at hgo hnx hWl ⊢
    refine zR 1 rfl (zN (zU (zQ (zG (zR 1 rfl ?_)))))
    refine WG.callV en41 rfl rfl qD (CallOp.mk' rfl rfl rfl rfl) (fun _ => rfl) (fun hg => RNum03_V (w := wd) qO) ?_
    refine zR 5 rfl (zN (zU (zQ (zB (zQ (zG (zR 3 rfl ?_)))))))
    refine yP ?_
    refine WG.y rfl rfl qD (Yl.eqS rfl rfl rfl qE) ?_
    refine yN ?_
    refine zR 1 rfl (zN (zU ?_))
    refine W.cond rfl (fun hc3 => ?_) (fun hc3 => ?_)
    ·try simp only [zk] at hc3
     have hW : wd = wInf := str_inj (b := wInf) hc3.2
     have hw1 : wh ≤ 1 := by omega
     have hgo2 := hgo
     rw [parseGo, if_pos ⟨hw1, hW⟩] at hgo2
     have hs2 := hnx _ _ _ _ hgo2
     refine zG (zR 1 rfl ?_)
     refine' WG.y rfl rfl qD (Yl.load1 tab_ok rfl rfl rfl (fun _ => rfl) ?r1 rfl ?h1) ?_
     case r1 => apply Rd.add; (first | exact Rd.blk 0 rfl | exact Rd.blk 1 rfl | exact Rd.blk 2 rfl | exact Rd.blk 3 rfl)
     case h1 => rfl
     refine WL.ef rfl rfl qD (Ef.buildSliceD (enc := encI) (parts := [.const (.int .i64 4611686018427387904)]) [_] tab_ok rfl rfl rfl rfl rfl rfl rfl rfl qD qD (fun a52 => ?_))
     first | refine WL.ef rfl rfl (by decide) (Ef.appendD 1 0 tab_ok rfl rfl rfl rfl rfl rfl rfl rfl rfl rfl rfl (fun _ _ => rfl) (by simp only [List.length_cons, List.length_nil]; omega) (by simp only [List.length_cons, List.length_nil]; omega) (fun a53 c53 ha53 => ?_)) | refine WL.ef rfl rfl (by decide) (Ef.appendD 2 0 tab_ok rfl rfl rfl rfl rfl rfl rfl rfl rfl rfl rfl (fun _ _ => rfl) (by simp only [List.length_cons, List.length_nil]; omega) (by simp only [List.length_cons, List.length_nil]; omega) (fun a53 c53 ha53 => ?_)) | refine WL.ef rfl rfl (by decide) (Ef.appendD 3 0 tab_ok rfl rfl rfl rfl rfl rfl rfl rfl rfl rfl rfl (fun _ _ => rfl) (by simp only [List.length_cons, List.length_nil]; omega) (by simp only [List.length_cons, List.length_nil]; omega) (fun a53 c53 ha53 => ?_)) | refine WL.ef rfl rfl (by decide) (Ef.appendR 0 tab_ok rfl rfl rfl rfl rfl rfl rfl rfl rfl rfl (by assumption) (fun _ _ => rfl) (by (try dsimp only); omega) (by omega) (fun a53 c53 ha53 => ?_)) | refine WL.ef rfl rfl (by decide) (Ef.appendR 1 tab_ok rfl rfl rfl rfl rfl rfl rfl rfl rfl rfl (by assumption) (fun _ _ => rfl) (by (try dsimp only); omega) (by omega) (fun a53 c53 ha53 => ?_)) | refine WL.ef rfl rfl (by decide) (Ef.appendR 2 tab_ok rfl rfl rfl rfl rfl rfl rfl rfl rfl rfl (by assumption) (fun _ _ => rfl) (by (try dsimp only); omega) (by omega) (fun a53 c53 ha53 => ?_)) | refine WL.ef rfl rfl (by decide) (Ef.appendR 3 tab_ok rfl rfl rfl rfl rfl rfl rfl rfl rfl rfl (by assumption) (fun _ _ => rfl) (by (try dsimp only); omega) (by omega) (fun a53 c53 ha53 => ?_))
     refine zR 1 rfl ?_
     first | refine WL.efN rfl rfl (Ef.store 0 tab_ok rfl rfl rfl rfl rfl rfl rfl rfl ?_) | refine WL.efN rfl rfl (Ef.store 1 tab_ok rfl rfl rfl rfl rfl rfl rfl rfl ?_) | refine WL.efN rfl rfl (Ef.store 2 tab_ok rfl rfl rfl rfl rfl rfl rfl rfl ?_) | refine WL.efN rfl rfl (Ef.store 3 tab_ok rfl rfl rfl rfl rfl rfl rfl rfl ?_)
     refine zR 1 rfl (zN (zL (zU (zG (zR 1 rfl ?_)))))
     refine yA ?_
     refine zR 1 rfl (zN (zL (zU (zG (zR 1 rfl ?_)))))
     refine yA ?_
     refine zR 1 rfl (zN ?_)
     refine WE.again ((1, vals ++ [INF], per, inc, i + 1, i + 1, a53, c53)) (⟨hs2, by (try dsimp only); omega, by (try simp only [List.length_append, List.length_cons, List.length_nil]); omega⟩) (by (try dsimp only); omega) ⟨rfl, rfl, rfl, rfl, rfl, rfl, rfl⟩ (RLe.refl _) qS
    ·try simp only [zk] at hc3
     have n1 : ¬ (wh ≤ 1 ∧ wd = wInf) := fun h => by have := hc3 (by omega); exact this (by rw [h.2]; rfl)
     refine zQ (zG (zR 3 rfl ?_))
     refine yP ?_
     refine WG.y rfl rfl qD (Yl.eqS rfl rfl rfl qE) ?_
     refine yN ?_
     refine zR 1 rfl (zN (zU ?_))
     refine W.cond rfl (fun hc4 => ?_) (fun hc4 => ?_)
     ·try simp only [zk] at hc4
      have hW : wd = wPer := str_inj (b := wPer) hc4.2
      have hw1 : wh = 1 := by omega
      have hgo2 := hgo
      rw [parseGo, if_neg n1, if_pos ⟨hw1, hW⟩] at hgo2
      have hs2 := hnx _ _ _ _ hgo2
      refine zG (zR 1 rfl (zN (zL (zU (zG (zR 1 rfl ?_))))))
      refine yA ?_
      refine zR 1 rfl (zN (zL (zU (zG (zR 1 rfl ?_)))))
      refine yA ?_
      refine zR 1 rfl (zN ?_)
      refine WE.again ((2, vals, per, inc, i + 1, i + 1, a9, c9)) (⟨hs2, by (try dsimp only); omega, by (try simp only [List.length_append, List.length_cons, List.length_nil]); omega⟩) (by (try dsimp only); omega) ⟨rfl, rfl, rfl, rfl, rfl, rfl, rfl⟩ (RLe.refl _) qS
     ·try simp only [zk] at hc4
      have n2 : ¬ (wh = 1 ∧ wd = wPer) := fun h => by have := hc4 (by omega); exact this (by rw [h.2]; rfl)
      refine zQ (zG (zR 3 rfl ?_))
      refine yP ?_
      refine WG.y rfl rfl qD (Yl.eqS rfl rfl rfl qE) ?_
      refine yN ?_
      refine zR 1 rfl (zN (zU ?_))
      refine W.cond rfl (fun hc5 => ?_) (fun hc5 => ?_)
      ·try simp only [zk] at hc5
       have hW : wd = wInc := str_inj (b := wInc) hc5.2
       have hw1 : wh = 3 := by omega
       have hgo2 := hgo
       rw [parseGo, if_neg n1, if_neg n2, if_pos ⟨hw1, hW⟩] at hgo2
       have hs2 := hnx _ _ _ _ hgo2
       refine zG (zR 1 rfl (zN (zL (zU (zG (zR 1 rfl ?_))))))
       refine yA ?_
       refine zR 1 rfl (zN (zL (zU (zG (zR 1 rfl ?_)))))
       refine yA ?_
       refine zR 1 rfl (zN ?_)
       refine WE.again ((4, vals, per, inc, i + 1, i + 1, a9, c9)) (⟨hs2, by (try dsimp only); omega, by (try simp only [List.length_append, List.length_cons, List.length_nil]); omega⟩) (by (try dsimp only); omega) ⟨rfl, rfl, rfl, rfl, rfl, rfl, rfl⟩ (RLe.refl _) qS
      ·try simp only [zk] at hc5
       have n3 : ¬ (wh = 3 ∧ wd = wInc) := fun h => by have := hc5 (by omega); exact this (by rw [h.2]; rfl)
       refine zQ (zG (zR 2 rfl ?_))
       refine yP ?_
       refine yP ?_
       refine yN ?_
       refine zR 1 rfl ?_
       refine yP ?_
       refine yP ?_
       refine yN ?_
       refine zR 1 rfl (zN (zU ?_))
       refine W.cond rfl (fun hc6 => ?_) (fun hc6 => ?_)
       ·try simp only [zk] at hc6
        have hd : digs wd = true ∧ wh ≠ 3 ∧ wh ≠ 5 := by refine ⟨hc6.1.1, ?_, ?_⟩ <;> omega
        have hrn : rnumV wd = min (numV wd : Int) 1073741825 := if_pos hd.1
        have hgo2 := hgo
        rw [parseGo, if_neg n1, if_neg n2, if_neg n3, if_pos hd] at hgo2
        refine zQ (zQ (zG (zR 2 rfl (zN (zU ?_)))))
        refine W.condD rfl (fun hc7 => ?_) (fun hc7 => ?_)
        ·try dsimp only at hc7
         have hp : parseR s = (zcv, a, 2) := by
          have e : parseGo s.length 0 [] 0 0 0 (spl s) = (zcv, a, 2) := by rw [hgo2, if_pos (by omega)]
          unfold parseR
          rw [if_neg hnl, e]; exact if_pos (by show (2 : Int) ≠ 0; decide)
         refine zQ (zG ?_)
         -- build
         refine WG.y rfl rfl qD (Yl.build (parts := []) tab_ok rfl rfl rfl rfl (fun _ => rfl) rfl rfl) ?_
         refine zR 1 rfl ?_
         first | refine WL.efN rfl rfl (Ef.store0 0 tab_ok rfl rfl rfl rfl rfl rfl rfl rfl ?_) | refine WL.efN rfl rfl (Ef.store0 1 tab_ok rfl rfl rfl rfl rfl rfl rfl rfl ?_) | refine WL.efN rfl rfl (Ef.store0 2 tab_ok rfl rfl rfl rfl rfl rfl rfl rfl ?_) | refine WL.efN rfl rfl (Ef.store0 3 tab_ok rfl rfl rfl rfl rfl rfl rfl rfl ?_)
         refine zR 2 rfl (zN (zU (zT (wt (wb (wt (wb (wt (wt (wb (wt ?_)))))))))))
         refine WE.retF tab_ok [_, _, _] rfl ⟨⟨_, _, _, rfl, rfl, rfl, qB, rfl⟩, rfl, rfl, trivial⟩ (by first | exact RLe.refl _ | exact hR1) ?_
         exact ⟨none, 0, by rw [hp]; rfl, by rw [hp]; exact rs_nil, by rw [hp]; exact Nat.le_refl 0, qS⟩
        ·try dsimp only at hc7
         rw [if_neg (by omega)] at hgo2
         have hrv : rnumV wd = (numV wd : Int) := by omega
         rw [hrv]
         refine zK (zU (zQ (zG (zR 1 rfl (zN (zU (zB (zQ (zG (zR 2 rfl (zN (zU ?_))))))))))))
         refine W.condE rfl (fun hc8 => ?_) (fun hc8 => ?_)
         ·try dsimp only at hc8
          rw [if_pos (by omega)] at hgo2
          have hs2 := hnx _ _ _ _ hgo2
          refine zG (zR 2 rfl ?_)
          first | refine WL.efN rfl rfl (Ef.store 0 tab_ok rfl rfl rfl rfl rfl rfl rfl rfl ?_) | refine WL.efN rfl rfl (Ef.store 1 tab_ok rfl rfl rfl rfl rfl rfl rfl rfl ?_) | refine WL.efN rfl rfl (Ef.store 2 tab_ok rfl rfl rfl rfl rfl rfl rfl rfl ?_) | refine WL.efN rfl rfl (Ef.store 3 tab_ok rfl rfl rfl rfl rfl rfl rfl rfl ?_)
          refine zR 1 rfl (zN (zL (zL (zU (zG (zR 1 rfl ?_))))))
          refine yA ?_
          refine zR 1 rfl (zN (zL (zU (zG (zR 1 rfl ?_)))))
          refine yA ?_
          refine zR 1 rfl (zN ?_)
          refine WE.again ((3, vals, (numV wd : Int), inc, i + 1, i + 1, a9, c9)) (⟨hs2, by (try dsimp only); omega, by (try simp only [List.length_append, List.length_cons, List.length_nil]); omega⟩) (by (try dsimp only); omega) ⟨rfl, rfl, rfl, rfl, rfl, rfl, rfl⟩ (RLe.refl _) qS
         ·try dsimp only at hc8
          rw [if_neg (by omega)] at hgo2
          refine zQ (zG (zR 2 rfl (zN (zU ?_))))
          refine W.condE rfl (fun hc9 => ?_) (fun hc9 => ?_)
          ·try dsimp only at hc9
           rw [if_pos (by omega)] at hgo2
           have hs2 := hnx _ _ _ _ hgo2
           refine zG (zR 2 rfl ?_)
           first | refine WL.efN rfl rfl (Ef.store 0 tab_ok rfl rfl rfl rfl rfl rfl rfl rfl ?_) | refine WL.efN rfl rfl (Ef.store 1 tab_ok rfl rfl rfl rfl rfl rfl rfl rfl ?_) | refine WL.efN rfl rfl (Ef.store 2 tab_ok rfl rfl rfl rfl rfl rfl rfl rfl ?_) | refine WL.efN rfl rfl (Ef.store 3 tab_ok rfl rfl rfl rfl rfl rfl rfl rfl ?_)
           refine zR 1 rfl (zN (zL (zL (zU (zG (zR 1 rfl ?_))))))
           refine yA ?_
           refine zR 1 rfl (zN (zL (zU (zG (zR 1 rfl ?_)))))
           refine yA ?_
           refine zR 1 rfl (zN ?_)
           refine WE.again ((5, vals, per, (numV wd : Int), i + 1, i + 1, a9, c9)) (⟨hs2, by (try dsimp only); omega, by (try simp only [List.length_append, List.length_cons, List.length_nil]); omega⟩) (by (try dsimp only); omega) ⟨rfl, rfl, rfl, rfl, rfl, rfl, rfl⟩ (RLe.refl _) qS
          ·try dsimp only at hc9
           rw [if_neg (by omega)] at hgo2
           have hs2 := hnx _ _ _ _ hgo2
           refine zG (zR 1 rfl ?_)
           refine' WG.y rfl rfl qD (Yl.load1 tab_ok rfl rfl rfl (fun _ => rfl) ?r2 rfl ?h2) ?_
           case r2 => apply Rd.add; (first | exact Rd.blk 0 rfl | exact Rd.blk 1 rfl | exact Rd.blk 2 rfl | exact Rd.blk 3 rfl)
           case h2 => rfl
           refine zR 1 rfl ?_
           refine WL.ef rfl rfl qD (Ef.buildSliceD (enc := encI) (parts := [.tmp 86]) [_] tab_ok rfl rfl rfl rfl rfl rfl rfl rfl qD qD (fun a87 => ?_))
           first | refine WL.ef rfl rfl (by decide) (Ef.appendD 1 0 tab_ok rfl rfl rfl rfl rfl rfl rfl rfl rfl rfl rfl (fun _ _ => rfl) (by simp only [List.length_cons, List.length_nil]; omega) (by simp only [List.length_cons, List.length_nil]; omega) (fun a88 c88 ha88 => ?_)) | refine WL.ef rfl rfl (by decide) (Ef.appendD 2 0 tab_ok rfl rfl rfl rfl rfl rfl rfl rfl rfl rfl rfl (fun _ _ => rfl) (by simp only [List.length_cons, List.length_nil]; omega) (by simp only [List.length_cons, List.length_nil]; omega) (fun a88 c88 ha88 => ?_)) | refine WL.ef rfl rfl (by decide) (Ef.appendD 3 0 tab_ok rfl rfl rfl rfl rfl rfl rfl rfl rfl rfl rfl (fun _ _ => rfl) (by simp only [List.length_cons, List.length_nil]; omega) (by simp only [List.length_cons, List.length_nil]; omega) (fun a88 c88 ha88 => ?_)) | refine WL.ef rfl rfl (by decide) (Ef.appendR 0 tab_ok rfl rfl rfl rfl rfl rfl rfl rfl rfl rfl (by assumption) (fun _ _ => rfl) (by (try dsimp only); omega) (by omega) (fun a88 c88 ha88 => ?_)) | refine WL.ef rfl rfl (by decide) (Ef.appendR 1 tab_ok rfl rfl rfl rfl rfl rfl rfl rfl rfl rfl (by assumption) (fun _ _ => rfl) (by (try dsimp only); omega) (by omega) (fun a88 c88 ha88 => ?_)) | refine WL.ef rfl rfl (by decide) (Ef.appendR 2 tab_ok rfl rfl rfl rfl rfl rfl rfl rfl rfl rfl (by assumption) (fun _ _ => rfl) (by (try dsimp only); omega) (by omega) (fun a88 c88 ha88 => ?_)) | refine WL.ef rfl rfl (by decide) (Ef.appendR 3 tab_ok rfl rfl rfl rfl rfl rfl rfl rfl rfl rfl (by assumption) (fun _ _ => rfl) (by (try dsimp only); omega) (by omega) (fun a88 c88 ha88 => ?_))
           refine zR 1 rfl ?_
           first | refine WL.efN rfl rfl (Ef.store 0 tab_ok rfl rfl rfl rfl rfl rfl rfl rfl ?_) | refine WL.efN rfl rfl (Ef.store 1 tab_ok rfl rfl rfl rfl rfl rfl rfl rfl ?_) | refine WL.efN rfl rfl (Ef.store 2 tab_ok rfl rfl rfl rfl rfl rfl rfl rfl ?_) | refine WL.efN rfl rfl (Ef.store 3 tab_ok rfl rfl rfl rfl rfl rfl rfl rfl ?_)
           refine zR 1 rfl (zN (zL (zL (zU (zG (zR 1 rfl ?_))))))
           refine yA ?_
           refine zR 1 rfl (zN (zL (zU (zG (zR 1 rfl ?_)))))
           refine yA ?_
           refine zR 1 rfl (zN ?_)
           refine WE.again ((1, vals ++ [(numV wd : Int)], per, inc, i + 1, i + 1, a88, c88)) (⟨hs2, by (try dsimp only); omega, by (try simp only [List.length_append, List.length_cons, List.length_nil]); omega⟩) (by (try dsimp only); omega) ⟨rfl, rfl, rfl, rfl, rfl, rfl, rfl⟩ (RLe.refl _) qS
       ·try simp only [zk] at hc6
        have hd : ¬ (digs wd = true ∧ wh ≠ 3 ∧ wh ≠ 5) := fun h => by
         first | exact hc6 (by omega) (by omega) | (have := hc6 ⟨h.1, by omega⟩; omega) | (have := hc6 h.1; omega) | simp_all <;> omega
        have hp : parseR s = (zcv, a, 4) := by
         have e : parseGo s.length 0 [] 0 0 0 (spl s) = (zcv, a, 4) := by rw [hgo, parseGo, if_neg n1, if_neg n2, if_neg n3, if_neg hd]
         unfold parseR
         rw [if_neg hnl, e]; exact if_pos (by show (4 : Int) ≠ 0; decide)
        refine zQ (zG ?_)
        -- build
        refine WG.y rfl rfl qD (Yl.build (parts := []) tab_ok rfl rfl rfl rfl (fun _ => rfl) rfl rfl) ?_
        refine zR 1 rfl ?_
        first | refine WL.efN rfl rfl (Ef.store0 0 tab_ok rfl rfl rfl rfl rfl rfl rfl rfl ?_) | refine WL.efN rfl rfl (Ef.store0 1 tab_ok rfl rfl rfl rfl rfl rfl rfl rfl ?_) | refine WL.efN rfl rfl (Ef.store0 2 tab_ok rfl rfl rfl rfl rfl rfl rfl rfl ?_) | refine WL.efN rfl rfl (Ef.store0 3 tab_ok rfl rfl rfl rfl rfl rfl rfl rfl ?_)
        refine zR 2 rfl (zN (zU (zT (wb (wt (wb (wt (wt (wb (wt ?_))))))))))
        refine WE.retF tab_ok [_, _, _] rfl ⟨⟨_, _, _, rfl, rfl, rfl, qB, rfl⟩, rfl, rfl, trivial⟩ (by first | exact RLe.refl _ | exact hR1) ?_
        exact ⟨none, 0, by rw [hp]; rfl, by rw [hp]; exact rs_nil, by rw [hp]; exact Nat.le_refl 0, qS⟩
  ·try dsimp only at hc1
   have hil : ¬ i ≤ s.length := by omega
   have hgo := hsc.stop hil
   refine zX ?_
   refine wx (wx (zY (zU (zQ (zQ (zG (zR 2 rfl (zN (zU ?_)))))))))
   refine W.condN rfl (fun hc10 => ?_) (fun hc10 => ?_)
   ·try dsimp only at hc10
    have hp : parseR s = (zcv, s.length, 4) := by
     have e : parseGo s.length 0 [] 0 0 0 (spl s) = (zcv, s.length, 4) := by rw [hgo, if_neg (by omega)]
     unfold parseR
     rw [if_neg hnl, e]; exact if_pos (by show (4 : Int) ≠ 0; decide)
    refine zQ (zG ?_)
    -- build
    refine WG.y rfl rfl qD (Yl.build (parts := []) tab_ok rfl rfl rfl rfl (fun _ => rfl) rfl rfl) ?_
    refine zR 2 rfl ?_
    first | refine WL.efN rfl rfl (Ef.store0 0 tab_ok rfl rfl rfl rfl rfl rfl rfl rfl ?_) | refine WL.efN rfl rfl (Ef.store0 1 tab_ok rfl rfl rfl rfl rfl rfl rfl rfl ?_) | refine WL.efN rfl rfl (Ef.store0 2 tab_ok rfl rfl rfl rfl rfl rfl rfl rfl ?_) | refine WL.efN rfl rfl (Ef.store0 3 tab_ok rfl rfl rfl rfl rfl rfl rfl rfl ?_)
    refine zR 2 rfl (zN (zU (zT (wt ?_))))
    refine WE.retF tab_ok [_, _, _] rfl ⟨⟨_, _, _, rfl, rfl, rfl, qB, rfl⟩, rfl, rfl, trivial⟩ (by first | exact RLe.refl _ | exact hR1) ?_
    exact ⟨none, 0, by rw [hp]; rfl, by rw [hp]; exact rs_nil, by rw [hp]; exact Nat.le_refl 0, qS⟩
   ·try dsimp only at hc10
    have hgo2 : parseGo s.length 0 [] 0 0 0 (spl s) = (⟨vals, per, inc⟩, 0, 0) := by rw [hgo, if_pos (by omega)]
    refine zK (zU (zQ ?_))
    refine W.cap 0 rfl ?_
    intro hcp
    rw [List.length_map] at hcp
    refine W.freeze (enc := encI) (xs := vals) 0 rfl ?_
    intro R1 hR1 hvs
    refine zQ (zG ?_)
    refine' WG.y rfl rfl qD (Yl.load1 tab_ok rfl rfl rfl (fun _ => rfl) ?r3 rfl ?h3) ?_
    case r3 => (first | exact Rd.blk 0 rfl | exact Rd.blk 1 rfl | exact Rd.blk 2 rfl | exact Rd.blk 3 rfl)
    case h3 => rfl
    refine WG.callV (v := .bool (validB ⟨vals, per, inc⟩)) en31 rfl rfl qD (CallOp.mk' rfl rfl rfl rfl) (fun _ => rfl) (fun hg => ValidA_V (c := c9) (v := vals) hvs) ?_
    refine zR 1 rfl (zN (zU ?_))
    refine W.cond rfl (fun hc11 => ?_) (fun hc11 => ?_)
    ·try simp only [zk] at hc11
     have hv : validB ⟨vals, per, inc⟩ = false := by simpa using hc11
     have hp : parseR s = (zcv, 0, 1) := by unfold parseR; rw [if_neg hnl, hgo2, if_neg (fun h => h rfl), if_neg (by rw [hv]; decide)]
     refine zQ (zG ?_)
     -- build
     refine WG.y rfl rfl qD (Yl.build (parts := []) tab_ok rfl rfl rfl rfl (fun _ => rfl) rfl rfl) ?_
     first | refine WL.efN rfl rfl (Ef.store0 0 tab_ok rfl rfl rfl rfl rfl rfl rfl rfl ?_) | refine WL.efN rfl rfl (Ef.store0 1 tab_ok rfl rfl rfl rfl rfl rfl rfl rfl ?_) | refine WL.efN rfl rfl (Ef.store0 2 tab_ok rfl rfl rfl rfl rfl rfl rfl rfl ?_) | refine WL.efN rfl rfl (Ef.store0 3 tab_ok rfl rfl rfl rfl rfl rfl rfl rfl ?_)
     refine zR 2 rfl (zN (zU (zT (wt ?_))))
     refine WE.retF tab_ok [_, _, _] rfl ⟨⟨_, _, _, rfl, rfl, rfl, qB, rfl⟩, rfl, rfl, trivial⟩ (by first | exact RLe.refl _ | exact hR1) ?_
     exact ⟨none, 0, by rw [hp]; rfl, by rw [hp]; exact rs_nil, by rw [hp]; exact Nat.le_refl 0, qS⟩
    ·try simp only [zk] at hc11
     have hv : validB ⟨vals, per, inc⟩ = true := by simpa using hc11
     have hp : parseR s = (⟨vals, per, inc⟩, 0, 0) := by unfold parseR; rw [if_neg hnl, hgo2, if_neg (fun h => h rfl), if_pos hv]
     refine zK (zU (zQ (zG ?_)))
     refine' WG.y rfl rfl qD (Yl.load1 tab_ok rfl rfl rfl (fun _ => rfl) ?r4 rfl ?h4) ?_
     case r4 => (first | exact Rd.blk 0 rfl | exact Rd.blk 1 rfl | exact Rd.blk 2 rfl | exact Rd.blk 3 rfl)
     case h4 => rfl
     first | refine WL.efN rfl rfl (Ef.store0 0 tab_ok rfl rfl rfl rfl rfl rfl rfl rfl ?_) | refine WL.efN rfl rfl (Ef.store0 1 tab_ok rfl rfl rfl rfl rfl rfl rfl rfl ?_) | refine WL.efN rfl rfl (Ef.store0 2 tab_ok rfl rfl rfl rfl rfl rfl rfl rfl ?_) | refine WL.efN rfl rfl (Ef.store0 3 tab_ok rfl rfl rfl rfl rfl rfl rfl rfl ?_)
     refine zR 2 rfl (zN (zU (zT ?_)))
     refine WE.retF tab_ok [_, _, _] rfl ⟨⟨_, _, _, rfl, rfl, rfl, qB, rfl⟩, rfl, rfl, trivial⟩ (by first | exact RLe.refl _ | exact hR1) ?_
     exact ⟨a9, c9, by rw [hp]; rfl, by rw [hp]; exact hvs, by rw [hp]; exact hcp, qS⟩





set_option maxHeartbeats 1000000 in
theorem IsName03_V {R : Ro} {s : List UInt8} (hs : s.length ≤ 9223372036854775807) : FnV Tryd.prog 20 [.string (str s)] R (.bool (isNameB s)) := by
 refine Fn.toV (fun w0 E => ?_)
 have hss := str_size s
 refine fE 50 Tryd.func20 ?_
 refine zQ (zG (zR 1 rfl (zN (zU (zQ (zQ (zG (zR 4 rfl ?_))))))))
 refine yP ?_
 refine yP ?_
 refine yP ?_
 refine yO ?_
 refine zR 1 rfl ?_
 refine yP ?_
 refine WG.y rfl rfl (by decide) (Yl.sidx tab_ok rfl rfl rfl rfl rfl qE (by intro hg; (try simp only [zk] at hg); (constructor <;> first | omega | (have h1 := hg; simp at h1; omega)))) ?_
 refine yP ?_
 refine yO ?_
 refine zR 1 rfl ?_
 refine yP ?_
 refine WG.y rfl rfl (by decide) (Yl.sidx tab_ok rfl rfl rfl rfl rfl qE (by intro hg; (try simp only [zk] at hg); (constructor <;> first | omega | (have h1 := hg; simp at h1; omega)))) ?_
 refine yP ?_
 refine yO ?_
 refine zN (zU ?_)
 refine W.cond rfl (fun hc0 => ?_) (fun hc0 => ?_)
 ·try simp only [zk] at hc0
  have h00 : byteAt s ((0 : Int)).toNat = byteAt s 0 := rfl
  try rw [h00] at hc0
  have hno : isNameB s = false := by
   unfold isNameB
   rw [decide_eq_false_iff_not]
   rintro ⟨h1, h2, h3⟩
   have := h3 0 (by omega)
   omega
  refine zQ (zG (zR 1 rfl (zN (zU (zT (wt ?_))))))
  refine sE (E := E) ?_
  refine WE.retF tab_ok [_] rfl ⟨rfl, trivial⟩ (RLe.refl _) ?_
  exact ⟨by rw [hno]; rfl, rfl⟩
 ·try simp only [zk] at hc0
  have h00 : byteAt s ((0 : Int)).toNat = byteAt s 0 := rfl
  try rw [h00] at hc0
  have hok : 1 ≤ s.length ∧ s.length ≤ 12 ∧ 97 ≤ byteAt s 0 ∧ byteAt s 0 ≤ 122 := by omega
  refine zK (zU (zQ (zQ (zG (zR 1 rfl (zN (zU (zB ?_))))))))
  refine W.loopK (β := Nat) (fun i => i ≤ s.length ∧ ∀ j, j < i → (97 ≤ byteAt s j ∧ byteAt s j ≤ 122) ∨ (0 < j ∧ 48 ≤ byteAt s j ∧ byteAt s j ≤ 57)) (fun i => [(3, true, .int .i64 (i : Int))]) [0] [_] [] _ rfl (fun i => []) (fun i => s.length - i) (0) (⟨Nat.zero_le _, fun j hj => by omega⟩) ⟨rfl, rfl, rfl⟩ qS ?_
  intro i hst
  dsimp only [zipE, setAll, List.cons_append, List.nil_append, List.set_cons_zero, List.set_cons_succ] at hst ⊢
  
  refine zQ (zQ (zG (zR 4 rfl (zN (zU ?_)))))
  refine W.condD rfl (fun hc1 => ?_) (fun hc1 => ?_)
  ·try dsimp only at hc1
   have hil : i < s.length := by omega
   have hbt : byteAt s ((i : Int)).toNat = byteAt s i := rfl
   refine zK (zU (zQ (zB (zQ (zG (zR 2 rfl ?_))))))
   refine WG.y rfl rfl qD (Yl.sidx tab_ok rfl rfl rfl rfl rfl (fun _ => rfl) qA) ?_
   refine zR 2 rfl ?_
   refine yP ?_
   refine yP ?_
   refine WG.y rfl rfl (by decide) (Yl.sidx tab_ok rfl rfl rfl rfl rfl qE (by intro hg; (try simp only [zk] at hg); constructor <;> (try dsimp only) <;> omega)) ?_
   refine yP ?_
   refine yO ?_
   refine zR 1 rfl ?_
   refine yP ?_
   refine yP ?_
   refine WG.y rfl rfl (by decide) (Yl.sidx tab_ok rfl rfl rfl rfl rfl qE (by intro hg; (try simp only [zk] at hg); constructor <;> (try dsimp only) <;> omega)) ?_
   refine yP ?_
   refine yP ?_
   refine yP ?_
   refine yP ?_
   refine WG.y rfl rfl (by decide) (Yl.sidx tab_ok rfl rfl rfl rfl rfl qE (by intro hg; (try simp only [zk] at hg); constructor <;> (try dsimp only) <;> omega)) ?_
   refine yP ?_
   refine yO ?_
   refine yN ?_
   refine zN (zU ?_)
   refine W.cond rfl (fun hc2 => ?_) (fun hc2 => ?_)
   ·try simp only [zk] at hc2
    have hno : isNameB s = false := by
     unfold isNameB
     rw [decide_eq_false_iff_not]
     rintro ⟨h1, h2, h3⟩
     have := h3 i hil
     rw [hbt] at hc2
     omega
    refine zQ (zG (zR 1 rfl (zN (zU (zT (wb (wt (wt (wb (wt ?_))))))))))
    refine sE (E := E) ?_
    refine WE.retF tab_ok [_] rfl ⟨rfl, trivial⟩ (RLe.refl _) ?_
    exact ⟨by rw [hno]; rfl, rfl⟩
   ·try simp only [zk] at hc2
    rw [hbt] at hc2
    have hy : (97 ≤ byteAt s i ∧ byteAt s i ≤ 122) ∨ (0 < i ∧ 48 ≤ byteAt s i ∧ byteAt s i ≤ 57) := by
     by_cases h0 : i = 0
     ·subst h0; exact .inl hok.2.2
     ·omega
    refine zK (zL (zU (zG (zR 1 rfl ?_))))
    refine yA ?_
    refine zR 1 rfl (zN ?_)
    refine WE.again (i + 1) (⟨by omega, fun j hj => by
     by_cases e : j = i
     ·subst e; exact hy
     ·exact hst.2 j (by omega)⟩) (by (try dsimp only); omega) ⟨rfl, rfl, rfl⟩ (RLe.refl _) qS
  ·try dsimp only at hc1
   obtain rfl : i = s.length := by omega
   refine zX ?_
   refine wx (wx (zY (zU (zQ (zG (zR 1 rfl (zN (zU (zT ?_)))))))))
   refine sE (E := E) ?_
   refine WE.retF tab_ok [_] rfl ⟨rfl, trivial⟩ (RLe.refl _) ?_
   exact ⟨by rw [show isNameB s = true from decide_eq_true ⟨hok.1, hok.2.1, hst.2⟩]; rfl, rfl⟩

set_option maxHeartbeats 1000000 in
theorem RIsName03_V {R : Ro} {s : List UInt8} (hs : s.length ≤ 9223372036854775807) : FnV Tryd.prog 21 [.string (str s)] R (.bool (isNameB s)) := by
 refine Fn.toV (fun w0 E => ?_)
 have hss := str_size s
 refine fE 44 Tryd.func21 ?_
 refine zQ (zG (zR 1 rfl (zN (zU (zQ (zQ (zG (zR 1 rfl (zN (zU (zB ?_)))))))))))
 refine W.loopK (β := Nat) (fun i => i ≤ s.length ∧ ∀ j, j < i → (97 ≤ byteAt s j ∧ byteAt s j ≤ 122) ∨ (0 < j ∧ 48 ≤ byteAt s j ∧ byteAt s j ≤ 57)) (fun i => [(3, true, .int .i64 (i : Int))]) [0] [_] [] _ rfl (fun i => []) (fun i => s.length - i) (0) (⟨Nat.zero_le _, fun j hj => by omega⟩) ⟨rfl, rfl, rfl⟩ qS ?_
 intro i hst
 dsimp only [zipE, setAll, List.cons_append, List.nil_append, List.set_cons_zero, List.set_cons_succ] at hst ⊢
 
 refine zQ (zQ (zG (zR 4 rfl (zN (zU ?_)))))
 refine W.condD rfl (fun hc0 => ?_) (fun hc0 => ?_)
 ·try dsimp only at hc0
  have hil : i < s.length := by omega
  have hbt : byteAt s ((i : Int)).toNat = byteAt s i := rfl
  refine zK (zU (zQ (zB (zQ (zG (zR 2 rfl ?_))))))
  refine WG.y rfl rfl qD (Yl.sidx tab_ok rfl rfl rfl rfl rfl (fun _ => rfl) qA) ?_
  refine zR 2 rfl ?_
  refine yP ?_
  refine yP ?_
  refine WG.y rfl rfl (by decide) (Yl.sidx tab_ok rfl rfl rfl rfl rfl qE (by intro hg; (try simp only [zk] at hg); constructor <;> (try dsimp only) <;> omega)) ?_
  refine yP ?_
  refine yO ?_
  refine zR 1 rfl ?_
  refine yP ?_
  refine yP ?_
  refine yP ?_
  refine yP ?_
  refine yP ?_
  refine WG.y rfl rfl (by decide) (Yl.sidx tab_ok rfl rfl rfl rfl rfl qE (by intro hg; (try simp only [zk] at hg); constructor <;> (try dsimp only) <;> omega)) ?_
  refine yP ?_
  refine yO ?_
  refine yP ?_
  refine yP ?_
  refine yP ?_
  refine WG.y rfl rfl (by decide) (Yl.sidx tab_ok rfl rfl rfl rfl rfl qE (by intro hg; (try simp only [zk] at hg); constructor <;> (try dsimp only) <;> omega)) ?_
  refine yP ?_
  refine yO ?_
  refine yN ?_
  refine zN (zU ?_)
  refine W.cond rfl (fun hc1 => ?_) (fun hc1 => ?_)
  ·try simp only [zk] at hc1
   have hno : isNameB s = false := by
    unfold isNameB
    rw [decide_eq_false_iff_not]
    rintro ⟨h1, h2, h3⟩
    have := h3 i hil
    rw [hbt] at hc1
    omega
   refine zQ (zG (zR 1 rfl (zN (zU (zT (wb (wt (wt (wb (wt ?_))))))))))
   refine sE (E := E) ?_
   refine WE.retF tab_ok [_] rfl ⟨rfl, trivial⟩ (RLe.refl _) ?_
   exact ⟨by rw [hno]; rfl, rfl⟩
  ·try simp only [zk] at hc1
   rw [hbt] at hc1
   have hy : (97 ≤ byteAt s i ∧ byteAt s i ≤ 122) ∨ (0 < i ∧ 48 ≤ byteAt s i ∧ byteAt s i ≤ 57) := by omega
   refine zK (zL (zU (zG (zR 1 rfl ?_))))
   refine yA ?_
   refine zR 1 rfl (zN ?_)
   refine WE.again (i + 1) (⟨by omega, fun j hj => by
    by_cases e : j = i
    ·subst e; exact hy
    ·exact hst.2 j (by omega)⟩) (by (try dsimp only); omega) ⟨rfl, rfl, rfl⟩ (RLe.refl _) qS
 ·try dsimp only at hc0
  obtain rfl : i = s.length := by omega
  refine zX ?_
  refine wx (wx (zY (zU (zQ (zG (zR 4 rfl ?_))))))
  refine yP ?_
  refine yP ?_
  refine yP ?_
  refine yN ?_
  refine zR 1 rfl (zN (zU (zT ?_)))
  refine sE (E := E) ?_
  refine WE.retF tab_ok [_] rfl ⟨rfl, trivial⟩ (RLe.refl _) ?_
  have e : (decide (((str s).size : Int) ≥ 1) && decide (((str s).size : Int) ≤ 12)) = isNameB s := by
   unfold isNameB
   rw [hss, ← Bool.decide_and]
   exact decide_eq_decide.2 ⟨fun h => ⟨by omega, by omega, hst.2⟩, fun h => ⟨by omega, by omega⟩⟩
  exact ⟨congrArg Value.bool e, rfl⟩



def nmL : List (List UInt8) := [[97], [98, 55], [114, 97, 116, 101], [97, 98, 99, 100, 101, 102, 103, 104, 105, 106, 107, 108], [97, 98, 99, 100, 101, 102, 103, 104, 105, 106, 107, 108, 109], [], [55, 97], [65], [97, 32, 98]]
theorem nm_len : ∀ t ∈ nmL, t.length ≤ 13 := by decide

theorem Names03_C {R : Ro} (w0 : World) (E : List Ent) : K.Fn Tryd.prog 19 [] w0 R E (fun v R' E' => ∃ a : Option Addr, v = .slice a nmL.length 9 ∧ R = R' ∧ E' = .sl 9 1 a 9 ((nmL).map encT) :: E) := by
 refine fE 2 Tryd.func19 ?_
 refine zQ (zG (zR 1 rfl (zN (zU (zQ (zG ?_))))))
 refine WL.ef rfl rfl qD (Ef.buildSliceD (enc := encT) (parts := [.const (.string ⟨#[97]⟩), .const (.string ⟨#[98, 55]⟩), .const (.string ⟨#[114, 97, 116, 101]⟩), .const (.string ⟨#[97, 98, 99, 100, 101, 102, 103, 104, 105, 106, 107, 108]⟩), .const (.string ⟨#[97, 98, 99, 100, 101, 102, 103, 104, 105, 106, 107, 108, 109]⟩), .const (.string ⟨#[]⟩), .const (.string ⟨#[55, 97]⟩), .const (.string ⟨#[65]⟩), .const (.string ⟨#[97, 32, 98]⟩)]) nmL tab_ok rfl rfl rfl rfl rfl rfl rfl rfl qD qD (fun a1 => ?_))
 refine zR 1 rfl (zN (zU (zT ?_)))
 refine WE.retF tab_ok [_] rfl ⟨rfl, trivial⟩ (RLe.refl _) ?_
 exact ⟨_, rfl, rfl, rfl⟩



theorem Cut03_V {R : Ro} (hG : GlobE R) {s sep : List UInt8} (hs : s.length ≤ 4000000000) : FnV Tryd.prog 43 [.string (str s), .string (str sep)] R (.tuple #[.string (str (Lib.cut s sep).1), .string (str (Lib.cut s sep).2.1), .bool (Lib.cut s sep).2.2]) := by
 obtain ⟨m, rest, hm0⟩ := hG.m
 refine FnV.of (fun w0 E w hm => ?_)
 have hsz := str_size s
 refine (sh_strings_Cut (str s) (str sep) m w qO (hm.cell hm0)).mono ?_
 rintro e w' ⟨rfl, n, rfl⟩
 have h1 : (str s).data.toList = s := by simp [str]
 have h2 : (str sep).data.toList = sep := by simp [str]
 rw [h1, h2]
 exact ⟨rfl, K.below_drewN w n⟩

theorem Has03_E {R : Ro} {E : List Ent} {la : Option Addr} {lc m : Nat} {l : List NmS} (hl : LsN R E la l) (hm : l.length = m) {n : List UInt8} (w0 : World) : FnE Tryd.prog 42 [.slice la m lc, .string (str n)] w0 R E (.bool (hasN (l.map NmS.p) n)) := by
 subst hm
 have hll := hl.len
 refine Fn.toE ?_
 refine fE 19 Tryd.func42 ?_
 refine zQ (zG (zR 1 rfl (zN (zU (zQ (zQ (zG (zR 1 rfl (zN (zU (zB ?_)))))))))))
 refine W.loopK (β := Nat) (fun i => i ≤ l.length ∧ ∀ j, j < i → (nth l j).nm ≠ n) (fun i => [(5, true, .int .i64 (i : Int))]) [0, 1] [_, _] [] _ rfl (fun i => []) (fun i => l.length - i) (0) (⟨Nat.zero_le _, fun j hj => by omega⟩) ⟨rfl, rfl, rfl, rfl⟩ qS ?_
 intro i hst
 dsimp only [zipE, setAll, List.cons_append, List.nil_append, List.set_cons_zero, List.set_cons_succ] at hst ⊢
 
 refine zQ (zQ (zG (zR 4 rfl (zN (zU ?_)))))
 refine W.condD rfl (fun hc0 => ?_) (fun hc0 => ?_)
 ·try dsimp only at hc0
  have hil : i < l.length := by omega
  refine zK (zU (zQ (zB (zQ (zG (zR 2 rfl ?_))))))
  refine WG.y rfl rfl qD (Yl.indexN tab_ok rfl rfl rfl rfl rfl rfl (fun _ => rfl) qN (by intro _; first | exact (hl.sub (RLe.refl _) qS).has | exact qI)) ?_
  refine zR 1 rfl ?_
  refine' WG.y rfl rfl qD (Yl.load1 tab_ok rfl rfl rfl (fun _ => rfl) ?r1 rfl ?h1) ?_
  case r1 => apply Rd.add; exact (hl.sub (RLe.refl _) qS).rd _ qO
  case h1 => rfl
  refine zR 1 rfl ?_
  refine WG.y rfl rfl qD (Yl.eqS rfl rfl rfl (fun _ => rfl)) ?_
  refine zN (zU ?_)
  refine W.cond rfl (fun hc1 => ?_) (fun hc1 => ?_)
  ·try simp only [zk] at hc1
   have hnn : (nth l i).nm = n := str_inj hc1
   refine zQ (zG (zR 1 rfl (zN (zU (zT (wb (wt (wt (wb (wt ?_))))))))))
   refine sE (E := E) ?_
   refine WE.retF tab_ok [_] rfl ⟨rfl, trivial⟩ (RLe.refl _) ?_
   exact ⟨by rw [has_true hil hnn]; rfl, rfl⟩
  ·try simp only [zk] at hc1
   have hne : (nth l i).nm ≠ n := fun e => hc1 (by rw [e])
   refine zK (zL (zU (zG (zR 1 rfl ?_))))
   refine yA ?_
   refine zR 1 rfl (zN ?_)
   refine WE.again (i + 1) (⟨by omega, fun j hj => by
    by_cases e : j = i
    ·subst e; exact hne
    ·exact hst.2 j (by omega)⟩) (by (try dsimp only); omega) ⟨rfl, rfl, rfl, rfl⟩ (RLe.refl _) qS
 ·try dsimp only at hc0
  obtain rfl : i = l.length := by omega
  refine zX ?_
  refine wx (wx (zY (zU (zQ (zG (zR 1 rfl (zN (zU (zT ?_)))))))))
  refine sE (E := E) ?_
  refine WE.retF tab_ok [_] rfl ⟨rfl, trivial⟩ (RLe.refl _) ?_
  exact ⟨by rw [has_false hst.2]; rfl, rfl⟩

theorem RFind03_C {R : Ro} {E : List Ent} {la : Option Addr} {lc m : Nat} {l : List NmS} (hl : LsN R E la l) (hm : l.length = m) (hok : ∀ x ∈ l, OkNm R x ∧ x.c.cv.vals.length ≤ 1000) {n : List UInt8} (w0 : World) : K.Fn Tryd.prog 27 [.slice la m lc, .string (str n)] w0 R E (fun v R' E' => ∃ (f : Option Addr) (fc : Nat), v = .tuple #[.agg #[.slice f (findNm (l.map NmS.p) n).1.vals.length fc, .int .i64 (findNm (l.map NmS.p) n).1.per, .int .i64 (findNm (l.map NmS.p) n).1.inc], .int .i64 (findNm (l.map NmS.p) n).2] ∧ RS R' 1 encI f (findNm (l.map NmS.p) n).1.vals ∧ (findNm (l.map NmS.p) n).1.vals.length ≤ fc ∧ E.Sublist E') := by
 subst hm
 have hll := hl.len
 refine fE 26 Tryd.func27 ?_
 refine zQ (zG ?_)
 refine zA fun b4 => ?_
 refine zR 1 rfl (zN (zU (zQ (zQ (zG (zR 1 rfl (zN (zU (zB ?_)))))))))
 refine W.loopK (β := Nat) (fun i => i ≤ l.length ∧ ∀ j, j < i → (nth l j).nm ≠ n) (fun i => [(6, true, .int .i64 (i : Int))]) [0, 1, 4] [_, _, _] [] _ rfl (fun i => []) (fun i => l.length - i) (0) (⟨Nat.zero_le _, fun j hj => by omega⟩) ⟨rfl, rfl, rfl, rfl, rfl⟩ qS ?_
 intro i hst
 dsimp only [zipE, setAll, List.cons_append, List.nil_append, List.set_cons_zero, List.set_cons_succ] at hst ⊢
 
 refine zQ (zQ (zG (zR 4 rfl (zN (zU ?_)))))
 refine W.condD rfl (fun hc0 => ?_) (fun hc0 => ?_)
 ·try dsimp only at hc0
  have hil : i < l.length := by omega
  refine zK (zU (zQ (zB (zQ (zG (zR 2 rfl ?_))))))
  refine WG.y rfl rfl qD (Yl.indexN tab_ok rfl rfl rfl rfl rfl rfl (fun _ => rfl) qN (by intro _; first | exact (hl.sub (RLe.refl _) qS).has | exact qI)) ?_
  refine zR 1 rfl ?_
  refine' WG.y rfl rfl qD (Yl.load1 tab_ok rfl rfl rfl (fun _ => rfl) ?r1 rfl ?h1) ?_
  case r1 => apply Rd.add; exact (hl.sub (RLe.refl _) qS).rd _ qO
  case h1 => rfl
  refine zR 1 rfl ?_
  refine WG.y rfl rfl qD (Yl.eqS rfl rfl rfl (fun _ => rfl)) ?_
  refine zN (zU ?_)
  refine W.cond rfl (fun hc1 => ?_) (fun hc1 => ?_)
  ·try simp only [zk] at hc1
   have hnn : (nth l i).nm = n := str_inj hc1
   have hfq := find_at hil hst.2 hnn
   obtain ⟨hoi, hoc⟩ := hok _ (nth_mem hil)
   refine zQ (zG (zR 2 rfl ?_))
   refine WG.y rfl rfl qD (Yl.indexN tab_ok rfl rfl rfl rfl rfl rfl (fun _ => rfl) qN (by intro _; first | exact (hl.sub (RLe.refl _) qS).has | exact qI)) ?_
   refine zR 1 rfl ?_
   refine' WG.y rfl rfl qD (Yl.load1 tab_ok rfl rfl rfl (fun _ => rfl) ?r2 rfl ?h2) ?_
   case r2 => apply Rd.add; exact (hl.sub (RLe.refl _) qS).rd _ qO
   case h2 => rfl
   first | refine WL.efN rfl rfl (Ef.store0 0 tab_ok rfl rfl rfl rfl rfl rfl rfl rfl ?_) | refine WL.efN rfl rfl (Ef.store0 1 tab_ok rfl rfl rfl rfl rfl rfl rfl rfl ?_)
   refine zR 1 rfl (zN (zU (zT (wb (wt (wt (wb (wt ?_))))))))
   refine WE.retF tab_ok [_, _] rfl ⟨⟨_, _, _, rfl, rfl, rfl, qB, rfl⟩, rfl, trivial⟩ (RLe.refl _) ?_
   exact ⟨(nth l i).c.a, (nth l i).c.cap, by rw [hfq]; rfl, by rw [hfq]; exact hoi.1, by rw [hfq]; exact hoi.2.1, qS⟩
  ·try simp only [zk] at hc1
   have hne : (nth l i).nm ≠ n := fun e => hc1 (by rw [e])
   refine zK (zL (zU (zG (zR 1 rfl ?_))))
   refine yA ?_
   refine zR 1 rfl (zN ?_)
   refine WE.again (i + 1) (⟨by omega, fun j hj => by
    by_cases e : j = i
    ·subst e; exact hne
    ·exact hst.2 j (by omega)⟩) (by (try dsimp only); omega) ⟨rfl, rfl, rfl, rfl, rfl⟩ (RLe.refl _) qS
 ·try dsimp only at hc0
  obtain rfl : i = l.length := by omega
  refine zX ?_
  refine wx (wx (zY (zU (zQ (zG ?_)))))
  -- build
  refine WG.y rfl rfl qD (Yl.build (parts := []) tab_ok rfl rfl rfl rfl (fun _ => rfl) rfl rfl) ?_
  first | refine WL.efN rfl rfl (Ef.store0 0 tab_ok rfl rfl rfl rfl rfl rfl rfl rfl ?_) | refine WL.efN rfl rfl (Ef.store0 1 tab_ok rfl rfl rfl rfl rfl rfl rfl rfl ?_)
  refine zR 1 rfl (zN (zU (zT ?_)))
  refine WE.retF tab_ok [_, _] rfl ⟨⟨_, _, _, rfl, rfl, rfl, qB, rfl⟩, rfl, trivial⟩ (RLe.refl _) ?_
  have hfq : (findNm (l.map NmS.p) n) = (zcv, 5) := find_no hst.2
  exact ⟨none, 0, by rw [hfq]; rfl, by rw [hfq]; exact rs_nil, by rw [hfq]; exact Nat.le_refl 0, qS⟩

set_option maxHeartbeats 1000000 in
theorem Find03_C {R : Ro} {E : List Ent} {la : Option Addr} {lc m : Nat} {l : List NmS} (hl : LsN R E la l) (hm : l.length = m) (hok : ∀ x ∈ l, OkNm R x ∧ x.c.cv.vals.length ≤ 1000) {n : List UInt8} (w0 : World) : K.Fn Tryd.prog 26 [.slice la m lc, .string (str n)] w0 R E (fun v R' E' => ∃ (f : Option Addr) (fc : Nat), v = .tuple #[.agg #[.slice f (findNm (l.map NmS.p) n).1.vals.length fc, .int .i64 (findNm (l.map NmS.p) n).1.per, .int .i64 (findNm (l.map NmS.p) n).1.inc], .int .i64 (findNm (l.map NmS.p) n).2] ∧ RS R' 1 encI f (findNm (l.map NmS.p) n).1.vals ∧ (findNm (l.map NmS.p) n).1.vals.length ≤ fc ∧ E.Sublist E') := by
 subst hm
 have hll := hl.len
 refine fE 28 Tryd.func26 ?_
 refine zQ (zG ?_)
 refine zA fun b4 => ?_
 refine zR 1 rfl (zN (zU (zQ (zQ (zG (zR 3 rfl (zN (zU (zB ?_)))))))))
 refine W.loopK (β := Nat) (fun i => i ≤ l.length ∧ ∀ j, j < i → (nth l j).nm ≠ n) (fun i => [(11, true, .int .i64 (i : Int))]) [1, 4, 9, 10] [_, _, _, _] [] _ rfl (fun i => []) (fun i => l.length - i) (0) (⟨Nat.zero_le _, fun j hj => by omega⟩) ⟨rfl, rfl, rfl, rfl, rfl, rfl⟩ qS ?_
 intro i hst
 dsimp only [zipE, setAll, List.cons_append, List.nil_append, List.set_cons_zero, List.set_cons_succ] at hst ⊢
 
 refine zQ (zG (zR 1 rfl (zN (zU (zQ ?_)))))
 refine W.condD rfl (fun hc0 => ?_) (fun hc0 => ?_)
 ·try dsimp only at hc0
  have hil : i < l.length := by omega
  refine zK (zU (zQ (zB (zQ (zG ?_)))))
  refine WG.y rfl rfl qD (Yl.indexN tab_ok rfl rfl rfl rfl rfl rfl (fun _ => rfl) qN (by intro _; first | exact (hl.sub (RLe.refl _) qS).has | exact qI)) ?_
  refine' WG.y rfl rfl qD (Yl.load1 tab_ok rfl rfl rfl (fun _ => rfl) ?r1 rfl ?h1) ?_
  case r1 => exact (hl.sub (RLe.refl _) qS).rd _ qO
  case h1 => rfl
  refine zA fun b7 => ?_
  first | refine WL.efN rfl rfl (Ef.store0 0 tab_ok rfl rfl rfl rfl rfl rfl rfl rfl ?_) | refine WL.efN rfl rfl (Ef.store0 1 tab_ok rfl rfl rfl rfl rfl rfl rfl rfl ?_) | refine WL.efN rfl rfl (Ef.store0 2 tab_ok rfl rfl rfl rfl rfl rfl rfl rfl ?_) | refine WL.efN rfl rfl (Ef.store0 3 tab_ok rfl rfl rfl rfl rfl rfl rfl rfl ?_) | refine WL.efN rfl rfl (Ef.store0 4 tab_ok rfl rfl rfl rfl rfl rfl rfl rfl ?_)
  refine zN (zU (zQ (zG (zR 1 rfl ?_))))
  refine' WG.y rfl rfl qD (Yl.load1 tab_ok rfl rfl rfl (fun _ => rfl) ?r2 rfl ?h2) ?_
  case r2 => apply Rd.add; (first | exact Rd.blk 0 rfl | exact Rd.blk 1 rfl | exact Rd.blk 2 rfl | exact Rd.blk 3 rfl | exact Rd.blk 4 rfl)
  case h2 => rfl
  refine zR 1 rfl ?_
  refine WG.y rfl rfl qD (Yl.eqS rfl rfl rfl (fun _ => rfl)) ?_
  refine zN (zU ?_)
  refine W.cond rfl (fun hc1 => ?_) (fun hc1 => ?_)
  ·try simp only [zk] at hc1
   have hnn : (nth l i).nm = n := str_inj hc1
   have hfq := find_at hil hst.2 hnn
   obtain ⟨hoi, hoc⟩ := hok _ (nth_mem hil)
   have hx := hoi.1
   refine zQ (zG (zR 1 rfl ?_))
   refine' WG.y rfl rfl qD (Yl.load1 tab_ok rfl rfl rfl (fun _ => rfl) ?r3 rfl ?h3) ?_
   case r3 => apply Rd.add; (first | exact Rd.blk 0 rfl | exact Rd.blk 1 rfl | exact Rd.blk 2 rfl | exact Rd.blk 3 rfl | exact Rd.blk 4 rfl)
   case h3 => rfl
   refine zA fun b8 => ?_
   first | refine WL.efN rfl rfl (Ef.store0 0 tab_ok rfl rfl rfl rfl rfl rfl rfl rfl ?_) | refine WL.efN rfl rfl (Ef.store0 1 tab_ok rfl rfl rfl rfl rfl rfl rfl rfl ?_) | refine WL.efN rfl rfl (Ef.store0 2 tab_ok rfl rfl rfl rfl rfl rfl rfl rfl ?_) | refine WL.efN rfl rfl (Ef.store0 3 tab_ok rfl rfl rfl rfl rfl rfl rfl rfl ?_) | refine WL.efN rfl rfl (Ef.store0 4 tab_ok rfl rfl rfl rfl rfl rfl rfl rfl ?_)
   refine zN (zU (zQ (zG (zR 1 rfl ?_))))
   refine' WG.y rfl rfl qD (Yl.load1 tab_ok rfl rfl rfl (fun _ => rfl) ?r4 rfl ?h4) ?_
   case r4 => apply Rd.add; (first | exact Rd.blk 0 rfl | exact Rd.blk 1 rfl | exact Rd.blk 2 rfl | exact Rd.blk 3 rfl | exact Rd.blk 4 rfl)
   case h4 => rfl
   refine WL.nilE 3 1 qD ?_
   first | refine WL.ef rfl rfl qD (Ef.cloneL (enc := encI) 0 tab_ok rfl rfl rfl rfl rfl rfl rfl rfl rfl rfl hx (fun _ _ => rfl) (by dsimp only; omega) qO (fun a23 c23 ha23 => ?_))
   refine zR 1 rfl ?_
   first | refine WL.efN rfl rfl (Ef.store 0 tab_ok rfl rfl rfl rfl rfl rfl rfl rfl ?_) | refine WL.efN rfl rfl (Ef.store 1 tab_ok rfl rfl rfl rfl rfl rfl rfl rfl ?_) | refine WL.efN rfl rfl (Ef.store 2 tab_ok rfl rfl rfl rfl rfl rfl rfl rfl ?_) | refine WL.efN rfl rfl (Ef.store 3 tab_ok rfl rfl rfl rfl rfl rfl rfl rfl ?_) | refine WL.efN rfl rfl (Ef.store 4 tab_ok rfl rfl rfl rfl rfl rfl rfl rfl ?_)
   refine zN (zU ?_)
   refine W.cap 0 rfl ?_
   intro hcp
   rw [List.length_map] at hcp
   refine W.freeze (enc := encI) (xs := (nth l i).c.cv.vals) 0 rfl ?_
   intro R1 hR1 hcl
   refine zQ (zG ?_)
   refine' WG.y rfl rfl qD (Yl.load1 tab_ok rfl rfl rfl (fun _ => rfl) ?r5 rfl ?h5) ?_
   case r5 => (first | exact Rd.blk 0 rfl | exact Rd.blk 1 rfl | exact Rd.blk 2 rfl | exact Rd.blk 3 rfl | exact Rd.blk 4 rfl)
   case h5 => rfl
   first | refine WL.efN rfl rfl (Ef.store0 0 tab_ok rfl rfl rfl rfl rfl rfl rfl rfl ?_) | refine WL.efN rfl rfl (Ef.store0 1 tab_ok rfl rfl rfl rfl rfl rfl rfl rfl ?_) | refine WL.efN rfl rfl (Ef.store0 2 tab_ok rfl rfl rfl rfl rfl rfl rfl rfl ?_) | refine WL.efN rfl rfl (Ef.store0 3 tab_ok rfl rfl rfl rfl rfl rfl rfl rfl ?_) | refine WL.efN rfl rfl (Ef.store0 4 tab_ok rfl rfl rfl rfl rfl rfl rfl rfl ?_)
   refine zR 1 rfl (zN (zU (zT (wb (wt (wt (wb (wt ?_))))))))
   refine WE.retF tab_ok [_, _] rfl ⟨⟨_, _, _, rfl, rfl, rfl, qB, rfl⟩, rfl, trivial⟩ (by first | exact RLe.refl _ | exact hR1) ?_
   exact ⟨a23, c23, by rw [hfq]; rfl, by rw [hfq]; exact hcl, by rw [hfq]; exact hcp, qS⟩
  ·try simp only [zk] at hc1
   have hne : (nth l i).nm ≠ n := fun e => hc1 (by rw [e])
   refine zK (zL (zU (zG ?_)))
   refine yA ?_
   refine zR 1 rfl (zN ?_)
   refine WE.again (i + 1) (⟨by omega, fun j hj => by
    by_cases e : j = i
    ·subst e; exact hne
    ·exact hst.2 j (by omega)⟩) (by (try dsimp only); omega) ⟨rfl, rfl, rfl, rfl, rfl, rfl⟩ (RLe.refl _) qS
 ·try dsimp only at hc0
  obtain rfl : i = l.length := by omega
  refine zX ?_
  refine wx (wx (zY (zU (zQ (zG ?_)))))
  -- build
  refine WG.y rfl rfl qD (Yl.build (parts := []) tab_ok rfl rfl rfl rfl (fun _ => rfl) rfl rfl) ?_
  first | refine WL.efN rfl rfl (Ef.store0 0 tab_ok rfl rfl rfl rfl rfl rfl rfl rfl ?_) | refine WL.efN rfl rfl (Ef.store0 1 tab_ok rfl rfl rfl rfl rfl rfl rfl rfl ?_) | refine WL.efN rfl rfl (Ef.store0 2 tab_ok rfl rfl rfl rfl rfl rfl rfl rfl ?_) | refine WL.efN rfl rfl (Ef.store0 3 tab_ok rfl rfl rfl rfl rfl rfl rfl rfl ?_) | refine WL.efN rfl rfl (Ef.store0 4 tab_ok rfl rfl rfl rfl rfl rfl rfl rfl ?_)
  refine zR 1 rfl (zN (zU (zT ?_)))
  refine WE.retF tab_ok [_, _] rfl ⟨⟨_, _, _, rfl, rfl, rfl, qB, rfl⟩, rfl, trivial⟩ (by first | exact RLe.refl _ | exact hR1) ?_
  have hfq : (findNm (l.map NmS.p) n) = (zcv, 5) := find_no hst.2
  exact ⟨none, 0, by rw [hfq]; rfl, by rw [hfq]; exact rs_nil, by rw [hfq]; exact Nat.le_refl 0, qS⟩

theorem SameN_V {R : Ro} {la lb : Option Addr} {lc ld : Nat} {l k : List NmS} (hl : RS R 4 encNm la l) (hk : RS R 4 encNm lb k) (ho : ∀ x ∈ l, OkNm R x) (ho2 : ∀ x ∈ k, OkNm R x) (he : l.map NmS.p = k.map NmS.p) : FnV Tryd.prog 30 [.slice la l.length lc, .slice lb k.length ld] R (.bool true) := by
 have hll := hl.len
 have hlk := hk.len
 have hln : l.length = k.length := by have := congrArg List.length he; simpa using this
 have hat : ∀ i, i < l.length → (nth l i).nm = (nth k i).nm ∧ (nth l i).c.cv = (nth k i).c.cv := fun i hi => by
  have h1 : nth (l.map NmS.p) i = nth (k.map NmS.p) i := by rw [he]
  rw [nth_map_lt _ hi, nth_map_lt _ (by omega)] at h1
  exact ⟨congrArg Prod.fst h1, congrArg Prod.snd h1⟩
 refine Fn.toV (fun w0 E => ?_)
 refine fE 42 Tryd.func30 ?_
 refine zQ (zG (zR 1 rfl (zN (zU (zQ (zQ (zG (zR 5 rfl (zN (zU ?_))))))))))
 refine W.condN rfl (fun hc0 => ?_) (fun hc0 => ?_)
 ·try dsimp only at hc0
  exact absurd qO hc0
 ·try dsimp only at hc0
  refine zK (zU (zQ (zQ (zG (zR 1 rfl (zN (zU (zB ?_))))))))
  refine W.loopK (β := Nat) (fun i => i ≤ l.length) (fun i => [(5, true, .int .i64 (i : Int))]) [0, 1] [_, _] [] _ rfl (fun i => []) (fun i => l.length - i) (0) (Nat.zero_le _) ⟨rfl, rfl, rfl, rfl⟩ qS ?_
  intro i hst
  dsimp only [zipE, setAll, List.cons_append, List.nil_append, List.set_cons_zero, List.set_cons_succ] at hst ⊢
  
  refine zQ (zQ (zG (zR 4 rfl (zN (zU ?_)))))
  refine W.condD rfl (fun hc1 => ?_) (fun hc1 => ?_)
  ·try dsimp only at hc1
   have hil : i < l.length := by omega
   obtain ⟨hnm, hcv⟩ := hat i hil
   have q1 := ho _ (nth_mem hil)
   have q2 := ho2 _ (nth_mem (xs := k) (k := i) (by omega))
   refine zK (zU (zQ (zB (zQ ?_))))
   refine W.regionQ _ mixed qK ?_
   refine zR 2 rfl ?_
   refine WG.y rfl rfl qD (Yl.indexN tab_ok rfl rfl rfl rfl rfl rfl (fun _ => rfl) qN qH) ?_
   refine zR 1 rfl ?_
   refine' WG.y rfl rfl qD (Yl.load1 tab_ok rfl rfl rfl (fun _ => rfl) ?r1 rfl ?h1) ?_
   case r1 => apply Rd.add; exact RS.rdD hl qO
   case h1 => rfl
   refine zR 2 rfl ?_
   refine WG.y rfl rfl qD (Yl.indexN tab_ok rfl rfl rfl rfl rfl rfl (fun _ => rfl) qN qH) ?_
   refine zR 1 rfl ?_
   refine' WG.y rfl rfl qD (Yl.load1 tab_ok rfl rfl rfl (fun _ => rfl) ?r2 rfl ?h2) ?_
   case r2 => apply Rd.add; exact RS.rdD hk qO
   case h2 => rfl
   refine WG.y rfl rfl qD (Yl.neS rfl rfl rfl (fun _ => rfl)) ?_
   refine zR 1 rfl ?_
   refine yP ?_
   refine yP ?_
   refine WG.y rfl rfl (by decide) (Yl.indexN tab_ok rfl rfl rfl rfl rfl rfl qE (by intro hg; (try simp only [zk] at hg); (try dsimp only) <;> omega) (by intro hg; (try simp only [zk] at hg); first | exact qI)) ?_
   refine yP ?_
   refine' WG.y rfl rfl qD (Yl.loadG tab_ok rfl rfl rfl qE ?r3 rfl ?h3 ?g3) ?_
   case r3 => exact fun _ => by apply Rd.add; exact RS.rdD hl qO
   case h3 => rfl
   case g3 => first | exact fun _ => trivial | (intro hg; (try simp only [zk] at hg); (try dsimp only); omega)
   refine yP ?_
   refine yP ?_
   refine WG.y rfl rfl (by decide) (Yl.indexN tab_ok rfl rfl rfl rfl rfl rfl qE (by intro hg; (try simp only [zk] at hg); (try dsimp only) <;> omega) (by intro hg; (try simp only [zk] at hg); first | exact qI)) ?_
   refine yP ?_
   refine' WG.y rfl rfl qD (Yl.loadG tab_ok rfl rfl rfl qE ?r4 rfl ?h4 ?g4) ?_
   case r4 => exact fun _ => by apply Rd.add; exact RS.rdD hk qO
   case h4 => rfl
   case g4 => first | exact fun _ => trivial | (intro hg; (try simp only [zk] at hg); (try dsimp only); omega)
   refine WG.callV (v := .bool true) en18 rfl rfl qD (CallOp.mk' rfl rfl rfl rfl) qE (fun hg => by
    have h := Same02_V (ca := (nth l i).c.cap) (cb := (nth k i).c.cap) (p1 := (nth l i).c.cv.per) (i1 := (nth l i).c.cv.inc) (p2 := (nth k i).c.cv.per) (i2 := (nth k i).c.cv.inc) q1.1 q2.1
    rw [decide_eq_true ⟨by rw [hcv], by rw [hcv], by rw [hcv]⟩] at h
    exact h) ?_
   refine yP ?_
   refine yO ?_
   refine zN (zU ?_)
   refine W.cond rfl (fun hc2 => ?_) (fun hc2 => ?_)
   ·try simp only [zk] at hc2
    first | (simp at hc2; done) | (rw [hnm] at hc2; simp at hc2)
   ·try simp only [zk] at hc2
    refine zK (zL (zU (zG (zR 1 rfl ?_))))
    refine yA ?_
    refine zR 1 rfl (zN ?_)
    refine WE.again (i + 1) (by (try dsimp only); omega) (by (try dsimp only); omega) ⟨rfl, rfl, rfl, rfl⟩ (RLe.refl _) qS
  ·try dsimp only at hc1
   refine zX ?_
   refine wx (wx (zY (zU (zQ (zG (zR 1 rfl (zN (zU (zT ?_)))))))))
   refine sE (E := E) ?_
   refine WE.retF tab_ok [_] rfl ⟨rfl, trivial⟩ (RLe.refl _) ?_
   exact ⟨rfl, rfl⟩



set_option maxHeartbeats 2000000 in
theorem Fall03_V {R : Ro} {la : Option Addr} {lc : Nat} {l : List NmS} (hl : RS R 4 encNm la l) (hlc : l.length ≤ lc) (hok : ∀ x ∈ l, OkNm R x ∧ x.c.cv.vals.length ≤ 1000) (hG : GlobE R) : FnV Tryd.prog 24 [.slice la l.length lc] R (.tuple #[.string (str (formatAllR (l.map NmS.p)).1), .int .i64 (formatAllR (l.map NmS.p)).2]) := by
 have hll := hl.len
 refine Fn.toV (fun w0 E => ?_)
 refine fE 58 Tryd.func24 ?_
 refine zQ (zG (zR 2 rfl (zN (zU (zQ (zQ (zG (zR 3 rfl (zN (zU ?_))))))))))
 refine W.condD rfl (fun hc0 => ?_) (fun hc0 => ?_)
 ·try dsimp only at hc0
  have hf0 : (formatAllR (l.map NmS.p)) = ([], 3) := if_pos (by rw [List.length_map]; omega)
  refine zQ (zG (zR 2 rfl (zN (zU (zT (wt ?_))))))
  refine sE (E := E) ?_
  refine WE.retF tab_ok [_, _] rfl ⟨rfl, rfl, trivial⟩ (by first | exact RLe.refl _ | exact hRk | exact hRk.trans hR2) ?_
  exact ⟨by rw [hf0]; rfl, rfl⟩
 ·try dsimp only at hc0
  have h40 : l.length ≤ 40 := by omega
  have hf0 : (formatAllR (l.map NmS.p)) = fallGo ((l.take 0).map NmS.p) [] ((l.drop 0).map NmS.p) := by rw [List.drop_zero]; exact if_neg (by rw [List.length_map]; omega)
  refine zK (zU (zQ (zG (zR 1 rfl (zN (zU (zQ (zQ (zG (zR 3 rfl (zN (zU (zB ?_)))))))))))))
  refine W.loopR (β := Nat × List UInt8 × Ro) (fun (k, acc, Rk) => k ≤ l.length ∧ RLe R Rk ∧ acc.length ≤ 4100 * k ∧ formatAllR (l.map NmS.p) = fallGo ((l.take k).map NmS.p) acc ((l.drop k).map NmS.p)) (fun (k, acc, Rk) => [(4, true, .string (str acc)), (16, true, .int .i64 (k : Int))]) [0, 14, 15] [_, _, _] [] _ rfl (fun (k, acc, Rk) => []) (fun (k, acc, Rk) => Rk) (fun (k, acc, Rk) => l.length - k) ((0, [], R)) (⟨Nat.zero_le _, RLe.refl _, Nat.le_refl 0, hf0⟩) ⟨rfl, rfl, rfl, rfl, rfl, rfl⟩ (RLe.refl _) qS ?_
  intro zz hst
  obtain ⟨k, acc, Rk⟩ := zz
  dsimp only [zipE, setAll, List.cons_append, List.nil_append, List.set_cons_zero, List.set_cons_succ] at hst ⊢
  obtain ⟨hk, hRk, hal, hfa⟩ := hst
  have hl := hl.mono hRk
  have hG := hG.mono hRk
  have hok : ∀ x ∈ l, OkNm Rk x ∧ x.c.cv.vals.length ≤ 1000 := fun x hx => ⟨(hok x hx).1.mono hRk, (hok x hx).2⟩
  refine zQ (zG (zR 1 rfl (zN (zU (zQ ?_)))))
  refine W.condD rfl (fun hc1 => ?_) (fun hc1 => ?_)
  ·try dsimp only at hc1
   have hkl : k < l.length := by omega
   have hfk := fall_step (l := l) hkl (acc := acc)
   obtain ⟨hoi, hoc⟩ := hok _ (nth_mem hkl)
   have hnl := hoi.2.2
   generalize hxx : nth l k = X at hfk hoi hoc hnl
   refine zK (zU (zQ (zB (zQ (zG (zR 1 rfl ?_))))))
   refine WG.y rfl rfl qD (Yl.indexN tab_ok rfl rfl rfl rfl rfl rfl (fun _ => rfl) qN qH) ?_
   refine' WG.y rfl rfl qD (Yl.load1 tab_ok rfl rfl rfl (fun _ => rfl) ?r1 rfl ?h1) ?_
   case r1 => exact RS.rdD hl qO
   case h1 => rfl
   rw [hxx]
   refine zA fun b6 => ?_
   refine zR 1 rfl ?_
   first | refine WL.efN rfl rfl (Ef.store0 0 tab_ok rfl rfl rfl rfl rfl rfl rfl rfl ?_) | refine WL.efN rfl rfl (Ef.store0 1 tab_ok rfl rfl rfl rfl rfl rfl rfl rfl ?_) | refine WL.efN rfl rfl (Ef.store0 2 tab_ok rfl rfl rfl rfl rfl rfl rfl rfl ?_) | refine WL.efN rfl rfl (Ef.store0 3 tab_ok rfl rfl rfl rfl rfl rfl rfl rfl ?_)
   refine zN (zU (zQ (zQ (zG (zR 1 rfl ?_)))))
   refine' WG.y rfl rfl qD (Yl.load1 tab_ok rfl rfl rfl (fun _ => rfl) ?r2 rfl ?h2) ?_
   case r2 => apply Rd.add; (first | exact Rd.blk 0 rfl | exact Rd.blk 1 rfl | exact Rd.blk 2 rfl | exact Rd.blk 3 rfl)
   case h2 => rfl
   refine WG.callV en20 rfl rfl qD (CallOp.mk' rfl rfl rfl rfl) (fun _ => rfl) (fun hg => IsName03_V (s := X.nm) hnl) ?_
   refine zR 1 rfl (zN (zU ?_))
   refine W.cond rfl (fun hc2 => ?_) (fun hc2 => ?_)
   ·try simp only [zk] at hc2
    have hnn : isNameB X.nm = false := by simpa using hc2
    rw [if_pos hnn] at hfk
    rw [hfk] at hfa
    refine zQ (zG (zR 2 rfl (zN (zU (zT (wt (wb (wt (wt (wb (wt ?_)))))))))))
    refine sE (E := E) ?_
    refine WE.retF tab_ok [_, _] rfl ⟨rfl, rfl, trivial⟩ (by first | exact RLe.refl _ | exact hRk | exact hRk.trans hR2) ?_
    exact ⟨by rw [hfa]; rfl, rfl⟩
   ·try simp only [zk] at hc2
    have hnn : isNameB X.nm = true := by simpa using hc2
    rw [if_neg (by rw [hnn]; decide)] at hfk
    have hn12 := (name_mem hnn).2.1
    refine zK (zU (zQ (zG (zR 1 rfl ?_))))
    refine' WG.y rfl rfl qD (Yl.load1 tab_ok rfl rfl rfl (fun _ => rfl) ?r3 rfl ?h3) ?_
    case r3 => apply Rd.add; (first | exact Rd.blk 0 rfl | exact Rd.blk 1 rfl | exact Rd.blk 2 rfl | exact Rd.blk 3 rfl)
    case h3 => rfl
    refine WG.callV en16 rfl rfl qD (CallOp.mk' rfl rfl rfl rfl) (fun _ => rfl) (fun hg => Fmt03_V (fc := X.c.cap) (c := X.c.cv) hG hoi.1 qO) ?_
    refine zR 5 rfl (zN (zU (zQ (zQ (zG (zR 2 rfl (zN (zU ?_))))))))
    refine W.condN rfl (fun hc3 => ?_) (fun hc3 => ?_)
    ·try dsimp only at hc3
     rw [if_pos hc3] at hfk
     rw [hfk] at hfa
     refine zQ (zG (zR 3 rfl (zN (zU (zT (wt (wb (wt (wt (wb (wt ?_)))))))))))
     refine sE (E := E) ?_
     refine WE.retF tab_ok [_, _] rfl ⟨rfl, rfl, trivial⟩ (by first | exact RLe.refl _ | exact hRk | exact hRk.trans hR2) ?_
     exact ⟨by rw [hfa]; rfl, rfl⟩
    ·try dsimp only at hc3
     rw [if_neg (by omega)] at hfk
     have hfl := fmtR_len X.c.cv
     refine zK (zU (zQ (zQ ?_)))
     refine W.regionH _ (ES := [.blk b6 (encNm X)]) mixed ?_
     refine tP 0 ?_
     refine tP 1 ?_
     refine WA.take 2 rfl qK qK qK rfl rfl qD (Yl.sliceH tab_ok rfl rfl rfl rfl rfl (fun _ => rfl) (by intro _; omega) rfl) qS qR ?_
     refine tP 3 ?_
     refine' WA.take 4 rfl qK qK qK rfl rfl qD (Yl.load1 tab_ok rfl rfl rfl (fun _ => rfl) ?r4 rfl ?h4) qS qR ?_
     case r4 => apply Rd.add; (first | exact Rd.blk 0 rfl | exact Rd.blk 1 rfl | exact Rd.blk 2 rfl | exact Rd.blk 3 rfl)
     case h4 => rfl
     refine WA.br2 (i := 5) (j := 9) qK ?_ ?_
     ·
      refine WS.callG rfl en26 rfl (by first | rfl | decide) rfl (by decide) (CallOp.mkT rfl rfl rfl rfl) (Find03_C (l := l.take k) (n := X.nm) ((LsN.ro hl).take k) (by rw [List.length_take]; omega) (fun x hx => ⟨(hok x (List.mem_of_mem_take hx)).1, (hok x (List.mem_of_mem_take hx)).2⟩) w0) ?_
      rintro _ R2 _ hR2 ⟨f2, k2, rfl, hf2, _, hsub⟩
      refine ⟨hR2, List.Sublist.trans qS hsub, ?_⟩
      refine WA.subE hsub ?_
      refine tP 6 ?_
      refine tP 7 ?_
      refine tP 8 ?_
      refine WA.eff 9 rfl qK rfl rfl qD (Ef.alloc tab_ok rfl rfl (fun b9 => ?_))
      refine ⟨qR, qS, ?_⟩
      first | refine WA.effN 10 rfl qK rfl rfl (Ef.store0 0 tab_ok rfl rfl rfl rfl rfl rfl rfl rfl ?_) | refine WA.effN 10 rfl qK rfl rfl (Ef.store0 1 tab_ok rfl rfl rfl rfl rfl rfl rfl rfl ?_) | refine WA.effN 10 rfl qK rfl rfl (Ef.store0 2 tab_ok rfl rfl rfl rfl rfl rfl rfl rfl ?_) | refine WA.effN 10 rfl qK rfl rfl (Ef.store0 3 tab_ok rfl rfl rfl rfl rfl rfl rfl rfl ?_)
      refine ⟨qR, qS, ?_⟩
      refine tP 11 ?_
      refine WA.done qK ?_
      refine zU (zQ (zG (zR 2 rfl (zN (zU ?_)))))
      refine W.condE rfl (fun hc4 => ?_) (fun hc4 => ?_)
      ·try dsimp only at hc4
       have hhas : hasN ((l.take k).map NmS.p) X.nm = true := (find_has _ _).1 hc4
       rw [if_pos hhas] at hfk
       rw [hfk] at hfa
       refine zQ (zG (zR 2 rfl (zN (zU (zT (wt (wb (wt (wt (wb (wt ?_)))))))))))
       refine sE (E := E) ?_
       refine WE.retF tab_ok [_, _] rfl ⟨rfl, rfl, trivial⟩ (by first | exact RLe.refl _ | exact hRk | exact hRk.trans hR2) ?_
       exact ⟨by rw [hfa]; rfl, rfl⟩
      ·try dsimp only at hc4
       have hhas : ¬ hasN ((l.take k).map NmS.p) X.nm = true := fun h => hc4 ((find_has _ _).2 h)
       rw [if_neg hhas] at hfk
       rw [hfk] at hfa
       have hra : (acc ++ rowF X.p).length ≤ 4100 * (k + 1) := by
        show (acc ++ (((X.nm ++ [32, 61, 32]) ++ (formatR X.c.cv).1) ++ [10])).length ≤ _
        simp only [List.length_append, List.length_cons, List.length_nil]
        omega
       refine zK (zU (zG (zR 2 rfl ?_)))
       refine' WG.y rfl rfl qD (Yl.load1 tab_ok rfl rfl rfl (fun _ => rfl) ?r5 rfl ?h5) ?_
       case r5 => apply Rd.add; (first | exact Rd.blk 0 rfl | exact Rd.blk 1 rfl | exact Rd.blk 2 rfl | exact Rd.blk 3 rfl)
       case h5 => rfl
       refine WG.y rfl rfl qD (Yl.catS rfl rfl rfl (fun _ => rfl) (by intro _; (show _ + 3 ≤ _; omega))) ?_
       refine zR 1 rfl ?_
       refine WG.y rfl rfl (by decide) (Yl.catS rfl rfl rfl (fun _ => rfl) (by intro _; ((try simp only [List.length_append, List.length_cons, List.length_nil]); omega))) ?_
       refine WG.y rfl rfl (by decide) (Yl.catS rfl rfl rfl (fun _ => rfl) (by intro _; ((try simp only [List.length_append, List.length_cons, List.length_nil]); omega))) ?_
       refine WG.y rfl rfl (by decide) (Yl.catS rfl rfl rfl (fun _ => rfl) (by intro _; ((try simp only [List.length_append, List.length_cons, List.length_nil]); omega))) ?_
       refine zR 1 rfl (zN (zL (zU (zG ?_))))
       refine yA ?_
       refine zR 1 rfl (zN ?_)
       refine WE.again ((k + 1, (acc ++ rowF X.p), R2)) (⟨by (try dsimp only); omega, hRk.trans hR2, hra, hfa⟩) (by (try dsimp only); omega) ⟨rfl, rfl, rfl, rfl, rfl, rfl⟩ (RLe.refl _) qS
     ·
      refine WS.eff rfl rfl rfl qD (Ef.alloc tab_ok rfl rfl (fun b9 => ?_))
      refine ⟨qR, qS, ?_⟩
      refine WA.callG 5 rfl (by kernel_rfl) en26 rfl (by first | rfl | decide) rfl (by decide) (CallOp.mkT rfl rfl rfl rfl) (Find03_C (l := l.take k) (n := X.nm) ((LsN.ro hl).take k) (by rw [List.length_take]; omega) (fun x hx => ⟨(hok x (List.mem_of_mem_take hx)).1, (hok x (List.mem_of_mem_take hx)).2⟩) w0) ?_
      rintro _ R2 _ hR2 ⟨f2, k2, rfl, hf2, _, hsub⟩
      refine ⟨hR2, List.Sublist.trans qS hsub, ?_⟩
      refine WA.subE hsub ?_
      refine tP 6 ?_
      refine tP 7 ?_
      refine tP 8 ?_
      first | refine WA.effN 10 rfl qK rfl rfl (Ef.store0 0 tab_ok rfl rfl rfl rfl rfl rfl rfl rfl ?_) | refine WA.effN 10 rfl qK rfl rfl (Ef.store0 1 tab_ok rfl rfl rfl rfl rfl rfl rfl rfl ?_) | refine WA.effN 10 rfl qK rfl rfl (Ef.store0 2 tab_ok rfl rfl rfl rfl rfl rfl rfl rfl ?_) | refine WA.effN 10 rfl qK rfl rfl (Ef.store0 3 tab_ok rfl rfl rfl rfl rfl rfl rfl rfl ?_)
      refine ⟨qR, qS, ?_⟩
      refine tP 11 ?_
      refine WA.done qK ?_
      refine zU (zQ (zG (zR 2 rfl (zN (zU ?_)))))
      refine W.condE rfl (fun hc5 => ?_) (fun hc5 => ?_)
      ·try dsimp only at hc5
       have hhas : hasN ((l.take k).map NmS.p) X.nm = true := (find_has _ _).1 hc5
       rw [if_pos hhas] at hfk
       rw [hfk] at hfa
       refine zQ (zG (zR 2 rfl (zN (zU (zT (wt (wb (wt (wt (wb (wt ?_)))))))))))
       refine sE (E := E) ?_
       refine WE.retF tab_ok [_, _] rfl ⟨rfl, rfl, trivial⟩ (by first | exact RLe.refl _ | exact hRk | exact hRk.trans hR2) ?_
       exact ⟨by rw [hfa]; rfl, rfl⟩
      ·try dsimp only at hc5
       have hhas : ¬ hasN ((l.take k).map NmS.p) X.nm = true := fun h => hc5 ((find_has _ _).2 h)
       rw [if_neg hhas] at hfk
       rw [hfk] at hfa
       have hra : (acc ++ rowF X.p).length ≤ 4100 * (k + 1) := by
        show (acc ++ (((X.nm ++ [32, 61, 32]) ++ (formatR X.c.cv).1) ++ [10])).length ≤ _
        simp only [List.length_append, List.length_cons, List.length_nil]
        omega
       refine zK (zU (zG (zR 2 rfl ?_)))
       refine' WG.y rfl rfl qD (Yl.load1 tab_ok rfl rfl rfl (fun _ => rfl) ?r6 rfl ?h6) ?_
       case r6 => apply Rd.add; (first | exact Rd.blk 0 rfl | exact Rd.blk 1 rfl | exact Rd.blk 2 rfl | exact Rd.blk 3 rfl)
       case h6 => rfl
       refine WG.y rfl rfl qD (Yl.catS rfl rfl rfl (fun _ => rfl) (by intro _; (show _ + 3 ≤ _; omega))) ?_
       refine zR 1 rfl ?_
       refine WG.y rfl rfl (by decide) (Yl.catS rfl rfl rfl (fun _ => rfl) (by intro _; ((try simp only [List.length_append, List.length_cons, List.length_nil]); omega))) ?_
       refine WG.y rfl rfl (by decide) (Yl.catS rfl rfl rfl (fun _ => rfl) (by intro _; ((try simp only [List.length_append, List.length_cons, List.length_nil]); omega))) ?_
       refine WG.y rfl rfl (by decide) (Yl.catS rfl rfl rfl (fun _ => rfl) (by intro _; ((try simp only [List.length_append, List.length_cons, List.length_nil]); omega))) ?_
       refine zR 1 rfl (zN (zL (zU (zG ?_))))
       refine yA ?_
       refine zR 1 rfl (zN ?_)
       refine WE.again ((k + 1, (acc ++ rowF X.p), R2)) (⟨by (try dsimp only); omega, hRk.trans hR2, hra, hfa⟩) (by (try dsimp only); omega) ⟨rfl, rfl, rfl, rfl, rfl, rfl⟩ (RLe.refl _) qS
  ·try dsimp only at hc1
   obtain rfl : k = l.length := by omega
   rw [List.drop_length] at hfa
   have hfa : formatAllR (l.map NmS.p) = if 4000 < acc.length then ([], 3) else (acc, 0) := hfa
   have hsa := str_size acc
   refine zX ?_
   refine wx (wx (zY (zU (zQ (zQ (zG (zR 3 rfl (zN (zU ?_)))))))))
   refine W.condD rfl (fun hc6 => ?_) (fun hc6 => ?_)
   ·try dsimp only at hc6
    rw [if_pos (by omega)] at hfa
    refine zQ (zG (zR 2 rfl (zN (zU (zT (wt ?_))))))
    refine sE (E := E) ?_
    refine WE.retF tab_ok [_, _] rfl ⟨rfl, rfl, trivial⟩ (by first | exact RLe.refl _ | exact hRk | exact hRk.trans hR2) ?_
    exact ⟨by rw [hfa]; rfl, rfl⟩
   ·try dsimp only at hc6
    rw [if_neg (by omega)] at hfa
    refine zK (zU (zQ (zG (zR 3 rfl (zN (zU (zT ?_)))))))
    refine sE (E := E) ?_
    refine WE.retF tab_ok [_, _] rfl ⟨rfl, rfl, trivial⟩ (by first | exact RLe.refl _ | exact hRk | exact hRk.trans hR2) ?_
    exact ⟨by rw [hfa]; rfl, rfl⟩

set_option maxHeartbeats 2000000 in
theorem RFall03_V {R : Ro} {la : Option Addr} {lc : Nat} {l : List NmS} (hl : RS R 4 encNm la l) (hlc : l.length ≤ lc) (hok : ∀ x ∈ l, OkNm R x ∧ x.c.cv.vals.length ≤ 1000) : FnV Tryd.prog 25 [.slice la l.length lc] R (.tuple #[.string (str (formatAllR (l.map NmS.p)).1), .int .i64 (formatAllR (l.map NmS.p)).2]) := by
 have hll := hl.len
 refine Fn.toV (fun w0 E => ?_)
 refine fE 60 Tryd.func25 ?_
 refine zQ (zG (zR 2 rfl (zN (zU (zQ (zQ (zG (zR 3 rfl (zN (zU ?_))))))))))
 refine W.condD rfl (fun hc0 => ?_) (fun hc0 => ?_)
 ·try dsimp only at hc0
  have hf0 : (formatAllR (l.map NmS.p)) = ([], 3) := if_pos (by rw [List.length_map]; omega)
  refine zQ (zG (zR 2 rfl (zN (zU (zT (wt ?_))))))
  refine sE (E := E) ?_
  refine WE.retF tab_ok [_, _] rfl ⟨rfl, rfl, trivial⟩ (RLe.refl _) ?_
  exact ⟨by rw [hf0]; rfl, rfl⟩
 ·try dsimp only at hc0
  have h40 : l.length ≤ 40 := by omega
  have hf0 : (formatAllR (l.map NmS.p)) = fallGo ((l.take 0).map NmS.p) [] ((l.drop 0).map NmS.p) := by rw [List.drop_zero]; exact if_neg (by rw [List.length_map]; omega)
  refine zK (zU (zQ (zG (zR 1 rfl (zN (zU (zQ (zQ (zG (zR 1 rfl (zN (zU (zB ?_)))))))))))))
  refine W.loopK (β := Nat × List UInt8) (fun (k, acc) => k ≤ l.length ∧ acc.length ≤ 4100 * k ∧ formatAllR (l.map NmS.p) = fallGo ((l.take k).map NmS.p) acc ((l.drop k).map NmS.p)) (fun (k, acc) => [(4, true, .string (str acc)), (5, true, .int .i64 (k : Int))]) [0] [_] [] _ rfl (fun (k, acc) => []) (fun (k, acc) => l.length - k) ((0, [])) (⟨Nat.zero_le _, Nat.le_refl 0, hf0⟩) ⟨rfl, rfl, rfl, rfl⟩ qS ?_
  intro zz hst
  obtain ⟨k, acc⟩ := zz
  dsimp only [zipE, setAll, List.cons_append, List.nil_append, List.set_cons_zero, List.set_cons_succ] at hst ⊢
  obtain ⟨hk, hal, hfa⟩ := hst
  refine zQ (zQ (zG (zR 4 rfl (zN (zU ?_)))))
  refine W.condD rfl (fun hc1 => ?_) (fun hc1 => ?_)
  ·try dsimp only at hc1
   have hkl : k < l.length := by omega
   have hfk := fall_step (l := l) hkl (acc := acc)
   obtain ⟨hoi, hoc⟩ := hok _ (nth_mem hkl)
   have hnl := hoi.2.2
   generalize hxx : nth l k = X at hfk hoi hoc hnl
   refine zK (zU (zQ (zB (zQ (zQ (zG (zR 2 rfl ?_)))))))
   refine WG.y rfl rfl qD (Yl.indexN tab_ok rfl rfl rfl rfl rfl rfl (fun _ => rfl) qN qH) ?_
   refine zR 1 rfl ?_
   refine' WG.y rfl rfl qD (Yl.load1 tab_ok rfl rfl rfl (fun _ => rfl) ?r1 rfl ?h1) ?_
   case r1 => apply Rd.add; exact RS.rdD hl qO
   case h1 => rfl
   rw [hxx]
   refine WG.callV en21 rfl rfl qD (CallOp.mk' rfl rfl rfl rfl) (fun _ => rfl) (fun hg => RIsName03_V (s := X.nm) hnl) ?_
   refine zR 1 rfl (zN (zU ?_))
   refine W.cond rfl (fun hc2 => ?_) (fun hc2 => ?_)
   ·try simp only [zk] at hc2
    have hnn : isNameB X.nm = false := by simpa using hc2
    rw [if_pos hnn] at hfk
    rw [hfk] at hfa
    refine zQ (zG (zR 2 rfl (zN (zU (zT (wt (wb (wt (wt (wb (wt ?_)))))))))))
    refine sE (E := E) ?_
    refine WE.retF tab_ok [_, _] rfl ⟨rfl, rfl, trivial⟩ (RLe.refl _) ?_
    exact ⟨by rw [hfa]; rfl, rfl⟩
   ·try simp only [zk] at hc2
    have hnn : isNameB X.nm = true := by simpa using hc2
    rw [if_neg (by rw [hnn]; decide)] at hfk
    have hn12 := (name_mem hnn).2.1
    refine zK (zU (zQ (zG (zR 2 rfl ?_))))
    refine WG.y rfl rfl qD (Yl.indexN tab_ok rfl rfl rfl rfl rfl rfl (fun _ => rfl) qN qH) ?_
    refine zR 1 rfl ?_
    refine' WG.y rfl rfl qD (Yl.load1 tab_ok rfl rfl rfl (fun _ => rfl) ?r2 rfl ?h2) ?_
    case r2 => apply Rd.add; exact RS.rdD hl qO
    case h2 => rfl
    rw [hxx]
    refine WG.callV en9 rfl rfl qD (CallOp.mk' rfl rfl rfl rfl) (fun _ => rfl) (fun hg => RFmt03_V (fc := X.c.cap) (c := X.c.cv) hoi.1) ?_
    refine zR 5 rfl (zN (zU (zQ (zQ (zG (zR 2 rfl (zN (zU ?_))))))))
    refine W.condN rfl (fun hc3 => ?_) (fun hc3 => ?_)
    ·try dsimp only at hc3
     rw [if_pos hc3] at hfk
     rw [hfk] at hfa
     refine zQ (zG (zR 3 rfl (zN (zU (zT (wt (wb (wt (wt (wb (wt ?_)))))))))))
     refine sE (E := E) ?_
     refine WE.retF tab_ok [_, _] rfl ⟨rfl, rfl, trivial⟩ (RLe.refl _) ?_
     exact ⟨by rw [hfa]; rfl, rfl⟩
    ·try dsimp only at hc3
     rw [if_neg (by omega)] at hfk
     have hfl := fmtR_len X.c.cv
     refine zK (zU (zQ (zQ ?_)))
     refine W.regionQ _ mixed qK ?_
     refine zR 2 rfl ?_
     refine WG.y rfl rfl qD (Yl.sliceH tab_ok rfl rfl rfl rfl rfl (fun _ => rfl) (by intro _; omega) rfl) ?_
     refine zR 2 rfl ?_
     refine WG.y rfl rfl qD (Yl.indexN tab_ok rfl rfl rfl rfl rfl rfl (fun _ => rfl) qN qH) ?_
     refine zR 1 rfl ?_
     refine' WG.y rfl rfl qD (Yl.load1 tab_ok rfl rfl rfl (fun _ => rfl) ?r3 rfl ?h3) ?_
     case r3 => apply Rd.add; exact RS.rdD hl qO
     case h3 => rfl
     rw [hxx]
     refine WG.callE en42 rfl rfl (by decide) (CallOp.mk' rfl rfl rfl rfl) (fun _ => rfl) (fun hg => Has03_E (l := l.take k) (n := X.nm) ((LsN.ro hl).take k) (by rw [List.length_take]; omega) w0) ?_
     refine zN (zU ?_)
     refine W.cond rfl (fun hc4 => ?_) (fun hc4 => ?_)
     ·try simp only [zk] at hc4
      have hhas : hasN ((l.take k).map NmS.p) X.nm = true := hc4
      rw [if_pos hhas] at hfk
      rw [hfk] at hfa
      refine zQ (zG (zR 2 rfl (zN (zU (zT (wt (wb (wt (wt (wb (wt ?_)))))))))))
      refine sE (E := E) ?_
      refine WE.retF tab_ok [_, _] rfl ⟨rfl, rfl, trivial⟩ (RLe.refl _) ?_
      exact ⟨by rw [hfa]; rfl, rfl⟩
     ·try simp only [zk] at hc4
      have hhas : ¬ hasN ((l.take k).map NmS.p) X.nm = true := by rw [hc4]; decide
      rw [if_neg hhas] at hfk
      rw [hfk] at hfa
      have hra : (acc ++ rowF X.p).length ≤ 4100 * (k + 1) := by
       show (acc ++ (((X.nm ++ [32, 61, 32]) ++ (formatR X.c.cv).1) ++ [10])).length ≤ _
       simp only [List.length_append, List.length_cons, List.length_nil]
       omega
      refine zK (zU (zG (zR 3 rfl ?_)))
      refine WG.y rfl rfl qD (Yl.indexN tab_ok rfl rfl rfl rfl rfl rfl (fun _ => rfl) qN qH) ?_
      refine zR 1 rfl ?_
      refine' WG.y rfl rfl qD (Yl.load1 tab_ok rfl rfl rfl (fun _ => rfl) ?r4 rfl ?h4) ?_
      case r4 => apply Rd.add; exact RS.rdD hl qO
      case h4 => rfl
      rw [hxx]
      refine WG.y rfl rfl (by decide) (Yl.catS rfl rfl rfl (fun _ => rfl) (by intro _; ((try simp only [List.length_append, List.length_cons, List.length_nil]); omega))) ?_
      refine WG.y rfl rfl (by decide) (Yl.catS rfl rfl rfl (fun _ => rfl) (by intro _; ((try simp only [List.length_append, List.length_cons, List.length_nil]); omega))) ?_
      refine zR 1 rfl ?_
      refine WG.y rfl rfl (by decide) (Yl.catS rfl rfl rfl (fun _ => rfl) (by intro _; ((try simp only [List.length_append, List.length_cons, List.length_nil]); omega))) ?_
      refine WG.y rfl rfl (by decide) (Yl.catS rfl rfl rfl (fun _ => rfl) (by intro _; ((try simp only [List.length_append, List.length_cons, List.length_nil]); omega))) ?_
      have ero : (((acc ++ X.nm) ++ [32, 61, 32]) ++ (formatR X.c.cv).1) ++ [10] = acc ++ rowF X.p := by
       unfold rowF NmS.p
       simp
      rw [ero]
      refine zR 1 rfl (zN (zL (zU (zG (zR 1 rfl ?_)))))
      refine yA ?_
      refine zR 1 rfl (zN ?_)
      refine WE.again ((k + 1, (acc ++ rowF X.p))) (⟨by (try dsimp only); omega, hra, hfa⟩) (by (try dsimp only); omega) ⟨rfl, rfl, rfl, rfl⟩ (RLe.refl _) qS
  ·try dsimp only at hc1
   obtain rfl : k = l.length := by omega
   rw [List.drop_length] at hfa
   have hfa : formatAllR (l.map NmS.p) = if 4000 < acc.length then ([], 3) else (acc, 0) := hfa
   have hsa := str_size acc
   refine zX ?_
   refine wx (wx (zY (zU (zQ (zQ (zG (zR 3 rfl (zN (zU ?_)))))))))
   refine W.condD rfl (fun hc5 => ?_) (fun hc5 => ?_)
   ·try dsimp only at hc5
    rw [if_pos (by omega)] at hfa
    refine zQ (zG (zR 2 rfl (zN (zU (zT (wt ?_))))))
    refine sE (E := E) ?_
    refine WE.retF tab_ok [_, _] rfl ⟨rfl, rfl, trivial⟩ (RLe.refl _) ?_
    exact ⟨by rw [hfa]; rfl, rfl⟩
   ·try dsimp only at hc5
    rw [if_neg (by omega)] at hfa
    refine zK (zU (zQ (zG (zR 3 rfl (zN (zU (zT ?_)))))))
    refine sE (E := E) ?_
    refine WE.retF tab_ok [_, _] rfl ⟨rfl, rfl, trivial⟩ (RLe.refl _) ?_
    exact ⟨by rw [hfa]; rfl, rfl⟩



theorem zcv_len : zcv.vals.length ≤ 1000 := by decide
theorem go_err {size : Nat} : ∀ (ws : List (List UInt8)) (wh : Nat) (vals : List Int) (per inc : Int) (at' : Nat), (parseGo size wh vals per inc at' ws).2.2 ≠ 0 → (parseGo size wh vals per inc at' ws).1 = zcv
 | [], wh, vals, per, inc, at' => by
  unfold parseGo
  split
  ·intro h; exact absurd rfl h
  ·intro _; rfl
 | w :: ws, wh, vals, per, inc, at' => by
  unfold parseGo
  split
  ·exact go_err ws _ _ _ _ _
  ·split
   ·exact go_err ws _ _ _ _ _
   ·split
    ·exact go_err ws _ _ _ _ _
    ·split
     ·split
      ·intro _; rfl
      ·split
       ·exact go_err ws _ _ _ _ _
       ·split
        ·exact go_err ws _ _ _ _ _
        ·exact go_err ws _ _ _ _ _
     ·intro _; rfl
theorem parse_vals (s : List UInt8) : (parseR s).1.vals.length ≤ 1000 := by
 unfold parseR
 split
 ·exact zcv_len
 ·split
  ·rename_i h; rw [go_err _ _ _ _ _ _ h]; exact zcv_len
  ·split
   ·rename_i h; have := valid_range h; omega
   ·exact zcv_len

set_option maxHeartbeats 4000000 in
theorem PAll03_C {R : Ro} {s : List UInt8} (hG : GlobE R) (hs : s.length ≤ 1000000) (w0 : World) (E : List Ent) : K.Fn Tryd.prog 28 [.string (str s)] w0 R E (fun v R' E' => ∃ (a' : Option Addr) (c' : Nat) (l : List NmS), v = .tuple #[.slice a' l.length c', .int .i64 (parseAllR s).2.1, .int .i64 (parseAllR s).2.2.1, .int .i64 (parseAllR s).2.2.2] ∧ RS R' 4 encNm a' l ∧ l.length ≤ c' ∧ (∀ x ∈ l, OkNm R' x ∧ x.c.cv.vals.length ≤ 1000) ∧ l.map NmS.p = (parseAllR s).1 ∧ E.Sublist E') := by
 have hss := str_size s
 refine fE 81 Tryd.func28 ?_
 refine zQ (zG (zR 4 rfl (zN (zU (zQ (zQ (zG (zR 3 rfl (zN (zU ?_))))))))))
 refine W.condD rfl (fun hc0 => ?_) (fun hc0 => ?_)
 ·try dsimp only at hc0
  have hq : parseAllR s = ([], 0, 0, 3) := if_pos (by omega)
  refine zQ (zG (zR 4 rfl (zN (zU (zT (wt ?_))))))
  refine WE.retF tab_ok [_, _, _, _] rfl ⟨rfl, rfl, rfl, rfl, trivial⟩ (by first | exact RLe.refl _ | exact hRk | exact hRk.trans hR2 | exact hRk.trans (hR2.trans hR3) | exact hRk.trans hR9) ?_
  exact ⟨none, 0, [], by rw [hq]; rfl, rs_nil, Nat.le_refl 0, fun x h => (by cases h), by rw [hq]; rfl, qS⟩
 ·try dsimp only at hc0
  have hns : ¬ 4000 < s.length := by omega
  refine zK (zU (zQ (zG (zR 1 rfl (zN (zU (zQ ?_)))))))
  refine W.nil 48 4 qD ?_
  refine zQ (zG (zR 1 rfl (zN (zU (zB ?_)))))
  refine W.loopR (β := Nat × List NmS × List UInt8 × Option Addr × Nat × Ro) (fun (n, l, u, a6, c6, Rk) => PSt s n (l.map NmS.p) u ∧ RLe R Rk ∧ (∀ x ∈ l, OkNm Rk x ∧ x.c.cv.vals.length ≤ 1000) ∧ (1 ≤ n ∧ n ≤ 41) ∧ l.length < n ∧ u.length ≤ 4000) (fun (n, l, u, a6, c6, Rk) => [(0, true, .string (str u)), (6, true, .slice a6 l.length c6), (7, true, .int .i64 (n : Int))]) [] [] [] _ rfl (fun (n, l, u, a6, c6, Rk) => [(0, .sl 48 4 a6 c6 ((l).map encNm))]) (fun (n, l, u, a6, c6, Rk) => Rk) (fun (n, l, u, a6, c6, Rk) => u.length) ((1, [], s, none, 0, R)) (⟨PSt.start s, RLe.refl _, fun x h => (by cases h), ⟨Nat.le_refl 1, by decide⟩, Nat.one_pos, by (try dsimp only); omega⟩) ⟨rfl, rfl, rfl, rfl⟩ (RLe.refl _) qS ?_
  intro zz hst
  obtain ⟨n, l, u, a6, c6, Rk⟩ := zz
  dsimp only [zipE, setAll, List.cons_append, List.nil_append, List.set_cons_zero, List.set_cons_succ] at hst ⊢
  obtain ⟨hst, hRk, hok, hn, hln, hul⟩ := hst
  have hsu := str_size u
  have hG := hG.mono hRk
  refine zQ (zQ (zG (zR 1 rfl ?_)))
  refine WG.y rfl rfl qD (Yl.neS rfl rfl rfl (fun _ => rfl)) ?_
  refine zN (zU ?_)
  refine W.cond rfl (fun hc1 => ?_) (fun hc1 => ?_)
  ·try simp only [zk] at hc1
   have hu : u ≠ [] := fun e => hc1 (by rw [e]; rfl)
   have hbl := brk_len 10 u
   refine zK (zU (zQ (zB (zQ (zG (zR 1 rfl ?_))))))
   refine WG.callV (v := .tuple #[.string (str (brk 10 u).1), .string (str ((brk 10 u).2.getD [])), .bool (brk 10 u).2.isSome]) en43 rfl rfl qD (CallOp.mk' rfl rfl rfl rfl) (fun _ => rfl) (fun hg => by
    have h := Cut03_V hG (s := u) (sep := [10]) (by omega)
    rw [cut_brk] at h
    exact h) ?_
   refine zR 7 rfl (zN (zU (zQ (zG (zR 1 rfl ?_)))))
   refine WG.callV en43 rfl rfl qD (CallOp.mk' rfl rfl rfl rfl) (fun _ => rfl) (fun hg => Cut03_V hG (s := (brk 10 u).1) (sep := [32, 61, 32]) qO) ?_
   have hcl := cut_len (brk 10 u).1 [32, 61, 32]
   have hcn := cutN_cut (brk 10 u).1
   generalize Lib.cut (brk 10 u).1 [32, 61, 32] = q at hcl hcn ⊢
   refine zR 7 rfl (zN (zU (zQ (zQ (zG (zR 3 rfl ?_))))))
   refine yP ?_
   refine yP ?_
   refine yO ?_
   refine zR 1 rfl ?_
   refine yP ?_
   refine WG.callV en20 rfl rfl qD (CallOp.mk' rfl rfl rfl rfl) qE (fun hg => IsName03_V (s := q.1) qO) ?_
   refine yP ?_
   refine yO ?_
   refine zN (zU ?_)
   refine W.cond rfl (fun hc2 => ?_) (fun hc2 => ?_)
   ·try simp only [zk] at hc2
    have hq : parseAllR s = ([], (n : Int), 0, 4) := (if_neg hns).trans (hst.bad hu (by
     rcases hc2 with (h | h) | h
     ·right; cases hb : (brk 10 u).2 with
      | none => rfl
      | some x => rw [hb] at h; cases h
     ·left; rw [hcn, if_neg (by rw [h]; simp)]
     ·left; rw [hcn, if_neg (by rw [h]; simp)]))
    refine zQ (zG (zR 5 rfl (zN (zU (zT (wt (wb (wt (wt (wb (wt ?_)))))))))))
    refine WE.retF tab_ok [_, _, _, _] rfl ⟨rfl, rfl, rfl, rfl, trivial⟩ (by first | exact RLe.refl _ | exact hRk | exact hRk.trans hR2 | exact hRk.trans (hR2.trans hR3) | exact hRk.trans hR9) ?_
    exact ⟨none, 0, [], by rw [hq]; rfl, rs_nil, Nat.le_refl 0, fun x h => (by cases h), by rw [hq]; rfl, qS⟩
   ·try simp only [zk] at hc2
    have hcs : cutN (brk 10 u).1 = some (q.1, q.2.1) := by rw [hcn, if_pos ⟨hc2.1.2, hc2.2⟩]
    obtain ⟨s', hs'⟩ := Option.isSome_iff_exists.1 hc2.1.1
    have hrow := hst.row hu hcs hs'
    have hsl := hbl.2 s' hs'
    have hqn := (name_mem hc2.2).2.1
    rw [hs']
    refine zK (zU (zQ (zG (zR 1 rfl ?_))))
    refine WL.call en13 rfl rfl qD (CallOp.mkT rfl rfl rfl rfl) (Parse03_C (s := q.2.1) hG qO w0 _) ?_
    rintro _ R2 _ hR2 ⟨f5, k5, rfl, hf5, hk5, hsub5⟩
    refine WL.subE hsub5 ?_
    have hG := hG.mono hR2
    have hok : ∀ x ∈ l, OkNm R2 x ∧ x.c.cv.vals.length ≤ 1000 := fun x hx => ⟨(hok x hx).1.mono hR2, (hok x hx).2⟩
    have hprl : (parseR q.2.1).1.vals.length ≤ 1000 := parse_vals q.2.1
    generalize parseR q.2.1 = pr at hf5 hk5 hprl hrow ⊢
    obtain ⟨hr1, hr2, hr3, hr4⟩ := hrow
    refine zR 4 rfl ?_
    refine zA fun b14 => ?_
    first | refine WL.efN rfl rfl (Ef.store0 0 tab_ok rfl rfl rfl rfl rfl rfl rfl rfl ?_) | refine WL.efN rfl rfl (Ef.store0 1 tab_ok rfl rfl rfl rfl rfl rfl rfl rfl ?_) | refine WL.efN rfl rfl (Ef.store0 2 tab_ok rfl rfl rfl rfl rfl rfl rfl rfl ?_) | refine WL.efN rfl rfl (Ef.store0 3 tab_ok rfl rfl rfl rfl rfl rfl rfl rfl ?_) | refine WL.efN rfl rfl (Ef.store0 4 tab_ok rfl rfl rfl rfl rfl rfl rfl rfl ?_)
    refine zR 2 rfl (zN (zU (zQ (zQ (zG (zR 2 rfl (zN (zU ?_))))))))
    refine W.condN rfl (fun hc3 => ?_) (fun hc3 => ?_)
    ·try dsimp only at hc3
     have hq : parseAllR s = ([], (n : Int), (pr.2.1 : Int), pr.2.2) := (if_neg hns).trans (hr1 hc3)
     refine zQ (zG (zR 7 rfl (zN (zU (zT (wt (wb (wt (wt (wb (wt ?_)))))))))))
     refine WE.retF tab_ok [_, _, _, _] rfl ⟨rfl, rfl, rfl, rfl, trivial⟩ (by first | exact RLe.refl _ | exact hRk | exact hRk.trans hR2 | exact hRk.trans (hR2.trans hR3) | exact hRk.trans hR9) ?_
     exact ⟨none, 0, [], by rw [hq]; rfl, rs_nil, Nat.le_refl 0, fun x h => (by cases h), by rw [hq]; rfl, qS⟩
    ·try dsimp only at hc3
     have hp0 : pr.2.2 = 0 := by omega
     refine zK (zU (zQ (zQ (zG (zR 2 rfl ?_)))))
     refine WL.call en26 rfl rfl qD (CallOp.mkT rfl rfl rfl rfl) (Find03_C (n := q.1) (LsN.own 1 rfl qO) rfl hok w0) ?_
     rintro _ R3 _ hR3 ⟨f6, k6, rfl, hf6, _, hsub6⟩
     refine WL.subE hsub6 ?_
     have hG := hG.mono hR3
     have hf5 := hf5.mono hR3
     have hok : ∀ x ∈ l, OkNm R3 x ∧ x.c.cv.vals.length ≤ 1000 := fun x hx => ⟨(hok x hx).1.mono hR3, (hok x hx).2⟩
     refine zR 3 rfl ?_
     refine zA fun b17 => ?_
     first | refine WL.efN rfl rfl (Ef.store0 0 tab_ok rfl rfl rfl rfl rfl rfl rfl rfl ?_) | refine WL.efN rfl rfl (Ef.store0 1 tab_ok rfl rfl rfl rfl rfl rfl rfl rfl ?_) | refine WL.efN rfl rfl (Ef.store0 2 tab_ok rfl rfl rfl rfl rfl rfl rfl rfl ?_) | refine WL.efN rfl rfl (Ef.store0 3 tab_ok rfl rfl rfl rfl rfl rfl rfl rfl ?_) | refine WL.efN rfl rfl (Ef.store0 4 tab_ok rfl rfl rfl rfl rfl rfl rfl rfl ?_)
     refine zR 1 rfl (zN (zU (zQ (zG (zR 2 rfl (zN (zU ?_)))))))
     refine W.condE rfl (fun hc4 => ?_) (fun hc4 => ?_)
     ·try dsimp only at hc4
      have hq : parseAllR s = ([], (n : Int), 0, 7) := (if_neg hns).trans (hr2 hp0 ((find_has _ _).1 hc4))
      refine zQ (zG (zR 5 rfl (zN (zU (zT (wt (wb (wt (wt (wb (wt ?_)))))))))))
      refine WE.retF tab_ok [_, _, _, _] rfl ⟨rfl, rfl, rfl, rfl, trivial⟩ (by first | exact RLe.refl _ | exact hRk | exact hRk.trans hR2 | exact hRk.trans (hR2.trans hR3) | exact hRk.trans hR9) ?_
      exact ⟨none, 0, [], by rw [hq]; rfl, rs_nil, Nat.le_refl 0, fun x h => (by cases h), by rw [hq]; rfl, qS⟩
     ·try dsimp only at hc4
      have hhas : hasN (l.map NmS.p) q.1 = false := by
       rw [← Bool.not_eq_true]
       exact fun h => hc4 ((find_has _ _).2 h)
      refine zK (zU (zQ (zQ (zG (zR 2 rfl (zN (zU ?_)))))))
      refine W.condD rfl (fun hc5 => ?_) (fun hc5 => ?_)
      ·try dsimp only at hc5
       have hq : parseAllR s = ([], (n : Int), 0, 3) := (if_neg hns).trans (hr3 hp0 hhas (by omega))
       refine zQ (zG (zR 5 rfl (zN (zU (zT (wt (wb (wt (wt (wb (wt ?_)))))))))))
       refine WE.retF tab_ok [_, _, _, _] rfl ⟨rfl, rfl, rfl, rfl, trivial⟩ (by first | exact RLe.refl _ | exact hRk | exact hRk.trans hR2 | exact hRk.trans (hR2.trans hR3) | exact hRk.trans hR9) ?_
       exact ⟨none, 0, [], by rw [hq]; rfl, rs_nil, Nat.le_refl 0, fun x h => (by cases h), by rw [hq]; rfl, qS⟩
      ·try dsimp only at hc5
       have hnx := hr4 hp0 hhas (by omega)
       refine zK (zU (zQ (zG (zR 2 rfl ?_))))
       refine' WG.y rfl rfl qD (Yl.load1 tab_ok rfl rfl rfl (fun _ => rfl) ?r1 rfl ?h1) ?_
       case r1 => (first | exact Rd.blk 0 rfl | exact Rd.blk 1 rfl | exact Rd.blk 2 rfl | exact Rd.blk 3 rfl | exact Rd.blk 4 rfl)
       case h1 => rfl
       -- build
       refine WG.y rfl rfl qD (Yl.build (parts := [(0, .tmp 74), (1, .tmp 75)]) tab_ok rfl rfl rfl rfl (fun _ => rfl) rfl rfl) ?_
       refine WL.ef rfl rfl qD (Ef.buildSliceD (enc := encNm) (parts := [.tmp 76]) [⟨q.1, ⟨f5, k5, pr.1⟩⟩] tab_ok rfl rfl rfl rfl rfl rfl rfl rfl qD qD (fun a77 => ?_))
       first | refine WL.ef rfl rfl (by decide) (Ef.appendD (enc := encNm) 3 0 tab_ok rfl rfl rfl rfl rfl rfl rfl rfl rfl rfl rfl (fun _ _ => rfl) (by dsimp only; simp only [List.length_cons, List.length_nil]; omega) (by simp only [List.length_cons, List.length_nil]; omega) (fun a78 c78 ha78 => ?_)) | refine WL.ef rfl rfl (by decide) (Ef.appendD (enc := encNm) 2 0 tab_ok rfl rfl rfl rfl rfl rfl rfl rfl rfl rfl rfl (fun _ _ => rfl) (by dsimp only; simp only [List.length_cons, List.length_nil]; omega) (by simp only [List.length_cons, List.length_nil]; omega) (fun a78 c78 ha78 => ?_)) | refine WL.ef rfl rfl (by decide) (Ef.appendD (enc := encNm) 1 0 tab_ok rfl rfl rfl rfl rfl rfl rfl rfl rfl rfl rfl (fun _ _ => rfl) (by dsimp only; simp only [List.length_cons, List.length_nil]; omega) (by simp only [List.length_cons, List.length_nil]; omega) (fun a78 c78 ha78 => ?_))
       refine zR 1 rfl (zN (zU (zG (zR 2 rfl (zN (zL (zU (zG (zR 1 rfl ?_)))))))))
       refine yA ?_
       refine zR 1 rfl (zN ?_)
       refine WE.again ((n + 1, l ++ [⟨q.1, ⟨f5, k5, pr.1⟩⟩], s', a78, c78, R3)) (⟨by rw [List.map_append]; exact hnx, hRk.trans (hR2.trans hR3), fun x hx => by
        rcases List.mem_append.1 hx with h | h
        ·exact hok x h
        ·rw [List.mem_singleton.1 h]
         exact ⟨⟨hf5, hk5, by dsimp only; omega⟩, hprl⟩, ⟨by (try dsimp only); omega, by (try dsimp only); omega⟩, by (try simp only [List.length_append, List.length_cons, List.length_nil]); omega, by (try dsimp only); omega⟩) (by (try dsimp only); omega) ⟨rfl, rfl, rfl, rfl⟩ (RLe.refl _) qS
  ·try simp only [zk] at hc1
   obtain rfl : u = [] := str_inj (b := []) hc1
   have hq : parseAllR s = (l.map NmS.p, 0, 0, 0) := (if_neg hns).trans (hst.fin)
   refine zX ?_
   refine wx (wx (zY (zU ?_)))
   refine W.cap 0 rfl ?_
   intro hcp
   rw [List.length_map] at hcp
   refine W.freeze (enc := encNm) (xs := l) 0 rfl ?_
   intro R9 hR9 hlf
   refine zQ (zG (zR 5 rfl (zN (zU (zT ?_)))))
   refine WE.retF tab_ok [_, _, _, _] rfl ⟨rfl, rfl, rfl, rfl, trivial⟩ (by first | exact RLe.refl _ | exact hRk | exact hRk.trans hR2 | exact hRk.trans (hR2.trans hR3) | exact hRk.trans hR9) ?_
   exact ⟨a6, c6, l, by rw [hq]; rfl, hlf, hcp, fun x hx => ⟨(hok x hx).1.mono hR9, (hok x hx).2⟩, by rw [hq], qS⟩



set_option maxHeartbeats 1000000 in
theorem RCut03_V {R : Ro} {s : List UInt8} (hs : s.length ≤ 1000000) : FnV Tryd.prog 44 [.string (str s)] R (.tuple #[.string (str ((cutN s).getD ([], [])).1), .string (str ((cutN s).getD ([], [])).2), .bool (cutN s).isSome]) := by
 refine Fn.toV (fun w0 E => ?_)
 have hss := str_size s
 refine fE 45 Tryd.func44 ?_
 refine zQ (zG (zR 3 rfl (zN (zU (zQ (zG (zR 1 rfl (zN (zU (zQ (zB ?_)))))))))))
 refine W.loopK (β := Nat) (fun n => n ≤ s.length ∧ ∀ j, j < n → byteAt s j ≠ 32) (fun n => [(5, true, .int .i64 (n : Int))]) [0] [_] [] _ rfl (fun n => []) (fun n => s.length - n) (0) (⟨Nat.zero_le _, fun j hj => by omega⟩) ⟨rfl, rfl, rfl⟩ qS ?_
 intro n hst
 dsimp only [zipE, setAll, List.cons_append, List.nil_append, List.set_cons_zero, List.set_cons_succ] at hst ⊢
 
 refine zQ (zQ (zG (zR 5 rfl ?_)))
 refine yP ?_
 refine yP ?_
 refine WG.y rfl rfl (by decide) (Yl.sidx tab_ok rfl rfl rfl rfl rfl qE (by intro hg; (try simp only [zk] at hg); constructor <;> (try dsimp only) <;> omega)) ?_
 refine yP ?_
 refine yN ?_
 refine zN (zU ?_)
 refine W.cond rfl (fun hc0 => ?_) (fun hc0 => ?_)
 ·try simp only [zk] at hc0
  have hbt : byteAt s ((n : Int)).toNat = byteAt s n := rfl
  rw [hbt] at hc0
  have hnl : n < s.length := by omega
  refine zK (zU (zB (zG (zR 1 rfl ?_))))
  refine yA ?_
  refine zR 1 rfl (zN (zL ?_))
  refine WE.again (n + 1) (⟨by omega, fun j hj => by
   by_cases e : j = n
   ·subst e; exact hc0.2
   ·exact hst.2 j (by omega)⟩) (by (try dsimp only); omega) ⟨rfl, rfl, rfl⟩ (RLe.refl _) qS
 ·try simp only [zk] at hc0
  have hbt : byteAt s ((n : Int)).toNat = byteAt s n := rfl
  rw [hbt] at hc0
  have hbd : n = s.length ∨ byteAt s n = 32 := by
   by_cases h : n = s.length
   ·exact .inl h
   ·right
    first | exact hc0 qO | (have := hc0 qO; omega) | (rcases hc0 with h2 | h2; omega; omega)
  have hcn := cutN_at hst.1 hst.2 hbd
  have htl : (s.take n).length = n := by rw [List.length_take]; omega
  refine zX ?_
  refine wx (wx (zY (zU (zQ (zQ (zG (zR 2 rfl ?_)))))))
  refine WG.y rfl rfl qD (Yl.sliceSH tab_ok rfl rfl rfl rfl rfl (fun _ => rfl) (by intro _; (constructor <;> omega))) ?_
  refine WG.callV (v := .bool (isNameB (s.take n))) en21 rfl rfl qD (CallOp.mk' rfl rfl rfl rfl) (fun _ => rfl) (fun hg => RIsName03_V (s := s.take n) qO) ?_
  refine zR 2 rfl ?_
  refine yP ?_
  refine yP ?_
  refine yP ?_
  refine WG.y rfl rfl (by decide) (Yl.add rfl rfl rfl qE (by intro hg; (try simp only [zk] at hg); constructor <;> (try dsimp only) <;> omega)) ?_
  refine yP ?_
  refine yO ?_
  refine zR 1 rfl ?_
  refine yP ?_
  refine yP ?_
  refine yP ?_
  refine WG.y rfl rfl (by decide) (Yl.add rfl rfl rfl qE (by intro hg; (try simp only [zk] at hg); constructor <;> (try dsimp only) <;> omega)) ?_
  refine WG.y rfl rfl (by decide) (Yl.sliceSLH tab_ok rfl rfl rfl rfl rfl rfl qE (by intro hg; (try simp only [zk] at hg); (constructor <;> omega))) ?_
  refine WG.y rfl rfl qD (Yl.neS rfl rfl rfl qE) ?_
  refine yO ?_
  refine zN (zU ?_)
  refine W.cond rfl (fun hc1 => ?_) (fun hc1 => ?_)
  ·try simp only [zk] at hc1
   have hno : cutN s = none := by
    rw [hcn, if_neg]
    rintro ⟨g1, g2, g3⟩
    rcases hc1 with (h | h) | h
    ·rw [g1] at h; cases h
    ·omega
    ·exact h (by rw [show ((n : Int) + 3).toNat = n + 3 by omega, show ((n : Int)).toNat = n from rfl]; exact congrArg str g3)
   refine zQ (zG (zR 3 rfl (zN (zU (zT (wt ?_))))))
   refine sE (E := E) ?_
   refine WE.retF tab_ok [_, _, _] rfl ⟨rfl, rfl, rfl, trivial⟩ (RLe.refl _) ?_
   exact ⟨by rw [hno]; rfl, rfl⟩
  ·try simp only [zk] at hc1
   have hye : cutN s = some (s.take n, s.drop (n + 3)) := by
    rw [hcn, if_pos]
    refine ⟨hc1.1.1, by omega, ?_⟩
    have := hc1.2
    rw [show ((n : Int) + 3).toNat = n + 3 by omega, show ((n : Int)).toNat = n from rfl] at this
    exact str_inj (b := [32, 61, 32]) this
   refine zK (zU (zQ ?_))
   refine W.regionQ _ mixed qK ?_
   refine zR 2 rfl ?_
   refine WG.y rfl rfl qD (Yl.sliceSH tab_ok rfl rfl rfl rfl rfl (fun _ => rfl) (by intro _; omega)) ?_
   refine zR 2 rfl ?_
   refine yA ?_
   refine WG.y rfl rfl qD (Yl.sliceSL tab_ok rfl rfl rfl rfl rfl (fun _ => rfl) (by intro _; omega)) ?_
   refine zR 3 rfl (zN (zU (zT ?_)))
   refine sE (E := E) ?_
   refine WE.retF tab_ok [_, _, _] rfl ⟨rfl, rfl, rfl, trivial⟩ (RLe.refl _) ?_
   exact ⟨by rw [hye]; rfl, rfl⟩



set_option maxHeartbeats 4000000 in
theorem RPAll03_C {R : Ro} {s : List UInt8} (hs : s.length ≤ 1000000) (w0 : World) (E : List Ent) : K.Fn Tryd.prog 29 [.string (str s)] w0 R E (fun v R' E' => ∃ (a' : Option Addr) (c' : Nat) (l : List NmS), v = .tuple #[.slice a' l.length c', .int .i64 (parseAllR s).2.1, .int .i64 (parseAllR s).2.2.1, .int .i64 (parseAllR s).2.2.2] ∧ RS R' 4 encNm a' l ∧ l.length ≤ c' ∧ (∀ x ∈ l, OkNm R' x ∧ x.c.cv.vals.length ≤ 1000) ∧ l.map NmS.p = (parseAllR s).1 ∧ E.Sublist E') := by
 have hss := str_size s
 refine fE 81 Tryd.func29 ?_
 refine zQ (zG (zR 4 rfl (zN (zU (zQ (zQ (zG (zR 3 rfl (zN (zU ?_))))))))))
 refine W.condD rfl (fun hc0 => ?_) (fun hc0 => ?_)
 ·try dsimp only at hc0
  have hq : parseAllR s = ([], 0, 0, 3) := if_pos (by omega)
  refine zQ (zG (zR 4 rfl (zN (zU (zT (wt ?_))))))
  refine WE.retF tab_ok [_, _, _, _] rfl ⟨rfl, rfl, rfl, rfl, trivial⟩ (by first | exact RLe.refl _ | exact hRk | exact hRk.trans hR3 | exact hRk.trans hR9) ?_
  exact ⟨none, 0, [], by rw [hq]; rfl, rs_nil, Nat.le_refl 0, fun x h => (by cases h), by rw [hq]; rfl, qS⟩
 ·try dsimp only at hc0
  have hns : ¬ 4000 < s.length := by omega
  refine zK (zU (zQ (zG (zR 1 rfl (zN (zU (zQ ?_)))))))
  refine W.nil 48 4 qD ?_
  refine zQ (zG (zR 1 rfl (zN (zU (zB ?_)))))
  refine W.loopR (β := Nat × List NmS × List UInt8 × Option Addr × Nat × Ro) (fun (n, l, u, a6, c6, Rk) => PSt s n (l.map NmS.p) u ∧ RLe R Rk ∧ (∀ x ∈ l, OkNm Rk x ∧ x.c.cv.vals.length ≤ 1000) ∧ (1 ≤ n ∧ n ≤ 41) ∧ l.length < n ∧ u.length ≤ 4000) (fun (n, l, u, a6, c6, Rk) => [(0, true, .string (str u)), (6, true, .slice a6 l.length c6), (7, true, .int .i64 (n : Int))]) [] [] [] _ rfl (fun (n, l, u, a6, c6, Rk) => [(0, .sl 48 4 a6 c6 ((l).map encNm))]) (fun (n, l, u, a6, c6, Rk) => Rk) (fun (n, l, u, a6, c6, Rk) => u.length) ((1, [], s, none, 0, R)) (⟨PSt.start s, RLe.refl _, fun x h => (by cases h), ⟨Nat.le_refl 1, by decide⟩, Nat.one_pos, by (try dsimp only); omega⟩) ⟨rfl, rfl, rfl, rfl⟩ (RLe.refl _) qS ?_
  intro zz hst
  obtain ⟨n, l, u, a6, c6, Rk⟩ := zz
  dsimp only [zipE, setAll, List.cons_append, List.nil_append, List.set_cons_zero, List.set_cons_succ] at hst ⊢
  obtain ⟨hst, hRk, hok, hn, hln, hul⟩ := hst
  have hsu := str_size u
  refine zQ (zQ (zG (zR 3 rfl (zN (zU ?_)))))
  refine W.condD rfl (fun hc1 => ?_) (fun hc1 => ?_)
  ·try dsimp only at hc1
   have hu : u ≠ [] := fun e => by
    have : u.length = 0 := by rw [e]; rfl
    omega
   have hpst := hst
   refine zK (zU (zQ (zB (zQ (zG (zR 1 rfl (zN (zU (zQ (zB ?_))))))))))
   refine W.loopK (β := Nat) (fun m => m ≤ u.length ∧ ∀ j, j < m → byteAt u j ≠ 10) (fun m => [(8, true, .int .i64 (m : Int))]) [0, 6, 7] [_, _, _] [] _ rfl (fun m => []) (fun m => u.length - m) (0) (⟨Nat.zero_le _, fun j hj => by omega⟩) ⟨rfl, rfl, rfl, rfl, rfl⟩ qS ?_
   intro m hst
   dsimp only [zipE, setAll, List.cons_append, List.nil_append, List.set_cons_zero, List.set_cons_succ] at hst ⊢
   obtain ⟨hml, hmn⟩ := hst
   refine zQ (zQ (zG (zR 5 rfl ?_)))
   refine yP ?_
   refine yP ?_
   refine WG.y rfl rfl (by decide) (Yl.sidx tab_ok rfl rfl rfl rfl rfl qE (by intro hg; (try simp only [zk] at hg); constructor <;> (try dsimp only) <;> omega)) ?_
   refine yP ?_
   refine yN ?_
   refine zN (zU ?_)
   refine W.cond rfl (fun hc2 => ?_) (fun hc2 => ?_)
   ·try simp only [zk] at hc2
    have hbt : byteAt u ((m : Int)).toNat = byteAt u m := rfl
    rw [hbt] at hc2
    have hmu : m < u.length := by omega
    refine zK (zU (zB (zG (zR 1 rfl ?_))))
    refine yA ?_
    refine zR 1 rfl (zN (zL ?_))
    refine WE.again (m + 1) (⟨by omega, fun j hj => by
     by_cases e : j = m
     ·subst e; exact hc2.2
     ·exact hmn j (by omega)⟩) (by (try dsimp only); omega) ⟨rfl, rfl, rfl, rfl, rfl⟩ (RLe.refl _) qS
   ·try simp only [zk] at hc2
    have hbt : byteAt u ((m : Int)).toNat = byteAt u m := rfl
    rw [hbt] at hc2
    have hbd : m = u.length ∨ byteAt u m = 10 := by
     by_cases h : m = u.length
     ·exact .inl h
     ·right
      first | exact hc2 qO | (have := hc2 qO; omega) | (rcases hc2 with h2 | h2; omega; omega)
    have hbk := brk_at (d := 10) hml hmn hbd
    refine zX ?_
    refine wx (wx (zY (zU (zQ (zG (zR 2 rfl ?_))))))
    refine WG.y rfl rfl qD (Yl.sliceSH tab_ok rfl rfl rfl rfl rfl (fun _ => rfl) (by intro _; (constructor <;> omega))) ?_
    refine WG.callV en44 rfl rfl (by decide) (CallOp.mk' rfl rfl rfl rfl) (fun _ => rfl) (fun hg => RCut03_V (s := u.take m) (by rw [List.length_take]; omega)) ?_
    refine zR 7 rfl (zN (zU (zQ (zQ (zG (zR 3 rfl ?_))))))
    refine yP ?_
    refine yP ?_
    refine yP ?_
    refine yP ?_
    refine yO ?_
    refine zN (zU ?_)
    refine W.cond rfl (fun hc3 => ?_) (fun hc3 => ?_)
    ·try simp only [zk] at hc3
     have hq : parseAllR s = ([], (n : Int), 0, 4) := (if_neg hns).trans (hpst.bad hu (by
      rw [hbk]
      rcases hc3 with h | h
      ·left; cases hb : cutN (u.take m) with
       | none => rfl
       | some x => rw [hb] at h; cases h
      ·right; exact if_pos (by omega)))
     refine zQ (zG (zR 5 rfl (zN (zU (zT (wt (wb (wt (wt (wb (wt ?_)))))))))))
     refine WE.retF tab_ok [_, _, _, _] rfl ⟨rfl, rfl, rfl, rfl, trivial⟩ (by first | exact RLe.refl _ | exact hRk | exact hRk.trans hR3 | exact hRk.trans hR9) ?_
     exact ⟨none, 0, [], by rw [hq]; rfl, rs_nil, Nat.le_refl 0, fun x h => (by cases h), by rw [hq]; rfl, qS⟩
    ·try simp only [zk] at hc3
     obtain ⟨q, hqs⟩ := Option.isSome_iff_exists.1 hc3.1
     have hml2 : ¬ m = u.length := by have := hc3.2; omega
     have hrow := hpst.row hu (nm := q.1) (t := q.2) (s' := u.drop (m + 1)) (by rw [hbk]; exact hqs) (by rw [hbk]; exact if_neg hml2)
     obtain ⟨hqr, hqnm⟩ := cutN_row hqs
     have hqn := (name_mem hqnm).2.1
     have hq2 : q.2.length ≤ u.length := by
      have := congrArg List.length hqr
      rw [List.length_append, List.length_take, List.length_cons, List.length_cons, List.length_cons] at this
      omega
     rw [hqs]
     refine zK (zU (zQ (zG (zR 1 rfl ?_))))
     refine WL.call en17 rfl rfl qD (CallOp.mkT rfl rfl rfl rfl) (RParse03_C (s := q.2) qO w0 _) ?_
     rintro _ R3 _ hR3 ⟨f5, k5, rfl, hf5, hk5, hsub5⟩
     refine WL.subE hsub5 ?_
     have hok : ∀ x ∈ l, OkNm R3 x ∧ x.c.cv.vals.length ≤ 1000 := fun x hx => ⟨(hok x hx).1.mono hR3, (hok x hx).2⟩
     have hprl : (parseR q.2).1.vals.length ≤ 1000 := parse_vals q.2
     generalize parseR q.2 = pr at hf5 hk5 hprl hrow ⊢
     obtain ⟨hr1, hr2, hr3, hr4⟩ := hrow
     refine zR 4 rfl ?_
     refine zA fun b12 => ?_
     first | refine WL.efN rfl rfl (Ef.store0 0 tab_ok rfl rfl rfl rfl rfl rfl rfl rfl ?_) | refine WL.efN rfl rfl (Ef.store0 1 tab_ok rfl rfl rfl rfl rfl rfl rfl rfl ?_) | refine WL.efN rfl rfl (Ef.store0 2 tab_ok rfl rfl rfl rfl rfl rfl rfl rfl ?_) | refine WL.efN rfl rfl (Ef.store0 3 tab_ok rfl rfl rfl rfl rfl rfl rfl rfl ?_) | refine WL.efN rfl rfl (Ef.store0 4 tab_ok rfl rfl rfl rfl rfl rfl rfl rfl ?_)
     refine zR 2 rfl (zN (zU (zQ (zQ (zG (zR 2 rfl (zN (zU ?_))))))))
     refine W.condN rfl (fun hc4 => ?_) (fun hc4 => ?_)
     ·try dsimp only at hc4
      have hq : parseAllR s = ([], (n : Int), (pr.2.1 : Int), pr.2.2) := (if_neg hns).trans (hr1 hc4)
      refine zQ (zG (zR 7 rfl (zN (zU (zT (wt (wb (wt (wt (wb (wt ?_)))))))))))
      refine WE.retF tab_ok [_, _, _, _] rfl ⟨rfl, rfl, rfl, rfl, trivial⟩ (by first | exact RLe.refl _ | exact hRk | exact hRk.trans hR3 | exact hRk.trans hR9) ?_
      exact ⟨none, 0, [], by rw [hq]; rfl, rs_nil, Nat.le_refl 0, fun x h => (by cases h), by rw [hq]; rfl, qS⟩
     ·try dsimp only at hc4
      have hp0 : pr.2.2 = 0 := by omega
      refine zK (zU (zQ (zQ (zG (zR 2 rfl ?_)))))
      refine WG.callE en42 rfl rfl qD (CallOp.mk' rfl rfl rfl rfl) (fun _ => rfl) (fun hg => Has03_E (n := q.1) (LsN.own 1 rfl qO) rfl w0) ?_
      refine zN (zU ?_)
      refine W.cond rfl (fun hc5 => ?_) (fun hc5 => ?_)
      ·try simp only [zk] at hc5
       have hq : parseAllR s = ([], (n : Int), 0, 7) := (if_neg hns).trans (hr2 hp0 hc5)
       refine zQ (zG (zR 5 rfl (zN (zU (zT (wt (wb (wt (wt (wb (wt ?_)))))))))))
       refine WE.retF tab_ok [_, _, _, _] rfl ⟨rfl, rfl, rfl, rfl, trivial⟩ (by first | exact RLe.refl _ | exact hRk | exact hRk.trans hR3 | exact hRk.trans hR9) ?_
       exact ⟨none, 0, [], by rw [hq]; rfl, rs_nil, Nat.le_refl 0, fun x h => (by cases h), by rw [hq]; rfl, qS⟩
      ·try simp only [zk] at hc5
       have hhas : hasN (l.map NmS.p) q.1 = false := hc5
       refine zK (zU (zQ (zQ (zG (zR 2 rfl (zN (zU ?_)))))))
       refine W.condD rfl (fun hc6 => ?_) (fun hc6 => ?_)
       ·try dsimp only at hc6
        have hq : parseAllR s = ([], (n : Int), 0, 3) := (if_neg hns).trans (hr3 hp0 hhas (by omega))
        refine zQ (zG (zR 5 rfl (zN (zU (zT (wt (wb (wt (wt (wb (wt ?_)))))))))))
        refine WE.retF tab_ok [_, _, _, _] rfl ⟨rfl, rfl, rfl, rfl, trivial⟩ (by first | exact RLe.refl _ | exact hRk | exact hRk.trans hR3 | exact hRk.trans hR9) ?_
        exact ⟨none, 0, [], by rw [hq]; rfl, rs_nil, Nat.le_refl 0, fun x h => (by cases h), by rw [hq]; rfl, qS⟩
       ·try dsimp only at hc6
        have hnx := hr4 hp0 hhas (by omega)
        refine zK (zU ?_)
        refine W.regionH _ (ES := [.blk b12 [.slice f5 pr.1.vals.length k5, .int .i64 pr.1.per, .int .i64 pr.1.inc]]) mixed ?_
        refine tP 0 ?_
        refine tP 1 ?_
        refine' WA.take 2 rfl qK qK qK rfl rfl qD (Yl.load1 tab_ok rfl rfl rfl (fun _ => rfl) ?r1 rfl ?h1) qS qR ?_
        case r1 => (first | exact Rd.blk 0 rfl | exact Rd.blk 1 rfl | exact Rd.blk 2 rfl | exact Rd.blk 3 rfl | exact Rd.blk 4 rfl)
        case h1 => rfl
        -- build
        refine WA.take 3 rfl qK qK qK rfl rfl qD (Yl.build (parts := [(0, .tmp 71), (1, .tmp 72)]) tab_ok rfl rfl rfl rfl (fun _ => rfl) rfl rfl) qS qR ?_
        refine tP 6 ?_
        refine tP 7 ?_
        refine tA 8 ?_
        refine WA.take 9 rfl qK qK qK rfl rfl qD (Yl.sliceSL tab_ok rfl rfl rfl rfl rfl (fun _ => rfl) (by intro _; (constructor <;> omega))) qS qR ?_
        refine WA.eff 4 rfl qK rfl rfl qD (Ef.buildSliceD (enc := encNm) (parts := [.tmp 73]) [⟨q.1, ⟨f5, k5, pr.1⟩⟩] tab_ok rfl rfl rfl rfl rfl rfl rfl rfl qD qD (fun a74 => ?_))
        refine ⟨qR, qS, ?_⟩
        first | refine WA.eff 5 rfl (by kernel_rfl) rfl rfl (by decide) (Ef.appendD (enc := encNm) 2 0 tab_ok rfl rfl rfl rfl rfl rfl rfl rfl rfl rfl rfl (fun _ _ => rfl) (by dsimp only; simp only [List.length_cons, List.length_nil]; omega) (by simp only [List.length_cons, List.length_nil]; omega) (fun a75 c75 ha75 => ?_)) | refine WA.eff 5 rfl (by kernel_rfl) rfl rfl (by decide) (Ef.appendD (enc := encNm) 3 0 tab_ok rfl rfl rfl rfl rfl rfl rfl rfl rfl rfl rfl (fun _ _ => rfl) (by dsimp only; simp only [List.length_cons, List.length_nil]; omega) (by simp only [List.length_cons, List.length_nil]; omega) (fun a75 c75 ha75 => ?_)) | refine WA.eff 5 rfl (by kernel_rfl) rfl rfl (by decide) (Ef.appendD (enc := encNm) 1 0 tab_ok rfl rfl rfl rfl rfl rfl rfl rfl rfl rfl rfl (fun _ _ => rfl) (by dsimp only; simp only [List.length_cons, List.length_nil]; omega) (by simp only [List.length_cons, List.length_nil]; omega) (fun a75 c75 ha75 => ?_))
        refine ⟨qR, qS, ?_⟩
        refine tP 10 ?_
        refine tP 11 ?_
        refine WA.done qK ?_
        refine zL (zU (zG (zR 1 rfl ?_)))
        refine yA ?_
        refine zR 1 rfl (zN ?_)
        refine WE.again ((n + 1, l ++ [⟨q.1, ⟨f5, k5, pr.1⟩⟩], u.drop (m + 1), a75, c75, R3)) (⟨by rw [List.map_append]; exact hnx, hRk.trans hR3, fun x hx => by
         rcases List.mem_append.1 hx with h | h
         ·exact hok x h
         ·rw [List.mem_singleton.1 h]
          exact ⟨⟨hf5, hk5, by dsimp only; omega⟩, hprl⟩, ⟨by (try dsimp only); omega, by (try dsimp only); omega⟩, by (try simp only [List.length_append, List.length_cons, List.length_nil]); omega, by (try dsimp only); rw [List.length_drop]; omega⟩) (by (try dsimp only); rw [List.length_drop]; omega) ⟨rfl, rfl, rfl, rfl⟩ (RLe.refl _) qS
  ·try dsimp only at hc1
   obtain rfl : u = [] := List.eq_nil_of_length_eq_zero (by omega)
   have hq : parseAllR s = (l.map NmS.p, 0, 0, 0) := (if_neg hns).trans (hst.fin)
   refine zX ?_
   refine wx (wx (zY (zU ?_)))
   refine W.cap 0 rfl ?_
   intro hcp
   rw [List.length_map] at hcp
   refine W.freeze (enc := encNm) (xs := l) 0 rfl ?_
   intro R9 hR9 hlf
   refine zQ (zG (zR 5 rfl (zN (zU (zT ?_)))))
   refine WE.retF tab_ok [_, _, _, _] rfl ⟨rfl, rfl, rfl, rfl, trivial⟩ (by first | exact RLe.refl _ | exact hRk | exact hRk.trans hR3 | exact hRk.trans hR9) ?_
   exact ⟨a6, c6, l, by rw [hq]; rfl, hlf, hcp, fun x hx => ⟨(hok x hx).1.mono hR9, (hok x hx).2⟩, by rw [hq], qS⟩



theorem nmK_len (i : Nat) : (nth nmK i).length ≤ 12 := by
 by_cases h : i < nmK.length
 ·exact (show ∀ t ∈ nmK, t.length ≤ 12 by decide) _ (nth_mem h)
 ·rw [nth_out (by omega)]; decide

set_option maxHeartbeats 2000000 in
theorem List03_C {R : Ro} {b : Nat} {a : Option Addr} {cp : Nat} {xs : List Int} {c : Nat} (w0 : World) (ha : RS R 1 encI a xs) : FnAt Tryd.prog 22 [.pointer (some ⟨b, 0, none⟩)] w0 R (srcE b a cp xs c) (fun v R' e' N => ∃ (a' : Option Addr) (c' cn : Nat) (l : List NmS), v = .slice a' l.length c' ∧ KList (l.map NmS.p) ∧ (∀ x ∈ l, OkNm R' x) ∧ e' = srcE b a cp xs cn ∧ N = [.sl 48 4 a' c' ((l).map encNm)]) := by
 intro F
 refine fE 24 Tryd.func22 ?_
 refine zQ (zG (zR 1 rfl (zN (zU (zQ (zG (zR 1 rfl (zN (zU (zQ ?_))))))))))
 refine W.nil 48 4 qD ?_
 refine zQ (zG (zR 1 rfl ?_))
 refine WL.callAt 1 en12 rfl rfl qD (CallOp.mkT rfl rfl rfl rfl) rfl (N_C w0 ha (by constructor <;> decide) _) ?_
 rintro _ _ _ _ - ⟨rfl, rfl, rfl, rfl⟩
 obtain ⟨n, hnm, hn4⟩ : ∃ n : Nat, mod (nth xs c) 5 = (n : Int) ∧ n ≤ 4 := by
  have := mod_range (nth xs c) (show (1 : Int) ≤ 5 by decide)
  exact ⟨(mod (nth xs c) 5).toNat, by omega, by omega⟩
 rw [hnm]
 refine zR 2 rfl (zN (zU (zB ?_)))
 refine W.loopR (β := List NmS × Option Addr × Nat × Nat × Ro) (fun (l, a3, c3, cn, Rk) => KList (l.map NmS.p) ∧ (∀ x ∈ l, OkNm Rk x) ∧ RLe R Rk ∧ l.length ≤ n) (fun (l, a3, c3, cn, Rk) => [(3, true, .slice a3 l.length c3), (4, true, .int .i64 (l.length : Int))]) [0, 5] [_, _] [] _ rfl (fun (l, a3, c3, cn, Rk) => [(0, .sl 48 4 a3 c3 ((l).map encNm)), (1, srcE b a cp xs cn)]) (fun (l, a3, c3, cn, Rk) => Rk) (fun (l, a3, c3, cn, Rk) => n - l.length) (([], none, 0, c + 1, R)) (⟨KList.nil, fun x h => (by cases h), RLe.refl _, Nat.zero_le _⟩) ⟨rfl, rfl, rfl, rfl, rfl⟩ (RLe.refl _) qS ?_
 intro zz hst
 obtain ⟨l, a3, c3, cn, Rk⟩ := zz
 dsimp only [zipE, setAll, List.cons_append, List.nil_append, List.set_cons_zero, List.set_cons_succ] at hst ⊢
 obtain ⟨hkl, hok, hRk, hln⟩ := hst
 have ha := ha.mono hRk
 refine zQ (zQ (zG (zR 3 rfl (zN (zU ?_)))))
 refine W.condD rfl (fun hc0 => ?_) (fun hc0 => ?_)
 ·try dsimp only at hc0
  have hl3 : l.length ≤ 3 := by omega
  refine zK (zU (zQ (zB ?_)))
  refine W.regionH _ (ES := []) mixed ?_
  refine tP 0 ?_
  refine tP 2 ?_
  refine tP 5 ?_
  refine WA.br2 (i := 1) (j := 6) qK ?_ ?_
  ·
   refine WS.eff rfl rfl rfl qD (Ef.buildSliceD (enc := encT) (parts := [.const (.string ⟨#[97]⟩), .const (.string ⟨#[98, 55]⟩), .const (.string ⟨#[114, 97, 116, 101]⟩), .const (.string ⟨#[97, 98, 99, 100, 101, 102, 103, 104, 105, 106, 107, 108]⟩), .const (.string ⟨#[122]⟩)]) nmK tab_ok rfl rfl rfl rfl rfl rfl rfl rfl qD qD (fun a14 => ?_))
   refine ⟨qR, qS, ?_⟩
   refine WA.take 3 rfl qK qK qK rfl rfl qD (Yl.indexN tab_ok rfl rfl rfl rfl rfl rfl (fun _ => rfl) (by intro _; (show _ < 5; omega)) qH) qS qR ?_
   refine WA.br2 (i := 4) (j := 6) qK ?_ ?_
   ·
    refine' WS.yl rfl rfl rfl qD (Yl.load1 tab_ok rfl rfl rfl (fun _ => rfl) ?r1 rfl ?h1) qS qR ?_
    case r1 => (first | exact Rd.slD (enc := encT) (xs := nmK) 0 rfl (by show l.length < 5; omega) | exact Rd.slD (enc := encT) (xs := nmK) 1 rfl (by show l.length < 5; omega) | exact Rd.slD (enc := encT) (xs := nmK) 2 rfl (by show l.length < 5; omega) | exact Rd.slD (enc := encT) (xs := nmK) 3 rfl (by show l.length < 5; omega))
    case h1 => rfl
    first | refine WA.callAt 1 6 rfl qK en10 rfl rfl qD (CallOp.mkT rfl rfl rfl rfl) rfl (KCurve_C w0 ha (most := 6) qD _) ?_ | refine WA.callAt 2 6 rfl qK en10 rfl rfl qD (CallOp.mkT rfl rfl rfl rfl) rfl (KCurve_C w0 ha (most := 6) qD _) ?_ | refine WA.callAt 3 6 rfl qK en10 rfl rfl qD (CallOp.mkT rfl rfl rfl rfl) rfl (KCurve_C w0 ha (most := 6) qD _) ?_ | refine WA.callAt 0 6 rfl qK en10 rfl rfl qD (CallOp.mkT rfl rfl rfl rfl) rfl (KCurve_C w0 ha (most := 6) qD _) ?_
    rintro _ Rz _ _ hRz ⟨f5, k5, n5, v5, rfl, hf5, hs5, hcp5, rfl, rfl⟩
    refine ⟨hRz, qS, ?_⟩
    -- build
    refine WA.take 7 rfl qK qK qK rfl rfl qD (Yl.build (parts := [(0, .tmp 17), (1, .tmp 19)]) tab_ok rfl rfl rfl rfl (fun _ => rfl) rfl rfl) qS qR ?_
    refine WA.eff 8 rfl qK rfl rfl qD (Ef.buildSliceD (enc := encNm) (parts := [.tmp 20]) [⟨nth nmK l.length, ⟨f5, k5, v5⟩⟩] tab_ok rfl rfl rfl rfl rfl rfl rfl rfl qD qD (fun a21 => ?_))
    refine ⟨qR, qS, ?_⟩
    first | refine WA.eff 9 rfl (by kernel_rfl) rfl rfl (by decide) (Ef.appendD (enc := encNm) 2 0 tab_ok rfl rfl rfl rfl rfl rfl rfl rfl rfl rfl rfl (fun _ _ => rfl) (by dsimp only; simp only [List.length_cons, List.length_nil]; omega) (by simp only [List.length_cons, List.length_nil]; omega) (fun a22 c22 ha22 => ?_)) | refine WA.eff 9 rfl (by kernel_rfl) rfl rfl (by decide) (Ef.appendD (enc := encNm) 1 0 tab_ok rfl rfl rfl rfl rfl rfl rfl rfl rfl rfl rfl (fun _ _ => rfl) (by dsimp only; simp only [List.length_cons, List.length_nil]; omega) (by simp only [List.length_cons, List.length_nil]; omega) (fun a22 c22 ha22 => ?_)) | refine WA.eff 9 rfl (by kernel_rfl) rfl rfl (by decide) (Ef.appendD (enc := encNm) 3 0 tab_ok rfl rfl rfl rfl rfl rfl rfl rfl rfl rfl rfl (fun _ _ => rfl) (by dsimp only; simp only [List.length_cons, List.length_nil]; omega) (by simp only [List.length_cons, List.length_nil]; omega) (fun a22 c22 ha22 => ?_))
    refine ⟨qR, qS, ?_⟩
    refine tP 10 ?_
    refine WA.done qK ?_
    refine zL (zU (zG (zR 1 rfl ?_)))
    refine yA ?_
    refine zR 1 rfl (zN ?_)
    refine WE.again ((l ++ [⟨nth nmK l.length, ⟨f5, k5, v5⟩⟩], a22, c22, n5, Rz)) (⟨by
     have h := hkl.snoc (by rw [List.length_map]; exact hl3) hs5
     rw [List.length_map] at h
     rw [List.map_append]
     exact h, fun x hx => by
     rcases List.mem_append.1 hx with h | h
     ·exact (hok x h).mono hRz
     ·rw [List.mem_singleton.1 h]
      exact ⟨hf5, hcp5, by have := nmK_len l.length; dsimp only; omega⟩, hRk.trans hRz, by (try simp only [List.length_append, List.length_cons, List.length_nil]); omega⟩) (by (try simp only [List.length_append, List.length_cons, List.length_nil]); omega) ⟨rfl, vint (by simp), rfl, rfl, rfl⟩ (RLe.refl _) qS
   ·
    first | refine WS.callAt 1 rfl en10 rfl rfl qD (CallOp.mkT rfl rfl rfl rfl) rfl (KCurve_C w0 ha (most := 6) qD _) ?_ | refine WS.callAt 2 rfl en10 rfl rfl qD (CallOp.mkT rfl rfl rfl rfl) rfl (KCurve_C w0 ha (most := 6) qD _) ?_ | refine WS.callAt 3 rfl en10 rfl rfl qD (CallOp.mkT rfl rfl rfl rfl) rfl (KCurve_C w0 ha (most := 6) qD _) ?_ | refine WS.callAt 0 rfl en10 rfl rfl qD (CallOp.mkT rfl rfl rfl rfl) rfl (KCurve_C w0 ha (most := 6) qD _) ?_
    rintro _ Rz _ _ hRz ⟨f5, k5, n5, v5, rfl, hf5, hs5, hcp5, rfl, rfl⟩
    refine ⟨hRz, qS, ?_⟩
    refine' WA.yl 4 rfl qK rfl rfl qD (Yl.load1 tab_ok rfl rfl rfl (fun _ => rfl) ?r2 rfl ?h2) qS qR ?_
    case r2 => (first | exact Rd.slD (enc := encT) (xs := nmK) 0 rfl (by show l.length < 5; omega) | exact Rd.slD (enc := encT) (xs := nmK) 1 rfl (by show l.length < 5; omega) | exact Rd.slD (enc := encT) (xs := nmK) 2 rfl (by show l.length < 5; omega) | exact Rd.slD (enc := encT) (xs := nmK) 3 rfl (by show l.length < 5; omega))
    case h2 => rfl
    -- build
    refine WA.take 7 rfl qK qK qK rfl rfl qD (Yl.build (parts := [(0, .tmp 17), (1, .tmp 19)]) tab_ok rfl rfl rfl rfl (fun _ => rfl) rfl rfl) qS qR ?_
    refine WA.eff 8 rfl qK rfl rfl qD (Ef.buildSliceD (enc := encNm) (parts := [.tmp 20]) [⟨nth nmK l.length, ⟨f5, k5, v5⟩⟩] tab_ok rfl rfl rfl rfl rfl rfl rfl rfl qD qD (fun a21 => ?_))
    refine ⟨qR, qS, ?_⟩
    first | refine WA.eff 9 rfl (by kernel_rfl) rfl rfl (by decide) (Ef.appendD (enc := encNm) 2 0 tab_ok rfl rfl rfl rfl rfl rfl rfl rfl rfl rfl rfl (fun _ _ => rfl) (by dsimp only; simp only [List.length_cons, List.length_nil]; omega) (by simp only [List.length_cons, List.length_nil]; omega) (fun a22 c22 ha22 => ?_)) | refine WA.eff 9 rfl (by kernel_rfl) rfl rfl (by decide) (Ef.appendD (enc := encNm) 1 0 tab_ok rfl rfl rfl rfl rfl rfl rfl rfl rfl rfl rfl (fun _ _ => rfl) (by dsimp only; simp only [List.length_cons, List.length_nil]; omega) (by simp only [List.length_cons, List.length_nil]; omega) (fun a22 c22 ha22 => ?_)) | refine WA.eff 9 rfl (by kernel_rfl) rfl rfl (by decide) (Ef.appendD (enc := encNm) 3 0 tab_ok rfl rfl rfl rfl rfl rfl rfl rfl rfl rfl rfl (fun _ _ => rfl) (by dsimp only; simp only [List.length_cons, List.length_nil]; omega) (by simp only [List.length_cons, List.length_nil]; omega) (fun a22 c22 ha22 => ?_))
    refine ⟨qR, qS, ?_⟩
    refine tP 10 ?_
    refine WA.done qK ?_
    refine zL (zU (zG (zR 1 rfl ?_)))
    refine yA ?_
    refine zR 1 rfl (zN ?_)
    refine WE.again ((l ++ [⟨nth nmK l.length, ⟨f5, k5, v5⟩⟩], a22, c22, n5, Rz)) (⟨by
     have h := hkl.snoc (by rw [List.length_map]; exact hl3) hs5
     rw [List.length_map] at h
     rw [List.map_append]
     exact h, fun x hx => by
     rcases List.mem_append.1 hx with h | h
     ·exact (hok x h).mono hRz
     ·rw [List.mem_singleton.1 h]
      exact ⟨hf5, hcp5, by have := nmK_len l.length; dsimp only; omega⟩, hRk.trans hRz, by (try simp only [List.length_append, List.length_cons, List.length_nil]); omega⟩) (by (try simp only [List.length_append, List.length_cons, List.length_nil]); omega) ⟨rfl, vint (by simp), rfl, rfl, rfl⟩ (RLe.refl _) qS
  ·
   first | refine WS.callAt 1 rfl en10 rfl rfl qD (CallOp.mkT rfl rfl rfl rfl) rfl (KCurve_C w0 ha (most := 6) qD _) ?_ | refine WS.callAt 2 rfl en10 rfl rfl qD (CallOp.mkT rfl rfl rfl rfl) rfl (KCurve_C w0 ha (most := 6) qD _) ?_ | refine WS.callAt 3 rfl en10 rfl rfl qD (CallOp.mkT rfl rfl rfl rfl) rfl (KCurve_C w0 ha (most := 6) qD _) ?_ | refine WS.callAt 0 rfl en10 rfl rfl qD (CallOp.mkT rfl rfl rfl rfl) rfl (KCurve_C w0 ha (most := 6) qD _) ?_
   rintro _ Rz _ _ hRz ⟨f5, k5, n5, v5, rfl, hf5, hs5, hcp5, rfl, rfl⟩
   refine ⟨hRz, qS, ?_⟩
   refine WA.eff 1 rfl qK rfl rfl qD (Ef.buildSliceD (enc := encT) (parts := [.const (.string ⟨#[97]⟩), .const (.string ⟨#[98, 55]⟩), .const (.string ⟨#[114, 97, 116, 101]⟩), .const (.string ⟨#[97, 98, 99, 100, 101, 102, 103, 104, 105, 106, 107, 108]⟩), .const (.string ⟨#[122]⟩)]) nmK tab_ok rfl rfl rfl rfl rfl rfl rfl rfl qD qD (fun a14 => ?_))
   refine ⟨qR, qS, ?_⟩
   refine WA.take 3 rfl qK qK qK rfl rfl qD (Yl.indexN tab_ok rfl rfl rfl rfl rfl rfl (fun _ => rfl) (by intro _; (show _ < 5; omega)) qH) qS qR ?_
   refine' WA.yl 4 rfl qK rfl rfl qD (Yl.load1 tab_ok rfl rfl rfl (fun _ => rfl) ?r3 rfl ?h3) qS qR ?_
   case r3 => (first | exact Rd.slD (enc := encT) (xs := nmK) 0 rfl (by show l.length < 5; omega) | exact Rd.slD (enc := encT) (xs := nmK) 1 rfl (by show l.length < 5; omega) | exact Rd.slD (enc := encT) (xs := nmK) 2 rfl (by show l.length < 5; omega) | exact Rd.slD (enc := encT) (xs := nmK) 3 rfl (by show l.length < 5; omega))
   case h3 => rfl
   -- build
   refine WA.take 7 rfl qK qK qK rfl rfl qD (Yl.build (parts := [(0, .tmp 17), (1, .tmp 19)]) tab_ok rfl rfl rfl rfl (fun _ => rfl) rfl rfl) qS qR ?_
   refine WA.eff 8 rfl qK rfl rfl qD (Ef.buildSliceD (enc := encNm) (parts := [.tmp 20]) [⟨nth nmK l.length, ⟨f5, k5, v5⟩⟩] tab_ok rfl rfl rfl rfl rfl rfl rfl rfl qD qD (fun a21 => ?_))
   refine ⟨qR, qS, ?_⟩
   first | refine WA.eff 9 rfl (by kernel_rfl) rfl rfl (by decide) (Ef.appendD (enc := encNm) 2 0 tab_ok rfl rfl rfl rfl rfl rfl rfl rfl rfl rfl rfl (fun _ _ => rfl) (by dsimp only; simp only [List.length_cons, List.length_nil]; omega) (by simp only [List.length_cons, List.length_nil]; omega) (fun a22 c22 ha22 => ?_)) | refine WA.eff 9 rfl (by kernel_rfl) rfl rfl (by decide) (Ef.appendD (enc := encNm) 1 0 tab_ok rfl rfl rfl rfl rfl rfl rfl rfl rfl rfl rfl (fun _ _ => rfl) (by dsimp only; simp only [List.length_cons, List.length_nil]; omega) (by simp only [List.length_cons, List.length_nil]; omega) (fun a22 c22 ha22 => ?_)) | refine WA.eff 9 rfl (by kernel_rfl) rfl rfl (by decide) (Ef.appendD (enc := encNm) 3 0 tab_ok rfl rfl rfl rfl rfl rfl rfl rfl rfl rfl rfl (fun _ _ => rfl) (by dsimp only; simp only [List.length_cons, List.length_nil]; omega) (by simp only [List.length_cons, List.length_nil]; omega) (fun a22 c22 ha22 => ?_))
   refine ⟨qR, qS, ?_⟩
   refine tP 10 ?_
   refine WA.done qK ?_
   refine zL (zU (zG (zR 1 rfl ?_)))
   refine yA ?_
   refine zR 1 rfl (zN ?_)
   refine WE.again ((l ++ [⟨nth nmK l.length, ⟨f5, k5, v5⟩⟩], a22, c22, n5, Rz)) (⟨by
    have h := hkl.snoc (by rw [List.length_map]; exact hl3) hs5
    rw [List.length_map] at h
    rw [List.map_append]
    exact h, fun x hx => by
    rcases List.mem_append.1 hx with h | h
    ·exact (hok x h).mono hRz
    ·rw [List.mem_singleton.1 h]
     exact ⟨hf5, hcp5, by have := nmK_len l.length; dsimp only; omega⟩, hRk.trans hRz, by (try simp only [List.length_append, List.length_cons, List.length_nil]); omega⟩) (by (try simp only [List.length_append, List.length_cons, List.length_nil]); omega) ⟨rfl, vint (by simp), rfl, rfl, rfl⟩ (RLe.refl _) qS
 ·try dsimp only at hc0
  refine zX ?_
  refine wx (wx (zY (zU (zQ (zG (zR 2 rfl (zN (zU (zT ?_)))))))))
  refine WE.retF tab_ok [_] rfl ⟨rfl, trivial⟩ (hRk) ?_
  exact ⟨srcE b a cp xs cn, [.sl 48 4 a3 c3 ((l).map encNm)], rfl, a3, c3, cn, l, rfl, hkl, hok, rfl, rfl⟩



def manyN (k : Nat) : List UInt8 := 110 :: [UInt8.ofNat (48 + k / 10), UInt8.ofNat (48 + k % 10)]
theorem u8_48 {d : Nat} (h : d ≤ 9) : (48 : Int) + (d : Int) = ((UInt8.ofNat (48 + d)).toNat : Int) := by rw [UInt8.toNat_ofNat']; omega
theorem nmL_any (i : Nat) : (nth nmL i).length ≤ 13 := by
 by_cases h : i < nmL.length
 ·exact nm_len _ (nth_mem h)
 ·rw [nth_out (by omega)]; decide
theorem set_ok {R : Ro} {l : List NmS} {x : NmS} {i : Nat} (h : ∀ y ∈ l, OkNm R y ∧ y.c.cv.vals.length ≤ 1000) (hx : OkNm R x ∧ x.c.cv.vals.length ≤ 1000) : ∀ y ∈ l.set i x, OkNm R y ∧ y.c.cv.vals.length ≤ 1000 := fun y hy => by
 rcases List.mem_or_eq_of_mem_set hy with h1 | h1
 ·exact h y h1
 ·rw [h1]; exact hx
theorem fallGo_len : ∀ (r pre : List Nmd) (acc : List UInt8), (fallGo pre acc r).1.length ≤ 4000
 | [], pre, acc => by
  unfold fallGo
  split
  ·exact Nat.zero_le _
  ·rename_i h; show acc.length ≤ 4000; omega
 | x :: r, pre, acc => by
  unfold fallGo
  split
  ·exact Nat.zero_le _
  ·split
   ·exact Nat.zero_le _
   ·split
    ·exact Nat.zero_le _
    ·exact fallGo_len r _ _
theorem fallR_len (l : List Nmd) : (formatAllR l).1.length ≤ 4000 := by
 unfold formatAllR
 split
 ·exact Nat.zero_le _
 ·exact fallGo_len _ _ _

theorem Text_C {R : Ro} {b : Nat} {a : Option Addr} {cp : Nat} {xs : List Int} {c : Nat} (w0 : World) {n : Nat} {a2 : Option Addr} {c2 : Nat} {ys : List (List UInt8)} {j : Nat} {F : List Ent} (hn : ys.length = n) (ha : RS R 1 encI a xs) (hy : F[j]? = some (.sl 9 1 a2 c2 (ys.map encT))) (hne : 0 < n) (hl : n ≤ 1000000) :
  K.Fn Tryd.prog 23 [.pointer (some ⟨b, 0, none⟩), .slice a2 n c2] w0 R (srcE b a cp xs c :: F) (fun v R' E' => ∃ e' N, E' = N ++ e' :: F ∧ RdPost (.string (str (nth ys (mod (nth xs c) n).toNat))) R (srcE b a cp xs (c + 1)) v R' e' N) := by
 subst hn
 have hr := mod_range (nth xs c) (show (1 : Int) ≤ ys.length by omega)
 refine fE 12 Tryd.func23 ?_
 refine zQ (zG (zR 1 rfl (zN (zU (zQ (zG (zR 4 rfl ?_)))))))
 refine WL.callAt 0 en12 rfl rfl qD (CallOp.mkT rfl rfl rfl rfl) rfl (N_C w0 ha (by constructor <;> omega) _) ?_
 rintro _ _ _ _ - ⟨rfl, rfl, rfl, rfl⟩
 refine WG.y rfl rfl qD (Yl.index tab_ok rfl rfl rfl rfl rfl rfl (fun _ => rfl) qA (by intro _; first | exact HasMem.ownD (j + 1) hy | exact qI)) ?_
 refine' WG.y rfl rfl qD (Yl.load1 tab_ok rfl rfl rfl (fun _ => rfl) ?r1 rfl ?h1) ?_
 case r1 => (first | exact Rd.slD (j + 1) hy qO | (apply RS.rdD; assumption; ((try dsimp only) <;> omega)) | exact Rd.slD 0 rfl qX | exact Rd.slD 1 rfl qX)
 case h1 => rfl
 refine zR 1 rfl (zN (zU (zT ?_)))
 refine WE.retF tab_ok [_] rfl ⟨rfl, trivial⟩ (RLe.refl _) ?_
 exact ⟨_, [], rfl, rfl, rfl, rfl, rfl⟩

set_option maxHeartbeats 8000000 in
theorem NotationLists_F {R : Ro} {la : Option Addr} {lc : Nat} {rl : List NmS} (hrl : RS R 4 encNm la rl) (hrc : rl.length ≤ lc) (hro : ∀ x ∈ rl, OkNm R x) {text : List UInt8} {z : Int} {v : UInt8} {a : Option Addr} {c : Nat} {xs : List Int} (ha : RS R 1 encI a xs) (hzr : InR z) (hG : GlobE R) (hc : xs.length ≤ c) (w0 : World) : K.Fn Tryd.prog 5 [.slice la rl.length lc, .string (str text), .slice a xs.length c, .int .i64 z, .int .u8 v.toNat] w0 R [] (fun v _ _ => v = .bool true) := by
 have hst := str_size text
 have hll := hrl.len
 refine fE 257 Tryd.func5 ?_
 refine zQ (zG (zR 1 rfl (zN (zU (zQ (zQ (zG (zR 4 rfl ?_))))))))
 refine yP ?_
 refine yP ?_
 refine yP ?_
 refine yO ?_
 refine zN (zU ?_)
 refine W.cond rfl (fun hc0 => ?_) (fun hc0 => ?_)
 ·try simp only [zk] at hc0
  refine zQ (zG ?_)
  refine WL.call en7 rfl rfl qD (CallOp.mkT rfl rfl rfl rfl) (Awake03_C hG w0 _) ?_
  rintro _ R9 E9 hR9 ⟨rfl, hsub9⟩
  refine WL.subE hsub9 ?_
  refine zR 1 rfl (zN (zU (zT (wt ?_))))
  refine WE.retF tab_ok [_] rfl ⟨rfl, trivial⟩ (by first | assumption | exact RLe.refl _ | exact hRR.trans (hRk3.trans (hRq.trans (hRk4.trans hR9)))) ?_
  exact rfl
 ·try simp only [zk] at hc0
  have hrl60 : rl.length ≤ 60 := by first | omega | (simp at hc0; omega)
  have htl : text.length ≤ 300 := by first | omega | (simp at hc0; omega)
  refine zK (zU (zQ (zQ (zG (zR 3 rfl (zN (zU (zB ?_))))))))
  refine W.loopK (β := Nat) (fun i => i ≤ rl.length ∧ ∀ j, j < i → (nth rl j).c.cv.vals.length ≤ 800) (fun i => [(54, true, .int .i64 (i : Int))]) [0, 1, 2, 3, 4, 53] [_, _, _, _, _, _] [] _ rfl (fun i => []) (fun i => rl.length - i) (0) (⟨Nat.zero_le _, fun j hj => by omega⟩) ⟨rfl, rfl, rfl, rfl, rfl, rfl, rfl, rfl⟩ qS ?_
  intro i hst
  dsimp only [zipE, setAll, List.cons_append, List.nil_append, List.set_cons_zero, List.set_cons_succ] at hst ⊢
  
  refine zQ (zG (zR 1 rfl (zN (zU (zQ ?_)))))
  refine W.condD rfl (fun hc1 => ?_) (fun hc1 => ?_)
  ·try dsimp only at hc1
   have hil : i < rl.length := by omega
   refine zK (zU (zQ (zB (zQ (zG (zR 2 rfl (zN (zU (zQ (zG (zR 2 rfl ?_)))))))))))
   refine WG.y rfl rfl (by decide) (Yl.indexN tab_ok rfl rfl rfl rfl rfl rfl (fun _ => rfl) (by intro _; (try dsimp only) <;> omega) (by intro _; first | exact (by rw [← hlol]; exact HasMem.ownD 1 rfl) | exact qI)) ?_
   refine zR 1 rfl ?_
   refine' WG.y rfl rfl qD (Yl.load1 tab_ok rfl rfl rfl (fun _ => rfl) ?r1 rfl ?h1) ?_
   case r1 => apply Rd.add; exact RS.rdD hrl qO
   case h1 => rfl
   refine WG.callV (v := .bool (decide (((nth rl i).c.cv.vals.length : Int) ≤ 800))) en14 rfl rfl qD (CallOp.mk' rfl rfl rfl rfl) (fun _ => rfl) (fun hg => SmallK_V) ?_
   refine zR 1 rfl (zN (zU ?_))
   refine W.cond rfl (fun hc2 => ?_) (fun hc2 => ?_)
   ·try simp only [zk] at hc2
    refine zQ (zG ?_)
    refine WL.call en7 rfl rfl qD (CallOp.mkT rfl rfl rfl rfl) (Awake03_C hG w0 _) ?_
    rintro _ R9 E9 hR9 ⟨rfl, hsub9⟩
    refine WL.subE hsub9 ?_
    refine zR 1 rfl (zN (zU (zT (wb (wt (wt (wb (wt ?_))))))))
    refine WE.retF tab_ok [_] rfl ⟨rfl, trivial⟩ (by first | assumption | exact RLe.refl _ | exact hRR.trans (hRk3.trans (hRq.trans (hRk4.trans hR9)))) ?_
    exact rfl
   ·try simp only [zk] at hc2
    have hi8 : (nth rl i).c.cv.vals.length ≤ 800 := by first | omega | (simp at hc2; omega)
    refine zK (zL (zU (zG ?_)))
    refine yA ?_
    refine zR 1 rfl (zN ?_)
    refine WE.again (i + 1) (⟨by omega, fun j hj => by
     by_cases e : j = i
     ·subst e; exact hi8
     ·exact hst.2 j (by omega)⟩) (by (try dsimp only); omega) ⟨rfl, rfl, rfl, rfl, rfl, rfl, rfl, rfl⟩ (RLe.refl _) qS
  ·try dsimp only at hc1
   obtain rfl : i = rl.length := by omega
   have hro : ∀ x ∈ rl, OkNm R x ∧ x.c.cv.vals.length ≤ 1000 := fun x hx => by
    obtain ⟨j, hj, rfl⟩ := List.getElem_of_mem hx
    have := hst.2 j hj
    rw [nth_eq hj] at this
    exact ⟨hro _ (List.getElem_mem hj), by omega⟩
   refine zX ?_
   refine wx (wx (zY (zU (zQ (zG (zR 1 rfl ?_))))))
   refine WL.call en8 rfl rfl qD (CallOp.mkT rfl rfl rfl rfl) (New_C w0 _ hc) ?_
   rintro _ _ _ - ⟨b, rfl, rfl, rfl⟩
   have hz := ha.take 2000
   refine zR 1 rfl (zN (zU (zQ (zG (zR 1 rfl ?_)))))
   refine WL.callAt 0 en22 rfl rfl qD (CallOp.mkT rfl rfl rfl rfl) rfl (List03_C w0 hz _) ?_
   rintro _ R3 _ _ hR3 ⟨al, cl, n2, l, rfl, hkl, hol, rfl, rfl⟩
   refine WL.cap 0 rfl ?_
   intro hcl
   rw [List.length_map] at hcl
   refine WL.freeze (enc := encNm) (xs := l) 0 rfl ?_
   intro R4 hR4 hl1
   have hR34 := hR3.trans hR4
   have hz := hz.mono hR34
   have hG := hG.mono hR34
   have hrl := hrl.mono hR34
   have hro : ∀ x ∈ rl, OkNm R4 x ∧ x.c.cv.vals.length ≤ 1000 := fun x hx => ⟨(hro x hx).1.mono hR34, (hro x hx).2⟩
   have hll4 : l.length ≤ 4 := by have := hkl.len; rwa [List.length_map] at this
   have hol : ∀ x ∈ l, OkNm R4 x ∧ x.c.cv.vals.length ≤ 1000 := fun x hx => ⟨(hol x hx).mono hR4, by have := (hkl.cv _ (List.mem_map_of_mem hx)).len; exact Nat.le_trans this (by decide)⟩
   have hov : ∀ x ∈ l, validB x.c.cv = true := fun x hx => (hkl.cv _ (List.mem_map_of_mem hx)).valid
   refine zR 1 rfl (zN (zU (zQ (zG ?_))))
   refine WL.ef rfl rfl qD (Ef.buildSliceD (enc := encNm) (parts := []) [] tab_ok rfl rfl rfl rfl rfl rfl rfl rfl qD qD (fun a70 => ?_))
   refine zR 1 rfl ?_
   first | refine WL.ef rfl rfl qD (Ef.cloneL (enc := encNm) 0 tab_ok rfl rfl rfl rfl rfl rfl rfl rfl rfl rfl hl1 (fun _ _ => rfl) (by dsimp only; omega) qO (fun a72 c72 ha72 => ?_)) | refine WL.ef rfl rfl qD (Ef.cloneL (enc := encNm) 1 tab_ok rfl rfl rfl rfl rfl rfl rfl rfl rfl rfl hl1 (fun _ _ => rfl) (by dsimp only; omega) qO (fun a72 c72 ha72 => ?_))
   refine zR 1 rfl (zN (zU ?_))
   refine W.seqCut (β := List NmS × Nat × Ro) (fun (lo, cn, Rk) => lo.length = l.length ∧ (∀ x ∈ lo, OkNm Rk x ∧ x.c.cv.vals.length ≤ 1000) ∧ RLe R4 Rk) (fun (lo, cn, Rk) => [(0, true, .slice la rl.length lc), (1, true, .string (str text)), (3, true, .int .i64 z), (4, true, .int .u8 v.toNat), (12, true, .pointer (some ⟨b, 0, none⟩)), (13, true, .slice al l.length cl), (14, true, .slice a72 lo.length c72)]) (fun (lo, cn, Rk) => Rk) (fun (lo, cn, Rk) => [.sl 48 4 a72 c72 ((lo).map encNm), srcE b a c (xs.take 2000) cn]) ?_ ?_
   ·
    intro zz hst
    obtain ⟨lo, cn, Rk⟩ := zz
    obtain ⟨hlol, hoo, hRk⟩ := hst
    dsimp only at hlol hoo hRk ⊢
    refine W.cap 0 rfl ?_
    intro hclo
    rw [List.length_map] at hclo
    refine W.freeze (enc := encNm) (xs := lo) 0 rfl ?_
    intro R5 hR5 hlo
    have hR45 := hRk.trans hR5
    have hz := hz.mono hR45
    have hG := hG.mono hR45
    have hrl := hrl.mono hR45
    have hl1 := hl1.mono hR45
    have hro : ∀ x ∈ rl, OkNm R5 x ∧ x.c.cv.vals.length ≤ 1000 := fun x hx => ⟨(hro x hx).1.mono hR45, (hro x hx).2⟩
    have hol : ∀ x ∈ l, OkNm R5 x ∧ x.c.cv.vals.length ≤ 1000 := fun x hx => ⟨(hol x hx).1.mono hR45, (hol x hx).2⟩
    have hoo : ∀ x ∈ lo, OkNm R5 x ∧ x.c.cv.vals.length ≤ 1000 := fun x hx => ⟨(hoo x hx).1.mono hR5, (hoo x hx).2⟩
    have hRR := hR34.trans hR45
    refine zQ (zG (zR 1 rfl (zN (zU (zQ ?_)))))
    refine W.nil 48 4 qD ?_
    refine zQ (zG (zR 1 rfl ?_))
    refine WL.callAt 1 en12 rfl rfl qD (CallOp.mkT rfl rfl rfl rfl) rfl (N_C w0 hz (by constructor <;> decide) _) ?_
    rintro _ _ _ _ - ⟨rfl, rfl, rfl, rfl⟩
    obtain ⟨k0, hk0, hk02⟩ : ∃ k0 : Nat, mod (nth (xs.take 2000) cn) 3 = (k0 : Int) ∧ k0 ≤ 2 := by
     have := mod_range (nth (xs.take 2000) cn) (show (1 : Int) ≤ 3 by decide)
     exact ⟨(mod (nth (xs.take 2000) cn) 3).toNat, by omega, by omega⟩
    rw [hk0]
    refine yA ?_
    rw [show (39 : Int) + (k0 : Int) = ((39 + k0 : Nat) : Int) by omega]
    refine zR 1 rfl (zN (zU (zB ?_)))
    refine W.loopR (β := List NmS × Nat × Option Addr × Nat × Ro) (fun (lm, k, a16, c16, Rk2) => (∀ x ∈ lm, OkNm Rk2 x ∧ x.c.cv.vals.length ≤ 1000) ∧ RLe R5 Rk2 ∧ lm.length + k ≤ 41) (fun (lm, k, a16, c16, Rk2) => [(16, true, .slice a16 lm.length c16), (17, true, .int .i64 (k : Int))]) [0, 1, 3, 4, 13, 14] [_, _, _, _, _, _] [] _ rfl (fun (lm, k, a16, c16, Rk2) => [(0, .sl 48 4 a16 c16 ((lm).map encNm))]) (fun (lm, k, a16, c16, Rk2) => Rk2) (fun (lm, k, a16, c16, Rk2) => k) (([], 39 + k0, none, 0, R5)) (⟨fun x h => (by cases h), RLe.refl _, by (try dsimp only [List.length_nil]); omega⟩) ⟨rfl, rfl, rfl, rfl, rfl, rfl, rfl, rfl, rfl⟩ (RLe.refl _) qS ?_
    intro zz hst
    obtain ⟨lm, k, a16, c16, Rk2⟩ := zz
    dsimp only [zipE, setAll, List.cons_append, List.nil_append, List.set_cons_zero, List.set_cons_succ] at hst ⊢
    obtain ⟨hom, hRk2, hlk⟩ := hst
    refine zQ (zQ (zG (zR 2 rfl (zN (zU ?_)))))
    refine W.condD rfl (fun hc3 => ?_) (fun hc3 => ?_)
    ·try dsimp only at hc3
     have hk1 : 1 ≤ k := by omega
     refine zK (zU (zQ (zB (zG (zR 2 rfl ?_)))))
     refine WG.y rfl rfl qD (Yl.quo rfl rfl rfl (fun _ => rfl) qA (by intro _; omega)) ?_
     refine WG.y rfl rfl qD (Yl.convId tab_ok rfl rfl rfl rfl rfl rfl (fun _ => rfl) (by intro _; (try dsimp only); first | exact u64_id ⟨by omega, by omega⟩ | exact i64_wrap ⟨by omega, by omega⟩ | exact u8_id ⟨by omega, by omega⟩)) ?_
     refine WG.y rfl rfl qD (Yl.addB rfl rfl rfl (fun _ => rfl) qA) ?_
     rw [show (48 : Int) + (k : Int) / 10 = ((UInt8.ofNat (48 + k / 10)).toNat : Int) from by rw [← u8_48 (show k / 10 ≤ 9 by omega)]; omega]
     refine zR 1 rfl ?_
     refine WG.y rfl rfl qD (Yl.rem rfl rfl rfl (fun _ => rfl) qN qN) ?_
     refine WG.y rfl rfl qD (Yl.convId tab_ok rfl rfl rfl rfl rfl rfl (fun _ => rfl) (by intro _; (try dsimp only); first | exact u64_id ⟨by omega, by omega⟩ | exact i64_wrap ⟨by omega, by omega⟩ | exact u8_id ⟨by omega, by omega⟩)) ?_
     refine WG.y rfl rfl qD (Yl.addB rfl rfl rfl (fun _ => rfl) qA) ?_
     rw [show (48 : Int) + (k : Int) % 10 = ((UInt8.ofNat (48 + k % 10)).toNat : Int) from by rw [← u8_48 (show k % 10 ≤ 9 by omega)]; omega]
     refine WL.ef rfl rfl qD (Ef.buildSliceD (enc := encY) (parts := [.tmp 112, .tmp 116]) [UInt8.ofNat (48 + k / 10), UInt8.ofNat (48 + k % 10)] tab_ok rfl rfl rfl rfl rfl rfl rfl rfl qD qD (fun a117 => ?_))
     refine WG.y rfl rfl qD (Yl.bytesStr (l := [UInt8.ofNat (48 + k / 10), UInt8.ofNat (48 + k % 10)]) 0 tab_ok rfl rfl rfl rfl rfl rfl rfl rfl rfl rfl (Nat.succ_pos _) (fun _ => rfl)) ?_
     refine WG.y rfl rfl qD (Yl.catS rfl rfl rfl (fun _ => rfl) (by intro _; (show 1 + 2 ≤ _; decide))) ?_
     refine WL.ef rfl rfl qD (Ef.buildSliceD (enc := encI) (parts := [.const (.int .i64 0)]) [_] tab_ok rfl rfl rfl rfl rfl rfl rfl rfl qD qD (fun a120 => ?_))
     refine WL.freeze (enc := encI) (xs := [0]) 0 rfl ?_
     intro Rn hRn hin
     -- build
     refine WG.y rfl rfl qD (Yl.build (parts := [(0, .tmp 120), (1, .const (.int .i64 1)), (2, .const (.int .i64 1))]) tab_ok rfl rfl rfl rfl (fun _ => rfl) rfl rfl) ?_
     -- build
     refine WG.y rfl rfl qD (Yl.build (parts := [(0, .tmp 119), (1, .tmp 121)]) tab_ok rfl rfl rfl rfl (fun _ => rfl) rfl rfl) ?_
     refine WL.ef rfl rfl qD (Ef.buildSliceD (enc := encNm) (parts := [.tmp 122]) [⟨manyN k, ⟨some ⟨a120, 0, none⟩, 1, ⟨[0], 1, 1⟩⟩⟩] tab_ok rfl rfl rfl rfl rfl rfl rfl rfl qD qD (fun a123 => ?_))
     first | refine WL.ef rfl rfl (by decide) (Ef.appendD (enc := encNm) 2 0 tab_ok rfl rfl rfl rfl rfl rfl rfl rfl rfl rfl rfl (fun _ _ => rfl) (by dsimp only; simp only [List.length_cons, List.length_nil]; omega) (by simp only [List.length_cons, List.length_nil]; omega) (fun a124 c124 ha124 => ?_)) | refine WL.ef rfl rfl (by decide) (Ef.appendD (enc := encNm) 1 0 tab_ok rfl rfl rfl rfl rfl rfl rfl rfl rfl rfl rfl (fun _ _ => rfl) (by dsimp only; simp only [List.length_cons, List.length_nil]; omega) (by simp only [List.length_cons, List.length_nil]; omega) (fun a124 c124 ha124 => ?_)) | refine WL.ef rfl rfl (by decide) (Ef.appendD (enc := encNm) 3 0 tab_ok rfl rfl rfl rfl rfl rfl rfl rfl rfl rfl rfl (fun _ _ => rfl) (by dsimp only; simp only [List.length_cons, List.length_nil]; omega) (by simp only [List.length_cons, List.length_nil]; omega) (fun a124 c124 ha124 => ?_))
     refine zR 1 rfl (zN (zL (zU (zG (zR 1 rfl ?_)))))
     refine yS ?_
     refine zR 1 rfl (zN ?_)
     refine WE.again ((lm ++ [⟨manyN k, ⟨some ⟨a120, 0, none⟩, 1, ⟨[0], 1, 1⟩⟩⟩], k - 1, a124, c124, Rn)) (⟨fun x hx => by
      rcases List.mem_append.1 hx with h | h
      ·exact ⟨(hom x h).1.mono hRn, (hom x h).2⟩
      ·rw [List.mem_singleton.1 h]
       exact ⟨⟨hin, Nat.le_refl 1, by show 3 ≤ _; decide⟩, by show 1 ≤ 1000; decide⟩, hRk2.trans hRn, by (try dsimp only); rw [List.length_append]; exact (show lm.length + 1 + (k - 1) ≤ 41 by omega)⟩) (by show k - 1 < k; omega) ⟨rfl, vint (by show (k : Int) - 1 = ((k - 1 : Nat) : Int); omega), rfl, rfl, rfl, rfl, rfl, rfl, rfl⟩ (RLe.refl _) qS
    ·try dsimp only at hc3
     refine zX ?_
     refine wx (wx (zY (zU (zQ ?_))))
     refine W.cap 0 rfl ?_
     intro hclm
     rw [List.length_map] at hclm
     refine W.freeze (enc := encNm) (xs := lm) 0 rfl ?_
     intro R6 hR6 hlm
     have hR56 := hRk2.trans hR6
     have hG := hG.mono hR56
     have hrl := hrl.mono hR56
     have hl1 := hl1.mono hR56
     have hlo := hlo.mono hR56
     have hro : ∀ x ∈ rl, OkNm R6 x ∧ x.c.cv.vals.length ≤ 1000 := fun x hx => ⟨(hro x hx).1.mono hR56, (hro x hx).2⟩
     have hol : ∀ x ∈ l, OkNm R6 x ∧ x.c.cv.vals.length ≤ 1000 := fun x hx => ⟨(hol x hx).1.mono hR56, (hol x hx).2⟩
     have hoo : ∀ x ∈ lo, OkNm R6 x ∧ x.c.cv.vals.length ≤ 1000 := fun x hx => ⟨(hoo x hx).1.mono hR56, (hoo x hx).2⟩
     have hom : ∀ x ∈ lm, OkNm R6 x ∧ x.c.cv.vals.length ≤ 1000 := fun x hx => ⟨(hom x hx).1.mono hR6, (hom x hx).2⟩
     have hRR := hRR.trans hR56
     refine zQ (zG (zR 4 rfl ?_))
     refine WL.ef rfl rfl qD (Ef.buildSliceD (enc := encSl (α := NmS)) (parts := [.tmp 125, .tmp 126, .tmp 127, .tmp 128]) [(⟨la, lc, rl⟩ : SlA NmS), ⟨al, cl, l⟩, ⟨a72, c72, lo⟩, ⟨a16, c16, lm⟩] tab_ok rfl rfl rfl rfl rfl rfl rfl rfl qD qD (fun a129 => ?_))
     refine WL.freeze (enc := encSl (α := NmS)) 0 rfl ?_
     intro R7 hR7 htx0
     obtain ⟨tx, htx0, htxl, htx⟩ : ∃ tx : List (SlA NmS), K.RS R7 1 encSl (some ⟨a129, 0, none⟩) tx ∧ tx.length = 4 ∧ ∀ s ∈ tx, K.RS R7 4 encNm s.a s.xs ∧ s.xs.length ≤ s.cap ∧ ∀ x ∈ s.xs, OkNm R7 x ∧ x.c.cv.vals.length ≤ 1000 := ⟨_, htx0, rfl, by
      simp only [List.mem_cons, List.not_mem_nil, or_false, forall_eq_or_imp, forall_eq]
      exact ⟨⟨hrl.mono hR7, hrc, fun x hx => ⟨(hro x hx).1.mono hR7, (hro x hx).2⟩⟩, ⟨hl1.mono hR7, hcl, fun x hx => ⟨(hol x hx).1.mono hR7, (hol x hx).2⟩⟩, ⟨hlo.mono hR7, hclo, fun x hx => ⟨(hoo x hx).1.mono hR7, (hoo x hx).2⟩⟩, ⟨hlm.mono hR7, hclm, fun x hx => ⟨(hom x hx).1.mono hR7, (hom x hx).2⟩⟩⟩⟩
     have hG := hG.mono hR7
     have hl1 := hl1.mono hR7
     have hlm := hlm.mono hR7
     have hol : ∀ x ∈ l, OkNm R7 x ∧ x.c.cv.vals.length ≤ 1000 := fun x hx => ⟨(hol x hx).1.mono hR7, (hol x hx).2⟩
     have hom : ∀ x ∈ lm, OkNm R7 x ∧ x.c.cv.vals.length ≤ 1000 := fun x hx => ⟨(hom x hx).1.mono hR7, (hom x hx).2⟩
     have hRR := hRR.trans hR7
     refine zR 2 rfl (zN (zU (zB ?_)))
     refine W.loopR (β := Nat × Ro) (fun (j, Rk3) => j ≤ tx.length ∧ RLe R7 Rk3) (fun (j, Rk3) => [(131, true, .int .i64 (j : Int))]) [1, 3, 4, 13, 16, 129, 130] [_, _, _, _, _, _, _] [] _ rfl (fun (j, Rk3) => []) (fun (j, Rk3) => Rk3) (fun (j, Rk3) => tx.length - j) ((0, R7)) (⟨Nat.zero_le _, RLe.refl _⟩) ⟨rfl, rfl, rfl, rfl, rfl, rfl, rfl, rfl, rfl⟩ (RLe.refl _) qS ?_
     intro zz hst
     obtain ⟨j, Rk3⟩ := zz
     dsimp only [zipE, setAll, List.cons_append, List.nil_append, List.set_cons_zero, List.set_cons_succ] at hst ⊢
     obtain ⟨hj, hRk3⟩ := hst
     have htx0 := htx0.mono hRk3
     have hG := hG.mono hRk3
     have hl1 := hl1.mono hRk3
     have hlm := hlm.mono hRk3
     have hol : ∀ x ∈ l, OkNm Rk3 x ∧ x.c.cv.vals.length ≤ 1000 := fun x hx => ⟨(hol x hx).1.mono hRk3, (hol x hx).2⟩
     have hom : ∀ x ∈ lm, OkNm Rk3 x ∧ x.c.cv.vals.length ≤ 1000 := fun x hx => ⟨(hom x hx).1.mono hRk3, (hom x hx).2⟩
     have htx : ∀ s ∈ tx, K.RS Rk3 4 encNm s.a s.xs ∧ s.xs.length ≤ s.cap ∧ ∀ x ∈ s.xs, OkNm Rk3 x ∧ x.c.cv.vals.length ≤ 1000 := fun s hs => ⟨(htx s hs).1.mono hRk3, (htx s hs).2.1, fun x hx => ⟨((htx s hs).2.2 x hx).1.mono hRk3, ((htx s hs).2.2 x hx).2⟩⟩
     refine zQ (zG (zR 1 rfl (zN (zU (zQ ?_)))))
     refine W.condD rfl (fun hc4 => ?_) (fun hc4 => ?_)
     ·try dsimp only at hc4
      have hjl : j < tx.length := by omega
      have hX := htx _ (nth_mem hjl)
      generalize hxx : nth tx j = X at hX
      refine zK (zU (zQ (zB (zQ (zG ?_)))))
      refine WG.y rfl rfl (by decide) (Yl.indexN tab_ok rfl rfl rfl rfl rfl rfl (fun _ => rfl) (by intro _; (try dsimp only) <;> omega) (by intro _; first | exact (by rw [← hlol]; exact HasMem.ownD 1 rfl) | exact qI)) ?_
      refine' WG.y rfl rfl qD (Yl.load1 tab_ok rfl rfl rfl (fun _ => rfl) ?r2 rfl ?h2) ?_
      case r2 => exact RS.rdD htx0 qO
      case h2 => rfl
      rw [hxx]
      refine zR 1 rfl (zN (zU (zQ (zG (zR 1 rfl ?_)))))
      refine WG.callV en24 rfl rfl qD (CallOp.mk' rfl rfl rfl rfl) (fun _ => rfl) (fun hg => Fall03_V hX.1 hX.2.1 hX.2.2 hG) ?_
      refine zR 5 rfl (zN (zU (zQ (zG (zR 1 rfl ?_)))))
      refine WG.callV en25 rfl rfl qD (CallOp.mk' rfl rfl rfl rfl) (fun _ => rfl) (fun hg => RFall03_V hX.1 hX.2.1 hX.2.2) ?_
      refine zR 5 rfl (zN (zU (zQ (zG (zR 1 rfl ?_)))))
      refine WL.call en26 rfl rfl qD (CallOp.mkT rfl rfl rfl rfl) (Find03_C (n := [114, 97, 116, 101]) (LsN.ro hX.1) rfl hX.2.2 w0) ?_
      rintro _ R8 _ hR8 ⟨f8, k8, rfl, hf8, _, hsb8⟩
      refine WL.subE hsb8 ?_
      refine zR 3 rfl ?_
      refine zA fun b24 => ?_
      first | refine WL.efN rfl rfl (Ef.store0 0 tab_ok rfl rfl rfl rfl rfl rfl rfl rfl ?_) | refine WL.efN rfl rfl (Ef.store0 1 tab_ok rfl rfl rfl rfl rfl rfl rfl rfl ?_) | refine WL.efN rfl rfl (Ef.store0 2 tab_ok rfl rfl rfl rfl rfl rfl rfl rfl ?_) | refine WL.efN rfl rfl (Ef.store0 3 tab_ok rfl rfl rfl rfl rfl rfl rfl rfl ?_) | refine WL.efN rfl rfl (Ef.store0 4 tab_ok rfl rfl rfl rfl rfl rfl rfl rfl ?_) | refine WL.efN rfl rfl (Ef.store0 5 tab_ok rfl rfl rfl rfl rfl rfl rfl rfl ?_) | refine WL.efN rfl rfl (Ef.store0 6 tab_ok rfl rfl rfl rfl rfl rfl rfl rfl ?_)
      refine zR 1 rfl (zN (zU (zQ (zG (zR 1 rfl ?_)))))
      refine WL.call en27 rfl rfl qD (CallOp.mkT rfl rfl rfl rfl) (RFind03_C (n := [114, 97, 116, 101]) (LsN.ro (hX.1.mono hR8)) rfl (fun x hx => ⟨(hX.2.2 x hx).1.mono hR8, (hX.2.2 x hx).2⟩) w0) ?_
      rintro _ R9 _ hR9 ⟨f9, k9, rfl, hf9, _, hsb9⟩
      refine WL.subE hsb9 ?_
      have hf8 := hf8.mono hR9
      generalize findNm (X.xs.map NmS.p) [114, 97, 116, 101] = q at hf8 hf9 ⊢
      refine zR 3 rfl ?_
      refine zA fun b26 => ?_
      first | refine WL.efN rfl rfl (Ef.store0 0 tab_ok rfl rfl rfl rfl rfl rfl rfl rfl ?_) | refine WL.efN rfl rfl (Ef.store0 1 tab_ok rfl rfl rfl rfl rfl rfl rfl rfl ?_) | refine WL.efN rfl rfl (Ef.store0 2 tab_ok rfl rfl rfl rfl rfl rfl rfl rfl ?_) | refine WL.efN rfl rfl (Ef.store0 3 tab_ok rfl rfl rfl rfl rfl rfl rfl rfl ?_) | refine WL.efN rfl rfl (Ef.store0 4 tab_ok rfl rfl rfl rfl rfl rfl rfl rfl ?_) | refine WL.efN rfl rfl (Ef.store0 5 tab_ok rfl rfl rfl rfl rfl rfl rfl rfl ?_) | refine WL.efN rfl rfl (Ef.store0 6 tab_ok rfl rfl rfl rfl rfl rfl rfl rfl ?_)
      refine zR 1 rfl (zN (zU (zQ (zG (zR 2 rfl ?_)))))
      refine WG.y rfl rfl qD (Yl.neS rfl rfl rfl (fun _ => rfl)) ?_
      refine zR 1 rfl ?_
      refine yP ?_
      refine yP ?_
      refine yP ?_
      refine yO ?_
      refine zR 1 rfl ?_
      refine' WG.y rfl rfl qD (Yl.loadG tab_ok rfl rfl rfl qE ?r3 rfl ?h3 ?g3) ?_
      case r3 => (first | exact Rd.blkC 0 rfl | exact Rd.blkC 1 rfl | exact Rd.blkC 2 rfl | exact Rd.blkC 3 rfl | exact Rd.blkC 4 rfl | exact Rd.blkC 5 rfl | exact Rd.blkC 6 rfl)
      case h3 => rfl
      case g3 => first | exact fun _ => trivial | (intro hg; (try simp only [zk] at hg); (try dsimp only); omega)
      refine' WG.y rfl rfl qD (Yl.loadG tab_ok rfl rfl rfl qE ?r4 rfl ?h4 ?g4) ?_
      case r4 => (first | exact Rd.blkC 0 rfl | exact Rd.blkC 1 rfl | exact Rd.blkC 2 rfl | exact Rd.blkC 3 rfl | exact Rd.blkC 4 rfl | exact Rd.blkC 5 rfl | exact Rd.blkC 6 rfl)
      case h4 => rfl
      case g4 => first | exact fun _ => trivial | (intro hg; (try simp only [zk] at hg); (try dsimp only); omega)
      refine WG.callV (v := .bool true) en18 rfl rfl (by decide) (CallOp.mk' rfl rfl rfl rfl) qE (fun hg => by have h := Same02_V (ca := k8) (cb := k9) (p1 := q.1.per) (i1 := q.1.inc) (p2 := q.1.per) (i2 := q.1.inc) hf8 hf9; rw [decide_eq_true ⟨rfl, rfl, rfl⟩] at h; exact h) ?_
      refine yP ?_
      refine yO ?_
      refine zR 1 rfl ?_
      refine yP ?_
      refine yP ?_
      refine yP ?_
      refine yO ?_
      refine zN (zU ?_)
      refine W.cond rfl (fun hc5 => ?_) (fun hc5 => ?_)
      ·try simp only [zk] at hc5
       first | (simp at hc5; done) | exact absurd hc5 (by decide)
      ·try simp only [zk] at hc5
       refine zK (zL (zU (zG ?_)))
       refine yA ?_
       refine zR 1 rfl (zN ?_)
       refine WE.again ((j + 1, R9)) (⟨by (try dsimp only); omega, hRk3.trans (hR8.trans hR9)⟩) (by (try dsimp only); omega) ⟨rfl, rfl, rfl, rfl, rfl, rfl, rfl, rfl, rfl⟩ (RLe.refl _) qS
     ·try dsimp only at hc4
      refine zX ?_
      refine wx (wx (zY (zU (zQ (zG (zR 1 rfl ?_))))))
      refine WG.callV (v := .tuple #[.string (str (formatAllR (l.map NmS.p)).1), .int .i64 (formatAllR (l.map NmS.p)).2]) en25 rfl rfl qD (CallOp.mk' rfl rfl rfl rfl) (fun _ => rfl) (fun hg => RFall03_V hl1 hcl hol) ?_
      refine zR 1 rfl ?_
      have hwl := fallR_len (l.map NmS.p)
      generalize (formatAllR (l.map NmS.p)).1 = wh at hwl ⊢
      have hws := str_size wh
      refine zR 4 rfl (zN (zU (zQ (zG (zR 4 rfl ?_)))))
      obtain ⟨m, hm, hml⟩ : ∃ m : Nat, (if (40 : Int) < (lm.length : Int) then (40 : Int) else (lm.length : Int)) = (m : Int) ∧ m ≤ lm.length := by
       split
       ·exact ⟨40, rfl, by omega⟩
       ·exact ⟨lm.length, rfl, Nat.le_refl _⟩
      rw [hm]
      refine WG.y rfl rfl qD (Yl.sliceH tab_ok rfl rfl rfl rfl rfl (fun _ => rfl) (by intro _; (constructor <;> omega)) rfl) ?_
      refine WG.callV (v := .tuple #[.string (str (formatAllR ((lm.take m).map NmS.p)).1), .int .i64 (formatAllR ((lm.take m).map NmS.p)).2]) en25 rfl rfl qD (CallOp.mk' rfl rfl rfl rfl) (fun _ => rfl) (fun hg => by
       have h := RFall03_V (lc := c16) (hlm.take m) (by rw [List.length_take]; omega) (fun x hx => hom x (List.mem_of_mem_take hx))
       rw [show (lm.take m).length = m from by rw [List.length_take]; omega] at h
       exact h) ?_
      refine zR 1 rfl ?_
      have hfl := fallR_len ((lm.take m).map NmS.p)
      generalize (formatAllR ((lm.take m).map NmS.p)).1 = fu at hfl ⊢
      refine zR 4 rfl (zN (zU (zQ (zG (zR 1 rfl ?_)))))
      refine WL.ef rfl rfl qD (Ef.bytesOf tab_ok rfl rfl rfl rfl rfl rfl rfl rfl (fun b31 c31 m31 => ?_))
      refine zR 1 rfl (zN (zU ?_))
      refine W.seqCut (β := List UInt8) (fun st => st.length = wh.length) (fun st => [(1, true, .string (str text)), (28, true, .string (str wh)), (30, true, .string (str fu)), (32, true, .slice (some ⟨b31, 0, none⟩) wh.length c31)]) (fun _ => Rk3) (fun st => [byB b31 5 st m31]) ?_ ?_
      ·
       intro st hst
       have hsl : st.length = wh.length := hst
       refine zQ (zQ (zG (zR 3 rfl ?_)))
       refine WG.y rfl rfl qD (Yl.bytesB (l := st) 0 tab_ok rfl rfl rfl rfl rfl rfl rfl rfl rfl qO (fun _ => rfl)) ?_
       refine zR 2 rfl ?_
       refine WG.y rfl rfl (by decide) (Yl.catS rfl rfl rfl (fun _ => rfl) (by intro _; ((try simp only [List.length_append, List.length_cons, List.length_nil]); omega))) ?_
       refine zR 2 rfl ?_
       refine WG.y rfl rfl (by decide) (Yl.catS rfl rfl rfl (fun _ => rfl) (by intro _; ((try simp only [List.length_append, List.length_cons, List.length_nil]); omega))) ?_
       refine zR 1 rfl ?_
       refine WG.y rfl rfl (by decide) (Yl.catS rfl rfl rfl (fun _ => rfl) (by intro _; ((try simp only [List.length_append, List.length_cons, List.length_nil]); omega))) ?_
       refine zR 1 rfl ?_
       refine WG.y rfl rfl (by decide) (Yl.catS rfl rfl rfl (fun _ => rfl) (by intro _; ((try simp only [List.length_append, List.length_cons, List.length_nil]); omega))) ?_
       refine zR 1 rfl ?_
       refine WL.ef rfl rfl qD (Ef.buildSliceD (enc := encT) (parts := [.tmp 201, .tmp 202, .tmp 204, .tmp 207, .tmp 210, .tmp 212, .tmp 214, .tmp 215, .const (.string ⟨#[120, 32, 61, 32, 32, 48, 32, 112, 101, 114, 32, 49, 32, 105, 110, 99, 32, 49, 10]⟩)]) [text, wh, st, wh ++ wh, wh ++ text, wh ++ [120, 32, 61, 32, 48, 32, 112, 101, 114, 32, 49, 32, 105, 110, 99, 32, 49], fu ++ [120, 32, 61, 32, 48, 32, 112, 101, 114, 32, 49, 32, 105, 110, 99, 32, 49, 10], fu, [120, 32, 61, 32, 32, 48, 32, 112, 101, 114, 32, 49, 32, 105, 110, 99, 32, 49, 10]] tab_ok rfl rfl rfl rfl rfl rfl rfl rfl qD qD (fun a216 => ?_))
       refine WL.freeze (enc := encT) (xs := [text, wh, st, wh ++ wh, wh ++ text, wh ++ [120, 32, 61, 32, 48, 32, 112, 101, 114, 32, 49, 32, 105, 110, 99, 32, 49], fu ++ [120, 32, 61, 32, 48, 32, 112, 101, 114, 32, 49, 32, 105, 110, 99, 32, 49, 10], fu, [120, 32, 61, 32, 32, 48, 32, 112, 101, 114, 32, 49, 32, 105, 110, 99, 32, 49, 10]]) 0 rfl ?_
       intro Rq hRq hty
       have hty2 : ∀ t ∈ ([text, wh, st, wh ++ wh, wh ++ text, wh ++ [120, 32, 61, 32, 48, 32, 112, 101, 114, 32, 49, 32, 105, 110, 99, 32, 49], fu ++ [120, 32, 61, 32, 48, 32, 112, 101, 114, 32, 49, 32, 105, 110, 99, 32, 49, 10], fu, [120, 32, 61, 32, 32, 48, 32, 112, 101, 114, 32, 49, 32, 105, 110, 99, 32, 49, 10]] : List (List UInt8)), t.length ≤ 8100 := by
        simp only [List.mem_cons, List.not_mem_nil, or_false, forall_eq_or_imp, forall_eq]
        refine ⟨by omega, by omega, by omega, by rw [List.length_append]; omega, by rw [List.length_append]; omega, by rw [List.length_append]; show _ + 17 ≤ _; omega, by rw [List.length_append]; show _ + 18 ≤ _; omega, by omega, by decide⟩
       have htn2 : ([text, wh, st, wh ++ wh, wh ++ text, wh ++ [120, 32, 61, 32, 48, 32, 112, 101, 114, 32, 49, 32, 105, 110, 99, 32, 49], fu ++ [120, 32, 61, 32, 48, 32, 112, 101, 114, 32, 49, 32, 105, 110, 99, 32, 49, 10], fu, [120, 32, 61, 32, 32, 48, 32, 112, 101, 114, 32, 49, 32, 105, 110, 99, 32, 49, 10]] : List (List UInt8)).length = 9 := rfl
       generalize ([text, wh, st, wh ++ wh, wh ++ text, wh ++ [120, 32, 61, 32, 48, 32, 112, 101, 114, 32, 49, 32, 105, 110, 99, 32, 49], fu ++ [120, 32, 61, 32, 48, 32, 112, 101, 114, 32, 49, 32, 105, 110, 99, 32, 49, 10], fu, [120, 32, 61, 32, 32, 48, 32, 112, 101, 114, 32, 49, 32, 105, 110, 99, 32, 49, 10]] : List (List UInt8)) = ty at hty hty2 htn2 ⊢
       have hG := hG.mono hRq
       refine zR 2 rfl (zN (zU (zB ?_)))
       refine W.loopR (β := Nat × Ro) (fun (t, Rk4) => t ≤ ty.length ∧ RLe Rq Rk4) (fun (t, Rk4) => [(218, true, .int .i64 (t : Int))]) [216, 217] [_, _] [] _ rfl (fun (t, Rk4) => []) (fun (t, Rk4) => Rk4) (fun (t, Rk4) => ty.length - t) ((0, Rq)) (⟨Nat.zero_le _, RLe.refl _⟩) ⟨rfl, rfl, rfl, rfl⟩ (RLe.refl _) qS ?_
       intro zz hst
       obtain ⟨t, Rk4⟩ := zz
       dsimp only [zipE, setAll, List.cons_append, List.nil_append, List.set_cons_zero, List.set_cons_succ] at hst ⊢
       obtain ⟨ht, hRk4⟩ := hst
       have hty := hty.mono hRk4
       have hG := hG.mono hRk4
       refine zQ (zG (zR 1 rfl (zN (zU (zQ ?_)))))
       refine W.condD rfl (fun hc6 => ?_) (fun hc6 => ?_)
       ·try dsimp only at hc6
        have htl2 : t < ty.length := by omega
        have htt := hty2 _ (nth_mem htl2)
        refine zK (zU (zQ (zB (zQ (zG ?_)))))
        refine WG.y rfl rfl (by decide) (Yl.indexN tab_ok rfl rfl rfl rfl rfl rfl (fun _ => rfl) (by intro _; (try dsimp only) <;> omega) (by intro _; first | exact (by rw [← hlol]; exact HasMem.ownD 1 rfl) | exact qI)) ?_
        refine' WG.y rfl rfl qD (Yl.load1 tab_ok rfl rfl rfl (fun _ => rfl) ?r5 rfl ?h5) ?_
        case r5 => exact RS.rdD hty qO
        case h5 => rfl
        refine zR 1 rfl (zN (zU (zQ (zG (zR 1 rfl ?_)))))
        refine WL.call en28 rfl rfl qD (CallOp.mkT rfl rfl rfl rfl) (PAll03_C (s := nth ty t) hG qO w0 _) ?_
        rintro _ R8 _ hR8 ⟨g8, j8, l8, rfl, hl8, hc8, ho8, he8, hsb8⟩
        refine WL.subE hsb8 ?_
        refine zR 9 rfl (zN (zU (zQ (zG (zR 1 rfl ?_)))))
        refine WL.call en29 rfl rfl qD (CallOp.mkT rfl rfl rfl rfl) (RPAll03_C (s := nth ty t) qO w0 _) ?_
        rintro _ R9 _ hR9 ⟨g9, j9, l9, rfl, hl9, hc9, ho9, he9, hsb9⟩
        refine WL.subE hsb9 ?_
        have hl8 := hl8.mono hR9
        have ho8 : ∀ x ∈ l8, OkNm R9 x ∧ x.c.cv.vals.length ≤ 1000 := fun x hx => ⟨(ho8 x hx).1.mono hR9, (ho8 x hx).2⟩
        generalize parseAllR (nth ty t) = q at he8 he9 ⊢
        refine zR 9 rfl (zN (zU (zQ (zG (zR 2 rfl ?_)))))
        refine WG.callV (v := .bool true) en30 rfl rfl qD (CallOp.mk' rfl rfl rfl rfl) (fun _ => rfl) (fun hg => SameN_V (ld := j9) hl8 hl9 (fun x hx => (ho8 x hx).1) (fun x hx => (ho9 x hx).1) (he8.trans he9.symm)) ?_
        refine zR 2 rfl ?_
        refine yP ?_
        refine yP ?_
        refine yP ?_
        refine yO ?_
        refine zR 1 rfl ?_
        refine yP ?_
        refine yP ?_
        refine yP ?_
        refine yO ?_
        refine zR 1 rfl ?_
        refine yP ?_
        refine yP ?_
        refine yP ?_
        refine yO ?_
        refine zN (zU ?_)
        refine W.cond rfl (fun hc7 => ?_) (fun hc7 => ?_)
        ·try simp only [zk] at hc7
         first | (simp at hc7; done) | exact absurd hc7 (by decide)
        ·try simp only [zk] at hc7
         refine zK (zL (zU (zG ?_)))
         refine yA ?_
         refine zR 1 rfl (zN ?_)
         refine WE.again ((t + 1, R9)) (⟨by (try dsimp only); omega, hRk4.trans (hR8.trans hR9)⟩) (by (try dsimp only); omega) ⟨rfl, rfl, rfl, rfl⟩ (RLe.refl _) qS
       ·try dsimp only at hc6
        refine zX ?_
        refine wx (wx (zY (zU (zQ (zG ?_)))))
        refine WL.call en7 rfl rfl qD (CallOp.mkT rfl rfl rfl rfl) (Awake03_C hG w0 _) ?_
        rintro _ R9 E9 hR9 ⟨rfl, hsub9⟩
        refine WL.subE hsub9 ?_
        refine zR 1 rfl (zN (zU (zT ?_)))
        refine WE.retF tab_ok [_] rfl ⟨rfl, trivial⟩ (by first | assumption | exact RLe.refl _ | exact hRR.trans (hRk3.trans (hRq.trans (hRk4.trans hR9)))) ?_
        exact rfl
      ·
       refine zQ (zG (zR 3 rfl (zN (zU ?_))))
       refine W.condD rfl (fun hc8 => ?_) (fun hc8 => ?_)
       ·try dsimp only at hc8
        obtain ⟨i, hi, hil⟩ : ∃ i : Nat, mod z (wh.length : Int) = (i : Int) ∧ i < wh.length := by
         have := mod_range z (show (1 : Int) ≤ (wh.length : Int) by omega)
         exact ⟨(mod z (wh.length : Int)).toNat, by omega, by omega⟩
        refine zG (zR 4 rfl ?_)
        refine WG.callV (v := .int .i64 (i : Int)) en11 rfl rfl qD (CallOp.mk' rfl rfl rfl rfl) (fun _ => rfl) (fun hg => by
         have h := Mod_V (R := Rk3) (x := z) (n := (wh.length : Int)) (by constructor <;> omega)
         rw [hi] at h
         exact h) ?_
        refine zR 1 rfl ?_
        refine WG.y rfl rfl (by decide) (Yl.indexN tab_ok rfl rfl rfl rfl rfl rfl (fun _ => rfl) (by intro _; (try dsimp only) <;> omega) (by intro _; first | exact (by rw [← hlol]; exact HasMem.ownD 1 rfl) | exact qI)) ?_
        refine WL.efN rfl rfl (Ef.storeB (i := i) (c := v) (l := wh) 0 tab_ok rfl rfl rfl rfl rfl rfl qO ?_)
        refine zN ?_
        refine WE.cut (wh.set i v) (by rw [List.length_set]) ⟨rfl, rfl, rfl, rfl, rfl⟩ (RLe.refl _) qS
       ·try dsimp only at hc8
        refine zK ?_
        refine WE.cut wh rfl ⟨rfl, rfl, rfl, rfl, rfl⟩ (RLe.refl _) qS
   ·
    refine zQ (zG (zR 3 rfl (zN (zU ?_))))
    refine W.condD rfl (fun hc9 => ?_) (fun hc9 => ?_)
    ·try dsimp only at hc9
     refine zQ (zG (zR 3 rfl ?_))
     refine WL.callAt 1 en12 rfl rfl qD (CallOp.mkT rfl rfl rfl rfl) rfl (N_C w0 hz (by constructor <;> omega) _) ?_
     rintro _ _ _ _ - ⟨rfl, rfl, rfl, rfl⟩
     obtain ⟨i, hi, hil⟩ : ∃ i : Nat, mod (nth (xs.take 2000) n2) (l.length : Int) = (i : Int) ∧ i < l.length := by
      have := mod_range (nth (xs.take 2000) n2) (show (1 : Int) ≤ (l.length : Int) by omega)
      exact ⟨(mod (nth (xs.take 2000) n2) (l.length : Int)).toNat, by omega, by omega⟩
     rw [hi]
     refine zR 1 rfl (zN (zU (zQ (zG (zR 3 rfl ?_)))))
     refine WL.call en19 rfl rfl qD (CallOp.mkT rfl rfl rfl rfl) (Names03_C w0 _) ?_
     rintro _ _ _ - ⟨a83, rfl, rfl, rfl⟩
     refine WL.callAt 2 en23 rfl rfl qD (CallOp.mkT rfl rfl rfl rfl) rfl (Text_C (ys := nmL) (j := 0) w0 rfl hz rfl qD qD) ?_
     rintro v2 _ _ _ - ⟨hv2, rfl, rfl, rfl⟩
     obtain ⟨tn, rfl, htn⟩ : ∃ s, v2 = .string (str s) ∧ s.length ≤ 13 := ⟨_, hv2, nmL_any _⟩
     refine WG.y rfl rfl (by decide) (Yl.indexN tab_ok rfl rfl rfl rfl rfl rfl (fun _ => rfl) (by intro _; (try dsimp only) <;> omega) (by intro _; first | exact (by rw [← hlol]; exact HasMem.ownD 1 rfl) | exact qI)) ?_
     refine zR 1 rfl ?_
     refine WL.efN rfl rfl (Ef.storeF (enc := encNm) (xs := l) (⟨tn, (nth l i).c⟩ : NmS) 1 tab_ok rfl rfl rfl rfl rfl qO rfl rfl qD rfl ?_)
     have hoo : ∀ x ∈ l.set i ⟨tn, (nth l i).c⟩, OkNm R4 x ∧ x.c.cv.vals.length ≤ 1000 := set_ok hol ⟨⟨(hol _ (nth_mem hil)).1.1, (hol _ (nth_mem hil)).1.2.1, by dsimp only; omega⟩, (hol _ (nth_mem hil)).2⟩
     have hlol : (l.set i ⟨tn, (nth l i).c⟩).length = l.length := List.length_set
     have hloi : (nth (l.set i ⟨tn, (nth l i).c⟩) i).c = (nth l i).c := by rw [nth_eq (by omega), List.getElem_set_self]
     generalize l.set i ⟨tn, (nth l i).c⟩ = lo at hoo hlol hloi ⊢
     refine zN (zU (zQ (zG (zR 1 rfl ?_))))
     refine WL.callAt 2 en12 rfl rfl qD (CallOp.mkT rfl rfl rfl rfl) rfl (N_C w0 hz (by constructor <;> decide) _) ?_
     rintro _ _ _ _ - ⟨rfl, rfl, rfl, rfl⟩
     refine zR 1 rfl (zN (zU ?_))
     refine W.condE rfl (fun hc10 => ?_) (fun hc10 => ?_)
     ·try dsimp only at hc10
      have hvi : validB (nth lo i).c.cv = true := by rw [hloi]; exact hov _ (nth_mem hil)
      have hRi := (hoo _ (nth_mem (xs := lo) (k := i) (by omega))).1.1
      refine zG (zR 5 rfl ?_)
      refine WG.y rfl rfl (by decide) (Yl.indexN tab_ok rfl rfl rfl rfl rfl rfl (fun _ => rfl) (by intro _; (try dsimp only) <;> omega) (by intro _; first | exact (by rw [← hlol]; exact HasMem.ownD 1 rfl) | exact qI)) ?_
      refine zR 1 rfl ?_
      refine' WG.y rfl rfl qD (Yl.load1 tab_ok rfl rfl rfl (fun _ => rfl) ?r6 rfl ?h6) ?_
      case r6 => apply Rd.add; (first | (apply RS.rdD; assumption; ((try dsimp only) <;> omega)) | exact Rd.slD 0 rfl qX | exact Rd.slD 1 rfl qX | exact Rd.slD 2 rfl qX | exact Rd.slD 3 rfl qX | exact Rd.slD 4 rfl qX | exact Rd.slD 5 rfl qX | exact Rd.slD 6 rfl qX)
      case h6 => rfl
      refine WL.callAt 2 en15 rfl rfl qD (CallOp.mkT rfl rfl rfl rfl) rfl (Bent_C w0 hz hvi hRi _) ?_
      rintro _ Rb _ _ hRb ⟨f4, k4, n4, v4, rfl, hf4, hl4, hcp4, rfl, rfl⟩
      refine WG.y rfl rfl (by decide) (Yl.indexN tab_ok rfl rfl rfl rfl rfl rfl (fun _ => rfl) (by intro _; (try dsimp only) <;> omega) (by intro _; first | exact (by rw [← hlol]; exact HasMem.ownD 1 rfl) | exact qI)) ?_
      refine zR 1 rfl ?_
      refine WL.efN rfl rfl (Ef.storeF (enc := encNm) (xs := lo) (⟨(nth lo i).nm, ⟨f4, k4, v4⟩⟩ : NmS) 1 tab_ok rfl rfl rfl rfl rfl qO rfl rfl qD rfl ?_)
      refine zN ?_
      refine WE.cut (lo.set i ⟨(nth lo i).nm, ⟨f4, k4, v4⟩⟩, n4, Rb) ⟨by first | exact hlol | rfl | (rw [List.length_set]; exact hlol), set_ok (fun x hx => ⟨(hoo x hx).1.mono hRb, (hoo x hx).2⟩) ⟨⟨hf4, hcp4, (hoo _ (nth_mem (xs := lo) (k := i) (by omega))).1.2.2⟩, by dsimp only; omega⟩, hRb⟩ ⟨rfl, rfl, rfl, rfl, rfl, rfl, by rw [List.length_set, hlol]; rfl, rfl⟩ (RLe.refl _) qS
     ·try dsimp only at hc10
      refine zK ?_
      refine WE.cut (lo, n2 + 1 + 1 + 1, R4) ⟨by first | exact hlol | rfl | (rw [List.length_set]; exact hlol), hoo, RLe.refl _⟩ ⟨rfl, rfl, rfl, rfl, rfl, rfl, by rw [hlol]; rfl, rfl⟩ (RLe.refl _) qS
    ·try dsimp only at hc9
     refine zK ?_
     refine WE.cut (l, n2, R4) ⟨by first | exact hlol | rfl | (rw [List.length_set]; exact hlol), hol, RLe.refl _⟩ ⟨rfl, rfl, rfl, rfl, rfl, rfl, rfl, rfl⟩ (RLe.refl _) qS

end Go.Proofs.YtejpkjapmhpmpaaDoor
