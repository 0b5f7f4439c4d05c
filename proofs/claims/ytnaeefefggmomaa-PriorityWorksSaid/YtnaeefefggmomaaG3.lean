/- Rules and walks, joined from 15 texts: the first of them says: A trial. No condition. -/
import Derived.Test.YtnaeefefggmomaaG2
/- A trial. No condition. -/
set_option linter.unusedSimpArgs false
set_option linter.unusedVariables false
namespace Go.Proofs.Ytnaeefefggmomaa
open Go Go.RowKit Go.Proofs.Ytnaeefefggmomaa.K Go.Proofs.Ytnaeefefggmomaa.M

theorem First_C {R : Ro} {sb : Nat} {pa : Option Addr} {pc bg : Nat} {ps : List Pkt} {ms : MS} (w0 : World) (hp : RS R 3 encP pa ps) (hb : ms.begun.length = ps.length) (hbf : ms.before ≤ ps.length) (F : List Ent) :
    K.Fn Try.prog 111 [.pointer (some ⟨sb, 0, none⟩)] w0 R (stE sb pa ps.length pc bg ms :: .sl 4 1 (some ⟨bg, 0, none⟩) ps.length (ms.begun.map encB) :: F)
      (fun v R' E' => v = .int .i64 (firstR ps ms) ∧ R = R' ∧ E' = stE sb pa ps.length pc bg { ms with before := skipTo ms.begun ms.before } :: .sl 4 1 (some ⟨bg, 0, none⟩) ps.length (ms.begun.map encB) :: F) := by
  have hla := hp.len
  refine Fn.enter (n := 64) Try.func111 rfl rfl (Nat.le_of_ble_eq_true rfl) rfl ?_
  refine W.seq ?_
  refine W.region _ ?_
  refine WG.run tab_ok 1 rfl ?_
  refine WG.nil ?_
  refine WE.nxt ?_
  refine W.seq ?_
  refine W.block ?_
  refine W.loop (β := Nat) (fun k => k ≤ ps.length ∧ skipTo ms.begun k = skipTo ms.begun ms.before) (fun k => [(0, true, .pointer (some ⟨sb, 0, none⟩))]) (fun _ => R) (fun k => stE sb pa ps.length pc bg { ms with before := k } :: .sl 4 1 (some ⟨bg, 0, none⟩) ps.length (ms.begun.map encB) :: F) (fun k => ps.length - k) (ms.before) (⟨hbf, rfl⟩) ⟨rfl, rfl⟩ (RLe.refl _) (by (repeat (first | exact List.Sublist.refl _ | exact List.nil_sublist _ | apply List.Sublist.cons_cons | apply List.Sublist.cons)); done) ?_
  intro st hst
  obtain ⟨hk, hsk⟩ := hst
  refine W.seq ?_
  refine W.seq ?_
  refine W.regionQ _ mixed (by kernel_rfl) ?_
  refine WG.run tab_ok 3 rfl ?_
  refine' WG.y rfl rfl (by decide) (Yl.load1 tab_ok rfl rfl rfl (fun _ => rfl) ?r1 rfl ?h1) ?_
  case r1 => apply Rd.add; (first | exact Rd.blk 0 rfl | exact Rd.blk 1 rfl | exact Rd.blk 2 rfl | exact Rd.blk 3 rfl | exact Rd.blk 4 rfl | exact Rd.blk 5 rfl | exact Rd.blk 6 rfl | exact Rd.blk 7 rfl | (apply RS.rdD; assumption; ((try dsimp only) <;> omega)) | exact Rd.slD 0 rfl (by (try dsimp only) <;> omega) | exact Rd.slD 1 rfl (by (try dsimp only) <;> omega) | exact Rd.slD 2 rfl (by (try dsimp only) <;> omega) | exact Rd.slD 3 rfl (by (try dsimp only) <;> omega) | exact Rd.slD 4 rfl (by (try dsimp only) <;> omega) | exact Rd.slD 5 rfl (by (try dsimp only) <;> omega) | exact Rd.slD 6 rfl (by (try dsimp only) <;> omega) | exact Rd.slD 7 rfl (by (try dsimp only) <;> omega))
  case h1 => rfl
  refine WG.run tab_ok 3 rfl ?_
  refine' WG.y rfl rfl (by decide) (Yl.load1 tab_ok rfl rfl rfl (fun _ => rfl) ?r2 rfl ?h2) ?_
  case r2 => apply Rd.add; (first | exact Rd.blk 0 rfl | exact Rd.blk 1 rfl | exact Rd.blk 2 rfl | exact Rd.blk 3 rfl | exact Rd.blk 4 rfl | exact Rd.blk 5 rfl | exact Rd.blk 6 rfl | exact Rd.blk 7 rfl | (apply RS.rdD; assumption; ((try dsimp only) <;> omega)) | exact Rd.slD 0 rfl (by (try dsimp only) <;> omega) | exact Rd.slD 1 rfl (by (try dsimp only) <;> omega) | exact Rd.slD 2 rfl (by (try dsimp only) <;> omega) | exact Rd.slD 3 rfl (by (try dsimp only) <;> omega) | exact Rd.slD 4 rfl (by (try dsimp only) <;> omega) | exact Rd.slD 5 rfl (by (try dsimp only) <;> omega) | exact Rd.slD 6 rfl (by (try dsimp only) <;> omega) | exact Rd.slD 7 rfl (by (try dsimp only) <;> omega))
  case h2 => rfl
  refine WG.run tab_ok 3 rfl ?_
  refine WG.y rfl rfl (by decide) (pureV_ok tab_ok rfl (by first | exact fun _ => rfl | exact fun h => h | (intro h; simp_all))) ?_
  refine WG.y rfl rfl (by decide) (pureV_ok tab_ok rfl (by first | exact fun _ => rfl | exact fun h => h | (intro h; simp_all))) ?_
  refine WG.y rfl rfl (by decide) (pureV_ok tab_ok rfl (by first | exact fun _ => rfl | exact fun h => h | (intro h; simp_all))) ?_
  refine' WG.y rfl rfl (by decide) (Yl.loadG tab_ok rfl rfl rfl (by first | exact fun _ => rfl | exact fun h => h | (intro h; simp_all)) ?r3 rfl ?h3 ?g3) ?_
  case r3 => apply Rd.addC; (first | exact Rd.blkC 0 rfl | exact Rd.blkC 1 rfl | exact Rd.blkC 2 rfl | exact Rd.blkC 3 rfl | exact Rd.blkC 4 rfl | exact Rd.blkC 5 rfl | exact Rd.blkC 6 rfl | exact Rd.blkC 7 rfl | (apply RS.rdC; assumption) | exact Rd.slC 0 rfl | exact Rd.slC 1 rfl | exact Rd.slC 2 rfl | exact Rd.slC 3 rfl | exact Rd.slC 4 rfl | exact Rd.slC 5 rfl | exact Rd.slC 6 rfl | exact Rd.slC 7 rfl)
  case h3 => rfl
  case g3 => first | exact fun _ => trivial | (intro hg; (try simp only [decide_eq_true_eq, decide_eq_false_iff_not, beq_iff_eq, bne_iff_ne, beq_eq_false_iff_ne, bne_eq_false_iff_eq, ne_eq, Bool.or_eq_true, Bool.or_eq_false_iff, Bool.and_eq_true, Bool.and_eq_false_imp, Bool.not_eq_true, Bool.not_eq_true', Bool.not_eq_false', Classical.not_not, Int.not_lt, Int.not_le, gt_iff_lt, ge_iff_le] at hg); (try dsimp only); omega)
  refine WG.y rfl rfl (by decide) (pureV_ok tab_ok rfl (by first | exact fun _ => rfl | exact fun h => h | (intro h; simp_all))) ?_
  refine WG.y rfl rfl (by decide) (pureV_ok tab_ok rfl (by first | exact fun _ => rfl | exact fun h => h | (intro h; simp_all))) ?_
  refine WG.y rfl rfl (by decide) (pureV_ok tab_ok rfl (by first | exact fun _ => rfl | exact fun h => h | (intro h; simp_all))) ?_
  refine' WG.y rfl rfl (by decide) (Yl.loadG tab_ok rfl rfl rfl (by first | exact fun _ => rfl | exact fun h => h | (intro h; simp_all)) ?r4 rfl ?h4 ?g4) ?_
  case r4 => apply Rd.addC; (first | exact Rd.blkC 0 rfl | exact Rd.blkC 1 rfl | exact Rd.blkC 2 rfl | exact Rd.blkC 3 rfl | exact Rd.blkC 4 rfl | exact Rd.blkC 5 rfl | exact Rd.blkC 6 rfl | exact Rd.blkC 7 rfl | (apply RS.rdC; assumption) | exact Rd.slC 0 rfl | exact Rd.slC 1 rfl | exact Rd.slC 2 rfl | exact Rd.slC 3 rfl | exact Rd.slC 4 rfl | exact Rd.slC 5 rfl | exact Rd.slC 6 rfl | exact Rd.slC 7 rfl)
  case h4 => rfl
  case g4 => first | exact fun _ => trivial | (intro hg; (try simp only [decide_eq_true_eq, decide_eq_false_iff_not, beq_iff_eq, bne_iff_ne, beq_eq_false_iff_ne, bne_eq_false_iff_eq, ne_eq, Bool.or_eq_true, Bool.or_eq_false_iff, Bool.and_eq_true, Bool.and_eq_false_imp, Bool.not_eq_true, Bool.not_eq_true', Bool.not_eq_false', Classical.not_not, Int.not_lt, Int.not_le, gt_iff_lt, ge_iff_le] at hg); (try dsimp only); omega)
  refine WG.y rfl rfl (by decide) (Yl.indexN tab_ok rfl rfl rfl rfl rfl rfl (by first | exact fun _ => rfl | exact fun h => h | (intro h; simp_all)) (by intro hg; (try simp only [decide_eq_true_eq, decide_eq_false_iff_not, beq_iff_eq, bne_iff_ne, beq_eq_false_iff_ne, bne_eq_false_iff_eq, ne_eq, Bool.or_eq_true, Bool.or_eq_false_iff, Bool.and_eq_true, Bool.and_eq_false_imp, Bool.not_eq_true, Bool.not_eq_true', Bool.not_eq_false', Classical.not_not, Int.not_lt, Int.not_le, gt_iff_lt, ge_iff_le] at hg); (try dsimp only) <;> omega) (by intro hg; (try simp only [decide_eq_true_eq, decide_eq_false_iff_not, beq_iff_eq, bne_iff_ne, beq_eq_false_iff_ne, bne_eq_false_iff_eq, ne_eq, Bool.or_eq_true, Bool.or_eq_false_iff, Bool.and_eq_true, Bool.and_eq_false_imp, Bool.not_eq_true, Bool.not_eq_true', Bool.not_eq_false', Classical.not_not, Int.not_lt, Int.not_le, gt_iff_lt, ge_iff_le] at hg); first | exact fun _ _ _ _ => rfl | exact RS.has (by assumption) | exact fun _ _ _ _ => (by assumption) | exact HasMem.ownD 0 rfl | exact HasMem.ownD 1 rfl | exact HasMem.ownD 2 rfl | exact HasMem.ownD 3 rfl | exact HasMem.ownD 4 rfl | exact HasMem.ownD 5 rfl | exact HasMem.ownD 6 rfl | exact HasMem.ownD 7 rfl)) ?_
  refine' WG.y rfl rfl (by decide) (Yl.loadG tab_ok rfl rfl rfl (by first | exact fun _ => rfl | exact fun h => h | (intro h; simp_all)) ?r5 rfl ?h5 ?g5) ?_
  case r5 => (first | (apply RS.rdC; assumption) | exact Rd.slC 0 rfl | exact Rd.slC 1 rfl | exact Rd.slC 2 rfl | exact Rd.slC 3 rfl | exact Rd.slC 4 rfl | exact Rd.slC 5 rfl | exact Rd.slC 6 rfl | exact Rd.slC 7 rfl)
  case h5 => rfl
  case g5 => first | exact fun _ => trivial | (intro hg; (try simp only [decide_eq_true_eq, decide_eq_false_iff_not, beq_iff_eq, bne_iff_ne, beq_eq_false_iff_ne, bne_eq_false_iff_eq, ne_eq, Bool.or_eq_true, Bool.or_eq_false_iff, Bool.and_eq_true, Bool.and_eq_false_imp, Bool.not_eq_true, Bool.not_eq_true', Bool.not_eq_false', Classical.not_not, Int.not_lt, Int.not_le, gt_iff_lt, ge_iff_le] at hg); (try dsimp only); omega)
  refine WG.y rfl rfl (by decide) (Yl.pand rfl rfl rfl (fun _ => rfl) (by intro h1 h2; simp_all <;> omega)) ?_
  refine WG.nil ?_
  refine WE.nxt ?_
  refine W.cond rfl (fun hc0 => ?_) (fun hc0 => ?_)
  · try simp only [decide_eq_true_eq, decide_eq_false_iff_not, beq_iff_eq, bne_iff_ne, beq_eq_false_iff_ne, bne_eq_false_iff_eq, ne_eq, Bool.or_eq_true, Bool.or_eq_false_iff, Bool.and_eq_true, Bool.and_eq_false_imp, Bool.not_eq_true, Bool.not_eq_true', Bool.not_eq_false', Classical.not_not, Int.not_lt, Int.not_le, gt_iff_lt, ge_iff_le] at hc0
    obtain ⟨hc1, hc2⟩ := hc0
    have hs := skipTo_true (l := ms.begun) (b := st) (by omega) hc2
    refine W.skip ?_
    refine WE.nxt ?_
    refine W.block ?_
    refine W.region _ ?_
    refine WG.run tab_ok 3 rfl ?_
    refine' WG.y rfl rfl (by decide) (Yl.load1 tab_ok rfl rfl rfl (fun _ => rfl) ?r6 rfl ?h6) ?_
    case r6 => apply Rd.add; (first | exact Rd.blk 0 rfl | exact Rd.blk 1 rfl | exact Rd.blk 2 rfl | exact Rd.blk 3 rfl | exact Rd.blk 4 rfl | exact Rd.blk 5 rfl | exact Rd.blk 6 rfl | exact Rd.blk 7 rfl | (apply RS.rdD; assumption; ((try dsimp only) <;> omega)) | exact Rd.slD 0 rfl (by (try dsimp only) <;> omega) | exact Rd.slD 1 rfl (by (try dsimp only) <;> omega) | exact Rd.slD 2 rfl (by (try dsimp only) <;> omega) | exact Rd.slD 3 rfl (by (try dsimp only) <;> omega) | exact Rd.slD 4 rfl (by (try dsimp only) <;> omega) | exact Rd.slD 5 rfl (by (try dsimp only) <;> omega) | exact Rd.slD 6 rfl (by (try dsimp only) <;> omega) | exact Rd.slD 7 rfl (by (try dsimp only) <;> omega))
    case h6 => rfl
    refine WG.y rfl rfl (by decide) (Yl.add rfl rfl rfl (fun _ => rfl) (by intro _; constructor <;> (try dsimp only) <;> omega)) ?_
    refine WG.run tab_ok 2 rfl ?_
    first | refine WL.efN rfl rfl (Ef.store 0 tab_ok rfl rfl rfl rfl rfl rfl rfl rfl ?_) | refine WL.efN rfl rfl (Ef.store 1 tab_ok rfl rfl rfl rfl rfl rfl rfl rfl ?_) | refine WL.efN rfl rfl (Ef.store 2 tab_ok rfl rfl rfl rfl rfl rfl rfl rfl ?_) | refine WL.efN rfl rfl (Ef.store 3 tab_ok rfl rfl rfl rfl rfl rfl rfl rfl ?_) | refine WL.efN rfl rfl (Ef.store 4 tab_ok rfl rfl rfl rfl rfl rfl rfl rfl ?_) | refine WL.efN rfl rfl (Ef.store 5 tab_ok rfl rfl rfl rfl rfl rfl rfl rfl ?_) | refine WL.efN rfl rfl (Ef.store 6 tab_ok rfl rfl rfl rfl rfl rfl rfl rfl ?_) | refine WL.efN rfl rfl (Ef.store 7 tab_ok rfl rfl rfl rfl rfl rfl rfl rfl ?_)
    refine WG.nil ?_
    refine WE.blk _ ?_
    refine WE.again (st + 1) (⟨by omega, by rw [hs, hsk]⟩) (by (try dsimp only); omega) ⟨rfl, rfl⟩ (RLe.refl _) (by (repeat (first | exact List.Sublist.refl _ | exact List.nil_sublist _ | apply List.Sublist.cons_cons | apply List.Sublist.cons)); done)
  · try simp only [decide_eq_true_eq, decide_eq_false_iff_not, beq_iff_eq, bne_iff_ne, beq_eq_false_iff_ne, bne_eq_false_iff_eq, ne_eq, Bool.or_eq_true, Bool.or_eq_false_iff, Bool.and_eq_true, Bool.and_eq_false_imp, Bool.not_eq_true, Bool.not_eq_true', Bool.not_eq_false', Classical.not_not, Int.not_lt, Int.not_le, gt_iff_lt, ge_iff_le] at hc0
    have hs : skipTo ms.begun st = st := by
      by_cases hlt : st < ps.length
      · exact skipTo_false (by omega) (hc0 (by omega))
      · exact skipTo_end (by omega)
    rw [hs] at hsk
    have hfr : firstR ps ms = if st < ps.length ∧ (nth ps st).time ≤ ms.now then (st : Int) else -1 := by unfold firstR; rw [← hsk]
    refine W.exit ?_
    refine WE.then_exit ?_
    refine WE.then_exit ?_
    refine WE.blk_exit ?_
    refine WE.nxt ?_
    refine W.seq ?_
    refine W.seq ?_
    refine W.regionQ _ mixed (by kernel_rfl) ?_
    refine WG.run tab_ok 3 rfl ?_
    refine' WG.y rfl rfl (by decide) (Yl.load1 tab_ok rfl rfl rfl (fun _ => rfl) ?r7 rfl ?h7) ?_
    case r7 => apply Rd.add; (first | exact Rd.blk 0 rfl | exact Rd.blk 1 rfl | exact Rd.blk 2 rfl | exact Rd.blk 3 rfl | exact Rd.blk 4 rfl | exact Rd.blk 5 rfl | exact Rd.blk 6 rfl | exact Rd.blk 7 rfl | (apply RS.rdD; assumption; ((try dsimp only) <;> omega)) | exact Rd.slD 0 rfl (by (try dsimp only) <;> omega) | exact Rd.slD 1 rfl (by (try dsimp only) <;> omega) | exact Rd.slD 2 rfl (by (try dsimp only) <;> omega) | exact Rd.slD 3 rfl (by (try dsimp only) <;> omega) | exact Rd.slD 4 rfl (by (try dsimp only) <;> omega) | exact Rd.slD 5 rfl (by (try dsimp only) <;> omega) | exact Rd.slD 6 rfl (by (try dsimp only) <;> omega) | exact Rd.slD 7 rfl (by (try dsimp only) <;> omega))
    case h7 => rfl
    refine WG.run tab_ok 3 rfl ?_
    refine' WG.y rfl rfl (by decide) (Yl.load1 tab_ok rfl rfl rfl (fun _ => rfl) ?r8 rfl ?h8) ?_
    case r8 => apply Rd.add; (first | exact Rd.blk 0 rfl | exact Rd.blk 1 rfl | exact Rd.blk 2 rfl | exact Rd.blk 3 rfl | exact Rd.blk 4 rfl | exact Rd.blk 5 rfl | exact Rd.blk 6 rfl | exact Rd.blk 7 rfl | (apply RS.rdD; assumption; ((try dsimp only) <;> omega)) | exact Rd.slD 0 rfl (by (try dsimp only) <;> omega) | exact Rd.slD 1 rfl (by (try dsimp only) <;> omega) | exact Rd.slD 2 rfl (by (try dsimp only) <;> omega) | exact Rd.slD 3 rfl (by (try dsimp only) <;> omega) | exact Rd.slD 4 rfl (by (try dsimp only) <;> omega) | exact Rd.slD 5 rfl (by (try dsimp only) <;> omega) | exact Rd.slD 6 rfl (by (try dsimp only) <;> omega) | exact Rd.slD 7 rfl (by (try dsimp only) <;> omega))
    case h8 => rfl
    refine WG.run tab_ok 3 rfl ?_
    refine WG.y rfl rfl (by decide) (pureV_ok tab_ok rfl (by first | exact fun _ => rfl | exact fun h => h | (intro h; simp_all))) ?_
    refine WG.y rfl rfl (by decide) (pureV_ok tab_ok rfl (by first | exact fun _ => rfl | exact fun h => h | (intro h; simp_all))) ?_
    refine WG.y rfl rfl (by decide) (pureV_ok tab_ok rfl (by first | exact fun _ => rfl | exact fun h => h | (intro h; simp_all))) ?_
    refine' WG.y rfl rfl (by decide) (Yl.loadG tab_ok rfl rfl rfl (by first | exact fun _ => rfl | exact fun h => h | (intro h; simp_all)) ?r9 rfl ?h9 ?g9) ?_
    case r9 => apply Rd.addC; (first | exact Rd.blkC 0 rfl | exact Rd.blkC 1 rfl | exact Rd.blkC 2 rfl | exact Rd.blkC 3 rfl | exact Rd.blkC 4 rfl | exact Rd.blkC 5 rfl | exact Rd.blkC 6 rfl | exact Rd.blkC 7 rfl | (apply RS.rdC; assumption) | exact Rd.slC 0 rfl | exact Rd.slC 1 rfl | exact Rd.slC 2 rfl | exact Rd.slC 3 rfl | exact Rd.slC 4 rfl | exact Rd.slC 5 rfl | exact Rd.slC 6 rfl | exact Rd.slC 7 rfl)
    case h9 => rfl
    case g9 => first | exact fun _ => trivial | (intro hg; (try simp only [decide_eq_true_eq, decide_eq_false_iff_not, beq_iff_eq, bne_iff_ne, beq_eq_false_iff_ne, bne_eq_false_iff_eq, ne_eq, Bool.or_eq_true, Bool.or_eq_false_iff, Bool.and_eq_true, Bool.and_eq_false_imp, Bool.not_eq_true, Bool.not_eq_true', Bool.not_eq_false', Classical.not_not, Int.not_lt, Int.not_le, gt_iff_lt, ge_iff_le] at hg); (try dsimp only); omega)
    refine WG.y rfl rfl (by decide) (pureV_ok tab_ok rfl (by first | exact fun _ => rfl | exact fun h => h | (intro h; simp_all))) ?_
    refine WG.y rfl rfl (by decide) (pureV_ok tab_ok rfl (by first | exact fun _ => rfl | exact fun h => h | (intro h; simp_all))) ?_
    refine WG.y rfl rfl (by decide) (pureV_ok tab_ok rfl (by first | exact fun _ => rfl | exact fun h => h | (intro h; simp_all))) ?_
    refine' WG.y rfl rfl (by decide) (Yl.loadG tab_ok rfl rfl rfl (by first | exact fun _ => rfl | exact fun h => h | (intro h; simp_all)) ?r10 rfl ?h10 ?g10) ?_
    case r10 => apply Rd.addC; (first | exact Rd.blkC 0 rfl | exact Rd.blkC 1 rfl | exact Rd.blkC 2 rfl | exact Rd.blkC 3 rfl | exact Rd.blkC 4 rfl | exact Rd.blkC 5 rfl | exact Rd.blkC 6 rfl | exact Rd.blkC 7 rfl | (apply RS.rdC; assumption) | exact Rd.slC 0 rfl | exact Rd.slC 1 rfl | exact Rd.slC 2 rfl | exact Rd.slC 3 rfl | exact Rd.slC 4 rfl | exact Rd.slC 5 rfl | exact Rd.slC 6 rfl | exact Rd.slC 7 rfl)
    case h10 => rfl
    case g10 => first | exact fun _ => trivial | (intro hg; (try simp only [decide_eq_true_eq, decide_eq_false_iff_not, beq_iff_eq, bne_iff_ne, beq_eq_false_iff_ne, bne_eq_false_iff_eq, ne_eq, Bool.or_eq_true, Bool.or_eq_false_iff, Bool.and_eq_true, Bool.and_eq_false_imp, Bool.not_eq_true, Bool.not_eq_true', Bool.not_eq_false', Classical.not_not, Int.not_lt, Int.not_le, gt_iff_lt, ge_iff_le] at hg); (try dsimp only); omega)
    refine WG.y rfl rfl (by decide) (Yl.indexN tab_ok rfl rfl rfl rfl rfl rfl (by first | exact fun _ => rfl | exact fun h => h | (intro h; simp_all)) (by intro hg; (try simp only [decide_eq_true_eq, decide_eq_false_iff_not, beq_iff_eq, bne_iff_ne, beq_eq_false_iff_ne, bne_eq_false_iff_eq, ne_eq, Bool.or_eq_true, Bool.or_eq_false_iff, Bool.and_eq_true, Bool.and_eq_false_imp, Bool.not_eq_true, Bool.not_eq_true', Bool.not_eq_false', Classical.not_not, Int.not_lt, Int.not_le, gt_iff_lt, ge_iff_le] at hg); (try dsimp only) <;> omega) (by intro hg; (try simp only [decide_eq_true_eq, decide_eq_false_iff_not, beq_iff_eq, bne_iff_ne, beq_eq_false_iff_ne, bne_eq_false_iff_eq, ne_eq, Bool.or_eq_true, Bool.or_eq_false_iff, Bool.and_eq_true, Bool.and_eq_false_imp, Bool.not_eq_true, Bool.not_eq_true', Bool.not_eq_false', Classical.not_not, Int.not_lt, Int.not_le, gt_iff_lt, ge_iff_le] at hg); first | exact fun _ _ _ _ => rfl | exact RS.has (by assumption) | exact fun _ _ _ _ => (by assumption) | exact HasMem.ownD 0 rfl | exact HasMem.ownD 1 rfl | exact HasMem.ownD 2 rfl | exact HasMem.ownD 3 rfl | exact HasMem.ownD 4 rfl | exact HasMem.ownD 5 rfl | exact HasMem.ownD 6 rfl | exact HasMem.ownD 7 rfl)) ?_
    refine WG.y rfl rfl (by decide) (pureV_ok tab_ok rfl (by first | exact fun _ => rfl | exact fun h => h | (intro h; simp_all))) ?_
    refine' WG.y rfl rfl (by decide) (Yl.loadG tab_ok rfl rfl rfl (by first | exact fun _ => rfl | exact fun h => h | (intro h; simp_all)) ?r11 rfl ?h11 ?g11) ?_
    case r11 => apply Rd.addC; (first | (apply RS.rdC; assumption) | exact Rd.slC 0 rfl | exact Rd.slC 1 rfl | exact Rd.slC 2 rfl | exact Rd.slC 3 rfl | exact Rd.slC 4 rfl | exact Rd.slC 5 rfl | exact Rd.slC 6 rfl | exact Rd.slC 7 rfl)
    case h11 => rfl
    case g11 => first | exact fun _ => trivial | (intro hg; (try simp only [decide_eq_true_eq, decide_eq_false_iff_not, beq_iff_eq, bne_iff_ne, beq_eq_false_iff_ne, bne_eq_false_iff_eq, ne_eq, Bool.or_eq_true, Bool.or_eq_false_iff, Bool.and_eq_true, Bool.and_eq_false_imp, Bool.not_eq_true, Bool.not_eq_true', Bool.not_eq_false', Classical.not_not, Int.not_lt, Int.not_le, gt_iff_lt, ge_iff_le] at hg); (try dsimp only); omega)
    refine WG.y rfl rfl (by decide) (pureV_ok tab_ok rfl (by first | exact fun _ => rfl | exact fun h => h | (intro h; simp_all))) ?_
    refine WG.y rfl rfl (by decide) (pureV_ok tab_ok rfl (by first | exact fun _ => rfl | exact fun h => h | (intro h; simp_all))) ?_
    refine WG.y rfl rfl (by decide) (pureV_ok tab_ok rfl (by first | exact fun _ => rfl | exact fun h => h | (intro h; simp_all))) ?_
    refine' WG.y rfl rfl (by decide) (Yl.loadG tab_ok rfl rfl rfl (by first | exact fun _ => rfl | exact fun h => h | (intro h; simp_all)) ?r12 rfl ?h12 ?g12) ?_
    case r12 => apply Rd.addC; (first | exact Rd.blkC 0 rfl | exact Rd.blkC 1 rfl | exact Rd.blkC 2 rfl | exact Rd.blkC 3 rfl | exact Rd.blkC 4 rfl | exact Rd.blkC 5 rfl | exact Rd.blkC 6 rfl | exact Rd.blkC 7 rfl | (apply RS.rdC; assumption) | exact Rd.slC 0 rfl | exact Rd.slC 1 rfl | exact Rd.slC 2 rfl | exact Rd.slC 3 rfl | exact Rd.slC 4 rfl | exact Rd.slC 5 rfl | exact Rd.slC 6 rfl | exact Rd.slC 7 rfl)
    case h12 => rfl
    case g12 => first | exact fun _ => trivial | (intro hg; (try simp only [decide_eq_true_eq, decide_eq_false_iff_not, beq_iff_eq, bne_iff_ne, beq_eq_false_iff_ne, bne_eq_false_iff_eq, ne_eq, Bool.or_eq_true, Bool.or_eq_false_iff, Bool.and_eq_true, Bool.and_eq_false_imp, Bool.not_eq_true, Bool.not_eq_true', Bool.not_eq_false', Classical.not_not, Int.not_lt, Int.not_le, gt_iff_lt, ge_iff_le] at hg); (try dsimp only); omega)
    refine WG.y rfl rfl (by decide) (pureV_ok tab_ok rfl (by first | exact fun _ => rfl | exact fun h => h | (intro h; simp_all))) ?_
    refine WG.y rfl rfl (by decide) (Yl.pand rfl rfl rfl (fun _ => rfl) (by intro h1 h2; simp_all <;> omega)) ?_
    refine WG.nil ?_
    refine WE.nxt ?_
    refine W.cond rfl (fun hc1 => ?_) (fun hc1 => ?_)
    · try simp only [decide_eq_true_eq, decide_eq_false_iff_not, beq_iff_eq, bne_iff_ne, beq_eq_false_iff_ne, bne_eq_false_iff_eq, ne_eq, Bool.or_eq_true, Bool.or_eq_false_iff, Bool.and_eq_true, Bool.and_eq_false_imp, Bool.not_eq_true, Bool.not_eq_true', Bool.not_eq_false', Classical.not_not, Int.not_lt, Int.not_le, gt_iff_lt, ge_iff_le] at hc1
      refine W.seq ?_
      refine W.region _ ?_
      refine WG.run tab_ok 3 rfl ?_
      refine' WG.y rfl rfl (by decide) (Yl.load1 tab_ok rfl rfl rfl (fun _ => rfl) ?r13 rfl ?h13) ?_
      case r13 => apply Rd.add; (first | exact Rd.blk 0 rfl | exact Rd.blk 1 rfl | exact Rd.blk 2 rfl | exact Rd.blk 3 rfl | exact Rd.blk 4 rfl | exact Rd.blk 5 rfl | exact Rd.blk 6 rfl | exact Rd.blk 7 rfl | (apply RS.rdD; assumption; ((try dsimp only) <;> omega)) | exact Rd.slD 0 rfl (by (try dsimp only) <;> omega) | exact Rd.slD 1 rfl (by (try dsimp only) <;> omega) | exact Rd.slD 2 rfl (by (try dsimp only) <;> omega) | exact Rd.slD 3 rfl (by (try dsimp only) <;> omega) | exact Rd.slD 4 rfl (by (try dsimp only) <;> omega) | exact Rd.slD 5 rfl (by (try dsimp only) <;> omega) | exact Rd.slD 6 rfl (by (try dsimp only) <;> omega) | exact Rd.slD 7 rfl (by (try dsimp only) <;> omega))
      case h13 => rfl
      refine WG.run tab_ok 1 rfl ?_
      refine WG.nil ?_
      refine WE.nxt ?_
      refine W.ret ?_
      refine WE.then_ret ?_
      refine WE.retF tab_ok [_] rfl ⟨rfl, trivial⟩ (RLe.refl _) ?_
      exact ⟨by rw [hfr, if_pos (by omega)]; rfl, rfl, by rw [← hsk]⟩
    · try simp only [decide_eq_true_eq, decide_eq_false_iff_not, beq_iff_eq, bne_iff_ne, beq_eq_false_iff_ne, bne_eq_false_iff_eq, ne_eq, Bool.or_eq_true, Bool.or_eq_false_iff, Bool.and_eq_true, Bool.and_eq_false_imp, Bool.not_eq_true, Bool.not_eq_true', Bool.not_eq_false', Classical.not_not, Int.not_lt, Int.not_le, gt_iff_lt, ge_iff_le] at hc1
      refine W.skip ?_
      refine WE.nxt ?_
      refine W.seq ?_
      refine W.region _ ?_
      refine WG.run tab_ok 1 rfl ?_
      refine WG.nil ?_
      refine WE.nxt ?_
      refine W.ret ?_
      refine WE.retF tab_ok [_] rfl ⟨rfl, trivial⟩ (RLe.refl _) ?_
      exact ⟨by rw [hfr, if_neg (by omega)]; rfl, rfl, by rw [← hsk]⟩

theorem MRun_C {R : Ro} {pa : Option Addr} {pc : Nat} {ps : List Pkt} {cap : Int} {classes ticks : Nat} {g : FuncId} {first capd : Array Value} {σ : Type} {ch : MS → σ → Int × Nat × σ} {good : MS → σ → Prop} {X : σ → List Ent} {sg : σ} (w0 : World)
    (hp : RS R 3 encP pa ps) (hg : M.Good ps ch good) (hf : Fit ps classes) (h0 : good (M.start ps classes sg).ms sg) (hcap : 1 ≤ cap ∧ cap ≤ 1000000) (hcl : classes ≤ 1000) (htk : ticks ≤ 1000000) (hen : Enters Try.prog g)
    (hch : ∀ (sb bg : Nat) (ms : MS) (sg : σ) (F : List Ent), good ms sg → ms.begun.length = ps.length → 0 < ms.left → ms.left ≤ cap → 0 ≤ ms.now → ms.now < ticks →
      K.Fn Try.prog g (first.toList ++ [.pointer (some ⟨sb, 0, none⟩)] ++ capd.toList) w0 R (stE sb pa ps.length pc bg ms :: .sl 4 1 (some ⟨bg, 0, none⟩) ps.length (ms.begun.map encB) :: (X sg ++ F))
        (fun v R' E' => v = .int .i64 (ch ms sg).1 ∧ R = R' ∧ E' = stE sb pa ps.length pc bg { ms with before := (ch ms sg).2.1 } :: .sl 4 1 (some ⟨bg, 0, none⟩) ps.length (ms.begun.map encB) :: (X (ch ms sg).2.2 ++ F)))
    (F : List Ent) :
    K.Fn Try.prog 72 [.int .i64 cap, .int .i64 classes, .slice pa ps.length pc, .int .i64 ticks, .func (.func g) first capd] w0 R (X sg ++ F)
      (fun v R' E' => ∃ (rows : List Sl) (gd go : Nat) (s : M.RS σ), s = mrun ps ch cap classes ticks sg ∧ v = .agg #[.slice (some ⟨gd, 0, none⟩) ps.length ps.length, .slice (some ⟨go, 0, none⟩) classes classes] ∧ R = R' ∧ rows.map Sl.xs = s.sent ∧ (∀ r ∈ rows, r.a.isSome = true) ∧ Inv ps classes good (ticks + 1) (ticks * cap) s ∧
        (.sl 3 1 (some ⟨gd, 0, none⟩) ps.length (s.done.map encI) :: .sl 23 1 (some ⟨go, 0, none⟩) classes (rows.map encS) :: (rows.map (rowE 3) ++ (X s.sg ++ F))).Sublist E') := by
  have hlp := hf.len
  refine Fn.enter (n := 160) Try.func72 rfl rfl (Nat.le_of_ble_eq_true rfl) rfl ?_
  refine W.seq ?_
  refine W.region _ ?_
  refine WL.ef rfl rfl (by decide) (Ef.alloc tab_ok rfl rfl (fun b10 => ?_))
  refine WG.nil ?_
  refine WE.nxt ?_
  refine W.seqCut (β := Nat × Nat × Nat) (fun (b11, gd, go) => True) (fun (b11, gd, go) => [(0, true, .int .i64 cap), (1, true, .int .i64 classes), (2, true, .slice pa ps.length pc), (3, true, .int .i64 ticks), (4, true, .func (.func g) first capd), (10, true, .pointer (some ⟨b10, 0, none⟩)), (11, true, .pointer (some ⟨b11, 0, none⟩))]) (fun _ => R) (fun (b11, gd, go) => .blk b11 [.slice (some ⟨gd, 0, none⟩) ps.length ps.length, .slice (some ⟨go, 0, none⟩) classes classes] :: .sl 3 1 (some ⟨gd, 0, none⟩) ps.length ((List.replicate ps.length 0).map encI) :: .sl 23 1 (some ⟨go, 0, none⟩) classes ((List.replicate classes (⟨none, 0, []⟩ : Sl)).map encS) :: .blk b10 [.slice none 0 0, .slice none 0 0] :: (X sg ++ F)) ?_ ?_
  ·
    intro st hst
    obtain ⟨b11, gd, go⟩ := st
    dsimp only
    refine W.seq ?_
    refine W.seq ?_
    refine W.region _ ?_
    refine WG.run tab_ok 1 rfl ?_
    refine' WG.y rfl rfl (by decide) (Yl.load1 tab_ok rfl rfl rfl (fun _ => rfl) ?r1 rfl ?h1) ?_
    case r1 => apply Rd.add; (first | exact Rd.blk 0 rfl | exact Rd.blk 1 rfl | exact Rd.blk 2 rfl | exact Rd.blk 3 rfl | exact Rd.blk 4 rfl | exact Rd.blk 5 rfl | exact Rd.blk 6 rfl | exact Rd.blk 7 rfl | exact Rd.blk 8 rfl)
    case h1 => rfl
    refine WG.run tab_ok 2 rfl ?_
    refine WG.nil ?_
    refine WE.nxt ?_
    refine W.block ?_
    refine W.loop (β := Nat × List Int) (fun (k, l) => l.length = ps.length ∧ k ≤ ps.length ∧ ∀ j, j < k → nth l j = -1) (fun (k, l) => [(0, true, .int .i64 cap), (1, true, .int .i64 classes), (2, true, .slice pa ps.length pc), (3, true, .int .i64 ticks), (4, true, .func (.func g) first capd), (10, true, .pointer (some ⟨b10, 0, none⟩)), (11, true, .pointer (some ⟨b11, 0, none⟩)), (28, true, .int .i64 ps.length), (29, true, .int .i64 (k : Int))]) (fun _ => R) (fun (k, l) => .blk b11 [.slice (some ⟨gd, 0, none⟩) ps.length ps.length, .slice (some ⟨go, 0, none⟩) classes classes] :: .sl 3 1 (some ⟨gd, 0, none⟩) ps.length (l.map encI) :: .sl 23 1 (some ⟨go, 0, none⟩) classes ((List.replicate classes (⟨none, 0, []⟩ : Sl)).map encS) :: .blk b10 [.slice none 0 0, .slice none 0 0] :: (X sg ++ F)) (fun (k, l) => ps.length - k) ((0, List.replicate ps.length 0)) (⟨by simp, Nat.zero_le _, fun j hj => by omega⟩) ⟨rfl, rfl, rfl, rfl, rfl, rfl, rfl, rfl, rfl, rfl⟩ (RLe.refl _) (by (repeat (first | exact List.Sublist.refl _ | exact List.nil_sublist _ | apply List.Sublist.cons_cons | apply List.Sublist.cons)); done) ?_
    intro st hst
    obtain ⟨k, l⟩ := st
    obtain ⟨h1, h2, h3⟩ := hst
    dsimp only at h1 h2 h3 ⊢
    refine W.seq ?_
    refine W.region _ ?_
    refine WG.run tab_ok 1 rfl ?_
    refine WG.nil ?_
    refine WE.nxt ?_
    refine W.seq ?_
    refine W.condD rfl (fun hc0 => ?_) (fun hc0 => ?_)
    · try dsimp only at hc0
      refine W.skip ?_
      refine WE.nxt ?_
      refine W.seq ?_
      refine W.block ?_
      refine W.seq ?_
      refine W.region _ ?_
      refine WG.run tab_ok 2 rfl ?_
      refine WG.nil ?_
      refine WE.nxt ?_
      refine W.region _ ?_
      refine WG.run tab_ok 1 rfl ?_
      refine' WG.y rfl rfl (by decide) (Yl.load1 tab_ok rfl rfl rfl (fun _ => rfl) ?r2 rfl ?h2) ?_
      case r2 => apply Rd.add; (first | exact Rd.blk 0 rfl | exact Rd.blk 1 rfl | exact Rd.blk 2 rfl | exact Rd.blk 3 rfl | exact Rd.blk 4 rfl | exact Rd.blk 5 rfl | exact Rd.blk 6 rfl | exact Rd.blk 7 rfl | exact Rd.blk 8 rfl)
      case h2 => rfl
      refine WG.run tab_ok 1 rfl ?_
      refine WG.y rfl rfl (by decide) (Yl.indexN tab_ok rfl rfl rfl rfl rfl rfl (fun _ => rfl) (by intro _; (try dsimp only) <;> omega) (by intro _; first | exact fun _ _ _ _ => rfl | exact RS.has (by assumption) | exact fun _ _ _ _ => (by assumption) | exact HasMem.ownD 0 rfl | exact HasMem.ownD 1 rfl | exact HasMem.ownD 2 rfl | exact HasMem.ownD 3 rfl | exact HasMem.ownD 4 rfl | exact HasMem.ownD 5 rfl | exact HasMem.ownD 6 rfl | exact HasMem.ownD 7 rfl | exact HasMem.ownD 8 rfl)) ?_
      first | refine WL.efN rfl rfl (Ef.storeD _ 0 tab_ok rfl rfl rfl rfl rfl (by (try dsimp only) <;> omega) rfl rfl rfl rfl ?_) | refine WL.efN rfl rfl (Ef.storeD _ 1 tab_ok rfl rfl rfl rfl rfl (by (try dsimp only) <;> omega) rfl rfl rfl rfl ?_) | refine WL.efN rfl rfl (Ef.storeD _ 2 tab_ok rfl rfl rfl rfl rfl (by (try dsimp only) <;> omega) rfl rfl rfl rfl ?_) | refine WL.efN rfl rfl (Ef.storeD _ 3 tab_ok rfl rfl rfl rfl rfl (by (try dsimp only) <;> omega) rfl rfl rfl rfl ?_) | refine WL.efN rfl rfl (Ef.storeD _ 4 tab_ok rfl rfl rfl rfl rfl (by (try dsimp only) <;> omega) rfl rfl rfl rfl ?_) | refine WL.efN rfl rfl (Ef.storeD _ 5 tab_ok rfl rfl rfl rfl rfl (by (try dsimp only) <;> omega) rfl rfl rfl rfl ?_) | refine WL.efN rfl rfl (Ef.storeD _ 6 tab_ok rfl rfl rfl rfl rfl (by (try dsimp only) <;> omega) rfl rfl rfl rfl ?_) | refine WL.efN rfl rfl (Ef.storeD _ 7 tab_ok rfl rfl rfl rfl rfl (by (try dsimp only) <;> omega) rfl rfl rfl rfl ?_) | refine WL.efN rfl rfl (Ef.storeD _ 8 tab_ok rfl rfl rfl rfl rfl (by (try dsimp only) <;> omega) rfl rfl rfl rfl ?_)
      refine WG.nil ?_
      refine WE.blk _ ?_
      refine WE.nxt ?_
      refine W.region _ ?_
      refine WG.y rfl rfl (by decide) (Yl.add rfl rfl rfl (fun _ => rfl) (by intro _; constructor <;> (try dsimp only) <;> omega)) ?_
      refine WG.run tab_ok 1 rfl ?_
      refine WG.nil ?_
      refine WE.again ((k + 1, l.set k (-1))) (⟨by simp [h1], by omega, fill_step (p := (· = -1)) (by omega) h3 rfl⟩) (by (try dsimp only); omega) ⟨rfl, rfl, rfl, rfl, rfl, rfl, rfl, rfl, rfl, rfl⟩ (RLe.refl _) (by (repeat (first | exact List.Sublist.refl _ | exact List.nil_sublist _ | apply List.Sublist.cons_cons | apply List.Sublist.cons)); done)
    · try dsimp only at hc0
      have hk : k = ps.length := by omega
      subst k
      obtain rfl := replicate_of h1 h3
      refine W.exit ?_
      refine WE.then_exit ?_
      refine WE.then_exit ?_
      refine WE.blk_exit ?_
      refine WE.nxt ?_
      refine W.seq ?_
      refine W.seq ?_
      refine W.region _ ?_
      refine WG.run tab_ok 1 rfl ?_
      refine' WG.y rfl rfl (by decide) (Yl.load1 tab_ok rfl rfl rfl (fun _ => rfl) ?r3 rfl ?h3) ?_
      case r3 => apply Rd.add; (first | exact Rd.blk 0 rfl | exact Rd.blk 1 rfl | exact Rd.blk 2 rfl | exact Rd.blk 3 rfl | exact Rd.blk 4 rfl | exact Rd.blk 5 rfl | exact Rd.blk 6 rfl | exact Rd.blk 7 rfl | exact Rd.blk 8 rfl)
      case h3 => rfl
      refine WG.run tab_ok 2 rfl ?_
      refine WG.nil ?_
      refine WE.nxt ?_
      refine W.block ?_
      refine W.loop (β := Nat × List Sl) (fun (k, rows) => rows.length = classes ∧ k ≤ classes ∧ ∀ j, j < k → (nth (rows : List Sl) j).a.isSome = true ∧ (nth rows j).xs = [0]) (fun (k, rows) => [(0, true, .int .i64 cap), (1, true, .int .i64 classes), (2, true, .slice pa ps.length pc), (3, true, .int .i64 ticks), (4, true, .func (.func g) first capd), (10, true, .pointer (some ⟨b10, 0, none⟩)), (11, true, .pointer (some ⟨b11, 0, none⟩)), (39, true, .int .i64 classes), (40, true, .int .i64 (k : Int))]) (fun _ => R) (fun (k, rows) => .blk b11 [.slice (some ⟨gd, 0, none⟩) ps.length ps.length, .slice (some ⟨go, 0, none⟩) classes classes] :: .sl 3 1 (some ⟨gd, 0, none⟩) ps.length ((List.replicate ps.length (-1)).map encI) :: .sl 23 1 (some ⟨go, 0, none⟩) classes (rows.map encS) :: .blk b10 [.slice none 0 0, .slice none 0 0] :: ((rows.take k).map (rowE 3) ++ (X sg ++ F))) (fun (k, rows) => classes - k) ((0, List.replicate classes ⟨none, 0, []⟩)) (⟨by simp, Nat.zero_le _, fun j hj => by omega⟩) ⟨rfl, rfl, rfl, rfl, rfl, rfl, rfl, rfl, rfl, rfl⟩ (RLe.refl _) (by (repeat (first | exact List.Sublist.refl _ | exact List.nil_sublist _ | apply List.Sublist.cons_cons | apply List.Sublist.cons)); done) ?_
      intro st hst
      obtain ⟨k, rows⟩ := st
      obtain ⟨h1, h2, h3⟩ := hst
      dsimp only at h1 h2 h3 ⊢
      refine W.seq ?_
      refine W.region _ ?_
      refine WG.run tab_ok 1 rfl ?_
      refine WG.nil ?_
      refine WE.nxt ?_
      refine W.seq ?_
      refine W.condD rfl (fun hc1 => ?_) (fun hc1 => ?_)
      · try dsimp only at hc1
        refine W.skip ?_
        refine WE.nxt ?_
        refine W.seq ?_
        refine W.block ?_
        refine W.seq ?_
        refine W.region _ ?_
        refine WG.run tab_ok 2 rfl ?_
        refine WG.nil ?_
        refine WE.nxt ?_
        refine W.regionH _ (ES := [.blk b11 [.slice (some ⟨gd, 0, none⟩) ps.length ps.length, .slice (some ⟨go, 0, none⟩) classes classes]]) mixed ?_
        refine WA.take 0 rfl (by kernel_rfl) (by kernel_rfl) (by kernel_rfl) rfl rfl (by decide) (pureV_ok tab_ok rfl (fun _ => rfl)) (by (repeat (first | exact List.Sublist.refl _ | exact List.nil_sublist _ | apply List.Sublist.cons_cons | apply List.Sublist.cons)); done) (by first | exact RLe.refl _ | assumption) ?_
        refine' WA.take 1 rfl (by kernel_rfl) (by kernel_rfl) (by kernel_rfl) rfl rfl (by decide) (Yl.load1 tab_ok rfl rfl rfl (fun _ => rfl) ?r4 rfl ?h4) (by (repeat (first | exact List.Sublist.refl _ | exact List.nil_sublist _ | apply List.Sublist.cons_cons | apply List.Sublist.cons)); done) (by first | exact RLe.refl _ | assumption) ?_
        case r4 => apply Rd.add; (first | exact Rd.blk 0 rfl | exact Rd.blk 1 rfl | exact Rd.blk 2 rfl | exact Rd.blk 3 rfl | exact Rd.blk 4 rfl | exact Rd.blk 5 rfl | exact Rd.blk 6 rfl | exact Rd.blk 7 rfl | exact Rd.blk 8 rfl)
        case h4 => rfl
        refine WA.take 2 rfl (by kernel_rfl) (by kernel_rfl) (by kernel_rfl) rfl rfl (by decide) (pureV_ok tab_ok rfl (fun _ => rfl)) (by (repeat (first | exact List.Sublist.refl _ | exact List.nil_sublist _ | apply List.Sublist.cons_cons | apply List.Sublist.cons)); done) (by first | exact RLe.refl _ | assumption) ?_
        refine WA.take 3 rfl (by kernel_rfl) (by kernel_rfl) (by kernel_rfl) rfl rfl (by decide) (pureV_ok tab_ok rfl (fun _ => rfl)) (by (repeat (first | exact List.Sublist.refl _ | exact List.nil_sublist _ | apply List.Sublist.cons_cons | apply List.Sublist.cons)); done) (by first | exact RLe.refl _ | assumption) ?_
        refine WA.take 4 rfl (by kernel_rfl) (by kernel_rfl) (by kernel_rfl) rfl rfl (by decide) (Yl.add rfl rfl rfl (fun _ => rfl) (by intro _; constructor <;> (try dsimp only) <;> omega)) (by (repeat (first | exact List.Sublist.refl _ | exact List.nil_sublist _ | apply List.Sublist.cons_cons | apply List.Sublist.cons)); done) (by first | exact RLe.refl _ | assumption) ?_
        refine WA.eff 5 rfl (by kernel_rfl) rfl rfl (by decide) (Ef.makeSliceD (enc := encI) 0 tab_ok rfl rfl rfl rfl rfl rfl (by (try dsimp only) <;> omega) (by (try dsimp only) <;> omega) (by (try dsimp only) <;> omega) (by (try dsimp only) <;> omega) (by decide) rfl rfl (fun a48 => ?_))
        refine ⟨by first | exact RLe.refl _ | assumption, (by (repeat (first | exact List.Sublist.refl _ | exact List.nil_sublist _ | apply List.Sublist.cons_cons | apply List.Sublist.cons)); done), ?_⟩
        refine WA.take 6 rfl (by kernel_rfl) (by kernel_rfl) (by kernel_rfl) rfl rfl (by decide) (Yl.indexN tab_ok rfl rfl rfl rfl rfl rfl (fun _ => rfl) (by intro _; (try dsimp only) <;> omega) (by intro _; first | exact fun _ _ _ _ => rfl | exact RS.has (by assumption) | exact fun _ _ _ _ => (by assumption) | exact HasMem.ownD 0 rfl | exact HasMem.ownD 1 rfl | exact HasMem.ownD 2 rfl | exact HasMem.ownD 3 rfl | exact HasMem.ownD 4 rfl | exact HasMem.ownD 5 rfl | exact HasMem.ownD 6 rfl | exact HasMem.ownD 7 rfl | exact HasMem.ownD 8 rfl)) (by (repeat (first | exact List.Sublist.refl _ | exact List.nil_sublist _ | apply List.Sublist.cons_cons | apply List.Sublist.cons)); done) (by first | exact RLe.refl _ | assumption) ?_
        refine WA.effN 7 rfl (by kernel_rfl) rfl rfl (Ef.storeD (⟨some ⟨a48, 0, none⟩, ticks + 1, [0]⟩ : Sl) 3 tab_ok rfl rfl rfl rfl rfl (by omega) rfl rfl rfl rfl ?_)
        refine ⟨by first | exact RLe.refl _ | assumption, (by (repeat (first | exact List.Sublist.refl _ | exact List.nil_sublist _ | apply List.Sublist.cons_cons | apply List.Sublist.cons)); done), ?_⟩
        refine WA.done (by kernel_rfl) ?_
        refine WE.blk _ ?_
        refine WE.nxt ?_
        refine W.region _ ?_
        refine WG.y rfl rfl (by decide) (Yl.add rfl rfl rfl (fun _ => rfl) (by intro _; constructor <;> (try dsimp only) <;> omega)) ?_
        refine WG.run tab_ok 1 rfl ?_
        refine WG.nil ?_
        refine WE.againP (k + 1, rows.set k ⟨some ⟨a48, 0, none⟩, ticks + 1, [0]⟩) ⟨by simp [h1], by omega, fill_step (p := fun r : Sl => r.a.isSome = true ∧ r.xs = [0]) (by omega) h3 ⟨rfl, rfl⟩⟩ (by dsimp only; omega) ⟨rfl, rfl, rfl, rfl, rfl, rfl, rfl, rfl, rfl, rfl⟩ (RLe.refl _) ⟨_, perm_row, by dsimp only; rw [← take_set_map (by omega)]; exact List.Sublist.refl _⟩
      · try dsimp only at hc1
        have hk : k = classes := by omega
        subst k
        rw [List.take_of_length_le (by omega)]
        have hra : ∀ r ∈ rows, r.a.isSome = true := all_of_nth (fun j hj => (h3 j (by omega)).1)
        have hrx : rows.map Sl.xs = (M.start ps classes sg).sent := List.eq_replicate_iff.2 ⟨by simp [h1], fun x hx => by
          obtain ⟨r, hr, rfl⟩ := List.mem_map.1 hx
          exact all_of_nth (p := fun r => r.xs = [0]) (fun j hj => (h3 j (by omega)).2) r hr⟩
        refine W.exit ?_
        refine WE.then_exit ?_
        refine WE.then_exit ?_
        refine WE.blk_exit ?_
        refine WE.nxt ?_
        refine W.seq ?_
        refine W.region _ ?_
        refine WG.run tab_ok 3 rfl ?_
        refine WL.ef rfl rfl (by decide) (Ef.makeSliceD (enc := encB) false tab_ok rfl rfl rfl rfl rfl rfl (by (try dsimp only) <;> omega) (by (try dsimp only) <;> omega) (by (try dsimp only) <;> omega) (by (try dsimp only) <;> omega) (by decide) rfl rfl (fun a54 => ?_))
        -- build
        refine WG.y rfl rfl (by decide) (Yl.build (parts := [(2, .tmp 51), (3, .tmp 54)]) tab_ok rfl rfl rfl rfl (fun _ => rfl) rfl rfl) ?_
        refine WL.ef rfl rfl (by decide) (Ef.box rfl rfl (fun b56 => ?_))
        refine WG.run tab_ok 1 rfl ?_
        refine WG.nil ?_
        refine WE.nxt ?_
        refine W.seq ?_
        refine W.region _ ?_
        refine WG.run tab_ok 2 rfl ?_
        refine WG.nil ?_
        refine WE.nxt ?_
        refine W.seq ?_
        refine W.seq ?_
        refine W.region _ ?_
        refine WG.run tab_ok 2 rfl ?_
        refine WG.nil ?_
        refine WE.nxt ?_
        refine W.block ?_
        refine W.loop (β := Nat × M.RS σ × List Sl) (fun (t, s, rows) => t ≤ ticks ∧ ticksFrom ps ch cap t (ticks - t) s = mrun ps ch cap classes ticks sg ∧ Inv ps classes good (t + 1) (t * cap) s ∧ rows.map Sl.xs = s.sent ∧ ∀ r ∈ rows, r.a.isSome = true) (fun (t, s, rows) => [(0, true, .int .i64 cap), (1, true, .int .i64 classes), (2, true, .slice pa ps.length pc), (3, true, .int .i64 ticks), (4, true, .func (.func g) first capd), (10, true, .pointer (some ⟨b10, 0, none⟩)), (11, true, .pointer (some ⟨b11, 0, none⟩)), (14, true, .pointer (some ⟨b56, 0, none⟩)), (15, true, .int .i64 s.cur), (16, true, .int .i64 s.rest), (57, true, .int .i64 ticks), (58, true, .int .i64 (t : Int))]) (fun _ => R) (fun (t, s, rows) => stE b56 pa ps.length pc a54 s.ms :: .sl 4 1 (some ⟨a54, 0, none⟩) ps.length (s.ms.begun.map encB) :: .blk b11 [.slice (some ⟨gd, 0, none⟩) ps.length ps.length, .slice (some ⟨go, 0, none⟩) classes classes] :: .sl 3 1 (some ⟨gd, 0, none⟩) ps.length (s.done.map encI) :: .sl 23 1 (some ⟨go, 0, none⟩) classes (rows.map encS) :: .blk b10 [.slice none 0 0, .slice none 0 0] :: (rows.map (rowE 3) ++ (X s.sg ++ F))) (fun (t, s, rows) => ticks - t) ((0, M.start ps classes sg, rows)) (⟨Nat.zero_le _, rfl, by simpa using Inv.start h0, hrx, hra⟩) ⟨rfl, rfl, rfl, rfl, rfl, rfl, rfl, rfl, rfl, rfl, rfl, rfl, rfl⟩ (RLe.refl _) (by (repeat (first | exact List.Sublist.refl _ | exact List.nil_sublist _ | apply List.Sublist.cons_cons | apply List.Sublist.cons)); done) ?_
        intro st hst
        obtain ⟨t, s, rows⟩ := st
        obtain ⟨h1, h2, h3, h4, h5⟩ := hst
        dsimp only at h1 h2 h3 h4 h5 ⊢
        refine W.seq ?_
        refine W.region _ ?_
        refine WG.run tab_ok 1 rfl ?_
        refine WG.nil ?_
        refine WE.nxt ?_
        refine W.seq ?_
        refine W.condD rfl (fun hc2 => ?_) (fun hc2 => ?_)
        · try dsimp only at hc2
          have hbig : ((t : Int) + 1) * cap ≤ 1000000 * 1000000 := Int.mul_le_mul (by omega) hcap.2 (by omega) (by omega)
          refine W.skip ?_
          refine WE.nxt ?_
          refine W.seq ?_
          refine W.block ?_
          refine W.seq ?_
          refine W.region _ ?_
          refine WG.run tab_ok 2 rfl ?_
          refine WG.nil ?_
          refine WE.nxt ?_
          refine W.seq ?_
          refine W.region _ ?_
          refine WG.run tab_ok 6 rfl ?_
          first | refine WL.efN rfl rfl (Ef.store 0 tab_ok rfl rfl rfl rfl rfl rfl rfl rfl ?_) | refine WL.efN rfl rfl (Ef.store 1 tab_ok rfl rfl rfl rfl rfl rfl rfl rfl ?_) | refine WL.efN rfl rfl (Ef.store 2 tab_ok rfl rfl rfl rfl rfl rfl rfl rfl ?_) | refine WL.efN rfl rfl (Ef.store 3 tab_ok rfl rfl rfl rfl rfl rfl rfl rfl ?_) | refine WL.efN rfl rfl (Ef.store 4 tab_ok rfl rfl rfl rfl rfl rfl rfl rfl ?_) | refine WL.efN rfl rfl (Ef.store 5 tab_ok rfl rfl rfl rfl rfl rfl rfl rfl ?_) | refine WL.efN rfl rfl (Ef.store 6 tab_ok rfl rfl rfl rfl rfl rfl rfl rfl ?_) | refine WL.efN rfl rfl (Ef.store 7 tab_ok rfl rfl rfl rfl rfl rfl rfl rfl ?_) | refine WL.efN rfl rfl (Ef.store 8 tab_ok rfl rfl rfl rfl rfl rfl rfl rfl ?_)
          refine WG.run tab_ok 2 rfl ?_
          first | refine WL.efN rfl rfl (Ef.store 0 tab_ok rfl rfl rfl rfl rfl rfl rfl rfl ?_) | refine WL.efN rfl rfl (Ef.store 1 tab_ok rfl rfl rfl rfl rfl rfl rfl rfl ?_) | refine WL.efN rfl rfl (Ef.store 2 tab_ok rfl rfl rfl rfl rfl rfl rfl rfl ?_) | refine WL.efN rfl rfl (Ef.store 3 tab_ok rfl rfl rfl rfl rfl rfl rfl rfl ?_) | refine WL.efN rfl rfl (Ef.store 4 tab_ok rfl rfl rfl rfl rfl rfl rfl rfl ?_) | refine WL.efN rfl rfl (Ef.store 5 tab_ok rfl rfl rfl rfl rfl rfl rfl rfl ?_) | refine WL.efN rfl rfl (Ef.store 6 tab_ok rfl rfl rfl rfl rfl rfl rfl rfl ?_) | refine WL.efN rfl rfl (Ef.store 7 tab_ok rfl rfl rfl rfl rfl rfl rfl rfl ?_) | refine WL.efN rfl rfl (Ef.store 8 tab_ok rfl rfl rfl rfl rfl rfl rfl rfl ?_)
          refine WG.nil ?_
          refine WE.nxt ?_
          refine W.seq ?_
          refine W.seq ?_
          refine W.region _ ?_
          refine WG.run tab_ok 1 rfl ?_
          refine' WG.y rfl rfl (by decide) (Yl.load1 tab_ok rfl rfl rfl (fun _ => rfl) ?r5 rfl ?h5) ?_
          case r5 => apply Rd.add; (first | exact Rd.blk 0 rfl | exact Rd.blk 1 rfl | exact Rd.blk 2 rfl | exact Rd.blk 3 rfl | exact Rd.blk 4 rfl | exact Rd.blk 5 rfl | exact Rd.blk 6 rfl | exact Rd.blk 7 rfl | exact Rd.blk 8 rfl)
          case h5 => rfl
          refine WG.run tab_ok 2 rfl ?_
          refine WG.nil ?_
          refine WE.nxt ?_
          refine W.block ?_
          refine W.loop (β := Nat × List Sl) (fun (c, rws) => c ≤ classes ∧ rws.map Sl.xs = (s.sent.take c).map (fun l => l ++ [nth l t]) ++ s.sent.drop c ∧ ∀ r ∈ rws, r.a.isSome = true) (fun (c, rws) => [(0, true, .int .i64 cap), (1, true, .int .i64 classes), (2, true, .slice pa ps.length pc), (3, true, .int .i64 ticks), (4, true, .func (.func g) first capd), (10, true, .pointer (some ⟨b10, 0, none⟩)), (11, true, .pointer (some ⟨b11, 0, none⟩)), (14, true, .pointer (some ⟨b56, 0, none⟩)), (15, true, .int .i64 s.cur), (16, true, .int .i64 s.rest), (57, true, .int .i64 ticks), (58, true, .int .i64 (t : Int)), (17, true, .int .i64 (t : Int)), (71, true, .int .i64 classes), (72, true, .int .i64 (c : Int))]) (fun _ => R) (fun (c, rws) => stE b56 pa ps.length pc a54 { s.ms with now := (t : Int), left := cap } :: .sl 4 1 (some ⟨a54, 0, none⟩) ps.length (s.ms.begun.map encB) :: .blk b11 [.slice (some ⟨gd, 0, none⟩) ps.length ps.length, .slice (some ⟨go, 0, none⟩) classes classes] :: .sl 3 1 (some ⟨gd, 0, none⟩) ps.length (s.done.map encI) :: .sl 23 1 (some ⟨go, 0, none⟩) classes (rws.map encS) :: .blk b10 [.slice none 0 0, .slice none 0 0] :: (rws.map (rowE 3) ++ (X s.sg ++ F))) (fun (c, rws) => classes - c) ((0, rows)) (⟨Nat.zero_le _, by simpa using h4, h5⟩) ⟨rfl, rfl, rfl, rfl, rfl, rfl, rfl, rfl, rfl, rfl, rfl, rfl, rfl, rfl, rfl, rfl⟩ (RLe.refl _) (by (repeat (first | exact List.Sublist.refl _ | exact List.nil_sublist _ | apply List.Sublist.cons_cons | apply List.Sublist.cons)); done) ?_
          intro st hst
          obtain ⟨c, rws⟩ := st
          obtain ⟨g1, g2, g3⟩ := hst
          dsimp only at g1 g2 g3 ⊢
          have hsl := h3.sent
          have hlen : rws.length = classes := by
            have := congrArg List.length g2
            simp only [List.length_map, List.length_append, List.length_take, List.length_drop] at this
            omega
          refine W.seq ?_
          refine W.region _ ?_
          refine WG.run tab_ok 1 rfl ?_
          refine WG.nil ?_
          refine WE.nxt ?_
          refine W.seq ?_
          refine W.condD rfl (fun hc3 => ?_) (fun hc3 => ?_)
          · try dsimp only at hc3
            have hxs : (nth rws c).xs = nth s.sent c := by rw [nth_map_xs g2 (by omega), ext_nth (by omega)]
            have hsome : (nth rws c).a.isSome = true := g3 _ (nth_mem (by omega))
            have hxl : (nth rws c).xs.length = t + 1 := by rw [hxs]; exact (h3.row (by omega)).1
            have hrow := rows_get (e := 3) (G := X s.sg ++ F) (rows := rws) (c := c) (by omega)
            refine W.skip ?_
            refine WE.nxt ?_
            refine W.seq ?_
            refine W.block ?_
            refine W.seq ?_
            refine W.region _ ?_
            refine WG.run tab_ok 2 rfl ?_
            refine WG.nil ?_
            refine WE.nxt ?_
            refine W.regionH _ (ES := [.blk b11 [.slice (some ⟨gd, 0, none⟩) ps.length ps.length, .slice (some ⟨go, 0, none⟩) classes classes]]) mixed ?_
            refine WA.take 0 rfl (by kernel_rfl) (by kernel_rfl) (by kernel_rfl) rfl rfl (by decide) (pureV_ok tab_ok rfl (fun _ => rfl)) (by (repeat (first | exact List.Sublist.refl _ | exact List.nil_sublist _ | apply List.Sublist.cons_cons | apply List.Sublist.cons)); done) (by first | exact RLe.refl _ | assumption) ?_
            refine' WA.take 1 rfl (by kernel_rfl) (by kernel_rfl) (by kernel_rfl) rfl rfl (by decide) (Yl.load1 tab_ok rfl rfl rfl (fun _ => rfl) ?r6 rfl ?h6) (by (repeat (first | exact List.Sublist.refl _ | exact List.nil_sublist _ | apply List.Sublist.cons_cons | apply List.Sublist.cons)); done) (by first | exact RLe.refl _ | assumption) ?_
            case r6 => apply Rd.add; (first | exact Rd.blk 0 rfl | exact Rd.blk 1 rfl | exact Rd.blk 2 rfl | exact Rd.blk 3 rfl | exact Rd.blk 4 rfl | exact Rd.blk 5 rfl | exact Rd.blk 6 rfl | exact Rd.blk 7 rfl | exact Rd.blk 8 rfl)
            case h6 => rfl
            refine WA.take 2 rfl (by kernel_rfl) (by kernel_rfl) (by kernel_rfl) rfl rfl (by decide) (pureV_ok tab_ok rfl (fun _ => rfl)) (by (repeat (first | exact List.Sublist.refl _ | exact List.nil_sublist _ | apply List.Sublist.cons_cons | apply List.Sublist.cons)); done) (by first | exact RLe.refl _ | assumption) ?_
            refine WA.take 3 rfl (by kernel_rfl) (by kernel_rfl) (by kernel_rfl) rfl rfl (by decide) (pureV_ok tab_ok rfl (fun _ => rfl)) (by (repeat (first | exact List.Sublist.refl _ | exact List.nil_sublist _ | apply List.Sublist.cons_cons | apply List.Sublist.cons)); done) (by first | exact RLe.refl _ | assumption) ?_
            refine' WA.take 4 rfl (by kernel_rfl) (by kernel_rfl) (by kernel_rfl) rfl rfl (by decide) (Yl.load1 tab_ok rfl rfl rfl (fun _ => rfl) ?r7 rfl ?h7) (by (repeat (first | exact List.Sublist.refl _ | exact List.nil_sublist _ | apply List.Sublist.cons_cons | apply List.Sublist.cons)); done) (by first | exact RLe.refl _ | assumption) ?_
            case r7 => apply Rd.add; (first | exact Rd.blk 0 rfl | exact Rd.blk 1 rfl | exact Rd.blk 2 rfl | exact Rd.blk 3 rfl | exact Rd.blk 4 rfl | exact Rd.blk 5 rfl | exact Rd.blk 6 rfl | exact Rd.blk 7 rfl | exact Rd.blk 8 rfl)
            case h7 => rfl
            refine WA.take 5 rfl (by kernel_rfl) (by kernel_rfl) (by kernel_rfl) rfl rfl (by decide) (pureV_ok tab_ok rfl (fun _ => rfl)) (by (repeat (first | exact List.Sublist.refl _ | exact List.nil_sublist _ | apply List.Sublist.cons_cons | apply List.Sublist.cons)); done) (by first | exact RLe.refl _ | assumption) ?_
            refine WA.take 6 rfl (by kernel_rfl) (by kernel_rfl) (by kernel_rfl) rfl rfl (by decide) (Yl.indexN tab_ok rfl rfl rfl rfl rfl rfl (fun _ => rfl) (by intro _; (try dsimp only) <;> omega) (by intro _; first | exact fun _ _ _ _ => rfl | exact RS.has (by assumption) | exact fun _ _ _ _ => (by assumption) | exact HasMem.ownD 0 rfl | exact HasMem.ownD 1 rfl | exact HasMem.ownD 2 rfl | exact HasMem.ownD 3 rfl | exact HasMem.ownD 4 rfl | exact HasMem.ownD 5 rfl | exact HasMem.ownD 6 rfl | exact HasMem.ownD 7 rfl | exact HasMem.ownD 8 rfl)) (by (repeat (first | exact List.Sublist.refl _ | exact List.nil_sublist _ | apply List.Sublist.cons_cons | apply List.Sublist.cons)); done) (by first | exact RLe.refl _ | assumption) ?_
            refine WA.take 8 rfl (by kernel_rfl) (by kernel_rfl) (by kernel_rfl) rfl rfl (by decide) (pureV_ok tab_ok rfl (fun _ => rfl)) (by (repeat (first | exact List.Sublist.refl _ | exact List.nil_sublist _ | apply List.Sublist.cons_cons | apply List.Sublist.cons)); done) (by first | exact RLe.refl _ | assumption) ?_
            refine' WA.take 9 rfl (by kernel_rfl) (by kernel_rfl) (by kernel_rfl) rfl rfl (by decide) (Yl.load1 tab_ok rfl rfl rfl (fun _ => rfl) ?r8 rfl ?h8) (by (repeat (first | exact List.Sublist.refl _ | exact List.nil_sublist _ | apply List.Sublist.cons_cons | apply List.Sublist.cons)); done) (by first | exact RLe.refl _ | assumption) ?_
            case r8 => apply Rd.add; (first | exact Rd.blk 0 rfl | exact Rd.blk 1 rfl | exact Rd.blk 2 rfl | exact Rd.blk 3 rfl | exact Rd.blk 4 rfl | exact Rd.blk 5 rfl | exact Rd.blk 6 rfl | exact Rd.blk 7 rfl | exact Rd.blk 8 rfl)
            case h8 => rfl
            refine WA.take 10 rfl (by kernel_rfl) (by kernel_rfl) (by kernel_rfl) rfl rfl (by decide) (pureV_ok tab_ok rfl (fun _ => rfl)) (by (repeat (first | exact List.Sublist.refl _ | exact List.nil_sublist _ | apply List.Sublist.cons_cons | apply List.Sublist.cons)); done) (by first | exact RLe.refl _ | assumption) ?_
            refine WA.take 11 rfl (by kernel_rfl) (by kernel_rfl) (by kernel_rfl) rfl rfl (by decide) (Yl.indexN tab_ok rfl rfl rfl rfl rfl rfl (fun _ => rfl) (by intro _; (try dsimp only) <;> omega) (by intro _; first | exact fun _ _ _ _ => rfl | exact RS.has (by assumption) | exact fun _ _ _ _ => (by assumption) | exact HasMem.ownD 0 rfl | exact HasMem.ownD 1 rfl | exact HasMem.ownD 2 rfl | exact HasMem.ownD 3 rfl | exact HasMem.ownD 4 rfl | exact HasMem.ownD 5 rfl | exact HasMem.ownD 6 rfl | exact HasMem.ownD 7 rfl | exact HasMem.ownD 8 rfl)) (by (repeat (first | exact List.Sublist.refl _ | exact List.nil_sublist _ | apply List.Sublist.cons_cons | apply List.Sublist.cons)); done) (by first | exact RLe.refl _ | assumption) ?_
            refine WA.take 13 rfl (by kernel_rfl) (by kernel_rfl) (by kernel_rfl) rfl rfl (by decide) (pureV_ok tab_ok rfl (fun _ => rfl)) (by (repeat (first | exact List.Sublist.refl _ | exact List.nil_sublist _ | apply List.Sublist.cons_cons | apply List.Sublist.cons)); done) (by first | exact RLe.refl _ | assumption) ?_
            refine WA.br2 (i := 7) (j := 12) (by kernel_rfl) ?_ ?_
            ·
              refine' WS.yl rfl rfl rfl (by decide) (Yl.load1 tab_ok rfl rfl rfl (fun _ => rfl) ?r9 rfl ?h9) (by (repeat (first | exact List.Sublist.refl _ | exact List.nil_sublist _ | apply List.Sublist.cons_cons | apply List.Sublist.cons)); done) (RLe.refl _) ?_
              case r9 => (first | (apply RS.rdD; assumption; ((try dsimp only) <;> omega)) | exact Rd.slD 0 rfl (by (try dsimp only) <;> omega) | exact Rd.slD 1 rfl (by (try dsimp only) <;> omega) | exact Rd.slD 2 rfl (by (try dsimp only) <;> omega) | exact Rd.slD 3 rfl (by (try dsimp only) <;> omega) | exact Rd.slD 4 rfl (by (try dsimp only) <;> omega) | exact Rd.slD 5 rfl (by (try dsimp only) <;> omega) | exact Rd.slD 6 rfl (by (try dsimp only) <;> omega) | exact Rd.slD 7 rfl (by (try dsimp only) <;> omega) | exact Rd.slD 8 rfl (by (try dsimp only) <;> omega))
              case h9 => rfl
              refine' WA.yl 12 rfl (by kernel_rfl) rfl rfl (by decide) (Yl.load1 tab_ok rfl rfl rfl (fun _ => rfl) ?r10 rfl ?h10) (by (repeat (first | exact List.Sublist.refl _ | exact List.nil_sublist _ | apply List.Sublist.cons_cons | apply List.Sublist.cons)); done) (RLe.refl _) ?_
              case r10 => (first | (apply RS.rdD; assumption; ((try dsimp only) <;> omega)) | exact Rd.slD 0 rfl (by (try dsimp only) <;> omega) | exact Rd.slD 1 rfl (by (try dsimp only) <;> omega) | exact Rd.slD 2 rfl (by (try dsimp only) <;> omega) | exact Rd.slD 3 rfl (by (try dsimp only) <;> omega) | exact Rd.slD 4 rfl (by (try dsimp only) <;> omega) | exact Rd.slD 5 rfl (by (try dsimp only) <;> omega) | exact Rd.slD 6 rfl (by (try dsimp only) <;> omega) | exact Rd.slD 7 rfl (by (try dsimp only) <;> omega) | exact Rd.slD 8 rfl (by (try dsimp only) <;> omega))
              case h10 => rfl
              refine WA.take 14 rfl (by kernel_rfl) (by kernel_rfl) (by kernel_rfl) rfl rfl (by decide) (Yl.indexN tab_ok rfl rfl rfl rfl rfl rfl (fun _ => rfl) (by intro _; (try dsimp only) <;> omega) (by intro _; first | exact fun _ _ _ _ => rfl | exact RS.has (by assumption) | exact fun _ _ _ _ => (by assumption) | exact HasMem.ownD 0 rfl | exact HasMem.ownD 1 rfl | exact HasMem.ownD 2 rfl | exact HasMem.ownD 3 rfl | exact HasMem.ownD 4 rfl | exact HasMem.ownD 5 rfl | exact HasMem.ownD 6 rfl | exact HasMem.ownD 7 rfl | exact HasMem.ownD 8 rfl)) (by (repeat (first | exact List.Sublist.refl _ | exact List.nil_sublist _ | apply List.Sublist.cons_cons | apply List.Sublist.cons)); done) (by first | exact RLe.refl _ | assumption) ?_
              refine' WA.yl 15 rfl (by kernel_rfl) rfl rfl (by decide) (Yl.load1 tab_ok rfl rfl rfl (fun _ => rfl) ?r11 rfl ?h11) (by (repeat (first | exact List.Sublist.refl _ | exact List.nil_sublist _ | apply List.Sublist.cons_cons | apply List.Sublist.cons)); done) (RLe.refl _) ?_
              case r11 => exact Rd.slD (c + 6) hrow (by omega)
              case h11 => rfl
              refine WA.eff 16 rfl (by kernel_rfl) rfl rfl (by decide) (Ef.buildSliceD (enc := encI) (parts := [.tmp 90]) [_] tab_ok rfl rfl rfl rfl rfl rfl rfl rfl (by decide) (by decide) (fun a91 => ?_))
              refine ⟨by first | exact RLe.refl _ | assumption, (by (repeat (first | exact List.Sublist.refl _ | exact List.nil_sublist _ | apply List.Sublist.cons_cons | apply List.Sublist.cons)); done), ?_⟩
              refine WA.eff 17 rfl (by kernel_rfl) rfl rfl (by decide) (Ef.appendD (c + 7) 0 tab_ok rfl rfl rfl rfl rfl rfl hrow rfl rfl rfl rfl (fun _ _ => rfl) (by simp only [List.length_cons, List.length_nil]; omega) (by simp only [List.length_cons, List.length_nil]; omega) (fun a92 c92 ha92 => ?_))
              refine ⟨by first | exact RLe.refl _ | assumption, (by (repeat (first | exact List.Sublist.refl _ | exact List.nil_sublist _ | apply List.Sublist.cons_cons | apply List.Sublist.cons)); done), ?_⟩
              refine WA.take 18 rfl (by kernel_rfl) (by kernel_rfl) (by kernel_rfl) rfl rfl (by decide) (Yl.indexN tab_ok rfl rfl rfl rfl rfl rfl (fun _ => rfl) (by intro _; (try dsimp only) <;> omega) (by intro _; first | exact fun _ _ _ _ => rfl | exact RS.has (by assumption) | exact fun _ _ _ _ => (by assumption) | exact HasMem.ownD 0 rfl | exact HasMem.ownD 1 rfl | exact HasMem.ownD 2 rfl | exact HasMem.ownD 3 rfl | exact HasMem.ownD 4 rfl | exact HasMem.ownD 5 rfl | exact HasMem.ownD 6 rfl | exact HasMem.ownD 7 rfl | exact HasMem.ownD 8 rfl)) (by (repeat (first | exact List.Sublist.refl _ | exact List.nil_sublist _ | apply List.Sublist.cons_cons | apply List.Sublist.cons)); done) (by first | exact RLe.refl _ | assumption) ?_
              refine WA.effN 19 rfl (by kernel_rfl) rfl rfl (Ef.storeD (⟨a92, c92, (nth rws c).xs ++ [nth (nth rws c).xs t]⟩ : Sl) 5 tab_ok rfl rfl rfl rfl rfl (by omega) rfl rfl rfl rfl ?_)
              refine ⟨by first | exact RLe.refl _ | assumption, (by (repeat (first | exact List.Sublist.refl _ | exact List.nil_sublist _ | apply List.Sublist.cons_cons | apply List.Sublist.cons)); done), ?_⟩
              refine WA.done (by kernel_rfl) ?_
              refine WE.blk _ ?_
              refine WE.nxt ?_
              refine W.region _ ?_
              refine WG.y rfl rfl (by decide) (Yl.add rfl rfl rfl (fun _ => rfl) (by intro _; constructor <;> (try dsimp only) <;> omega)) ?_
              refine WG.run tab_ok 1 rfl ?_
              refine WG.nil ?_
              refine WE.again (c + 1, rws.set c ⟨a92, c92, (nth rws c).xs ++ [nth (nth rws c).xs t]⟩) ⟨by dsimp only; omega, by dsimp only; rw [List.map_set, g2]; dsimp only; rw [hxs]; exact ext_step (by omega), all_set g3 (ha92 (by simp))⟩ (by dsimp only; omega) ⟨rfl, rfl, rfl, rfl, rfl, rfl, rfl, rfl, rfl, rfl, rfl, rfl, rfl, rfl, rfl, rfl⟩ (RLe.refl _) (by dsimp only; rw [← rows_set (by omega)]; exact List.Sublist.cons _ (List.Sublist.refl _))
            ·
              refine' WS.yl rfl rfl rfl (by decide) (Yl.load1 tab_ok rfl rfl rfl (fun _ => rfl) ?r12 rfl ?h12) (by (repeat (first | exact List.Sublist.refl _ | exact List.nil_sublist _ | apply List.Sublist.cons_cons | apply List.Sublist.cons)); done) (RLe.refl _) ?_
              case r12 => (first | (apply RS.rdD; assumption; ((try dsimp only) <;> omega)) | exact Rd.slD 0 rfl (by (try dsimp only) <;> omega) | exact Rd.slD 1 rfl (by (try dsimp only) <;> omega) | exact Rd.slD 2 rfl (by (try dsimp only) <;> omega) | exact Rd.slD 3 rfl (by (try dsimp only) <;> omega) | exact Rd.slD 4 rfl (by (try dsimp only) <;> omega) | exact Rd.slD 5 rfl (by (try dsimp only) <;> omega) | exact Rd.slD 6 rfl (by (try dsimp only) <;> omega) | exact Rd.slD 7 rfl (by (try dsimp only) <;> omega) | exact Rd.slD 8 rfl (by (try dsimp only) <;> omega))
              case h12 => rfl
              refine WA.take 14 rfl (by kernel_rfl) (by kernel_rfl) (by kernel_rfl) rfl rfl (by decide) (Yl.indexN tab_ok rfl rfl rfl rfl rfl rfl (fun _ => rfl) (by intro _; (try dsimp only) <;> omega) (by intro _; first | exact fun _ _ _ _ => rfl | exact RS.has (by assumption) | exact fun _ _ _ _ => (by assumption) | exact HasMem.ownD 0 rfl | exact HasMem.ownD 1 rfl | exact HasMem.ownD 2 rfl | exact HasMem.ownD 3 rfl | exact HasMem.ownD 4 rfl | exact HasMem.ownD 5 rfl | exact HasMem.ownD 6 rfl | exact HasMem.ownD 7 rfl | exact HasMem.ownD 8 rfl)) (by (repeat (first | exact List.Sublist.refl _ | exact List.nil_sublist _ | apply List.Sublist.cons_cons | apply List.Sublist.cons)); done) (by first | exact RLe.refl _ | assumption) ?_
              refine WA.br2 (i := 7) (j := 15) (by kernel_rfl) ?_ ?_
              ·
                refine' WS.yl rfl rfl rfl (by decide) (Yl.load1 tab_ok rfl rfl rfl (fun _ => rfl) ?r13 rfl ?h13) (by (repeat (first | exact List.Sublist.refl _ | exact List.nil_sublist _ | apply List.Sublist.cons_cons | apply List.Sublist.cons)); done) (RLe.refl _) ?_
                case r13 => (first | (apply RS.rdD; assumption; ((try dsimp only) <;> omega)) | exact Rd.slD 0 rfl (by (try dsimp only) <;> omega) | exact Rd.slD 1 rfl (by (try dsimp only) <;> omega) | exact Rd.slD 2 rfl (by (try dsimp only) <;> omega) | exact Rd.slD 3 rfl (by (try dsimp only) <;> omega) | exact Rd.slD 4 rfl (by (try dsimp only) <;> omega) | exact Rd.slD 5 rfl (by (try dsimp only) <;> omega) | exact Rd.slD 6 rfl (by (try dsimp only) <;> omega) | exact Rd.slD 7 rfl (by (try dsimp only) <;> omega) | exact Rd.slD 8 rfl (by (try dsimp only) <;> omega))
                case h13 => rfl
                refine' WA.yl 15 rfl (by kernel_rfl) rfl rfl (by decide) (Yl.load1 tab_ok rfl rfl rfl (fun _ => rfl) ?r14 rfl ?h14) (by (repeat (first | exact List.Sublist.refl _ | exact List.nil_sublist _ | apply List.Sublist.cons_cons | apply List.Sublist.cons)); done) (RLe.refl _) ?_
                case r14 => exact Rd.slD (c + 6) hrow (by omega)
                case h14 => rfl
                refine WA.eff 16 rfl (by kernel_rfl) rfl rfl (by decide) (Ef.buildSliceD (enc := encI) (parts := [.tmp 90]) [_] tab_ok rfl rfl rfl rfl rfl rfl rfl rfl (by decide) (by decide) (fun a91 => ?_))
                refine ⟨by first | exact RLe.refl _ | assumption, (by (repeat (first | exact List.Sublist.refl _ | exact List.nil_sublist _ | apply List.Sublist.cons_cons | apply List.Sublist.cons)); done), ?_⟩
                refine WA.eff 17 rfl (by kernel_rfl) rfl rfl (by decide) (Ef.appendD (c + 7) 0 tab_ok rfl rfl rfl rfl rfl rfl hrow rfl rfl rfl rfl (fun _ _ => rfl) (by simp only [List.length_cons, List.length_nil]; omega) (by simp only [List.length_cons, List.length_nil]; omega) (fun a92 c92 ha92 => ?_))
                refine ⟨by first | exact RLe.refl _ | assumption, (by (repeat (first | exact List.Sublist.refl _ | exact List.nil_sublist _ | apply List.Sublist.cons_cons | apply List.Sublist.cons)); done), ?_⟩
                refine WA.take 18 rfl (by kernel_rfl) (by kernel_rfl) (by kernel_rfl) rfl rfl (by decide) (Yl.indexN tab_ok rfl rfl rfl rfl rfl rfl (fun _ => rfl) (by intro _; (try dsimp only) <;> omega) (by intro _; first | exact fun _ _ _ _ => rfl | exact RS.has (by assumption) | exact fun _ _ _ _ => (by assumption) | exact HasMem.ownD 0 rfl | exact HasMem.ownD 1 rfl | exact HasMem.ownD 2 rfl | exact HasMem.ownD 3 rfl | exact HasMem.ownD 4 rfl | exact HasMem.ownD 5 rfl | exact HasMem.ownD 6 rfl | exact HasMem.ownD 7 rfl | exact HasMem.ownD 8 rfl)) (by (repeat (first | exact List.Sublist.refl _ | exact List.nil_sublist _ | apply List.Sublist.cons_cons | apply List.Sublist.cons)); done) (by first | exact RLe.refl _ | assumption) ?_
                refine WA.effN 19 rfl (by kernel_rfl) rfl rfl (Ef.storeD (⟨a92, c92, (nth rws c).xs ++ [nth (nth rws c).xs t]⟩ : Sl) 5 tab_ok rfl rfl rfl rfl rfl (by omega) rfl rfl rfl rfl ?_)
                refine ⟨by first | exact RLe.refl _ | assumption, (by (repeat (first | exact List.Sublist.refl _ | exact List.nil_sublist _ | apply List.Sublist.cons_cons | apply List.Sublist.cons)); done), ?_⟩
                refine WA.done (by kernel_rfl) ?_
                refine WE.blk _ ?_
                refine WE.nxt ?_
                refine W.region _ ?_
                refine WG.y rfl rfl (by decide) (Yl.add rfl rfl rfl (fun _ => rfl) (by intro _; constructor <;> (try dsimp only) <;> omega)) ?_
                refine WG.run tab_ok 1 rfl ?_
                refine WG.nil ?_
                refine WE.again (c + 1, rws.set c ⟨a92, c92, (nth rws c).xs ++ [nth (nth rws c).xs t]⟩) ⟨by dsimp only; omega, by dsimp only; rw [List.map_set, g2]; dsimp only; rw [hxs]; exact ext_step (by omega), all_set g3 (ha92 (by simp))⟩ (by dsimp only; omega) ⟨rfl, rfl, rfl, rfl, rfl, rfl, rfl, rfl, rfl, rfl, rfl, rfl, rfl, rfl, rfl, rfl⟩ (RLe.refl _) (by dsimp only; rw [← rows_set (by omega)]; exact List.Sublist.cons _ (List.Sublist.refl _))
              ·
                refine' WS.yl rfl rfl rfl (by decide) (Yl.load1 tab_ok rfl rfl rfl (fun _ => rfl) ?r15 rfl ?h15) (by (repeat (first | exact List.Sublist.refl _ | exact List.nil_sublist _ | apply List.Sublist.cons_cons | apply List.Sublist.cons)); done) (RLe.refl _) ?_
                case r15 => exact Rd.slD (c + 6) hrow (by omega)
                case h15 => rfl
                refine WA.br2 (i := 7) (j := 16) (by kernel_rfl) ?_ ?_
                ·
                  refine' WS.yl rfl rfl rfl (by decide) (Yl.load1 tab_ok rfl rfl rfl (fun _ => rfl) ?r16 rfl ?h16) (by (repeat (first | exact List.Sublist.refl _ | exact List.nil_sublist _ | apply List.Sublist.cons_cons | apply List.Sublist.cons)); done) (RLe.refl _) ?_
                  case r16 => (first | (apply RS.rdD; assumption; ((try dsimp only) <;> omega)) | exact Rd.slD 0 rfl (by (try dsimp only) <;> omega) | exact Rd.slD 1 rfl (by (try dsimp only) <;> omega) | exact Rd.slD 2 rfl (by (try dsimp only) <;> omega) | exact Rd.slD 3 rfl (by (try dsimp only) <;> omega) | exact Rd.slD 4 rfl (by (try dsimp only) <;> omega) | exact Rd.slD 5 rfl (by (try dsimp only) <;> omega) | exact Rd.slD 6 rfl (by (try dsimp only) <;> omega) | exact Rd.slD 7 rfl (by (try dsimp only) <;> omega) | exact Rd.slD 8 rfl (by (try dsimp only) <;> omega))
                  case h16 => rfl
                  refine WA.eff 16 rfl (by kernel_rfl) rfl rfl (by decide) (Ef.buildSliceD (enc := encI) (parts := [.tmp 90]) [_] tab_ok rfl rfl rfl rfl rfl rfl rfl rfl (by decide) (by decide) (fun a91 => ?_))
                  refine ⟨by first | exact RLe.refl _ | assumption, (by (repeat (first | exact List.Sublist.refl _ | exact List.nil_sublist _ | apply List.Sublist.cons_cons | apply List.Sublist.cons)); done), ?_⟩
                  refine WA.eff 17 rfl (by kernel_rfl) rfl rfl (by decide) (Ef.appendD (c + 7) 0 tab_ok rfl rfl rfl rfl rfl rfl hrow rfl rfl rfl rfl (fun _ _ => rfl) (by simp only [List.length_cons, List.length_nil]; omega) (by simp only [List.length_cons, List.length_nil]; omega) (fun a92 c92 ha92 => ?_))
                  refine ⟨by first | exact RLe.refl _ | assumption, (by (repeat (first | exact List.Sublist.refl _ | exact List.nil_sublist _ | apply List.Sublist.cons_cons | apply List.Sublist.cons)); done), ?_⟩
                  refine WA.take 18 rfl (by kernel_rfl) (by kernel_rfl) (by kernel_rfl) rfl rfl (by decide) (Yl.indexN tab_ok rfl rfl rfl rfl rfl rfl (fun _ => rfl) (by intro _; (try dsimp only) <;> omega) (by intro _; first | exact fun _ _ _ _ => rfl | exact RS.has (by assumption) | exact fun _ _ _ _ => (by assumption) | exact HasMem.ownD 0 rfl | exact HasMem.ownD 1 rfl | exact HasMem.ownD 2 rfl | exact HasMem.ownD 3 rfl | exact HasMem.ownD 4 rfl | exact HasMem.ownD 5 rfl | exact HasMem.ownD 6 rfl | exact HasMem.ownD 7 rfl | exact HasMem.ownD 8 rfl)) (by (repeat (first | exact List.Sublist.refl _ | exact List.nil_sublist _ | apply List.Sublist.cons_cons | apply List.Sublist.cons)); done) (by first | exact RLe.refl _ | assumption) ?_
                  refine WA.effN 19 rfl (by kernel_rfl) rfl rfl (Ef.storeD (⟨a92, c92, (nth rws c).xs ++ [nth (nth rws c).xs t]⟩ : Sl) 5 tab_ok rfl rfl rfl rfl rfl (by omega) rfl rfl rfl rfl ?_)
                  refine ⟨by first | exact RLe.refl _ | assumption, (by (repeat (first | exact List.Sublist.refl _ | exact List.nil_sublist _ | apply List.Sublist.cons_cons | apply List.Sublist.cons)); done), ?_⟩
                  refine WA.done (by kernel_rfl) ?_
                  refine WE.blk _ ?_
                  refine WE.nxt ?_
                  refine W.region _ ?_
                  refine WG.y rfl rfl (by decide) (Yl.add rfl rfl rfl (fun _ => rfl) (by intro _; constructor <;> (try dsimp only) <;> omega)) ?_
                  refine WG.run tab_ok 1 rfl ?_
                  refine WG.nil ?_
                  refine WE.again (c + 1, rws.set c ⟨a92, c92, (nth rws c).xs ++ [nth (nth rws c).xs t]⟩) ⟨by dsimp only; omega, by dsimp only; rw [List.map_set, g2]; dsimp only; rw [hxs]; exact ext_step (by omega), all_set g3 (ha92 (by simp))⟩ (by dsimp only; omega) ⟨rfl, rfl, rfl, rfl, rfl, rfl, rfl, rfl, rfl, rfl, rfl, rfl, rfl, rfl, rfl, rfl⟩ (RLe.refl _) (by dsimp only; rw [← rows_set (by omega)]; exact List.Sublist.cons _ (List.Sublist.refl _))
                ·
                  refine WS.eff rfl rfl rfl (by decide) (Ef.buildSliceD (enc := encI) (parts := [.tmp 90]) [_] tab_ok rfl rfl rfl rfl rfl rfl rfl rfl (by decide) (by decide) (fun a91 => ?_))
                  refine ⟨RLe.refl _, (by (repeat (first | exact List.Sublist.refl _ | exact List.nil_sublist _ | apply List.Sublist.cons_cons | apply List.Sublist.cons)); done), ?_⟩
                  refine' WA.yl 7 rfl (by kernel_rfl) rfl rfl (by decide) (Yl.load1 tab_ok rfl rfl rfl (fun _ => rfl) ?r17 rfl ?h17) (by (repeat (first | exact List.Sublist.refl _ | exact List.nil_sublist _ | apply List.Sublist.cons_cons | apply List.Sublist.cons)); done) (RLe.refl _) ?_
                  case r17 => (first | (apply RS.rdD; assumption; ((try dsimp only) <;> omega)) | exact Rd.slD 0 rfl (by (try dsimp only) <;> omega) | exact Rd.slD 1 rfl (by (try dsimp only) <;> omega) | exact Rd.slD 2 rfl (by (try dsimp only) <;> omega) | exact Rd.slD 3 rfl (by (try dsimp only) <;> omega) | exact Rd.slD 4 rfl (by (try dsimp only) <;> omega) | exact Rd.slD 5 rfl (by (try dsimp only) <;> omega) | exact Rd.slD 6 rfl (by (try dsimp only) <;> omega) | exact Rd.slD 7 rfl (by (try dsimp only) <;> omega) | exact Rd.slD 8 rfl (by (try dsimp only) <;> omega))
                  case h17 => rfl
                  refine WA.eff 17 rfl (by kernel_rfl) rfl rfl (by decide) (Ef.appendD (c + 7) 0 tab_ok rfl rfl rfl rfl rfl rfl hrow rfl rfl rfl rfl (fun _ _ => rfl) (by simp only [List.length_cons, List.length_nil]; omega) (by simp only [List.length_cons, List.length_nil]; omega) (fun a92 c92 ha92 => ?_))
                  refine ⟨by first | exact RLe.refl _ | assumption, (by (repeat (first | exact List.Sublist.refl _ | exact List.nil_sublist _ | apply List.Sublist.cons_cons | apply List.Sublist.cons)); done), ?_⟩
                  refine WA.take 18 rfl (by kernel_rfl) (by kernel_rfl) (by kernel_rfl) rfl rfl (by decide) (Yl.indexN tab_ok rfl rfl rfl rfl rfl rfl (fun _ => rfl) (by intro _; (try dsimp only) <;> omega) (by intro _; first | exact fun _ _ _ _ => rfl | exact RS.has (by assumption) | exact fun _ _ _ _ => (by assumption) | exact HasMem.ownD 0 rfl | exact HasMem.ownD 1 rfl | exact HasMem.ownD 2 rfl | exact HasMem.ownD 3 rfl | exact HasMem.ownD 4 rfl | exact HasMem.ownD 5 rfl | exact HasMem.ownD 6 rfl | exact HasMem.ownD 7 rfl | exact HasMem.ownD 8 rfl)) (by (repeat (first | exact List.Sublist.refl _ | exact List.nil_sublist _ | apply List.Sublist.cons_cons | apply List.Sublist.cons)); done) (by first | exact RLe.refl _ | assumption) ?_
                  refine WA.effN 19 rfl (by kernel_rfl) rfl rfl (Ef.storeD (⟨a92, c92, (nth rws c).xs ++ [nth (nth rws c).xs t]⟩ : Sl) 5 tab_ok rfl rfl rfl rfl rfl (by omega) rfl rfl rfl rfl ?_)
                  refine ⟨by first | exact RLe.refl _ | assumption, (by (repeat (first | exact List.Sublist.refl _ | exact List.nil_sublist _ | apply List.Sublist.cons_cons | apply List.Sublist.cons)); done), ?_⟩
                  refine WA.done (by kernel_rfl) ?_
                  refine WE.blk _ ?_
                  refine WE.nxt ?_
                  refine W.region _ ?_
                  refine WG.y rfl rfl (by decide) (Yl.add rfl rfl rfl (fun _ => rfl) (by intro _; constructor <;> (try dsimp only) <;> omega)) ?_
                  refine WG.run tab_ok 1 rfl ?_
                  refine WG.nil ?_
                  refine WE.again (c + 1, rws.set c ⟨a92, c92, (nth rws c).xs ++ [nth (nth rws c).xs t]⟩) ⟨by dsimp only; omega, by dsimp only; rw [List.map_set, g2]; dsimp only; rw [hxs]; exact ext_step (by omega), all_set g3 (ha92 (by simp))⟩ (by dsimp only; omega) ⟨rfl, rfl, rfl, rfl, rfl, rfl, rfl, rfl, rfl, rfl, rfl, rfl, rfl, rfl, rfl, rfl⟩ (RLe.refl _) (by dsimp only; rw [← rows_set (by omega)]; exact List.Sublist.cons _ (List.Sublist.refl _))
          · try dsimp only at hc3
            have hc : c = classes := by omega
            subst c
            have hrx1 : rws.map Sl.xs = s.sent.map (fun l => l ++ [nth l t]) := by rw [g2, List.take_of_length_le (by omega), List.drop_eq_nil_of_le (by omega), List.append_nil]
            refine W.exit ?_
            refine WE.then_exit ?_
            refine WE.then_exit ?_
            refine WE.blk_exit ?_
            refine WE.nxt ?_
            refine W.block ?_
            refine W.loop (β := M.RS σ × List Sl) (fun (s1, rws) => (∃ k : Nat, inner ps ch t k s1 = tick ps ch cap t s ∧ s1.ms.left ≤ k) ∧ (∃ B, Inv ps classes good (t + 2) B s1 ∧ B + s1.ms.left ≤ (t + 1) * cap) ∧ 0 ≤ s1.ms.left ∧ s1.ms.left ≤ cap ∧ s1.ms.now = t ∧ rws.map Sl.xs = s1.sent ∧ ∀ r ∈ rws, r.a.isSome = true) (fun (s1, rws) => [(0, true, .int .i64 cap), (1, true, .int .i64 classes), (2, true, .slice pa ps.length pc), (3, true, .int .i64 ticks), (4, true, .func (.func g) first capd), (10, true, .pointer (some ⟨b10, 0, none⟩)), (11, true, .pointer (some ⟨b11, 0, none⟩)), (14, true, .pointer (some ⟨b56, 0, none⟩)), (15, true, .int .i64 s1.cur), (16, true, .int .i64 s1.rest), (57, true, .int .i64 ticks), (58, true, .int .i64 (t : Int)), (17, true, .int .i64 (t : Int))]) (fun _ => R) (fun (s1, rws) => stE b56 pa ps.length pc a54 s1.ms :: .sl 4 1 (some ⟨a54, 0, none⟩) ps.length (s1.ms.begun.map encB) :: .blk b11 [.slice (some ⟨gd, 0, none⟩) ps.length ps.length, .slice (some ⟨go, 0, none⟩) classes classes] :: .sl 3 1 (some ⟨gd, 0, none⟩) ps.length (s1.done.map encI) :: .sl 23 1 (some ⟨go, 0, none⟩) classes (rws.map encS) :: .blk b10 [.slice none 0 0, .slice none 0 0] :: (rws.map (rowE 3) ++ (X s1.sg ++ F))) (fun (s1, rws) => s1.ms.left.toNat) ((({ s with ms := { s.ms with now := (t : Int), left := cap }, sent := s.sent.map fun l => l ++ [nth l t] } : M.RS σ), rws)) (⟨⟨cap.toNat, rfl, by dsimp only; omega⟩, ⟨_, h3.open hg.free, by dsimp only; rw [Int.add_mul]; omega⟩, by dsimp only; omega, by dsimp only; omega, rfl, hrx1, g3⟩) ⟨rfl, rfl, rfl, rfl, rfl, rfl, rfl, rfl, rfl, rfl, rfl, rfl, rfl, rfl⟩ (RLe.refl _) (by (repeat (first | exact List.Sublist.refl _ | exact List.nil_sublist _ | apply List.Sublist.cons_cons | apply List.Sublist.cons)); done) ?_
            intro st hst
            obtain ⟨s1, rws⟩ := st
            obtain ⟨⟨k, hin, hkk⟩, ⟨B, hinv, hB⟩, hl0, hlc, hnow, hrx1, hra1⟩ := hst
            dsimp only at hin hkk hinv hB hl0 hlc hnow hrx1 hra1 ⊢
            refine W.seq ?_
            refine W.seq ?_
            refine W.region _ ?_
            refine WG.run tab_ok 3 rfl ?_
            refine' WG.y rfl rfl (by decide) (Yl.load1 tab_ok rfl rfl rfl (fun _ => rfl) ?r18 rfl ?h18) ?_
            case r18 => apply Rd.add; (first | exact Rd.blk 0 rfl | exact Rd.blk 1 rfl | exact Rd.blk 2 rfl | exact Rd.blk 3 rfl | exact Rd.blk 4 rfl | exact Rd.blk 5 rfl | exact Rd.blk 6 rfl | exact Rd.blk 7 rfl | exact Rd.blk 8 rfl)
            case h18 => rfl
            refine WG.run tab_ok 1 rfl ?_
            refine WG.nil ?_
            refine WE.nxt ?_
            refine W.condD rfl (fun hc4 => ?_) (fun hc4 => ?_)
            · try dsimp only at hc4
              refine W.skip ?_
              refine WE.nxt ?_
              refine W.block ?_
              refine W.seqCut (β := M.RS σ) (fun s2 => s2 = pickup ps ch s1 ∧ 0 ≤ s2.cur) (fun s2 => [(0, true, .int .i64 cap), (1, true, .int .i64 classes), (2, true, .slice pa ps.length pc), (3, true, .int .i64 ticks), (4, true, .func (.func g) first capd), (10, true, .pointer (some ⟨b10, 0, none⟩)), (11, true, .pointer (some ⟨b11, 0, none⟩)), (14, true, .pointer (some ⟨b56, 0, none⟩)), (15, true, .int .i64 s2.cur), (16, true, .int .i64 s2.rest), (57, true, .int .i64 ticks), (58, true, .int .i64 (t : Int)), (17, true, .int .i64 (t : Int))]) (fun _ => R) (fun s2 => stE b56 pa ps.length pc a54 s2.ms :: .sl 4 1 (some ⟨a54, 0, none⟩) ps.length (s2.ms.begun.map encB) :: .blk b11 [.slice (some ⟨gd, 0, none⟩) ps.length ps.length, .slice (some ⟨go, 0, none⟩) classes classes] :: .sl 3 1 (some ⟨gd, 0, none⟩) ps.length (s2.done.map encI) :: .sl 23 1 (some ⟨go, 0, none⟩) classes (rws.map encS) :: .blk b10 [.slice none 0 0, .slice none 0 0] :: (rws.map (rowE 3) ++ (X s2.sg ++ F))) ?_ ?_
              ·
                intro s2 hst
                obtain ⟨hs2, hcur⟩ := hst
                obtain ⟨e1, e2, e3, e4⟩ := pickup_same ps ch s1
                have hI : Inv ps classes good (t + 2) B s2 := by rw [hs2]; exact hinv.pickup hg hf
                rw [← hs2] at e1 e2 e3 e4
                obtain ⟨c1, c2, c3⟩ := hI.cur hcur
                have hat := hf.at (i := s2.cur.toNat) (by omega)
                have hrx2 : rws.map Sl.xs = s2.sent := by rw [e3]; exact hrx1
                have hlen : rws.length = classes := by rw [← hI.sent, ← hrx2, List.length_map]
                have hf0 : (nth ps s2.cur.toNat).flow.toNat < rws.length := by omega
                have hxs := nth_map_xs hrx2 hf0
                have hsome : (nth rws (nth ps s2.cur.toNat).flow.toNat).a.isSome = true := hra1 _ (nth_mem hf0)
                have hrw := hI.row (i := (nth ps s2.cur.toNat).flow.toNat) (by omega)
                have hxl : (nth rws (nth ps s2.cur.toNat).flow.toNat).xs.length = t + 2 := by rw [hxs]; exact hrw.1
                have hcell : 0 ≤ nth (nth rws (nth ps s2.cur.toNat).flow.toNat).xs (t + 1) ∧ nth (nth rws (nth ps s2.cur.toNat).flow.toNat).xs (t + 1) ≤ B := by rw [hxs]; exact hrw.2 _ (nth_mem (by rw [hrw.1]; omega))
                have hrow := rows_get (e := 3) (G := X s2.sg ++ F) (rows := rws) (c := (nth ps s2.cur.toNat).flow.toNat) hf0
                have hn0 : 1 ≤ (if s2.ms.left < s2.rest then s2.ms.left else s2.rest) ∧ (if s2.ms.left < s2.rest then s2.ms.left else s2.rest) ≤ s2.rest ∧ (if s2.ms.left < s2.rest then s2.ms.left else s2.rest) ≤ s2.ms.left := by split <;> omega
                have hdl := hI.done
                refine W.seq ?_
                refine W.region _ ?_
                refine WG.run tab_ok 4 rfl ?_
                refine' WG.y rfl rfl (by decide) (Yl.load1 tab_ok rfl rfl rfl (fun _ => rfl) ?r19 rfl ?h19) ?_
                case r19 => apply Rd.add; (first | exact Rd.blk 0 rfl | exact Rd.blk 1 rfl | exact Rd.blk 2 rfl | exact Rd.blk 3 rfl | exact Rd.blk 4 rfl | exact Rd.blk 5 rfl | exact Rd.blk 6 rfl | exact Rd.blk 7 rfl | exact Rd.blk 8 rfl)
                case h19 => rfl
                refine WG.run tab_ok 2 rfl ?_
                refine WG.nil ?_
                refine WE.nxt ?_
                refine W.seq ?_
                refine W.regionH _ (ES := [.blk b11 [.slice (some ⟨gd, 0, none⟩) ps.length ps.length, .slice (some ⟨go, 0, none⟩) classes classes], .sl 23 1 (some ⟨go, 0, none⟩) classes (rws.map encS)]) mixed ?_
                refine WA.take 0 rfl (by kernel_rfl) (by kernel_rfl) (by kernel_rfl) rfl rfl (by decide) (pureV_ok tab_ok rfl (fun _ => rfl)) (by (repeat (first | exact List.Sublist.refl _ | exact List.nil_sublist _ | apply List.Sublist.cons_cons | apply List.Sublist.cons)); done) (by first | exact RLe.refl _ | assumption) ?_
                refine' WA.take 1 rfl (by kernel_rfl) (by kernel_rfl) (by kernel_rfl) rfl rfl (by decide) (Yl.load1 tab_ok rfl rfl rfl (fun _ => rfl) ?r20 rfl ?h20) (by (repeat (first | exact List.Sublist.refl _ | exact List.nil_sublist _ | apply List.Sublist.cons_cons | apply List.Sublist.cons)); done) (by first | exact RLe.refl _ | assumption) ?_
                case r20 => apply Rd.add; (first | exact Rd.blk 0 rfl | exact Rd.blk 1 rfl | exact Rd.blk 2 rfl | exact Rd.blk 3 rfl | exact Rd.blk 4 rfl | exact Rd.blk 5 rfl | exact Rd.blk 6 rfl | exact Rd.blk 7 rfl | exact Rd.blk 8 rfl)
                case h20 => rfl
                refine WA.take 2 rfl (by kernel_rfl) (by kernel_rfl) (by kernel_rfl) rfl rfl (by decide) (pureV_ok tab_ok rfl (fun _ => rfl)) (by (repeat (first | exact List.Sublist.refl _ | exact List.nil_sublist _ | apply List.Sublist.cons_cons | apply List.Sublist.cons)); done) (by first | exact RLe.refl _ | assumption) ?_
                refine WA.take 3 rfl (by kernel_rfl) (by kernel_rfl) (by kernel_rfl) rfl rfl (by decide) (pureV_ok tab_ok rfl (fun _ => rfl)) (by (repeat (first | exact List.Sublist.refl _ | exact List.nil_sublist _ | apply List.Sublist.cons_cons | apply List.Sublist.cons)); done) (by first | exact RLe.refl _ | assumption) ?_
                refine WA.take 4 rfl (by kernel_rfl) (by kernel_rfl) (by kernel_rfl) rfl rfl (by decide) (Yl.index tab_ok rfl rfl rfl rfl rfl rfl (fun _ => rfl) (by intro _; constructor <;> (try dsimp only) <;> omega) (by intro _; first | exact fun _ _ _ _ => rfl | exact RS.has (by assumption) | exact fun _ _ _ _ => (by assumption) | exact HasMem.ownD 0 rfl | exact HasMem.ownD 1 rfl | exact HasMem.ownD 2 rfl | exact HasMem.ownD 3 rfl | exact HasMem.ownD 4 rfl | exact HasMem.ownD 5 rfl | exact HasMem.ownD 6 rfl | exact HasMem.ownD 7 rfl | exact HasMem.ownD 8 rfl)) (by (repeat (first | exact List.Sublist.refl _ | exact List.nil_sublist _ | apply List.Sublist.cons_cons | apply List.Sublist.cons)); done) (by first | exact RLe.refl _ | assumption) ?_
                refine WA.take 5 rfl (by kernel_rfl) (by kernel_rfl) (by kernel_rfl) rfl rfl (by decide) (pureV_ok tab_ok rfl (fun _ => rfl)) (by (repeat (first | exact List.Sublist.refl _ | exact List.nil_sublist _ | apply List.Sublist.cons_cons | apply List.Sublist.cons)); done) (by first | exact RLe.refl _ | assumption) ?_
                refine' WA.take 6 rfl (by kernel_rfl) (by kernel_rfl) (by kernel_rfl) rfl rfl (by decide) (Yl.load1 tab_ok rfl rfl rfl (fun _ => rfl) ?r21 rfl ?h21) (by (repeat (first | exact List.Sublist.refl _ | exact List.nil_sublist _ | apply List.Sublist.cons_cons | apply List.Sublist.cons)); done) (by first | exact RLe.refl _ | assumption) ?_
                case r21 => apply Rd.add; (first | (apply RS.rdD; assumption; ((try dsimp only) <;> omega)) | exact Rd.slD 0 rfl (by (try dsimp only) <;> omega) | exact Rd.slD 1 rfl (by (try dsimp only) <;> omega) | exact Rd.slD 2 rfl (by (try dsimp only) <;> omega) | exact Rd.slD 3 rfl (by (try dsimp only) <;> omega) | exact Rd.slD 4 rfl (by (try dsimp only) <;> omega) | exact Rd.slD 5 rfl (by (try dsimp only) <;> omega) | exact Rd.slD 6 rfl (by (try dsimp only) <;> omega) | exact Rd.slD 7 rfl (by (try dsimp only) <;> omega) | exact Rd.slD 8 rfl (by (try dsimp only) <;> omega))
                case h21 => rfl
                refine WA.take 7 rfl (by kernel_rfl) (by kernel_rfl) (by kernel_rfl) rfl rfl (by decide) (Yl.index tab_ok rfl rfl rfl rfl rfl rfl (fun _ => rfl) (by intro _; constructor <;> (try dsimp only) <;> omega) (by intro _; first | exact fun _ _ _ _ => rfl | exact RS.has (by assumption) | exact fun _ _ _ _ => (by assumption) | exact HasMem.ownD 0 rfl | exact HasMem.ownD 1 rfl | exact HasMem.ownD 2 rfl | exact HasMem.ownD 3 rfl | exact HasMem.ownD 4 rfl | exact HasMem.ownD 5 rfl | exact HasMem.ownD 6 rfl | exact HasMem.ownD 7 rfl | exact HasMem.ownD 8 rfl)) (by (repeat (first | exact List.Sublist.refl _ | exact List.nil_sublist _ | apply List.Sublist.cons_cons | apply List.Sublist.cons)); done) (by first | exact RLe.refl _ | assumption) ?_
                refine' WA.take 8 rfl (by kernel_rfl) (by kernel_rfl) (by kernel_rfl) rfl rfl (by decide) (Yl.load1 tab_ok rfl rfl rfl (fun _ => rfl) ?r22 rfl ?h22) (by (repeat (first | exact List.Sublist.refl _ | exact List.nil_sublist _ | apply List.Sublist.cons_cons | apply List.Sublist.cons)); done) (by first | exact RLe.refl _ | assumption) ?_
                case r22 => (first | (apply RS.rdD; assumption; ((try dsimp only) <;> omega)) | exact Rd.slD 0 rfl (by (try dsimp only) <;> omega) | exact Rd.slD 1 rfl (by (try dsimp only) <;> omega) | exact Rd.slD 2 rfl (by (try dsimp only) <;> omega) | exact Rd.slD 3 rfl (by (try dsimp only) <;> omega) | exact Rd.slD 4 rfl (by (try dsimp only) <;> omega) | exact Rd.slD 5 rfl (by (try dsimp only) <;> omega) | exact Rd.slD 6 rfl (by (try dsimp only) <;> omega) | exact Rd.slD 7 rfl (by (try dsimp only) <;> omega) | exact Rd.slD 8 rfl (by (try dsimp only) <;> omega))
                case h22 => rfl
                refine WA.take 9 rfl (by kernel_rfl) (by kernel_rfl) (by kernel_rfl) rfl rfl (by decide) (pureV_ok tab_ok rfl (fun _ => rfl)) (by (repeat (first | exact List.Sublist.refl _ | exact List.nil_sublist _ | apply List.Sublist.cons_cons | apply List.Sublist.cons)); done) (by first | exact RLe.refl _ | assumption) ?_
                refine WA.take 10 rfl (by kernel_rfl) (by kernel_rfl) (by kernel_rfl) rfl rfl (by decide) (Yl.add rfl rfl rfl (fun _ => rfl) (by intro _; constructor <;> (try dsimp only) <;> omega)) (by (repeat (first | exact List.Sublist.refl _ | exact List.nil_sublist _ | apply List.Sublist.cons_cons | apply List.Sublist.cons)); done) (by first | exact RLe.refl _ | assumption) ?_
                refine WA.take 11 rfl (by kernel_rfl) (by kernel_rfl) (by kernel_rfl) rfl rfl (by decide) (Yl.index tab_ok rfl rfl rfl rfl rfl rfl (fun _ => rfl) (by intro _; constructor <;> (try dsimp only) <;> omega) (by intro _; first | exact fun _ _ _ _ => rfl | exact RS.has (by assumption) | exact fun _ _ _ _ => (by assumption) | exact HasMem.ownD 0 rfl | exact HasMem.ownD 1 rfl | exact HasMem.ownD 2 rfl | exact HasMem.ownD 3 rfl | exact HasMem.ownD 4 rfl | exact HasMem.ownD 5 rfl | exact HasMem.ownD 6 rfl | exact HasMem.ownD 7 rfl | exact HasMem.ownD 8 rfl)) (by (repeat (first | exact List.Sublist.refl _ | exact List.nil_sublist _ | apply List.Sublist.cons_cons | apply List.Sublist.cons)); done) (by first | exact RLe.refl _ | assumption) ?_
                refine WA.take 13 rfl (by kernel_rfl) (by kernel_rfl) (by kernel_rfl) rfl rfl (by decide) (pureV_ok tab_ok rfl (fun _ => rfl)) (by (repeat (first | exact List.Sublist.refl _ | exact List.nil_sublist _ | apply List.Sublist.cons_cons | apply List.Sublist.cons)); done) (by first | exact RLe.refl _ | assumption) ?_
                refine' WA.yl 12 rfl (by kernel_rfl) rfl rfl (by decide) (Yl.load1 tab_ok rfl rfl rfl (fun _ => rfl) ?r23 rfl ?h23) (by (repeat (first | exact List.Sublist.refl _ | exact List.nil_sublist _ | apply List.Sublist.cons_cons | apply List.Sublist.cons)); done) (RLe.refl _) ?_
                case r23 => exact Rd.slD ((nth ps s2.cur.toNat).flow.toNat + 6) hrow (show ((t : Int) + 1).toNat < _ by omega)
                case h23 => rfl
                refine WA.take 14 rfl (by kernel_rfl) (by kernel_rfl) (by kernel_rfl) rfl rfl (by decide) (Yl.add rfl rfl rfl (fun _ => rfl) (by intro _; have hq : ((t : Int) + 1).toNat = t + 1 := (by omega); constructor <;> (rw [hq]; omega))) (by (repeat (first | exact List.Sublist.refl _ | exact List.nil_sublist _ | apply List.Sublist.cons_cons | apply List.Sublist.cons)); done) (by first | exact RLe.refl _ | assumption) ?_
                refine WA.take 15 rfl (by kernel_rfl) (by kernel_rfl) (by kernel_rfl) rfl rfl (by decide) (Yl.index tab_ok rfl rfl rfl rfl rfl rfl (fun _ => rfl) (by intro _; constructor <;> (try dsimp only) <;> omega) (by intro _; first | exact fun _ _ _ _ => rfl | exact RS.has (by assumption) | exact fun _ _ _ _ => (by assumption) | exact HasMem.ownD 0 rfl | exact HasMem.ownD 1 rfl | exact HasMem.ownD 2 rfl | exact HasMem.ownD 3 rfl | exact HasMem.ownD 4 rfl | exact HasMem.ownD 5 rfl | exact HasMem.ownD 6 rfl | exact HasMem.ownD 7 rfl | exact HasMem.ownD 8 rfl)) (by (repeat (first | exact List.Sublist.refl _ | exact List.nil_sublist _ | apply List.Sublist.cons_cons | apply List.Sublist.cons)); done) (by first | exact RLe.refl _ | assumption) ?_
                refine WA.effN 16 rfl (by kernel_rfl) rfl rfl (Ef.storeD (enc := encI) (xs := (nth rws (nth ps s2.cur.toNat).flow.toNat).xs) (nth (nth rws (nth ps s2.cur.toNat).flow.toNat).xs (t + 1) + (if s2.ms.left < s2.rest then s2.ms.left else s2.rest)) ((nth ps s2.cur.toNat).flow.toNat + 6) tab_ok rfl rfl rfl rfl hrow (show ((t : Int) + 1).toNat < _ by omega) rfl rfl rfl rfl ?_)
                refine ⟨by first | exact RLe.refl _ | assumption, (by (repeat (first | exact List.Sublist.refl _ | exact List.nil_sublist _ | apply List.Sublist.cons_cons | apply List.Sublist.cons)); done), ?_⟩
                refine WA.done (by kernel_rfl) ?_
                refine WE.nxt ?_
                refine W.perm (E' := stE b56 pa ps.length pc a54 s2.ms :: .sl 4 1 (some ⟨a54, 0, none⟩) ps.length (s2.ms.begun.map encB) :: .blk b11 [.slice (some ⟨gd, 0, none⟩) ps.length ps.length, .slice (some ⟨go, 0, none⟩) classes classes] :: .sl 3 1 (some ⟨gd, 0, none⟩) ps.length (s2.done.map encI) :: .sl 23 1 (some ⟨go, 0, none⟩) classes ((rws.set (nth ps s2.cur.toNat).flow.toNat ⟨(nth rws (nth ps s2.cur.toNat).flow.toNat).a, (nth rws (nth ps s2.cur.toNat).flow.toNat).cap, (nth rws (nth ps s2.cur.toNat).flow.toNat).xs.set (t + 1) (nth (nth rws (nth ps s2.cur.toNat).flow.toNat).xs (t + 1) + (if s2.ms.left < s2.rest then s2.ms.left else s2.rest))⟩).map encS) :: .blk b10 [.slice none 0 0, .slice none 0 0] :: ((rws.set (nth ps s2.cur.toNat).flow.toNat ⟨(nth rws (nth ps s2.cur.toNat).flow.toNat).a, (nth rws (nth ps s2.cur.toNat).flow.toNat).cap, (nth rws (nth ps s2.cur.toNat).flow.toNat).xs.set (t + 1) (nth (nth rws (nth ps s2.cur.toNat).flow.toNat).xs (t + 1) + (if s2.ms.left < s2.rest then s2.ms.left else s2.rest))⟩).map (rowE 3) ++ (X s2.sg ++ F))) (by rw [← rows_set hf0, encS_set hf0 (by simp)] <;> exact List.Perm.refl _) ?_
                refine W.seq ?_
                refine W.region _ ?_
                refine WG.run tab_ok 2 rfl ?_
                refine WG.y rfl rfl (by decide) (Yl.sub rfl rfl rfl (fun _ => rfl) (by intro _; constructor <;> (try dsimp only) <;> omega)) ?_
                refine WG.run tab_ok 1 rfl ?_
                refine WG.nil ?_
                refine WE.nxt ?_
                refine W.seq ?_
                refine W.region _ ?_
                refine WG.run tab_ok 3 rfl ?_
                refine' WG.y rfl rfl (by decide) (Yl.load1 tab_ok rfl rfl rfl (fun _ => rfl) ?r24 rfl ?h24) ?_
                case r24 => apply Rd.add; (first | exact Rd.blk 0 rfl | exact Rd.blk 1 rfl | exact Rd.blk 2 rfl | exact Rd.blk 3 rfl | exact Rd.blk 4 rfl | exact Rd.blk 5 rfl | exact Rd.blk 6 rfl | exact Rd.blk 7 rfl | exact Rd.blk 8 rfl)
                case h24 => rfl
                refine WG.run tab_ok 1 rfl ?_
                refine WG.y rfl rfl (by decide) (Yl.sub rfl rfl rfl (fun _ => rfl) (by intro _; constructor <;> (try dsimp only) <;> omega)) ?_
                refine WG.run tab_ok 2 rfl ?_
                first | refine WL.efN rfl rfl (Ef.store 0 tab_ok rfl rfl rfl rfl rfl rfl rfl rfl ?_) | refine WL.efN rfl rfl (Ef.store 1 tab_ok rfl rfl rfl rfl rfl rfl rfl rfl ?_) | refine WL.efN rfl rfl (Ef.store 2 tab_ok rfl rfl rfl rfl rfl rfl rfl rfl ?_) | refine WL.efN rfl rfl (Ef.store 3 tab_ok rfl rfl rfl rfl rfl rfl rfl rfl ?_) | refine WL.efN rfl rfl (Ef.store 4 tab_ok rfl rfl rfl rfl rfl rfl rfl rfl ?_) | refine WL.efN rfl rfl (Ef.store 5 tab_ok rfl rfl rfl rfl rfl rfl rfl rfl ?_) | refine WL.efN rfl rfl (Ef.store 6 tab_ok rfl rfl rfl rfl rfl rfl rfl rfl ?_) | refine WL.efN rfl rfl (Ef.store 7 tab_ok rfl rfl rfl rfl rfl rfl rfl rfl ?_) | refine WL.efN rfl rfl (Ef.store 8 tab_ok rfl rfl rfl rfl rfl rfl rfl rfl ?_)
                refine WG.nil ?_
                refine WE.nxt ?_
                refine W.seq ?_
                refine W.region _ ?_
                refine WG.run tab_ok 2 rfl ?_
                refine WG.nil ?_
                refine WE.nxt ?_
                refine W.condE rfl (fun hc5 => ?_) (fun hc5 => ?_)
                · try dsimp only at hc5
                  refine W.seq ?_
                  refine W.region _ ?_
                  refine WG.run tab_ok 1 rfl ?_
                  refine' WG.y rfl rfl (by decide) (Yl.load1 tab_ok rfl rfl rfl (fun _ => rfl) ?r25 rfl ?h25) ?_
                  case r25 => apply Rd.add; (first | exact Rd.blk 0 rfl | exact Rd.blk 1 rfl | exact Rd.blk 2 rfl | exact Rd.blk 3 rfl | exact Rd.blk 4 rfl | exact Rd.blk 5 rfl | exact Rd.blk 6 rfl | exact Rd.blk 7 rfl | exact Rd.blk 8 rfl)
                  case h25 => rfl
                  refine WG.run tab_ok 2 rfl ?_
                  refine WG.y rfl rfl (by decide) (Yl.index tab_ok rfl rfl rfl rfl rfl rfl (fun _ => rfl) (by intro _; constructor <;> (try dsimp only) <;> omega) (by intro _; first | exact fun _ _ _ _ => rfl | exact RS.has (by assumption) | exact fun _ _ _ _ => (by assumption) | exact HasMem.ownD 0 rfl | exact HasMem.ownD 1 rfl | exact HasMem.ownD 2 rfl | exact HasMem.ownD 3 rfl | exact HasMem.ownD 4 rfl | exact HasMem.ownD 5 rfl | exact HasMem.ownD 6 rfl | exact HasMem.ownD 7 rfl | exact HasMem.ownD 8 rfl)) ?_
                  first | refine WL.efN rfl rfl (Ef.storeD _ 0 tab_ok rfl rfl rfl rfl rfl (by (try dsimp only) <;> omega) rfl rfl rfl rfl ?_) | refine WL.efN rfl rfl (Ef.storeD _ 1 tab_ok rfl rfl rfl rfl rfl (by (try dsimp only) <;> omega) rfl rfl rfl rfl ?_) | refine WL.efN rfl rfl (Ef.storeD _ 2 tab_ok rfl rfl rfl rfl rfl (by (try dsimp only) <;> omega) rfl rfl rfl rfl ?_) | refine WL.efN rfl rfl (Ef.storeD _ 3 tab_ok rfl rfl rfl rfl rfl (by (try dsimp only) <;> omega) rfl rfl rfl rfl ?_) | refine WL.efN rfl rfl (Ef.storeD _ 4 tab_ok rfl rfl rfl rfl rfl (by (try dsimp only) <;> omega) rfl rfl rfl rfl ?_) | refine WL.efN rfl rfl (Ef.storeD _ 5 tab_ok rfl rfl rfl rfl rfl (by (try dsimp only) <;> omega) rfl rfl rfl rfl ?_) | refine WL.efN rfl rfl (Ef.storeD _ 6 tab_ok rfl rfl rfl rfl rfl (by (try dsimp only) <;> omega) rfl rfl rfl rfl ?_) | refine WL.efN rfl rfl (Ef.storeD _ 7 tab_ok rfl rfl rfl rfl rfl (by (try dsimp only) <;> omega) rfl rfl rfl rfl ?_) | refine WL.efN rfl rfl (Ef.storeD _ 8 tab_ok rfl rfl rfl rfl rfl (by (try dsimp only) <;> omega) rfl rfl rfl rfl ?_)
                  refine WG.nil ?_
                  refine WE.nxt ?_
                  refine W.region _ ?_
                  refine WG.run tab_ok 1 rfl ?_
                  refine WG.nil ?_
                  refine WE.blk _ ?_
                  have hsend : send ps t s2 = ({ s2 with sent := s2.sent.set (nth ps s2.cur.toNat).flow.toNat ((nth s2.sent (nth ps s2.cur.toNat).flow.toNat).set (t + 1) (nth (nth s2.sent (nth ps s2.cur.toNat).flow.toNat) (t + 1) + (if s2.ms.left < s2.rest then s2.ms.left else s2.rest))), rest := s2.rest - (if s2.ms.left < s2.rest then s2.ms.left else s2.rest), ms := { s2.ms with left := s2.ms.left - (if s2.ms.left < s2.rest then s2.ms.left else s2.rest) }, done := s2.done.set s2.cur.toNat t, cur := -1 } : M.RS σ) := by unfold M.send; dsimp only; simp only [if_pos hc5]
                  refine WE.again (({ s2 with sent := s2.sent.set (nth ps s2.cur.toNat).flow.toNat ((nth s2.sent (nth ps s2.cur.toNat).flow.toNat).set (t + 1) (nth (nth s2.sent (nth ps s2.cur.toNat).flow.toNat) (t + 1) + (if s2.ms.left < s2.rest then s2.ms.left else s2.rest))), rest := s2.rest - (if s2.ms.left < s2.rest then s2.ms.left else s2.rest), ms := { s2.ms with left := s2.ms.left - (if s2.ms.left < s2.rest then s2.ms.left else s2.rest) }, done := s2.done.set s2.cur.toNat t, cur := -1 } : M.RS σ), (rws.set (nth ps s2.cur.toNat).flow.toNat ⟨(nth rws (nth ps s2.cur.toNat).flow.toNat).a, (nth rws (nth ps s2.cur.toNat).flow.toNat).cap, (nth rws (nth ps s2.cur.toNat).flow.toNat).xs.set (t + 1) (nth (nth rws (nth ps s2.cur.toNat).flow.toNat).xs (t + 1) + (if s2.ms.left < s2.rest then s2.ms.left else s2.rest))⟩)) ⟨⟨k - 1, by dsimp only; rw [← hsend, hs2, ← inner_some hkk hc4 (by rw [← hs2]; exact hcur)]; exact hin, by dsimp only; omega⟩, ⟨_, by dsimp only; rw [← hsend]; exact (hI.send hf hg.free (t := t) (by omega) hcur (by omega)).1, by dsimp only; rw [hsend]; dsimp only; omega⟩, by dsimp only; omega, by dsimp only; omega, by dsimp only; omega, by dsimp only; rw [List.map_set, hrx2, ← hxs], all_set hra1 hsome⟩ (by dsimp only; omega) ⟨rfl, rfl, rfl, rfl, rfl, rfl, rfl, rfl, rfl, rfl, rfl, rfl, rfl, rfl⟩ (RLe.refl _) (by (repeat (first | exact List.Sublist.refl _ | exact List.nil_sublist _ | apply List.Sublist.cons_cons | apply List.Sublist.cons)); done)
                · try dsimp only at hc5
                  refine W.skip ?_
                  refine WE.blk _ ?_
                  have hsend : send ps t s2 = ({ s2 with sent := s2.sent.set (nth ps s2.cur.toNat).flow.toNat ((nth s2.sent (nth ps s2.cur.toNat).flow.toNat).set (t + 1) (nth (nth s2.sent (nth ps s2.cur.toNat).flow.toNat) (t + 1) + (if s2.ms.left < s2.rest then s2.ms.left else s2.rest))), rest := s2.rest - (if s2.ms.left < s2.rest then s2.ms.left else s2.rest), ms := { s2.ms with left := s2.ms.left - (if s2.ms.left < s2.rest then s2.ms.left else s2.rest) }, done := s2.done, cur := s2.cur } : M.RS σ) := by unfold M.send; dsimp only; simp only [if_neg hc5]
                  refine WE.again (({ s2 with sent := s2.sent.set (nth ps s2.cur.toNat).flow.toNat ((nth s2.sent (nth ps s2.cur.toNat).flow.toNat).set (t + 1) (nth (nth s2.sent (nth ps s2.cur.toNat).flow.toNat) (t + 1) + (if s2.ms.left < s2.rest then s2.ms.left else s2.rest))), rest := s2.rest - (if s2.ms.left < s2.rest then s2.ms.left else s2.rest), ms := { s2.ms with left := s2.ms.left - (if s2.ms.left < s2.rest then s2.ms.left else s2.rest) }, done := s2.done, cur := s2.cur } : M.RS σ), (rws.set (nth ps s2.cur.toNat).flow.toNat ⟨(nth rws (nth ps s2.cur.toNat).flow.toNat).a, (nth rws (nth ps s2.cur.toNat).flow.toNat).cap, (nth rws (nth ps s2.cur.toNat).flow.toNat).xs.set (t + 1) (nth (nth rws (nth ps s2.cur.toNat).flow.toNat).xs (t + 1) + (if s2.ms.left < s2.rest then s2.ms.left else s2.rest))⟩)) ⟨⟨k - 1, by dsimp only; rw [← hsend, hs2, ← inner_some hkk hc4 (by rw [← hs2]; exact hcur)]; exact hin, by dsimp only; omega⟩, ⟨_, by dsimp only; rw [← hsend]; exact (hI.send hf hg.free (t := t) (by omega) hcur (by omega)).1, by dsimp only; rw [hsend]; dsimp only; omega⟩, by dsimp only; omega, by dsimp only; omega, by dsimp only; omega, by dsimp only; rw [List.map_set, hrx2, ← hxs], all_set hra1 hsome⟩ (by dsimp only; omega) ⟨rfl, rfl, rfl, rfl, rfl, rfl, rfl, rfl, rfl, rfl, rfl, rfl, rfl, rfl⟩ (RLe.refl _) (by (repeat (first | exact List.Sublist.refl _ | exact List.nil_sublist _ | apply List.Sublist.cons_cons | apply List.Sublist.cons)); done)
              ·
                refine W.seq ?_
                refine W.region _ ?_
                refine WG.run tab_ok 2 rfl ?_
                refine WG.nil ?_
                refine WE.nxt ?_
                refine W.condD rfl (fun hc6 => ?_) (fun hc6 => ?_)
                · try dsimp only at hc6
                  refine W.seq ?_
                  refine W.seq ?_
                  refine W.region _ ?_
                  refine WG.run tab_ok 2 rfl ?_
                  refine WL.perm perm_choice ?_
                  refine WL.call hen rfl rfl (by decide) (CallOp.mkT rfl rfl rfl rfl) (hch _ _ s1.ms s1.sg _ hinv.good hinv.begun hc4 hlc (by omega) (by omega)) ?_
                  rintro _ _ _ - ⟨rfl, rfl, rfl⟩
                  refine WL.perm perm_choice.symm ?_
                  refine WG.run tab_ok 1 rfl ?_
                  refine WG.nil ?_
                  refine WE.nxt ?_
                  refine W.seq ?_
                  refine W.region _ ?_
                  refine WG.run tab_ok 2 rfl ?_
                  refine WG.nil ?_
                  refine WE.nxt ?_
                  refine W.condD rfl (fun hc7 => ?_) (fun hc7 => ?_)
                  · try dsimp only at hc7
                    have hpick : pickup ps ch s1 = ({ s1 with cur := (ch s1.ms s1.sg).1, ms := { s1.ms with before := (ch s1.ms s1.sg).2.1 }, sg := (ch s1.ms s1.sg).2.2 } : M.RS σ) := by unfold M.pickup; rw [if_neg (by omega)]; dsimp only; rw [if_pos hc7]
                    have htk1 : tick ps ch cap t s = ({ s1 with cur := (ch s1.ms s1.sg).1, ms := { s1.ms with before := (ch s1.ms s1.sg).2.1 }, sg := (ch s1.ms s1.sg).2.2 } : M.RS σ) := by rw [← hpick, ← hin, inner_none hkk hc4 (by rw [hpick]; exact hc7)]
                    refine W.exit ?_
                    refine WE.then_exit ?_
                    refine WE.then_exit ?_
                    refine WE.blk_other rfl ?_
                    refine WE.then_exit ?_
                    refine WE.blk_exit ?_
                    refine WE.blk _ ?_
                    refine WE.nxt ?_
                    refine W.region _ ?_
                    refine WG.y rfl rfl (by decide) (Yl.add rfl rfl rfl (fun _ => rfl) (by intro _; constructor <;> (try dsimp only) <;> omega)) ?_
                    refine WG.run tab_ok 1 rfl ?_
                    refine WG.nil ?_
                    have hI2 : Inv ps classes good (t + 2) ((t + 1) * cap) ({ s1 with cur := (ch s1.ms s1.sg).1, ms := { s1.ms with before := (ch s1.ms s1.sg).2.1 }, sg := (ch s1.ms s1.sg).2.2 } : M.RS σ) := by rw [← hpick]; exact (hinv.pickup hg hf).mono (by omega)
                    refine WE.again (t + 1, ({ s1 with cur := (ch s1.ms s1.sg).1, ms := { s1.ms with before := (ch s1.ms s1.sg).2.1 }, sg := (ch s1.ms s1.sg).2.2 } : M.RS σ), rws) ⟨by dsimp only; omega, by dsimp only; rw [← htk1, ← h2, show ticks - t = (ticks - (t + 1)) + 1 by omega, ticksFrom], by dsimp only; simpa using hI2, hrx1, hra1⟩ (by dsimp only; omega) ⟨rfl, rfl, rfl, rfl, rfl, rfl, rfl, rfl, rfl, rfl, rfl, rfl, rfl⟩ (RLe.refl _) (by (repeat (first | exact List.Sublist.refl _ | exact List.nil_sublist _ | apply List.Sublist.cons_cons | apply List.Sublist.cons)); done)
                  · try dsimp only at hc7
                    have hpick : pickup ps ch s1 = ({ s1 with cur := (ch s1.ms s1.sg).1, rest := (nth ps (ch s1.ms s1.sg).1.toNat).size, ms := { s1.ms with before := (ch s1.ms s1.sg).2.1, begun := s1.ms.begun.set (ch s1.ms s1.sg).1.toNat true }, sg := (ch s1.ms s1.sg).2.2 } : M.RS σ) := by unfold M.pickup; rw [if_neg (by omega)]; dsimp only; rw [if_neg hc7]
                    have hidx := hg.idx _ _ hinv.good hinv.begun (by omega)
                    have hbl := hinv.begun
                    refine W.skip ?_
                    refine WE.nxt ?_
                    refine W.regionH _ (ES := [stE b56 pa ps.length pc a54 { s1.ms with before := (ch s1.ms s1.sg).2.1 }]) mixed ?_
                    refine WA.take 0 rfl (by kernel_rfl) (by kernel_rfl) (by kernel_rfl) rfl rfl (by decide) (pureV_ok tab_ok rfl (fun _ => rfl)) (by (repeat (first | exact List.Sublist.refl _ | exact List.nil_sublist _ | apply List.Sublist.cons_cons | apply List.Sublist.cons)); done) (by first | exact RLe.refl _ | assumption) ?_
                    refine WA.take 1 rfl (by kernel_rfl) (by kernel_rfl) (by kernel_rfl) rfl rfl (by decide) (pureV_ok tab_ok rfl (fun _ => rfl)) (by (repeat (first | exact List.Sublist.refl _ | exact List.nil_sublist _ | apply List.Sublist.cons_cons | apply List.Sublist.cons)); done) (by first | exact RLe.refl _ | assumption) ?_
                    refine WA.take 2 rfl (by kernel_rfl) (by kernel_rfl) (by kernel_rfl) rfl rfl (by decide) (pureV_ok tab_ok rfl (fun _ => rfl)) (by (repeat (first | exact List.Sublist.refl _ | exact List.nil_sublist _ | apply List.Sublist.cons_cons | apply List.Sublist.cons)); done) (by first | exact RLe.refl _ | assumption) ?_
                    refine' WA.take 3 rfl (by kernel_rfl) (by kernel_rfl) (by kernel_rfl) rfl rfl (by decide) (Yl.load1 tab_ok rfl rfl rfl (fun _ => rfl) ?r26 rfl ?h26) (by (repeat (first | exact List.Sublist.refl _ | exact List.nil_sublist _ | apply List.Sublist.cons_cons | apply List.Sublist.cons)); done) (by first | exact RLe.refl _ | assumption) ?_
                    case r26 => apply Rd.add; (first | exact Rd.blk 0 rfl | exact Rd.blk 1 rfl | exact Rd.blk 2 rfl | exact Rd.blk 3 rfl | exact Rd.blk 4 rfl | exact Rd.blk 5 rfl | exact Rd.blk 6 rfl | exact Rd.blk 7 rfl | exact Rd.blk 8 rfl)
                    case h26 => rfl
                    refine WA.take 4 rfl (by kernel_rfl) (by kernel_rfl) (by kernel_rfl) rfl rfl (by decide) (pureV_ok tab_ok rfl (fun _ => rfl)) (by (repeat (first | exact List.Sublist.refl _ | exact List.nil_sublist _ | apply List.Sublist.cons_cons | apply List.Sublist.cons)); done) (by first | exact RLe.refl _ | assumption) ?_
                    refine WA.take 5 rfl (by kernel_rfl) (by kernel_rfl) (by kernel_rfl) rfl rfl (by decide) (pureV_ok tab_ok rfl (fun _ => rfl)) (by (repeat (first | exact List.Sublist.refl _ | exact List.nil_sublist _ | apply List.Sublist.cons_cons | apply List.Sublist.cons)); done) (by first | exact RLe.refl _ | assumption) ?_
                    refine WA.take 6 rfl (by kernel_rfl) (by kernel_rfl) (by kernel_rfl) rfl rfl (by decide) (pureV_ok tab_ok rfl (fun _ => rfl)) (by (repeat (first | exact List.Sublist.refl _ | exact List.nil_sublist _ | apply List.Sublist.cons_cons | apply List.Sublist.cons)); done) (by first | exact RLe.refl _ | assumption) ?_
                    refine WA.take 7 rfl (by kernel_rfl) (by kernel_rfl) (by kernel_rfl) rfl rfl (by decide) (Yl.index tab_ok rfl rfl rfl rfl rfl rfl (fun _ => rfl) (by intro _; constructor <;> (try dsimp only) <;> omega) (by intro _; first | exact fun _ _ _ _ => rfl | exact RS.has (by assumption) | exact fun _ _ _ _ => (by assumption) | exact HasMem.ownD 0 rfl | exact HasMem.ownD 1 rfl | exact HasMem.ownD 2 rfl | exact HasMem.ownD 3 rfl | exact HasMem.ownD 4 rfl | exact HasMem.ownD 5 rfl | exact HasMem.ownD 6 rfl | exact HasMem.ownD 7 rfl | exact HasMem.ownD 8 rfl)) (by (repeat (first | exact List.Sublist.refl _ | exact List.nil_sublist _ | apply List.Sublist.cons_cons | apply List.Sublist.cons)); done) (by first | exact RLe.refl _ | assumption) ?_
                    refine WA.take 8 rfl (by kernel_rfl) (by kernel_rfl) (by kernel_rfl) rfl rfl (by decide) (pureV_ok tab_ok rfl (fun _ => rfl)) (by (repeat (first | exact List.Sublist.refl _ | exact List.nil_sublist _ | apply List.Sublist.cons_cons | apply List.Sublist.cons)); done) (by first | exact RLe.refl _ | assumption) ?_
                    refine' WA.take 9 rfl (by kernel_rfl) (by kernel_rfl) (by kernel_rfl) rfl rfl (by decide) (Yl.load1 tab_ok rfl rfl rfl (fun _ => rfl) ?r27 rfl ?h27) (by (repeat (first | exact List.Sublist.refl _ | exact List.nil_sublist _ | apply List.Sublist.cons_cons | apply List.Sublist.cons)); done) (by first | exact RLe.refl _ | assumption) ?_
                    case r27 => apply Rd.add; (first | (apply RS.rdD; assumption; ((try dsimp only) <;> omega)) | exact Rd.slD 0 rfl (by (try dsimp only) <;> omega) | exact Rd.slD 1 rfl (by (try dsimp only) <;> omega) | exact Rd.slD 2 rfl (by (try dsimp only) <;> omega) | exact Rd.slD 3 rfl (by (try dsimp only) <;> omega) | exact Rd.slD 4 rfl (by (try dsimp only) <;> omega) | exact Rd.slD 5 rfl (by (try dsimp only) <;> omega) | exact Rd.slD 6 rfl (by (try dsimp only) <;> omega) | exact Rd.slD 7 rfl (by (try dsimp only) <;> omega) | exact Rd.slD 8 rfl (by (try dsimp only) <;> omega))
                    case h27 => rfl
                    refine WA.take 10 rfl (by kernel_rfl) (by kernel_rfl) (by kernel_rfl) rfl rfl (by decide) (Yl.index tab_ok rfl rfl rfl rfl rfl rfl (fun _ => rfl) (by intro _; constructor <;> (try dsimp only) <;> omega) (by intro _; first | exact fun _ _ _ _ => rfl | exact RS.has (by assumption) | exact fun _ _ _ _ => (by assumption) | exact HasMem.ownD 0 rfl | exact HasMem.ownD 1 rfl | exact HasMem.ownD 2 rfl | exact HasMem.ownD 3 rfl | exact HasMem.ownD 4 rfl | exact HasMem.ownD 5 rfl | exact HasMem.ownD 6 rfl | exact HasMem.ownD 7 rfl | exact HasMem.ownD 8 rfl)) (by (repeat (first | exact List.Sublist.refl _ | exact List.nil_sublist _ | apply List.Sublist.cons_cons | apply List.Sublist.cons)); done) (by first | exact RLe.refl _ | assumption) ?_
                    first | refine WA.effN 11 rfl (by kernel_rfl) rfl rfl (Ef.storeD _ 0 tab_ok rfl rfl rfl rfl rfl (by (try dsimp only) <;> omega) rfl rfl rfl rfl ?_) | refine WA.effN 11 rfl (by kernel_rfl) rfl rfl (Ef.storeD _ 1 tab_ok rfl rfl rfl rfl rfl (by (try dsimp only) <;> omega) rfl rfl rfl rfl ?_) | refine WA.effN 11 rfl (by kernel_rfl) rfl rfl (Ef.storeD _ 2 tab_ok rfl rfl rfl rfl rfl (by (try dsimp only) <;> omega) rfl rfl rfl rfl ?_) | refine WA.effN 11 rfl (by kernel_rfl) rfl rfl (Ef.storeD _ 3 tab_ok rfl rfl rfl rfl rfl (by (try dsimp only) <;> omega) rfl rfl rfl rfl ?_) | refine WA.effN 11 rfl (by kernel_rfl) rfl rfl (Ef.storeD _ 4 tab_ok rfl rfl rfl rfl rfl (by (try dsimp only) <;> omega) rfl rfl rfl rfl ?_) | refine WA.effN 11 rfl (by kernel_rfl) rfl rfl (Ef.storeD _ 5 tab_ok rfl rfl rfl rfl rfl (by (try dsimp only) <;> omega) rfl rfl rfl rfl ?_) | refine WA.effN 11 rfl (by kernel_rfl) rfl rfl (Ef.storeD _ 6 tab_ok rfl rfl rfl rfl rfl (by (try dsimp only) <;> omega) rfl rfl rfl rfl ?_) | refine WA.effN 11 rfl (by kernel_rfl) rfl rfl (Ef.storeD _ 7 tab_ok rfl rfl rfl rfl rfl (by (try dsimp only) <;> omega) rfl rfl rfl rfl ?_) | refine WA.effN 11 rfl (by kernel_rfl) rfl rfl (Ef.storeD _ 8 tab_ok rfl rfl rfl rfl rfl (by (try dsimp only) <;> omega) rfl rfl rfl rfl ?_)
                    refine ⟨by first | exact RLe.refl _ | assumption, (by (repeat (first | exact List.Sublist.refl _ | exact List.nil_sublist _ | apply List.Sublist.cons_cons | apply List.Sublist.cons)); done), ?_⟩
                    refine WA.take 12 rfl (by kernel_rfl) (by kernel_rfl) (by kernel_rfl) rfl rfl (by decide) (pureV_ok tab_ok rfl (fun _ => rfl)) (by (repeat (first | exact List.Sublist.refl _ | exact List.nil_sublist _ | apply List.Sublist.cons_cons | apply List.Sublist.cons)); done) (by first | exact RLe.refl _ | assumption) ?_
                    refine WA.done (by kernel_rfl) ?_
                    refine WE.cut ({ s1 with cur := (ch s1.ms s1.sg).1, rest := (nth ps (ch s1.ms s1.sg).1.toNat).size, ms := { s1.ms with before := (ch s1.ms s1.sg).2.1, begun := s1.ms.begun.set (ch s1.ms s1.sg).1.toNat true }, sg := (ch s1.ms s1.sg).2.2 } : M.RS σ) ⟨hpick.symm, by dsimp only; omega⟩ ⟨rfl, rfl, rfl, rfl, rfl, rfl, rfl, rfl, rfl, rfl, rfl, rfl, rfl, rfl⟩ (RLe.refl _) (by (repeat (first | exact List.Sublist.refl _ | exact List.nil_sublist _ | apply List.Sublist.cons_cons | apply List.Sublist.cons)); done)
                · try dsimp only at hc6
                  refine W.skip ?_
                  refine WE.cut s1 ⟨by unfold M.pickup; rw [if_pos (by omega)], by omega⟩ ⟨rfl, rfl, rfl, rfl, rfl, rfl, rfl, rfl, rfl, rfl, rfl, rfl, rfl, rfl⟩ (RLe.refl _) (by (repeat (first | exact List.Sublist.refl _ | exact List.nil_sublist _ | apply List.Sublist.cons_cons | apply List.Sublist.cons)); done)
            · try dsimp only at hc4
              have htk1 : tick ps ch cap t s = s1 := by rw [← hin, inner_stop (by omega)]
              refine W.exit ?_
              refine WE.then_exit ?_
              refine WE.then_exit ?_
              refine WE.blk_exit ?_
              refine WE.blk _ ?_
              refine WE.nxt ?_
              refine W.region _ ?_
              refine WG.y rfl rfl (by decide) (Yl.add rfl rfl rfl (fun _ => rfl) (by intro _; constructor <;> (try dsimp only) <;> omega)) ?_
              refine WG.run tab_ok 1 rfl ?_
              refine WG.nil ?_
              have hI2 : Inv ps classes good (t + 2) ((t + 1) * cap) s1 := hinv.mono (by omega)
              refine WE.again (t + 1, s1, rws) ⟨by dsimp only; omega, by dsimp only; rw [← htk1, ← h2, show ticks - t = (ticks - (t + 1)) + 1 by omega, ticksFrom], by dsimp only; simpa using hI2, hrx1, hra1⟩ (by dsimp only; omega) ⟨rfl, rfl, rfl, rfl, rfl, rfl, rfl, rfl, rfl, rfl, rfl, rfl, rfl⟩ (RLe.refl _) (by (repeat (first | exact List.Sublist.refl _ | exact List.nil_sublist _ | apply List.Sublist.cons_cons | apply List.Sublist.cons)); done)
        · try dsimp only at hc2
          have ht : t = ticks := by omega
          subst t
          rw [Nat.sub_self] at h2
          refine W.exit ?_
          refine WE.then_exit ?_
          refine WE.then_exit ?_
          refine WE.blk_exit ?_
          refine WE.nxt ?_
          refine W.seq ?_
          refine W.region _ ?_
          refine' WG.y rfl rfl (by decide) (Yl.load1 tab_ok rfl rfl rfl (fun _ => rfl) ?r28 rfl ?h28) ?_
          case r28 => (first | exact Rd.blk 0 rfl | exact Rd.blk 1 rfl | exact Rd.blk 2 rfl | exact Rd.blk 3 rfl | exact Rd.blk 4 rfl | exact Rd.blk 5 rfl | exact Rd.blk 6 rfl | exact Rd.blk 7 rfl | exact Rd.blk 8 rfl)
          case h28 => rfl
          first | refine WL.efN rfl rfl (Ef.store0 0 tab_ok rfl rfl rfl rfl rfl rfl rfl rfl ?_) | refine WL.efN rfl rfl (Ef.store0 1 tab_ok rfl rfl rfl rfl rfl rfl rfl rfl ?_) | refine WL.efN rfl rfl (Ef.store0 2 tab_ok rfl rfl rfl rfl rfl rfl rfl rfl ?_) | refine WL.efN rfl rfl (Ef.store0 3 tab_ok rfl rfl rfl rfl rfl rfl rfl rfl ?_) | refine WL.efN rfl rfl (Ef.store0 4 tab_ok rfl rfl rfl rfl rfl rfl rfl rfl ?_) | refine WL.efN rfl rfl (Ef.store0 5 tab_ok rfl rfl rfl rfl rfl rfl rfl rfl ?_) | refine WL.efN rfl rfl (Ef.store0 6 tab_ok rfl rfl rfl rfl rfl rfl rfl rfl ?_) | refine WL.efN rfl rfl (Ef.store0 7 tab_ok rfl rfl rfl rfl rfl rfl rfl rfl ?_) | refine WL.efN rfl rfl (Ef.store0 8 tab_ok rfl rfl rfl rfl rfl rfl rfl rfl ?_)
          refine WG.nil ?_
          refine WE.nxt ?_
          refine W.ret ?_
          refine WE.retF tab_ok [_] rfl ⟨⟨_, _, _, rfl, rfl, rfl, (Rd.blk 5 rfl), rfl⟩, trivial⟩ (RLe.refl _) ?_
          exact ⟨rows, gd, go, s, h2, rfl, rfl, h4, h5, h3, (by (repeat (first | exact List.Sublist.refl _ | exact List.nil_sublist _ | apply List.Sublist.cons_cons | apply List.Sublist.cons)); done)⟩
  ·
    refine W.regionH _ (ES := []) mixed ?_
    refine WA.take 0 rfl (by kernel_rfl) (by kernel_rfl) (by kernel_rfl) rfl rfl (by decide) (pureV_ok tab_ok rfl (fun _ => rfl)) (by (repeat (first | exact List.Sublist.refl _ | exact List.nil_sublist _ | apply List.Sublist.cons_cons | apply List.Sublist.cons)); done) (by first | exact RLe.refl _ | assumption) ?_
    refine WA.take 1 rfl (by kernel_rfl) (by kernel_rfl) (by kernel_rfl) rfl rfl (by decide) (pureV_ok tab_ok rfl (fun _ => rfl)) (by (repeat (first | exact List.Sublist.refl _ | exact List.nil_sublist _ | apply List.Sublist.cons_cons | apply List.Sublist.cons)); done) (by first | exact RLe.refl _ | assumption) ?_
    refine WA.take 3 rfl (by kernel_rfl) (by kernel_rfl) (by kernel_rfl) rfl rfl (by decide) (pureV_ok tab_ok rfl (fun _ => rfl)) (by (repeat (first | exact List.Sublist.refl _ | exact List.nil_sublist _ | apply List.Sublist.cons_cons | apply List.Sublist.cons)); done) (by first | exact RLe.refl _ | assumption) ?_
    refine WA.br3 (i := 2) (j := 4) (k := 6) (by kernel_rfl) ?_ ?_ ?_
    ·
      refine WS.eff rfl rfl rfl (by decide) (Ef.makeSliceD (enc := encI) 0 tab_ok rfl rfl rfl rfl rfl rfl (by (try dsimp only) <;> omega) (by (try dsimp only) <;> omega) (by (try dsimp only) <;> omega) (by (try dsimp only) <;> omega) (by decide) rfl rfl (fun a22 => ?_))
      refine ⟨RLe.refl _, (by (repeat (first | exact List.Sublist.refl _ | exact List.nil_sublist _ | apply List.Sublist.cons_cons | apply List.Sublist.cons)); done), ?_⟩
      refine WA.br2 (i := 4) (j := 6) (by kernel_rfl) ?_ ?_
      ·
        refine WS.eff rfl rfl rfl (by decide) (Ef.makeSliceD (enc := encS) ⟨none, 0, []⟩ tab_ok rfl rfl rfl rfl rfl rfl (by (try dsimp only) <;> omega) (by (try dsimp only) <;> omega) (by (try dsimp only) <;> omega) (by (try dsimp only) <;> omega) (by decide) rfl rfl (fun a24 => ?_))
        refine ⟨RLe.refl _, (by (repeat (first | exact List.Sublist.refl _ | exact List.nil_sublist _ | apply List.Sublist.cons_cons | apply List.Sublist.cons)); done), ?_⟩
        -- build
        refine WA.take 5 rfl (by kernel_rfl) (by kernel_rfl) (by kernel_rfl) rfl rfl (by decide) (Yl.build (parts := [(0, .tmp 22), (1, .tmp 24)]) tab_ok rfl rfl rfl rfl (fun _ => rfl) rfl rfl) (by (repeat (first | exact List.Sublist.refl _ | exact List.nil_sublist _ | apply List.Sublist.cons_cons | apply List.Sublist.cons)); done) (by first | exact RLe.refl _ | assumption) ?_
        refine WA.eff 6 rfl (by kernel_rfl) rfl rfl (by decide) (Ef.alloc tab_ok rfl rfl (fun b11 => ?_))
        refine ⟨by first | exact RLe.refl _ | assumption, (by (repeat (first | exact List.Sublist.refl _ | exact List.nil_sublist _ | apply List.Sublist.cons_cons | apply List.Sublist.cons)); done), ?_⟩
        first | refine WA.effN 7 rfl (by kernel_rfl) rfl rfl (Ef.store0 0 tab_ok rfl rfl rfl rfl rfl rfl rfl rfl ?_) | refine WA.effN 7 rfl (by kernel_rfl) rfl rfl (Ef.store0 1 tab_ok rfl rfl rfl rfl rfl rfl rfl rfl ?_) | refine WA.effN 7 rfl (by kernel_rfl) rfl rfl (Ef.store0 2 tab_ok rfl rfl rfl rfl rfl rfl rfl rfl ?_) | refine WA.effN 7 rfl (by kernel_rfl) rfl rfl (Ef.store0 3 tab_ok rfl rfl rfl rfl rfl rfl rfl rfl ?_) | refine WA.effN 7 rfl (by kernel_rfl) rfl rfl (Ef.store0 4 tab_ok rfl rfl rfl rfl rfl rfl rfl rfl ?_) | refine WA.effN 7 rfl (by kernel_rfl) rfl rfl (Ef.store0 5 tab_ok rfl rfl rfl rfl rfl rfl rfl rfl ?_) | refine WA.effN 7 rfl (by kernel_rfl) rfl rfl (Ef.store0 6 tab_ok rfl rfl rfl rfl rfl rfl rfl rfl ?_) | refine WA.effN 7 rfl (by kernel_rfl) rfl rfl (Ef.store0 7 tab_ok rfl rfl rfl rfl rfl rfl rfl rfl ?_) | refine WA.effN 7 rfl (by kernel_rfl) rfl rfl (Ef.store0 8 tab_ok rfl rfl rfl rfl rfl rfl rfl rfl ?_)
        refine ⟨by first | exact RLe.refl _ | assumption, (by (repeat (first | exact List.Sublist.refl _ | exact List.nil_sublist _ | apply List.Sublist.cons_cons | apply List.Sublist.cons)); done), ?_⟩
        refine WA.done (by kernel_rfl) ?_
        refine WE.cutP (b11, a22, a24) trivial ⟨rfl, rfl, rfl, rfl, rfl, rfl, rfl, rfl⟩ (RLe.refl _) (by first | exact List.Perm.refl _ | exact perm3a _ _ _ _ | exact perm3b _ _ _ _ | exact perm3c _ _ _ _ | exact perm3d _ _ _ _ | exact perm3e _ _ _ _)
      ·
        refine WS.eff rfl rfl rfl (by decide) (Ef.alloc tab_ok rfl rfl (fun b11 => ?_))
        refine ⟨RLe.refl _, (by (repeat (first | exact List.Sublist.refl _ | exact List.nil_sublist _ | apply List.Sublist.cons_cons | apply List.Sublist.cons)); done), ?_⟩
        refine WA.eff 4 rfl (by kernel_rfl) rfl rfl (by decide) (Ef.makeSliceD (enc := encS) ⟨none, 0, []⟩ tab_ok rfl rfl rfl rfl rfl rfl (by (try dsimp only) <;> omega) (by (try dsimp only) <;> omega) (by (try dsimp only) <;> omega) (by (try dsimp only) <;> omega) (by decide) rfl rfl (fun a24 => ?_))
        refine ⟨by first | exact RLe.refl _ | assumption, (by (repeat (first | exact List.Sublist.refl _ | exact List.nil_sublist _ | apply List.Sublist.cons_cons | apply List.Sublist.cons)); done), ?_⟩
        -- build
        refine WA.take 5 rfl (by kernel_rfl) (by kernel_rfl) (by kernel_rfl) rfl rfl (by decide) (Yl.build (parts := [(0, .tmp 22), (1, .tmp 24)]) tab_ok rfl rfl rfl rfl (fun _ => rfl) rfl rfl) (by (repeat (first | exact List.Sublist.refl _ | exact List.nil_sublist _ | apply List.Sublist.cons_cons | apply List.Sublist.cons)); done) (by first | exact RLe.refl _ | assumption) ?_
        first | refine WA.effN 7 rfl (by kernel_rfl) rfl rfl (Ef.store0 0 tab_ok rfl rfl rfl rfl rfl rfl rfl rfl ?_) | refine WA.effN 7 rfl (by kernel_rfl) rfl rfl (Ef.store0 1 tab_ok rfl rfl rfl rfl rfl rfl rfl rfl ?_) | refine WA.effN 7 rfl (by kernel_rfl) rfl rfl (Ef.store0 2 tab_ok rfl rfl rfl rfl rfl rfl rfl rfl ?_) | refine WA.effN 7 rfl (by kernel_rfl) rfl rfl (Ef.store0 3 tab_ok rfl rfl rfl rfl rfl rfl rfl rfl ?_) | refine WA.effN 7 rfl (by kernel_rfl) rfl rfl (Ef.store0 4 tab_ok rfl rfl rfl rfl rfl rfl rfl rfl ?_) | refine WA.effN 7 rfl (by kernel_rfl) rfl rfl (Ef.store0 5 tab_ok rfl rfl rfl rfl rfl rfl rfl rfl ?_) | refine WA.effN 7 rfl (by kernel_rfl) rfl rfl (Ef.store0 6 tab_ok rfl rfl rfl rfl rfl rfl rfl rfl ?_) | refine WA.effN 7 rfl (by kernel_rfl) rfl rfl (Ef.store0 7 tab_ok rfl rfl rfl rfl rfl rfl rfl rfl ?_) | refine WA.effN 7 rfl (by kernel_rfl) rfl rfl (Ef.store0 8 tab_ok rfl rfl rfl rfl rfl rfl rfl rfl ?_)
        refine ⟨by first | exact RLe.refl _ | assumption, (by (repeat (first | exact List.Sublist.refl _ | exact List.nil_sublist _ | apply List.Sublist.cons_cons | apply List.Sublist.cons)); done), ?_⟩
        refine WA.done (by kernel_rfl) ?_
        refine WE.cutP (b11, a22, a24) trivial ⟨rfl, rfl, rfl, rfl, rfl, rfl, rfl, rfl⟩ (RLe.refl _) (by first | exact List.Perm.refl _ | exact perm3a _ _ _ _ | exact perm3b _ _ _ _ | exact perm3c _ _ _ _ | exact perm3d _ _ _ _ | exact perm3e _ _ _ _)
    ·
      refine WS.eff rfl rfl rfl (by decide) (Ef.makeSliceD (enc := encS) ⟨none, 0, []⟩ tab_ok rfl rfl rfl rfl rfl rfl (by (try dsimp only) <;> omega) (by (try dsimp only) <;> omega) (by (try dsimp only) <;> omega) (by (try dsimp only) <;> omega) (by decide) rfl rfl (fun a24 => ?_))
      refine ⟨RLe.refl _, (by (repeat (first | exact List.Sublist.refl _ | exact List.nil_sublist _ | apply List.Sublist.cons_cons | apply List.Sublist.cons)); done), ?_⟩
      refine WA.br2 (i := 2) (j := 6) (by kernel_rfl) ?_ ?_
      ·
        refine WS.eff rfl rfl rfl (by decide) (Ef.makeSliceD (enc := encI) 0 tab_ok rfl rfl rfl rfl rfl rfl (by (try dsimp only) <;> omega) (by (try dsimp only) <;> omega) (by (try dsimp only) <;> omega) (by (try dsimp only) <;> omega) (by decide) rfl rfl (fun a22 => ?_))
        refine ⟨RLe.refl _, (by (repeat (first | exact List.Sublist.refl _ | exact List.nil_sublist _ | apply List.Sublist.cons_cons | apply List.Sublist.cons)); done), ?_⟩
        -- build
        refine WA.take 5 rfl (by kernel_rfl) (by kernel_rfl) (by kernel_rfl) rfl rfl (by decide) (Yl.build (parts := [(0, .tmp 22), (1, .tmp 24)]) tab_ok rfl rfl rfl rfl (fun _ => rfl) rfl rfl) (by (repeat (first | exact List.Sublist.refl _ | exact List.nil_sublist _ | apply List.Sublist.cons_cons | apply List.Sublist.cons)); done) (by first | exact RLe.refl _ | assumption) ?_
        refine WA.eff 6 rfl (by kernel_rfl) rfl rfl (by decide) (Ef.alloc tab_ok rfl rfl (fun b11 => ?_))
        refine ⟨by first | exact RLe.refl _ | assumption, (by (repeat (first | exact List.Sublist.refl _ | exact List.nil_sublist _ | apply List.Sublist.cons_cons | apply List.Sublist.cons)); done), ?_⟩
        first | refine WA.effN 7 rfl (by kernel_rfl) rfl rfl (Ef.store0 0 tab_ok rfl rfl rfl rfl rfl rfl rfl rfl ?_) | refine WA.effN 7 rfl (by kernel_rfl) rfl rfl (Ef.store0 1 tab_ok rfl rfl rfl rfl rfl rfl rfl rfl ?_) | refine WA.effN 7 rfl (by kernel_rfl) rfl rfl (Ef.store0 2 tab_ok rfl rfl rfl rfl rfl rfl rfl rfl ?_) | refine WA.effN 7 rfl (by kernel_rfl) rfl rfl (Ef.store0 3 tab_ok rfl rfl rfl rfl rfl rfl rfl rfl ?_) | refine WA.effN 7 rfl (by kernel_rfl) rfl rfl (Ef.store0 4 tab_ok rfl rfl rfl rfl rfl rfl rfl rfl ?_) | refine WA.effN 7 rfl (by kernel_rfl) rfl rfl (Ef.store0 5 tab_ok rfl rfl rfl rfl rfl rfl rfl rfl ?_) | refine WA.effN 7 rfl (by kernel_rfl) rfl rfl (Ef.store0 6 tab_ok rfl rfl rfl rfl rfl rfl rfl rfl ?_) | refine WA.effN 7 rfl (by kernel_rfl) rfl rfl (Ef.store0 7 tab_ok rfl rfl rfl rfl rfl rfl rfl rfl ?_) | refine WA.effN 7 rfl (by kernel_rfl) rfl rfl (Ef.store0 8 tab_ok rfl rfl rfl rfl rfl rfl rfl rfl ?_)
        refine ⟨by first | exact RLe.refl _ | assumption, (by (repeat (first | exact List.Sublist.refl _ | exact List.nil_sublist _ | apply List.Sublist.cons_cons | apply List.Sublist.cons)); done), ?_⟩
        refine WA.done (by kernel_rfl) ?_
        refine WE.cutP (b11, a22, a24) trivial ⟨rfl, rfl, rfl, rfl, rfl, rfl, rfl, rfl⟩ (RLe.refl _) (by first | exact List.Perm.refl _ | exact perm3a _ _ _ _ | exact perm3b _ _ _ _ | exact perm3c _ _ _ _ | exact perm3d _ _ _ _ | exact perm3e _ _ _ _)
      ·
        refine WS.eff rfl rfl rfl (by decide) (Ef.alloc tab_ok rfl rfl (fun b11 => ?_))
        refine ⟨RLe.refl _, (by (repeat (first | exact List.Sublist.refl _ | exact List.nil_sublist _ | apply List.Sublist.cons_cons | apply List.Sublist.cons)); done), ?_⟩
        refine WA.eff 2 rfl (by kernel_rfl) rfl rfl (by decide) (Ef.makeSliceD (enc := encI) 0 tab_ok rfl rfl rfl rfl rfl rfl (by (try dsimp only) <;> omega) (by (try dsimp only) <;> omega) (by (try dsimp only) <;> omega) (by (try dsimp only) <;> omega) (by decide) rfl rfl (fun a22 => ?_))
        refine ⟨by first | exact RLe.refl _ | assumption, (by (repeat (first | exact List.Sublist.refl _ | exact List.nil_sublist _ | apply List.Sublist.cons_cons | apply List.Sublist.cons)); done), ?_⟩
        -- build
        refine WA.take 5 rfl (by kernel_rfl) (by kernel_rfl) (by kernel_rfl) rfl rfl (by decide) (Yl.build (parts := [(0, .tmp 22), (1, .tmp 24)]) tab_ok rfl rfl rfl rfl (fun _ => rfl) rfl rfl) (by (repeat (first | exact List.Sublist.refl _ | exact List.nil_sublist _ | apply List.Sublist.cons_cons | apply List.Sublist.cons)); done) (by first | exact RLe.refl _ | assumption) ?_
        first | refine WA.effN 7 rfl (by kernel_rfl) rfl rfl (Ef.store0 0 tab_ok rfl rfl rfl rfl rfl rfl rfl rfl ?_) | refine WA.effN 7 rfl (by kernel_rfl) rfl rfl (Ef.store0 1 tab_ok rfl rfl rfl rfl rfl rfl rfl rfl ?_) | refine WA.effN 7 rfl (by kernel_rfl) rfl rfl (Ef.store0 2 tab_ok rfl rfl rfl rfl rfl rfl rfl rfl ?_) | refine WA.effN 7 rfl (by kernel_rfl) rfl rfl (Ef.store0 3 tab_ok rfl rfl rfl rfl rfl rfl rfl rfl ?_) | refine WA.effN 7 rfl (by kernel_rfl) rfl rfl (Ef.store0 4 tab_ok rfl rfl rfl rfl rfl rfl rfl rfl ?_) | refine WA.effN 7 rfl (by kernel_rfl) rfl rfl (Ef.store0 5 tab_ok rfl rfl rfl rfl rfl rfl rfl rfl ?_) | refine WA.effN 7 rfl (by kernel_rfl) rfl rfl (Ef.store0 6 tab_ok rfl rfl rfl rfl rfl rfl rfl rfl ?_) | refine WA.effN 7 rfl (by kernel_rfl) rfl rfl (Ef.store0 7 tab_ok rfl rfl rfl rfl rfl rfl rfl rfl ?_) | refine WA.effN 7 rfl (by kernel_rfl) rfl rfl (Ef.store0 8 tab_ok rfl rfl rfl rfl rfl rfl rfl rfl ?_)
        refine ⟨by first | exact RLe.refl _ | assumption, (by (repeat (first | exact List.Sublist.refl _ | exact List.nil_sublist _ | apply List.Sublist.cons_cons | apply List.Sublist.cons)); done), ?_⟩
        refine WA.done (by kernel_rfl) ?_
        refine WE.cutP (b11, a22, a24) trivial ⟨rfl, rfl, rfl, rfl, rfl, rfl, rfl, rfl⟩ (RLe.refl _) (by first | exact List.Perm.refl _ | exact perm3a _ _ _ _ | exact perm3b _ _ _ _ | exact perm3c _ _ _ _ | exact perm3d _ _ _ _ | exact perm3e _ _ _ _)
    ·
      refine WS.eff rfl rfl rfl (by decide) (Ef.alloc tab_ok rfl rfl (fun b11 => ?_))
      refine ⟨RLe.refl _, (by (repeat (first | exact List.Sublist.refl _ | exact List.nil_sublist _ | apply List.Sublist.cons_cons | apply List.Sublist.cons)); done), ?_⟩
      refine WA.br2 (i := 2) (j := 4) (by kernel_rfl) ?_ ?_
      ·
        refine WS.eff rfl rfl rfl (by decide) (Ef.makeSliceD (enc := encI) 0 tab_ok rfl rfl rfl rfl rfl rfl (by (try dsimp only) <;> omega) (by (try dsimp only) <;> omega) (by (try dsimp only) <;> omega) (by (try dsimp only) <;> omega) (by decide) rfl rfl (fun a22 => ?_))
        refine ⟨RLe.refl _, (by (repeat (first | exact List.Sublist.refl _ | exact List.nil_sublist _ | apply List.Sublist.cons_cons | apply List.Sublist.cons)); done), ?_⟩
        refine WA.eff 4 rfl (by kernel_rfl) rfl rfl (by decide) (Ef.makeSliceD (enc := encS) ⟨none, 0, []⟩ tab_ok rfl rfl rfl rfl rfl rfl (by (try dsimp only) <;> omega) (by (try dsimp only) <;> omega) (by (try dsimp only) <;> omega) (by (try dsimp only) <;> omega) (by decide) rfl rfl (fun a24 => ?_))
        refine ⟨by first | exact RLe.refl _ | assumption, (by (repeat (first | exact List.Sublist.refl _ | exact List.nil_sublist _ | apply List.Sublist.cons_cons | apply List.Sublist.cons)); done), ?_⟩
        -- build
        refine WA.take 5 rfl (by kernel_rfl) (by kernel_rfl) (by kernel_rfl) rfl rfl (by decide) (Yl.build (parts := [(0, .tmp 22), (1, .tmp 24)]) tab_ok rfl rfl rfl rfl (fun _ => rfl) rfl rfl) (by (repeat (first | exact List.Sublist.refl _ | exact List.nil_sublist _ | apply List.Sublist.cons_cons | apply List.Sublist.cons)); done) (by first | exact RLe.refl _ | assumption) ?_
        first | refine WA.effN 7 rfl (by kernel_rfl) rfl rfl (Ef.store0 0 tab_ok rfl rfl rfl rfl rfl rfl rfl rfl ?_) | refine WA.effN 7 rfl (by kernel_rfl) rfl rfl (Ef.store0 1 tab_ok rfl rfl rfl rfl rfl rfl rfl rfl ?_) | refine WA.effN 7 rfl (by kernel_rfl) rfl rfl (Ef.store0 2 tab_ok rfl rfl rfl rfl rfl rfl rfl rfl ?_) | refine WA.effN 7 rfl (by kernel_rfl) rfl rfl (Ef.store0 3 tab_ok rfl rfl rfl rfl rfl rfl rfl rfl ?_) | refine WA.effN 7 rfl (by kernel_rfl) rfl rfl (Ef.store0 4 tab_ok rfl rfl rfl rfl rfl rfl rfl rfl ?_) | refine WA.effN 7 rfl (by kernel_rfl) rfl rfl (Ef.store0 5 tab_ok rfl rfl rfl rfl rfl rfl rfl rfl ?_) | refine WA.effN 7 rfl (by kernel_rfl) rfl rfl (Ef.store0 6 tab_ok rfl rfl rfl rfl rfl rfl rfl rfl ?_) | refine WA.effN 7 rfl (by kernel_rfl) rfl rfl (Ef.store0 7 tab_ok rfl rfl rfl rfl rfl rfl rfl rfl ?_) | refine WA.effN 7 rfl (by kernel_rfl) rfl rfl (Ef.store0 8 tab_ok rfl rfl rfl rfl rfl rfl rfl rfl ?_)
        refine ⟨by first | exact RLe.refl _ | assumption, (by (repeat (first | exact List.Sublist.refl _ | exact List.nil_sublist _ | apply List.Sublist.cons_cons | apply List.Sublist.cons)); done), ?_⟩
        refine WA.done (by kernel_rfl) ?_
        refine WE.cutP (b11, a22, a24) trivial ⟨rfl, rfl, rfl, rfl, rfl, rfl, rfl, rfl⟩ (RLe.refl _) (by first | exact List.Perm.refl _ | exact perm3a _ _ _ _ | exact perm3b _ _ _ _ | exact perm3c _ _ _ _ | exact perm3d _ _ _ _ | exact perm3e _ _ _ _)
      ·
        refine WS.eff rfl rfl rfl (by decide) (Ef.makeSliceD (enc := encS) ⟨none, 0, []⟩ tab_ok rfl rfl rfl rfl rfl rfl (by (try dsimp only) <;> omega) (by (try dsimp only) <;> omega) (by (try dsimp only) <;> omega) (by (try dsimp only) <;> omega) (by decide) rfl rfl (fun a24 => ?_))
        refine ⟨RLe.refl _, (by (repeat (first | exact List.Sublist.refl _ | exact List.nil_sublist _ | apply List.Sublist.cons_cons | apply List.Sublist.cons)); done), ?_⟩
        refine WA.eff 2 rfl (by kernel_rfl) rfl rfl (by decide) (Ef.makeSliceD (enc := encI) 0 tab_ok rfl rfl rfl rfl rfl rfl (by (try dsimp only) <;> omega) (by (try dsimp only) <;> omega) (by (try dsimp only) <;> omega) (by (try dsimp only) <;> omega) (by decide) rfl rfl (fun a22 => ?_))
        refine ⟨by first | exact RLe.refl _ | assumption, (by (repeat (first | exact List.Sublist.refl _ | exact List.nil_sublist _ | apply List.Sublist.cons_cons | apply List.Sublist.cons)); done), ?_⟩
        -- build
        refine WA.take 5 rfl (by kernel_rfl) (by kernel_rfl) (by kernel_rfl) rfl rfl (by decide) (Yl.build (parts := [(0, .tmp 22), (1, .tmp 24)]) tab_ok rfl rfl rfl rfl (fun _ => rfl) rfl rfl) (by (repeat (first | exact List.Sublist.refl _ | exact List.nil_sublist _ | apply List.Sublist.cons_cons | apply List.Sublist.cons)); done) (by first | exact RLe.refl _ | assumption) ?_
        first | refine WA.effN 7 rfl (by kernel_rfl) rfl rfl (Ef.store0 0 tab_ok rfl rfl rfl rfl rfl rfl rfl rfl ?_) | refine WA.effN 7 rfl (by kernel_rfl) rfl rfl (Ef.store0 1 tab_ok rfl rfl rfl rfl rfl rfl rfl rfl ?_) | refine WA.effN 7 rfl (by kernel_rfl) rfl rfl (Ef.store0 2 tab_ok rfl rfl rfl rfl rfl rfl rfl rfl ?_) | refine WA.effN 7 rfl (by kernel_rfl) rfl rfl (Ef.store0 3 tab_ok rfl rfl rfl rfl rfl rfl rfl rfl ?_) | refine WA.effN 7 rfl (by kernel_rfl) rfl rfl (Ef.store0 4 tab_ok rfl rfl rfl rfl rfl rfl rfl rfl ?_) | refine WA.effN 7 rfl (by kernel_rfl) rfl rfl (Ef.store0 5 tab_ok rfl rfl rfl rfl rfl rfl rfl rfl ?_) | refine WA.effN 7 rfl (by kernel_rfl) rfl rfl (Ef.store0 6 tab_ok rfl rfl rfl rfl rfl rfl rfl rfl ?_) | refine WA.effN 7 rfl (by kernel_rfl) rfl rfl (Ef.store0 7 tab_ok rfl rfl rfl rfl rfl rfl rfl rfl ?_) | refine WA.effN 7 rfl (by kernel_rfl) rfl rfl (Ef.store0 8 tab_ok rfl rfl rfl rfl rfl rfl rfl rfl ?_)
        refine ⟨by first | exact RLe.refl _ | assumption, (by (repeat (first | exact List.Sublist.refl _ | exact List.nil_sublist _ | apply List.Sublist.cons_cons | apply List.Sublist.cons)); done), ?_⟩
        refine WA.done (by kernel_rfl) ?_
        refine WE.cutP (b11, a22, a24) trivial ⟨rfl, rfl, rfl, rfl, rfl, rfl, rfl, rfl⟩ (RLe.refl _) (by first | exact List.Perm.refl _ | exact perm3a _ _ _ _ | exact perm3b _ _ _ _ | exact perm3c _ _ _ _ | exact perm3d _ _ _ _ | exact perm3e _ _ _ _)

end Go.Proofs.Ytnaeefefggmomaa

/- A trial. No condition. -/
set_option linter.unusedSimpArgs false
set_option linter.unusedVariables false
namespace Go.Proofs.Ytnaeefefggmomaa
open Go Go.RowKit Go.Proofs.Ytnaeefefggmomaa.K Go.Proofs.Ytnaeefefggmomaa.M

end Go.Proofs.Ytnaeefefggmomaa

/- A trial. No condition. -/
set_option linter.unusedSimpArgs false
set_option linter.unusedVariables false
namespace Go.Proofs.Ytnaeefefggmomaa
open Go Go.RowKit Go.Proofs.Ytnaeefefggmomaa.K Go.Proofs.Ytnaeefefggmomaa.M

theorem Check_V {R : Ro} {pa : Option Addr} {pc : Nat} {ps : List Pkt} (hp : RS R 3 encP pa ps) {cap classes ticks : Int} : FnV Try.prog 71 [.int .i64 cap, .int .i64 classes, .slice pa ps.length pc, .int .i64 ticks] R (.int .i64 (checkE cap classes ticks ps)) := by
  have hla := hp.len
  refine Fn.toV (fun w0 E => ?_)
  refine Fn.enter (n := 44) Try.func71 rfl rfl (Nat.le_of_ble_eq_true rfl) rfl ?_
  refine W.seq ?_
  refine W.region _ ?_
  refine WG.run tab_ok 1 rfl ?_
  refine WG.nil ?_
  refine WE.nxt ?_
  refine W.seq ?_
  refine W.seq ?_
  refine W.region _ ?_
  refine WG.run tab_ok 3 rfl ?_
  refine WG.y rfl rfl (by decide) (pureV_ok tab_ok rfl (by first | exact fun _ => rfl | exact fun h => h | (intro h; simp_all))) ?_
  refine WG.y rfl rfl (by decide) (pureV_ok tab_ok rfl (by first | exact fun _ => rfl | exact fun h => h | (intro h; simp_all))) ?_
  refine WG.y rfl rfl (by decide) (Yl.por rfl rfl rfl (fun _ => rfl) (by intro h1 h2; simp_all <;> omega)) ?_
  refine WG.run tab_ok 1 rfl ?_
  refine WG.y rfl rfl (by decide) (pureV_ok tab_ok rfl (by first | exact fun _ => rfl | exact fun h => h | (intro h; simp_all))) ?_
  refine WG.y rfl rfl (by decide) (pureV_ok tab_ok rfl (by first | exact fun _ => rfl | exact fun h => h | (intro h; simp_all))) ?_
  refine WG.y rfl rfl (by decide) (Yl.por rfl rfl rfl (fun _ => rfl) (by intro h1 h2; simp_all <;> omega)) ?_
  refine WG.run tab_ok 1 rfl ?_
  refine WG.y rfl rfl (by decide) (pureV_ok tab_ok rfl (by first | exact fun _ => rfl | exact fun h => h | (intro h; simp_all))) ?_
  refine WG.y rfl rfl (by decide) (pureV_ok tab_ok rfl (by first | exact fun _ => rfl | exact fun h => h | (intro h; simp_all))) ?_
  refine WG.y rfl rfl (by decide) (Yl.por rfl rfl rfl (fun _ => rfl) (by intro h1 h2; simp_all <;> omega)) ?_
  refine WG.run tab_ok 1 rfl ?_
  refine WG.y rfl rfl (by decide) (pureV_ok tab_ok rfl (by first | exact fun _ => rfl | exact fun h => h | (intro h; simp_all))) ?_
  refine WG.y rfl rfl (by decide) (pureV_ok tab_ok rfl (by first | exact fun _ => rfl | exact fun h => h | (intro h; simp_all))) ?_
  refine WG.y rfl rfl (by decide) (Yl.por rfl rfl rfl (fun _ => rfl) (by intro h1 h2; simp_all <;> omega)) ?_
  refine WG.run tab_ok 1 rfl ?_
  refine WG.y rfl rfl (by decide) (pureV_ok tab_ok rfl (by first | exact fun _ => rfl | exact fun h => h | (intro h; simp_all))) ?_
  refine WG.y rfl rfl (by decide) (pureV_ok tab_ok rfl (by first | exact fun _ => rfl | exact fun h => h | (intro h; simp_all))) ?_
  refine WG.y rfl rfl (by decide) (Yl.por rfl rfl rfl (fun _ => rfl) (by intro h1 h2; simp_all <;> omega)) ?_
  refine WG.nil ?_
  refine WE.nxt ?_
  refine W.cond rfl (fun hc0 => ?_) (fun hc0 => ?_)
  · try simp only [decide_eq_true_eq, decide_eq_false_iff_not, beq_iff_eq, bne_iff_ne, beq_eq_false_iff_ne, bne_eq_false_iff_eq, ne_eq, Bool.or_eq_true, Bool.or_eq_false_iff, Bool.and_eq_true, Bool.and_eq_false_imp, Bool.not_eq_true, Bool.not_eq_true', Bool.not_eq_false', Classical.not_not, Int.not_lt, Int.not_le, gt_iff_lt, ge_iff_le] at hc0
    refine W.seq ?_
    refine W.region _ ?_
    refine WG.run tab_ok 1 rfl ?_
    refine WG.nil ?_
    refine WE.nxt ?_
    refine W.ret ?_
    refine WE.then_ret ?_
    refine WE.subE (E' := E) (by (repeat (first | exact List.Sublist.refl _ | exact List.nil_sublist _ | apply List.Sublist.cons_cons | apply List.Sublist.cons)); done) ?_
    refine WE.retF tab_ok [_] rfl ⟨rfl, trivial⟩ (RLe.refl _) ?_
    exact ⟨by unfold checkE; rw [if_pos (show BadC cap classes ticks by unfold BadC; omega)]; rfl, rfl⟩
  · try simp only [decide_eq_true_eq, decide_eq_false_iff_not, beq_iff_eq, bne_iff_ne, beq_eq_false_iff_ne, bne_eq_false_iff_eq, ne_eq, Bool.or_eq_true, Bool.or_eq_false_iff, Bool.and_eq_true, Bool.and_eq_false_imp, Bool.not_eq_true, Bool.not_eq_true', Bool.not_eq_false', Classical.not_not, Int.not_lt, Int.not_le, gt_iff_lt, ge_iff_le] at hc0
    have hck : checkE cap classes ticks ps = flowGo classes ps := by unfold checkE; rw [if_neg (by unfold BadC; omega)]
    refine W.skip ?_
    refine WE.nxt ?_
    refine W.seq ?_
    refine W.seq ?_
    refine W.region _ ?_
    refine WG.run tab_ok 3 rfl ?_
    refine WG.nil ?_
    refine WE.nxt ?_
    refine W.block ?_
    refine W.loop (β := Nat) (fun k => k ≤ ps.length ∧ flowGo classes (ps.drop k) = checkE cap classes ticks ps) (fun k => [(1, true, .int .i64 classes), (33, true, .slice pa ps.length pc), (34, true, .int .i64 ps.length), (35, true, .int .i64 (k : Int))]) (fun _ => R) (fun _ => E) (fun k => ps.length - k) (0) (⟨Nat.zero_le _, by rw [List.drop_zero, hck]⟩) ⟨rfl, rfl, rfl, rfl, rfl⟩ (RLe.refl _) (by (repeat (first | exact List.Sublist.refl _ | exact List.nil_sublist _ | apply List.Sublist.cons_cons | apply List.Sublist.cons)); done) ?_
    intro st hst
    obtain ⟨hk, hv⟩ := hst
    refine W.seq ?_
    refine W.region _ ?_
    refine WG.run tab_ok 1 rfl ?_
    refine WG.nil ?_
    refine WE.nxt ?_
    refine W.seq ?_
    refine W.condD rfl (fun hc1 => ?_) (fun hc1 => ?_)
    · try dsimp only at hc1
      have hd := drop_nth (xs := ps) (k := st) (by omega)
      rw [hd, flowGo] at hv
      refine W.skip ?_
      refine WE.nxt ?_
      refine W.seq ?_
      refine W.block ?_
      refine W.seq ?_
      refine W.region _ ?_
      refine WG.y rfl rfl (by decide) (Yl.indexN tab_ok rfl rfl rfl rfl rfl rfl (fun _ => rfl) (by intro _; (try dsimp only) <;> omega) (by intro _; first | exact fun _ _ _ _ => rfl | exact RS.has (by assumption) | exact fun _ _ _ _ => (by assumption) | exact HasMem.ownD 0 rfl | exact HasMem.ownD 1 rfl | exact HasMem.ownD 2 rfl | exact HasMem.ownD 3 rfl | exact HasMem.ownD 4 rfl | exact HasMem.ownD 5 rfl | exact HasMem.ownD 6 rfl | exact HasMem.ownD 7 rfl)) ?_
      refine' WG.y rfl rfl (by decide) (Yl.load1 tab_ok rfl rfl rfl (fun _ => rfl) ?r1 rfl ?h1) ?_
      case r1 => (first | (apply RS.rdD; assumption; ((try dsimp only) <;> omega)) | exact Rd.slD 0 rfl (by (try dsimp only) <;> omega) | exact Rd.slD 1 rfl (by (try dsimp only) <;> omega) | exact Rd.slD 2 rfl (by (try dsimp only) <;> omega) | exact Rd.slD 3 rfl (by (try dsimp only) <;> omega) | exact Rd.slD 4 rfl (by (try dsimp only) <;> omega) | exact Rd.slD 5 rfl (by (try dsimp only) <;> omega) | exact Rd.slD 6 rfl (by (try dsimp only) <;> omega) | exact Rd.slD 7 rfl (by (try dsimp only) <;> omega))
      case h1 => rfl
      refine WL.ef rfl rfl (by decide) (Ef.alloc tab_ok rfl rfl (fun b10 => ?_))
      first | refine WL.efN rfl rfl (Ef.store0 0 tab_ok rfl rfl rfl rfl rfl rfl rfl rfl ?_) | refine WL.efN rfl rfl (Ef.store0 1 tab_ok rfl rfl rfl rfl rfl rfl rfl rfl ?_) | refine WL.efN rfl rfl (Ef.store0 2 tab_ok rfl rfl rfl rfl rfl rfl rfl rfl ?_) | refine WL.efN rfl rfl (Ef.store0 3 tab_ok rfl rfl rfl rfl rfl rfl rfl rfl ?_) | refine WL.efN rfl rfl (Ef.store0 4 tab_ok rfl rfl rfl rfl rfl rfl rfl rfl ?_) | refine WL.efN rfl rfl (Ef.store0 5 tab_ok rfl rfl rfl rfl rfl rfl rfl rfl ?_) | refine WL.efN rfl rfl (Ef.store0 6 tab_ok rfl rfl rfl rfl rfl rfl rfl rfl ?_) | refine WL.efN rfl rfl (Ef.store0 7 tab_ok rfl rfl rfl rfl rfl rfl rfl rfl ?_)
      refine WG.nil ?_
      refine WE.nxt ?_
      refine W.seq ?_
      refine W.region _ ?_
      refine WG.run tab_ok 1 rfl ?_
      refine' WG.y rfl rfl (by decide) (Yl.load1 tab_ok rfl rfl rfl (fun _ => rfl) ?r2 rfl ?h2) ?_
      case r2 => apply Rd.add; (first | exact Rd.blk 0 rfl | exact Rd.blk 1 rfl | exact Rd.blk 2 rfl | exact Rd.blk 3 rfl | exact Rd.blk 4 rfl | exact Rd.blk 5 rfl | exact Rd.blk 6 rfl | exact Rd.blk 7 rfl)
      case h2 => rfl
      refine WG.run tab_ok 2 rfl ?_
      refine WG.nil ?_
      refine WE.nxt ?_
      refine W.condD rfl (fun hc2 => ?_) (fun hc2 => ?_)
      · try dsimp only at hc2
        rw [if_pos (by omega)] at hv
        refine W.seq ?_
        refine W.region _ ?_
        refine WG.run tab_ok 1 rfl ?_
        refine WG.nil ?_
        refine WE.nxt ?_
        refine W.ret ?_
        refine WE.blk_ret ?_
        refine WE.then_ret ?_
        refine WE.then_ret ?_
        refine WE.blk_ret ?_
        refine WE.then_ret ?_
        refine WE.subE (E' := E) (by (repeat (first | exact List.Sublist.refl _ | exact List.nil_sublist _ | apply List.Sublist.cons_cons | apply List.Sublist.cons)); done) ?_
        refine WE.retF tab_ok [_] rfl ⟨rfl, trivial⟩ (RLe.refl _) ?_
        exact ⟨by rw [← hv]; rfl, rfl⟩
      · try dsimp only at hc2
        rw [if_neg (by omega)] at hv
        refine W.skip ?_
        refine WE.blk _ ?_
        refine WE.nxt ?_
        refine W.region _ ?_
        refine WG.y rfl rfl (by decide) (Yl.add rfl rfl rfl (fun _ => rfl) (by intro _; constructor <;> (try dsimp only) <;> omega)) ?_
        refine WG.run tab_ok 1 rfl ?_
        refine WG.nil ?_
        refine WE.again (st + 1) (⟨by omega, hv⟩) (by (try dsimp only); omega) ⟨rfl, rfl, rfl, rfl, rfl⟩ (RLe.refl _) (by (repeat (first | exact List.Sublist.refl _ | exact List.nil_sublist _ | apply List.Sublist.cons_cons | apply List.Sublist.cons)); done)
    · try dsimp only at hc1
      obtain rfl : st = ps.length := by omega
      rw [List.drop_length, flowGo] at hv
      refine W.exit ?_
      refine WE.then_exit ?_
      refine WE.then_exit ?_
      refine WE.blk_exit ?_
      refine WE.nxt ?_
      refine W.seq ?_
      refine W.region _ ?_
      refine WG.run tab_ok 1 rfl ?_
      refine WG.nil ?_
      refine WE.nxt ?_
      refine W.ret ?_
      refine WE.subE (E' := E) (by (repeat (first | exact List.Sublist.refl _ | exact List.nil_sublist _ | apply List.Sublist.cons_cons | apply List.Sublist.cons)); done) ?_
      refine WE.retF tab_ok [_] rfl ⟨rfl, trivial⟩ (RLe.refl _) ?_
      exact ⟨by rw [← hv]; rfl, rfl⟩

theorem LRun_ok {R : Ro} {pa : Option Addr} {pc : Nat} {ps : List Pkt} (hp : RS R 3 encP pa ps) {cap : Int} {classes ticks : Nat} (w0 : World) (hv : Ok ps) (hc : checkE cap classes ticks ps = 0) (E : List Ent) :
    K.Fn Try.prog 54 [.int .i64 cap, .int .i64 classes, .slice pa ps.length pc, .int .i64 ticks] w0 R E
      (fun v R' E' => ∃ (rows : List Sl) (gd go : Nat) (s : M.RS Unit), s = mrun ps (fifo ps) cap classes ticks () ∧ v = .tuple #[.agg #[.slice (some ⟨gd, 0, none⟩) ps.length ps.length, .slice (some ⟨go, 0, none⟩) classes classes], .int .i64 0] ∧ R = R' ∧ rows.map Sl.xs = s.sent ∧ (∀ r ∈ rows, r.a.isSome = true) ∧ Inv ps classes (goodF ps) (ticks + 1) (ticks * cap) s ∧
        (.sl 3 1 (some ⟨gd, 0, none⟩) ps.length (s.done.map encI) :: .sl 23 1 (some ⟨go, 0, none⟩) classes (rows.map encS) :: (rows.map (rowE 3) ++ E)).Sublist E') := by
  have hla := hp.len
  have hvv := (validate_ok ps).2 hv
  obtain ⟨hb, hfl⟩ := checkE_ok hc
  unfold BadC at hb
  have hcap : 1 ≤ cap ∧ cap ≤ 1000000 := by omega
  have hcl : classes ≤ 1000 := by omega
  have htk : ticks ≤ 1000000 := by omega
  have hrun := fun F => MRun_C (pc := pc) (g := 111) (first := #[]) (capd := #[]) (ch := fifo ps) (X := fun _ => []) (sg := ()) w0 hp (goodF_good ps) (hv.fit hfl) (Nat.zero_le _) hcap hcl htk en111 (fun sb bg ms sg F hgd hbl _ _ _ _ => First_C w0 hp hbl hgd F) F
  refine Fn.enter (n := 32) Try.func54 rfl rfl (Nat.le_of_ble_eq_true rfl) rfl ?_
  refine W.seq ?_
  refine W.region _ ?_
  refine WL.ef rfl rfl (by decide) (Ef.alloc tab_ok rfl rfl (fun b8 => ?_))
  refine WG.run tab_ok 1 rfl ?_
  refine WG.nil ?_
  refine WE.nxt ?_
  refine W.seq ?_
  refine W.seq ?_
  refine W.region _ ?_
  refine WG.run tab_ok 1 rfl ?_
  refine WG.callV en70 rfl rfl (by decide) (CallOp.mk' rfl rfl rfl rfl) (fun _ => rfl) (fun hg => hvv ▸ Validate_V hp) ?_
  refine WG.run tab_ok 1 rfl ?_
  refine WG.nil ?_
  refine WE.nxt ?_
  refine W.seq ?_
  refine W.region _ ?_
  refine WG.run tab_ok 2 rfl ?_
  refine WG.nil ?_
  refine WE.nxt ?_
  refine W.condN rfl (fun hc0 => ?_) (fun hc0 => ?_)
  · try dsimp only at hc0
    exact absurd rfl hc0
  · try dsimp only at hc0
    refine W.skip ?_
    refine WE.nxt ?_
    refine W.seq ?_
    refine W.seq ?_
    refine W.region _ ?_
    refine WG.run tab_ok 4 rfl ?_
    refine WG.callV en71 rfl rfl (by decide) (CallOp.mk' rfl rfl rfl rfl) (fun _ => rfl) (fun hg => hc ▸ Check_V hp) ?_
    refine WG.run tab_ok 1 rfl ?_
    refine WG.nil ?_
    refine WE.nxt ?_
    refine W.seq ?_
    refine W.region _ ?_
    refine WG.run tab_ok 2 rfl ?_
    refine WG.nil ?_
    refine WE.nxt ?_
    refine W.condN rfl (fun hc1 => ?_) (fun hc1 => ?_)
    · try dsimp only at hc1
      exact absurd rfl hc1
    · try dsimp only at hc1
      refine W.skip ?_
      refine WE.nxt ?_
      refine W.seq ?_
      refine W.region _ ?_
      refine WG.run tab_ok 4 rfl ?_
      refine WL.call en72 rfl rfl (by decide) (CallOp.mkT rfl rfl rfl rfl) (hrun (.blk b8 [.slice none 0 0, .slice none 0 0] :: E)) ?_
      rintro _ _ E2 - ⟨rows, gd, go, s, hs, rfl, rfl, h1, h2, h3, hsub⟩
      refine WL.subE hsub ?_
      refine WL.perm (List.perm_middle (l₁ := _ :: _ :: rows.map (rowE 3))) ?_
      first | refine WL.efN rfl rfl (Ef.store0 0 tab_ok rfl rfl rfl rfl rfl rfl rfl rfl ?_) | refine WL.efN rfl rfl (Ef.store0 1 tab_ok rfl rfl rfl rfl rfl rfl rfl rfl ?_) | refine WL.efN rfl rfl (Ef.store0 2 tab_ok rfl rfl rfl rfl rfl rfl rfl rfl ?_)
      refine WG.run tab_ok 1 rfl ?_
      refine WG.nil ?_
      refine WE.nxt ?_
      refine W.ret ?_
      refine WE.retF tab_ok [_, _] rfl ⟨⟨_, _, _, rfl, rfl, rfl, (Rd.blk 0 rfl), rfl⟩, rfl, trivial⟩ (RLe.refl _) ?_
      exact ⟨rows, gd, go, s, hs, rfl, rfl, h1, h2, h3, List.Sublist.cons _ (List.Sublist.refl _)⟩

theorem CLine_C {R : Ro} {rate : Int} (w0 : World) (hr : 0 ≤ rate ∧ rate ≤ 1073741824) (E : List Ent) :
    K.Fn Try.prog 110 [.int .i64 rate] w0 R E (fun v R' E' => ∃ g : Nat, v = .tuple #[.agg #[.slice (some ⟨g, 0, none⟩) 1 1, .int .i64 1, .int .i64 rate], .int .i64 0] ∧ R = R' ∧ (.sl 3 1 (some ⟨g, 0, none⟩) 1 ([0].map encI) :: E).Sublist E') := by
  refine Fn.enter (n := 13) Try.func110 rfl rfl (Nat.le_of_ble_eq_true rfl) rfl ?_
  refine W.seq ?_
  refine W.region _ ?_
  refine WL.ef rfl rfl (by decide) (Ef.alloc tab_ok rfl rfl (fun b2 => ?_))
  refine WG.run tab_ok 1 rfl ?_
  refine WG.nil ?_
  refine WE.nxt ?_
  refine W.seq ?_
  refine W.seq ?_
  refine W.region _ ?_
  refine WG.run tab_ok 2 rfl ?_
  refine WG.nil ?_
  refine WE.nxt ?_
  refine W.condD rfl (fun hc0 => ?_) (fun hc0 => ?_)
  · try dsimp only at hc0
    omega
  · try dsimp only at hc0
    refine W.skip ?_
    refine WE.nxt ?_
    refine W.seq ?_
    refine W.seq ?_
    refine W.region _ ?_
    refine WG.run tab_ok 2 rfl ?_
    refine WG.nil ?_
    refine WE.nxt ?_
    refine W.condD rfl (fun hc1 => ?_) (fun hc1 => ?_)
    · try dsimp only at hc1
      omega
    · try dsimp only at hc1
      refine W.skip ?_
      refine WE.nxt ?_
      refine W.seq ?_
      refine W.region _ ?_
      refine WL.ef rfl rfl (by decide) (Ef.buildSliceD (enc := encI) (parts := [.const (.int .i64 0)]) [_] tab_ok rfl rfl rfl rfl rfl rfl rfl rfl (by decide) (by decide) (fun a10 => ?_))
      refine WG.run tab_ok 1 rfl ?_
      -- build
      refine WG.y rfl rfl (by decide) (Yl.build (parts := [(0, .tmp 10), (1, .const (.int .i64 1)), (2, .tmp 11)]) tab_ok rfl rfl rfl rfl (fun _ => rfl) rfl rfl) ?_
      first | refine WL.efN rfl rfl (Ef.store0 0 tab_ok rfl rfl rfl rfl rfl rfl rfl rfl ?_) | refine WL.efN rfl rfl (Ef.store0 1 tab_ok rfl rfl rfl rfl rfl rfl rfl rfl ?_)
      refine WG.run tab_ok 1 rfl ?_
      refine WG.nil ?_
      refine WE.nxt ?_
      refine W.ret ?_
      refine WE.retF tab_ok [_, _] rfl ⟨⟨_, _, _, rfl, rfl, rfl, (Rd.blk 1 rfl), rfl⟩, rfl, trivial⟩ (RLe.refl _) ?_
      exact ⟨a10, rfl, rfl, List.Sublist.cons_cons _ (List.Sublist.cons _ (List.Sublist.refl _))⟩

theorem Serve_ok {R : Ro} {cap : Int} (w0 : World) (hr : 1 ≤ cap ∧ cap ≤ 4000) (E : List Ent) :
    K.Fn Try.prog 53 [.int .i64 cap] w0 R E (fun v R' E' => ∃ g : Nat, v = .tuple #[.agg #[.slice (some ⟨g, 0, none⟩) 1 1, .int .i64 1, .int .i64 cap], .int .i64 0] ∧ R = R' ∧ (.sl 3 1 (some ⟨g, 0, none⟩) 1 ([0].map encI) :: E).Sublist E') := by
  refine Fn.enter (n := 15) Try.func53 rfl rfl (Nat.le_of_ble_eq_true rfl) rfl ?_
  refine W.seq ?_
  refine W.region _ ?_
  refine WL.ef rfl rfl (by decide) (Ef.alloc tab_ok rfl rfl (fun b2 => ?_))
  refine WG.run tab_ok 1 rfl ?_
  refine WG.nil ?_
  refine WE.nxt ?_
  refine W.seq ?_
  refine W.seq ?_
  refine W.region _ ?_
  refine WG.run tab_ok 3 rfl ?_
  refine WG.y rfl rfl (by decide) (pureV_ok tab_ok rfl (by first | exact fun _ => rfl | exact fun h => h | (intro h; simp_all))) ?_
  refine WG.y rfl rfl (by decide) (pureV_ok tab_ok rfl (by first | exact fun _ => rfl | exact fun h => h | (intro h; simp_all))) ?_
  refine WG.y rfl rfl (by decide) (Yl.por rfl rfl rfl (fun _ => rfl) (by intro h1 h2; simp_all <;> omega)) ?_
  refine WG.nil ?_
  refine WE.nxt ?_
  refine W.cond rfl (fun hc0 => ?_) (fun hc0 => ?_)
  · try simp only [decide_eq_true_eq, decide_eq_false_iff_not, beq_iff_eq, bne_iff_ne, beq_eq_false_iff_ne, bne_eq_false_iff_eq, ne_eq, Bool.or_eq_true, Bool.or_eq_false_iff, Bool.and_eq_true, Bool.and_eq_false_imp, Bool.not_eq_true, Bool.not_eq_true', Bool.not_eq_false', Classical.not_not, Int.not_lt, Int.not_le, gt_iff_lt, ge_iff_le] at hc0
    omega
  · try simp only [decide_eq_true_eq, decide_eq_false_iff_not, beq_iff_eq, bne_iff_ne, beq_eq_false_iff_ne, bne_eq_false_iff_eq, ne_eq, Bool.or_eq_true, Bool.or_eq_false_iff, Bool.and_eq_true, Bool.and_eq_false_imp, Bool.not_eq_true, Bool.not_eq_true', Bool.not_eq_false', Classical.not_not, Int.not_lt, Int.not_le, gt_iff_lt, ge_iff_le] at hc0
    refine W.skip ?_
    refine WE.nxt ?_
    refine W.seq ?_
    refine W.region _ ?_
    refine WG.run tab_ok 1 rfl ?_
    refine WL.call en110 rfl rfl (by decide) (CallOp.mkT rfl rfl rfl rfl) (CLine_C w0 (by omega) _) ?_
    rintro _ _ E2 - ⟨g, rfl, rfl, hsub⟩
    refine WL.subE hsub ?_
    refine WG.run tab_ok 2 rfl ?_
    first | refine WL.efN rfl rfl (Ef.store0 0 tab_ok rfl rfl rfl rfl rfl rfl rfl rfl ?_) | refine WL.efN rfl rfl (Ef.store0 1 tab_ok rfl rfl rfl rfl rfl rfl rfl rfl ?_)
    refine WG.run tab_ok 1 rfl ?_
    refine WG.nil ?_
    refine WE.nxt ?_
    refine W.ret ?_
    refine WE.retF tab_ok [_, _] rfl ⟨⟨_, _, _, rfl, rfl, rfl, (Rd.blk 1 rfl), rfl⟩, rfl, trivial⟩ (RLe.refl _) ?_
    exact ⟨g, rfl, rfl, List.Sublist.cons_cons _ (List.Sublist.cons _ (List.Sublist.refl _))⟩

end Go.Proofs.Ytnaeefefggmomaa

/- A trial. No condition. -/
set_option linter.unusedSimpArgs false
set_option linter.unusedVariables false
namespace Go.Proofs.Ytnaeefefggmomaa
open Go Go.RowKit Go.Proofs.Ytnaeefefggmomaa.K Go.Proofs.Ytnaeefefggmomaa.M

end Go.Proofs.Ytnaeefefggmomaa

/- Chapters 13 and 16: Sound and Later. No condition. -/
set_option linter.unusedSimpArgs false
set_option linter.unusedVariables false
namespace Go.Proofs.Ytnaeefefggmomaa
open Go Go.RowKit Go.Proofs.Ytnaeefefggmomaa.K Go.Proofs.Ytnaeefefggmomaa.M

theorem Sound_V {R : Ro} {oa : Option Addr} {oc : Nat} {rows : List Sl} {pa da : Option Addr} {pl pc dc n : Nat} (ho : RS R 1 encS oa rows) (hn : rows.length = n) (hn2 : n ≤ 1000) {t : Int} (ht : 0 ≤ t ∧ t ≤ 1000000) (hl : ∀ r ∈ rows, (r.xs.length : Int) = t + 1) :
    FnV Try.prog 36 [.slice pa pl pc, .agg #[.slice da pl dc, .slice oa n oc], .int .i64 n, .int .i64 t] R (.bool true) := by
  subst hn
  refine Fn.toV (fun w0 E => ?_)
  refine Fn.enter (n := 37) Try.func36 rfl rfl (Nat.le_of_ble_eq_true rfl) rfl ?_
  refine W.seq ?_
  refine W.region _ ?_
  refine WL.ef rfl rfl (by decide) (Ef.box rfl rfl (fun b5 => ?_))
  refine WG.run tab_ok 1 rfl ?_
  refine WG.nil ?_
  refine WE.nxt ?_
  refine W.seq ?_
  refine W.seq ?_
  refine W.region _ ?_
  refine WG.run tab_ok 1 rfl ?_
  refine' WG.y rfl rfl (by decide) (Yl.load1 tab_ok rfl rfl rfl (fun _ => rfl) ?r1 rfl ?h1) ?_
  case r1 => apply Rd.add; (first | exact Rd.blk 0 rfl | exact Rd.blk 1 rfl)
  case h1 => rfl
  refine WG.run tab_ok 5 rfl ?_
  refine WG.y rfl rfl (by decide) (pureV_ok tab_ok rfl (by first | exact fun _ => rfl | exact fun h => h | (intro h; simp_all))) ?_
  refine' WG.y rfl rfl (by decide) (Yl.loadG tab_ok rfl rfl rfl (by first | exact fun _ => rfl | exact fun h => h | (intro h; simp_all)) ?r2 rfl ?h2 ?g2) ?_
  case r2 => apply Rd.addC; (first | exact Rd.blkC 0 rfl | exact Rd.blkC 1 rfl)
  case h2 => rfl
  case g2 => first | exact fun _ => trivial | (intro hg; (try simp only [decide_eq_true_eq, decide_eq_false_iff_not, beq_iff_eq, bne_iff_ne, beq_eq_false_iff_ne, bne_eq_false_iff_eq, ne_eq, Bool.or_eq_true, Bool.or_eq_false_iff, Bool.and_eq_true, Bool.and_eq_false_imp, Bool.not_eq_true, Bool.not_eq_true', Bool.not_eq_false', Classical.not_not, Int.not_lt, Int.not_le, gt_iff_lt, ge_iff_le] at hg); (try dsimp only); omega)
  refine WG.y rfl rfl (by decide) (pureV_ok tab_ok rfl (by first | exact fun _ => rfl | exact fun h => h | (intro h; simp_all))) ?_
  refine WG.y rfl rfl (by decide) (pureV_ok tab_ok rfl (by first | exact fun _ => rfl | exact fun h => h | (intro h; simp_all))) ?_
  refine WG.y rfl rfl (by decide) (pureV_ok tab_ok rfl (by first | exact fun _ => rfl | exact fun h => h | (intro h; simp_all))) ?_
  refine WG.y rfl rfl (by decide) (Yl.por rfl rfl rfl (fun _ => rfl) (by intro h1 h2; simp_all <;> omega)) ?_
  refine WG.nil ?_
  refine WE.nxt ?_
  refine W.cond rfl (fun hc0 => ?_) (fun hc0 => ?_)
  · try simp only [decide_eq_true_eq, decide_eq_false_iff_not, beq_iff_eq, bne_iff_ne, beq_eq_false_iff_ne, bne_eq_false_iff_eq, ne_eq, Bool.or_eq_true, Bool.or_eq_false_iff, Bool.and_eq_true, Bool.and_eq_false_imp, Bool.not_eq_true, Bool.not_eq_true', Bool.not_eq_false', Classical.not_not, Int.not_lt, Int.not_le, gt_iff_lt, ge_iff_le] at hc0
    exact absurd hc0 (by simp)
  · try simp only [decide_eq_true_eq, decide_eq_false_iff_not, beq_iff_eq, bne_iff_ne, beq_eq_false_iff_ne, bne_eq_false_iff_eq, ne_eq, Bool.or_eq_true, Bool.or_eq_false_iff, Bool.and_eq_true, Bool.and_eq_false_imp, Bool.not_eq_true, Bool.not_eq_true', Bool.not_eq_false', Classical.not_not, Int.not_lt, Int.not_le, gt_iff_lt, ge_iff_le] at hc0
    refine W.skip ?_
    refine WE.nxt ?_
    refine W.seq ?_
    refine W.seq ?_
    refine W.region _ ?_
    refine WG.run tab_ok 1 rfl ?_
    refine WG.nil ?_
    refine WE.nxt ?_
    refine W.block ?_
    refine W.loop (β := Nat) (fun k => k ≤ rows.length) (fun k => [(2, true, .int .i64 rows.length), (3, true, .int .i64 t), (5, true, .pointer (some ⟨b5, 0, none⟩)), (9, true, .int .i64 (k : Int))]) (fun _ => R) (fun _ => .blk b5 [.slice da pl dc, .slice oa rows.length oc] :: E) (fun k => rows.length - k) (0) (Nat.zero_le _) ⟨rfl, rfl, rfl, rfl, rfl⟩ (RLe.refl _) (by (repeat (first | exact List.Sublist.refl _ | exact List.nil_sublist _ | apply List.Sublist.cons_cons | apply List.Sublist.cons)); done) ?_
    intro st hst
    have hk : st ≤ rows.length := hst
    refine W.seq ?_
    refine W.seq ?_
    refine W.region _ ?_
    refine WG.run tab_ok 3 rfl ?_
    refine WG.nil ?_
    refine WE.nxt ?_
    refine W.condD rfl (fun hc1 => ?_) (fun hc1 => ?_)
    · try dsimp only at hc1
      have hx := hl _ (nth_mem (xs := rows) (k := st) (by omega))
      refine W.skip ?_
      refine WE.nxt ?_
      refine W.seq ?_
      refine W.block ?_
      refine W.seq ?_
      refine W.region _ ?_
      refine WG.run tab_ok 1 rfl ?_
      refine' WG.y rfl rfl (by decide) (Yl.load1 tab_ok rfl rfl rfl (fun _ => rfl) ?r3 rfl ?h3) ?_
      case r3 => apply Rd.add; (first | exact Rd.blk 0 rfl | exact Rd.blk 1 rfl)
      case h3 => rfl
      refine WG.run tab_ok 1 rfl ?_
      refine WG.y rfl rfl (by decide) (Yl.indexN tab_ok rfl rfl rfl rfl rfl rfl (fun _ => rfl) (by intro _; (try dsimp only) <;> omega) (by intro _; first | exact fun _ _ _ _ => rfl | exact RS.has (by assumption) | exact fun _ _ _ _ => (by assumption) | exact HasMem.ownD 0 rfl | exact HasMem.ownD 1 rfl)) ?_
      refine' WG.y rfl rfl (by decide) (Yl.load1 tab_ok rfl rfl rfl (fun _ => rfl) ?r4 rfl ?h4) ?_
      case r4 => (first | (apply RS.rdD; assumption; ((try dsimp only) <;> omega)) | exact Rd.slD 0 rfl (by (try dsimp only) <;> omega) | exact Rd.slD 1 rfl (by (try dsimp only) <;> omega))
      case h4 => rfl
      refine WG.run tab_ok 2 rfl ?_
      refine WG.y rfl rfl (by decide) (Yl.add rfl rfl rfl (fun _ => rfl) (by intro _; constructor <;> (try dsimp only) <;> omega)) ?_
      refine WG.run tab_ok 1 rfl ?_
      refine WG.nil ?_
      refine WE.nxt ?_
      refine W.condN rfl (fun hc2 => ?_) (fun hc2 => ?_)
      · try dsimp only at hc2
        omega
      · try dsimp only at hc2
        refine W.skip ?_
        refine WE.blk _ ?_
        refine WE.nxt ?_
        refine W.region _ ?_
        refine WG.run tab_ok 1 rfl ?_
        refine WG.y rfl rfl (by decide) (Yl.add rfl rfl rfl (fun _ => rfl) (by intro _; constructor <;> (try dsimp only) <;> omega)) ?_
        refine WG.run tab_ok 1 rfl ?_
        refine WG.nil ?_
        refine WE.again (st + 1) (by omega) (by (try dsimp only); omega) ⟨rfl, rfl, rfl, rfl, rfl⟩ (RLe.refl _) (by (repeat (first | exact List.Sublist.refl _ | exact List.nil_sublist _ | apply List.Sublist.cons_cons | apply List.Sublist.cons)); done)
    · try dsimp only at hc1
      refine W.exit ?_
      refine WE.then_exit ?_
      refine WE.then_exit ?_
      refine WE.blk_exit ?_
      refine WE.nxt ?_
      refine W.seq ?_
      refine W.region _ ?_
      refine WG.run tab_ok 1 rfl ?_
      refine WG.nil ?_
      refine WE.nxt ?_
      refine W.ret ?_
      refine WE.subE (E' := E) (by (repeat (first | exact List.Sublist.refl _ | exact List.nil_sublist _ | apply List.Sublist.cons_cons | apply List.Sublist.cons)); done) ?_
      refine WE.retF tab_ok [_] rfl ⟨rfl, trivial⟩ (RLe.refl _) ?_
      exact ⟨rfl, rfl⟩

end Go.Proofs.Ytnaeefefggmomaa

/- Chapter 16: everything later. No condition. -/
set_option linter.unusedSimpArgs false
set_option linter.unusedVariables false
namespace Go.Proofs.Ytnaeefefggmomaa
open Go Go.RowKit Go.Proofs.Ytnaeefefggmomaa.K Go.Proofs.Ytnaeefefggmomaa.M

theorem LRun_len {R : Ro} {pa : Option Addr} {pc l : Nat} {ps : List Pkt} (hp : RS R 3 encP pa ps) (hlen : ps.length = l) {cap : Int} {classes ticks : Nat} (w0 : World) (hv : Ok ps) (hc : checkE cap classes ticks ps = 0) (E : List Ent) :
    K.Fn Try.prog 54 [.int .i64 cap, .int .i64 classes, .slice pa l pc, .int .i64 ticks] w0 R E
      (fun v R' E' => ∃ (rows : List Sl) (gd go : Nat) (s : M.RS Unit), s = mrun ps (fifo ps) cap classes ticks () ∧ v = .tuple #[.agg #[.slice (some ⟨gd, 0, none⟩) l l, .slice (some ⟨go, 0, none⟩) classes classes], .int .i64 0] ∧ R = R' ∧ rows.map Sl.xs = s.sent ∧ (∀ r ∈ rows, r.a.isSome = true) ∧ Inv ps classes (goodF ps) (ticks + 1) (ticks * cap) s ∧
        (.sl 3 1 (some ⟨gd, 0, none⟩) l (s.done.map encI) :: .sl 23 1 (some ⟨go, 0, none⟩) classes (rows.map encS) :: (rows.map (rowE 3) ++ E)).Sublist E') := by
  subst hlen; exact LRun_ok hp w0 hv hc E
theorem rows_facts {σ : Type} {ps : List Pkt} {good : MS → σ → Prop} {len : Nat} {B : Int} {s : M.RS σ} {rows : List Sl} (h1 : rows.map Sl.xs = s.sent) (h3 : Inv ps 3 good len B s) : rows.length = 3 ∧ ∀ r ∈ rows, r.xs.length = len := by
  have e : rows.length = 3 := by rw [← h3.sent, ← h1, List.length_map]
  exact ⟨e, fun r hr => (h3.rows _ (by rw [← h1]; exact List.mem_map_of_mem hr)).1⟩

end Go.Proofs.Ytnaeefefggmomaa

/- Chapter 16: what all classes together are sent. No condition. -/
set_option linter.unusedSimpArgs false
set_option linter.unusedVariables false
namespace Go.Proofs.Ytnaeefefggmomaa
open Go Go.RowKit Go.Proofs.Ytnaeefefggmomaa.K Go.Proofs.Ytnaeefefggmomaa.M

theorem At_V {R : Ro} {a : Option Addr} {c : Nat} {xs : List Int} {per inc t : Int} (ha : RS R 1 encI a xs) (hper : InR per) (ht : InR t ∧ t ≤ 1000000000) (hinc : 0 ≤ inc ∧ inc ≤ 2147483648) (hv : ∀ x ∈ xs, -2305843009213693952 ≤ x ∧ x ≤ 4611686018427387904) :
    FnV Try.prog 39 [.agg #[.slice a xs.length c, .int .i64 per, .int .i64 inc], .int .i64 t] R (.int .i64 (atR xs per inc t)) := by
  have hla := ha.len
  refine Fn.toV (fun w0 E => ?_)
  refine Fn.enter (n := 62) Try.func39 rfl rfl (Nat.le_of_ble_eq_true rfl) rfl ?_
  refine W.seq ?_
  refine W.region _ ?_
  refine WL.ef rfl rfl (by decide) (Ef.box rfl rfl (fun b2 => ?_))
  refine WG.run tab_ok 1 rfl ?_
  refine WG.nil ?_
  refine WE.nxt ?_
  refine W.seq ?_
  refine W.region _ ?_
  refine WG.run tab_ok 1 rfl ?_
  refine' WG.y rfl rfl (by decide) (Yl.load1 tab_ok rfl rfl rfl (fun _ => rfl) ?r1 rfl ?h1) ?_
  case r1 => apply Rd.add; (first | exact Rd.blk 0 rfl | exact Rd.blk 1 rfl)
  case h1 => rfl
  refine WG.run tab_ok 2 rfl ?_
  refine WG.nil ?_
  refine WE.nxt ?_
  refine W.seq ?_
  refine W.seq ?_
  refine W.region _ ?_
  refine WG.run tab_ok 3 rfl ?_
  refine WG.y rfl rfl (by decide) (pureV_ok tab_ok rfl (by first | exact fun _ => rfl | exact fun h => h | (intro h; simp_all))) ?_
  refine WG.y rfl rfl (by decide) (pureV_ok tab_ok rfl (by first | exact fun _ => rfl | exact fun h => h | (intro h; simp_all))) ?_
  refine WG.y rfl rfl (by decide) (pureV_ok tab_ok rfl (by first | exact fun _ => rfl | exact fun h => h | (intro h; simp_all))) ?_
  refine WG.y rfl rfl (by decide) (pureV_ok tab_ok rfl (by first | exact fun _ => rfl | exact fun h => h | (intro h; simp_all))) ?_
  refine WG.y rfl rfl (by decide) (pureV_ok tab_ok rfl (by first | exact fun _ => rfl | exact fun h => h | (intro h; simp_all))) ?_
  refine' WG.y rfl rfl (by decide) (Yl.loadG tab_ok rfl rfl rfl (by first | exact fun _ => rfl | exact fun h => h | (intro h; simp_all)) ?r2 rfl ?h2 ?g2) ?_
  case r2 => apply Rd.addC; (first | exact Rd.blkC 0 rfl | exact Rd.blkC 1 rfl)
  case h2 => rfl
  case g2 => first | exact fun _ => trivial | (intro hg; (try simp only [decide_eq_true_eq, decide_eq_false_iff_not, beq_iff_eq, bne_iff_ne, beq_eq_false_iff_ne, bne_eq_false_iff_eq, ne_eq, Bool.or_eq_true, Bool.or_eq_false_iff, Bool.and_eq_true, Bool.and_eq_false_imp, Bool.not_eq_true, Bool.not_eq_true', Bool.not_eq_false', Classical.not_not, Int.not_lt, Int.not_le, gt_iff_lt, ge_iff_le] at hg); (try dsimp only); omega)
  refine WG.y rfl rfl (by decide) (pureV_ok tab_ok rfl (by first | exact fun _ => rfl | exact fun h => h | (intro h; simp_all))) ?_
  refine WG.y rfl rfl (by decide) (pureV_ok tab_ok rfl (by first | exact fun _ => rfl | exact fun h => h | (intro h; simp_all))) ?_
  refine WG.y rfl rfl (by decide) (pureV_ok tab_ok rfl (by first | exact fun _ => rfl | exact fun h => h | (intro h; simp_all))) ?_
  refine' WG.y rfl rfl (by decide) (Yl.loadG tab_ok rfl rfl rfl (by first | exact fun _ => rfl | exact fun h => h | (intro h; simp_all)) ?r3 rfl ?h3 ?g3) ?_
  case r3 => apply Rd.addC; (first | exact Rd.blkC 0 rfl | exact Rd.blkC 1 rfl)
  case h3 => rfl
  case g3 => first | exact fun _ => trivial | (intro hg; (try simp only [decide_eq_true_eq, decide_eq_false_iff_not, beq_iff_eq, bne_iff_ne, beq_eq_false_iff_ne, bne_eq_false_iff_eq, ne_eq, Bool.or_eq_true, Bool.or_eq_false_iff, Bool.and_eq_true, Bool.and_eq_false_imp, Bool.not_eq_true, Bool.not_eq_true', Bool.not_eq_false', Classical.not_not, Int.not_lt, Int.not_le, gt_iff_lt, ge_iff_le] at hg); (try dsimp only); omega)
  refine WG.y rfl rfl (by decide) (pureV_ok tab_ok rfl (by first | exact fun _ => rfl | exact fun h => h | (intro h; simp_all))) ?_
  refine WG.y rfl rfl (by decide) (pureV_ok tab_ok rfl (by first | exact fun _ => rfl | exact fun h => h | (intro h; simp_all))) ?_
  refine WG.y rfl rfl (by decide) (Yl.por rfl rfl rfl (by first | exact fun _ => rfl | exact fun h => h | (intro h; simp_all)) (by intro h1 h2; simp_all <;> omega)) ?_
  refine WG.y rfl rfl (by decide) (Yl.pand rfl rfl rfl (by first | exact fun _ => rfl | exact fun h => h | (intro h; simp_all)) (by intro h1 h2; simp_all <;> omega)) ?_
  refine WG.y rfl rfl (by decide) (Yl.por rfl rfl rfl (fun _ => rfl) (by intro h1 h2; simp_all <;> omega)) ?_
  refine WG.nil ?_
  refine WE.nxt ?_
  refine W.cond rfl (fun hc0 => ?_) (fun hc0 => ?_)
  · try simp only [decide_eq_true_eq, decide_eq_false_iff_not, beq_iff_eq, bne_iff_ne, beq_eq_false_iff_ne, bne_eq_false_iff_eq, ne_eq, Bool.or_eq_true, Bool.or_eq_false_iff, Bool.and_eq_true, Bool.and_eq_false_imp, Bool.not_eq_true, Bool.not_eq_true', Bool.not_eq_false', Classical.not_not, Int.not_lt, Int.not_le, gt_iff_lt, ge_iff_le] at hc0
    have e : atR xs per inc t = -1 := by unfold atR; rw [if_pos (by omega)]
    refine W.seq ?_
    refine W.region _ ?_
    refine WG.run tab_ok 1 rfl ?_
    refine WG.nil ?_
    refine WE.nxt ?_
    refine W.ret ?_
    refine WE.then_ret ?_
    refine WE.subE (E' := E) (by (repeat (first | exact List.Sublist.refl _ | exact List.nil_sublist _ | apply List.Sublist.cons_cons | apply List.Sublist.cons)); done) ?_
    refine WE.retF tab_ok [_] rfl ⟨rfl, trivial⟩ (RLe.refl _) ?_
    exact ⟨by rw [e]; rfl, rfl⟩
  · try simp only [decide_eq_true_eq, decide_eq_false_iff_not, beq_iff_eq, bne_iff_ne, beq_eq_false_iff_ne, bne_eq_false_iff_eq, ne_eq, Bool.or_eq_true, Bool.or_eq_false_iff, Bool.and_eq_true, Bool.and_eq_false_imp, Bool.not_eq_true, Bool.not_eq_true', Bool.not_eq_false', Classical.not_not, Int.not_lt, Int.not_le, gt_iff_lt, ge_iff_le] at hc0
    have hb : ¬ (t < 0 ∨ ((xs.length : Int) ≤ t ∧ (per < 1 ∨ (xs.length : Int) < per))) := by
      rintro (h1 | ⟨h1, h2 | h2⟩) <;> omega
    refine W.skip ?_
    refine WE.nxt ?_
    refine W.seq ?_
    refine W.seq ?_
    refine W.region _ ?_
    refine WG.run tab_ok 3 rfl ?_
    refine WG.nil ?_
    refine WE.nxt ?_
    refine W.condD rfl (fun hc1 => ?_) (fun hc1 => ?_)
    · try dsimp only at hc1
      have e : atR xs per inc t = nth xs t.toNat := by unfold atR; rw [if_neg hb, if_pos hc1]
      refine W.seq ?_
      refine W.region _ ?_
      refine WG.run tab_ok 1 rfl ?_
      refine' WG.y rfl rfl (by decide) (Yl.load1 tab_ok rfl rfl rfl (fun _ => rfl) ?r4 rfl ?h4) ?_
      case r4 => apply Rd.add; (first | exact Rd.blk 0 rfl | exact Rd.blk 1 rfl)
      case h4 => rfl
      refine WG.run tab_ok 1 rfl ?_
      refine WG.y rfl rfl (by decide) (Yl.index tab_ok rfl rfl rfl rfl rfl rfl (fun _ => rfl) (by intro _; constructor <;> (try dsimp only) <;> omega) (by intro _; first | exact fun _ _ _ _ => rfl | exact RS.has (by assumption) | exact fun _ _ _ _ => (by assumption) | exact HasMem.ownD 0 rfl | exact HasMem.ownD 1 rfl)) ?_
      refine' WG.y rfl rfl (by decide) (Yl.load1 tab_ok rfl rfl rfl (fun _ => rfl) ?r5 rfl ?h5) ?_
      case r5 => (first | (apply RS.rdD; assumption; ((try dsimp only) <;> omega)) | exact Rd.slD 0 rfl (by (try dsimp only) <;> omega) | exact Rd.slD 1 rfl (by (try dsimp only) <;> omega))
      case h5 => rfl
      refine WG.run tab_ok 1 rfl ?_
      refine WG.nil ?_
      refine WE.nxt ?_
      refine W.ret ?_
      refine WE.then_ret ?_
      refine WE.subE (E' := E) (by (repeat (first | exact List.Sublist.refl _ | exact List.nil_sublist _ | apply List.Sublist.cons_cons | apply List.Sublist.cons)); done) ?_
      refine WE.retF tab_ok [_] rfl ⟨rfl, trivial⟩ (RLe.refl _) ?_
      exact ⟨by rw [e]; rfl, rfl⟩
    · try dsimp only at hc1
      obtain ⟨hp1, hp2⟩ : 1 ≤ per ∧ per ≤ (xs.length : Int) := by omega
      have q1 : 0 ≤ (t - (xs.length : Int)) / per := Int.ediv_nonneg (by omega) (by omega)
      have q2 : (t - (xs.length : Int)) / per * per ≤ t - xs.length := Int.ediv_mul_le _ (by omega)
      have q3 : t - (xs.length : Int) < ((t - (xs.length : Int)) / per + 1) * per := Int.lt_ediv_add_one_mul_self _ (by omega)
      have q4 : ((t - (xs.length : Int)) / per + 1) * per = (t - (xs.length : Int)) / per * per + per := by rw [Int.add_mul]; simp
      have q5 : (t - (xs.length : Int)) / per ≤ t - xs.length := Int.ediv_le_self _ (by omega)
      have q6 : ((t - (xs.length : Int)) / per + 1) * inc ≤ 1000000001 * 2147483648 := Int.mul_le_mul (by omega) hinc.2 hinc.1 (by omega)
      have q7 : 0 ≤ ((t - (xs.length : Int)) / per + 1) * inc := Int.mul_nonneg (by omega) hinc.1
      refine W.skip ?_
      refine WE.nxt ?_
      refine W.seq ?_
      refine W.region _ ?_
      refine WG.run tab_ok 2 rfl ?_
      refine WG.y rfl rfl (by decide) (Yl.sub rfl rfl rfl (fun _ => rfl) (by intro _; constructor <;> (try dsimp only) <;> omega)) ?_
      refine WG.run tab_ok 1 rfl ?_
      refine' WG.y rfl rfl (by decide) (Yl.load1 tab_ok rfl rfl rfl (fun _ => rfl) ?r6 rfl ?h6) ?_
      case r6 => apply Rd.add; (first | exact Rd.blk 0 rfl | exact Rd.blk 1 rfl)
      case h6 => rfl
      refine WG.y rfl rfl (by decide) (Yl.quo rfl rfl rfl (fun _ => rfl) (by intro _; constructor <;> (try dsimp only) <;> omega) (by intro _; omega)) ?_
      refine WG.y rfl rfl (by decide) (Yl.add rfl rfl rfl (fun _ => rfl) (by intro _; constructor <;> (try dsimp only) <;> omega)) ?_
      refine WG.run tab_ok 1 rfl ?_
      refine WG.nil ?_
      refine WE.nxt ?_
      refine W.seq ?_
      refine W.region _ ?_
      refine WG.run tab_ok 1 rfl ?_
      refine' WG.y rfl rfl (by decide) (Yl.load1 tab_ok rfl rfl rfl (fun _ => rfl) ?r7 rfl ?h7) ?_
      case r7 => apply Rd.add; (first | exact Rd.blk 0 rfl | exact Rd.blk 1 rfl)
      case h7 => rfl
      refine WG.run tab_ok 3 rfl ?_
      refine' WG.y rfl rfl (by decide) (Yl.load1 tab_ok rfl rfl rfl (fun _ => rfl) ?r8 rfl ?h8) ?_
      case r8 => apply Rd.add; (first | exact Rd.blk 0 rfl | exact Rd.blk 1 rfl)
      case h8 => rfl
      refine WG.y rfl rfl (by decide) (Yl.mul rfl rfl rfl (fun _ => rfl) (by intro _; constructor <;> (try dsimp only) <;> omega)) ?_
      refine WG.y rfl rfl (by decide) (Yl.sub rfl rfl rfl (fun _ => rfl) (by intro _; constructor <;> (try dsimp only) <;> omega)) ?_
      refine WG.y rfl rfl (by decide) (Yl.index tab_ok rfl rfl rfl rfl rfl rfl (fun _ => rfl) (by intro _; constructor <;> (try dsimp only) <;> omega) (by intro _; first | exact fun _ _ _ _ => rfl | exact RS.has (by assumption) | exact fun _ _ _ _ => (by assumption) | exact HasMem.ownD 0 rfl | exact HasMem.ownD 1 rfl)) ?_
      refine' WG.y rfl rfl (by decide) (Yl.load1 tab_ok rfl rfl rfl (fun _ => rfl) ?r9 rfl ?h9) ?_
      case r9 => (first | (apply RS.rdD; assumption; ((try dsimp only) <;> omega)) | exact Rd.slD 0 rfl (by (try dsimp only) <;> omega) | exact Rd.slD 1 rfl (by (try dsimp only) <;> omega))
      case h9 => rfl
      refine WG.run tab_ok 1 rfl ?_
      refine WG.nil ?_
      refine WE.nxt ?_
      refine W.seq ?_
      refine W.seq ?_
      refine W.region _ ?_
      refine WG.run tab_ok 2 rfl ?_
      refine WG.nil ?_
      refine WE.nxt ?_
      refine W.condE rfl (fun hc2 => ?_) (fun hc2 => ?_)
      · try dsimp only at hc2
        have e : atR xs per inc t = 4611686018427387904 := by unfold atR; rw [if_neg hb, if_neg (by omega), if_pos hc2]
        refine W.seq ?_
        refine W.region _ ?_
        refine WG.run tab_ok 1 rfl ?_
        refine WG.nil ?_
        refine WE.nxt ?_
        refine W.ret ?_
        refine WE.then_ret ?_
        refine WE.subE (E' := E) (by (repeat (first | exact List.Sublist.refl _ | exact List.nil_sublist _ | apply List.Sublist.cons_cons | apply List.Sublist.cons)); done) ?_
        refine WE.retF tab_ok [_] rfl ⟨rfl, trivial⟩ (RLe.refl _) ?_
        exact ⟨by rw [e]; rfl, rfl⟩
      · try dsimp only at hc2
        have e : atR xs per inc t = nth xs (t - ((t - xs.length) / per + 1) * per).toNat + ((t - xs.length) / per + 1) * inc := by unfold atR; rw [if_neg hb, if_neg (by omega), if_neg hc2]
        have hx := hv _ (nth_mem (xs := xs) (k := (t - ((t - xs.length) / per + 1) * per).toNat) (by omega))
        refine W.skip ?_
        refine WE.nxt ?_
        refine W.seq ?_
        refine W.region _ ?_
        refine WG.run tab_ok 3 rfl ?_
        refine' WG.y rfl rfl (by decide) (Yl.load1 tab_ok rfl rfl rfl (fun _ => rfl) ?r10 rfl ?h10) ?_
        case r10 => apply Rd.add; (first | exact Rd.blk 0 rfl | exact Rd.blk 1 rfl)
        case h10 => rfl
        refine WG.y rfl rfl (by decide) (Yl.mul rfl rfl rfl (fun _ => rfl) (by intro _; constructor <;> (try dsimp only) <;> omega)) ?_
        refine WG.y rfl rfl (by decide) (Yl.add rfl rfl rfl (fun _ => rfl) (by intro _; constructor <;> (try dsimp only) <;> omega)) ?_
        refine WG.run tab_ok 1 rfl ?_
        refine WG.nil ?_
        refine WE.nxt ?_
        refine W.ret ?_
        refine WE.subE (E' := E) (by (repeat (first | exact List.Sublist.refl _ | exact List.nil_sublist _ | apply List.Sublist.cons_cons | apply List.Sublist.cons)); done) ?_
        refine WE.retF tab_ok [_] rfl ⟨rfl, trivial⟩ (RLe.refl _) ?_
        exact ⟨by rw [e]; rfl, rfl⟩

theorem Total_C {R : Ro} {da oa : Option Addr} {dl dc oc l m : Nat} {rows : List Sl} (w0 : World) (ho : RS R 1 encS oa rows) (hl : rows.length = l) (hr : ∀ r ∈ rows, RS R 1 encI r.a r.xs) (hm : ∀ r ∈ rows, r.xs.length = m) (hb : ∀ r ∈ rows, ∀ x ∈ r.xs, 0 ≤ x ∧ x ≤ 1000000000000) (hr0 : 0 < rows.length) (hr1 : rows.length ≤ 1000) (hm1 : m ≤ 1000000) (E : List Ent) :
    K.Fn Try.prog 55 [.agg #[.slice da dl dc, .slice oa l oc]] w0 R E (fun v R' E' => ∃ (g : Nat) (a : Option Addr) (c : Nat), v = .agg #[.slice da dl dc, .slice (some ⟨g, 0, none⟩) 1 1] ∧ R = R' ∧
      (.sl 3 1 a c ((totL (rows.map Sl.xs) m).map encI) :: .sl 23 1 (some ⟨g, 0, none⟩) 1 ([(⟨a, c, totL (rows.map Sl.xs) m⟩ : Sl)].map encS) :: E).Sublist E') := by
  subst hl
  have h0 := hm _ (nth_mem (xs := rows) hr0)
  refine Fn.enter (n := 62) Try.func55 rfl rfl (Nat.le_of_ble_eq_true rfl) rfl ?_
  refine W.seq ?_
  refine W.region _ ?_
  refine WL.ef rfl rfl (by decide) (Ef.box rfl rfl (fun b1 => ?_))
  refine WL.ef rfl rfl (by decide) (Ef.alloc tab_ok rfl rfl (fun b2 => ?_))
  refine WG.nil ?_
  refine WE.nxt ?_
  refine W.seq ?_
  refine W.region _ ?_
  refine WG.run tab_ok 1 rfl ?_
  refine' WG.y rfl rfl (by decide) (Yl.load1 tab_ok rfl rfl rfl (fun _ => rfl) ?r1 rfl ?h1) ?_
  case r1 => apply Rd.add; (first | exact Rd.blk 0 rfl | exact Rd.blk 1 rfl | exact Rd.blk 2 rfl | exact Rd.blk 3 rfl | exact Rd.blk 4 rfl | exact Rd.blk 5 rfl)
  case h1 => rfl
  refine WL.ef rfl rfl (by decide) (Ef.buildSliceD (enc := encS) (parts := [.const (.slice .none 0 0)]) [(⟨none, 0, []⟩ : Sl)] tab_ok rfl rfl rfl rfl rfl rfl rfl rfl (by decide) (by decide) (fun a9 => ?_))
  -- build
  refine WG.y rfl rfl (by decide) (Yl.build (parts := [(0, .tmp 8), (1, .tmp 9)]) tab_ok rfl rfl rfl rfl (fun _ => rfl) rfl rfl) ?_
  refine WL.ef rfl rfl (by decide) (Ef.alloc tab_ok rfl rfl (fun b3 => ?_))
  first | refine WL.efN rfl rfl (Ef.store0 0 tab_ok rfl rfl rfl rfl rfl rfl rfl rfl ?_) | refine WL.efN rfl rfl (Ef.store0 1 tab_ok rfl rfl rfl rfl rfl rfl rfl rfl ?_) | refine WL.efN rfl rfl (Ef.store0 2 tab_ok rfl rfl rfl rfl rfl rfl rfl rfl ?_) | refine WL.efN rfl rfl (Ef.store0 3 tab_ok rfl rfl rfl rfl rfl rfl rfl rfl ?_) | refine WL.efN rfl rfl (Ef.store0 4 tab_ok rfl rfl rfl rfl rfl rfl rfl rfl ?_) | refine WL.efN rfl rfl (Ef.store0 5 tab_ok rfl rfl rfl rfl rfl rfl rfl rfl ?_)
  refine WG.nil ?_
  refine WE.nxt ?_
  refine W.seq ?_
  refine W.nil 3 1 (by decide) ?_
  refine W.perm (List.Perm.swap _ _ _) ?_
  refine W.seq ?_
  refine W.region _ ?_
  refine WG.run tab_ok 1 rfl ?_
  refine WG.nil ?_
  refine WE.nxt ?_
  refine W.block ?_
  refine W.loopK (β := Nat × Option Addr × Nat) (fun (t, a, c) => t ≤ m) (fun (t, a, c) => [(4, true, .int .i64 (t : Int))]) [1, 2, 3] [_, _, _] [] _ rfl (fun (t, a, c) => [(0, .blk b3 [.slice da dl dc, .slice (some ⟨a9, 0, none⟩) 1 1]), (1, .sl 3 1 a c ((totL (rows.map Sl.xs) t).map encI)), (2, .sl 23 1 (some ⟨a9, 0, none⟩) 1 ([(⟨a, c, totL (rows.map Sl.xs) t⟩ : Sl)].map encS))]) (fun (t, a, c) => m - t) ((0, none, 0)) (Nat.zero_le _) ⟨rfl, rfl, rfl, rfl, rfl⟩ (by (repeat (first | exact List.Sublist.refl _ | exact List.nil_sublist _ | apply List.Sublist.cons_cons | apply List.Sublist.cons)); done) ?_
  intro st hst
  obtain ⟨t, a, c⟩ := st
  dsimp only [zipE, setAll, List.cons_append, List.nil_append, List.set_cons_zero, List.set_cons_succ] at hst ⊢
  have hlen : (totL (rows.map Sl.xs) t).length = t := by simp [totL]
  refine W.seq ?_
  refine W.seq ?_
  refine W.region _ ?_
  refine WG.run tab_ok 1 rfl ?_
  refine' WG.y rfl rfl (by decide) (Yl.load1 tab_ok rfl rfl rfl (fun _ => rfl) ?r2 rfl ?h2) ?_
  case r2 => apply Rd.add; (first | exact Rd.blk 0 rfl | exact Rd.blk 1 rfl | exact Rd.blk 2 rfl | exact Rd.blk 3 rfl | exact Rd.blk 4 rfl | exact Rd.blk 5 rfl)
  case h2 => rfl
  refine WG.run tab_ok 3 rfl ?_
  refine WG.y rfl rfl (by decide) (pureV_ok tab_ok rfl (by first | exact fun _ => rfl | exact fun h => h | (intro h; simp_all))) ?_
  refine WG.y rfl rfl (by decide) (pureV_ok tab_ok rfl (by first | exact fun _ => rfl | exact fun h => h | (intro h; simp_all))) ?_
  refine' WG.y rfl rfl (by decide) (Yl.loadG tab_ok rfl rfl rfl (by first | exact fun _ => rfl | exact fun h => h | (intro h; simp_all)) ?r3 rfl ?h3 ?g3) ?_
  case r3 => apply Rd.addC; (first | exact Rd.blkC 0 rfl | exact Rd.blkC 1 rfl | exact Rd.blkC 2 rfl | exact Rd.blkC 3 rfl | exact Rd.blkC 4 rfl | exact Rd.blkC 5 rfl)
  case h3 => rfl
  case g3 => first | exact fun _ => trivial | (intro hg; (try simp only [decide_eq_true_eq, decide_eq_false_iff_not, beq_iff_eq, bne_iff_ne, beq_eq_false_iff_ne, bne_eq_false_iff_eq, ne_eq, Bool.or_eq_true, Bool.or_eq_false_iff, Bool.and_eq_true, Bool.and_eq_false_imp, Bool.not_eq_true, Bool.not_eq_true', Bool.not_eq_false', Classical.not_not, Int.not_lt, Int.not_le, gt_iff_lt, ge_iff_le] at hg); (try dsimp only); omega)
  refine WG.y rfl rfl (by decide) (Yl.indexN tab_ok rfl rfl rfl rfl rfl rfl (by first | exact fun _ => rfl | exact fun h => h | (intro h; simp_all)) (by intro hg; (try simp only [decide_eq_true_eq, decide_eq_false_iff_not, beq_iff_eq, bne_iff_ne, beq_eq_false_iff_ne, bne_eq_false_iff_eq, ne_eq, Bool.or_eq_true, Bool.or_eq_false_iff, Bool.and_eq_true, Bool.and_eq_false_imp, Bool.not_eq_true, Bool.not_eq_true', Bool.not_eq_false', Classical.not_not, Int.not_lt, Int.not_le, gt_iff_lt, ge_iff_le] at hg); (try dsimp only) <;> omega) (by intro hg; (try simp only [decide_eq_true_eq, decide_eq_false_iff_not, beq_iff_eq, bne_iff_ne, beq_eq_false_iff_ne, bne_eq_false_iff_eq, ne_eq, Bool.or_eq_true, Bool.or_eq_false_iff, Bool.and_eq_true, Bool.and_eq_false_imp, Bool.not_eq_true, Bool.not_eq_true', Bool.not_eq_false', Classical.not_not, Int.not_lt, Int.not_le, gt_iff_lt, ge_iff_le] at hg); first | exact fun _ _ _ _ => rfl | exact RS.has (by assumption) | exact fun _ _ _ _ => (by assumption) | exact HasMem.ownD 0 rfl | exact HasMem.ownD 1 rfl | exact HasMem.ownD 2 rfl | exact HasMem.ownD 3 rfl | exact HasMem.ownD 4 rfl | exact HasMem.ownD 5 rfl)) ?_
  refine' WG.y rfl rfl (by decide) (Yl.loadG tab_ok rfl rfl rfl (by first | exact fun _ => rfl | exact fun h => h | (intro h; simp_all)) ?r4 rfl ?h4 ?g4) ?_
  case r4 => (first | (apply RS.rdC; assumption) | exact Rd.slC 0 rfl | exact Rd.slC 1 rfl | exact Rd.slC 2 rfl | exact Rd.slC 3 rfl | exact Rd.slC 4 rfl | exact Rd.slC 5 rfl)
  case h4 => rfl
  case g4 => first | exact fun _ => trivial | (intro hg; (try simp only [decide_eq_true_eq, decide_eq_false_iff_not, beq_iff_eq, bne_iff_ne, beq_eq_false_iff_ne, bne_eq_false_iff_eq, ne_eq, Bool.or_eq_true, Bool.or_eq_false_iff, Bool.and_eq_true, Bool.and_eq_false_imp, Bool.not_eq_true, Bool.not_eq_true', Bool.not_eq_false', Classical.not_not, Int.not_lt, Int.not_le, gt_iff_lt, ge_iff_le] at hg); (try dsimp only); omega)
  refine WG.y rfl rfl (by decide) (pureV_ok tab_ok rfl (by first | exact fun _ => rfl | exact fun h => h | (intro h; simp_all))) ?_
  refine WG.y rfl rfl (by decide) (pureV_ok tab_ok rfl (by first | exact fun _ => rfl | exact fun h => h | (intro h; simp_all))) ?_
  refine WG.y rfl rfl (by decide) (Yl.pand rfl rfl rfl (fun _ => rfl) (by intro h1 h2; simp_all <;> omega)) ?_
  refine WG.nil ?_
  refine WE.nxt ?_
  refine W.cond rfl (fun hc0 => ?_) (fun hc0 => ?_)
  · try simp only [decide_eq_true_eq, decide_eq_false_iff_not, beq_iff_eq, bne_iff_ne, beq_eq_false_iff_ne, bne_eq_false_iff_eq, ne_eq, Bool.or_eq_true, Bool.or_eq_false_iff, Bool.and_eq_true, Bool.and_eq_false_imp, Bool.not_eq_true, Bool.not_eq_true', Bool.not_eq_false', Classical.not_not, Int.not_lt, Int.not_le, gt_iff_lt, ge_iff_le] at hc0
    refine W.skip ?_
    refine WE.nxt ?_
    refine W.seq ?_
    refine W.block ?_
    refine W.seq ?_
    refine W.region _ ?_
    refine WG.run tab_ok 1 rfl ?_
    refine WG.nil ?_
    refine WE.nxt ?_
    refine W.seq ?_
    refine W.seq ?_
    refine W.region _ ?_
    refine WG.run tab_ok 1 rfl ?_
    refine WG.nil ?_
    refine WE.nxt ?_
    refine W.block ?_
    refine W.loopK (β := Nat × Int) (fun (k, acc) => k ≤ rows.length ∧ acc = colSum ((rows.take k).map Sl.xs) t ∧ 0 ≤ acc ∧ acc ≤ 1000000000000 * k) (fun (k, acc) => [(5, true, .int .i64 acc), (6, true, .int .i64 (k : Int))]) [1, 2, 3, 4] [_, _, _, _] [] _ rfl (fun (k, acc) => []) (fun (k, acc) => rows.length - k) ((0, 0)) (⟨Nat.zero_le _, rfl, by omega, by omega⟩) ⟨rfl, rfl, rfl, rfl, rfl, rfl, rfl⟩ (by (repeat (first | exact List.Sublist.refl _ | exact List.nil_sublist _ | apply List.Sublist.cons_cons | apply List.Sublist.cons)); done) ?_
    intro st hst
    obtain ⟨k, acc⟩ := st
    dsimp only [zipE, setAll, List.cons_append, List.nil_append, List.set_cons_zero, List.set_cons_succ] at hst ⊢
    obtain ⟨hk, hacc, ha0, ha1⟩ := hst
    refine W.seq ?_
    refine W.seq ?_
    refine W.region _ ?_
    refine WG.run tab_ok 2 rfl ?_
    refine' WG.y rfl rfl (by decide) (Yl.load1 tab_ok rfl rfl rfl (fun _ => rfl) ?r5 rfl ?h5) ?_
    case r5 => apply Rd.add; (first | exact Rd.blk 0 rfl | exact Rd.blk 1 rfl | exact Rd.blk 2 rfl | exact Rd.blk 3 rfl | exact Rd.blk 4 rfl | exact Rd.blk 5 rfl)
    case h5 => rfl
    refine WG.run tab_ok 2 rfl ?_
    refine WG.nil ?_
    refine WE.nxt ?_
    refine W.condD rfl (fun hc1 => ?_) (fun hc1 => ?_)
    · try dsimp only at hc1
      have hkl : k < rows.length := by omega
      have hrk := hr _ (nth_mem (xs := rows) hkl)
      have hmk := hm _ (nth_mem (xs := rows) hkl)
      refine W.skip ?_
      refine WE.nxt ?_
      refine W.seq ?_
      refine W.block ?_
      refine W.seq ?_
      refine W.region _ ?_
      refine WG.run tab_ok 2 rfl ?_
      refine' WG.y rfl rfl (by decide) (Yl.load1 tab_ok rfl rfl rfl (fun _ => rfl) ?r6 rfl ?h6) ?_
      case r6 => apply Rd.add; (first | exact Rd.blk 0 rfl | exact Rd.blk 1 rfl | exact Rd.blk 2 rfl | exact Rd.blk 3 rfl | exact Rd.blk 4 rfl | exact Rd.blk 5 rfl)
      case h6 => rfl
      refine WG.run tab_ok 1 rfl ?_
      refine WG.y rfl rfl (by decide) (Yl.indexN tab_ok rfl rfl rfl rfl rfl rfl (fun _ => rfl) (by intro _; (try dsimp only) <;> omega) (by intro _; first | exact fun _ _ _ _ => rfl | exact RS.has (by assumption) | exact fun _ _ _ _ => (by assumption) | exact HasMem.ownD 0 rfl | exact HasMem.ownD 1 rfl | exact HasMem.ownD 2 rfl | exact HasMem.ownD 3 rfl | exact HasMem.ownD 4 rfl | exact HasMem.ownD 5 rfl)) ?_
      refine' WG.y rfl rfl (by decide) (Yl.load1 tab_ok rfl rfl rfl (fun _ => rfl) ?r7 rfl ?h7) ?_
      case r7 => (first | (apply RS.rdD; assumption; ((try dsimp only) <;> omega)) | exact Rd.slD 0 rfl (by (try dsimp only) <;> omega) | exact Rd.slD 1 rfl (by (try dsimp only) <;> omega) | exact Rd.slD 2 rfl (by (try dsimp only) <;> omega) | exact Rd.slD 3 rfl (by (try dsimp only) <;> omega) | exact Rd.slD 4 rfl (by (try dsimp only) <;> omega) | exact Rd.slD 5 rfl (by (try dsimp only) <;> omega))
      case h7 => rfl
      refine WG.run tab_ok 2 rfl ?_
      refine WG.nil ?_
      refine WE.nxt ?_
      refine W.condD rfl (fun hc2 => ?_) (fun hc2 => ?_)
      · try dsimp only at hc2
        have hx := hb _ (nth_mem (xs := rows) hkl) _ (nth_mem (xs := (nth rows k).xs) (k := t) (by omega))
        refine W.region _ ?_
        refine WG.run tab_ok 2 rfl ?_
        refine' WG.y rfl rfl (by decide) (Yl.load1 tab_ok rfl rfl rfl (fun _ => rfl) ?r8 rfl ?h8) ?_
        case r8 => apply Rd.add; (first | exact Rd.blk 0 rfl | exact Rd.blk 1 rfl | exact Rd.blk 2 rfl | exact Rd.blk 3 rfl | exact Rd.blk 4 rfl | exact Rd.blk 5 rfl)
        case h8 => rfl
        refine WG.run tab_ok 1 rfl ?_
        refine WG.y rfl rfl (by decide) (Yl.indexN tab_ok rfl rfl rfl rfl rfl rfl (fun _ => rfl) (by intro _; (try dsimp only) <;> omega) (by intro _; first | exact fun _ _ _ _ => rfl | exact RS.has (by assumption) | exact fun _ _ _ _ => (by assumption) | exact HasMem.ownD 0 rfl | exact HasMem.ownD 1 rfl | exact HasMem.ownD 2 rfl | exact HasMem.ownD 3 rfl | exact HasMem.ownD 4 rfl | exact HasMem.ownD 5 rfl)) ?_
        refine' WG.y rfl rfl (by decide) (Yl.load1 tab_ok rfl rfl rfl (fun _ => rfl) ?r9 rfl ?h9) ?_
        case r9 => (first | (apply RS.rdD; assumption; ((try dsimp only) <;> omega)) | exact Rd.slD 0 rfl (by (try dsimp only) <;> omega) | exact Rd.slD 1 rfl (by (try dsimp only) <;> omega) | exact Rd.slD 2 rfl (by (try dsimp only) <;> omega) | exact Rd.slD 3 rfl (by (try dsimp only) <;> omega) | exact Rd.slD 4 rfl (by (try dsimp only) <;> omega) | exact Rd.slD 5 rfl (by (try dsimp only) <;> omega))
        case h9 => rfl
        refine WG.run tab_ok 1 rfl ?_
        refine WG.y rfl rfl (by decide) (Yl.indexN tab_ok rfl rfl rfl rfl rfl rfl (fun _ => rfl) (by intro _; (try dsimp only) <;> omega) (by intro _; first | exact fun _ _ _ _ => rfl | exact RS.has (by assumption) | exact fun _ _ _ _ => (by assumption) | exact HasMem.ownD 0 rfl | exact HasMem.ownD 1 rfl | exact HasMem.ownD 2 rfl | exact HasMem.ownD 3 rfl | exact HasMem.ownD 4 rfl | exact HasMem.ownD 5 rfl)) ?_
        refine' WG.y rfl rfl (by decide) (Yl.load1 tab_ok rfl rfl rfl (fun _ => rfl) ?r10 rfl ?h10) ?_
        case r10 => (first | (apply RS.rdD; assumption; ((try dsimp only) <;> omega)) | exact Rd.slD 0 rfl (by (try dsimp only) <;> omega) | exact Rd.slD 1 rfl (by (try dsimp only) <;> omega) | exact Rd.slD 2 rfl (by (try dsimp only) <;> omega) | exact Rd.slD 3 rfl (by (try dsimp only) <;> omega) | exact Rd.slD 4 rfl (by (try dsimp only) <;> omega) | exact Rd.slD 5 rfl (by (try dsimp only) <;> omega))
        case h10 => rfl
        refine WG.y rfl rfl (by decide) (Yl.add rfl rfl rfl (fun _ => rfl) (by intro _; constructor <;> (try dsimp only) <;> omega)) ?_
        refine WG.run tab_ok 1 rfl ?_
        refine WG.nil ?_
        refine WE.blk _ ?_
        refine WE.nxt ?_
        refine W.region _ ?_
        refine WG.run tab_ok 1 rfl ?_
        refine WG.y rfl rfl (by decide) (Yl.add rfl rfl rfl (fun _ => rfl) (by intro _; constructor <;> (try dsimp only) <;> omega)) ?_
        refine WG.run tab_ok 1 rfl ?_
        refine WG.nil ?_
        refine WE.again ((k + 1, acc + nth (nth rows k).xs t)) (⟨by omega, by rw [take_nth hkl, List.map_append, colSum_append, ← hacc]; simp [colSum], by omega, by dsimp only; omega⟩) (by (try dsimp only); omega) ⟨rfl, rfl, rfl, rfl, rfl, rfl, rfl⟩ (RLe.refl _) (by (repeat (first | exact List.Sublist.refl _ | exact List.nil_sublist _ | apply List.Sublist.cons_cons | apply List.Sublist.cons)); done)
      · try dsimp only at hc2
        omega
    · try dsimp only at hc1
      obtain rfl : k = rows.length := by omega
      rw [List.take_length] at hacc
      have e1 : totL (rows.map Sl.xs) (t + 1) = totL (rows.map Sl.xs) t ++ [acc] := by unfold totL; rw [range_map_snoc, hacc]
      refine W.exit ?_
      refine WE.then_exit ?_
      refine WE.then_exit ?_
      refine WE.blk_exit ?_
      refine WE.nxt ?_
      refine W.regionH _ (ES := [.blk b3 [.slice da dl dc, .slice (some ⟨a9, 0, none⟩) 1 1]]) mixed ?_
      refine WA.take 0 rfl (by kernel_rfl) (by kernel_rfl) (by kernel_rfl) rfl rfl (by decide) (pureV_ok tab_ok rfl (fun _ => rfl)) (by (repeat (first | exact List.Sublist.refl _ | exact List.nil_sublist _ | apply List.Sublist.cons_cons | apply List.Sublist.cons)); done) (by first | exact RLe.refl _ | assumption) ?_
      refine' WA.take 1 rfl (by kernel_rfl) (by kernel_rfl) (by kernel_rfl) rfl rfl (by decide) (Yl.load1 tab_ok rfl rfl rfl (fun _ => rfl) ?r11 rfl ?h11) (by (repeat (first | exact List.Sublist.refl _ | exact List.nil_sublist _ | apply List.Sublist.cons_cons | apply List.Sublist.cons)); done) (by first | exact RLe.refl _ | assumption) ?_
      case r11 => apply Rd.add; (first | exact Rd.blk 0 rfl | exact Rd.blk 1 rfl | exact Rd.blk 2 rfl | exact Rd.blk 3 rfl | exact Rd.blk 4 rfl | exact Rd.blk 5 rfl)
      case h11 => rfl
      refine WA.take 2 rfl (by kernel_rfl) (by kernel_rfl) (by kernel_rfl) rfl rfl (by decide) (pureV_ok tab_ok rfl (fun _ => rfl)) (by (repeat (first | exact List.Sublist.refl _ | exact List.nil_sublist _ | apply List.Sublist.cons_cons | apply List.Sublist.cons)); done) (by first | exact RLe.refl _ | assumption) ?_
      refine' WA.take 3 rfl (by kernel_rfl) (by kernel_rfl) (by kernel_rfl) rfl rfl (by decide) (Yl.load1 tab_ok rfl rfl rfl (fun _ => rfl) ?r12 rfl ?h12) (by (repeat (first | exact List.Sublist.refl _ | exact List.nil_sublist _ | apply List.Sublist.cons_cons | apply List.Sublist.cons)); done) (by first | exact RLe.refl _ | assumption) ?_
      case r12 => apply Rd.add; (first | exact Rd.blk 0 rfl | exact Rd.blk 1 rfl | exact Rd.blk 2 rfl | exact Rd.blk 3 rfl | exact Rd.blk 4 rfl | exact Rd.blk 5 rfl)
      case h12 => rfl
      refine WA.take 4 rfl (by kernel_rfl) (by kernel_rfl) (by kernel_rfl) rfl rfl (by decide) (Yl.index tab_ok rfl rfl rfl rfl rfl rfl (fun _ => rfl) (by intro _; constructor <;> (try dsimp only) <;> omega) (by intro _; first | exact fun _ _ _ _ => rfl | exact RS.has (by assumption) | exact fun _ _ _ _ => (by assumption) | exact HasMem.ownD 0 rfl | exact HasMem.ownD 1 rfl | exact HasMem.ownD 2 rfl | exact HasMem.ownD 3 rfl | exact HasMem.ownD 4 rfl | exact HasMem.ownD 5 rfl)) (by (repeat (first | exact List.Sublist.refl _ | exact List.nil_sublist _ | apply List.Sublist.cons_cons | apply List.Sublist.cons)); done) (by first | exact RLe.refl _ | assumption) ?_
      refine WA.take 6 rfl (by kernel_rfl) (by kernel_rfl) (by kernel_rfl) rfl rfl (by decide) (pureV_ok tab_ok rfl (fun _ => rfl)) (by (repeat (first | exact List.Sublist.refl _ | exact List.nil_sublist _ | apply List.Sublist.cons_cons | apply List.Sublist.cons)); done) (by first | exact RLe.refl _ | assumption) ?_
      refine WA.br2 (i := 5) (j := 7) (by kernel_rfl) ?_ ?_
      ·
        refine' WS.yl rfl rfl rfl (by decide) (Yl.load1 tab_ok rfl rfl rfl (fun _ => rfl) ?r13 rfl ?h13) (by (repeat (first | exact List.Sublist.refl _ | exact List.nil_sublist _ | apply List.Sublist.cons_cons | apply List.Sublist.cons)); done) (RLe.refl _) ?_
        case r13 => first | exact Rd.slE (row := [.slice a (totL (rows.map Sl.xs) t).length c]) 2 rfl rfl | exact Rd.slE (row := [.slice a (totL (rows.map Sl.xs) t).length c]) 3 rfl rfl
        case h13 => rfl
        refine WA.eff 7 rfl (by kernel_rfl) rfl rfl (by decide) (Ef.buildSliceD (enc := encI) (parts := [.tmp 57]) [_] tab_ok rfl rfl rfl rfl rfl rfl rfl rfl (by decide) (by decide) (fun a58 => ?_))
        refine ⟨by first | exact RLe.refl _ | assumption, (by (repeat (first | exact List.Sublist.refl _ | exact List.nil_sublist _ | apply List.Sublist.cons_cons | apply List.Sublist.cons)); done), ?_⟩
        refine WA.eff 8 rfl (by kernel_rfl) rfl rfl (by decide) (Ef.appendD (enc := encI) 2 0 tab_ok rfl rfl rfl rfl rfl rfl rfl rfl rfl rfl rfl (fun _ _ => rfl) (by simp only [List.length_cons, List.length_nil]; omega) (by simp only [List.length_cons, List.length_nil]; omega) (fun a59 c59 ha59 => ?_))
        refine ⟨by first | exact RLe.refl _ | assumption, (by (repeat (first | exact List.Sublist.refl _ | exact List.nil_sublist _ | apply List.Sublist.cons_cons | apply List.Sublist.cons)); done), ?_⟩
        refine WA.take 9 rfl (by kernel_rfl) (by kernel_rfl) (by kernel_rfl) rfl rfl (by decide) (Yl.index tab_ok rfl rfl rfl rfl rfl rfl (fun _ => rfl) (by intro _; constructor <;> (try dsimp only) <;> omega) (by intro _; first | exact fun _ _ _ _ => rfl | exact RS.has (by assumption) | exact fun _ _ _ _ => (by assumption) | exact HasMem.ownD 0 rfl | exact HasMem.ownD 1 rfl | exact HasMem.ownD 2 rfl | exact HasMem.ownD 3 rfl | exact HasMem.ownD 4 rfl | exact HasMem.ownD 5 rfl)) (by (repeat (first | exact List.Sublist.refl _ | exact List.nil_sublist _ | apply List.Sublist.cons_cons | apply List.Sublist.cons)); done) (by first | exact RLe.refl _ | assumption) ?_
        refine WA.effN 10 rfl (by kernel_rfl) rfl rfl (Ef.storeD (enc := encS) (xs := [(⟨a, c, totL (rows.map Sl.xs) t⟩ : Sl)]) (⟨a59, c59, totL (rows.map Sl.xs) t ++ [acc]⟩ : Sl) 3 tab_ok rfl rfl rfl rfl rfl (by simp) rfl rfl rfl rfl ?_)
        refine ⟨by first | exact RLe.refl _ | assumption, (by (repeat (first | exact List.Sublist.refl _ | exact List.nil_sublist _ | apply List.Sublist.cons_cons | apply List.Sublist.cons)); done), ?_⟩
        refine WA.done (by kernel_rfl) ?_
        refine WE.blk _ ?_
        refine WE.nxt ?_
        refine W.region _ ?_
        refine WG.run tab_ok 1 rfl ?_
        refine WG.y rfl rfl (by decide) (Yl.add rfl rfl rfl (fun _ => rfl) (by intro _; constructor <;> (try dsimp only) <;> omega)) ?_
        refine WG.run tab_ok 1 rfl ?_
        refine WG.nil ?_
        refine WE.again ((t + 1, a59, c59)) (by dsimp only; omega) (by (try dsimp only); omega) ⟨rfl, rfl, rfl, rfl, rfl⟩ (RLe.refl _) (by dsimp only [setAll, List.set_cons_zero, List.set_cons_succ]; rw [e1]; exact List.Sublist.cons _ (List.Sublist.refl _))
      ·
        refine WS.eff rfl rfl rfl (by decide) (Ef.buildSliceD (enc := encI) (parts := [.tmp 57]) [_] tab_ok rfl rfl rfl rfl rfl rfl rfl rfl (by decide) (by decide) (fun a58 => ?_))
        refine ⟨RLe.refl _, (by (repeat (first | exact List.Sublist.refl _ | exact List.nil_sublist _ | apply List.Sublist.cons_cons | apply List.Sublist.cons)); done), ?_⟩
        refine' WA.yl 5 rfl (by kernel_rfl) rfl rfl (by decide) (Yl.load1 tab_ok rfl rfl rfl (fun _ => rfl) ?r14 rfl ?h14) (by (repeat (first | exact List.Sublist.refl _ | exact List.nil_sublist _ | apply List.Sublist.cons_cons | apply List.Sublist.cons)); done) (RLe.refl _) ?_
        case r14 => first | exact Rd.slE (row := [.slice a (totL (rows.map Sl.xs) t).length c]) 2 rfl rfl | exact Rd.slE (row := [.slice a (totL (rows.map Sl.xs) t).length c]) 3 rfl rfl
        case h14 => rfl
        refine WA.eff 8 rfl (by kernel_rfl) rfl rfl (by decide) (Ef.appendD (enc := encI) 2 0 tab_ok rfl rfl rfl rfl rfl rfl rfl rfl rfl rfl rfl (fun _ _ => rfl) (by simp only [List.length_cons, List.length_nil]; omega) (by simp only [List.length_cons, List.length_nil]; omega) (fun a59 c59 ha59 => ?_))
        refine ⟨by first | exact RLe.refl _ | assumption, (by (repeat (first | exact List.Sublist.refl _ | exact List.nil_sublist _ | apply List.Sublist.cons_cons | apply List.Sublist.cons)); done), ?_⟩
        refine WA.take 9 rfl (by kernel_rfl) (by kernel_rfl) (by kernel_rfl) rfl rfl (by decide) (Yl.index tab_ok rfl rfl rfl rfl rfl rfl (fun _ => rfl) (by intro _; constructor <;> (try dsimp only) <;> omega) (by intro _; first | exact fun _ _ _ _ => rfl | exact RS.has (by assumption) | exact fun _ _ _ _ => (by assumption) | exact HasMem.ownD 0 rfl | exact HasMem.ownD 1 rfl | exact HasMem.ownD 2 rfl | exact HasMem.ownD 3 rfl | exact HasMem.ownD 4 rfl | exact HasMem.ownD 5 rfl)) (by (repeat (first | exact List.Sublist.refl _ | exact List.nil_sublist _ | apply List.Sublist.cons_cons | apply List.Sublist.cons)); done) (by first | exact RLe.refl _ | assumption) ?_
        refine WA.effN 10 rfl (by kernel_rfl) rfl rfl (Ef.storeD (enc := encS) (xs := [(⟨a, c, totL (rows.map Sl.xs) t⟩ : Sl)]) (⟨a59, c59, totL (rows.map Sl.xs) t ++ [acc]⟩ : Sl) 3 tab_ok rfl rfl rfl rfl rfl (by simp) rfl rfl rfl rfl ?_)
        refine ⟨by first | exact RLe.refl _ | assumption, (by (repeat (first | exact List.Sublist.refl _ | exact List.nil_sublist _ | apply List.Sublist.cons_cons | apply List.Sublist.cons)); done), ?_⟩
        refine WA.done (by kernel_rfl) ?_
        refine WE.blk _ ?_
        refine WE.nxt ?_
        refine W.region _ ?_
        refine WG.run tab_ok 1 rfl ?_
        refine WG.y rfl rfl (by decide) (Yl.add rfl rfl rfl (fun _ => rfl) (by intro _; constructor <;> (try dsimp only) <;> omega)) ?_
        refine WG.run tab_ok 1 rfl ?_
        refine WG.nil ?_
        refine WE.again ((t + 1, a59, c59)) (by dsimp only; omega) (by (try dsimp only); omega) ⟨rfl, rfl, rfl, rfl, rfl⟩ (RLe.refl _) (by dsimp only [setAll, List.set_cons_zero, List.set_cons_succ]; rw [e1]; exact List.Sublist.cons _ (List.Sublist.refl _))
  · try simp only [decide_eq_true_eq, decide_eq_false_iff_not, beq_iff_eq, bne_iff_ne, beq_eq_false_iff_ne, bne_eq_false_iff_eq, ne_eq, Bool.or_eq_true, Bool.or_eq_false_iff, Bool.and_eq_true, Bool.and_eq_false_imp, Bool.not_eq_true, Bool.not_eq_true', Bool.not_eq_false', Classical.not_not, Int.not_lt, Int.not_le, gt_iff_lt, ge_iff_le] at hc0
    obtain rfl : t = m := by omega
    refine W.exit ?_
    refine WE.then_exit ?_
    refine WE.then_exit ?_
    refine WE.blk_exit ?_
    refine WE.nxt ?_
    refine W.seq ?_
    refine W.region _ ?_
    refine' WG.y rfl rfl (by decide) (Yl.load1 tab_ok rfl rfl rfl (fun _ => rfl) ?r15 rfl ?h15) ?_
    case r15 => (first | exact Rd.blk 0 rfl | exact Rd.blk 1 rfl | exact Rd.blk 2 rfl | exact Rd.blk 3 rfl | exact Rd.blk 4 rfl | exact Rd.blk 5 rfl)
    case h15 => rfl
    first | refine WL.efN rfl rfl (Ef.store0 0 tab_ok rfl rfl rfl rfl rfl rfl rfl rfl ?_) | refine WL.efN rfl rfl (Ef.store0 1 tab_ok rfl rfl rfl rfl rfl rfl rfl rfl ?_) | refine WL.efN rfl rfl (Ef.store0 2 tab_ok rfl rfl rfl rfl rfl rfl rfl rfl ?_) | refine WL.efN rfl rfl (Ef.store0 3 tab_ok rfl rfl rfl rfl rfl rfl rfl rfl ?_) | refine WL.efN rfl rfl (Ef.store0 4 tab_ok rfl rfl rfl rfl rfl rfl rfl rfl ?_) | refine WL.efN rfl rfl (Ef.store0 5 tab_ok rfl rfl rfl rfl rfl rfl rfl rfl ?_)
    refine WG.nil ?_
    refine WE.nxt ?_
    refine W.ret ?_
    refine WE.retF tab_ok [_] rfl ⟨⟨_, _, _, rfl, rfl, rfl, (Rd.blk 3 rfl), rfl⟩, trivial⟩ (RLe.refl _) ?_
    exact ⟨a9, a, c, rfl, rfl, (by (repeat (first | exact List.Sublist.refl _ | exact List.nil_sublist _ | apply List.Sublist.cons_cons | apply List.Sublist.cons)); done)⟩

end Go.Proofs.Ytnaeefefggmomaa

/- Chapter 16: the reference line. No condition. -/
set_option linter.unusedSimpArgs false
set_option linter.unusedVariables false
namespace Go.Proofs.Ytnaeefefggmomaa
open Go Go.RowKit Go.Proofs.Ytnaeefefggmomaa.K Go.Proofs.Ytnaeefefggmomaa.M

end Go.Proofs.Ytnaeefefggmomaa

/- Chapter 16: the reference line, begun. No condition. -/
set_option linter.unusedSimpArgs false
set_option linter.unusedVariables false
namespace Go.Proofs.Ytnaeefefggmomaa
open Go Go.RowKit Go.Proofs.Ytnaeefefggmomaa.K Go.Proofs.Ytnaeefefggmomaa.M

end Go.Proofs.Ytnaeefefggmomaa

/- Chapter 16: the reference run. No condition. -/
set_option linter.unusedSimpArgs false
set_option linter.unusedVariables false
namespace Go.Proofs.Ytnaeefefggmomaa
open Go Go.RowKit Go.Proofs.Ytnaeefefggmomaa.K Go.Proofs.Ytnaeefefggmomaa.M

end Go.Proofs.Ytnaeefefggmomaa

/- Chapter 16: what is answered to anything. No condition. -/
set_option linter.unusedSimpArgs false
set_option linter.unusedVariables false
namespace Go.Proofs.Ytnaeefefggmomaa
open Go Go.RowKit Go.Proofs.Ytnaeefefggmomaa.K Go.Proofs.Ytnaeefefggmomaa.M

end Go.Proofs.Ytnaeefefggmomaa

/- A trace in which one thing is changed. No condition. -/
set_option linter.unusedSimpArgs false
set_option linter.unusedVariables false
namespace Go.Proofs.Ytnaeefefggmomaa
open Go Go.RowKit Go.Proofs.Ytnaeefefggmomaa.K Go.Proofs.Ytnaeefefggmomaa.M

end Go.Proofs.Ytnaeefefggmomaa

/- Curves, plain: normal forms of functions that repeat. No condition. -/
namespace Go.Proofs.Ytnaeefefggmomaa.M
open Go Go.Proofs.Ytnaeefefggmomaa.K

def INF : Int := 4611686018427387904
def MAXV : Int := 1073741824
/-- the first values of a function -/
def fvals (F : Nat → Int) (n : Nat) : List Int := (List.range n).map F
theorem fvals_len (F : Nat → Int) (n : Nat) : (fvals F n).length = n := by simp [fvals]
theorem fvals_nth (F : Nat → Int) {n i : Nat} (h : i < n) : nth (fvals F n) i = F i := range_map_nth F h
theorem fvals_snoc (F : Nat → Int) (n : Nat) : fvals F (n + 1) = fvals F n ++ [F n] := range_map_snoc F n
theorem fvals_take (F : Nat → Int) {n k : Nat} (h : k ≤ n) : (fvals F n).take k = fvals F k := by
  refine nth_ext (by simp [fvals]; omega) (fun i hi => ?_)
  have hi' : i < k := by simp [fvals] at hi; omega
  rw [fvals_nth F hi']
  unfold nth List.getD
  rw [List.getElem?_take, if_pos hi']
  exact fvals_nth F (by omega)
theorem fvals_drop (F : Nat → Int) {n k : Nat} (h : k ≤ n) : (fvals F n).drop k = fvals (fun t => F (k + t)) (n - k) := by
  refine nth_ext (by simp [fvals]) (fun i hi => ?_)
  have hi' : i < n - k := by simp [fvals] at hi; omega
  rw [fvals_nth _ hi']
  unfold nth List.getD
  rw [List.getElem?_drop]
  exact fvals_nth F (by omega)
theorem fvals_eq {F : Nat → Int} {l : List Int} (h : ∀ i, i < l.length → nth l i = F i) : l = fvals F l.length :=
  nth_ext (by simp [fvals]) (fun i hi => by rw [fvals_nth F hi, h i hi])

/-! ### the least period and the start -/
/-- it grows by I in P ticks from S on -/
def Grows (F : Nat → Int) (S P : Nat) (I : Int) : Prop := ∀ t, S ≤ t → F (t + P) = F t + I
theorem Grows.mono {F : Nat → Int} {S S' P : Nat} {I : Int} (h : Grows F S P I) (hs : S ≤ S') : Grows F S' P I := fun t ht => h t (by omega)
theorem Grows.mul {F : Nat → Int} {S P : Nat} {I : Int} (h : Grows F S P I) : ∀ (k t : Nat), S ≤ t → F (t + k * P) = F t + k * I
  | 0, t, _ => by simp
  | k + 1, t, ht => by
    rw [show t + (k + 1) * P = (t + k * P) + P by rw [Nat.add_mul]; omega, h _ (by omega), Grows.mul h k t ht, Int.natCast_add, Int.add_mul]
    simp; omega
/-- a window shows it -/
def PerOk (F : Nat → Int) (S P : Nat) (I : Int) (p : Nat) : Prop := P % p = 0 ∧ (I * p) % P = 0 ∧ ∀ t, S ≤ t → t < S + P → F (t + p) = F t + I * p / P
theorem PerOk.all {F : Nat → Int} {S P : Nat} {I : Int} {p : Nat} (hP : 0 < P) (hg : Grows F S P I) (h : PerOk F S P I p) : Grows F S p (I * p / P) := by
  intro t
  induction t using Nat.strongRecOn with
  | _ t ih =>
    intro ht
    by_cases hw : t < S + P
    · exact h.2.2 t ht hw
    · have h1 := ih (t - P) (by omega) (by omega)
      have h2 := hg (t - P) (by omega)
      have h3 := hg (t - P + p) (by omega)
      rw [show t - P + P = t by omega] at h2
      rw [show t - P + p + P = t + p by omega] at h3
      omega
theorem PerOk.move {F : Nat → Int} {S S' P : Nat} {I : Int} {p : Nat} (hP : 0 < P) (hg : Grows F S P I) (hg' : Grows F S' P I) (h : PerOk F S P I p) : PerOk F S' P I p := by
  refine ⟨h.1, h.2.1, fun t ht _ => ?_⟩
  have ha := h.all hP hg (t + S * P) (by have := Nat.le_mul_of_pos_right S hP; omega)
  have h1 := hg'.mul S t ht
  have h2 := hg'.mul S (t + p) (by omega)
  rw [show t + S * P + p = t + p + S * P by omega] at ha
  omega
theorem PerOk.self {F : Nat → Int} {S P : Nat} {I : Int} (hP : 0 < P) (hg : Grows F S P I) : PerOk F S P I P := by
  refine ⟨Nat.mod_self P, Int.mul_emod_left I P, fun t ht _ => ?_⟩
  rw [Int.mul_ediv_cancel _ (by omega)]
  exact hg t ht
/-- the least number from 1 on -/
def LeastN (Q : Nat → Prop) (p : Nat) : Prop := 1 ≤ p ∧ Q p ∧ ∀ r, 1 ≤ r → r < p → ¬ Q r
theorem LeastN.unique {Q Q' : Nat → Prop} {p p' : Nat} (h : LeastN Q p) (h' : LeastN Q' p') (hq : ∀ r, Q r ↔ Q' r) : p = p' := by
  rcases Nat.lt_trichotomy p p' with h1 | h1 | h1
  · exact absurd ((hq p).1 h.2.1) (h'.2.2 p h.1 h1)
  · exact h1
  · exact absurd ((hq p').2 h'.2.1) (h.2.2 p' h'.1 h1)
/-- from where on it grows so -/
def Starts (F : Nat → Int) (p : Nat) (q : Int) (s : Nat) : Prop := Grows F s p q ∧ (s = 0 ∨ F (s - 1 + p) ≠ F (s - 1) + q)
theorem Starts.unique {F : Nat → Int} {p : Nat} {q : Int} {s s' : Nat} (h : Starts F p q s) (h' : Starts F p q s') : s = s' := by
  rcases Nat.lt_trichotomy s s' with h1 | h1 | h1
  · rcases h'.2 with h2 | h2
    · omega
    · exact absurd (h.1 (s' - 1) (by omega)) h2
  · exact h1
  · rcases h.2 with h2 | h2
    · omega
    · exact absurd (h'.1 (s - 1) (by omega)) h2

/-! ### what the program does -/
def leastOk (v : List Int) (inc : Int) (p : Nat) : Bool :=
  v.length % p == 0 && (inc * p) % v.length == 0 && (List.range v.length).all fun i => (if i + p < v.length then nth v (i + p) else nth v (i + p - v.length) + inc) == nth v i + inc * p / v.length
def leastL (v : List Int) (inc : Int) : Nat :=
  if findFrom (leastOk v inc) (v.length - 1) 1 = -1 then v.length else (findFrom (leastOk v inc) (v.length - 1) 1).toNat
def downL (v : List Int) (p : Nat) (q : Int) : Nat → Nat
  | 0 => 0
  | s + 1 => if nth v s + q = nth v (s + p) then downL v p q s else s + 1
/-- a curve: values, period, increment -/
structure Cv where
  vals : List Int
  per : Int
  inc : Int
def zcv : Cv := ⟨[], 0, 0⟩
def checkedE (v : List Int) : Int := if 400 < v.length ∨ (v.any fun x => x != INF && decide (x > MAXV)) = true then 3 else 0
def checkedL (v : List Int) (p : Int) (q : Int) : Cv × Int := if checkedE v = 3 then (zcv, 3) else (⟨v, p, q⟩, 0)
def finL (v : List Int) (S P : Nat) (I : Int) : Cv × Int :=
  let p := leastL (v.drop S) I
  let q := I * p / P
  let s := downL v p q S
  if 120 < p ∨ MAXV < q then (zcv, 3) else checkedL (v.take (s + p)) p q
def infAt (F : Nat → Int) (n : Nat) : Int := findFrom (fun t => F t == INF) n 0
def mbuild (F : Nat → Int) (S P : Nat) (I : Int) : Cv × Int :=
  if infAt F (S + P) = -1 then finL (fvals F (S + P)) S P I else checkedL (fvals F ((infAt F (S + P)).toNat + 1)) 1 0

theorem leastOk_iff {F : Nat → Int} {S P : Nat} {I : Int} {p : Nat} (hg : Grows F S P I) (hp : p ≤ P) : leastOk (fvals (fun t => F (S + t)) P) I p = true ↔ PerOk F S P I p := by
  unfold leastOk PerOk
  simp only [fvals_len, Bool.and_eq_true, beq_iff_eq, List.all_eq_true, List.mem_range]
  have key : ∀ i, i < P → (if i + p < P then nth (fvals (fun t => F (S + t)) P) (i + p) else nth (fvals (fun t => F (S + t)) P) (i + p - P) + I) = F (S + i + p) := fun i hi => by
    split
    · rename_i h; rw [fvals_nth _ h, Nat.add_assoc]
    · rename_i h
      rw [fvals_nth _ (by omega), ← hg _ (by omega)]
      congr 1; omega
  constructor
  · rintro ⟨⟨h1, h2⟩, h3⟩
    refine ⟨h1, h2, fun t ht htp => ?_⟩
    have := h3 (t - S) (by omega)
    rw [key _ (by omega), fvals_nth _ (by omega), show S + (t - S) = t by omega] at this
    exact this
  · rintro ⟨h1, h2, h3⟩
    refine ⟨⟨h1, h2⟩, fun i hi => ?_⟩
    rw [key i hi, fvals_nth _ hi]
    exact h3 _ (by omega) (by omega)
theorem leastL_is {F : Nat → Int} {S P : Nat} {I : Int} (hP : 0 < P) (hg : Grows F S P I) : LeastN (PerOk F S P I) (leastL (fvals (fun t => F (S + t)) P) I) ∧ leastL (fvals (fun t => F (S + t)) P) I ≤ P := by
  unfold leastL
  rw [fvals_len]
  rcases findFrom_cases (leastOk (fvals (fun t => F (S + t)) P) I) (P - 1) 1 with ⟨i, h1, h2, h3, h4, h5⟩ | ⟨h1, h2⟩
  · rw [h3, if_neg (by omega), Int.toNat_natCast]
    refine ⟨⟨h1, (leastOk_iff hg (by omega)).1 h4, fun r hr hri hq => ?_⟩, by omega⟩
    have := h5 r hr hri
    rw [(leastOk_iff hg (by omega)).2 hq] at this
    cases this
  · rw [h1, if_pos rfl]
    refine ⟨⟨hP, PerOk.self hP hg, fun r hr hri hq => ?_⟩, Nat.le_refl _⟩
    have := h2 r hr (by omega)
    rw [(leastOk_iff hg (by omega)).2 hq] at this
    cases this
theorem downL_is {F : Nat → Int} {p n : Nat} {q : Int} : ∀ (s : Nat), s + p ≤ n → Grows F s p q → Starts F p q (downL (fvals F n) p q s) ∧ downL (fvals F n) p q s ≤ s
  | 0, _, h => ⟨⟨h, .inl rfl⟩, Nat.le_refl _⟩
  | s + 1, hn, h => by
    simp only [downL]
    rw [fvals_nth F (show s < n by omega)]
    by_cases hp : s + p < n
    · rw [fvals_nth F hp]
      split
      · rename_i he
        have := downL_is (F := F) (p := p) (n := n) (q := q) s (by omega) (fun t ht => by
          by_cases hts : t = s
          · subst hts; exact he.symm
          · exact h t (by omega))
        exact ⟨this.1, by omega⟩
      · rename_i he
        exact ⟨⟨h, .inr (by simpa using fun h => he h.symm)⟩, Nat.le_refl _⟩
    · omega

/-! ### what it is -/
/-- the normal form of a finite function -/
structure NF (F : Nat → Int) (S P : Nat) (I : Int) (p s : Nat) : Prop where
  least : LeastN (PerOk F S P I) p
  starts : Starts F p (I * p / P) s
theorem NF.unique {F : Nat → Int} {S S' P : Nat} {I : Int} {p p' s s' : Nat} (hP : 0 < P) (hg : Grows F S P I) (hg' : Grows F S' P I) (h : NF F S P I p s) (h' : NF F S' P I p' s') : p = p' ∧ s = s' := by
  have hp := h.least.unique h'.least (fun r => ⟨fun hr => hr.move hP hg hg', fun hr => hr.move hP hg' hg⟩)
  subst hp
  exact ⟨rfl, h.starts.unique h'.starts⟩
def nfE (F : Nat → Int) (p s : Nat) (q : Int) : Int := if 120 < p ∨ MAXV < q ∨ 400 < s + p ∨ ((List.range (s + p)).any fun i => decide (F i > MAXV)) = true then 3 else 0
def nfC (F : Nat → Int) (p s : Nat) (q : Int) : Cv × Int := if nfE F p s q = 3 then (zcv, 3) else (⟨fvals F (s + p), p, q⟩, 0)
theorem finL_nf {F : Nat → Int} {S P : Nat} {I : Int} (hP : 0 < P) (hg : Grows F S P I) (hf : ∀ t, t < S + P → F t ≠ INF) :
    ∃ p s, NF F S P I p s ∧ p ≤ P ∧ s ≤ S ∧ finL (fvals F (S + P)) S P I = nfC F p s (I * p / P) := by
  have hd : (fvals F (S + P)).drop S = fvals (fun t => F (S + t)) P := by rw [fvals_drop F (by omega)]; congr 1; omega
  obtain ⟨h1, h2⟩ := leastL_is hP hg
  have h3 := h1.2.1.all hP hg
  obtain ⟨h4, h5⟩ := downL_is (n := S + P) S (by omega) h3
  refine ⟨_, _, ⟨h1, h4⟩, h2, h5, ?_⟩
  unfold finL
  rw [hd]
  generalize leastL (fvals (fun t => F (S + t)) P) I = p at h1 h2 h3 h4 h5 ⊢
  generalize hs : downL (fvals F (S + P)) p (I * p / P) S = s at h4 h5 ⊢
  dsimp only
  rw [hs, fvals_take F (by omega)]
  unfold nfC nfE checkedL checkedE
  rw [fvals_len]
  have hany : (fvals F (s + p)).any (fun x => x != INF && decide (x > MAXV)) = (List.range (s + p)).any fun i => decide (F i > MAXV) := by
    unfold fvals
    rw [List.any_map, Bool.eq_iff_iff]
    simp only [List.any_eq_true, List.mem_range, Function.comp, Bool.and_eq_true, decide_eq_true_eq]
    constructor
    · rintro ⟨i, h1, h2⟩; exact ⟨i, h1, h2.2⟩
    · rintro ⟨i, h1, h2⟩; exact ⟨i, h1, by simpa using hf i (by omega), h2⟩
  rw [hany]
  by_cases a : 120 < p ∨ MAXV < I * p / P
  · rw [if_pos a, if_pos (by rw [if_pos]; rcases a with a | a; exact .inl a; exact .inr (.inl a))]
  · rw [if_neg a]
    by_cases b : 400 < s + p ∨ ((List.range (s + p)).any fun i => decide (F i > MAXV)) = true
    · rw [if_pos (if_pos b), if_pos (if_pos (.inr (.inr b)))]
    · rw [if_neg (show ¬ (if 400 < s + p ∨ ((List.range (s + p)).any fun i => decide (F i > MAXV)) = true then (3 : Int) else 0) = 3 by rw [if_neg b]; decide),
        if_neg (show ¬ (if 120 < p ∨ MAXV < I * p / P ∨ 400 < s + p ∨ ((List.range (s + p)).any fun i => decide (F i > MAXV)) = true then (3 : Int) else 0) = 3 by
          rw [if_neg (fun h => by rcases h with h | h | h; exact a (.inl h); exact a (.inr h); exact b h)]; decide)]

/-! ### what the references do -/
def perR (c : Cv) (start : Int) (p : Int) : Bool :=
  c.per.tmod p == 0 && (c.inc * p).tmod c.per == 0 && (List.range c.per.toNat).all fun i => atR c.vals c.per c.inc (start + i + p) == atR c.vals c.per c.inc (start + i) + c.inc * p / c.per
def leastR (c : Cv) : Nat := (findFrom (fun p => perR c (c.vals.length - c.per) p) (c.per.toNat) 1).toNat
def downR (c : Cv) (p : Int) (q : Int) : Nat → Nat
  | 0 => 0
  | s + 1 => if atR c.vals c.per c.inc ((s : Int) + p) = atR c.vals c.per c.inc s + q then downR c p q s else s + 1
def infL (l : List Int) : Int := findFrom (fun i => nth l i == INF) l.length 0
def normR (c : Cv) : Cv :=
  if infL c.vals = -1 then
    let p := leastR c
    let q := c.inc * p / c.per
    let s := downR c p q (c.vals.length - c.per).toNat
    ⟨(List.range (s + p)).map fun (t : Nat) => atR c.vals c.per c.inc (t : Int), p, q⟩
  else ⟨c.vals.take ((infL c.vals).toNat + 1), 1, 0⟩
def sortedB : Int → List Int → Bool
  | _, [] => true
  | a, x :: xs => decide (a ≤ x) && sortedB x xs
def validB (c : Cv) : Bool :=
  decide (1 ≤ c.vals.length) && decide (c.vals.length ≤ 400) && decide (1 ≤ c.per) && decide (c.per ≤ 120) && decide (c.per ≤ c.vals.length) && decide (0 ≤ c.inc) && decide (c.inc ≤ MAXV) &&
  (List.range c.vals.length).all (fun i => (nth c.vals i == INF || (decide (0 ≤ nth c.vals i) && decide (nth c.vals i ≤ MAXV))) && (i == 0 || decide (nth c.vals (i - 1) ≤ nth c.vals i))) &&
  (if nth c.vals (c.vals.length - 1) = INF then c.per == 1 && c.inc == 0 else decide (nth c.vals (c.vals.length - 1) ≤ nth c.vals (c.vals.length - c.per.toNat) + c.inc))
def madeR (c : Cv) : Cv × Int := if validB (normR c) then (normR c, 0) else (zcv, 3)

section
variable {F : Nat → Int} {S P : Nat} {I : Int}
theorem atR_fvals (hP : 0 < P) (hg : Grows F S P I) (hf : ∀ t, t < S + P → F t ≠ INF) (t : Nat) : atR (fvals F (S + P)) P I (t : Int) = F t := by
  unfold atR
  rw [fvals_len, if_neg (by omega)]
  by_cases h : t < S + P
  · rw [if_pos (by omega), Int.toNat_natCast, fvals_nth F h]
  · rw [if_neg (by omega)]
    obtain ⟨d, rfl⟩ : ∃ d, t = S + P + d := ⟨t - (S + P), by omega⟩
    have e1 : (((S + P + d : Nat) : Int) - ((S + P : Nat) : Int)) / (P : Int) = ((d / P : Nat) : Int) := by
      rw [show ((S + P + d : Nat) : Int) - ((S + P : Nat) : Int) = (d : Int) by omega]; rfl
    rw [e1]
    have h1 : d / P * P ≤ d := Nat.div_mul_le_self d P
    have h2 : d < (d / P + 1) * P := Nat.lt_mul_of_div_lt (Nat.lt_succ_self _) hP
    have h3 : (d / P + 1) * P = d / P * P + P := by rw [Nat.add_mul]; omega
    have e2 : (((S + P + d : Nat) : Int) - (((d / P : Nat) : Int) + 1) * (P : Int)).toNat = S + d - d / P * P := by
      have : (((d / P : Nat) : Int) + 1) * (P : Int) = (((d / P + 1) * P : Nat) : Int) := by simp
      rw [this, h3]; omega
    rw [e2, fvals_nth F (show S + d - d / P * P < S + P by omega)]
    have hne : ¬ F (S + d - d / P * P) = 4611686018427387904 := hf _ (by omega)
    rw [if_neg hne]
    have := hg.mul (d / P + 1) (S + d - d / P * P) (by omega)
    rw [show S + d - d / P * P + (d / P + 1) * P = S + P + d by omega] at this
    rw [this]; simp
theorem tmod_zero {a : Int} {b : Nat} (ha : 0 ≤ a) : (a.tmod (b : Int) == 0) = decide (a % (b : Int) = 0) := by
  rw [Int.tmod_eq_emod_of_nonneg ha]
  rfl
theorem perR_iff (hP : 0 < P) (hI : 0 ≤ I) (hg : Grows F S P I) (hf : ∀ t, t < S + P → F t ≠ INF) (p : Nat) : perR ⟨fvals F (S + P), P, I⟩ ((((fvals F (S + P)).length : Nat) : Int) - (P : Int)) (p : Int) = true ↔ PerOk F S P I p := by
  unfold perR PerOk
  dsimp only
  rw [fvals_len, show ((S + P : Nat) : Int) - (P : Int) = (S : Int) by omega, tmod_zero (by omega), tmod_zero (Int.mul_nonneg hI (by omega)), Int.toNat_natCast]
  simp only [Bool.and_eq_true, decide_eq_true_eq, List.all_eq_true, List.mem_range, beq_iff_eq]
  have e : ∀ i : Nat, atR (fvals F (S + P)) P I ((S : Int) + i + p) = F (S + i + p) ∧ atR (fvals F (S + P)) P I ((S : Int) + i) = F (S + i) := fun i => by
    have h1 := atR_fvals hP hg hf (S + i + p)
    have h2 := atR_fvals hP hg hf (S + i)
    simp only [Int.natCast_add] at h1 h2
    exact ⟨h1, h2⟩
  have e3 : ((P : Int) % (p : Int) = 0) ↔ P % p = 0 := by omega
  rw [e3, and_assoc]
  constructor
  · rintro ⟨h1, h2, h3⟩
    refine ⟨h1, h2, fun t ht htp => ?_⟩
    have := h3 (t - S) (by omega)
    rw [(e _).1, (e _).2, show S + (t - S) = t by omega] at this
    exact this
  · rintro ⟨h1, h2, h3⟩
    refine ⟨h1, h2, fun i hi => ?_⟩
    rw [(e i).1, (e i).2]
    exact h3 _ (by omega) (by omega)
theorem leastR_is (hP : 0 < P) (hI : 0 ≤ I) (hg : Grows F S P I) (hf : ∀ t, t < S + P → F t ≠ INF) : LeastN (PerOk F S P I) (leastR ⟨fvals F (S + P), P, I⟩) ∧ leastR ⟨fvals F (S + P), P, I⟩ ≤ P := by
  unfold leastR
  dsimp only
  rw [Int.toNat_natCast]
  rcases findFrom_cases (fun p => perR ⟨fvals F (S + P), P, I⟩ ((((fvals F (S + P)).length : Nat) : Int) - (P : Int)) (p : Int)) P 1 with ⟨i, h1, h2, h3, h4, h5⟩ | ⟨h1, h2⟩
  · rw [h3, Int.toNat_natCast]
    refine ⟨⟨h1, (perR_iff hP hI hg hf i).1 h4, fun r hr hri hq => ?_⟩, by omega⟩
    have := h5 r hr hri
    rw [(perR_iff hP hI hg hf r).2 hq] at this
    cases this
  · have := h2 P (by omega) (by omega)
    rw [(perR_iff hP hI hg hf P).2 (PerOk.self hP hg)] at this
    cases this
theorem downR_is (hP : 0 < P) (hg : Grows F S P I) (hf : ∀ t, t < S + P → F t ≠ INF) {p : Nat} {q : Int} : ∀ (s : Nat), Grows F s p q → Starts F p q (downR ⟨fvals F (S + P), P, I⟩ (p : Int) q s) ∧ downR ⟨fvals F (S + P), P, I⟩ (p : Int) q s ≤ s
  | 0, h => ⟨⟨h, .inl rfl⟩, Nat.le_refl _⟩
  | s + 1, h => by
    simp only [downR]
    have h1 := atR_fvals hP hg hf (s + p)
    have h2 := atR_fvals hP hg hf s
    simp only [Int.natCast_add] at h1
    rw [h1, h2]
    split
    · rename_i he
      have := downR_is hP hg hf (p := p) (q := q) s (fun t ht => by
        by_cases hts : t = s
        · subst hts; exact he
        · exact h t (by omega))
      exact ⟨this.1, by omega⟩
    · rename_i he
      exact ⟨⟨h, .inr (by simpa using he)⟩, Nat.le_refl _⟩
theorem infL_fvals (n : Nat) (hf : ∀ t, t < n → F t ≠ INF) : infL (fvals F n) = -1 := by
  unfold infL
  rw [fvals_len]
  rcases findFrom_cases (fun i => nth (fvals F n) i == INF) n 0 with ⟨i, h1, h2, h3, h4, h5⟩ | ⟨h1, h2⟩
  · rw [fvals_nth F (by omega)] at h4
    exact absurd (by simpa using h4) (hf i (by omega))
  · exact h1
theorem normR_nf (hP : 0 < P) (hI : 0 ≤ I) (hg : Grows F S P I) (hf : ∀ t, t < S + P → F t ≠ INF) : ∃ p s, NF F S P I p s ∧ p ≤ P ∧ s ≤ S ∧ normR ⟨fvals F (S + P), P, I⟩ = ⟨fvals F (s + p), p, I * p / P⟩ := by
  obtain ⟨h1, h2⟩ := leastR_is hP hI hg hf
  have h3 := h1.2.1.all hP hg
  obtain ⟨h4, h5⟩ := downR_is hP hg hf S h3
  refine ⟨_, _, ⟨h1, h4⟩, h2, h5, ?_⟩
  unfold normR
  dsimp only
  rw [if_pos (infL_fvals _ hf), fvals_len, show (((S + P : Nat) : Int) - (P : Int)).toNat = S by omega]
  congr 1
  unfold fvals
  apply List.map_congr_left
  intro t _
  exact atR_fvals hP hg hf t
theorem mono_le (hm : ∀ t, F t ≤ F (t + 1)) {a b : Nat} (h : a ≤ b) : F a ≤ F b := by
  induction b with
  | zero =>
    obtain rfl : a = 0 := by omega
    exact Int.le_refl _
  | succ b ih =>
    by_cases e : a = b + 1
    · subst e; omega
    · have := ih (by omega); have := hm b; omega
theorem madeR_nf (hP : 0 < P) (hI : 0 ≤ I) (hg : Grows F S P I) (hm : ∀ t, F t ≤ F (t + 1)) (h0 : 0 ≤ F 0) (hf : ∀ t, t < S + P → F t < INF) : ∃ p s, NF F S P I p s ∧ p ≤ P ∧ s ≤ S ∧ madeR ⟨fvals F (S + P), P, I⟩ = nfC F p s (I * p / P) := by
  have hne : ∀ t, t < S + P → F t ≠ INF := fun t ht => by have := hf t ht; omega
  obtain ⟨p, s, hnf, h1, h2, h3⟩ := normR_nf hP hI hg hne
  refine ⟨p, s, hnf, h1, h2, ?_⟩
  unfold madeR
  rw [h3]
  have hp := hnf.least.1
  have hq : 0 ≤ I * (p : Int) / (P : Int) := Int.ediv_nonneg (Int.mul_nonneg hI (by omega)) (by omega)
  have hgr := hnf.starts.1 s (Nat.le_refl _)
  generalize I * (p : Int) / (P : Int) = q at hq hgr ⊢
  have hnn : ∀ t, 0 ≤ F t := fun t => by have := mono_le hm (Nat.zero_le t); omega
  have hval : validB ⟨fvals F (s + p), p, q⟩ = decide (¬ nfE F p s q = 3) := by
    unfold validB nfE
    dsimp only
    rw [fvals_len, fvals_nth F (show s + p - 1 < s + p by omega), if_neg (hne _ (by omega)), Int.toNat_natCast, show s + p - p = s by omega, fvals_nth F (show s < s + p by omega), ← hgr]
    have hlast : decide (F (s + p - 1) ≤ F (s + p)) = true := decide_eq_true (mono_le hm (by omega))
    rw [hlast]
    have hall : ((List.range (s + p)).all fun i => (nth (fvals F (s + p)) i == INF || (decide (0 ≤ nth (fvals F (s + p)) i) && decide (nth (fvals F (s + p)) i ≤ MAXV))) && (i == 0 || decide (nth (fvals F (s + p)) (i - 1) ≤ nth (fvals F (s + p)) i))) = !((List.range (s + p)).any fun i => decide (F i > MAXV)) := by
      rw [List.all_eq_not_any_not]
      congr 1
      rw [Bool.eq_iff_iff]
      simp only [List.any_eq_true, List.mem_range]
      constructor
      · rintro ⟨i, hi, h⟩
        refine ⟨i, hi, ?_⟩
        rw [fvals_nth F hi] at h
        have e1 : (F i == INF) = false := by simpa using hne i (by omega)
        have e2 : decide (0 ≤ F i) = true := decide_eq_true (hnn i)
        have e3 : (i == 0 || decide (nth (fvals F (s + p)) (i - 1) ≤ F i)) = true := by
          by_cases hi0 : i = 0
          · simp [hi0]
          · rw [fvals_nth F (by omega)]; simp [mono_le hm (show i - 1 ≤ i by omega)]
        rw [e1, e2, e3] at h
        simp at h
        exact decide_eq_true (by omega)
      · rintro ⟨i, hi, h⟩
        refine ⟨i, hi, ?_⟩
        rw [fvals_nth F hi]
        have e1 : (F i == INF) = false := by simpa using hne i (by omega)
        have h' := of_decide_eq_true h
        have e4 : decide (F i ≤ MAXV) = false := decide_eq_false (by omega)
        rw [e1, e4]; simp
    rw [hall]
    generalize ((List.range (s + p)).any fun i => decide (F i > MAXV)) = b
    rw [Bool.eq_iff_iff]
    simp only [Bool.and_eq_true, decide_eq_true_eq, Bool.not_eq_true', and_true]
    constructor
    · rintro ⟨⟨⟨⟨⟨⟨⟨a1, a2⟩, a3⟩, a4⟩, a5⟩, a6⟩, a7⟩, a8⟩ h
      rw [if_neg] at h
      · omega
      · rintro (h | h | h | h)
        · omega
        · omega
        · omega
        · rw [a8] at h; cases h
    · intro h
      have h' : ¬ (120 < p ∨ MAXV < q ∨ 400 < s + p ∨ b = true) := fun hh => h (if_pos hh)
      refine ⟨⟨⟨⟨⟨⟨⟨by omega, by omega⟩, by omega⟩, by omega⟩, by omega⟩, hq⟩, by omega⟩, ?_⟩
      cases b with
      | false => rfl
      | true => exact absurd (.inr (.inr (.inr rfl))) h'
  rw [hval]
  unfold nfC
  by_cases h : nfE F p s q = 3
  · rw [if_pos h, if_neg (by simp [h])]
  · rw [if_neg h, if_pos (by simp [h])]
/-- the program's normal form is the references', wherever they begin -/
theorem build_made {S' : Nat} (hP : 0 < P) (hI : 0 ≤ I) (hg : Grows F S P I) (hg' : Grows F S' P I) (hm : ∀ t, F t ≤ F (t + 1)) (h0 : 0 ≤ F 0) (hf : ∀ t, t < S + P → F t < INF) (hf' : ∀ t, t < S' + P → F t < INF) : finL (fvals F (S + P)) S P I = madeR ⟨fvals F (S' + P), P, I⟩ := by
  have hne : ∀ t, t < S + P → F t ≠ INF := fun t ht => by have := hf t ht; omega
  obtain ⟨p, s, h1, _, _, h2⟩ := finL_nf hP hg hne
  obtain ⟨p', s', h3, _, _, h4⟩ := madeR_nf hP hI hg' hm h0 hf'
  obtain ⟨rfl, rfl⟩ := h1.unique hP hg hg' h3
  rw [h2, h4]
theorem mbuild_fin (hf : ∀ t, t < S + P → F t ≠ INF) : mbuild F S P I = finL (fvals F (S + P)) S P I := by
  unfold mbuild
  rw [if_pos]
  unfold infAt
  rcases findFrom_cases (fun t => F t == INF) (S + P) 0 with ⟨i, h1, h2, h3, h4, h5⟩ | ⟨h1, h2⟩
  · exact absurd (by simpa using h4) (hf i (by omega))
  · exact h1
end
end Go.Proofs.Ytnaeefefggmomaa.M

/- Curves of schedulers, plain: sizes, rounds, what a class is left. No condition. -/
namespace Go.Proofs.Ytnaeefefggmomaa.M
open Go Go.Proofs.Ytnaeefefggmomaa.K

structure Sz where
  least : Int
  most : Int
instance instSz : Inhabited Sz := ⟨⟨0, 0⟩⟩
def encZ (s : Sz) : List Value := [.int .i64 s.least, .int .i64 s.most]
def zOk (z : List Sz) : Bool := z.all fun s => decide (0 ≤ s.least) && decide (s.least ≤ s.most) && decide (s.most ≤ 1500)
theorem zOk_iff {z : List Sz} : zOk z = true ↔ ∀ s ∈ z, 0 ≤ s.least ∧ s.least ≤ s.most ∧ s.most ≤ 1500 := by
  unfold zOk
  simp only [List.all_eq_true, Bool.and_eq_true, decide_eq_true_eq, and_assoc]
def chk18 (cap cls : Int) (z : List Sz) : Int := if cap < 1 ∨ 4000 < cap ∨ (z.length : Int) < 1 ∨ (6 : Int) < z.length ∨ zOk z = false ∨ cls < 0 ∨ (z.length : Int) ≤ cls then 2 else 0
def chkW (hi cap cls : Int) (w : List Int) (z : List Sz) : Int := if chk18 cap cls z ≠ 0 then 2 else if w.length ≠ z.length ∨ okW hi w = false then 2 else 0
/-- what others send in a round at most -/
def qSum (k : Int) (w : List Int) (z : List Sz) : Nat → Int
  | 0 => 0
  | n + 1 => qSum k w z n + (if (n : Int) ≠ k then nth w n * (nth z n).most else 0)
def shortN (low cap : Nat) : Int := findFrom (fun s => decide (s / Nat.gcd s cap ≤ 120)) (120 * cap + 1 - low) low
def robinOthers (hi k : Int) (w : List Int) (z : List Sz) (own : Int) : Int :=
  if chkW hi 1 k w z ≠ 0 ∨ (nth z k.toNat).least < 1 ∨ own < 0 ∨ MAXV < own then 0 else qSum k w z w.length * (own / (nth w k.toNat * (nth z k.toNat).least) + 1)
/-- the least number that is enough -/
def leastY (H : Nat → Bool) (bound : Nat) : Nat := (findFrom H (bound + 1) 0).toNat
theorem leastY_is {H : Nat → Bool} {b : Nat} (h : H b = true) : leastY H b ≤ b ∧ H (leastY H b) = true ∧ ∀ j, j < leastY H b → H j = false := by
  unfold leastY
  rcases findFrom_cases H (b + 1) 0 with ⟨i, h1, h2, h3, h4, h5⟩ | ⟨_, h2⟩
  · rw [h3, Int.toNat_natCast]
    exact ⟨by omega, h4, fun j hj => h5 j (by omega) hj⟩
  · rw [h2 b (by omega) (by omega)] at h; cases h
def robinH (cap s r : Int) (t y : Nat) : Bool := decide ((y : Int) + (s - r) * ((y : Int) / r + 1) ≥ cap * t)
def robinF (cap s r : Int) (t : Nat) : Int := leastY (robinH cap s r t) (cap * t).toNat
def robinC (cap k : Int) (w : List Int) (z : List Sz) : Cv × Int :=
  if chkW 20 cap k w z ≠ 0 then (zcv, chkW 20 cap k w z) else if (nth z k.toNat).least < 1 then (zcv, 5) else
    let r := nth w k.toNat * (nth z k.toNat).least
    let s := shortN (r + qSum k w z w.length).toNat cap.toNat
    if s = -1 then (zcv, 3) else
      let p := s.toNat / Nat.gcd s.toNat cap.toNat
      mbuild (robinF cap s r) 0 p (cap * p / s * r)
theorem robinH_bound {cap s r : Int} (hr : 0 < r) (hs : r ≤ s) (t : Nat) (hc : 0 ≤ cap) : robinH cap s r t (cap * t).toNat = true := by
  unfold robinH
  have h1 : 0 ≤ cap * (t : Int) := Int.mul_nonneg hc (by omega)
  have h2 : 0 ≤ (s - r) * ((((cap * t).toNat : Nat) : Int) / r + 1) := Int.mul_nonneg (by omega) (by have := Int.ediv_nonneg (a := (((cap * t).toNat : Nat) : Int)) (b := r) (by omega) (by omega); omega)
  exact decide_eq_true (by omega)
/-! ### valid curves -/
theorem validB_iff {c : Cv} : validB c = true ↔ (1 ≤ c.vals.length ∧ c.vals.length ≤ 400 ∧ 1 ≤ c.per ∧ c.per ≤ 120 ∧ c.per ≤ c.vals.length ∧ 0 ≤ c.inc ∧ c.inc ≤ MAXV) ∧
    (∀ i, i < c.vals.length → (nth c.vals i = INF ∨ (0 ≤ nth c.vals i ∧ nth c.vals i ≤ MAXV)) ∧ (i = 0 ∨ nth c.vals (i - 1) ≤ nth c.vals i)) ∧
    (if nth c.vals (c.vals.length - 1) = INF then c.per = 1 ∧ c.inc = 0 else nth c.vals (c.vals.length - 1) ≤ nth c.vals (c.vals.length - c.per.toNat) + c.inc) := by
  unfold validB
  by_cases h : nth c.vals (c.vals.length - 1) = INF
  · rw [if_pos h, if_pos h]
    simp only [Bool.and_eq_true, decide_eq_true_eq, List.all_eq_true, List.mem_range, Bool.or_eq_true, beq_iff_eq, and_assoc]
  · rw [if_neg h, if_neg h]
    simp only [Bool.and_eq_true, decide_eq_true_eq, List.all_eq_true, List.mem_range, Bool.or_eq_true, beq_iff_eq, and_assoc]
theorem validB_false {c : Cv} (h : ¬ ((1 ≤ c.vals.length ∧ c.vals.length ≤ 400 ∧ 1 ≤ c.per ∧ c.per ≤ 120 ∧ c.per ≤ c.vals.length ∧ 0 ≤ c.inc ∧ c.inc ≤ MAXV) ∧
    (∀ i, i < c.vals.length → (nth c.vals i = INF ∨ (0 ≤ nth c.vals i ∧ nth c.vals i ≤ MAXV)) ∧ (i = 0 ∨ nth c.vals (i - 1) ≤ nth c.vals i)) ∧
    (if nth c.vals (c.vals.length - 1) = INF then c.per = 1 ∧ c.inc = 0 else nth c.vals (c.vals.length - 1) ≤ nth c.vals (c.vals.length - c.per.toNat) + c.inc))) : validB c = false := by
  rw [← Bool.not_eq_true, validB_iff]; exact h
end Go.Proofs.Ytnaeefefggmomaa.M

/- Curves of schedulers, plain: what the walks of rounds, the first enough and the build want. No condition. -/
namespace Go.Proofs.Ytnaeefefggmomaa.M
open Go Go.Proofs.Ytnaeefefggmomaa.K

theorem findFrom_some {P : Nat → Bool} {k a i : Nat} (h1 : a ≤ i) (h2 : i < a + k) (hP : P i = true) (h : ∀ j, a ≤ j → j < i → P j = false) : findFrom P k a = i := by
  rcases findFrom_cases P k a with ⟨r, r1, r2, r3, r4, r5⟩ | ⟨_, r2⟩
  · rcases Nat.lt_trichotomy i r with h5 | h5 | h5
    · rw [r5 i h1 h5] at hP; cases hP
    · subst h5; exact r3
    · rw [h r r1 h5] at r4; cases r4
  · rw [r2 i h1 h2] at hP; cases hP
theorem findFrom_none {P : Nat → Bool} {k a : Nat} (h : ∀ j, a ≤ j → j < a + k → P j = false) : findFrom P k a = -1 := by
  rcases findFrom_cases P k a with ⟨r, r1, r2, r3, r4, r5⟩ | ⟨r1, _⟩
  · rw [h r r1 r2] at r4; cases r4
  · exact r1
theorem gcd_step (x y : Nat) : Nat.gcd y (x % y) = Nat.gcd x y := by
  rw [Nat.gcd_comm y (x % y), ← Nat.gcd_rec, Nat.gcd_comm]
def shortP (cap : Nat) (s : Nat) : Bool := decide (s / Nat.gcd s cap ≤ 120)
def rvR (s : Int) (cap : Nat) : Value := .tuple #[.int .i64 (if s = -1 then 0 else s), .int .i64 (if s = -1 then 0 else ((s.toNat / Nat.gcd s.toNat cap : Nat) : Int)), .bool (s != -1)]
def svR (s : Int) : Value := .tuple #[.int .i64 (if s = -1 then 0 else s), .bool (s != -1)]
theorem leastY_eq {H : Nat → Bool} {b lo : Nat} (hb : H b = true) (h1 : H lo = true) (h2 : ∀ j, j < lo → H j = false) : leastY H b = lo := by
  obtain ⟨a1, a2, a3⟩ := leastY_is hb
  rcases Nat.lt_trichotomy lo (leastY H b) with h | h | h
  · rw [a3 _ h] at h1; cases h1
  · exact h.symm
  · rw [h2 _ h] at a2; cases a2
def partV (F : Nat → Int) (t n : Nat) : List Int := fvals F t ++ List.replicate (n - t) 0
theorem partV_zero (F : Nat → Int) (n : Nat) : partV F 0 n = List.replicate n 0 := by simp [partV, fvals]
theorem partV_all (F : Nat → Int) (n : Nat) : partV F n n = fvals F n := by simp [partV]
theorem partV_len (F : Nat → Int) {t n : Nat} (h : t ≤ n) : (partV F t n).length = n := by simp [partV, fvals_len]; omega
theorem partV_take (F : Nat → Int) (t n : Nat) : (partV F t n).take t = fvals F t := by
  unfold partV; rw [List.take_append_of_le_length (by rw [fvals_len]; exact Nat.le_refl _)]; exact List.take_of_length_le (by rw [fvals_len]; exact Nat.le_refl _)
theorem partV_set (F : Nat → Int) {t n : Nat} (h : t < n) : (partV F t n).set t (F t) = partV F (t + 1) n := by
  unfold partV
  rw [List.set_append_right _ _ (by rw [fvals_len]; exact Nat.le_refl _), fvals_len, Nat.sub_self, show n - t = (n - (t + 1)) + 1 by omega, List.replicate_succ, List.set_cons_zero, fvals_snoc, List.append_assoc]
  rfl
theorem partV_nth (F : Nat → Int) {t k n : Nat} (h : t < k) : nth (partV F k n) t = F t := by
  have e : (partV F k n)[t]? = some (F t) := by
    unfold partV
    rw [List.getElem?_append_left (by rw [fvals_len]; exact h)]
    have := nth_get (xs := fvals F k) (i := t) (by rw [fvals_len]; exact h)
    rw [fvals_nth F h] at this
    exact this
  unfold nth; rw [List.getD_eq_getElem?_getD, e]; rfl
def cvV (f : Option Addr) (fc : Nat) (x : Cv × Int) : Value := .tuple #[.agg #[.slice f x.1.vals.length fc, .int .i64 x.1.per, .int .i64 x.1.inc], .int .i64 x.2]
def cuV (f : Option Addr) (fc : Nat) (x : Cv) : Value := .agg #[.slice f x.vals.length fc, .int .i64 x.per, .int .i64 x.inc]
theorem checkedE_vals (v : List Int) : checkedE v = 3 ∨ checkedE v = 0 := by unfold checkedE; split <;> simp
theorem checkedL_bad {v : List Int} {p q : Int} (h : checkedE v = 3) : checkedL v p q = (zcv, 3) := if_pos h
theorem checkedL_good {v : List Int} {p q : Int} (h : checkedE v ≠ 3) : checkedL v p q = (⟨v, p, q⟩, 0) := if_neg h
theorem checkedE_big {v : List Int} (h : 400 < v.length) : checkedE v = 3 := if_pos (.inl h)
theorem checkedE_one {v : List Int} {i : Nat} (hi : i < v.length) (h1 : nth v i ≠ INF) (h2 : MAXV < nth v i) : checkedE v = 3 :=
  if_pos (.inr (List.any_eq_true.2 ⟨_, nth_mem hi, by simp [h1, h2]⟩))
theorem checkedE_fine {v : List Int} (h : v.length ≤ 400) (hn : ∀ j, j < v.length → nth v j = INF ∨ nth v j ≤ MAXV) : checkedE v ≠ 3 := by
  unfold checkedE
  rw [if_neg]
  · decide
  · rintro (h1 | h1)
    · omega
    · obtain ⟨x, hx, h2⟩ := List.any_eq_true.1 h1
      obtain ⟨i, hi, rfl⟩ := List.getElem_of_mem hx
      have h3 := hn i hi
      rw [nth_eq hi] at h3
      simp at h2
      rcases h3 with h3 | h3
      · exact h2.1 h3
      · have := h2.2; omega
theorem infAt_some {F : Nat → Int} {n t : Nat} (ht : t < n) (h : F t = INF) (hn : ∀ j, j < t → F j ≠ INF) : infAt F n = t :=
  findFrom_some (Nat.zero_le _) (by omega) (by simp [h]) (fun j _ h2 => by simp [hn j h2])
theorem infAt_none {F : Nat → Int} {n : Nat} (hn : ∀ j, j < n → F j ≠ INF) : infAt F n = -1 :=
  findFrom_none (fun j _ h2 => by simp [hn j (by omega)])
theorem leastL_some {v : List Int} {inc : Int} {p : Nat} (h0 : 1 ≤ p) (h1 : p < v.length) (hp : leastOk v inc p = true) (hn : ∀ j, 1 ≤ j → j < p → leastOk v inc j = false) : leastL v inc = p := by
  unfold leastL
  rw [findFrom_some h0 (by omega) hp hn, if_neg (by omega), Int.toNat_natCast]
theorem leastL_none {v : List Int} {inc : Int} (h : ∀ j, 1 ≤ j → j < v.length → leastOk v inc j = false) : leastL v inc = v.length := by
  unfold leastL
  rw [if_pos (findFrom_none (fun j a b => h j a (by omega)))]
theorem leastL_pos {v : List Int} {inc : Int} (h : 0 < v.length) : 1 ≤ leastL v inc ∧ leastL v inc ≤ v.length := by
  unfold leastL
  rcases findFrom_cases (leastOk v inc) (v.length - 1) 1 with ⟨r, r1, r2, r3, r4, r5⟩ | ⟨r1, _⟩
  · rw [r3, if_neg (by omega), Int.toNat_natCast]; omega
  · rw [r1, if_pos rfl]; omega
/-- the pattern of `least`, one place of the row -/
def leastC (v : List Int) (inc : Int) (p i : Nat) : Bool := (if i + p < v.length then nth v (i + p) else nth v (i + p - v.length) + inc) == nth v i + inc * p / v.length
theorem leastOk_eq (v : List Int) (inc : Int) (p : Nat) : leastOk v inc p = (v.length % p == 0 && (inc * p) % v.length == 0 && (List.range v.length).all (leastC v inc p)) := rfl
theorem leastOk_no1 {v : List Int} {inc : Int} {p : Nat} (h : v.length % p ≠ 0 ∨ (inc * p) % v.length ≠ 0) : leastOk v inc p = false := by
  rw [leastOk_eq, ← Bool.not_eq_true]
  intro hh
  simp only [Bool.and_eq_true, beq_iff_eq] at hh
  rcases h with h | h
  · exact h hh.1.1
  · exact h hh.1.2
theorem leastOk_no2 {v : List Int} {inc : Int} {p i : Nat} (hi : i < v.length) (h : leastC v inc p i = false) : leastOk v inc p = false := by
  rw [leastOk_eq, ← Bool.not_eq_true]
  intro hh
  simp only [Bool.and_eq_true, List.all_eq_true, List.mem_range] at hh
  rw [hh.2 i hi] at h; cases h
theorem leastOk_yes {v : List Int} {inc : Int} {p : Nat} (h1 : v.length % p = 0) (h2 : (inc * p) % v.length = 0) (h3 : ∀ i, i < v.length → leastC v inc p i = true) : leastOk v inc p = true := by
  rw [leastOk_eq]
  simp only [Bool.and_eq_true, beq_iff_eq, List.all_eq_true, List.mem_range]
  exact ⟨⟨h1, h2⟩, h3⟩
end Go.Proofs.Ytnaeefefggmomaa.M
