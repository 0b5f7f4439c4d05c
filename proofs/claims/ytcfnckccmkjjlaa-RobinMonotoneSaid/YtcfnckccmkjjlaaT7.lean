/- A trial. No condition. -/
import Derived.Test.YtcfnckccmkjjlaaTab
import Derived.Test.YtcfnckccmkjjlaaRange
set_option linter.unusedSimpArgs false
set_option linter.unusedVariables false
namespace Go.Proofs.Ytcfnckccmkjjlaa
open Go Go.RowKit Go.Proofs.Ytcfnckccmkjjlaa.K Go.Proofs.Ytcfnckccmkjjlaa.M

theorem hitB {flow : Int} {p : Pkt} (h : (true && (flow == -1 || (p.flow == flow && decide (flow ≥ 0))) == true) = true) : hitF flow p := by
  simp at h; unfold hitF; omega
theorem hitN {flow : Int} {p : Pkt} (h : (true && (flow == -1 || (p.flow == flow && decide (flow ≥ 0))) == true) = false) : ¬ hitF flow p := by
  simp at h; unfold hitF; omega

theorem Of_C {R : Ro} {a : Option Addr} {l c : Nat} {flow : Int} (w0 : World) (E : List Ent) :
    K.Fn Try.prog 127 [.slice a l c, .int .i64 flow] w0 R E (fun v R' E' => ∃ b2 b3, v = .func (.func 131) #[] #[.pointer (some ⟨b2, 0, none⟩), .pointer (some ⟨b3, 0, none⟩)] ∧ R = R' ∧ E' = .blk b3 [.int .i64 flow] :: .blk b2 [.slice a l c] :: E) := by
  refine Fn.enter (n := 6) Try.func127 rfl rfl (Nat.le_of_ble_eq_true rfl) rfl ?_
  refine W.seq ?_
  refine W.region _ ?_
  refine WL.ef rfl rfl (by decide) (Ef.box rfl rfl (fun b2 => ?_))
  refine WL.ef rfl rfl (by decide) (Ef.box rfl rfl (fun b3 => ?_))
  refine WG.run tab_ok 1 rfl ?_
  refine WG.nil ?_
  refine WE.nxt ?_
  refine W.seq ?_
  refine W.region _ ?_
  refine WG.run tab_ok 2 rfl ?_
  refine WG.nil ?_
  refine WE.nxt ?_
  refine W.ret ?_
  refine WE.retF tab_ok [_] rfl ⟨rfl, trivial⟩ (RLe.refl _) ?_
  exact ⟨_, _, rfl, rfl, rfl⟩

theorem Of_It {R : Ro} {a : Option Addr} {c b2 b3 : Nat} {flow : Int} {ps : List Pkt} (hp : RS R 3 encP a ps) :
    Iter Try.prog 131 [.pointer (some ⟨b2, 0, none⟩), .pointer (some ⟨b3, 0, none⟩)] encIP (fun xs => xs = ofGo flow 0 ps) R [.blk b3 [.int .i64 flow], .blk b2 [.slice a ps.length c]] := by
  intro w0 lp EJ hY F
  have hla := hp.len
  refine Fn.enter (n := 33) Try.func131 rfl rfl (Nat.le_of_ble_eq_true rfl) rfl ?_
  refine W.perm (E' := .blk b3 [.int .i64 flow] :: .blk b2 [.slice a ps.length c] :: (EJ [] ++ F)) (List.perm_append_comm_assoc _ [_, _] _) ?_
  refine W.seq ?_
  refine W.region _ ?_
  refine' WG.y rfl rfl (by decide) (Yl.load1 tab_ok rfl rfl rfl (fun _ => rfl) ?r1 rfl ?h1) ?_
  case r1 => (first | exact Rd.blk 0 rfl | exact Rd.blk 1 rfl | exact Rd.blk 2 rfl | exact Rd.blk 3 rfl | (apply RS.rdD; assumption; ((try dsimp only) <;> omega)) | exact Rd.slD 0 rfl (by (try dsimp only) <;> omega) | exact Rd.slD 1 rfl (by (try dsimp only) <;> omega) | exact Rd.slD 2 rfl (by (try dsimp only) <;> omega) | exact Rd.slD 3 rfl (by (try dsimp only) <;> omega))
  case h1 => rfl
  refine WG.run tab_ok 2 rfl ?_
  refine WG.nil ?_
  refine WE.nxt ?_
  refine W.block ?_
  refine W.loop (β := Nat × List (Nat × Pkt)) (fun (k, pre) => k ≤ ps.length ∧ pre ++ ofGo flow k (ps.drop k) = ofGo flow 0 ps) (fun (k, pre) => [(0, true, .func (.yield lp) #[] #[]), (1, true, .pointer (some ⟨b2, 0, none⟩)), (2, true, .pointer (some ⟨b3, 0, none⟩)), (6, true, .slice a ps.length c), (7, true, .int .i64 ps.length), (8, true, .int .i64 (k : Int))]) (fun _ => R) (fun (k, pre) => .blk b3 [.int .i64 flow] :: .blk b2 [.slice a ps.length c] :: (EJ pre ++ F)) (fun (k, pre) => ps.length - k) ((0, [])) (⟨Nat.zero_le _, rfl⟩) ⟨rfl, rfl, rfl, rfl, rfl, rfl, rfl⟩ (RLe.refl _) (by (repeat (first | exact List.Sublist.refl _ | exact List.nil_sublist _ | apply List.Sublist.cons_cons | apply List.Sublist.cons)); done) ?_
  intro st hst
  obtain ⟨k, pre⟩ := st
  obtain ⟨hk, hpre⟩ := hst
  dsimp only at hk hpre ⊢
  refine W.seq ?_
  refine W.region _ ?_
  refine WG.run tab_ok 1 rfl ?_
  refine WG.nil ?_
  refine WE.nxt ?_
  refine W.seq ?_
  refine W.condD rfl (fun hc0 => ?_) (fun hc0 => ?_)
  · try dsimp only at hc0
    have hd := drop_nth (xs := ps) (k := k) (by omega)
    rw [hd, ofGo] at hpre
    refine W.skip ?_
    refine WE.nxt ?_
    refine W.seq ?_
    refine W.block ?_
    refine W.seq ?_
    refine W.region _ ?_
    refine WG.run tab_ok 1 rfl ?_
    refine WG.y rfl rfl (by decide) (Yl.indexN tab_ok rfl rfl rfl rfl rfl rfl (fun _ => rfl) (by intro _; (try dsimp only) <;> omega) (by intro _; first | exact fun _ _ _ _ => rfl | exact RS.has (by assumption) | exact fun _ _ _ _ => (by assumption) | exact HasMem.ownD 0 rfl | exact HasMem.ownD 1 rfl | exact HasMem.ownD 2 rfl | exact HasMem.ownD 3 rfl)) ?_
    refine' WG.y rfl rfl (by decide) (Yl.load1 tab_ok rfl rfl rfl (fun _ => rfl) ?r2 rfl ?h2) ?_
    case r2 => (first | (apply RS.rdD; assumption; ((try dsimp only) <;> omega)) | exact Rd.slD 0 rfl (by (try dsimp only) <;> omega) | exact Rd.slD 1 rfl (by (try dsimp only) <;> omega) | exact Rd.slD 2 rfl (by (try dsimp only) <;> omega) | exact Rd.slD 3 rfl (by (try dsimp only) <;> omega))
    case h2 => rfl
    refine WL.ef rfl rfl (by decide) (Ef.alloc tab_ok rfl rfl (fun b5 => ?_))
    refine WG.run tab_ok 1 rfl ?_
    first | refine WL.efN rfl rfl (Ef.store0 0 tab_ok rfl rfl rfl rfl rfl rfl rfl rfl ?_) | refine WL.efN rfl rfl (Ef.store0 1 tab_ok rfl rfl rfl rfl rfl rfl rfl rfl ?_) | refine WL.efN rfl rfl (Ef.store0 2 tab_ok rfl rfl rfl rfl rfl rfl rfl rfl ?_) | refine WL.efN rfl rfl (Ef.store0 3 tab_ok rfl rfl rfl rfl rfl rfl rfl rfl ?_)
    refine WG.nil ?_
    refine WE.nxt ?_
    refine W.seq ?_
    refine W.regionY _ ?_
    refine' WQ.yv rfl rfl (by decide) rfl (Yl.load1 tab_ok rfl rfl rfl (fun _ => rfl) ?r3 rfl ?h3) ?_
    case r3 => (first | exact Rd.blk 0 rfl | exact Rd.blk 1 rfl | exact Rd.blk 2 rfl | exact Rd.blk 3 rfl | (apply RS.rdD; assumption; ((try dsimp only) <;> omega)) | exact Rd.slD 0 rfl (by (try dsimp only) <;> omega) | exact Rd.slD 1 rfl (by (try dsimp only) <;> omega) | exact Rd.slD 2 rfl (by (try dsimp only) <;> omega) | exact Rd.slD 3 rfl (by (try dsimp only) <;> omega))
    case h3 => rfl
    refine WQ.yv rfl rfl (by decide) rfl (pureV_ok tab_ok rfl (fun _ => rfl)) ?_
    refine WQ.yv rfl rfl (by decide) rfl (pureV_ok tab_ok rfl (fun _ => rfl)) ?_
    refine WQ.yv rfl rfl (by decide) rfl (pureV_ok tab_ok rfl (by first | exact fun _ => rfl | exact fun h => h | (intro h; simp_all))) ?_
    refine' WQ.yv rfl rfl (by decide) rfl (Yl.loadG tab_ok rfl rfl rfl (by first | exact fun _ => rfl | exact fun h => h | (intro h; simp_all)) ?r4 rfl ?h4 ?g4) ?_
    case r4 => apply Rd.addC; (first | exact Rd.blkC 0 rfl | exact Rd.blkC 1 rfl | exact Rd.blkC 2 rfl | exact Rd.blkC 3 rfl)
    case h4 => rfl
    case g4 => first | exact fun _ => trivial | (intro hg; (try simp only [decide_eq_true_eq, decide_eq_false_iff_not, beq_iff_eq, bne_iff_ne, beq_eq_false_iff_ne, bne_eq_false_iff_eq, ne_eq, Bool.or_eq_true, Bool.or_eq_false_iff, Bool.and_eq_true, Bool.and_eq_false_imp, Bool.not_eq_true, Bool.not_eq_true', Bool.not_eq_false', Classical.not_not, Int.not_lt, Int.not_le, gt_iff_lt, ge_iff_le] at hg); (try dsimp only); omega)
    refine' WQ.yv rfl rfl (by decide) rfl (Yl.loadG tab_ok rfl rfl rfl (by first | exact fun _ => rfl | exact fun h => h | (intro h; simp_all)) ?r5 rfl ?h5 ?g5) ?_
    case r5 => (first | exact Rd.blkC 0 rfl | exact Rd.blkC 1 rfl | exact Rd.blkC 2 rfl | exact Rd.blkC 3 rfl | (apply RS.rdC; assumption) | exact Rd.slC 0 rfl | exact Rd.slC 1 rfl | exact Rd.slC 2 rfl | exact Rd.slC 3 rfl)
    case h5 => rfl
    case g5 => first | exact fun _ => trivial | (intro hg; (try simp only [decide_eq_true_eq, decide_eq_false_iff_not, beq_iff_eq, bne_iff_ne, beq_eq_false_iff_ne, bne_eq_false_iff_eq, ne_eq, Bool.or_eq_true, Bool.or_eq_false_iff, Bool.and_eq_true, Bool.and_eq_false_imp, Bool.not_eq_true, Bool.not_eq_true', Bool.not_eq_false', Classical.not_not, Int.not_lt, Int.not_le, gt_iff_lt, ge_iff_le] at hg); (try dsimp only); omega)
    refine WQ.yv rfl rfl (by decide) rfl (pureV_ok tab_ok rfl (by first | exact fun _ => rfl | exact fun h => h | (intro h; simp_all))) ?_
    refine WQ.yv rfl rfl (by decide) rfl (pureV_ok tab_ok rfl (by first | exact fun _ => rfl | exact fun h => h | (intro h; simp_all))) ?_
    refine' WQ.yv rfl rfl (by decide) rfl (Yl.loadG tab_ok rfl rfl rfl (by first | exact fun _ => rfl | exact fun h => h | (intro h; simp_all)) ?r6 rfl ?h6 ?g6) ?_
    case r6 => (first | exact Rd.blkC 0 rfl | exact Rd.blkC 1 rfl | exact Rd.blkC 2 rfl | exact Rd.blkC 3 rfl | (apply RS.rdC; assumption) | exact Rd.slC 0 rfl | exact Rd.slC 1 rfl | exact Rd.slC 2 rfl | exact Rd.slC 3 rfl)
    case h6 => rfl
    case g6 => first | exact fun _ => trivial | (intro hg; (try simp only [decide_eq_true_eq, decide_eq_false_iff_not, beq_iff_eq, bne_iff_ne, beq_eq_false_iff_ne, bne_eq_false_iff_eq, ne_eq, Bool.or_eq_true, Bool.or_eq_false_iff, Bool.and_eq_true, Bool.and_eq_false_imp, Bool.not_eq_true, Bool.not_eq_true', Bool.not_eq_false', Classical.not_not, Int.not_lt, Int.not_le, gt_iff_lt, ge_iff_le] at hg); (try dsimp only); omega)
    refine WQ.yv rfl rfl (by decide) rfl (pureV_ok tab_ok rfl (by first | exact fun _ => rfl | exact fun h => h | (intro h; simp_all))) ?_
    refine WQ.yv rfl rfl (by decide) rfl (Yl.pand rfl rfl rfl (by first | exact fun _ => rfl | exact fun h => h | (intro h; simp_all)) (by intro h1 h2; simp_all <;> omega)) ?_
    refine WQ.yv rfl rfl (by decide) rfl (Yl.por rfl rfl rfl (fun _ => rfl) (by intro h1 h2; simp_all <;> omega)) ?_
    refine WQ.yv rfl rfl (by decide) rfl (pureV_ok tab_ok rfl (fun _ => rfl)) ?_
    refine WQ.yv rfl rfl (by decide) rfl (pureV_ok tab_ok rfl (by first | exact fun _ => rfl | exact fun h => h | (intro h; simp_all))) ?_
    refine WQ.yv rfl rfl (by decide) rfl (pureV_ok tab_ok rfl (by first | exact fun _ => rfl | exact fun h => h | (intro h; simp_all))) ?_
    refine' WQ.yv rfl rfl (by decide) rfl (Yl.loadG tab_ok rfl rfl rfl (by first | exact fun _ => rfl | exact fun h => h | (intro h; simp_all)) ?r7 rfl ?h7 ?g7) ?_
    case r7 => (first | exact Rd.blkC 0 rfl | exact Rd.blkC 1 rfl | exact Rd.blkC 2 rfl | exact Rd.blkC 3 rfl)
    case h7 => rfl
    case g7 => first | exact fun _ => trivial | (intro hg; (try simp only [decide_eq_true_eq, decide_eq_false_iff_not, beq_iff_eq, bne_iff_ne, beq_eq_false_iff_ne, bne_eq_false_iff_eq, ne_eq, Bool.or_eq_true, Bool.or_eq_false_iff, Bool.and_eq_true, Bool.and_eq_false_imp, Bool.not_eq_true, Bool.not_eq_true', Bool.not_eq_false', Classical.not_not, Int.not_lt, Int.not_le, gt_iff_lt, ge_iff_le] at hg); (try dsimp only); omega)
    refine WQ.yield (vs := encIP (k, nth ps k)) (E1 := EJ pre ++ (.blk b5 (encP (nth ps k)) :: .blk b3 [.int .i64 flow] :: .blk b2 [.slice a ps.length c] :: F)) (E2 := EJ (pre ++ [(k, nth ps k)]) ++ (.blk b5 (encP (nth ps k)) :: .blk b3 [.int .i64 flow] :: .blk b2 [.slice a ps.length c] :: F)) rfl rfl (by decide) (CallY.mk' rfl rfl rfl) (by first | exact fun _ => rfl | exact fun h => h | (intro h; simp_all)) rfl (List.perm_append_comm_assoc [_, _, _] _ _) (fun hpc => hY pre _ _ ⟨ofGo flow (k + 1) (ps.drop (k + 1)), by rw [if_pos (hitB hpc)] at hpre; exact hpre⟩) (fun hpc => ?_) (fun hpc => ?_)
    ·
      refine WQ.yv rfl rfl (by decide) rfl (pureV_ok tab_ok rfl (by first | exact fun _ => rfl | exact fun h => h | (intro h; simp_all))) ?_
      refine WQ.yv rfl rfl (by decide) rfl (Yl.pand rfl rfl rfl (fun _ => rfl) (by intro h1 h2; simp_all <;> omega)) ?_
      refine WQ.nil ?_
      refine WE.nxt ?_
      refine W.cond rfl (fun hc1 => ?_) (fun hc1 => ?_)
      · try simp only [decide_eq_true_eq, decide_eq_false_iff_not, beq_iff_eq, bne_iff_ne, beq_eq_false_iff_ne, bne_eq_false_iff_eq, ne_eq, Bool.or_eq_true, Bool.or_eq_false_iff, Bool.and_eq_true, Bool.and_eq_false_imp, Bool.not_eq_true, Bool.not_eq_true', Bool.not_eq_false', Classical.not_not, Int.not_lt, Int.not_le, gt_iff_lt, ge_iff_le] at hc1
        simp_all
      · try simp only [decide_eq_true_eq, decide_eq_false_iff_not, beq_iff_eq, bne_iff_ne, beq_eq_false_iff_ne, bne_eq_false_iff_eq, ne_eq, Bool.or_eq_true, Bool.or_eq_false_iff, Bool.and_eq_true, Bool.and_eq_false_imp, Bool.not_eq_true, Bool.not_eq_true', Bool.not_eq_false', Classical.not_not, Int.not_lt, Int.not_le, gt_iff_lt, ge_iff_le] at hc1
        refine W.skip ?_
        refine WE.blk _ ?_
        refine WE.nxt ?_
        refine W.region _ ?_
        refine WG.y rfl rfl (by decide) (Yl.add rfl rfl rfl (fun _ => rfl) (by intro _; constructor <;> (try dsimp only) <;> omega)) ?_
        refine WG.run tab_ok 1 rfl ?_
        refine WG.nil ?_
        rw [if_pos (hitB hpc)] at hpre
        refine WE.againP (k + 1, pre ++ [(k, nth ps k)]) ⟨by dsimp only; omega, by dsimp only; rw [← hpre]; simp⟩ (by dsimp only; omega) ⟨rfl, rfl, rfl, rfl, rfl, rfl, rfl⟩ (RLe.refl _) ⟨_, List.perm_append_comm_assoc _ [_, _, _] _, List.Sublist.cons _ (List.Sublist.refl _)⟩
    ·
      refine WQ.yv rfl rfl (by decide) rfl (pureV_ok tab_ok rfl (by first | exact fun _ => rfl | exact fun h => h | (intro h; simp_all))) ?_
      refine WQ.yv rfl rfl (by decide) rfl (Yl.pand rfl rfl rfl (fun _ => rfl) (by intro h1 h2; simp_all <;> omega)) ?_
      refine WQ.nil ?_
      refine WE.nxt ?_
      refine W.cond rfl (fun hc2 => ?_) (fun hc2 => ?_)
      · try simp only [decide_eq_true_eq, decide_eq_false_iff_not, beq_iff_eq, bne_iff_ne, beq_eq_false_iff_ne, bne_eq_false_iff_eq, ne_eq, Bool.or_eq_true, Bool.or_eq_false_iff, Bool.and_eq_true, Bool.and_eq_false_imp, Bool.not_eq_true, Bool.not_eq_true', Bool.not_eq_false', Classical.not_not, Int.not_lt, Int.not_le, gt_iff_lt, ge_iff_le] at hc2
        simp_all
      · try simp only [decide_eq_true_eq, decide_eq_false_iff_not, beq_iff_eq, bne_iff_ne, beq_eq_false_iff_ne, bne_eq_false_iff_eq, ne_eq, Bool.or_eq_true, Bool.or_eq_false_iff, Bool.and_eq_true, Bool.and_eq_false_imp, Bool.not_eq_true, Bool.not_eq_true', Bool.not_eq_false', Classical.not_not, Int.not_lt, Int.not_le, gt_iff_lt, ge_iff_le] at hc2
        refine W.skip ?_
        refine WE.blk _ ?_
        refine WE.nxt ?_
        refine W.region _ ?_
        refine WG.y rfl rfl (by decide) (Yl.add rfl rfl rfl (fun _ => rfl) (by intro _; constructor <;> (try dsimp only) <;> omega)) ?_
        refine WG.run tab_ok 1 rfl ?_
        refine WG.nil ?_
        rw [if_neg (hitN hpc)] at hpre
        refine WE.again (k + 1, pre) ⟨by dsimp only; omega, hpre⟩ (by dsimp only; omega) ⟨rfl, rfl, rfl, rfl, rfl, rfl, rfl⟩ (RLe.refl _) (List.Sublist.cons _ (List.Sublist.refl _))
  · try dsimp only at hc0
    obtain rfl : k = ps.length := by omega
    rw [List.drop_length, ofGo, List.append_nil] at hpre
    refine W.exit ?_
    refine WE.then_exit ?_
    refine WE.then_exit ?_
    refine WE.blk_exit ?_
    refine WE.endF tab_ok [] rfl trivial (RLe.refl _) ?_
    exact ⟨rfl, _, hpre, List.Sublist.cons _ (List.Sublist.cons _ (List.Sublist.refl _))⟩

theorem Bytes_V {R : Ro} {a : Option Addr} {c : Nat} {ps : List Pkt} (hp : RS R 3 encP a ps) {flow t : Int} (hs : ∀ p ∈ ps, 0 ≤ p.size ∧ p.size ≤ 1000000) (hl : ps.length ≤ 1000000) :
    FnV Try.prog 120 [.slice a ps.length c, .int .i64 flow, .int .i64 t] R (.int .i64 (pbytes flow t ps)) := by
  refine Fn.toV (fun w0 E => ?_)
  refine Fn.enterM (n := 24) Try.func120 rfl rfl (Nat.le_of_ble_eq_true rfl) rfl ?_
  refine W.seq ?_
  refine W.region _ ?_
  refine WL.ef rfl rfl (by decide) (Ef.box rfl rfl (fun b5 => ?_))
  refine WG.run tab_ok 1 rfl ?_
  refine WG.nil ?_
  refine WE.nxt ?_
  refine W.seq ?_
  refine W.region _ ?_
  refine WL.ef rfl rfl (by decide) (Ef.alloc tab_ok rfl rfl (fun b7 => ?_))
  first | refine WL.efN rfl rfl (Ef.store0 0 tab_ok rfl rfl rfl rfl rfl rfl rfl rfl ?_) | refine WL.efN rfl rfl (Ef.store0 1 tab_ok rfl rfl rfl rfl rfl rfl rfl rfl ?_) | refine WL.efN rfl rfl (Ef.store0 2 tab_ok rfl rfl rfl rfl rfl rfl rfl rfl ?_) | refine WL.efN rfl rfl (Ef.store0 3 tab_ok rfl rfl rfl rfl rfl rfl rfl rfl ?_)
  refine WG.nil ?_
  refine WE.nxt ?_
  refine W.seq ?_
  refine W.seq ?_
  refine W.region _ ?_
  refine WG.run tab_ok 2 rfl ?_
  refine WL.call en127 rfl rfl (by decide) (CallOp.mkT rfl rfl rfl rfl) (Of_C _ _) ?_
  rintro _ _ _ - ⟨b2, b3, rfl, rfl, rfl⟩
  refine WG.nil ?_
  refine WE.nxt ?_
  refine W.block ?_
  refine W.rangeFunc (α := Nat × Pkt) (β := Nat) (encs := encIP) (S := fun xs => xs = ofGo flow 0 ps) (EB := [.blk b3 [.int .i64 flow], .blk b2 [.slice a ps.length c]]) (Rest := E) (ps := [13, 14]) (fun xs => [.blk b7 [.int .i64 (sumT t xs)], .blk b5 [.int .i64 t]]) (fun _ _ _ => True)
    (fun _ _ b9 => [(5, true, .pointer (some ⟨b5, 0, none⟩)), (7, true, .pointer (some ⟨b7, 0, none⟩)), (9, true, .pointer (some ⟨b9, 0, none⟩))]) (fun pre x b9 => .blk b9 (encP x.2) :: [.blk b7 [.int .i64 (sumT t pre)], .blk b5 [.int .i64 t]]) rfl en131 (Of_It hp) (fun _ => rfl) (by decide) rfl (List.perm_append_comm_assoc [_, _] [_, _] _) ?_ ?_ ?_
  ·
    intro l pre x ys F hS
    refine WR.region _ ?_
    refine WQ.ef rfl rfl (by decide) rfl (Ef.alloc tab_ok rfl rfl (fun b9 => ?_))
    first | refine WQ.efN rfl rfl rfl (Ef.store0 0 tab_ok rfl rfl rfl rfl rfl rfl rfl rfl ?_) | refine WQ.efN rfl rfl rfl (Ef.store0 1 tab_ok rfl rfl rfl rfl rfl rfl rfl rfl ?_) | refine WQ.efN rfl rfl rfl (Ef.store0 2 tab_ok rfl rfl rfl rfl rfl rfl rfl rfl ?_) | refine WQ.efN rfl rfl rfl (Ef.store0 3 tab_ok rfl rfl rfl rfl rfl rfl rfl rfl ?_)
    refine WQ.nil ?_
    exact WE.asg (E1 := fun b9 => _ ++ F) b9 trivial ⟨rfl, rfl, rfl, rfl⟩ (List.Sublist.refl _)
  ·
    intro l pre x ys b9 F hS hi
    have hb := sumT_bound t pre (fun y hy => hs _ (ofGo_mem flow 0 ps y (by rw [← hS]; simp [hy])))
    have hx := hs _ (ofGo_mem flow 0 ps x (by rw [← hS]; simp))
    have hlen : pre.length ≤ ps.length := by
      have := ofGo_length flow 0 ps
      rw [← hS] at this; simp at this; omega
    have hsn : sumT t (pre ++ [x]) = sumT t pre + (if x.2.time < t then x.2.size else 0) := by rw [sumT_append]; simp [sumT]
    refine WR.block ?_
    refine WR.seq ?_
    refine WR.region _ ?_
    refine WQ.yv rfl rfl (by decide) rfl (pureV_ok tab_ok rfl (fun _ => rfl)) ?_
    refine' WQ.yv rfl rfl (by decide) rfl (Yl.load1 tab_ok rfl rfl rfl (fun _ => rfl) ?r1 rfl ?h1) ?_
    case r1 => apply Rd.add; (first | exact Rd.blk 0 rfl | exact Rd.blk 1 rfl | exact Rd.blk 2 rfl | exact Rd.blk 3 rfl)
    case h1 => rfl
    refine' WQ.yv rfl rfl (by decide) rfl (Yl.load1 tab_ok rfl rfl rfl (fun _ => rfl) ?r2 rfl ?h2) ?_
    case r2 => (first | exact Rd.blk 0 rfl | exact Rd.blk 1 rfl | exact Rd.blk 2 rfl | exact Rd.blk 3 rfl)
    case h2 => rfl
    refine WQ.yv rfl rfl (by decide) rfl (pureV_ok tab_ok rfl (fun _ => rfl)) ?_
    refine WQ.nil ?_
    refine WE.nxtR ?_
    refine WR.condD rfl (fun hc0 => ?_) (fun hc0 => ?_)
    · try dsimp only at hc0
      refine WR.region _ ?_
      refine' WQ.yv rfl rfl (by decide) rfl (Yl.load1 tab_ok rfl rfl rfl (fun _ => rfl) ?r3 rfl ?h3) ?_
      case r3 => (first | exact Rd.blk 0 rfl | exact Rd.blk 1 rfl | exact Rd.blk 2 rfl | exact Rd.blk 3 rfl)
      case h3 => rfl
      refine WQ.yv rfl rfl (by decide) rfl (pureV_ok tab_ok rfl (fun _ => rfl)) ?_
      refine' WQ.yv rfl rfl (by decide) rfl (Yl.load1 tab_ok rfl rfl rfl (fun _ => rfl) ?r4 rfl ?h4) ?_
      case r4 => apply Rd.add; (first | exact Rd.blk 0 rfl | exact Rd.blk 1 rfl | exact Rd.blk 2 rfl | exact Rd.blk 3 rfl)
      case h4 => rfl
      refine WQ.yv rfl rfl (by decide) rfl (Yl.add rfl rfl rfl (fun _ => rfl) (by intro _; constructor <;> (try dsimp only) <;> omega)) ?_
      first | refine WQ.efN rfl rfl rfl (Ef.store0 0 tab_ok rfl rfl rfl rfl rfl rfl rfl rfl ?_) | refine WQ.efN rfl rfl rfl (Ef.store0 1 tab_ok rfl rfl rfl rfl rfl rfl rfl rfl ?_) | refine WQ.efN rfl rfl rfl (Ef.store0 2 tab_ok rfl rfl rfl rfl rfl rfl rfl rfl ?_) | refine WQ.efN rfl rfl rfl (Ef.store0 3 tab_ok rfl rfl rfl rfl rfl rfl rfl rfl ?_)
      refine WQ.nil ?_
      refine WE.blk _ ?_
      refine WE.rend ⟨_, List.Perm.refl _, ?_⟩
      rw [hsn, if_pos hc0]
      exact List.Sublist.cons _ (List.Sublist.refl _)
    · try dsimp only at hc0
      refine WR.skip ?_
      refine WE.blk _ ?_
      refine WE.rend ⟨_, List.Perm.refl _, ?_⟩
      rw [hsn, if_neg hc0, Int.add_zero]
      exact List.Sublist.cons _ (List.Sublist.refl _)
  ·
    rintro D xs rfl
    rw [sumT_ofGo]
    refine WE.blk _ ?_
    refine WE.nxt ?_
    refine W.seq ?_
    refine W.region _ ?_
    refine' WG.y rfl rfl (by decide) (Yl.load1 tab_ok rfl rfl rfl (fun _ => rfl) ?r5 rfl ?h5) ?_
    case r5 => (first | exact Rd.blk 0 rfl | exact Rd.blk 1 rfl | exact Rd.blk 2 rfl | exact Rd.blk 3 rfl)
    case h5 => rfl
    refine WG.run tab_ok 1 rfl ?_
    refine WG.nil ?_
    refine WE.nxt ?_
    refine W.ret ?_
    refine WE.subE (E' := .obj D (.deferred (some [])) :: E) (by (repeat (first | exact List.Sublist.refl _ | exact List.nil_sublist _ | apply List.Sublist.cons_cons | apply List.Sublist.cons)); done) ?_
    refine WE.retFM tab_ok 0 [_] rfl rfl rfl ⟨rfl, trivial⟩ (RLe.refl _) ?_
    exact ⟨rfl, rfl⟩

end Go.Proofs.Ytcfnckccmkjjlaa
