/- Rules and walks, joined from 29 texts: the first of them says: Chapter 19: checks, what others send, the curve. No condition. -/
import Derived.Test.YtlgjkmebpnnphaaGreatG5
/- Chapter 19: checks, what others send, the curve. No condition. -/
set_option maxRecDepth 4000
set_option linter.unusedSimpArgs false
set_option linter.unusedVariables false
namespace Go.Proofs.YtlgjkmebpnnphaaGreat
open Go Go.RowKit Go.Proofs.YtlgjkmebpnnphaaGreat.K Go.Proofs.YtlgjkmebpnnphaaGreat.M

theorem RightP_V {R : Ro} {za : Option Addr} {zc : Nat} {z : List Sz} (hzr : RS R 2 encZ za z) : FnV Tryz.prog 149 [.slice za z.length zc] R (.bool (zOk z)) := by
  have hla := hzr.len
  refine Fn.toV (fun w0 E => ?_)
  refine Fn.enter (n := 27) Tryz.func149 rfl rfl (Nat.le_of_ble_eq_true rfl) rfl ?_
  refine W.seq ?_
  refine W.region _ ?_
  refine WG.run tab_ok 1 rfl ?_
  refine WG.nil ?_
  refine WE.nxt ?_
  refine W.seq ?_
  refine W.seq ?_
  refine W.region _ ?_
  refine WG.run tab_ok 3 rfl ?_
  refine WG.nil ?_
  refine WE.nxt ?_
  refine W.block ?_
  refine W.loopK (β := Nat) (fun i => i ≤ z.length ∧ ∀ j, j < i → 0 ≤ (nth z j).least ∧ (nth z j).least ≤ (nth z j).most ∧ (nth z j).most ≤ 1500) (fun i => [(7, true, .int .i64 (i : Int))]) [5, 6] [_, _] [] _ rfl (fun i => []) (fun i => z.length - i) (0) (⟨Nat.zero_le _, fun j hj => by omega⟩) ⟨rfl, rfl, rfl, rfl⟩ qS ?_
  intro i hst
  dsimp only [zipE, setAll, List.cons_append, List.nil_append, List.set_cons_zero, List.set_cons_succ] at hst ⊢
  
  refine W.seq ?_
  refine W.region _ ?_
  refine WG.run tab_ok 1 rfl ?_
  refine WG.nil ?_
  refine WE.nxt ?_
  refine W.seq ?_
  refine W.condD rfl (fun hc0 => ?_) (fun hc0 => ?_)
  · try dsimp only at hc0
    have hil : i < z.length := by omega
    refine W.skip ?_
    refine WE.nxt ?_
    refine W.seq ?_
    refine W.block ?_
    refine W.seq ?_
    refine W.region _ ?_
    refine WG.y rfl rfl (by decide) (Yl.indexN tab_ok rfl rfl rfl rfl rfl rfl (fun _ => rfl) (by intro _; (try dsimp only) <;> omega) (by intro _; first | exact fun _ _ _ _ => rfl | exact RS.has (by assumption) | exact fun _ _ _ _ => (by assumption) | exact HasMem.ownD 0 rfl | exact HasMem.ownD 1 rfl | exact HasMem.ownD 2 rfl)) ?_
    refine' WG.y rfl rfl (by decide) (Yl.load1 tab_ok rfl rfl rfl (fun _ => rfl) ?r1 rfl ?h1) ?_
    case r1 => ((apply RS.rdD; assumption; ((try dsimp only) <;> omega)))
    case h1 => rfl
    refine WL.ef rfl rfl (by decide) (Ef.alloc tab_ok rfl rfl (fun b4 => ?_))
    refine WL.efN rfl rfl (Ef.store0 0 tab_ok rfl rfl rfl rfl rfl rfl rfl rfl ?_)
    refine WG.nil ?_
    refine WE.nxt ?_
    refine W.seq ?_
    refine W.region _ ?_
    refine WG.run tab_ok 1 rfl ?_
    refine' WG.y rfl rfl (by decide) (Yl.load1 tab_ok rfl rfl rfl (fun _ => rfl) ?r2 rfl ?h2) ?_
    case r2 => apply Rd.add; (exact Rd.blk 0 rfl)
    case h2 => rfl
    refine WG.run tab_ok 2 rfl ?_
    refine WG.y rfl rfl (by decide) (pureV_ok tab_ok rfl qE) ?_
    refine' WG.y rfl rfl (by decide) (Yl.loadG tab_ok rfl rfl rfl qE ?r3 rfl ?h3 ?g3) ?_
    case r3 => apply Rd.addC; (exact Rd.blkC 0 rfl)
    case h3 => rfl
    case g3 => exact fun _ => trivial
    refine WG.y rfl rfl (by decide) (pureV_ok tab_ok rfl qE) ?_
    refine' WG.y rfl rfl (by decide) (Yl.loadG tab_ok rfl rfl rfl qE ?r4 rfl ?h4 ?g4) ?_
    case r4 => apply Rd.addC; (exact Rd.blkC 0 rfl)
    case h4 => rfl
    case g4 => exact fun _ => trivial
    refine WG.y rfl rfl (by decide) (pureV_ok tab_ok rfl qE) ?_
    refine WG.y rfl rfl (by decide) (Yl.por rfl rfl rfl (fun _ => rfl) (by intro h1 h2; simp_all <;> omega)) ?_
    refine WG.run tab_ok 1 rfl ?_
    refine WG.y rfl rfl (by decide) (pureV_ok tab_ok rfl qE) ?_
    refine' WG.y rfl rfl (by decide) (Yl.loadG tab_ok rfl rfl rfl qE ?r5 rfl ?h5 ?g5) ?_
    case r5 => apply Rd.addC; (exact Rd.blkC 0 rfl)
    case h5 => rfl
    case g5 => exact fun _ => trivial
    refine WG.y rfl rfl (by decide) (pureV_ok tab_ok rfl qE) ?_
    refine WG.y rfl rfl (by decide) (Yl.por rfl rfl rfl (fun _ => rfl) (by intro h1 h2; simp_all <;> omega)) ?_
    refine WG.nil ?_
    refine WE.nxt ?_
    refine W.cond rfl (fun hc1 => ?_) (fun hc1 => ?_)
    · try simp only [decide_eq_true_eq, decide_eq_false_iff_not, beq_iff_eq, bne_iff_ne, beq_eq_false_iff_ne, bne_eq_false_iff_eq, ne_eq, Bool.or_eq_true, Bool.or_eq_false_iff, Bool.and_eq_true, Bool.and_eq_false_imp, Bool.not_eq_true, Bool.not_eq_true', Bool.not_eq_false', Classical.not_not, Int.not_lt, Int.not_le, gt_iff_lt, ge_iff_le] at hc1
      have hno : zOk z = false := by
        rw [← Bool.not_eq_true]
        intro h
        have := zOk_iff.1 h _ (nth_mem hil)
        omega
      refine W.seq ?_
      refine W.region _ ?_
      refine WG.run tab_ok 1 rfl ?_
      refine WG.nil ?_
      refine WE.nxt ?_
      refine W.ret ?_
      refine WE.blk_ret ?_
      refine WE.then_ret ?_
      refine WE.then_ret ?_
      refine WE.blk_ret ?_
      refine WE.then_ret ?_
      refine WE.subE (E' := E) qS ?_
      refine WE.retF tab_ok [_] rfl ⟨rfl, trivial⟩ (RLe.refl _) ?_
      exact ⟨by rw [hno]; rfl, rfl⟩
    · try simp only [decide_eq_true_eq, decide_eq_false_iff_not, beq_iff_eq, bne_iff_ne, beq_eq_false_iff_ne, bne_eq_false_iff_eq, ne_eq, Bool.or_eq_true, Bool.or_eq_false_iff, Bool.and_eq_true, Bool.and_eq_false_imp, Bool.not_eq_true, Bool.not_eq_true', Bool.not_eq_false', Classical.not_not, Int.not_lt, Int.not_le, gt_iff_lt, ge_iff_le] at hc1
      have hy : 0 ≤ (nth z i).least ∧ (nth z i).least ≤ (nth z i).most ∧ (nth z i).most ≤ 1500 := by omega
      refine W.skip ?_
      refine WE.blk _ ?_
      refine WE.nxt ?_
      refine W.region _ ?_
      refine WG.y rfl rfl (by decide) (Yl.add rfl rfl rfl (fun _ => rfl) (by intro _; constructor <;> (try dsimp only) <;> omega)) ?_
      refine WG.run tab_ok 1 rfl ?_
      refine WG.nil ?_
      refine WE.again (i + 1) (⟨by omega, fun j hj => by
        by_cases e : j = i
        · subst e; exact hy
        · exact hst.2 j (by omega)⟩) (by (try dsimp only); omega) ⟨rfl, rfl, rfl, rfl⟩ (RLe.refl _) qS
  · try dsimp only at hc0
    refine W.exit ?_
    refine WE.then_exit ?_
    refine WE.then_exit ?_
    refine WE.blk_exit ?_
    refine WE.nxt ?_
    refine W.seq ?_
    refine W.region _ ?_
    refine WG.run tab_ok 1 rfl ?_
    refine WG.nil ?_
    refine WE.nxt ?_
    refine W.ret ?_
    refine WE.subE (E' := E) qS ?_
    refine WE.retF tab_ok [_] rfl ⟨rfl, trivial⟩ (RLe.refl _) ?_
    exact ⟨by rw [zOk_iff.2 (all_of_nth (fun j hj => hst.2 j (by omega)))]; rfl, rfl⟩

theorem CheckP_V {R : Ro} {za : Option Addr} {zc : Nat} {z : List Sz} {cap cls : Int} (hzr : RS R 2 encZ za z) : FnV Tryz.prog 109 [.int .i64 cap, .int .i64 cls, .slice za z.length zc] R (.int .i64 (chk18 cap cls z)) := by
  have hla := hzr.len
  refine Fn.toV (fun w0 E => ?_)
  refine Fn.enter (n := 38) Tryz.func109 rfl rfl (Nat.le_of_ble_eq_true rfl) rfl ?_
  refine W.seq ?_
  refine W.region _ ?_
  refine WG.run tab_ok 1 rfl ?_
  refine WG.nil ?_
  refine WE.nxt ?_
  refine W.seq ?_
  refine W.seq ?_
  refine W.region _ ?_
  refine WG.run tab_ok 3 rfl ?_
  refine WG.y rfl rfl (by decide) (pureV_ok tab_ok rfl qE) ?_
  refine WG.y rfl rfl (by decide) (pureV_ok tab_ok rfl qE) ?_
  refine WG.y rfl rfl (by decide) (Yl.por rfl rfl rfl (fun _ => rfl) (by intro h1 h2; simp_all <;> omega)) ?_
  refine WG.run tab_ok 1 rfl ?_
  refine WG.y rfl rfl (by decide) (pureV_ok tab_ok rfl qE) ?_
  refine WG.y rfl rfl (by decide) (pureV_ok tab_ok rfl qE) ?_
  refine WG.y rfl rfl (by decide) (pureV_ok tab_ok rfl qE) ?_
  refine WG.y rfl rfl (by decide) (Yl.por rfl rfl rfl (fun _ => rfl) (by intro h1 h2; simp_all <;> omega)) ?_
  refine WG.run tab_ok 1 rfl ?_
  refine WG.y rfl rfl (by decide) (pureV_ok tab_ok rfl qE) ?_
  refine WG.y rfl rfl (by decide) (pureV_ok tab_ok rfl qE) ?_
  refine WG.y rfl rfl (by decide) (pureV_ok tab_ok rfl qE) ?_
  refine WG.y rfl rfl (by decide) (Yl.por rfl rfl rfl (fun _ => rfl) (by intro h1 h2; simp_all <;> omega)) ?_
  refine WG.run tab_ok 1 rfl ?_
  refine WG.y rfl rfl (by decide) (pureV_ok tab_ok rfl qE) ?_
  refine WG.callV en149 rfl rfl (by decide) (CallOp.mk' rfl rfl rfl rfl) qE (fun hg => RightP_V hzr) ?_
  refine WG.y rfl rfl (by decide) (pureV_ok tab_ok rfl qE) ?_
  refine WG.y rfl rfl (by decide) (Yl.por rfl rfl rfl (fun _ => rfl) (by intro h1 h2; simp_all <;> omega)) ?_
  refine WG.run tab_ok 1 rfl ?_
  refine WG.y rfl rfl (by decide) (pureV_ok tab_ok rfl qE) ?_
  refine WG.y rfl rfl (by decide) (pureV_ok tab_ok rfl qE) ?_
  refine WG.y rfl rfl (by decide) (Yl.por rfl rfl rfl (fun _ => rfl) (by intro h1 h2; simp_all <;> omega)) ?_
  refine WG.run tab_ok 1 rfl ?_
  refine WG.y rfl rfl (by decide) (pureV_ok tab_ok rfl qE) ?_
  refine WG.y rfl rfl (by decide) (pureV_ok tab_ok rfl qE) ?_
  refine WG.y rfl rfl (by decide) (pureV_ok tab_ok rfl qE) ?_
  refine WG.y rfl rfl (by decide) (pureV_ok tab_ok rfl qE) ?_
  refine WG.y rfl rfl (by decide) (Yl.por rfl rfl rfl (fun _ => rfl) (by intro h1 h2; simp_all <;> omega)) ?_
  refine WG.nil ?_
  refine WE.nxt ?_
  refine W.cond rfl (fun hc0 => ?_) (fun hc0 => ?_)
  · try simp only [decide_eq_true_eq, decide_eq_false_iff_not, beq_iff_eq, bne_iff_ne, beq_eq_false_iff_ne, bne_eq_false_iff_eq, ne_eq, Bool.or_eq_true, Bool.or_eq_false_iff, Bool.and_eq_true, Bool.and_eq_false_imp, Bool.not_eq_true, Bool.not_eq_true', Bool.not_eq_false', Classical.not_not, Int.not_lt, Int.not_le, gt_iff_lt, ge_iff_le] at hc0
    have e : chk18 cap cls z = 2 := if_pos (by
      rcases hc0 with (((((h|h)|h)|h)|h)|h)|h
      · exact .inl h
      · exact .inr (.inl h)
      · exact .inr (.inr (.inl h))
      · exact .inr (.inr (.inr (.inl h)))
      · exact .inr (.inr (.inr (.inr (.inl h))))
      · exact .inr (.inr (.inr (.inr (.inr (.inl h)))))
      · exact .inr (.inr (.inr (.inr (.inr (.inr h))))))
    refine W.seq ?_
    refine W.region _ ?_
    refine WG.run tab_ok 1 rfl ?_
    refine WG.nil ?_
    refine WE.nxt ?_
    refine W.ret ?_
    refine WE.then_ret ?_
    refine WE.subE (E' := E) qS ?_
    refine WE.retF tab_ok [_] rfl ⟨rfl, trivial⟩ (RLe.refl _) ?_
    exact ⟨by rw [e]; rfl, rfl⟩
  · try simp only [decide_eq_true_eq, decide_eq_false_iff_not, beq_iff_eq, bne_iff_ne, beq_eq_false_iff_ne, bne_eq_false_iff_eq, ne_eq, Bool.or_eq_true, Bool.or_eq_false_iff, Bool.and_eq_true, Bool.and_eq_false_imp, Bool.not_eq_true, Bool.not_eq_true', Bool.not_eq_false', Classical.not_not, Int.not_lt, Int.not_le, gt_iff_lt, ge_iff_le] at hc0
    have e : chk18 cap cls z = 0 := if_neg (by
      rintro (h|h|h|h|h|h|h) <;> first | omega | (simp_all; done))
    refine W.skip ?_
    refine WE.nxt ?_
    refine W.seq ?_
    refine W.region _ ?_
    refine WG.run tab_ok 1 rfl ?_
    refine WG.nil ?_
    refine WE.nxt ?_
    refine W.ret ?_
    refine WE.subE (E' := E) qS ?_
    refine WE.retF tab_ok [_] rfl ⟨rfl, trivial⟩ (RLe.refl _) ?_
    exact ⟨by rw [e]; rfl, rfl⟩

end Go.Proofs.YtlgjkmebpnnphaaGreat

/- Chapter 21: rooms, checks and runs. No condition. -/
set_option maxRecDepth 4000
set_option linter.unusedSimpArgs false
set_option linter.unusedVariables false
namespace Go.Proofs.YtlgjkmebpnnphaaGreat
open Go Go.RowKit Go.Proofs.YtlgjkmebpnnphaaGreat.K Go.Proofs.YtlgjkmebpnnphaaGreat.M

end Go.Proofs.YtlgjkmebpnnphaaGreat

/- Chapter 21: runs of the reference. No condition. -/
set_option maxRecDepth 4000
set_option linter.unusedSimpArgs false
set_option linter.unusedVariables false
namespace Go.Proofs.YtlgjkmebpnnphaaGreat
open Go Go.RowKit Go.Proofs.YtlgjkmebpnnphaaGreat.K Go.Proofs.YtlgjkmebpnnphaaGreat.M

end Go.Proofs.YtlgjkmebpnnphaaGreat

/- Chapter 21: runs of both for any input. No condition. -/
set_option maxRecDepth 4000
set_option linter.unusedSimpArgs false
set_option linter.unusedVariables false
namespace Go.Proofs.YtlgjkmebpnnphaaGreat
open Go Go.RowKit Go.Proofs.YtlgjkmebpnnphaaGreat.K Go.Proofs.YtlgjkmebpnnphaaGreat.M

end Go.Proofs.YtlgjkmebpnnphaaGreat

/- Chapter 22: the runs of time slots. No condition. -/
set_option maxRecDepth 4000
set_option linter.unusedSimpArgs false
set_option linter.unusedVariables false
namespace Go.Proofs.YtlgjkmebpnnphaaGreat
open Go Go.RowKit Go.Proofs.YtlgjkmebpnnphaaGreat.K Go.Proofs.YtlgjkmebpnnphaaGreat.M


theorem TimesM_C {R : Ro} {pa wa : Option Addr} {pc wc l : Nat} {ps : List Pkt} {tb : List Int} {cap n ticks : Int} {b2 b3 : Nat} (hp : RS R 3 encP pa ps) (hl : ps.length = l) (hwr : RS R 1 encI wa tb) (h3 : R b3 = some [.slice wa tb.length wc]) (h2 : R b2 = some [.int .i64 cap]) (hl0 : lrunE cap n ticks ps = 0) (ht : 1 ≤ tb.length ∧ tb.length ≤ 40) (w0 : World) (E : List Ent) :
    K.Fn Tryz.prog 198 [.int .i64 cap, .int .i64 n, .slice pa l pc, .int .i64 ticks, .func (.func 254) #[] #[.pointer (some ⟨b3, 0, none⟩), .pointer (some ⟨b2, 0, none⟩)]] w0 R E
      (RunV ((mrun ps (slotCh ps cap tb) cap n.toNat ticks.toNat ()).done, (mrun ps (slotCh ps cap tb) cap n.toNat ticks.toNat ()).sent) E (fun r => r)) := by
  subst hl
  obtain ⟨hok, hvv, hck, c1, c2, c3, c4, c5, c6, hs, hf⟩ := lrunE_ok hl0
  obtain ⟨nt, rfl⟩ := Int.eq_ofNat_of_zero_le c5
  obtain ⟨nc, rfl⟩ := Int.eq_ofNat_of_zero_le (show 0 ≤ n by omega)
  simp only [Int.toNat_natCast]
  have hlw := hwr.len
  have hrun := MRun_C (pc := pc) (g := 254) (first := #[]) (capd := #[.pointer (some ⟨b3, 0, none⟩), .pointer (some ⟨b2, 0, none⟩)]) (ch := slotCh ps cap tb) (good := fun ms _ => goodB ps ms) (classes := nc) (cap := cap) (ticks := nt) (X := fun _ => []) (sg := ()) w0 hp (slot_fair hok.sorted).toGood ⟨by have := hok.len; omega, fun p hp => by have := hs p hp; have := hf p hp; omega⟩ (slot_start _) (by omega) (by omega) (by omega) en254 (fun sb bg ms sg F hgd hbl l1 l2 n1 n2 => Slot1_C w0 hp hbl hok.sorted hwr h3 h2 (by omega) (by omega) (by omega) hgd (by omega) (by omega) F) E
  simp only [List.nil_append] at hrun
  intro x hm
  refine (hrun x hm).mono ?_
  rintro e w' ⟨v, R', E', rfl, hR, hm', rows, gd, go, s, rfl, rfl, rfl, h1, h2, h3, hsub⟩
  have hm1 := hm'.sub (RLe.refl _) hsub
  obtain ⟨R1, g1, g2, g3⟩ := hm1.freeze (i := 0) (enc := encI) (xs := (mrun ps (slotCh ps cap tb) cap nc nt ()).done) rfl
  obtain ⟨R2, k1, k2, k3⟩ := g3.freeze (i := 0) (enc := encS) (xs := rows) rfl
  obtain ⟨R3, j1, j2, j3⟩ := Mem.freezeRows (rows := rows) (G := E) k3
  have hdl := h3.done
  have hlr : rows.length = nc := by rw [← h3.sent, ← h1, List.length_map]
  have hcapp := Mem.rowsCap (rows := rows) (G := E) k3
  refine ⟨_, R3, E, rfl, g1.trans (k1.trans j1), j3, some ⟨gd, 0, none⟩, some ⟨go, 0, none⟩, ps.length, nc, rows, ?_, g2.mono (k1.trans j1), k2.mono j1, j2, h1, hcapp, List.Sublist.refl _⟩
  dsimp only; rw [hdl, hlr]

theorem RunTimes_C {R : Ro} {pa : Option Addr} {pc l : Nat} {ps : List Pkt} (hp : RS R 3 encP pa ps) (hl : ps.length = l) {ticks : Int} {aw at_ : Option Addr} {lw cw lt ct : Nat} {L : Ln} (hw : RS R 1 encI aw L.w) (hlw : L.w.length = lw) (ht : RS R 1 encI at_ L.tb) (hlt : L.tb.length = lt) (hn : 1 ≤ L.n ∧ L.n ≤ 6) (hk : L.kind = 5) (htb : 1 ≤ L.tb.length ∧ L.tb.length ≤ 40) (w0 : World) (E : List Ent) : K.Fn Tryz.prog 246 [.agg #[], .agg #[.int .i64 L.kind, .int .i64 L.cap, .int .i64 L.n, .slice aw lw cw, .slice at_ lt ct], .slice pa l pc, .int .i64 ticks] w0 R E (RunV (runL L ticks ps) E (fun r => .tuple #[r, .int .i64 (runE L ticks ps)])) := by
  subst hl
  subst hlt
  have hla := hp.len
  have e0 : runE L ticks ps = lrunE L.cap L.n ticks ps := by simp [runE, hk]
  refine Fn.enter (n := 41) Tryz.func246 rfl rfl (Nat.le_of_ble_eq_true rfl) rfl ?_
  refine W.seq ?_
  refine W.region _ ?_
  refine WL.ef rfl rfl (by decide) (Ef.box rfl rfl (fun b4 => ?_))
  refine WL.ef rfl rfl (by decide) (Ef.box rfl rfl (fun b5 => ?_))
  refine WL.ef rfl rfl (by decide) (Ef.alloc tab_ok rfl rfl (fun b8 => ?_))
  refine WG.run tab_ok 1 rfl ?_
  refine WG.nil ?_
  refine WE.nxt ?_
  refine W.seq ?_
  refine W.seq ?_
  refine W.region _ ?_
  refine WG.run tab_ok 1 rfl ?_
  refine WG.callV en141 rfl rfl (by decide) (CallOp.mk' rfl rfl rfl rfl) (fun _ => rfl) (fun hg => Validate_V hp) ?_
  refine WG.run tab_ok 1 rfl ?_
  refine WG.nil ?_
  refine WE.nxt ?_
  refine W.seq ?_
  refine W.region _ ?_
  refine WG.run tab_ok 2 rfl ?_
  refine WG.nil ?_
  refine WE.nxt ?_
  refine W.condN rfl (fun hc0 => ?_) (fun hc0 => ?_)
  · try dsimp only at hc0
    have e : runE L ticks ps = validate ps := by rw [e0]; exact if_pos hc0
    have eo : runL L ticks ps = ([], []) := by unfold runL; rw [if_pos (by rw [e]; exact hc0)]
    refine W.seq ?_
    refine W.region _ ?_
    -- build
    refine WG.y rfl rfl (by decide) (Yl.build (parts := []) tab_ok rfl rfl rfl rfl (fun _ => rfl) rfl rfl) ?_
    refine WG.run tab_ok 1 rfl ?_
    refine WL.efN rfl rfl (Ef.store0 0 tab_ok rfl rfl rfl rfl rfl rfl rfl rfl ?_)
    refine WG.run tab_ok 1 rfl ?_
    refine WG.nil ?_
    refine WE.nxt ?_
    refine W.ret ?_
    refine WE.then_ret ?_
    refine WE.retF tab_ok [_, _] rfl ⟨⟨_, _, _, rfl, rfl, rfl, ((by first | exact Rd.blk 0 rfl | exact Rd.blk 1 rfl | exact Rd.blk 2 rfl | exact Rd.blk 3 rfl | exact Rd.blk 4 rfl | exact Rd.blk 5 rfl)), rfl⟩, rfl, trivial⟩ (by first | exact RLe.refl _ | exact hR9) ?_
    rw [eo, e]
    exact ⟨none, none, 0, 0, [], rfl, rs_nil, rs_nil, by simp, rfl, by simp, qS⟩
  · try dsimp only at hc0
    refine W.skip ?_
    refine WE.nxt ?_
    refine W.seq ?_
    refine W.seq ?_
    refine W.region _ ?_
    refine WG.run tab_ok 1 rfl ?_
    refine' WG.y rfl rfl (by decide) (Yl.load1 tab_ok rfl rfl rfl (fun _ => rfl) ?r1 rfl ?h1) ?_
    case r1 => apply Rd.add; (exact Rd.blk 1 rfl)
    case h1 => rfl
    refine WG.run tab_ok 1 rfl ?_
    refine' WG.y rfl rfl (by decide) (Yl.load1 tab_ok rfl rfl rfl (fun _ => rfl) ?r2 rfl ?h2) ?_
    case r2 => apply Rd.add; (exact Rd.blk 1 rfl)
    case h2 => rfl
    refine WG.run tab_ok 2 rfl ?_
    refine WG.callV en197 rfl rfl (by decide) (CallOp.mk' rfl rfl rfl rfl) (fun _ => rfl) (fun hg => Check_V hp) ?_
    refine WG.run tab_ok 1 rfl ?_
    refine WG.nil ?_
    refine WE.nxt ?_
    refine W.seq ?_
    refine W.region _ ?_
    refine WG.run tab_ok 2 rfl ?_
    refine WG.nil ?_
    refine WE.nxt ?_
    refine W.condN rfl (fun hc1 => ?_) (fun hc1 => ?_)
    · try dsimp only at hc1
      have e : runE L ticks ps = checkE L.cap L.n ticks ps := by rw [e0]; exact if_neg (fun h => h hc0)
      have eo : runL L ticks ps = ([], []) := by unfold runL; rw [if_pos (by rw [e]; exact hc1)]
      refine W.seq ?_
      refine W.region _ ?_
      -- build
      refine WG.y rfl rfl (by decide) (Yl.build (parts := []) tab_ok rfl rfl rfl rfl (fun _ => rfl) rfl rfl) ?_
      refine WG.run tab_ok 1 rfl ?_
      refine WL.efN rfl rfl (Ef.store0 0 tab_ok rfl rfl rfl rfl rfl rfl rfl rfl ?_)
      refine WG.run tab_ok 1 rfl ?_
      refine WG.nil ?_
      refine WE.nxt ?_
      refine W.ret ?_
      refine WE.then_ret ?_
      refine WE.retF tab_ok [_, _] rfl ⟨⟨_, _, _, rfl, rfl, rfl, ((by first | exact Rd.blk 0 rfl | exact Rd.blk 1 rfl | exact Rd.blk 2 rfl | exact Rd.blk 3 rfl | exact Rd.blk 4 rfl | exact Rd.blk 5 rfl)), rfl⟩, rfl, trivial⟩ (by first | exact RLe.refl _ | exact hR9) ?_
      rw [eo, e]
      exact ⟨none, none, 0, 0, [], rfl, rs_nil, rs_nil, by simp, rfl, by simp, qS⟩
    · try dsimp only at hc1
      have hl0 : lrunE L.cap L.n ticks ps = 0 := by unfold lrunE; rw [if_neg (fun h => h hc0)]; exact hc1
      have e : runE L ticks ps = 0 := by rw [e0]; exact hl0
      have eo : runL L ticks ps = ((mrun ps (slotCh ps L.cap L.tb) L.cap L.n.toNat ticks.toNat ()).done, (mrun ps (slotCh ps L.cap L.tb) L.cap L.n.toNat ticks.toNat ()).sent) := by unfold runL; rw [if_neg (by omega)]; simp [sendL, hk]
      refine W.skip ?_
      refine WE.nxt ?_
      refine W.seq ?_
      refine W.regionH _ (ES := (.blk b5 [.int .i64 L.kind, .int .i64 L.cap, .int .i64 L.n, .slice aw lw cw, .slice at_ L.tb.length ct] :: E)) mixed ?_
      refine WA.take 0 rfl (by kernel_rfl) (by kernel_rfl) (by kernel_rfl) rfl rfl (by decide) (pureV_ok tab_ok rfl (fun _ => rfl)) qS (by first | exact RLe.refl _ | assumption) ?_
      refine' WA.take 1 rfl (by kernel_rfl) (by kernel_rfl) (by kernel_rfl) rfl rfl (by decide) (Yl.load1 tab_ok rfl rfl rfl (fun _ => rfl) ?r3 rfl ?h3) qS (by first | exact RLe.refl _ | assumption) ?_
      case r3 => apply Rd.add; (exact Rd.blk 0 rfl)
      case h3 => rfl
      refine WA.take 2 rfl (by kernel_rfl) (by kernel_rfl) (by kernel_rfl) rfl rfl (by decide) (pureV_ok tab_ok rfl (fun _ => rfl)) qS (by first | exact RLe.refl _ | assumption) ?_
      refine' WA.take 3 rfl (by kernel_rfl) (by kernel_rfl) (by kernel_rfl) rfl rfl (by decide) (Yl.load1 tab_ok rfl rfl rfl (fun _ => rfl) ?r4 rfl ?h4) qS (by first | exact RLe.refl _ | assumption) ?_
      case r4 => apply Rd.add; (exact Rd.blk 0 rfl)
      case h4 => rfl
      refine WA.take 4 rfl (by kernel_rfl) (by kernel_rfl) (by kernel_rfl) rfl rfl (by decide) (pureV_ok tab_ok rfl (fun _ => rfl)) qS (by first | exact RLe.refl _ | assumption) ?_
      refine WA.take 5 rfl (by kernel_rfl) (by kernel_rfl) (by kernel_rfl) rfl rfl (by decide) (pureV_ok tab_ok rfl (fun _ => rfl)) qS (by first | exact RLe.refl _ | assumption) ?_
      refine WA.take 6 rfl (by kernel_rfl) (by kernel_rfl) (by kernel_rfl) rfl rfl (by decide) (pureV_ok tab_ok rfl (fun _ => rfl)) qS (by first | exact RLe.refl _ | assumption) ?_
      refine' WA.take 7 rfl (by kernel_rfl) (by kernel_rfl) (by kernel_rfl) rfl rfl (by decide) (Yl.load1 tab_ok rfl rfl rfl (fun _ => rfl) ?r5 rfl ?h5) qS (by first | exact RLe.refl _ | assumption) ?_
      case r5 => apply Rd.add; (exact Rd.blk 0 rfl)
      case h5 => rfl
      refine WA.take 8 rfl (by kernel_rfl) (by kernel_rfl) (by kernel_rfl) rfl rfl (by decide) (pureV_ok tab_ok rfl (fun _ => rfl)) qS (by first | exact RLe.refl _ | assumption) ?_
      refine' WA.take 9 rfl (by kernel_rfl) (by kernel_rfl) (by kernel_rfl) rfl rfl (by decide) (Yl.load1 tab_ok rfl rfl rfl (fun _ => rfl) ?r6 rfl ?h6) qS (by first | exact RLe.refl _ | assumption) ?_
      case r6 => apply Rd.add; (exact Rd.blk 0 rfl)
      case h6 => rfl
      refine WA.callG 10 rfl (by kernel_rfl) en248 rfl (by first | rfl | decide) rfl (by decide) (CallOp.mkT rfl rfl rfl rfl) (SlotsMk_C w0 _) ?_
      rintro _ _ _ - ⟨b2, b3, rfl, rfl, rfl⟩
      refine ⟨by first | exact RLe.refl _ | assumption, qS, ?_⟩
      refine WA.freezeBlk 0 rfl (fun R1 hR1 h3 => ?_)
      refine WA.freezeBlk 0 rfl (fun R2 hR2 h2 => ?_)
      have hR9 := hR1.trans hR2
      refine WA.callG 11 rfl (by kernel_rfl) en198 rfl (by first | rfl | decide) rfl (by decide) (CallOp.mkT rfl rfl rfl rfl) (TimesM_C (hp.mono hR9) rfl (ht.mono hR9) (hR2 _ _ h3) h2 hl0 htb w0 _) ?_
      rintro _ R3 E3 hR3 ⟨da, oa, dc, oc, rows, rfl, hd, ho, hrw, hrx, hcp, hsub⟩
      have hR9 := hR9.trans hR3
      refine ⟨hR9, (by refine List.Sublist.trans ?_ hsub; (repeat (first | exact List.Sublist.refl _ | exact List.nil_sublist _ | apply List.Sublist.cons_cons | apply List.Sublist.cons)); done), ?_⟩
      refine WA.subE hsub ?_
      rw [← eo] at hd hrx
      rw [← eo]
      refine WA.effN 12 rfl (by kernel_rfl) rfl rfl (Ef.store0 0 tab_ok rfl rfl rfl rfl rfl rfl rfl rfl ?_)
      refine ⟨by first | exact RLe.refl _ | assumption, qS, ?_⟩
      refine WA.take 13 rfl (by kernel_rfl) (by kernel_rfl) (by kernel_rfl) rfl rfl (by decide) (pureV_ok tab_ok rfl (fun _ => rfl)) qS (by first | exact RLe.refl _ | assumption) ?_
      refine WA.done (by kernel_rfl) ?_
      refine WE.nxt ?_
      refine W.ret ?_
      refine WE.retF tab_ok [_, _] rfl ⟨⟨_, _, _, rfl, rfl, rfl, ((by first | exact Rd.blk 0 rfl | exact Rd.blk 1 rfl | exact Rd.blk 2 rfl | exact Rd.blk 3 rfl | exact Rd.blk 4 rfl | exact Rd.blk 5 rfl)), rfl⟩, rfl, trivial⟩ (by first | exact RLe.refl _ | exact hR9) ?_
      rw [e]
      exact ⟨da, oa, dc, oc, rows, rfl, hd, ho, hrw, hrx, hcp, qS⟩

end Go.Proofs.YtlgjkmebpnnphaaGreat

/- Chapter 22: server.Run. No condition. -/
set_option maxRecDepth 4000
set_option linter.unusedSimpArgs false
set_option linter.unusedVariables false
namespace Go.Proofs.YtlgjkmebpnnphaaGreat
open Go Go.RowKit Go.Proofs.YtlgjkmebpnnphaaGreat.K Go.Proofs.YtlgjkmebpnnphaaGreat.M


theorem run_any {R : Ro} {pa : Option Addr} {pc l : Nat} {ps : List Pkt} (hp : RS R 3 encP pa ps) (hl : ps.length = l) {ticks : Int} {aw at_ : Option Addr} {lw cw lt ct : Nat} {L : Ln} (hw : RS R 1 encI aw L.w) (hlw : L.w.length = lw) (ht : RS R 1 encI at_ L.tb) (hlt : L.tb.length = lt) (h0 : chkL L = 0) (w0 : World) (E : List Ent) :
    ∃ (T f : Nat), kindI L.kind = .iface T (.agg #[]) ∧ Meth Tryz.prog T (.agg #[]) "netcalculus/server.run" f [.agg #[.int .i64 L.kind, .int .i64 L.cap, .int .i64 L.n, .slice aw lw cw, .slice at_ lt ct], .slice pa l pc, .int .i64 ticks] ∧ K.Fn Tryz.prog f [.agg #[], .agg #[.int .i64 L.kind, .int .i64 L.cap, .int .i64 L.n, .slice aw lw cw, .slice at_ lt ct], .slice pa l pc, .int .i64 ticks] w0 R E (RunV (runL L ticks ps) E (fun r => .tuple #[r, .int .i64 (runE L ticks ps)])) := by
  have hf := chk_facts h0
  have hn : 1 ≤ L.n ∧ L.n ≤ 6 := ⟨hf.2.2.2.1, hf.2.2.2.2.1⟩
  rcases (show L.kind = 1 ∨ L.kind = 2 ∨ L.kind = 3 ∨ L.kind = 4 ∨ L.kind = 5 by omega) with h | h | h | h | h
  · exact ⟨_, _, by unfold kindI; rw [h]; rfl, meth_run1 _ _ _, RunFifo_C hp hl hw hlw ht hlt hn h  w0 E⟩
  · exact ⟨_, _, by unfold kindI; rw [h]; rfl, meth_run2 _ _ _, RunRanks_C hp hl hw hlw ht hlt hn h  w0 E⟩
  · exact ⟨_, _, by unfold kindI; rw [h]; rfl, meth_run3 _ _ _, RunRobin_C hp hl hw hlw ht hlt hn h (chk_rob h0 h).1 w0 E⟩
  · exact ⟨_, _, by unfold kindI; rw [h]; rfl, meth_run4 _ _ _, RunDef_C hp hl hw hlw ht hlt hn h (chk_def h0 h).1 w0 E⟩
  · exact ⟨_, _, by unfold kindI; rw [h]; rfl, meth_run5 _ _ _, RunTimes_C hp hl hw hlw ht hlt hn h (chk_times h0 h).1 w0 E⟩

theorem RunSrv_C {R : Ro} {pa : Option Addr} {pc l : Nat} {ps : List Pkt} (hp : RS R 3 encP pa ps) (hl : ps.length = l) {ticks : Int} {aw at_ : Option Addr} {lw cw lt ct : Nat} {L : Ln} (hw : RS R 1 encI aw L.w) (hlw : L.w.length = lw) (ht : RS R 1 encI at_ L.tb) (hlt : L.tb.length = lt) (w0 : World) (E : List Ent) : K.Fn Tryz.prog 16 [.agg #[.int .i64 L.kind, .int .i64 L.cap, .int .i64 L.n, .slice aw lw cw, .slice at_ lt ct], .slice pa l pc, .int .i64 ticks] w0 R E (RunV (srvL L ticks ps) E (fun r => .tuple #[r, .int .i64 (srvE L ticks ps)])) := by
  refine Fn.enter (n := 30) Tryz.func16 rfl rfl (Nat.le_of_ble_eq_true rfl) rfl ?_
  refine W.seq ?_
  refine W.region _ ?_
  refine WL.ef rfl rfl (by decide) (Ef.box rfl rfl (fun b3 => ?_))
  refine WL.ef rfl rfl (by decide) (Ef.alloc tab_ok rfl rfl (fun b6 => ?_))
  refine WG.run tab_ok 1 rfl ?_
  refine WG.nil ?_
  refine WE.nxt ?_
  refine W.seq ?_
  refine W.seq ?_
  refine W.region _ ?_
  refine' WG.y rfl rfl (by decide) (Yl.load1 tab_ok rfl rfl rfl (fun _ => rfl) ?r1 rfl ?h1) ?_
  case r1 => (exact Rd.blk 1 rfl)
  case h1 => rfl
  refine WG.callV en26 rfl rfl (by decide) (CallOp.mk' rfl rfl rfl rfl) (fun _ => rfl) (fun hg => ChkSrv_V hw hlw ht hlt) ?_
  refine WG.run tab_ok 1 rfl ?_
  refine WG.nil ?_
  refine WE.nxt ?_
  refine W.seq ?_
  refine W.region _ ?_
  refine WG.run tab_ok 2 rfl ?_
  refine WG.nil ?_
  refine WE.nxt ?_
  refine W.condN rfl (fun hc0 => ?_) (fun hc0 => ?_)
  · try dsimp only at hc0
    have e : srvE L ticks ps = chkL L := if_pos hc0
    have eo : srvL L ticks ps = ([], []) := if_pos hc0
    refine W.seq ?_
    refine W.region _ ?_
    -- build
    refine WG.y rfl rfl (by decide) (Yl.build (parts := []) tab_ok rfl rfl rfl rfl (fun _ => rfl) rfl rfl) ?_
    refine WG.run tab_ok 1 rfl ?_
    refine WL.efN rfl rfl (Ef.store0 0 tab_ok rfl rfl rfl rfl rfl rfl rfl rfl ?_)
    refine WG.run tab_ok 1 rfl ?_
    refine WG.nil ?_
    refine WE.nxt ?_
    refine W.ret ?_
    refine WE.then_ret ?_
    refine WE.retF tab_ok [_, _] rfl ⟨⟨_, _, _, rfl, rfl, rfl, ((by first | exact Rd.blk 0 rfl | exact Rd.blk 1 rfl | exact Rd.blk 2 rfl | exact Rd.blk 3 rfl | exact Rd.blk 4 rfl | exact Rd.blk 5 rfl)), rfl⟩, rfl, trivial⟩ (by first | exact RLe.refl _ | exact hR2) ?_
    rw [eo, e]
    exact ⟨none, none, 0, 0, [], rfl, rs_nil, rs_nil, by simp, rfl, by simp, qS⟩
  · try dsimp only at hc0
    have e : srvE L ticks ps = runE L ticks ps := if_neg (fun h => h hc0)
    have eo : srvL L ticks ps = runL L ticks ps := if_neg (fun h => h hc0)
    refine W.skip ?_
    refine WE.nxt ?_
    refine W.seq ?_
    refine W.region _ ?_
    refine WG.run tab_ok 1 rfl ?_
    refine' WG.y rfl rfl (by decide) (Yl.load1 tab_ok rfl rfl rfl (fun _ => rfl) ?r2 rfl ?h2) ?_
    case r2 => apply Rd.add; (exact Rd.blk 1 rfl)
    case h2 => rfl
    refine WG.callV en52 rfl rfl (by decide) (CallOp.mk' rfl rfl rfl rfl) (fun _ => rfl) (fun hg => Kind_V L.kind) ?_
    refine WG.run tab_ok 5 rfl ?_
    refine WG.nil ?_
    refine WE.nxt ?_
    obtain ⟨T9, f9, e9, m9, v9⟩ := run_any (R := R) (pc := pc) (lw := lw) (lt := lt) (cw := cw) (ct := ct) (ticks := ticks) hp hl hw hlw ht hlt hc0 w0 (.blk b6 [.slice none 0 0, .slice none 0 0] :: .blk b3 [.int .i64 L.kind, .int .i64 L.cap, .int .i64 L.n, .slice aw lw cw, .slice at_ lt ct] :: E)
    rw [e9]
    refine W.seq ?_
    refine W.region _ ?_
    refine WG.run tab_ok 1 rfl ?_
    refine' WG.y rfl rfl (by decide) (Yl.load1 tab_ok rfl rfl rfl (fun _ => rfl) ?r3 rfl ?h3) ?_
    case r3 => (exact Rd.blk 1 rfl)
    case h3 => rfl
    refine WG.run tab_ok 2 rfl ?_
    refine WL.callI (args := [.tmp 24, .tmp 25, .tmp 26]) rfl rfl rfl (by decide) rfl rfl (m9) (v9) ?_
    rintro _ R2 E2 hR2 ⟨da, oa, dc, oc, rows, rfl, hd, ho, hrw, hrx, hcp, hsub⟩
    refine WL.subE hsub ?_
    rw [← eo] at hd hrx
    rw [← eo]
    refine WG.run tab_ok 2 rfl ?_
    refine WL.efN rfl rfl (Ef.store0 0 tab_ok rfl rfl rfl rfl rfl rfl rfl rfl ?_)
    refine WG.run tab_ok 1 rfl ?_
    refine WG.nil ?_
    refine WE.nxt ?_
    refine W.ret ?_
    refine WE.retF tab_ok [_, _] rfl ⟨⟨_, _, _, rfl, rfl, rfl, ((by first | exact Rd.blk 0 rfl | exact Rd.blk 1 rfl | exact Rd.blk 2 rfl | exact Rd.blk 3 rfl | exact Rd.blk 4 rfl | exact Rd.blk 5 rfl)), rfl⟩, rfl, trivial⟩ (by first | exact RLe.refl _ | exact hR2) ?_
    rw [e]
    exact ⟨da, oa, dc, oc, rows, rfl, hd, ho, hrw, hrx, hcp, qS⟩

end Go.Proofs.YtlgjkmebpnnphaaGreat

/- An operation without a value, one of several that may come up. No condition. -/
namespace Go.Proofs.YtlgjkmebpnnphaaGreat.K
open Go Go.RowKit
variable {P : Program} {T : Tab} {n : Nat} {env : Env} {w0 : World} {R : Ro} {E : List Ent} {Q : Exit → Act → World → Prop}
variable {ops : List Oper} {o : Oper} {ES : List Ent} {R0 : Ro} {fuel : Nat} {listed : Array Bool}
theorem WS.effN {i : Nat} (hi : ops.toArray[i]? = some o) (hg : o.guard = none) (hd : o.dst = none)
    (h : Ef P n env w0 R E o fun _ R' E' => RLe R0 R' ∧ ES.Sublist E' ∧ WA P ops Q ES R0 w0 fuel (listed.setIfInBounds i true) n env R' E') : WS P ops Q ES R0 w0 fuel listed n env R E i := by
  intro a w hk hm
  unfold wpOp
  rw [hi]
  simp only [Region.wanted, hg, if_true]
  left
  obtain ⟨v, w', R', E', hrun, hm', hR', hsub', hn⟩ := h a w hk hm
  unfold Oper.wp
  rcases hrun with hrun | ⟨hrun, rfl⟩
  · rw [hrun]; simp only [Oper.upon, hd]; exact ⟨hm'.sub hR' hsub', hn _ _ hk hm'⟩
  · rw [hrun]; simp only [Oper.upon, hd]; exact ⟨hm'.sub hR' hsub', hn _ _ hk hm'⟩
end Go.Proofs.YtlgjkmebpnnphaaGreat.K

/- Finite curves: values, gains, validity. No condition. -/
set_option maxRecDepth 4000
set_option linter.unusedSimpArgs false
set_option linter.unusedVariables false
namespace Go.Proofs.YtlgjkmebpnnphaaGreat
open Go Go.RowKit Go.Proofs.YtlgjkmebpnnphaaGreat.K Go.Proofs.YtlgjkmebpnnphaaGreat.M

theorem WAt_V {R : Ro} {fa : Option Addr} {fc : Nat} {F : Nat → Int} {S P : Nat} {I : Int} (hf : FC F S P I) (ha : RS R 1 encI fa (fvals F (S + P))) {t : Nat} (ht : t ≤ 1000000000000000000) (hG : F t ≤ 4000000000000000000) : FnV Tryz.prog 116 [.agg #[.slice fa (fvals F (S + P)).length fc, .int .i64 (P : Int), .int .i64 I], .int .i64 (t : Int)] R (.int .i64 (F t)) := by
  have hfl := fvals_len F (S + P)
  have hP := hf.hP
  have hn := hf.hn
  have hI := hf.hI
  refine Fn.toV (fun w0 E => ?_)
  refine Fn.enter (n := 45) Tryz.func116 rfl rfl (Nat.le_of_ble_eq_true rfl) rfl ?_
  refine W.seq ?_
  refine W.region _ ?_
  refine WL.ef rfl rfl (by decide) (Ef.box rfl rfl (fun b2 => ?_))
  refine WG.run tab_ok 1 rfl ?_
  refine WG.nil ?_
  refine WE.nxt ?_
  refine W.seq ?_
  refine W.region _ ?_
  refine WG.run tab_ok 1 rfl ?_
  refine' WG.y rfl rfl (by decide) (Yl.load1 tab_ok rfl rfl rfl (fun _ => rfl) ?r1 rfl ?h1) ?_
  case r1 => apply Rd.add; (exact Rd.blk 0 rfl)
  case h1 => rfl
  refine WG.run tab_ok 2 rfl ?_
  refine WG.nil ?_
  refine WE.nxt ?_
  refine W.seq ?_
  refine W.seq ?_
  refine W.region _ ?_
  refine WG.run tab_ok 3 rfl ?_
  refine WG.nil ?_
  refine WE.nxt ?_
  refine W.condD rfl (fun hc0 => ?_) (fun hc0 => ?_)
  · try dsimp only at hc0
    have htl : t < S + P := by omega
    refine W.seq ?_
    refine W.region _ ?_
    refine WG.run tab_ok 1 rfl ?_
    refine' WG.y rfl rfl (by decide) (Yl.load1 tab_ok rfl rfl rfl (fun _ => rfl) ?r2 rfl ?h2) ?_
    case r2 => apply Rd.add; (exact Rd.blk 0 rfl)
    case h2 => rfl
    refine WG.run tab_ok 1 rfl ?_
    refine WG.y rfl rfl (by decide) (Yl.indexN tab_ok rfl rfl rfl rfl rfl rfl (fun _ => rfl) (by intro _; (try dsimp only) <;> omega) (by intro _; first | exact fun _ _ _ _ => rfl | exact RS.has (by assumption) | exact fun _ _ _ _ => (by assumption) | exact HasMem.ownD 0 rfl | exact HasMem.ownD 1 rfl)) ?_
    refine' WG.y rfl rfl (by decide) (Yl.load1 tab_ok rfl rfl rfl (fun _ => rfl) ?r3 rfl ?h3) ?_
    case r3 => ((apply RS.rdD; assumption; ((try dsimp only) <;> omega)))
    case h3 => rfl
    refine WG.run tab_ok 1 rfl ?_
    refine WG.nil ?_
    refine WE.nxt ?_
    refine W.ret ?_
    refine WE.then_ret ?_
    refine WE.subE (E' := E) qS ?_
    refine WE.retF tab_ok [_] rfl ⟨rfl, trivial⟩ (RLe.refl _) ?_
    exact ⟨by rw [fvals_nth F htl]; rfl, rfl⟩
  · try dsimp only at hc0
    obtain ⟨q, hq⟩ := Int.eq_ofNat_of_zero_le (show 0 ≤ ((t : Int) - ((fvals F (S + P)).length : Int)) / (P : Int) from Int.ediv_nonneg (by omega) (by omega))
    have hq1 : (q : Int) * P ≤ (t : Int) - (S + P : Nat) := by rw [← hfl, ← hq]; exact Int.ediv_mul_le _ (by omega)
    have hq2 : (t : Int) - (S + P : Nat) < P * (q : Int) + P := by rw [← hfl, ← hq]; exact Int.lt_mul_ediv_self_add (by omega)
    rw [Int.mul_comm] at hq2
    have hq3 : (q + 1) * P = q * P + P := by rw [Nat.add_mul]; omega
    have hq4 : ((q * P : Nat) : Int) = (q : Int) * P := by rw [Int.natCast_mul]
    have hq5 : ((q : Int) + 1) * (P : Int) = (((q + 1) * P : Nat) : Int) := by rw [Int.natCast_mul]; rfl
    have hqle : q ≤ t := Nat.le_trans (Nat.le_mul_of_pos_right q (show 0 < P by omega)) (by omega)
    have hgm := hf.hg.mul (q + 1) (t - (q + 1) * P) (by omega)
    rw [show t - (q + 1) * P + (q + 1) * P = t by omega, show ((q + 1 : Nat) : Int) = (q : Int) + 1 from rfl] at hgm
    have hF0 := hf.nonneg (t - (q + 1) * P)
    have hF1 := hf.fin (t := t - (q + 1) * P) (by omega)
    have hqI : 0 ≤ ((q : Int) + 1) * I := Int.mul_nonneg (by omega) (by omega)
    refine W.skip ?_
    refine WE.nxt ?_
    refine W.seq ?_
    refine W.region _ ?_
    refine WG.run tab_ok 2 rfl ?_
    refine WG.y rfl rfl (by decide) (Yl.sub rfl rfl rfl (fun _ => rfl) (by intro _; constructor <;> (try dsimp only) <;> omega)) ?_
    refine WG.run tab_ok 1 rfl ?_
    refine' WG.y rfl rfl (by decide) (Yl.load1 tab_ok rfl rfl rfl (fun _ => rfl) ?r4 rfl ?h4) ?_
    case r4 => apply Rd.add; (exact Rd.blk 0 rfl)
    case h4 => rfl
    refine WG.y rfl rfl (by decide) (Yl.quo rfl rfl rfl (fun _ => rfl) (by intro _; constructor <;> (try dsimp only) <;> omega) (by intro _; omega)) ?_
    refine WG.y rfl rfl (by decide) (Yl.add rfl rfl rfl (fun _ => rfl) (by intro _; constructor <;> (try dsimp only) <;> omega)) ?_
    refine WG.run tab_ok 1 rfl ?_
    refine WG.nil ?_
    refine WE.nxt ?_
    rw [hq]
    refine W.seq ?_
    refine W.region _ ?_
    refine WG.run tab_ok 1 rfl ?_
    refine' WG.y rfl rfl (by decide) (Yl.load1 tab_ok rfl rfl rfl (fun _ => rfl) ?r5 rfl ?h5) ?_
    case r5 => apply Rd.add; (exact Rd.blk 0 rfl)
    case h5 => rfl
    refine WG.run tab_ok 3 rfl ?_
    refine' WG.y rfl rfl (by decide) (Yl.load1 tab_ok rfl rfl rfl (fun _ => rfl) ?r6 rfl ?h6) ?_
    case r6 => apply Rd.add; (exact Rd.blk 0 rfl)
    case h6 => rfl
    refine WG.y rfl rfl (by decide) (Yl.mul rfl rfl rfl (fun _ => rfl) (by intro _; constructor <;> (try dsimp only) <;> omega)) ?_
    refine WG.y rfl rfl (by decide) (Yl.sub rfl rfl rfl (fun _ => rfl) (by intro _; constructor <;> (try dsimp only) <;> omega)) ?_
    rw [hq5, show (t : Int) - (((q + 1) * P : Nat) : Int) = ((t - (q + 1) * P : Nat) : Int) by omega]
    refine WG.y rfl rfl (by decide) (Yl.indexN tab_ok rfl rfl rfl rfl rfl rfl (fun _ => rfl) (by intro _; (try dsimp only) <;> omega) (by intro _; first | exact fun _ _ _ _ => rfl | exact RS.has (by assumption) | exact fun _ _ _ _ => (by assumption) | exact HasMem.ownD 0 rfl | exact HasMem.ownD 1 rfl)) ?_
    refine' WG.y rfl rfl (by decide) (Yl.load1 tab_ok rfl rfl rfl (fun _ => rfl) ?r7 rfl ?h7) ?_
    case r7 => ((apply RS.rdD; assumption; ((try dsimp only) <;> omega)))
    case h7 => rfl
    refine WG.run tab_ok 1 rfl ?_
    refine WG.nil ?_
    refine WE.nxt ?_
    refine W.seq ?_
    rw [fvals_nth F (show t - (q + 1) * P < S + P by omega)]
    refine W.seq ?_
    refine W.region _ ?_
    refine WG.run tab_ok 2 rfl ?_
    refine WG.nil ?_
    refine WE.nxt ?_
    refine W.condE rfl (fun hc1 => ?_) (fun hc1 => ?_)
    · try dsimp only at hc1
      exact absurd hc1 hF1
    · try dsimp only at hc1
      refine W.skip ?_
      refine WE.nxt ?_
      refine W.seq ?_
      refine W.region _ ?_
      refine WG.run tab_ok 3 rfl ?_
      refine' WG.y rfl rfl (by decide) (Yl.load1 tab_ok rfl rfl rfl (fun _ => rfl) ?r8 rfl ?h8) ?_
      case r8 => apply Rd.add; (exact Rd.blk 0 rfl)
      case h8 => rfl
      refine WG.y rfl rfl (by decide) (Yl.mul rfl rfl rfl (fun _ => rfl) (by intro _; constructor <;> (try dsimp only) <;> omega)) ?_
      refine WG.y rfl rfl (by decide) (Yl.add rfl rfl rfl (fun _ => rfl) (by intro _; constructor <;> (try dsimp only) <;> omega)) ?_
      refine WG.run tab_ok 1 rfl ?_
      refine WG.nil ?_
      refine WE.nxt ?_
      refine W.ret ?_
      refine WE.subE (E' := E) qS ?_
      refine WE.retF tab_ok [_] rfl ⟨rfl, trivial⟩ (RLe.refl _) ?_
      exact ⟨by rw [hgm]; rfl, rfl⟩

end Go.Proofs.YtlgjkmebpnnphaaGreat

/- Finite curves: normal forms. No condition. -/
set_option maxRecDepth 4000
set_option linter.unusedSimpArgs false
set_option linter.unusedVariables false
namespace Go.Proofs.YtlgjkmebpnnphaaGreat
open Go Go.RowKit Go.Proofs.YtlgjkmebpnnphaaGreat.K Go.Proofs.YtlgjkmebpnnphaaGreat.M

theorem CloneI_C {R : Ro} {fa : Option Addr} {fc : Nat} {xs : List Int} (ha : RS R 1 encI fa xs) (hx : 0 < xs.length) (hl : xs.length ≤ 100000) (w0 : World) (E : List Ent) : K.Fn Tryz.prog 168 [.slice fa xs.length fc] w0 R E (fun v R' E' => ∃ (a2 : Option Addr) (c2 : Nat), v = .slice a2 xs.length c2 ∧ R = R' ∧ (.sl 3 1 a2 c2 (xs.map encI) :: E).Sublist E') := by
  have hns := ha.some hx
  refine Fn.enter (n := 8) Tryz.func168 rfl rfl (Nat.le_of_ble_eq_true rfl) rfl ?_
  refine W.seq ?_
  refine W.region _ ?_
  refine WG.run tab_ok 1 rfl ?_
  refine WG.nil ?_
  refine WE.nxt ?_
  refine W.seq ?_
  refine W.seq ?_
  refine W.region _ ?_
  refine WG.run tab_ok 1 rfl ?_
  refine WG.y rfl rfl (by decide) (Yl.eqNilS Tryz.underlying22 rfl rfl rfl (fun _ => rfl)) ?_
  refine WG.nil ?_
  refine WE.nxt ?_
  refine W.cond rfl (fun hc0 => ?_) (fun hc0 => ?_)
  · try simp only [decide_eq_true_eq, decide_eq_false_iff_not, beq_iff_eq, bne_iff_ne, beq_eq_false_iff_ne, bne_eq_false_iff_eq, ne_eq, Bool.or_eq_true, Bool.or_eq_false_iff, Bool.and_eq_true, Bool.and_eq_false_imp, Bool.not_eq_true, Bool.not_eq_true', Bool.not_eq_false', Classical.not_not, Int.not_lt, Int.not_le, gt_iff_lt, ge_iff_le] at hc0
    rw [hns] at hc0; cases hc0
  · try simp only [decide_eq_true_eq, decide_eq_false_iff_not, beq_iff_eq, bne_iff_ne, beq_eq_false_iff_ne, bne_eq_false_iff_eq, ne_eq, Bool.or_eq_true, Bool.or_eq_false_iff, Bool.and_eq_true, Bool.and_eq_false_imp, Bool.not_eq_true, Bool.not_eq_true', Bool.not_eq_false', Classical.not_not, Int.not_lt, Int.not_le, gt_iff_lt, ge_iff_le] at hc0
    refine W.skip ?_
    refine WE.nxt ?_
    refine W.seq ?_
    refine W.region _ ?_
    refine WL.ef rfl rfl (by decide) (Ef.buildSliceD (enc := encI) (parts := []) [] tab_ok rfl rfl rfl rfl rfl rfl rfl rfl (by decide) (by decide) (fun a5 => ?_))
    refine WG.run tab_ok 1 rfl ?_
    refine WL.ef rfl rfl (by decide) (Ef.cloneL (enc := encI) 0 tab_ok rfl rfl rfl rfl rfl rfl rfl rfl rfl rfl ha (fun _ _ => rfl) (by dsimp only; omega) (by omega) (fun a7 c7 ha7 => ?_))
    refine WG.run tab_ok 1 rfl ?_
    refine WG.nil ?_
    refine WE.nxt ?_
    refine W.ret ?_
    refine WE.retF tab_ok [_] rfl ⟨rfl, trivial⟩ (RLe.refl _) ?_
    exact ⟨_, _, rfl, rfl, qS⟩

end Go.Proofs.YtlgjkmebpnnphaaGreat

/- Any valid curve in the program. No condition. -/
set_option maxRecDepth 4000
set_option linter.unusedSimpArgs false
set_option linter.unusedVariables false
namespace Go.Proofs.YtlgjkmebpnnphaaGreat
open Go Go.RowKit Go.Proofs.YtlgjkmebpnnphaaGreat.K Go.Proofs.YtlgjkmebpnnphaaGreat.M

theorem WAtG_V {R : Ro} {fa : Option Addr} {fc : Nat} {c : Cv} (hv : validB c = true) (ha : RS R 1 encI fa c.vals) {t : Nat} (ht : t ≤ 1000000000) : FnV Tryz.prog 116 [.agg #[.slice fa c.vals.length fc, .int .i64 c.per, .int .i64 c.inc], .int .i64 (t : Int)] R (.int .i64 (cvF c t)) := by
  refine Fn.toV (fun w0 E => ?_)
  obtain ⟨hr1, hr2, hr3, hr4, hr5, hr6, hr7, hr8⟩ := valid_range hv
  refine Fn.enter (n := 45) Tryz.func116 rfl rfl (Nat.le_of_ble_eq_true rfl) rfl ?_
  refine W.seq ?_
  refine W.region _ ?_
  refine WL.ef rfl rfl (by decide) (Ef.box rfl rfl (fun b2 => ?_))
  refine WG.run tab_ok 1 rfl ?_
  refine WG.nil ?_
  refine WE.nxt ?_
  refine W.seq ?_
  refine W.region _ ?_
  refine WG.run tab_ok 1 rfl ?_
  refine' WG.y rfl rfl (by decide) (Yl.load1 tab_ok rfl rfl rfl (fun _ => rfl) ?r1 rfl ?h1) ?_
  case r1 => apply Rd.add; (exact Rd.blk 0 rfl)
  case h1 => rfl
  refine WG.run tab_ok 2 rfl ?_
  refine WG.nil ?_
  refine WE.nxt ?_
  refine W.seq ?_
  refine W.seq ?_
  refine W.region _ ?_
  refine WG.run tab_ok 3 rfl ?_
  refine WG.nil ?_
  refine WE.nxt ?_
  refine W.condD rfl (fun hc0 => ?_) (fun hc0 => ?_)
  · try dsimp only at hc0
    have htl : t < c.vals.length := by omega
    refine W.seq ?_
    refine W.region _ ?_
    refine WG.run tab_ok 1 rfl ?_
    refine' WG.y rfl rfl (by decide) (Yl.load1 tab_ok rfl rfl rfl (fun _ => rfl) ?r2 rfl ?h2) ?_
    case r2 => apply Rd.add; (exact Rd.blk 0 rfl)
    case h2 => rfl
    refine WG.run tab_ok 1 rfl ?_
    refine WG.y rfl rfl (by decide) (Yl.indexN tab_ok rfl rfl rfl rfl rfl rfl (fun _ => rfl) (by intro _; (try dsimp only) <;> omega) (by intro _; first | exact fun _ _ _ _ => rfl | exact RS.has (by assumption) | exact fun _ _ _ _ => (by assumption) | exact HasMem.ownD 0 rfl | exact HasMem.ownD 1 rfl)) ?_
    refine' WG.y rfl rfl (by decide) (Yl.load1 tab_ok rfl rfl rfl (fun _ => rfl) ?r3 rfl ?h3) ?_
    case r3 => ((apply RS.rdD; assumption; ((try dsimp only) <;> omega)))
    case h3 => rfl
    refine WG.run tab_ok 1 rfl ?_
    refine WG.nil ?_
    refine WE.nxt ?_
    refine W.ret ?_
    refine WE.then_ret ?_
    refine WE.subE (E' := E) qS ?_
    refine WE.retF tab_ok [_] rfl ⟨rfl, trivial⟩ (RLe.refl _) ?_
    exact ⟨by rw [cvF_low htl]; rfl, rfl⟩
  · try dsimp only at hc0
    obtain ⟨P, hP⟩ := Int.eq_ofNat_of_zero_le (show 0 ≤ c.per by omega)
    have hPn : 1 ≤ P ∧ P ≤ c.vals.length := by omega
    obtain ⟨j1, j2, j3⟩ := cvJ_at hPn (show c.vals.length ≤ t by omega)
    have hcv := cvF_high hP hPn (show c.vals.length ≤ t by omega)
    generalize hq : (t - c.vals.length) / P = q at j3 hcv
    have hq1 : ((t : Int) - (c.vals.length : Int)) / c.per = (q : Int) := by rw [hP, show (t : Int) - (c.vals.length : Int) = ((t - c.vals.length : Nat) : Int) by omega, ← hq]; rfl
    have hq5 : ((q : Int) + 1) * c.per = (((q + 1) * P : Nat) : Int) := by rw [hP, Int.natCast_mul]; rfl
    have hj : (t : Int) - (((q + 1) * P : Nat) : Int) = (cvJ c.vals.length P t : Int) := by omega
    have hqt : q + 1 ≤ t := Nat.le_trans (Nat.le_mul_of_pos_right (q + 1) (show 0 < P by omega)) (by omega)
    have hve := valid_each hv _ j2
    have hqI := mulB (a := (q : Int) + 1) (b := c.inc) (A := 1000000000) (B := 1073741824) (by omega) (by omega)
    refine W.skip ?_
    refine WE.nxt ?_
    refine W.seq ?_
    refine W.region _ ?_
    refine WG.run tab_ok 2 rfl ?_
    refine WG.y rfl rfl (by decide) (Yl.sub rfl rfl rfl (fun _ => rfl) (by intro _; constructor <;> (try dsimp only) <;> omega)) ?_
    refine WG.run tab_ok 1 rfl ?_
    refine' WG.y rfl rfl (by decide) (Yl.load1 tab_ok rfl rfl rfl (fun _ => rfl) ?r4 rfl ?h4) ?_
    case r4 => apply Rd.add; (exact Rd.blk 0 rfl)
    case h4 => rfl
    refine WG.y rfl rfl (by decide) (Yl.quo rfl rfl rfl (fun _ => rfl) (by intro _; constructor <;> (try dsimp only) <;> omega) (by intro _; omega)) ?_
    refine WG.y rfl rfl (by decide) (Yl.add rfl rfl rfl (fun _ => rfl) (by intro _; constructor <;> (try dsimp only) <;> omega)) ?_
    refine WG.run tab_ok 1 rfl ?_
    refine WG.nil ?_
    refine WE.nxt ?_
    rw [hq1]
    refine W.seq ?_
    refine W.region _ ?_
    refine WG.run tab_ok 1 rfl ?_
    refine' WG.y rfl rfl (by decide) (Yl.load1 tab_ok rfl rfl rfl (fun _ => rfl) ?r5 rfl ?h5) ?_
    case r5 => apply Rd.add; (exact Rd.blk 0 rfl)
    case h5 => rfl
    refine WG.run tab_ok 3 rfl ?_
    refine' WG.y rfl rfl (by decide) (Yl.load1 tab_ok rfl rfl rfl (fun _ => rfl) ?r6 rfl ?h6) ?_
    case r6 => apply Rd.add; (exact Rd.blk 0 rfl)
    case h6 => rfl
    refine WG.y rfl rfl (by decide) (Yl.mul rfl rfl rfl (fun _ => rfl) (by intro _; constructor <;> (try dsimp only) <;> omega)) ?_
    refine WG.y rfl rfl (by decide) (Yl.sub rfl rfl rfl (fun _ => rfl) (by intro _; constructor <;> (try dsimp only) <;> omega)) ?_
    rw [hq5, hj]
    refine WG.y rfl rfl (by decide) (Yl.indexN tab_ok rfl rfl rfl rfl rfl rfl (fun _ => rfl) (by intro _; (try dsimp only) <;> omega) (by intro _; first | exact fun _ _ _ _ => rfl | exact RS.has (by assumption) | exact fun _ _ _ _ => (by assumption) | exact HasMem.ownD 0 rfl | exact HasMem.ownD 1 rfl)) ?_
    refine' WG.y rfl rfl (by decide) (Yl.load1 tab_ok rfl rfl rfl (fun _ => rfl) ?r7 rfl ?h7) ?_
    case r7 => ((apply RS.rdD; assumption; ((try dsimp only) <;> omega)))
    case h7 => rfl
    refine WG.run tab_ok 1 rfl ?_
    refine WG.nil ?_
    refine WE.nxt ?_
    refine W.seq ?_
    refine W.seq ?_
    refine W.region _ ?_
    refine WG.run tab_ok 2 rfl ?_
    refine WG.nil ?_
    refine WE.nxt ?_
    refine W.condE rfl (fun hc1 => ?_) (fun hc1 => ?_)
    · try dsimp only at hc1
      have hcv : cvF c t = 4611686018427387904 := by rw [hcv, if_pos (show _ = INF from hc1)]; rfl
      refine W.seq ?_
      refine W.region _ ?_
      refine WG.run tab_ok 2 rfl ?_
      refine WG.nil ?_
      refine WE.nxt ?_
      refine W.ret ?_
      refine WE.then_ret ?_
      refine WE.subE (E' := E) qS ?_
      refine WE.retF tab_ok [_] rfl ⟨rfl, trivial⟩ (RLe.refl _) ?_
      exact ⟨by rw [hcv, hc1]; rfl, rfl⟩
    · try dsimp only at hc1
      have hvm := hve.resolve_left hc1
      unfold MAXV at hvm
      rw [if_neg (show ¬ _ = INF from hc1), show ((q + 1 : Nat) : Int) = (q : Int) + 1 from rfl] at hcv
      refine W.skip ?_
      refine WE.nxt ?_
      refine W.seq ?_
      refine W.region _ ?_
      refine WG.run tab_ok 3 rfl ?_
      refine' WG.y rfl rfl (by decide) (Yl.load1 tab_ok rfl rfl rfl (fun _ => rfl) ?r8 rfl ?h8) ?_
      case r8 => apply Rd.add; (exact Rd.blk 0 rfl)
      case h8 => rfl
      refine WG.y rfl rfl (by decide) (Yl.mul rfl rfl rfl (fun _ => rfl) (by intro _; constructor <;> (try dsimp only) <;> omega)) ?_
      refine WG.y rfl rfl (by decide) (Yl.add rfl rfl rfl (fun _ => rfl) (by intro _; constructor <;> (try dsimp only) <;> omega)) ?_
      refine WG.run tab_ok 1 rfl ?_
      refine WG.nil ?_
      refine WE.nxt ?_
      refine W.ret ?_
      refine WE.subE (E' := E) qS ?_
      refine WE.retF tab_ok [_] rfl ⟨rfl, trivial⟩ (RLe.refl _) ?_
      exact ⟨by rw [hcv]; rfl, rfl⟩

theorem WFiniteG_V {R : Ro} {fa : Option Addr} {fc : Nat} {c : Cv} (hv : validB c = true) (ha : RS R 1 encI fa c.vals) : FnV Tryz.prog 153 [.agg #[.slice fa c.vals.length fc, .int .i64 c.per, .int .i64 c.inc]] R (.bool (finB c)) := by
  refine Fn.toV (fun w0 E => ?_)
  obtain ⟨hr1, hr2, hr3, hr4, hr5, hr6, hr7, hr8⟩ := valid_range hv
  have hl : ((c.vals.length : Int) - 1).toNat = c.vals.length - 1 := by omega
  refine Fn.enter (n := 12) Tryz.func153 rfl rfl (Nat.le_of_ble_eq_true rfl) rfl ?_
  refine W.seq ?_
  refine W.region _ ?_
  refine WL.ef rfl rfl (by decide) (Ef.box rfl rfl (fun b1 => ?_))
  refine WG.run tab_ok 1 rfl ?_
  refine WG.nil ?_
  refine WE.nxt ?_
  refine W.seq ?_
  refine W.region _ ?_
  refine WG.run tab_ok 1 rfl ?_
  refine' WG.y rfl rfl (by decide) (Yl.load1 tab_ok rfl rfl rfl (fun _ => rfl) ?r1 rfl ?h1) ?_
  case r1 => apply Rd.add; (exact Rd.blk 0 rfl)
  case h1 => rfl
  refine WG.run tab_ok 1 rfl ?_
  refine' WG.y rfl rfl (by decide) (Yl.load1 tab_ok rfl rfl rfl (fun _ => rfl) ?r2 rfl ?h2) ?_
  case r2 => apply Rd.add; (exact Rd.blk 0 rfl)
  case h2 => rfl
  refine WG.run tab_ok 1 rfl ?_
  refine WG.y rfl rfl (by decide) (Yl.sub rfl rfl rfl (fun _ => rfl) (by intro _; constructor <;> (try dsimp only) <;> omega)) ?_
  refine WG.y rfl rfl (by decide) (Yl.index tab_ok rfl rfl rfl rfl rfl rfl (fun _ => rfl) (by intro _; constructor <;> (try dsimp only) <;> omega) (by intro _; first | exact fun _ _ _ _ => rfl | exact RS.has (by assumption) | exact fun _ _ _ _ => (by assumption) | exact HasMem.ownD 0 rfl | exact HasMem.ownD 1 rfl)) ?_
  refine' WG.y rfl rfl (by decide) (Yl.load1 tab_ok rfl rfl rfl (fun _ => rfl) ?r3 rfl ?h3) ?_
  case r3 => ((apply RS.rdD; assumption; ((try dsimp only) <;> omega)))
  case h3 => rfl
  refine WG.run tab_ok 2 rfl ?_
  refine WG.nil ?_
  refine WE.nxt ?_
  refine W.ret ?_
  refine WE.subE (E' := E) qS ?_
  refine WE.retF tab_ok [_] rfl ⟨rfl, trivial⟩ (RLe.refl _) ?_
  exact ⟨by rw [hl]; rfl, rfl⟩

theorem WStartG_V {R : Ro} {fa : Option Addr} {fc : Nat} {c : Cv} (hv : validB c = true) (ha : RS R 1 encI fa c.vals) : FnV Tryz.prog 152 [.agg #[.slice fa c.vals.length fc, .int .i64 c.per, .int .i64 c.inc]] R (.int .i64 (stN c : Int)) := by
  refine Fn.toV (fun w0 E => ?_)
  obtain ⟨hr1, hr2, hr3, hr4, hr5, hr6, hr7, hr8⟩ := valid_range hv
  have hl : (c.vals.length : Int) - c.per = (stN c : Int) := by unfold stN; omega
  refine Fn.enter (n := 9) Tryz.func152 rfl rfl (Nat.le_of_ble_eq_true rfl) rfl ?_
  refine W.seq ?_
  refine W.region _ ?_
  refine WL.ef rfl rfl (by decide) (Ef.box rfl rfl (fun b1 => ?_))
  refine WG.run tab_ok 1 rfl ?_
  refine WG.nil ?_
  refine WE.nxt ?_
  refine W.seq ?_
  refine W.region _ ?_
  refine WG.run tab_ok 1 rfl ?_
  refine' WG.y rfl rfl (by decide) (Yl.load1 tab_ok rfl rfl rfl (fun _ => rfl) ?r1 rfl ?h1) ?_
  case r1 => apply Rd.add; (exact Rd.blk 0 rfl)
  case h1 => rfl
  refine WG.run tab_ok 2 rfl ?_
  refine' WG.y rfl rfl (by decide) (Yl.load1 tab_ok rfl rfl rfl (fun _ => rfl) ?r2 rfl ?h2) ?_
  case r2 => apply Rd.add; (exact Rd.blk 0 rfl)
  case h2 => rfl
  refine WG.y rfl rfl (by decide) (Yl.sub rfl rfl rfl (fun _ => rfl) (by intro _; constructor <;> (try dsimp only) <;> omega)) ?_
  refine WG.run tab_ok 1 rfl ?_
  refine WG.nil ?_
  refine WE.nxt ?_
  refine W.ret ?_
  refine WE.subE (E' := E) qS ?_
  refine WE.retF tab_ok [_] rfl ⟨rfl, trivial⟩ (RLe.refl _) ?_
  exact ⟨by rw [hl]; rfl, rfl⟩

theorem WGainG_V {R : Ro} {fa : Option Addr} {fc : Nat} {c : Cv} (hv : validB c = true) (ha : RS R 1 encI fa c.vals) {L : Nat} (hL : L ≤ 100000) : FnV Tryz.prog 154 [.agg #[.slice fa c.vals.length fc, .int .i64 c.per, .int .i64 c.inc], .int .i64 (L : Int)] R (.int .i64 (gainC c L)) := by
  refine Fn.toV (fun w0 E => ?_)
  obtain ⟨hr1, hr2, hr3, hr4, hr5, hr6, hr7, hr8⟩ := valid_range hv
  have hd0 : 0 ≤ (L : Int) / c.per := Int.ediv_nonneg (by omega) (by omega)
  have hd1 : (L : Int) / c.per ≤ L := Int.ediv_le_self _ (by omega)
  have hd2 := mulB (a := (L : Int) / c.per) (b := c.inc) (A := 100000) (B := 1073741824) (by omega) (by omega)
  refine Fn.enter (n := 12) Tryz.func154 rfl rfl (Nat.le_of_ble_eq_true rfl) rfl ?_
  refine W.seq ?_
  refine W.region _ ?_
  refine WL.ef rfl rfl (by decide) (Ef.box rfl rfl (fun b2 => ?_))
  refine WG.run tab_ok 1 rfl ?_
  refine WG.nil ?_
  refine WE.nxt ?_
  refine W.seq ?_
  refine W.regionQ _ mixed (by kernel_rfl) ?_
  refine WG.run tab_ok 2 rfl ?_
  refine' WG.y rfl rfl (by decide) (Yl.load1 tab_ok rfl rfl rfl (fun _ => rfl) ?r1 rfl ?h1) ?_
  case r1 => apply Rd.add; (exact Rd.blk 0 rfl)
  case h1 => rfl
  refine WG.y rfl rfl (by decide) (Yl.quo rfl rfl rfl (fun _ => rfl) (by intro _; constructor <;> (try dsimp only) <;> omega) (by intro _; omega)) ?_
  refine WG.run tab_ok 1 rfl ?_
  refine' WG.y rfl rfl (by decide) (Yl.load1 tab_ok rfl rfl rfl (fun _ => rfl) ?r2 rfl ?h2) ?_
  case r2 => apply Rd.add; (exact Rd.blk 0 rfl)
  case h2 => rfl
  refine WG.y rfl rfl (by decide) (Yl.mul rfl rfl rfl (fun _ => rfl) (by intro _; constructor <;> (try dsimp only) <;> omega)) ?_
  refine WG.run tab_ok 1 rfl ?_
  refine WG.nil ?_
  refine WE.nxt ?_
  refine W.ret ?_
  refine WE.subE (E' := E) qS ?_
  refine WE.retF tab_ok [_] rfl ⟨rfl, trivial⟩ (RLe.refl _) ?_
  exact ⟨rfl, rfl⟩

theorem PGainG_V {R : Ro} {fa : Option Addr} {fc : Nat} {c : Cv} (hv : validB c = true) (ha : RS R 1 encI fa c.vals) {L : Nat} (hL : L ≤ 100000) : FnV Tryz.prog 174 [.agg #[.slice fa c.vals.length fc, .int .i64 c.per, .int .i64 c.inc], .int .i64 (L : Int)] R (.int .i64 (gainC c L)) := by
  refine Fn.toV (fun w0 E => ?_)
  obtain ⟨hr1, hr2, hr3, hr4, hr5, hr6, hr7, hr8⟩ := valid_range hv
  have hd0 : 0 ≤ (L : Int) / c.per := Int.ediv_nonneg (by omega) (by omega)
  have hd1 : (L : Int) / c.per ≤ L := Int.ediv_le_self _ (by omega)
  have hd2 := mulB (a := (L : Int) / c.per) (b := c.inc) (A := 100000) (B := 1073741824) (by omega) (by omega)
  refine Fn.enter (n := 12) Tryz.func174 rfl rfl (Nat.le_of_ble_eq_true rfl) rfl ?_
  refine W.seq ?_
  refine W.region _ ?_
  refine WL.ef rfl rfl (by decide) (Ef.box rfl rfl (fun b2 => ?_))
  refine WG.run tab_ok 1 rfl ?_
  refine WG.nil ?_
  refine WE.nxt ?_
  refine W.seq ?_
  refine W.regionQ _ mixed (by kernel_rfl) ?_
  refine WG.run tab_ok 2 rfl ?_
  refine' WG.y rfl rfl (by decide) (Yl.load1 tab_ok rfl rfl rfl (fun _ => rfl) ?r1 rfl ?h1) ?_
  case r1 => apply Rd.add; (exact Rd.blk 0 rfl)
  case h1 => rfl
  refine WG.y rfl rfl (by decide) (Yl.quo rfl rfl rfl (fun _ => rfl) (by intro _; constructor <;> (try dsimp only) <;> omega) (by intro _; omega)) ?_
  refine WG.run tab_ok 1 rfl ?_
  refine' WG.y rfl rfl (by decide) (Yl.load1 tab_ok rfl rfl rfl (fun _ => rfl) ?r2 rfl ?h2) ?_
  case r2 => apply Rd.add; (exact Rd.blk 0 rfl)
  case h2 => rfl
  refine WG.y rfl rfl (by decide) (Yl.mul rfl rfl rfl (fun _ => rfl) (by intro _; constructor <;> (try dsimp only) <;> omega)) ?_
  refine WG.run tab_ok 1 rfl ?_
  refine WG.nil ?_
  refine WE.nxt ?_
  refine W.ret ?_
  refine WE.subE (E' := E) qS ?_
  refine WE.retF tab_ok [_] rfl ⟨rfl, trivial⟩ (RLe.refl _) ?_
  exact ⟨rfl, rfl⟩

theorem WPlus_V {R : Ro} {x y : Int} (hx : x = 4611686018427387904 ∨ (-1000000000000000000 ≤ x ∧ x ≤ 1000000000000000000)) (hy : y = 4611686018427387904 ∨ (-1000000000000000000 ≤ y ∧ y ≤ 1000000000000000000)) : FnV Tryz.prog 173 [.int .i64 x, .int .i64 y] R (.int .i64 (if x = 4611686018427387904 ∨ y = 4611686018427387904 then 4611686018427387904 else x + y)) := by
  refine Fn.toV (fun w0 E => ?_)
  refine Fn.enter (n := 14) Tryz.func173 rfl rfl (Nat.le_of_ble_eq_true rfl) rfl ?_
  refine W.seq ?_
  refine W.region _ ?_
  refine WG.run tab_ok 1 rfl ?_
  refine WG.nil ?_
  refine WE.nxt ?_
  refine W.seq ?_
  refine W.seq ?_
  refine W.region _ ?_
  refine WG.run tab_ok 3 rfl ?_
  refine WG.y rfl rfl (by decide) (pureV_ok tab_ok rfl qE) ?_
  refine WG.y rfl rfl (by decide) (pureV_ok tab_ok rfl qE) ?_
  refine WG.y rfl rfl (by decide) (Yl.por rfl rfl rfl (fun _ => rfl) (by intro h1 h2; simp_all <;> omega)) ?_
  refine WG.nil ?_
  refine WE.nxt ?_
  refine W.cond rfl (fun hc0 => ?_) (fun hc0 => ?_)
  · try simp only [decide_eq_true_eq, decide_eq_false_iff_not, beq_iff_eq, bne_iff_ne, beq_eq_false_iff_ne, bne_eq_false_iff_eq, ne_eq, Bool.or_eq_true, Bool.or_eq_false_iff, Bool.and_eq_true, Bool.and_eq_false_imp, Bool.not_eq_true, Bool.not_eq_true', Bool.not_eq_false', Classical.not_not, Int.not_lt, Int.not_le, gt_iff_lt, ge_iff_le] at hc0
    rw [if_pos hc0]
    refine W.seq ?_
    refine W.region _ ?_
    refine WG.run tab_ok 1 rfl ?_
    refine WG.nil ?_
    refine WE.nxt ?_
    refine W.ret ?_
    refine WE.then_ret ?_
    refine WE.subE (E' := E) qS ?_
    refine WE.retF tab_ok [_] rfl ⟨rfl, trivial⟩ (RLe.refl _) ?_
    exact ⟨rfl, rfl⟩
  · try simp only [decide_eq_true_eq, decide_eq_false_iff_not, beq_iff_eq, bne_iff_ne, beq_eq_false_iff_ne, bne_eq_false_iff_eq, ne_eq, Bool.or_eq_true, Bool.or_eq_false_iff, Bool.and_eq_true, Bool.and_eq_false_imp, Bool.not_eq_true, Bool.not_eq_true', Bool.not_eq_false', Classical.not_not, Int.not_lt, Int.not_le, gt_iff_lt, ge_iff_le] at hc0
    have hno : ¬ (x = 4611686018427387904 ∨ y = 4611686018427387904) := by omega
    rw [if_neg hno]
    refine W.skip ?_
    refine WE.nxt ?_
    refine W.seq ?_
    refine W.region _ ?_
    refine WG.run tab_ok 2 rfl ?_
    refine WG.y rfl rfl (by decide) (Yl.add rfl rfl rfl (fun _ => rfl) (by intro _; constructor <;> (try dsimp only) <;> omega)) ?_
    refine WG.run tab_ok 1 rfl ?_
    refine WG.nil ?_
    refine WE.nxt ?_
    refine W.ret ?_
    refine WE.subE (E' := E) qS ?_
    refine WE.retF tab_ok [_] rfl ⟨rfl, trivial⟩ (RLe.refl _) ?_
    exact ⟨rfl, rfl⟩

theorem CValidG_V {R : Ro} {fa : Option Addr} {fc : Nat} {c : Cv} (ha : RS R 1 encI fa c.vals) (hl : c.vals.length ≤ 100000) : FnV Tryz.prog 110 [.agg #[.slice fa c.vals.length fc, .int .i64 c.per, .int .i64 c.inc]] R (.bool (validB c)) := by
  refine Fn.toV (fun w0 E => ?_)
  refine Fn.enter (n := 85) Tryz.func110 rfl rfl (Nat.le_of_ble_eq_true rfl) rfl ?_
  refine W.seq ?_
  refine W.region _ ?_
  refine WL.ef rfl rfl (by decide) (Ef.box rfl rfl (fun b1 => ?_))
  refine WG.run tab_ok 1 rfl ?_
  refine WG.nil ?_
  refine WE.nxt ?_
  refine W.seq ?_
  refine W.region _ ?_
  refine WG.run tab_ok 1 rfl ?_
  refine' WG.y rfl rfl (by decide) (Yl.load1 tab_ok rfl rfl rfl (fun _ => rfl) ?r1 rfl ?h1) ?_
  case r1 => apply Rd.add; (exact Rd.blk 0 rfl)
  case h1 => rfl
  refine WG.run tab_ok 2 rfl ?_
  refine WG.nil ?_
  refine WE.nxt ?_
  refine W.seq ?_
  refine W.seq ?_
  refine W.region _ ?_
  refine WG.run tab_ok 3 rfl ?_
  refine WG.y rfl rfl (by decide) (pureV_ok tab_ok rfl qE) ?_
  refine WG.y rfl rfl (by decide) (pureV_ok tab_ok rfl qE) ?_
  refine WG.y rfl rfl (by decide) (Yl.por rfl rfl rfl (fun _ => rfl) (by intro h1 h2; simp_all <;> omega)) ?_
  refine WG.run tab_ok 1 rfl ?_
  refine WG.y rfl rfl (by decide) (pureV_ok tab_ok rfl qE) ?_
  refine' WG.y rfl rfl (by decide) (Yl.loadG tab_ok rfl rfl rfl qE ?r2 rfl ?h2 ?g2) ?_
  case r2 => apply Rd.addC; (exact Rd.blkC 0 rfl)
  case h2 => rfl
  case g2 => exact fun _ => trivial
  refine WG.y rfl rfl (by decide) (pureV_ok tab_ok rfl qE) ?_
  refine WG.y rfl rfl (by decide) (Yl.por rfl rfl rfl (fun _ => rfl) (by intro h1 h2; simp_all <;> omega)) ?_
  refine WG.run tab_ok 1 rfl ?_
  refine WG.y rfl rfl (by decide) (pureV_ok tab_ok rfl qE) ?_
  refine' WG.y rfl rfl (by decide) (Yl.loadG tab_ok rfl rfl rfl qE ?r3 rfl ?h3 ?g3) ?_
  case r3 => apply Rd.addC; (exact Rd.blkC 0 rfl)
  case h3 => rfl
  case g3 => exact fun _ => trivial
  refine WG.y rfl rfl (by decide) (pureV_ok tab_ok rfl qE) ?_
  refine WG.y rfl rfl (by decide) (Yl.por rfl rfl rfl (fun _ => rfl) (by intro h1 h2; simp_all <;> omega)) ?_
  refine WG.run tab_ok 1 rfl ?_
  refine WG.y rfl rfl (by decide) (pureV_ok tab_ok rfl qE) ?_
  refine' WG.y rfl rfl (by decide) (Yl.loadG tab_ok rfl rfl rfl qE ?r4 rfl ?h4 ?g4) ?_
  case r4 => apply Rd.addC; (exact Rd.blkC 0 rfl)
  case h4 => rfl
  case g4 => exact fun _ => trivial
  refine WG.y rfl rfl (by decide) (pureV_ok tab_ok rfl qE) ?_
  refine WG.y rfl rfl (by decide) (pureV_ok tab_ok rfl qE) ?_
  refine WG.y rfl rfl (by decide) (Yl.por rfl rfl rfl (fun _ => rfl) (by intro h1 h2; simp_all <;> omega)) ?_
  refine WG.run tab_ok 1 rfl ?_
  refine WG.y rfl rfl (by decide) (pureV_ok tab_ok rfl qE) ?_
  refine' WG.y rfl rfl (by decide) (Yl.loadG tab_ok rfl rfl rfl qE ?r5 rfl ?h5 ?g5) ?_
  case r5 => apply Rd.addC; (exact Rd.blkC 0 rfl)
  case h5 => rfl
  case g5 => exact fun _ => trivial
  refine WG.y rfl rfl (by decide) (pureV_ok tab_ok rfl qE) ?_
  refine WG.y rfl rfl (by decide) (Yl.por rfl rfl rfl (fun _ => rfl) (by intro h1 h2; simp_all <;> omega)) ?_
  refine WG.run tab_ok 1 rfl ?_
  refine WG.y rfl rfl (by decide) (pureV_ok tab_ok rfl qE) ?_
  refine' WG.y rfl rfl (by decide) (Yl.loadG tab_ok rfl rfl rfl qE ?r6 rfl ?h6 ?g6) ?_
  case r6 => apply Rd.addC; (exact Rd.blkC 0 rfl)
  case h6 => rfl
  case g6 => exact fun _ => trivial
  refine WG.y rfl rfl (by decide) (pureV_ok tab_ok rfl qE) ?_
  refine WG.y rfl rfl (by decide) (Yl.por rfl rfl rfl (fun _ => rfl) (by intro h1 h2; simp_all <;> omega)) ?_
  refine WG.nil ?_
  refine WE.nxt ?_
  refine W.cond rfl (fun hc0 => ?_) (fun hc0 => ?_)
  · try simp only [decide_eq_true_eq, decide_eq_false_iff_not, beq_iff_eq, bne_iff_ne, beq_eq_false_iff_ne, bne_eq_false_iff_eq, ne_eq, Bool.or_eq_true, Bool.or_eq_false_iff, Bool.and_eq_true, Bool.and_eq_false_imp, Bool.not_eq_true, Bool.not_eq_true', Bool.not_eq_false', Classical.not_not, Int.not_lt, Int.not_le, gt_iff_lt, ge_iff_le] at hc0
    have hno : validB c = false := validB_false (fun h => by obtain ⟨⟨a1, a2, a3, a4, a5, a6, a7⟩, _⟩ := h; unfold MAXV at a7; omega)
    refine W.seq ?_
    refine W.region _ ?_
    refine WG.run tab_ok 1 rfl ?_
    refine WG.nil ?_
    refine WE.nxt ?_
    refine W.ret ?_
    refine WE.then_ret ?_
    refine WE.subE (E' := E) qS ?_
    refine WE.retF tab_ok [_] rfl ⟨rfl, trivial⟩ (RLe.refl _) ?_
    exact ⟨by rw [hno]; rfl, rfl⟩
  · try simp only [decide_eq_true_eq, decide_eq_false_iff_not, beq_iff_eq, bne_iff_ne, beq_eq_false_iff_ne, bne_eq_false_iff_eq, ne_eq, Bool.or_eq_true, Bool.or_eq_false_iff, Bool.and_eq_true, Bool.and_eq_false_imp, Bool.not_eq_true, Bool.not_eq_true', Bool.not_eq_false', Classical.not_not, Int.not_lt, Int.not_le, gt_iff_lt, ge_iff_le] at hc0
    have hall : 1 ≤ c.vals.length ∧ c.vals.length ≤ 400 ∧ 1 ≤ c.per ∧ c.per ≤ 120 ∧ c.per ≤ c.vals.length ∧ 0 ≤ c.inc ∧ c.inc ≤ MAXV := by unfold MAXV; omega
    refine W.skip ?_
    refine WE.nxt ?_
    refine W.seq ?_
    refine W.region _ ?_
    refine WG.run tab_ok 1 rfl ?_
    refine WG.nil ?_
    refine WE.nxt ?_
    refine W.seq ?_
    refine W.seq ?_
    refine W.region _ ?_
    refine WG.run tab_ok 1 rfl ?_
    refine' WG.y rfl rfl (by decide) (Yl.load1 tab_ok rfl rfl rfl (fun _ => rfl) ?r7 rfl ?h7) ?_
    case r7 => apply Rd.add; (exact Rd.blk 0 rfl)
    case h7 => rfl
    refine WG.run tab_ok 2 rfl ?_
    refine WG.nil ?_
    refine WE.nxt ?_
    refine W.block ?_
    refine W.loopK (β := Nat) (fun t => t ≤ c.vals.length ∧ ∀ i, i < t → (nth c.vals i = INF ∨ (0 ≤ nth c.vals i ∧ nth c.vals i ≤ MAXV)) ∧ (i = 0 ∨ nth c.vals (i - 1) ≤ nth c.vals i)) (fun t => [(4, true, .int .i64 (lastV c.vals t)), (45, true, .int .i64 (t : Int))]) [1, 3, 43, 44] [_, _, _, _] [] _ rfl (fun t => []) (fun t => c.vals.length - t) (0) (⟨Nat.zero_le _, fun i hi => by omega⟩) ⟨rfl, rfl, rfl, rfl, rfl, rfl, rfl⟩ qS ?_
    intro t hst
    dsimp only [zipE, setAll, List.cons_append, List.nil_append, List.set_cons_zero, List.set_cons_succ] at hst ⊢
    have hlast : 0 ≤ lastV c.vals t ∧ (lastV c.vals t = INF ∨ lastV c.vals t ≤ MAXV) := by
      unfold lastV
      by_cases h : t = 0
      · rw [if_pos h]; exact ⟨Int.le_refl _, .inr (by decide)⟩
      · rw [if_neg h]
        have := (hst.2 (t - 1) (by omega)).1
        unfold INF MAXV at this ⊢
        omega
    refine W.seq ?_
    refine W.region _ ?_
    refine WG.run tab_ok 1 rfl ?_
    refine WG.nil ?_
    refine WE.nxt ?_
    refine W.seq ?_
    refine W.condD rfl (fun hc1 => ?_) (fun hc1 => ?_)
    · try dsimp only at hc1
      have htl : t < c.vals.length := by omega
      refine W.skip ?_
      refine WE.nxt ?_
      refine W.seq ?_
      refine W.block ?_
      refine W.seq ?_
      refine W.region _ ?_
      refine WG.y rfl rfl (by decide) (Yl.indexN tab_ok rfl rfl rfl rfl rfl rfl (fun _ => rfl) (by intro _; (try dsimp only) <;> omega) (by intro _; first | exact fun _ _ _ _ => rfl | exact RS.has (by assumption) | exact fun _ _ _ _ => (by assumption) | exact HasMem.ownD 0 rfl | exact HasMem.ownD 1 rfl)) ?_
      refine' WG.y rfl rfl (by decide) (Yl.load1 tab_ok rfl rfl rfl (fun _ => rfl) ?r8 rfl ?h8) ?_
      case r8 => ((apply RS.rdD; assumption; ((try dsimp only) <;> omega)))
      case h8 => rfl
      refine WG.run tab_ok 1 rfl ?_
      refine WG.nil ?_
      refine WE.nxt ?_
      refine W.seq ?_
      refine W.seq ?_
      refine W.region _ ?_
      refine WG.run tab_ok 4 rfl ?_
      refine WG.y rfl rfl (by decide) (pureV_ok tab_ok rfl qE) ?_
      refine WG.y rfl rfl (by decide) (pureV_ok tab_ok rfl qE) ?_
      refine WG.y rfl rfl (by decide) (pureV_ok tab_ok rfl qE) ?_
      refine WG.y rfl rfl (by decide) (pureV_ok tab_ok rfl qE) ?_
      refine WG.y rfl rfl (by decide) (pureV_ok tab_ok rfl qE) ?_
      refine WG.y rfl rfl (by decide) (Yl.pand rfl rfl rfl qE (by intro h1 h2; simp_all <;> omega)) ?_
      refine WG.y rfl rfl (by decide) (Yl.por rfl rfl rfl (fun _ => rfl) (by intro h1 h2; simp_all <;> omega)) ?_
      refine WG.nil ?_
      refine WE.nxt ?_
      refine W.cond rfl (fun hc2 => ?_) (fun hc2 => ?_)
      · try simp only [decide_eq_true_eq, decide_eq_false_iff_not, beq_iff_eq, bne_iff_ne, beq_eq_false_iff_ne, bne_eq_false_iff_eq, ne_eq, Bool.or_eq_true, Bool.or_eq_false_iff, Bool.and_eq_true, Bool.and_eq_false_imp, Bool.not_eq_true, Bool.not_eq_true', Bool.not_eq_false', Classical.not_not, Int.not_lt, Int.not_le, gt_iff_lt, ge_iff_le] at hc2
        have hno : validB c = false := validB_false (fun h => by
          have h2 := h.2.1 t htl
          unfold lastV at hc2
          unfold INF MAXV at h2
          rcases hc2 with x | x
          · split at x
            · omega
            · have := h2.2.resolve_left (by omega)
              omega
          · omega)
        refine W.seq ?_
        refine W.region _ ?_
        refine WG.run tab_ok 1 rfl ?_
        refine WG.nil ?_
        refine WE.nxt ?_
        refine W.ret ?_
        refine WE.then_ret ?_
        refine WE.blk_ret ?_
        refine WE.then_ret ?_
        refine WE.then_ret ?_
        refine WE.blk_ret ?_
        refine WE.then_ret ?_
        refine WE.subE (E' := E) qS ?_
        refine WE.retF tab_ok [_] rfl ⟨rfl, trivial⟩ (RLe.refl _) ?_
        exact ⟨by rw [hno]; rfl, rfl⟩
      · try simp only [decide_eq_true_eq, decide_eq_false_iff_not, beq_iff_eq, bne_iff_ne, beq_eq_false_iff_ne, bne_eq_false_iff_eq, ne_eq, Bool.or_eq_true, Bool.or_eq_false_iff, Bool.and_eq_true, Bool.and_eq_false_imp, Bool.not_eq_true, Bool.not_eq_true', Bool.not_eq_false', Classical.not_not, Int.not_lt, Int.not_le, gt_iff_lt, ge_iff_le] at hc2
        have hy : (nth c.vals t = INF ∨ (0 ≤ nth c.vals t ∧ nth c.vals t ≤ MAXV)) ∧ (t = 0 ∨ nth c.vals (t - 1) ≤ nth c.vals t) := by
          unfold INF MAXV
          have hle : lastV c.vals t ≤ nth c.vals t := by omega
          refine ⟨by omega, ?_⟩
          unfold lastV at hle
          by_cases h : t = 0
          · exact .inl h
          · rw [if_neg h] at hle; exact .inr hle
        refine W.skip ?_
        refine WE.nxt ?_
        refine W.region _ ?_
        refine WG.run tab_ok 2 rfl ?_
        refine WG.nil ?_
        refine WE.blk _ ?_
        refine WE.nxt ?_
        refine W.region _ ?_
        refine WG.y rfl rfl (by decide) (Yl.add rfl rfl rfl (fun _ => rfl) (by intro _; constructor <;> (try dsimp only) <;> omega)) ?_
        refine WG.run tab_ok 1 rfl ?_
        refine WG.nil ?_
        refine WE.again (t + 1) (⟨by omega, fun i hi => by
          by_cases e : i = t
          · subst e; exact hy
          · exact hst.2 i (by omega)⟩) (by (try dsimp only); omega) ⟨vint (lastV_succ _ _), rfl, rfl, rfl, rfl, rfl, rfl⟩ (RLe.refl _) qS
    · try dsimp only at hc1
      obtain rfl : t = c.vals.length := by omega
      obtain ⟨P, hP⟩ := Int.eq_ofNat_of_zero_le (show 0 ≤ c.per by omega)
      have hlv : lastV c.vals c.vals.length = nth c.vals (c.vals.length - 1) := if_neg (by omega)
      have e3 : ((c.vals.length : Int) - c.per).toNat = c.vals.length - c.per.toNat := by omega
      refine W.exit ?_
      refine WE.then_exit ?_
      refine WE.then_exit ?_
      refine WE.blk_exit ?_
      refine WE.nxt ?_
      refine W.seq ?_
      refine W.seq ?_
      refine W.region _ ?_
      refine WG.run tab_ok 2 rfl ?_
      refine WG.nil ?_
      refine WE.nxt ?_
      refine W.condE rfl (fun hc3 => ?_) (fun hc3 => ?_)
      · try dsimp only at hc3
        have hif : (if nth c.vals (c.vals.length - 1) = INF then c.per = 1 ∧ c.inc = 0 else nth c.vals (c.vals.length - 1) ≤ nth c.vals (c.vals.length - c.per.toNat) + c.inc) ↔ (c.per = 1 ∧ c.inc = 0) := by rw [if_pos (by rw [← hlv]; exact hc3)]
        refine W.seq ?_
        refine W.region _ ?_
        refine WG.run tab_ok 1 rfl ?_
        refine' WG.y rfl rfl (by decide) (Yl.load1 tab_ok rfl rfl rfl (fun _ => rfl) ?r9 rfl ?h9) ?_
        case r9 => apply Rd.add; (exact Rd.blk 0 rfl)
        case h9 => rfl
        refine WG.run tab_ok 2 rfl ?_
        refine WG.y rfl rfl (by decide) (pureV_ok tab_ok rfl qE) ?_
        refine' WG.y rfl rfl (by decide) (Yl.loadG tab_ok rfl rfl rfl qE ?r10 rfl ?h10 ?g10) ?_
        case r10 => apply Rd.addC; (exact Rd.blkC 0 rfl)
        case h10 => rfl
        case g10 => exact fun _ => trivial
        refine WG.y rfl rfl (by decide) (pureV_ok tab_ok rfl qE) ?_
        refine WG.y rfl rfl (by decide) (Yl.pand rfl rfl rfl (fun _ => rfl) (by intro h1 h2; simp_all <;> omega)) ?_
        refine WG.run tab_ok 1 rfl ?_
        refine WG.nil ?_
        refine WE.nxt ?_
        refine W.ret ?_
        refine WE.then_ret ?_
        refine WE.subE (E' := E) qS ?_
        refine WE.retF tab_ok [_] rfl ⟨rfl, trivial⟩ (RLe.refl _) ?_
        refine ⟨congrArg Value.bool ?_, rfl⟩
        rw [Bool.eq_iff_iff, validB_iff, hif]
        simp only [Bool.and_eq_true, beq_iff_eq]
        exact ⟨fun h => ⟨hall, fun j hj => hst.2 j hj, h⟩, fun h => h.2.2⟩
      · try dsimp only at hc3
        have hif : (if nth c.vals (c.vals.length - 1) = INF then c.per = 1 ∧ c.inc = 0 else nth c.vals (c.vals.length - 1) ≤ nth c.vals (c.vals.length - c.per.toNat) + c.inc) ↔ (nth c.vals (c.vals.length - 1) ≤ nth c.vals (c.vals.length - c.per.toNat) + c.inc) := by rw [if_neg (by rw [← hlv]; exact hc3)]
        have hx2 := (hst.2 (c.vals.length - c.per.toNat) (by omega)).1
        rw [← e3] at hx2
        unfold INF MAXV at hx2 hall
        refine W.skip ?_
        refine WE.nxt ?_
        refine W.seq ?_
        refine W.regionQ _ mixed (by kernel_rfl) ?_
        refine WG.run tab_ok 1 rfl ?_
        refine' WG.y rfl rfl (by decide) (Yl.load1 tab_ok rfl rfl rfl (fun _ => rfl) ?r11 rfl ?h11) ?_
        case r11 => apply Rd.add; (exact Rd.blk 0 rfl)
        case h11 => rfl
        refine WG.run tab_ok 2 rfl ?_
        refine' WG.y rfl rfl (by decide) (Yl.load1 tab_ok rfl rfl rfl (fun _ => rfl) ?r12 rfl ?h12) ?_
        case r12 => apply Rd.add; (exact Rd.blk 0 rfl)
        case h12 => rfl
        refine WG.y rfl rfl (by decide) (Yl.sub rfl rfl rfl (fun _ => rfl) (by intro _; constructor <;> (try dsimp only) <;> omega)) ?_
        refine WG.y rfl rfl (by decide) (Yl.index tab_ok rfl rfl rfl rfl rfl rfl (fun _ => rfl) (by intro _; constructor <;> (try dsimp only) <;> omega) (by intro _; first | exact fun _ _ _ _ => rfl | exact RS.has (by assumption) | exact fun _ _ _ _ => (by assumption) | exact HasMem.ownD 0 rfl | exact HasMem.ownD 1 rfl)) ?_
        refine' WG.y rfl rfl (by decide) (Yl.load1 tab_ok rfl rfl rfl (fun _ => rfl) ?r13 rfl ?h13) ?_
        case r13 => ((apply RS.rdD; assumption; ((try dsimp only) <;> omega)))
        case h13 => rfl
        refine WG.run tab_ok 1 rfl ?_
        refine' WG.y rfl rfl (by decide) (Yl.load1 tab_ok rfl rfl rfl (fun _ => rfl) ?r14 rfl ?h14) ?_
        case r14 => apply Rd.add; (exact Rd.blk 0 rfl)
        case h14 => rfl
        refine WG.y rfl rfl (by decide) (Yl.add rfl rfl rfl (fun _ => rfl) (by intro _; constructor <;> (try dsimp only) <;> omega)) ?_
        refine WG.run tab_ok 3 rfl ?_
        refine WG.nil ?_
        refine WE.nxt ?_
        refine W.ret ?_
        refine WE.subE (E' := E) qS ?_
        refine WE.retF tab_ok [_] rfl ⟨rfl, trivial⟩ (RLe.refl _) ?_
        refine ⟨congrArg Value.bool ?_, rfl⟩
        rw [Bool.eq_iff_iff, validB_iff, hif, e3, hlv]
        simp only [decide_eq_true_eq]
        exact ⟨fun h => ⟨by unfold MAXV; omega, fun j hj => hst.2 j hj, by omega⟩, fun h => by have := h.2.2; omega⟩

theorem NormG_V {R : Ro} {fa : Option Addr} {fc : Nat} {c : Cv} (hv : validB c = true) (ha : RS R 1 encI fa c.vals) {b1 : Nat} (h1 : R b1 = some [.slice fa c.vals.length fc, .int .i64 c.per, .int .i64 c.inc]) {t : Nat} (ht : t ≤ 1000000) : FnV Tryz.prog 169 [.int .i64 (t : Int), .pointer (some ⟨b1, 0, none⟩)] R (.int .i64 (cvF c t)) := by
  refine Fn.toV (fun w0 E => ?_)
  refine Fn.enter (n := 7) Tryz.func169 rfl rfl (Nat.le_of_ble_eq_true rfl) rfl ?_
  refine W.seq ?_
  refine W.region _ ?_
  refine WG.run tab_ok 1 rfl ?_
  refine WG.nil ?_
  refine WE.nxt ?_
  refine W.seq ?_
  refine W.region _ ?_
  refine' WG.y rfl rfl (by decide) (Yl.load1 tab_ok rfl rfl rfl (fun _ => rfl) ?r1 rfl ?h1) ?_
  case r1 => (exact Rd.ro (by assumption))
  case h1 => rfl
  refine WG.run tab_ok 1 rfl ?_
  refine WG.callV en116 rfl rfl (by decide) (CallOp.mk' rfl rfl rfl rfl) (fun _ => rfl) (fun hg => WAtG_V hv ha (by omega)) ?_
  refine WG.run tab_ok 1 rfl ?_
  refine WG.nil ?_
  refine WE.nxt ?_
  refine W.ret ?_
  refine WE.subE (E' := E) qS ?_
  refine WE.retF tab_ok [_] rfl ⟨rfl, trivial⟩ (RLe.refl _) ?_
  exact ⟨rfl, rfl⟩

theorem CNormalG_C {R : Ro} {fa : Option Addr} {fc : Nat} {c : Cv} (ha : RS R 1 encI fa c.vals) (hl : c.vals.length ≤ 100000) (w0 : World) (E : List Ent) : K.Fn Tryz.prog 150 [.agg #[.slice fa c.vals.length fc, .int .i64 c.per, .int .i64 c.inc]] w0 R E (fun r R' E' => ∃ (f : Option Addr) (fc : Nat), r = cvV f fc (normC c) ∧ RS R' 1 encI f (normC c).1.vals ∧ E.Sublist E') := by
  refine Fn.enter (n := 22) Tryz.func150 rfl rfl (Nat.le_of_ble_eq_true rfl) rfl ?_
  refine W.seq ?_
  refine W.region _ ?_
  refine WL.ef rfl rfl (by decide) (Ef.box rfl rfl (fun b1 => ?_))
  refine WL.ef rfl rfl (by decide) (Ef.alloc tab_ok rfl rfl (fun b2 => ?_))
  refine WG.run tab_ok 1 rfl ?_
  refine WG.nil ?_
  refine WE.nxt ?_
  refine W.seq ?_
  refine W.seq ?_
  refine W.region _ ?_
  refine' WG.y rfl rfl (by decide) (Yl.load1 tab_ok rfl rfl rfl (fun _ => rfl) ?r1 rfl ?h1) ?_
  case r1 => (exact Rd.blk 1 rfl)
  case h1 => rfl
  refine WG.callV en110 rfl rfl (by decide) (CallOp.mk' rfl rfl rfl rfl) (fun _ => rfl) (fun hg => CValidG_V ha hl) ?_
  refine WG.run tab_ok 1 rfl ?_
  refine WG.nil ?_
  refine WE.nxt ?_
  refine W.cond rfl (fun hc0 => ?_) (fun hc0 => ?_)
  · try simp only [decide_eq_true_eq, decide_eq_false_iff_not, beq_iff_eq, bne_iff_ne, beq_eq_false_iff_ne, bne_eq_false_iff_eq, ne_eq, Bool.or_eq_true, Bool.or_eq_false_iff, Bool.and_eq_true, Bool.and_eq_false_imp, Bool.not_eq_true, Bool.not_eq_true', Bool.not_eq_false', Classical.not_not, Int.not_lt, Int.not_le, gt_iff_lt, ge_iff_le] at hc0
    have hn : normC c = (zcv, 1) := if_neg (by simp [hc0])
    refine W.seq ?_
    refine W.region _ ?_
    -- build
    refine WG.y rfl rfl (by decide) (Yl.build (parts := []) tab_ok rfl rfl rfl rfl (fun _ => rfl) rfl rfl) ?_
    refine WL.efN rfl rfl (Ef.store0 0 tab_ok rfl rfl rfl rfl rfl rfl rfl rfl ?_)
    refine WG.run tab_ok 1 rfl ?_
    refine WG.nil ?_
    refine WE.nxt ?_
    refine W.ret ?_
    refine WE.then_ret ?_
    refine WE.retF tab_ok [_, _] rfl ⟨⟨_, _, _, rfl, rfl, rfl, ((by first | exact Rd.blk 0 rfl | exact Rd.blk 1 rfl | exact Rd.blk 2 rfl | exact Rd.blk 3 rfl)), rfl⟩, rfl, trivial⟩ ((by first | exact hR1.trans (hR2.trans hR4) | exact RLe.refl _)) ?_
    exact ⟨none, 0, by rw [hn]; rfl, by rw [hn]; exact rs_nil, qS⟩
  · try simp only [decide_eq_true_eq, decide_eq_false_iff_not, beq_iff_eq, bne_iff_ne, beq_eq_false_iff_ne, bne_eq_false_iff_eq, ne_eq, Bool.or_eq_true, Bool.or_eq_false_iff, Bool.and_eq_true, Bool.and_eq_false_imp, Bool.not_eq_true, Bool.not_eq_true', Bool.not_eq_false', Classical.not_not, Int.not_lt, Int.not_le, gt_iff_lt, ge_iff_le] at hc0
    have hv : validB c = true := by simpa using hc0
    have hn : normC c = (normR c, 0) := if_pos hv
    obtain ⟨hr1, hr2, hr3, hr4, hr5, hr6, hr7, hr8⟩ := valid_range hv
    have hst := stN_lt hv
    refine W.skip ?_
    refine WE.nxt ?_
    refine W.seq ?_
    refine W.region _ ?_
    refine WG.run tab_ok 1 rfl ?_
    refine' WG.y rfl rfl (by decide) (Yl.load1 tab_ok rfl rfl rfl (fun _ => rfl) ?r2 rfl ?h2) ?_
    case r2 => apply Rd.add; (exact Rd.blk 1 rfl)
    case h2 => rfl
    refine WL.call en168 rfl rfl (by decide) (CallOp.mkT rfl rfl rfl rfl) (CloneI_C ha (by omega) (by omega) w0 _) ?_
    rintro _ _ E2 - ⟨a2, c2, rfl, rfl, hsub⟩
    refine WL.subE hsub ?_
    refine WG.run tab_ok 1 rfl ?_
    refine WL.efN rfl rfl (Ef.store 2 tab_ok rfl rfl rfl rfl rfl rfl rfl rfl ?_)
    refine WG.nil ?_
    refine WE.nxt ?_
    refine W.freeze (enc := encI) (xs := c.vals) 0 rfl ?_
    intro R1 hR1 ha1
    refine W.freezeBlk 1 rfl ?_
    intro R2 hR2 hb1
    have ha2 := ha1.mono hR2
    have hperI : ((c.per.toNat : Nat) : Int) = c.per := by omega
    have hF : ∀ t : Nat, t < stN c + c.per.toNat → FnV Tryz.prog 169 ((#[] : Array Value).toList ++ [.int .i64 (t : Int)] ++ (#[.pointer (some ⟨b1, 0, none⟩)] : Array Value).toList) R2 (.int .i64 (cvF c t)) := fun t ht => NormG_V hv ha2 hb1 (by omega)
    refine W.seq ?_
    refine W.regionH _ (ES := []) mixed ?_
    refine WA.take 0 rfl (by kernel_rfl) (by kernel_rfl) (by kernel_rfl) rfl rfl (by decide) (Yl.makeFunc (fi := []) (ca := [.tmp 1]) rfl rfl rfl (fun _ => rfl)) qS (by first | exact RLe.refl _ | assumption) ?_
    refine' WA.take 1 rfl (by kernel_rfl) (by kernel_rfl) (by kernel_rfl) rfl rfl (by decide) (Yl.load1 tab_ok rfl rfl rfl (fun _ => rfl) ?r3 rfl ?h3) qS (by first | exact RLe.refl _ | assumption) ?_
    case r3 => (exact Rd.ro (by assumption))
    case h3 => rfl
    refine WA.take 3 rfl (by kernel_rfl) (by kernel_rfl) (by kernel_rfl) rfl rfl (by decide) (pureV_ok tab_ok rfl (fun _ => rfl)) qS (by first | exact RLe.refl _ | assumption) ?_
    refine' WA.take 4 rfl (by kernel_rfl) (by kernel_rfl) (by kernel_rfl) rfl rfl (by decide) (Yl.load1 tab_ok rfl rfl rfl (fun _ => rfl) ?r4 rfl ?h4) qS (by first | exact RLe.refl _ | assumption) ?_
    case r4 => apply Rd.add; (exact Rd.ro (by assumption))
    case h4 => rfl
    refine WA.take 5 rfl (by kernel_rfl) (by kernel_rfl) (by kernel_rfl) rfl rfl (by decide) (pureV_ok tab_ok rfl (fun _ => rfl)) qS (by first | exact RLe.refl _ | assumption) ?_
    refine' WA.take 6 rfl (by kernel_rfl) (by kernel_rfl) (by kernel_rfl) rfl rfl (by decide) (Yl.load1 tab_ok rfl rfl rfl (fun _ => rfl) ?r5 rfl ?h5) qS (by first | exact RLe.refl _ | assumption) ?_
    case r5 => apply Rd.add; (exact Rd.ro (by assumption))
    case h5 => rfl
    refine WA.callG 2 rfl (by kernel_rfl) en152 rfl (by first | rfl | decide) rfl (by decide) (CallOp.mkT rfl rfl rfl rfl) ((WStartG_V hv ha2).toFn) ?_
    rintro _ _ _ - ⟨rfl, rfl, rfl⟩
    refine ⟨by first | exact RLe.refl _ | assumption, qS, ?_⟩
    refine WA.callG 7 rfl (by kernel_rfl) en144 rfl (by first | rfl | decide) rfl (by decide) (CallOp.mkT rfl rfl rfl rfl) (hperI ▸ Build_C (S := stN c) (P := c.per.toNat) (F := cvF c) en169 (by omega) (by omega) (by omega) (fun t ht => (cvF_bound hv t).2.imp id (fun h => ⟨(cvF_bound hv t).1, by omega⟩)) hF w0 _) ?_
    rintro _ R4 E4 hR4 ⟨f, fc', rfl, hff, hsub⟩
    refine ⟨hR4, List.nil_sublist _, ?_⟩
    refine WA.subE hsub ?_
    rw [norm_build hv] at hff ⊢
    unfold cvV
    refine WA.take 8 rfl (by kernel_rfl) (by kernel_rfl) (by kernel_rfl) rfl rfl (by decide) (pureV_ok tab_ok rfl (fun _ => rfl)) qS (by first | exact RLe.refl _ | assumption) ?_
    refine WA.take 9 rfl (by kernel_rfl) (by kernel_rfl) (by kernel_rfl) rfl rfl (by decide) (pureV_ok tab_ok rfl (fun _ => rfl)) qS (by first | exact RLe.refl _ | assumption) ?_
    refine WA.effN 10 rfl (by kernel_rfl) rfl rfl (Ef.store0 0 tab_ok rfl rfl rfl rfl rfl rfl rfl rfl ?_)
    refine ⟨by first | exact RLe.refl _ | assumption, qS, ?_⟩
    refine WA.take 11 rfl (by kernel_rfl) (by kernel_rfl) (by kernel_rfl) rfl rfl (by decide) (pureV_ok tab_ok rfl (fun _ => rfl)) qS (by first | exact RLe.refl _ | assumption) ?_
    refine WA.done (by kernel_rfl) ?_
    refine WE.nxt ?_
    refine W.ret ?_
    refine WE.retF tab_ok [_, _] rfl ⟨⟨_, _, _, rfl, rfl, rfl, ((by first | exact Rd.blk 0 rfl | exact Rd.blk 1 rfl | exact Rd.blk 2 rfl | exact Rd.blk 3 rfl)), rfl⟩, rfl, trivial⟩ ((by first | exact hR1.trans (hR2.trans hR4) | exact RLe.refl _)) ?_
    exact ⟨f, fc', by rw [hn]; rfl, by rw [hn]; exact hff, qS⟩

theorem CNormalV_C {R : Ro} {fa : Option Addr} {fc : Nat} {c : Cv} (hv : validB c = true) (ha : RS R 1 encI fa c.vals) (w0 : World) (E : List Ent) : K.Fn Tryz.prog 150 [.agg #[.slice fa c.vals.length fc, .int .i64 c.per, .int .i64 c.inc]] w0 R E (fun r R' E' => ∃ (f : Option Addr) (fc : Nat), r = cvV f fc (normR c, 0) ∧ RS R' 1 encI f ((normR c, (0 : Int))).1.vals ∧ E.Sublist E') := by
  have h := CNormalG_C (fc := fc) ha (by have := valid_range hv; omega) w0 E
  rw [show normC c = (normR c, 0) from if_pos hv] at h
  exact h

end Go.Proofs.YtlgjkmebpnnphaaGreat

/- Sums of curves. No condition. -/
set_option maxRecDepth 4000
set_option linter.unusedSimpArgs false
set_option linter.unusedVariables false
namespace Go.Proofs.YtlgjkmebpnnphaaGreat
open Go Go.RowKit Go.Proofs.YtlgjkmebpnnphaaGreat.K Go.Proofs.YtlgjkmebpnnphaaGreat.M

theorem PBoth_lim {R : Ro} {fa : Option Addr} {fc : Nat} {cf : Cv} (hvf : validB cf = true) (ha : RS R 1 encI fa cf.vals) {ga : Option Addr} {gc : Nat} {cg : Cv} (hvg : validB cg = true) (hb : RS R 1 encI ga cg.vals) (hl : 120 < lcmC (normR cf) (normR cg)) (w0 : World) (E : List Ent) : K.Fn Tryz.prog 171 [.agg #[.slice fa cf.vals.length fc, .int .i64 cf.per, .int .i64 cf.inc], .agg #[.slice ga cg.vals.length gc, .int .i64 cg.per, .int .i64 cg.inc]] w0 R E (fun v R' E' => v = .tuple #[.agg #[.slice none 0 0, .int .i64 0, .int .i64 0], .agg #[.slice none 0 0, .int .i64 0, .int .i64 0], .int .i64 0, .int .i64 3] ∧ E.Sublist E') := by
  have hnf := norm_nrm hvf
  have hng := norm_nrm hvg
  obtain ⟨_, f1, f2, f3, f4, f5, f6, f7⟩ := valid_range hnf.valid
  obtain ⟨_, g1, g2, g3, g4, g5, g6, g7⟩ := valid_range hng.valid
  obtain ⟨P1, hP1⟩ := Int.eq_ofNat_of_zero_le (show 0 ≤ (normR cf).per by omega)
  obtain ⟨P2, hP2⟩ := Int.eq_ofNat_of_zero_le (show 0 ≤ (normR cg).per by omega)
  have hlc : lcmC (normR cf) (normR cg) = lcmN P1 P2 := by unfold lcmC; rw [hP1, hP2]; rfl
  have hlb : lcmN P1 P2 ≤ 14400 := Nat.le_trans (lcmN_facts (by omega) (by omega)).2.2.1 (Nat.mul_le_mul (show P1 ≤ 120 by omega) (show P2 ≤ 120 by omega))
  have hlp := (lcmN_facts (a := P1) (b := P2) (by omega) (by omega)).2.2.2
  rw [hlc] at hl
  refine Fn.enter (n := 40) Tryz.func171 rfl rfl (Nat.le_of_ble_eq_true rfl) rfl ?_
  refine W.seq ?_
  refine W.region _ ?_
  refine WL.ef rfl rfl (by decide) (Ef.box rfl rfl (fun b2 => ?_))
  refine WL.ef rfl rfl (by decide) (Ef.box rfl rfl (fun b3 => ?_))
  refine WL.ef rfl rfl (by decide) (Ef.alloc tab_ok rfl rfl (fun b4 => ?_))
  refine WL.ef rfl rfl (by decide) (Ef.alloc tab_ok rfl rfl (fun b5 => ?_))
  refine WG.run tab_ok 2 rfl ?_
  refine WG.nil ?_
  refine WE.nxt ?_
  refine W.seq ?_
  refine W.seq ?_
  refine W.region _ ?_
  refine' WG.y rfl rfl (by decide) (Yl.load1 tab_ok rfl rfl rfl (fun _ => rfl) ?r1 rfl ?h1) ?_
  case r1 => (exact Rd.blk 3 rfl)
  case h1 => rfl
  refine WL.call en150 rfl rfl (by decide) (CallOp.mkT rfl rfl rfl rfl) (CNormalV_C hvf ha w0 _) ?_
  rintro _ R1 _ hR1 ⟨fa1x, ca1x, rfl, ha1x, hsub⟩
  refine WL.subE hsub ?_
  unfold cvV
  dsimp only at ha1x ⊢
  have hb := hb.mono hR1
  refine WG.run tab_ok 3 rfl ?_
  refine WL.efN rfl rfl (Ef.store0 1 tab_ok rfl rfl rfl rfl rfl rfl rfl rfl ?_)
  refine WG.run tab_ok 1 rfl ?_
  refine WG.nil ?_
  refine WE.nxt ?_
  refine W.seq ?_
  refine W.region _ ?_
  refine WG.run tab_ok 2 rfl ?_
  refine WG.nil ?_
  refine WE.nxt ?_
  refine W.condN rfl (fun hc0 => ?_) (fun hc0 => ?_)
  · try dsimp only at hc0
    exact absurd rfl hc0
  · try dsimp only at hc0
    refine W.skip ?_
    refine WE.nxt ?_
    refine W.seq ?_
    refine W.seq ?_
    refine W.region _ ?_
    refine' WG.y rfl rfl (by decide) (Yl.load1 tab_ok rfl rfl rfl (fun _ => rfl) ?r2 rfl ?h2) ?_
    case r2 => (exact Rd.blk 2 rfl)
    case h2 => rfl
    refine WL.call en150 rfl rfl (by decide) (CallOp.mkT rfl rfl rfl rfl) (CNormalV_C hvg hb w0 _) ?_
    rintro _ R2 _ hR2 ⟨fa2x, ca2x, rfl, ha2x, hsub⟩
    refine WL.subE hsub ?_
    unfold cvV
    dsimp only at ha2x ⊢
    have ha1x := ha1x.mono hR2
    refine WG.run tab_ok 3 rfl ?_
    refine WL.efN rfl rfl (Ef.store0 0 tab_ok rfl rfl rfl rfl rfl rfl rfl rfl ?_)
    refine WG.run tab_ok 1 rfl ?_
    refine WG.nil ?_
    refine WE.nxt ?_
    refine W.seq ?_
    refine W.region _ ?_
    refine WG.run tab_ok 2 rfl ?_
    refine WG.nil ?_
    refine WE.nxt ?_
    refine W.condN rfl (fun hc1 => ?_) (fun hc1 => ?_)
    · try dsimp only at hc1
      exact absurd rfl hc1
    · try dsimp only at hc1
      refine W.skip ?_
      refine WE.nxt ?_
      refine W.seq ?_
      refine W.seq ?_
      refine W.region _ ?_
      refine WG.run tab_ok 1 rfl ?_
      refine' WG.y rfl rfl (by decide) (Yl.load1 tab_ok rfl rfl rfl (fun _ => rfl) ?r3 rfl ?h3) ?_
      case r3 => apply Rd.add; (exact Rd.blk 1 rfl)
      case h3 => rfl
      refine WG.run tab_ok 1 rfl ?_
      refine' WG.y rfl rfl (by decide) (Yl.load1 tab_ok rfl rfl rfl (fun _ => rfl) ?r4 rfl ?h4) ?_
      case r4 => apply Rd.add; (exact Rd.blk 0 rfl)
      case h4 => rfl
      refine WG.callV (v := .int .i64 (lcmN P1 P2 : Int)) en151 rfl rfl (by decide) (CallOp.mk' rfl rfl rfl rfl) (fun _ => rfl) (fun hg => by rw [hP1, hP2]; exact Common_V (by omega) (by omega)) ?_
      refine WG.run tab_ok 1 rfl ?_
      refine WG.nil ?_
      refine WE.nxt ?_
      refine W.seq ?_
      refine W.region _ ?_
      refine WG.run tab_ok 2 rfl ?_
      refine WG.nil ?_
      refine WE.nxt ?_
      refine W.condD rfl (fun hc2 => ?_) (fun hc2 => ?_)
      · try dsimp only at hc2
        refine W.seq ?_
        refine W.region _ ?_
        -- build
        refine WG.y rfl rfl (by decide) (Yl.build (parts := []) tab_ok rfl rfl rfl rfl (fun _ => rfl) rfl rfl) ?_
        -- build
        refine WG.y rfl rfl (by decide) (Yl.build (parts := []) tab_ok rfl rfl rfl rfl (fun _ => rfl) rfl rfl) ?_
        refine WL.efN rfl rfl (Ef.store0 1 tab_ok rfl rfl rfl rfl rfl rfl rfl rfl ?_)
        refine WL.efN rfl rfl (Ef.store0 0 tab_ok rfl rfl rfl rfl rfl rfl rfl rfl ?_)
        refine WG.run tab_ok 2 rfl ?_
        refine WG.nil ?_
        refine WE.nxt ?_
        refine W.ret ?_
        refine WE.then_ret ?_
        refine WE.retF tab_ok [_, _, _, _] rfl ⟨⟨_, _, _, rfl, rfl, rfl, ((by first | exact Rd.blk 0 rfl | exact Rd.blk 1 rfl | exact Rd.blk 2 rfl | exact Rd.blk 3 rfl | exact Rd.blk 4 rfl | exact Rd.blk 5 rfl)), rfl⟩, ⟨_, _, _, rfl, rfl, rfl, ((by first | exact Rd.blk 0 rfl | exact Rd.blk 1 rfl | exact Rd.blk 2 rfl | exact Rd.blk 3 rfl | exact Rd.blk 4 rfl | exact Rd.blk 5 rfl)), rfl⟩, rfl, rfl, trivial⟩ (hR1.trans hR2) ?_
        exact ⟨rfl, qS⟩
      · try dsimp only at hc2
        omega

theorem PBoth_ok {R : Ro} {fa : Option Addr} {fc : Nat} {cf : Cv} (hvf : validB cf = true) (ha : RS R 1 encI fa cf.vals) {ga : Option Addr} {gc : Nat} {cg : Cv} (hvg : validB cg = true) (hb : RS R 1 encI ga cg.vals) (hl : lcmC (normR cf) (normR cg) ≤ 120) (w0 : World) (E : List Ent) : K.Fn Tryz.prog 171 [.agg #[.slice fa cf.vals.length fc, .int .i64 cf.per, .int .i64 cf.inc], .agg #[.slice ga cg.vals.length gc, .int .i64 cg.per, .int .i64 cg.inc]] w0 R E (fun v R' E' => ∃ (a1 a2 : Option Addr) (c1 c2 : Nat), v = .tuple #[.agg #[.slice a1 (normR cf).vals.length c1, .int .i64 (normR cf).per, .int .i64 (normR cf).inc], .agg #[.slice a2 (normR cg).vals.length c2, .int .i64 (normR cg).per, .int .i64 (normR cg).inc], .int .i64 (lcmC (normR cf) (normR cg) : Int), .int .i64 0] ∧ RS R' 1 encI a1 (normR cf).vals ∧ RS R' 1 encI a2 (normR cg).vals ∧ E.Sublist E') := by
  have hnf := norm_nrm hvf
  have hng := norm_nrm hvg
  obtain ⟨_, f1, f2, f3, f4, f5, f6, f7⟩ := valid_range hnf.valid
  obtain ⟨_, g1, g2, g3, g4, g5, g6, g7⟩ := valid_range hng.valid
  obtain ⟨P1, hP1⟩ := Int.eq_ofNat_of_zero_le (show 0 ≤ (normR cf).per by omega)
  obtain ⟨P2, hP2⟩ := Int.eq_ofNat_of_zero_le (show 0 ≤ (normR cg).per by omega)
  have hlc : lcmC (normR cf) (normR cg) = lcmN P1 P2 := by unfold lcmC; rw [hP1, hP2]; rfl
  have hlb : lcmN P1 P2 ≤ 14400 := Nat.le_trans (lcmN_facts (by omega) (by omega)).2.2.1 (Nat.mul_le_mul (show P1 ≤ 120 by omega) (show P2 ≤ 120 by omega))
  have hlp := (lcmN_facts (a := P1) (b := P2) (by omega) (by omega)).2.2.2
  rw [hlc] at hl
  rw [hlc]
  refine Fn.enter (n := 40) Tryz.func171 rfl rfl (Nat.le_of_ble_eq_true rfl) rfl ?_
  refine W.seq ?_
  refine W.region _ ?_
  refine WL.ef rfl rfl (by decide) (Ef.box rfl rfl (fun b2 => ?_))
  refine WL.ef rfl rfl (by decide) (Ef.box rfl rfl (fun b3 => ?_))
  refine WL.ef rfl rfl (by decide) (Ef.alloc tab_ok rfl rfl (fun b4 => ?_))
  refine WL.ef rfl rfl (by decide) (Ef.alloc tab_ok rfl rfl (fun b5 => ?_))
  refine WG.run tab_ok 2 rfl ?_
  refine WG.nil ?_
  refine WE.nxt ?_
  refine W.seq ?_
  refine W.seq ?_
  refine W.region _ ?_
  refine' WG.y rfl rfl (by decide) (Yl.load1 tab_ok rfl rfl rfl (fun _ => rfl) ?r1 rfl ?h1) ?_
  case r1 => (exact Rd.blk 3 rfl)
  case h1 => rfl
  refine WL.call en150 rfl rfl (by decide) (CallOp.mkT rfl rfl rfl rfl) (CNormalV_C hvf ha w0 _) ?_
  rintro _ R1 _ hR1 ⟨fa1x, ca1x, rfl, ha1x, hsub⟩
  refine WL.subE hsub ?_
  unfold cvV
  dsimp only at ha1x ⊢
  have hb := hb.mono hR1
  refine WG.run tab_ok 3 rfl ?_
  refine WL.efN rfl rfl (Ef.store0 1 tab_ok rfl rfl rfl rfl rfl rfl rfl rfl ?_)
  refine WG.run tab_ok 1 rfl ?_
  refine WG.nil ?_
  refine WE.nxt ?_
  refine W.seq ?_
  refine W.region _ ?_
  refine WG.run tab_ok 2 rfl ?_
  refine WG.nil ?_
  refine WE.nxt ?_
  refine W.condN rfl (fun hc0 => ?_) (fun hc0 => ?_)
  · try dsimp only at hc0
    exact absurd rfl hc0
  · try dsimp only at hc0
    refine W.skip ?_
    refine WE.nxt ?_
    refine W.seq ?_
    refine W.seq ?_
    refine W.region _ ?_
    refine' WG.y rfl rfl (by decide) (Yl.load1 tab_ok rfl rfl rfl (fun _ => rfl) ?r2 rfl ?h2) ?_
    case r2 => (exact Rd.blk 2 rfl)
    case h2 => rfl
    refine WL.call en150 rfl rfl (by decide) (CallOp.mkT rfl rfl rfl rfl) (CNormalV_C hvg hb w0 _) ?_
    rintro _ R2 _ hR2 ⟨fa2x, ca2x, rfl, ha2x, hsub⟩
    refine WL.subE hsub ?_
    unfold cvV
    dsimp only at ha2x ⊢
    have ha1x := ha1x.mono hR2
    refine WG.run tab_ok 3 rfl ?_
    refine WL.efN rfl rfl (Ef.store0 0 tab_ok rfl rfl rfl rfl rfl rfl rfl rfl ?_)
    refine WG.run tab_ok 1 rfl ?_
    refine WG.nil ?_
    refine WE.nxt ?_
    refine W.seq ?_
    refine W.region _ ?_
    refine WG.run tab_ok 2 rfl ?_
    refine WG.nil ?_
    refine WE.nxt ?_
    refine W.condN rfl (fun hc1 => ?_) (fun hc1 => ?_)
    · try dsimp only at hc1
      exact absurd rfl hc1
    · try dsimp only at hc1
      refine W.skip ?_
      refine WE.nxt ?_
      refine W.seq ?_
      refine W.seq ?_
      refine W.region _ ?_
      refine WG.run tab_ok 1 rfl ?_
      refine' WG.y rfl rfl (by decide) (Yl.load1 tab_ok rfl rfl rfl (fun _ => rfl) ?r3 rfl ?h3) ?_
      case r3 => apply Rd.add; (exact Rd.blk 1 rfl)
      case h3 => rfl
      refine WG.run tab_ok 1 rfl ?_
      refine' WG.y rfl rfl (by decide) (Yl.load1 tab_ok rfl rfl rfl (fun _ => rfl) ?r4 rfl ?h4) ?_
      case r4 => apply Rd.add; (exact Rd.blk 0 rfl)
      case h4 => rfl
      refine WG.callV (v := .int .i64 (lcmN P1 P2 : Int)) en151 rfl rfl (by decide) (CallOp.mk' rfl rfl rfl rfl) (fun _ => rfl) (fun hg => by rw [hP1, hP2]; exact Common_V (by omega) (by omega)) ?_
      refine WG.run tab_ok 1 rfl ?_
      refine WG.nil ?_
      refine WE.nxt ?_
      refine W.seq ?_
      refine W.region _ ?_
      refine WG.run tab_ok 2 rfl ?_
      refine WG.nil ?_
      refine WE.nxt ?_
      refine W.condD rfl (fun hc2 => ?_) (fun hc2 => ?_)
      · try dsimp only at hc2
        omega
      · try dsimp only at hc2
        refine W.skip ?_
        refine WE.nxt ?_
        refine W.seq ?_
        refine W.regionH _ (ES := []) mixed ?_
        refine WA.take 2 rfl (by kernel_rfl) (by kernel_rfl) (by kernel_rfl) rfl rfl (by decide) (pureV_ok tab_ok rfl (fun _ => rfl)) qS (by first | exact RLe.refl _ | assumption) ?_
        refine WA.br2 (i := 0) (j := 1) (by kernel_rfl) ?_ ?_
        ·
          refine' WS.yl rfl rfl rfl (by decide) (Yl.load1 tab_ok rfl rfl rfl (fun _ => rfl) ?r5 rfl ?h5) qS (RLe.refl _) ?_
          case r5 => (exact Rd.blk 1 rfl)
          case h5 => rfl
          refine WA.br2 (i := 1) (j := 3) (by kernel_rfl) ?_ ?_
          ·
            refine' WS.yl rfl rfl rfl (by decide) (Yl.load1 tab_ok rfl rfl rfl (fun _ => rfl) ?r6 rfl ?h6) qS (RLe.refl _) ?_
            case r6 => (exact Rd.blk 0 rfl)
            case h6 => rfl
            refine WA.effN 3 rfl (by kernel_rfl) rfl rfl (Ef.store0 1 tab_ok rfl rfl rfl rfl rfl rfl rfl rfl ?_)
            refine ⟨by first | exact RLe.refl _ | assumption, qS, ?_⟩
            refine WA.effN 4 rfl (by kernel_rfl) rfl rfl (Ef.store0 0 tab_ok rfl rfl rfl rfl rfl rfl rfl rfl ?_)
            refine ⟨by first | exact RLe.refl _ | assumption, qS, ?_⟩
            refine WA.take 5 rfl (by kernel_rfl) (by kernel_rfl) (by kernel_rfl) rfl rfl (by decide) (pureV_ok tab_ok rfl (fun _ => rfl)) qS (by first | exact RLe.refl _ | assumption) ?_
            refine WA.take 6 rfl (by kernel_rfl) (by kernel_rfl) (by kernel_rfl) rfl rfl (by decide) (pureV_ok tab_ok rfl (fun _ => rfl)) qS (by first | exact RLe.refl _ | assumption) ?_
            refine WA.done (by kernel_rfl) ?_
            refine WE.nxt ?_
            refine W.ret ?_
            refine WE.retF tab_ok [_, _, _, _] rfl ⟨⟨_, _, _, rfl, rfl, rfl, ((by first | exact Rd.blk 0 rfl | exact Rd.blk 1 rfl | exact Rd.blk 2 rfl | exact Rd.blk 3 rfl | exact Rd.blk 4 rfl | exact Rd.blk 5 rfl)), rfl⟩, ⟨_, _, _, rfl, rfl, rfl, ((by first | exact Rd.blk 0 rfl | exact Rd.blk 1 rfl | exact Rd.blk 2 rfl | exact Rd.blk 3 rfl | exact Rd.blk 4 rfl | exact Rd.blk 5 rfl)), rfl⟩, rfl, rfl, trivial⟩ (hR1.trans hR2) ?_
            exact ⟨_, _, _, _, rfl, ha1x, ha2x, qS⟩
          ·
            refine WS.effN rfl rfl rfl (Ef.store0 1 tab_ok rfl rfl rfl rfl rfl rfl rfl rfl ?_)
            refine ⟨by first | exact RLe.refl _ | assumption, qS, ?_⟩
            refine' WA.yl 1 rfl (by kernel_rfl) rfl rfl (by decide) (Yl.load1 tab_ok rfl rfl rfl (fun _ => rfl) ?r7 rfl ?h7) qS (RLe.refl _) ?_
            case r7 => (exact Rd.blk 0 rfl)
            case h7 => rfl
            refine WA.effN 4 rfl (by kernel_rfl) rfl rfl (Ef.store0 0 tab_ok rfl rfl rfl rfl rfl rfl rfl rfl ?_)
            refine ⟨by first | exact RLe.refl _ | assumption, qS, ?_⟩
            refine WA.take 5 rfl (by kernel_rfl) (by kernel_rfl) (by kernel_rfl) rfl rfl (by decide) (pureV_ok tab_ok rfl (fun _ => rfl)) qS (by first | exact RLe.refl _ | assumption) ?_
            refine WA.take 6 rfl (by kernel_rfl) (by kernel_rfl) (by kernel_rfl) rfl rfl (by decide) (pureV_ok tab_ok rfl (fun _ => rfl)) qS (by first | exact RLe.refl _ | assumption) ?_
            refine WA.done (by kernel_rfl) ?_
            refine WE.nxt ?_
            refine W.ret ?_
            refine WE.retF tab_ok [_, _, _, _] rfl ⟨⟨_, _, _, rfl, rfl, rfl, ((by first | exact Rd.blk 0 rfl | exact Rd.blk 1 rfl | exact Rd.blk 2 rfl | exact Rd.blk 3 rfl | exact Rd.blk 4 rfl | exact Rd.blk 5 rfl)), rfl⟩, ⟨_, _, _, rfl, rfl, rfl, ((by first | exact Rd.blk 0 rfl | exact Rd.blk 1 rfl | exact Rd.blk 2 rfl | exact Rd.blk 3 rfl | exact Rd.blk 4 rfl | exact Rd.blk 5 rfl)), rfl⟩, rfl, rfl, trivial⟩ (hR1.trans hR2) ?_
            exact ⟨_, _, _, _, rfl, ha1x, ha2x, qS⟩
        ·
          refine' WS.yl rfl rfl rfl (by decide) (Yl.load1 tab_ok rfl rfl rfl (fun _ => rfl) ?r8 rfl ?h8) qS (RLe.refl _) ?_
          case r8 => (exact Rd.blk 0 rfl)
          case h8 => rfl
          refine' WA.yl 0 rfl (by kernel_rfl) rfl rfl (by decide) (Yl.load1 tab_ok rfl rfl rfl (fun _ => rfl) ?r9 rfl ?h9) qS (RLe.refl _) ?_
          case r9 => (exact Rd.blk 1 rfl)
          case h9 => rfl
          refine WA.effN 3 rfl (by kernel_rfl) rfl rfl (Ef.store0 1 tab_ok rfl rfl rfl rfl rfl rfl rfl rfl ?_)
          refine ⟨by first | exact RLe.refl _ | assumption, qS, ?_⟩
          refine WA.effN 4 rfl (by kernel_rfl) rfl rfl (Ef.store0 0 tab_ok rfl rfl rfl rfl rfl rfl rfl rfl ?_)
          refine ⟨by first | exact RLe.refl _ | assumption, qS, ?_⟩
          refine WA.take 5 rfl (by kernel_rfl) (by kernel_rfl) (by kernel_rfl) rfl rfl (by decide) (pureV_ok tab_ok rfl (fun _ => rfl)) qS (by first | exact RLe.refl _ | assumption) ?_
          refine WA.take 6 rfl (by kernel_rfl) (by kernel_rfl) (by kernel_rfl) rfl rfl (by decide) (pureV_ok tab_ok rfl (fun _ => rfl)) qS (by first | exact RLe.refl _ | assumption) ?_
          refine WA.done (by kernel_rfl) ?_
          refine WE.nxt ?_
          refine W.ret ?_
          refine WE.retF tab_ok [_, _, _, _] rfl ⟨⟨_, _, _, rfl, rfl, rfl, ((by first | exact Rd.blk 0 rfl | exact Rd.blk 1 rfl | exact Rd.blk 2 rfl | exact Rd.blk 3 rfl | exact Rd.blk 4 rfl | exact Rd.blk 5 rfl)), rfl⟩, ⟨_, _, _, rfl, rfl, rfl, ((by first | exact Rd.blk 0 rfl | exact Rd.blk 1 rfl | exact Rd.blk 2 rfl | exact Rd.blk 3 rfl | exact Rd.blk 4 rfl | exact Rd.blk 5 rfl)), rfl⟩, rfl, rfl, trivial⟩ (hR1.trans hR2) ?_
          exact ⟨_, _, _, _, rfl, ha1x, ha2x, qS⟩

theorem PBoth_C {R : Ro} {fa : Option Addr} {fc : Nat} {cf : Cv} (hvf : validB cf = true) (ha : RS R 1 encI fa cf.vals) {ga : Option Addr} {gc : Nat} {cg : Cv} (hvg : validB cg = true) (hb : RS R 1 encI ga cg.vals) (w0 : World) (E : List Ent) : K.Fn Tryz.prog 171 [.agg #[.slice fa cf.vals.length fc, .int .i64 cf.per, .int .i64 cf.inc], .agg #[.slice ga cg.vals.length gc, .int .i64 cg.per, .int .i64 cg.inc]] w0 R E (fun v R' E' => ∃ (a1 a2 : Option Addr) (c1 c2 : Nat) (x y : Cv) (l e : Int), v = .tuple #[.agg #[.slice a1 x.vals.length c1, .int .i64 x.per, .int .i64 x.inc], .agg #[.slice a2 y.vals.length c2, .int .i64 y.per, .int .i64 y.inc], .int .i64 l, .int .i64 e] ∧ RS R' 1 encI a1 x.vals ∧ RS R' 1 encI a2 y.vals ∧ ((120 < lcmC (normR cf) (normR cg) ∧ e = 3) ∨ (lcmC (normR cf) (normR cg) ≤ 120 ∧ x = normR cf ∧ y = normR cg ∧ l = (lcmC (normR cf) (normR cg) : Int) ∧ e = 0)) ∧ E.Sublist E') := by
  rcases Nat.lt_or_ge 120 (lcmC (normR cf) (normR cg)) with hl | hl
  · refine (PBoth_lim hvf ha hvg hb hl w0 E).mono ?_
    rintro v R' E' hR ⟨rfl, hsub⟩
    exact ⟨none, none, 0, 0, zcv, zcv, 0, 3, rfl, rs_nil, rs_nil, .inl ⟨hl, rfl⟩, hsub⟩
  · refine (PBoth_ok hvf ha hvg hb hl w0 E).mono ?_
    rintro v R' E' hR ⟨a1, a2, c1, c2, rfl, h1, h2, hsub⟩
    exact ⟨a1, a2, c1, c2, _, _, _, 0, rfl, h1, h2, .inr ⟨hl, rfl, rfl, rfl, rfl⟩, hsub⟩

theorem SumF_V {R : Ro} {fa : Option Addr} {fc : Nat} {cf : Cv} (hvf : validB cf = true) (ha : RS R 1 encI fa cf.vals) {ga : Option Addr} {gc : Nat} {cg : Cv} (hvg : validB cg = true) (hb : RS R 1 encI ga cg.vals) {b6 b7 : Nat} (h6 : R b6 = some [.slice fa cf.vals.length fc, .int .i64 cf.per, .int .i64 cf.inc]) (h7 : R b7 = some [.slice ga cg.vals.length gc, .int .i64 cg.per, .int .i64 cg.inc]) {t : Nat} (ht : t ≤ 1000000) : FnV Tryz.prog 172 [.int .i64 (t : Int), .pointer (some ⟨b6, 0, none⟩), .pointer (some ⟨b7, 0, none⟩)] R (.int .i64 (plusF cf cg t)) := by
  refine Fn.toV (fun w0 E => ?_)
  have hbf := cvF_bound hvf t
  have hbg := cvF_bound hvg t
  have i1 := isInf_iff hvf (t := t) (by omega)
  have i2 := isInf_iff hvg (t := t) (by omega)
  have hpl : plusF cf cg t = if cvF cf t = 4611686018427387904 ∨ cvF cg t = 4611686018427387904 then 4611686018427387904 else cvF cf t + cvF cg t := by
    unfold plusF
    by_cases h : isInf cf t ∨ isInf cg t
    · rw [if_pos h]; exact (if_pos (h.imp i1.1 i2.1)).symm
    · rw [if_neg h]; exact (if_neg (fun hh => h (hh.imp i1.2 i2.2))).symm
  unfold INF at hbf hbg
  refine Fn.enter (n := 12) Tryz.func172 rfl rfl (Nat.le_of_ble_eq_true rfl) rfl ?_
  refine W.seq ?_
  refine W.region _ ?_
  refine WG.run tab_ok 1 rfl ?_
  refine WG.nil ?_
  refine WE.nxt ?_
  refine W.seq ?_
  refine W.regionQ _ mixed (by kernel_rfl) ?_
  refine' WG.y rfl rfl (by decide) (Yl.load1 tab_ok rfl rfl rfl (fun _ => rfl) ?r1 rfl ?h1) ?_
  case r1 => exact Rd.ro h6
  case h1 => rfl
  refine WG.run tab_ok 1 rfl ?_
  refine WG.callV en116 rfl rfl (by decide) (CallOp.mk' rfl rfl rfl rfl) (fun _ => rfl) (fun hg => WAtG_V hvf ha (by omega)) ?_
  refine' WG.y rfl rfl (by decide) (Yl.load1 tab_ok rfl rfl rfl (fun _ => rfl) ?r2 rfl ?h2) ?_
  case r2 => exact Rd.ro h7
  case h2 => rfl
  refine WG.run tab_ok 1 rfl ?_
  refine WG.callV en116 rfl rfl (by decide) (CallOp.mk' rfl rfl rfl rfl) (fun _ => rfl) (fun hg => WAtG_V hvg hb (by omega)) ?_
  refine WG.callV en173 rfl rfl (by decide) (CallOp.mk' rfl rfl rfl rfl) (fun _ => rfl) (fun hg => WPlus_V (by omega) (by omega)) ?_
  refine WG.run tab_ok 1 rfl ?_
  refine WG.nil ?_
  refine WE.nxt ?_
  refine W.ret ?_
  refine WE.subE (E' := E) qS ?_
  refine WE.retF tab_ok [_] rfl ⟨rfl, trivial⟩ (RLe.refl _) ?_
  exact ⟨by rw [hpl]; rfl, rfl⟩

set_option maxHeartbeats 1000000 in
theorem PSum_C {R : Ro} {fa : Option Addr} {fc : Nat} {cf : Cv} (hvf : validB cf = true) (ha : RS R 1 encI fa cf.vals) {ga : Option Addr} {gc : Nat} {cg : Cv} (hvg : validB cg = true) (hb : RS R 1 encI ga cg.vals) (w0 : World) (E : List Ent) : K.Fn Tryz.prog 156 [.agg #[.slice fa cf.vals.length fc, .int .i64 cf.per, .int .i64 cf.inc], .agg #[.slice ga cg.vals.length gc, .int .i64 cg.per, .int .i64 cg.inc]] w0 R E (fun r R' E' => ∃ (f : Option Addr) (fc : Nat), r = cvV f fc (sumC cf cg) ∧ RS R' 1 encI f (sumC cf cg).1.vals ∧ E.Sublist E') := by
  have hnf := norm_nrm hvf
  have hng := norm_nrm hvg
  obtain ⟨_, f1, f2, f3, f4, f5, f6, f7⟩ := valid_range hnf.valid
  obtain ⟨_, g1, g2, g3, g4, g5, g6, g7⟩ := valid_range hng.valid
  obtain ⟨P1, hP1⟩ := Int.eq_ofNat_of_zero_le (show 0 ≤ (normR cf).per by omega)
  obtain ⟨P2, hP2⟩ := Int.eq_ofNat_of_zero_le (show 0 ≤ (normR cg).per by omega)
  have hlc : lcmC (normR cf) (normR cg) = lcmN P1 P2 := by unfold lcmC; rw [hP1, hP2]; rfl
  have hlb : lcmN P1 P2 ≤ 14400 := Nat.le_trans (lcmN_facts (by omega) (by omega)).2.2.1 (Nat.mul_le_mul (show P1 ≤ 120 by omega) (show P2 ≤ 120 by omega))
  have hlp := (lcmN_facts (a := P1) (b := P2) (by omega) (by omega)).2.2.2
  have hs1 := stN_lt hnf.valid
  have hs2 := stN_lt hng.valid
  refine Fn.enter (n := 41) Tryz.func156 rfl rfl (Nat.le_of_ble_eq_true rfl) rfl ?_
  refine W.seq ?_
  refine W.region _ ?_
  refine WL.ef rfl rfl (by decide) (Ef.box rfl rfl (fun b2 => ?_))
  refine WL.ef rfl rfl (by decide) (Ef.box rfl rfl (fun b3 => ?_))
  refine WL.ef rfl rfl (by decide) (Ef.alloc tab_ok rfl rfl (fun b4 => ?_))
  refine WG.run tab_ok 1 rfl ?_
  refine WG.nil ?_
  refine WE.nxt ?_
  refine W.seq ?_
  refine W.region _ ?_
  refine' WG.y rfl rfl (by decide) (Yl.load1 tab_ok rfl rfl rfl (fun _ => rfl) ?r1 rfl ?h1) ?_
  case r1 => (exact Rd.blk 2 rfl)
  case h1 => rfl
  refine' WG.y rfl rfl (by decide) (Yl.load1 tab_ok rfl rfl rfl (fun _ => rfl) ?r2 rfl ?h2) ?_
  case r2 => (exact Rd.blk 1 rfl)
  case h2 => rfl
  refine WL.call en171 rfl rfl (by decide) (CallOp.mkT rfl rfl rfl rfl) (PBoth_C hvf ha hvg hb w0 _) ?_
  rintro _ R1 _ hR1 ⟨a1, a2, c1, c2, x, y, l, e, rfl, hx1, hx2, hcase, hsub⟩
  refine WL.subE hsub ?_
  refine WG.run tab_ok 5 rfl ?_
  refine WL.ef rfl rfl (by decide) (Ef.alloc tab_ok rfl rfl (fun b6 => ?_))
  refine WL.ef rfl rfl (by decide) (Ef.alloc tab_ok rfl rfl (fun b7 => ?_))
  refine WL.efN rfl rfl (Ef.store0 1 tab_ok rfl rfl rfl rfl rfl rfl rfl rfl ?_)
  refine WL.efN rfl rfl (Ef.store0 0 tab_ok rfl rfl rfl rfl rfl rfl rfl rfl ?_)
  refine WG.run tab_ok 2 rfl ?_
  refine WG.nil ?_
  refine WE.nxt ?_
  refine W.seq ?_
  refine W.seq ?_
  refine W.region _ ?_
  refine WG.run tab_ok 2 rfl ?_
  refine WG.nil ?_
  refine WE.nxt ?_
  refine W.condN rfl (fun hc0 => ?_) (fun hc0 => ?_)
  · try dsimp only at hc0
    obtain ⟨hl, rfl⟩ : 120 < lcmC (normR cf) (normR cg) ∧ e = 3 := by
      rcases hcase with h | h
      · exact h
      · exact absurd h.2.2.2.2 (by omega)
    have hd : sumC cf cg = (zcv, 3) := by unfold sumC; rw [if_neg (by rw [hvf, hvg]; simp), if_pos (by omega)]
    refine W.seq ?_
    refine W.region _ ?_
    -- build
    refine WG.y rfl rfl (by decide) (Yl.build (parts := []) tab_ok rfl rfl rfl rfl (fun _ => rfl) rfl rfl) ?_
    refine WG.run tab_ok 1 rfl ?_
    refine WL.efN rfl rfl (Ef.store0 2 tab_ok rfl rfl rfl rfl rfl rfl rfl rfl ?_)
    refine WG.run tab_ok 1 rfl ?_
    refine WG.nil ?_
    refine WE.nxt ?_
    refine W.ret ?_
    refine WE.then_ret ?_
    refine WE.retF tab_ok [_, _] rfl ⟨⟨_, _, _, rfl, rfl, rfl, ((by first | exact Rd.blk 0 rfl | exact Rd.blk 1 rfl | exact Rd.blk 2 rfl | exact Rd.blk 3 rfl | exact Rd.blk 4 rfl | exact Rd.blk 5 rfl)), rfl⟩, rfl, trivial⟩ ((by first | exact hR1 | exact hR1.trans (hR2.trans (hR3.trans hR4)))) ?_
    exact ⟨none, 0, by rw [hd]; rfl, by rw [hd]; exact rs_nil, qS⟩
  · try dsimp only at hc0
    obtain ⟨hl, rfl, rfl, rfl, rfl⟩ : lcmC (normR cf) (normR cg) ≤ 120 ∧ x = normR cf ∧ y = normR cg ∧ l = (lcmC (normR cf) (normR cg) : Int) ∧ e = 0 := by
      rcases hcase with h | h
      · exact absurd h.2 (by omega)
      · exact h
    rw [hlc] at hl ⊢
    have hd : sumC cf cg = mbuild (plusF (normR cf) (normR cg)) (max (stN (normR cf)) (stN (normR cg))) (lcmN P1 P2) (gainC (normR cf) (lcmN P1 P2) + gainC (normR cg) (lcmN P1 P2)) := by unfold sumC; rw [if_neg (by rw [hvf, hvg]; simp), if_neg (by omega), hlc]
    have hga : 0 ≤ gainC (normR cf) (lcmN P1 P2) ∧ gainC (normR cf) (lcmN P1 P2) ≤ 120 * 1073741824 := by
      unfold gainC
      have hd0 : 0 ≤ ((lcmN P1 P2) : Int) / (normR cf).per := Int.ediv_nonneg (by omega) (by omega)
      have hd1 : ((lcmN P1 P2) : Int) / (normR cf).per ≤ (lcmN P1 P2) := Int.ediv_le_self _ (by omega)
      exact mulB (by omega) (by omega)
    have hgb : 0 ≤ gainC (normR cg) (lcmN P1 P2) ∧ gainC (normR cg) (lcmN P1 P2) ≤ 120 * 1073741824 := by
      unfold gainC
      have hd0 : 0 ≤ ((lcmN P1 P2) : Int) / (normR cg).per := Int.ediv_nonneg (by omega) (by omega)
      have hd1 : ((lcmN P1 P2) : Int) / (normR cg).per ≤ (lcmN P1 P2) := Int.ediv_le_self _ (by omega)
      exact mulB (by omega) (by omega)
    have hmx : (if (stN (normR cf) : Int) < (stN (normR cg) : Int) then (stN (normR cg) : Int) else (stN (normR cf) : Int)) = ((max (stN (normR cf)) (stN (normR cg)) : Nat) : Int) := by split <;> omega
    have hpb : ∀ t : Nat, t ≤ 1000 → (plusF (normR cf) (normR cg)) t = INF ∨ (0 ≤ (plusF (normR cf) (normR cg)) t ∧ (plusF (normR cf) (normR cg)) t ≤ 1000000000000000) := fun t ht => by
      unfold plusF
      by_cases h : isInf (normR cf) t ∨ isInf (normR cg) t
      · rw [if_pos h]; exact .inl rfl
      · rw [if_neg h]
        have a1 := fin_part hnf.valid (fun x => h (.inl x)) (show t ≤ 1000000000 by omega)
        have a2 := fin_part hng.valid (fun x => h (.inr x)) (show t ≤ 1000000000 by omega)
        right; omega
    refine W.skip ?_
    refine WE.nxt ?_
    refine W.seq ?_
    refine W.region _ ?_
    refine WG.run tab_ok 2 rfl ?_
    refine WG.nil ?_
    refine WE.nxt ?_
    refine W.freezeBlk 0 rfl ?_
    intro R2 hR2 h7
    refine W.freezeBlk 0 rfl ?_
    intro R3 hR3 h6
    have h7 := hR3 _ _ h7
    have hx1 := hx1.mono (hR2.trans hR3)
    have hx2 := hx2.mono (hR2.trans hR3)
    have hF : ∀ t : Nat, t < max (stN (normR cf)) (stN (normR cg)) + (lcmN P1 P2) → FnV Tryz.prog 172 ((#[] : Array Value).toList ++ [.int .i64 (t : Int)] ++ (#[.pointer (some ⟨b6, 0, none⟩), .pointer (some ⟨b7, 0, none⟩)] : Array Value).toList) R3 (.int .i64 ((plusF (normR cf) (normR cg)) t)) := fun t ht => SumF_V hnf.valid hx1 hng.valid hx2 h6 h7 (by omega)
    refine W.seq ?_
    refine W.regionH _ (ES := []) mixed ?_
    refine WA.take 0 rfl (by kernel_rfl) (by kernel_rfl) (by kernel_rfl) rfl rfl (by decide) (pureV_ok tab_ok rfl (fun _ => rfl)) qS (by first | exact RLe.refl _ | assumption) ?_
    refine' WA.take 1 rfl (by kernel_rfl) (by kernel_rfl) (by kernel_rfl) rfl rfl (by decide) (Yl.load1 tab_ok rfl rfl rfl (fun _ => rfl) ?r3 rfl ?h3) qS (by first | exact RLe.refl _ | assumption) ?_
    case r3 => (exact Rd.ro (by assumption))
    case h3 => rfl
    refine' WA.take 3 rfl (by kernel_rfl) (by kernel_rfl) (by kernel_rfl) rfl rfl (by decide) (Yl.load1 tab_ok rfl rfl rfl (fun _ => rfl) ?r4 rfl ?h4) qS (by first | exact RLe.refl _ | assumption) ?_
    case r4 => (exact Rd.ro (by assumption))
    case h4 => rfl
    refine WA.take 6 rfl (by kernel_rfl) (by kernel_rfl) (by kernel_rfl) rfl rfl (by decide) (pureV_ok tab_ok rfl (fun _ => rfl)) qS (by first | exact RLe.refl _ | assumption) ?_
    refine' WA.take 7 rfl (by kernel_rfl) (by kernel_rfl) (by kernel_rfl) rfl rfl (by decide) (Yl.load1 tab_ok rfl rfl rfl (fun _ => rfl) ?r5 rfl ?h5) qS (by first | exact RLe.refl _ | assumption) ?_
    case r5 => (exact Rd.ro (by assumption))
    case h5 => rfl
    refine WA.take 8 rfl (by kernel_rfl) (by kernel_rfl) (by kernel_rfl) rfl rfl (by decide) (pureV_ok tab_ok rfl (fun _ => rfl)) qS (by first | exact RLe.refl _ | assumption) ?_
    refine' WA.take 10 rfl (by kernel_rfl) (by kernel_rfl) (by kernel_rfl) rfl rfl (by decide) (Yl.load1 tab_ok rfl rfl rfl (fun _ => rfl) ?r6 rfl ?h6) qS (by first | exact RLe.refl _ | assumption) ?_
    case r6 => (exact Rd.ro (by assumption))
    case h6 => rfl
    refine WA.take 11 rfl (by kernel_rfl) (by kernel_rfl) (by kernel_rfl) rfl rfl (by decide) (pureV_ok tab_ok rfl (fun _ => rfl)) qS (by first | exact RLe.refl _ | assumption) ?_
    refine WA.callG 2 rfl (by kernel_rfl) en152 rfl (by first | rfl | decide) rfl (by decide) (CallOp.mkT rfl rfl rfl rfl) ((WStartG_V hnf.valid hx1).toFn) ?_
    rintro _ _ _ - ⟨rfl, rfl, rfl⟩
    refine ⟨by first | exact RLe.refl _ | assumption, qS, ?_⟩
    refine WA.callG 4 rfl (by kernel_rfl) en152 rfl (by first | rfl | decide) rfl (by decide) (CallOp.mkT rfl rfl rfl rfl) ((WStartG_V hng.valid hx2).toFn) ?_
    rintro _ _ _ - ⟨rfl, rfl, rfl⟩
    refine ⟨by first | exact RLe.refl _ | assumption, qS, ?_⟩
    refine WA.take 5 rfl (by kernel_rfl) (by kernel_rfl) (by kernel_rfl) rfl rfl (by decide) (pureV_ok tab_ok rfl (fun _ => rfl)) qS (by first | exact RLe.refl _ | assumption) ?_
    refine WA.callG 9 rfl (by kernel_rfl) en174 rfl (by first | rfl | decide) rfl (by decide) (CallOp.mkT rfl rfl rfl rfl) ((PGainG_V hnf.valid hx1 (by omega)).toFn) ?_
    rintro _ _ _ - ⟨rfl, rfl, rfl⟩
    refine ⟨by first | exact RLe.refl _ | assumption, qS, ?_⟩
    refine WA.callG 12 rfl (by kernel_rfl) en174 rfl (by first | rfl | decide) rfl (by decide) (CallOp.mkT rfl rfl rfl rfl) ((PGainG_V hng.valid hx2 (by omega)).toFn) ?_
    rintro _ _ _ - ⟨rfl, rfl, rfl⟩
    refine ⟨by first | exact RLe.refl _ | assumption, qS, ?_⟩
    refine WA.take 13 rfl (by kernel_rfl) (by kernel_rfl) (by kernel_rfl) rfl rfl (by decide) (Yl.add rfl rfl rfl (fun _ => rfl) (by intro _; constructor <;> (try dsimp only) <;> omega)) qS (by first | exact RLe.refl _ | assumption) ?_
    refine WA.callG 14 rfl (by kernel_rfl) en144 rfl (by first | rfl | decide) rfl (by decide) (CallOp.mkT rfl rfl rfl rfl) (hmx ▸ Build_C (S := max (stN (normR cf)) (stN (normR cg))) (P := (lcmN P1 P2)) (F := (plusF (normR cf) (normR cg))) en172 (by omega) (by omega) (by omega) (fun t ht => hpb t (by omega)) hF w0 _) ?_
    rintro _ R4 E4 hR4 ⟨fr, frc, rfl, hfr, hsub⟩
    refine ⟨hR4, List.nil_sublist _, ?_⟩
    refine WA.subE hsub ?_
    rw [← hd] at hfr ⊢
    unfold cvV
    refine WA.take 15 rfl (by kernel_rfl) (by kernel_rfl) (by kernel_rfl) rfl rfl (by decide) (pureV_ok tab_ok rfl (fun _ => rfl)) qS (by first | exact RLe.refl _ | assumption) ?_
    refine WA.take 16 rfl (by kernel_rfl) (by kernel_rfl) (by kernel_rfl) rfl rfl (by decide) (pureV_ok tab_ok rfl (fun _ => rfl)) qS (by first | exact RLe.refl _ | assumption) ?_
    refine WA.effN 17 rfl (by kernel_rfl) rfl rfl (Ef.store0 0 tab_ok rfl rfl rfl rfl rfl rfl rfl rfl ?_)
    refine ⟨by first | exact RLe.refl _ | assumption, qS, ?_⟩
    refine WA.take 18 rfl (by kernel_rfl) (by kernel_rfl) (by kernel_rfl) rfl rfl (by decide) (pureV_ok tab_ok rfl (fun _ => rfl)) qS (by first | exact RLe.refl _ | assumption) ?_
    refine WA.done (by kernel_rfl) ?_
    refine WE.nxt ?_
    refine W.ret ?_
    refine WE.retF tab_ok [_, _] rfl ⟨⟨_, _, _, rfl, rfl, rfl, ((by first | exact Rd.blk 0 rfl | exact Rd.blk 1 rfl | exact Rd.blk 2 rfl | exact Rd.blk 3 rfl | exact Rd.blk 4 rfl | exact Rd.blk 5 rfl)), rfl⟩, rfl, trivial⟩ ((by first | exact hR1 | exact hR1.trans (hR2.trans (hR3.trans hR4)))) ?_
    exact ⟨fr, frc, rfl, hfr, qS⟩

end Go.Proofs.YtlgjkmebpnnphaaGreat

/- Curves raised, totals. No condition. -/
set_option maxRecDepth 4000
set_option linter.unusedSimpArgs false
set_option linter.unusedVariables false
namespace Go.Proofs.YtlgjkmebpnnphaaGreat
open Go Go.RowKit Go.Proofs.YtlgjkmebpnnphaaGreat.K Go.Proofs.YtlgjkmebpnnphaaGreat.M

theorem FlatF_V {R : Ro} {b1 : Nat} {k : Int} (h1 : R b1 = some [.int .i64 k]) (hk : 0 ≤ k ∧ k ≤ 1073741824) {t : Nat} (ht : t ≤ 1000000) : FnV Tryz.prog 170 [.int .i64 (t : Int), .pointer (some ⟨b1, 0, none⟩)] R (.int .i64 (flatF k t)) := by
  refine Fn.toV (fun w0 E => ?_)
  have hfl : k * (if (1 : Int) < (t : Int) then (1 : Int) else (t : Int)) = flatF k t := by
    unfold flatF
    by_cases h : t = 0
    · subst h; simp
    · rw [if_neg h, show (if (1 : Int) < (t : Int) then (1 : Int) else (t : Int)) = 1 by split <;> omega, Int.mul_one]
  have hfb : 0 ≤ flatF k t ∧ flatF k t ≤ 1073741824 := by unfold flatF; split <;> omega
  refine Fn.enter (n := 8) Tryz.func170 rfl rfl (Nat.le_of_ble_eq_true rfl) rfl ?_
  refine W.seq ?_
  refine W.region _ ?_
  refine WG.run tab_ok 1 rfl ?_
  refine WG.nil ?_
  refine WE.nxt ?_
  refine W.seq ?_
  refine W.region _ ?_
  refine' WG.y rfl rfl (by decide) (Yl.load1 tab_ok rfl rfl rfl (fun _ => rfl) ?r1 rfl ?h1) ?_
  case r1 => exact Rd.ro h1
  case h1 => rfl
  refine WG.run tab_ok 2 rfl ?_
  refine WG.y rfl rfl (by decide) (Yl.mul rfl rfl rfl (fun _ => rfl) (by intro _; constructor <;> (try dsimp only) <;> omega)) ?_
  refine WG.run tab_ok 1 rfl ?_
  refine WG.nil ?_
  refine WE.nxt ?_
  refine W.ret ?_
  refine WE.subE (E' := E) qS ?_
  refine WE.retF tab_ok [_] rfl ⟨rfl, trivial⟩ (RLe.refl _) ?_
  exact ⟨by rw [← hfl]; rfl, rfl⟩

theorem CFlat_C {R : Ro} {k : Int} (hk : 0 ≤ k ∧ k ≤ 1073741824) (w0 : World) (E : List Ent) : K.Fn Tryz.prog 155 [.int .i64 k] w0 R E (fun r R' E' => ∃ (f : Option Addr) (fc : Nat), r = cvV f fc (flatC k) ∧ RS R' 1 encI f (flatC k).1.vals ∧ E.Sublist E') := by
  have hd : flatC k = mbuild (flatF k) 1 1 0 := rfl
  refine Fn.enter (n := 14) Tryz.func155 rfl rfl (Nat.le_of_ble_eq_true rfl) rfl ?_
  refine W.seq ?_
  refine W.region _ ?_
  refine WL.ef rfl rfl (by decide) (Ef.box rfl rfl (fun b1 => ?_))
  refine WL.ef rfl rfl (by decide) (Ef.alloc tab_ok rfl rfl (fun b2 => ?_))
  refine WG.run tab_ok 1 rfl ?_
  refine WG.nil ?_
  refine WE.nxt ?_
  refine W.seq ?_
  refine W.seq ?_
  refine W.region _ ?_
  refine' WG.y rfl rfl (by decide) (Yl.load1 tab_ok rfl rfl rfl (fun _ => rfl) ?r1 rfl ?h1) ?_
  case r1 => (exact Rd.blk 1 rfl)
  case h1 => rfl
  refine WG.run tab_ok 1 rfl ?_
  refine WG.nil ?_
  refine WE.nxt ?_
  refine W.condD rfl (fun hc0 => ?_) (fun hc0 => ?_)
  · try dsimp only at hc0
    omega
  · try dsimp only at hc0
    refine W.skip ?_
    refine WE.nxt ?_
    refine W.seq ?_
    refine W.seq ?_
    refine W.region _ ?_
    refine' WG.y rfl rfl (by decide) (Yl.load1 tab_ok rfl rfl rfl (fun _ => rfl) ?r2 rfl ?h2) ?_
    case r2 => (exact Rd.blk 1 rfl)
    case h2 => rfl
    refine WG.run tab_ok 1 rfl ?_
    refine WG.nil ?_
    refine WE.nxt ?_
    refine W.condD rfl (fun hc1 => ?_) (fun hc1 => ?_)
    · try dsimp only at hc1
      omega
    · try dsimp only at hc1
      refine W.skip ?_
      refine WE.nxt ?_
      refine W.freezeBlk 1 rfl ?_
      intro R2 hR2 h1
      have hF : ∀ t : Nat, t < 1 + 1 → FnV Tryz.prog 170 ((#[] : Array Value).toList ++ [.int .i64 (t : Int)] ++ (#[.pointer (some ⟨b1, 0, none⟩)] : Array Value).toList) R2 (.int .i64 (flatF k t)) := fun t ht => FlatF_V h1 hk (by omega)
      refine W.seq ?_
      refine W.region _ ?_
      refine WG.run tab_ok 1 rfl ?_
      refine WL.call en144 rfl rfl (by decide) (CallOp.mkT rfl rfl rfl rfl) (Build_C (S := 1) (P := 1) (F := flatF k) en170 (by omega) (by omega) (by omega) (fun t ht => .inr (flatF_bound hk t)) hF w0 _) ?_
      rintro _ R4 E4 hR4 ⟨fr, frc, rfl, hfr, hsub⟩
      refine WL.subE hsub ?_
      rw [← hd] at hfr ⊢
      unfold cvV
      refine WG.run tab_ok 2 rfl ?_
      refine WL.efN rfl rfl (Ef.store0 0 tab_ok rfl rfl rfl rfl rfl rfl rfl rfl ?_)
      refine WG.run tab_ok 1 rfl ?_
      refine WG.nil ?_
      refine WE.nxt ?_
      refine W.ret ?_
      refine WE.retF tab_ok [_, _] rfl ⟨⟨_, _, _, rfl, rfl, rfl, ((by first | exact Rd.blk 0 rfl | exact Rd.blk 1 rfl | exact Rd.blk 2 rfl | exact Rd.blk 3 rfl)), rfl⟩, rfl, trivial⟩ (hR2.trans hR4) ?_
      exact ⟨fr, frc, rfl, hfr, qS⟩

set_option maxHeartbeats 1000000 in
theorem PTotal_C {R : Ro} {la : Option Addr} {lc : Nat} {ls : List CvS} (hla : RS R 3 encC la ls) (hls : ∀ x ∈ ls, RS R 1 encI x.a x.cv.vals ∧ validB x.cv = true) (w0 : World) (E : List Ent) : K.Fn Tryz.prog 117 [.slice la ls.length lc] w0 R E (fun r R' E' => ∃ (f : Option Addr) (fc : Nat), r = cvV f fc (totalC (ls.map CvS.cv)) ∧ RS R' 1 encI f (totalC (ls.map CvS.cv)).1.vals ∧ E.Sublist E') := by
  have hll := hla.len
  have hz0 : flatC 0 = (zeroC, 0) := flat_zero
  refine Fn.enter (n := 31) Tryz.func117 rfl rfl (Nat.le_of_ble_eq_true rfl) rfl ?_
  refine W.seq ?_
  refine W.region _ ?_
  refine WL.ef rfl rfl (by decide) (Ef.alloc tab_ok rfl rfl (fun b2 => ?_))
  refine WG.run tab_ok 1 rfl ?_
  refine WG.nil ?_
  refine WE.nxt ?_
  refine W.seq ?_
  refine W.region _ ?_
  refine WL.call en155 rfl rfl (by decide) (CallOp.mkT rfl rfl rfl rfl) (CFlat_C (k := 0) (by decide) w0 _) ?_
  rintro _ R1 _ hR1 ⟨fz, fzc, rfl, hfz, hsub⟩
  refine WL.subE hsub ?_
  rw [hz0] at hfz ⊢
  unfold cvV
  dsimp only at hfz ⊢
  refine WG.run tab_ok 3 rfl ?_
  refine WL.ef rfl rfl (by decide) (Ef.alloc tab_ok rfl rfl (fun b4 => ?_))
  refine WL.efN rfl rfl (Ef.store0 0 tab_ok rfl rfl rfl rfl rfl rfl rfl rfl ?_)
  refine WG.run tab_ok 1 rfl ?_
  refine WG.nil ?_
  refine WE.nxt ?_
  refine W.seq ?_
  refine W.seq ?_
  refine W.region _ ?_
  refine WG.run tab_ok 3 rfl ?_
  refine WG.nil ?_
  refine WE.nxt ?_
  refine W.block ?_
  refine W.loopR (β := Nat × Cv × Option Addr × Nat × Ro) (fun (i, s, sa, sc, Rk) => i ≤ ls.length ∧ RLe R1 Rk ∧ Nrm s ∧ RS Rk 1 encI sa s.vals ∧ totalC (ls.map CvS.cv) = totalGo s ((ls.map CvS.cv).drop i)) (fun (i, s, sa, sc, Rk) => [(5, true, .int .i64 0), (14, true, .int .i64 (i : Int))]) [2, 4, 12, 13] [_, _, _, _] [] _ rfl (fun (i, s, sa, sc, Rk) => [(0, .blk b4 [.slice sa s.vals.length sc, .int .i64 s.per, .int .i64 s.inc])]) (fun (i, s, sa, sc, Rk) => Rk) (fun (i, s, sa, sc, Rk) => ls.length - i) ((0, zeroC, fz, fzc, R1)) (⟨Nat.zero_le _, RLe.refl _, zero_nrm, hfz, rfl⟩) ⟨rfl, rfl, rfl, rfl, rfl, rfl, rfl⟩ (RLe.refl _) qS ?_
  intro zz hst
  obtain ⟨i, s, sa, sc, Rk⟩ := zz
  dsimp only [zipE, setAll, List.cons_append, List.nil_append, List.set_cons_zero, List.set_cons_succ] at hst ⊢
  obtain ⟨hi, hRk, hns, hsa, htot⟩ := hst
  have hla := hla.mono (hR1.trans hRk)
  refine W.seq ?_
  refine W.region _ ?_
  refine WG.run tab_ok 1 rfl ?_
  refine WG.nil ?_
  refine WE.nxt ?_
  refine W.seq ?_
  refine W.condD rfl (fun hc0 => ?_) (fun hc0 => ?_)
  · try dsimp only at hc0
    have hil : i < ls.length := by omega
    have hxi := hls _ (nth_mem hil)
    have hvx := hxi.2
    have hxa := hxi.1.mono (hR1.trans hRk)
    refine W.skip ?_
    refine WE.nxt ?_
    refine W.seq ?_
    refine W.block ?_
    refine W.seq ?_
    refine W.region _ ?_
    refine WG.y rfl rfl (by decide) (Yl.indexN tab_ok rfl rfl rfl rfl rfl rfl (fun _ => rfl) (by intro _; (try dsimp only) <;> omega) (by intro _; first | exact fun _ _ _ _ => rfl | exact RS.has (by assumption) | exact fun _ _ _ _ => (by assumption) | exact HasMem.ownD 0 rfl | exact HasMem.ownD 1 rfl | exact HasMem.ownD 2 rfl | exact HasMem.ownD 3 rfl | exact HasMem.ownD 4 rfl | exact HasMem.ownD 5 rfl)) ?_
    refine' WG.y rfl rfl (by decide) (Yl.load1 tab_ok rfl rfl rfl (fun _ => rfl) ?r1 rfl ?h1) ?_
    case r1 => ((apply RS.rdD; assumption; ((try dsimp only) <;> omega)))
    case h1 => rfl
    refine WL.ef rfl rfl (by decide) (Ef.alloc tab_ok rfl rfl (fun b7 => ?_))
    refine WL.efN rfl rfl (Ef.store0 0 tab_ok rfl rfl rfl rfl rfl rfl rfl rfl ?_)
    refine WG.nil ?_
    refine WE.nxt ?_
    refine W.seq ?_
    refine W.region _ ?_
    refine' WG.y rfl rfl (by decide) (Yl.load1 tab_ok rfl rfl rfl (fun _ => rfl) ?r2 rfl ?h2) ?_
    case r2 => (exact Rd.blk 1 rfl)
    case h2 => rfl
    refine' WG.y rfl rfl (by decide) (Yl.load1 tab_ok rfl rfl rfl (fun _ => rfl) ?r3 rfl ?h3) ?_
    case r3 => (exact Rd.blk 0 rfl)
    case h3 => rfl
    refine WL.call en156 rfl rfl (by decide) (CallOp.mkT rfl rfl rfl rfl) (PSum_C hns.valid hsa hvx hxa w0 _) ?_
    rintro _ R2 _ hR2 ⟨fr, frc, rfl, hfr, hsub⟩
    refine WL.subE hsub ?_
    unfold cvV
    have hgo : totalC (ls.map CvS.cv) = if (sumC s (nth ls i).cv).2 ≠ 0 then (zcv, (sumC s (nth ls i).cv).2) else totalGo (sumC s (nth ls i).cv).1 ((ls.map CvS.cv).drop (i + 1)) := by
      rw [htot, drop_map_cons hil]
      rfl
    have hsr := sum_res hns.valid hvx
    generalize sumC s (nth ls i).cv = sr at hfr hgo hsr ⊢
    obtain ⟨sv, se⟩ := sr
    dsimp only at hfr hgo hsr ⊢
    refine WG.run tab_ok 3 rfl ?_
    refine WL.efN rfl rfl (Ef.store0 1 tab_ok rfl rfl rfl rfl rfl rfl rfl rfl ?_)
    refine WG.run tab_ok 1 rfl ?_
    refine WG.nil ?_
    refine WE.nxt ?_
    refine W.seq ?_
    refine W.region _ ?_
    refine WG.run tab_ok 2 rfl ?_
    refine WG.nil ?_
    refine WE.nxt ?_
    refine W.condN rfl (fun hc1 => ?_) (fun hc1 => ?_)
    · try dsimp only at hc1
      have hd : totalC (ls.map CvS.cv) = (zcv, se) := by rw [hgo, if_pos hc1]
      refine W.seq ?_
      refine W.region _ ?_
      -- build
      refine WG.y rfl rfl (by decide) (Yl.build (parts := []) tab_ok rfl rfl rfl rfl (fun _ => rfl) rfl rfl) ?_
      refine WG.run tab_ok 1 rfl ?_
      refine WL.efN rfl rfl (Ef.store0 2 tab_ok rfl rfl rfl rfl rfl rfl rfl rfl ?_)
      refine WG.run tab_ok 1 rfl ?_
      refine WG.nil ?_
      refine WE.nxt ?_
      refine W.ret ?_
      refine WE.blk_ret ?_
      refine WE.then_ret ?_
      refine WE.then_ret ?_
      refine WE.blk_ret ?_
      refine WE.then_ret ?_
      refine WE.retF tab_ok [_, _] rfl ⟨⟨_, _, _, rfl, rfl, rfl, ((by first | exact Rd.blk 0 rfl | exact Rd.blk 1 rfl | exact Rd.blk 2 rfl | exact Rd.blk 3 rfl | exact Rd.blk 4 rfl | exact Rd.blk 5 rfl)), rfl⟩, rfl, trivial⟩ ((by first | exact hR1.trans (hRk.trans hR2) | exact hR1.trans hRk)) ?_
      exact ⟨none, 0, by rw [hd]; rfl, by rw [hd]; exact rs_nil, qS⟩
    · try dsimp only at hc1
      have hd2 : totalC (ls.map CvS.cv) = totalGo sv ((ls.map CvS.cv).drop (i + 1)) := by rw [hgo, if_neg (fun h => h hc1)]
      obtain ⟨rfl, hnsv⟩ : se = 0 ∧ Nrm sv := by
        rcases hsr with h | ⟨c, h1, h2, _⟩
        · have := congrArg Prod.snd h; dsimp only at this; omega
        · have e1 := congrArg Prod.fst h1
          have e2 := congrArg Prod.snd h1
          dsimp only at e1 e2
          exact ⟨e2, by rw [e1]; exact h2⟩
      refine W.skip ?_
      refine WE.blk _ ?_
      refine WE.nxt ?_
      refine W.region _ ?_
      refine WG.y rfl rfl (by decide) (Yl.add rfl rfl rfl (fun _ => rfl) (by intro _; constructor <;> (try dsimp only) <;> omega)) ?_
      refine WG.run tab_ok 1 rfl ?_
      refine WG.nil ?_
      refine WE.again ((i + 1, sv, fr, frc, R2)) (⟨by dsimp only; omega, hRk.trans hR2, hnsv, hfr, hd2⟩) (by (try dsimp only); omega) ⟨rfl, rfl, rfl, rfl, rfl, rfl, rfl⟩ (RLe.refl _) qS
  · try dsimp only at hc0
    obtain rfl : i = ls.length := by omega
    have hd : totalC (ls.map CvS.cv) = (s, 0) := by rw [htot, List.drop_eq_nil_of_le (by simp)]; rfl
    refine W.exit ?_
    refine WE.then_exit ?_
    refine WE.then_exit ?_
    refine WE.blk_exit ?_
    refine WE.nxt ?_
    refine W.seq ?_
    refine W.region _ ?_
    refine' WG.y rfl rfl (by decide) (Yl.load1 tab_ok rfl rfl rfl (fun _ => rfl) ?r4 rfl ?h4) ?_
    case r4 => (exact Rd.blk 0 rfl)
    case h4 => rfl
    refine WG.run tab_ok 1 rfl ?_
    refine WL.efN rfl rfl (Ef.store0 1 tab_ok rfl rfl rfl rfl rfl rfl rfl rfl ?_)
    refine WG.run tab_ok 1 rfl ?_
    refine WG.nil ?_
    refine WE.nxt ?_
    refine W.ret ?_
    refine WE.retF tab_ok [_, _] rfl ⟨⟨_, _, _, rfl, rfl, rfl, ((by first | exact Rd.blk 0 rfl | exact Rd.blk 1 rfl | exact Rd.blk 2 rfl | exact Rd.blk 3 rfl | exact Rd.blk 4 rfl | exact Rd.blk 5 rfl)), rfl⟩, rfl, trivial⟩ ((by first | exact hR1.trans (hRk.trans hR2) | exact hR1.trans hRk)) ?_
    exact ⟨sa, sc, by rw [hd]; rfl, by rw [hd]; exact hsa, qS⟩

end Go.Proofs.YtlgjkmebpnnphaaGreat

/- What a curve leaves of a line. No condition. -/
set_option maxRecDepth 4000
set_option linter.unusedSimpArgs false
set_option linter.unusedVariables false
namespace Go.Proofs.YtlgjkmebpnnphaaGreat
open Go Go.RowKit Go.Proofs.YtlgjkmebpnnphaaGreat.K Go.Proofs.YtlgjkmebpnnphaaGreat.M

end Go.Proofs.YtlgjkmebpnnphaaGreat

/- Chapter 18: the curve of a class. No condition. -/
set_option maxRecDepth 4000
set_option linter.unusedSimpArgs false
set_option linter.unusedVariables false
namespace Go.Proofs.YtlgjkmebpnnphaaGreat
open Go Go.RowKit Go.Proofs.YtlgjkmebpnnphaaGreat.K Go.Proofs.YtlgjkmebpnnphaaGreat.M

theorem PTotal_len {R : Ro} {la : Option Addr} {lc l : Nat} {ls : List CvS} (hl : ls.length = l) (hla : RS R 3 encC la ls) (hls : ∀ x ∈ ls, RS R 1 encI x.a x.cv.vals ∧ validB x.cv = true) (w0 : World) (E : List Ent) : K.Fn Tryz.prog 117 [.slice la l lc] w0 R E (fun r R' E' => ∃ (f : Option Addr) (fc : Nat), r = cvV f fc (totalC (ls.map CvS.cv)) ∧ RS R' 1 encI f (totalC (ls.map CvS.cv)).1.vals ∧ E.Sublist E') := by
  subst hl; exact PTotal_C hla hls w0 E

end Go.Proofs.YtlgjkmebpnnphaaGreat

/- Finite curves: where a value is reached; the greatest distance. No condition. -/
set_option maxRecDepth 4000
set_option linter.unusedSimpArgs false
set_option linter.unusedVariables false
namespace Go.Proofs.YtlgjkmebpnnphaaGreat
open Go Go.RowKit Go.Proofs.YtlgjkmebpnnphaaGreat.K Go.Proofs.YtlgjkmebpnnphaaGreat.M

theorem ReachF_V {R : Ro} {fa : Option Addr} {fc : Nat} {F : Nat → Int} {S P : Nat} {I : Int} (hf : FC F S P I) (ha : RS R 1 encI fa (fvals F (S + P))) {v : Int} (hv : 0 ≤ v ∧ v ≤ 1000000000000000) : FnV Tryz.prog 115 [.agg #[.slice fa (fvals F (S + P)).length fc, .int .i64 (P : Int), .int .i64 I], .int .i64 v] R (.tuple #[.int .i64 (reachF F S P I v).1, .bool (reachF F S P I v).2]) := by
  have hfl := fvals_len F (S + P)
  have hP := hf.hP
  have hn := hf.hn
  have hI := hf.hI
  refine Fn.toV (fun w0 E => ?_)
  refine Fn.enter (n := 66) Tryz.func115 rfl rfl (Nat.le_of_ble_eq_true rfl) rfl ?_
  refine W.seq ?_
  refine W.region _ ?_
  refine WL.ef rfl rfl (by decide) (Ef.box rfl rfl (fun b2 => ?_))
  refine WG.run tab_ok 2 rfl ?_
  refine WG.nil ?_
  refine WE.nxt ?_
  refine W.seq ?_
  refine W.seq ?_
  refine W.region _ ?_
  refine WG.run tab_ok 1 rfl ?_
  refine' WG.y rfl rfl (by decide) (Yl.load1 tab_ok rfl rfl rfl (fun _ => rfl) ?r1 rfl ?h1) ?_
  case r1 => apply Rd.add; (exact Rd.blk 0 rfl)
  case h1 => rfl
  refine WG.run tab_ok 2 rfl ?_
  refine WG.nil ?_
  refine WE.nxt ?_
  refine W.block ?_
  refine W.loopK (β := Nat) (fun t => t ≤ S + P ∧ ∀ j, j < t → F j < v) (fun t => [(15, true, .int .i64 (t : Int))]) [1, 2, 13, 14] [_, _, _, _] [] _ rfl (fun t => []) (fun t => S + P - t) (0) (⟨Nat.zero_le _, fun j hj => by omega⟩) ⟨rfl, rfl, rfl, rfl, rfl, rfl⟩ qS ?_
  intro t hst
  dsimp only [zipE, setAll, List.cons_append, List.nil_append, List.set_cons_zero, List.set_cons_succ] at hst ⊢
  obtain ⟨ht, hno⟩ := hst
  refine W.seq ?_
  refine W.region _ ?_
  refine WG.run tab_ok 1 rfl ?_
  refine WG.nil ?_
  refine WE.nxt ?_
  refine W.seq ?_
  refine W.condD rfl (fun hc0 => ?_) (fun hc0 => ?_)
  · try dsimp only at hc0
    have htl : t < S + P := by omega
    have hft := fvals_nth F htl
    refine W.skip ?_
    refine WE.nxt ?_
    refine W.seq ?_
    refine W.block ?_
    refine W.seq ?_
    refine W.region _ ?_
    refine WG.run tab_ok 1 rfl ?_
    refine WG.y rfl rfl (by decide) (Yl.indexN tab_ok rfl rfl rfl rfl rfl rfl (fun _ => rfl) (by intro _; (try dsimp only) <;> omega) (by intro _; first | exact fun _ _ _ _ => rfl | exact RS.has (by assumption) | exact fun _ _ _ _ => (by assumption) | exact HasMem.ownD 0 rfl | exact HasMem.ownD 1 rfl)) ?_
    refine' WG.y rfl rfl (by decide) (Yl.load1 tab_ok rfl rfl rfl (fun _ => rfl) ?r2 rfl ?h2) ?_
    case r2 => ((apply RS.rdD; assumption; ((try dsimp only) <;> omega)))
    case h2 => rfl
    refine WG.run tab_ok 2 rfl ?_
    refine WG.nil ?_
    refine WE.nxt ?_
    refine W.seq ?_
    refine W.region _ ?_
    refine WG.run tab_ok 3 rfl ?_
    refine WG.nil ?_
    refine WE.nxt ?_
    refine W.condD rfl (fun hc1 => ?_) (fun hc1 => ?_)
    · try dsimp only at hc1
      have hff : findFrom (fun t => decide (F t ≥ v)) (S + P) 0 = t := findFrom_some (Nat.zero_le _) (by omega) (decide_eq_true (by rw [← hft]; exact hc1)) (fun j _ hj => decide_eq_false (by have := hno j hj; omega))
      have hr : reachF F S P I v = ((t : Int), true) := by unfold reachF; rw [hff, if_pos (by omega)]
      refine W.seq ?_
      refine W.region _ ?_
      refine WG.run tab_ok 3 rfl ?_
      refine WG.nil ?_
      refine WE.nxt ?_
      refine W.ret ?_
      refine WE.blk_ret ?_
      refine WE.then_ret ?_
      refine WE.then_ret ?_
      refine WE.blk_ret ?_
      refine WE.then_ret ?_
      refine WE.subE (E' := E) qS ?_
      refine WE.retF tab_ok [_, _] rfl ⟨rfl, rfl, trivial⟩ (RLe.refl _) ?_
      exact ⟨by rw [hr]; rfl, rfl⟩
    · try dsimp only at hc1
      refine W.skip ?_
      refine WE.blk _ ?_
      refine WE.nxt ?_
      refine W.region _ ?_
      refine WG.y rfl rfl (by decide) (Yl.add rfl rfl rfl (fun _ => rfl) (by intro _; constructor <;> (try dsimp only) <;> omega)) ?_
      refine WG.run tab_ok 1 rfl ?_
      refine WG.nil ?_
      refine WE.again (t + 1) (⟨by omega, fun j hj => by
        by_cases e : j = t
        · subst e; rw [← hft]; omega
        · exact hno j (by omega)⟩) (by (try dsimp only); omega) ⟨rfl, rfl, rfl, rfl, rfl, rfl⟩ (RLe.refl _) qS
  · try dsimp only at hc0
    obtain rfl : t = S + P := by omega
    have hff : findFrom (fun t => decide (F t ≥ v)) (S + P) 0 = -1 := findFrom_none (fun j _ hj => decide_eq_false (by have := hno j (by omega); omega))
    have hlast := hno (S + P - 1) (by omega)
    have hvl : nth (fvals F (S + P)) ((((fvals F (S + P)).length : Int) - 1).toNat) = F (S + P - 1) := by rw [show (((fvals F (S + P)).length : Int) - 1).toNat = S + P - 1 by omega, fvals_nth F (by omega)]
    have hlb := hf.hb (S + P - 1) (by omega)
    have hl0 := hf.nonneg (S + P - 1)
    refine W.exit ?_
    refine WE.then_exit ?_
    refine WE.then_exit ?_
    refine WE.blk_exit ?_
    refine WE.nxt ?_
    refine W.seq ?_
    refine W.regionQ _ mixed (by kernel_rfl) ?_
    refine WG.run tab_ok 1 rfl ?_
    refine' WG.y rfl rfl (by decide) (Yl.load1 tab_ok rfl rfl rfl (fun _ => rfl) ?r3 rfl ?h3) ?_
    case r3 => apply Rd.add; (exact Rd.blk 0 rfl)
    case h3 => rfl
    refine WG.run tab_ok 2 rfl ?_
    refine' WG.y rfl rfl (by decide) (Yl.load1 tab_ok rfl rfl rfl (fun _ => rfl) ?r4 rfl ?h4) ?_
    case r4 => apply Rd.add; (exact Rd.blk 0 rfl)
    case h4 => rfl
    refine WG.run tab_ok 2 rfl ?_
    refine WG.nil ?_
    refine WE.nxt ?_
    refine W.seq ?_
    refine W.seq ?_
    refine W.region _ ?_
    refine WG.run tab_ok 3 rfl ?_
    refine WG.y rfl rfl (by decide) (pureV_ok tab_ok rfl qE) ?_
    refine' WG.y rfl rfl (by decide) (Yl.loadG tab_ok rfl rfl rfl qE ?r5 rfl ?h5 ?g5) ?_
    case r5 => apply Rd.addC; (exact Rd.blkC 0 rfl)
    case h5 => rfl
    case g5 => exact fun _ => trivial
    refine WG.y rfl rfl (by decide) (pureV_ok tab_ok rfl qE) ?_
    refine WG.y rfl rfl (by decide) (Yl.por rfl rfl rfl (fun _ => rfl) (by intro h1 h2; simp_all <;> omega)) ?_
    refine WG.nil ?_
    refine WE.nxt ?_
    refine W.cond rfl (fun hc2 => ?_) (fun hc2 => ?_)
    · try simp only [decide_eq_true_eq, decide_eq_false_iff_not, beq_iff_eq, bne_iff_ne, beq_eq_false_iff_ne, bne_eq_false_iff_eq, ne_eq, Bool.or_eq_true, Bool.or_eq_false_iff, Bool.and_eq_true, Bool.and_eq_false_imp, Bool.not_eq_true, Bool.not_eq_true', Bool.not_eq_false', Classical.not_not, Int.not_lt, Int.not_le, gt_iff_lt, ge_iff_le] at hc2
      have hI0 : I = 0 := by rcases hc2 with h | h; omega; exact h
      have hr : reachF F S P I v = (0, false) := by unfold reachF; rw [hff, if_neg (fun hh => hh rfl), if_pos hI0]
      refine W.seq ?_
      refine W.region _ ?_
      refine WG.run tab_ok 2 rfl ?_
      refine WG.nil ?_
      refine WE.nxt ?_
      refine W.ret ?_
      refine WE.then_ret ?_
      refine WE.subE (E' := E) qS ?_
      refine WE.retF tab_ok [_, _] rfl ⟨rfl, rfl, trivial⟩ (RLe.refl _) ?_
      exact ⟨by rw [hr]; rfl, rfl⟩
    · try simp only [decide_eq_true_eq, decide_eq_false_iff_not, beq_iff_eq, bne_iff_ne, beq_eq_false_iff_ne, bne_eq_false_iff_eq, ne_eq, Bool.or_eq_true, Bool.or_eq_false_iff, Bool.and_eq_true, Bool.and_eq_false_imp, Bool.not_eq_true, Bool.not_eq_true', Bool.not_eq_false', Classical.not_not, Int.not_lt, Int.not_le, gt_iff_lt, ge_iff_le] at hc2
      have hI0 : I ≠ 0 := by
        intro h
        apply Classical.byContradiction
        intro hn
        simp_all
      obtain ⟨g1, g2, g3, g4⟩ := reach_facts hf hI0 hlast
      obtain ⟨k, hk⟩ := Int.eq_ofNat_of_zero_le (show 0 ≤ (v - F (S + P - 1) + I - 1) / I by omega)
      have hkv : (k : Int) ≤ v + I := by
        have : (k : Int) * 1 ≤ (k : Int) * I := Int.mul_le_mul_of_nonneg_left (by omega) (by omega)
        rw [hk] at g2; omega
      have hr : reachF F S P I v = (findFrom (fun t => decide (F t ≥ v)) (P + 1) (S + P + (k - 1) * P), true) := by unfold reachF; rw [hff, if_neg (fun hh => hh rfl), if_neg hI0, hk, Int.toNat_natCast]
      rw [hk, Int.toNat_natCast] at g3
      rw [hk] at g1 g2 g4
      have hkP : ((k - 1) * P : Nat) ≤ 1100000000000000 * 120 := Nat.mul_le_mul (by omega) (by omega)
      have hkP2 : ((k : Int) - 1) * (P : Int) = (((k - 1) * P : Nat) : Int) := by rw [Int.natCast_mul, show ((k - 1 : Nat) : Int) = (k : Int) - 1 by omega]
      generalize ht0 : S + P + (k - 1) * P = t0 at hr g3
      refine W.skip ?_
      refine WE.nxt ?_
      refine W.seq ?_
      refine W.regionQ _ mixed (by kernel_rfl) ?_
      refine WG.run tab_ok 2 rfl ?_
      refine' WG.y rfl rfl (by decide) (Yl.load1 tab_ok rfl rfl rfl (fun _ => rfl) ?r6 rfl ?h6) ?_
      case r6 => apply Rd.add; (exact Rd.blk 0 rfl)
      case h6 => rfl
      refine WG.run tab_ok 1 rfl ?_
      refine WG.y rfl rfl (by decide) (Yl.sub rfl rfl rfl (fun _ => rfl) (by intro _; constructor <;> (try dsimp only) <;> omega)) ?_
      refine WG.y rfl rfl (by decide) (Yl.index tab_ok rfl rfl rfl rfl rfl rfl (fun _ => rfl) (by intro _; constructor <;> (try dsimp only) <;> omega) (by intro _; first | exact fun _ _ _ _ => rfl | exact RS.has (by assumption) | exact fun _ _ _ _ => (by assumption) | exact HasMem.ownD 0 rfl | exact HasMem.ownD 1 rfl)) ?_
      refine' WG.y rfl rfl (by decide) (Yl.load1 tab_ok rfl rfl rfl (fun _ => rfl) ?r7 rfl ?h7) ?_
      case r7 => ((apply RS.rdD; assumption; ((try dsimp only) <;> omega)))
      case h7 => rfl
      rw [hvl]
      refine WG.y rfl rfl (by decide) (Yl.sub rfl rfl rfl (fun _ => rfl) (by intro _; constructor <;> (try dsimp only) <;> omega)) ?_
      refine WG.run tab_ok 1 rfl ?_
      refine' WG.y rfl rfl (by decide) (Yl.load1 tab_ok rfl rfl rfl (fun _ => rfl) ?r8 rfl ?h8) ?_
      case r8 => apply Rd.add; (exact Rd.blk 0 rfl)
      case h8 => rfl
      refine WG.y rfl rfl (by decide) (Yl.add rfl rfl rfl (fun _ => rfl) (by intro _; constructor <;> (try dsimp only) <;> omega)) ?_
      refine WG.y rfl rfl (by decide) (Yl.sub rfl rfl rfl (fun _ => rfl) (by intro _; constructor <;> (try dsimp only) <;> omega)) ?_
      refine WG.run tab_ok 1 rfl ?_
      refine' WG.y rfl rfl (by decide) (Yl.load1 tab_ok rfl rfl rfl (fun _ => rfl) ?r9 rfl ?h9) ?_
      case r9 => apply Rd.add; (exact Rd.blk 0 rfl)
      case h9 => rfl
      refine WG.y rfl rfl (by decide) (Yl.quo rfl rfl rfl (fun _ => rfl) (by intro _; constructor <;> (try dsimp only) <;> omega) (by intro _; omega)) ?_
      refine WG.run tab_ok 1 rfl ?_
      refine WG.nil ?_
      refine WE.nxt ?_
      rw [hk]
      refine W.seq ?_
      refine W.region _ ?_
      refine WG.run tab_ok 2 rfl ?_
      refine WG.y rfl rfl (by decide) (Yl.sub rfl rfl rfl (fun _ => rfl) (by intro _; constructor <;> (try dsimp only) <;> omega)) ?_
      refine WG.run tab_ok 1 rfl ?_
      refine WG.y rfl rfl (by decide) (Yl.mul rfl rfl rfl (fun _ => rfl) (by intro _; constructor <;> (try dsimp only) <;> omega)) ?_
      refine WG.y rfl rfl (by decide) (Yl.add rfl rfl rfl (fun _ => rfl) (by intro _; constructor <;> (try dsimp only) <;> omega)) ?_
      rw [hkP2, show (((fvals F (S + P)).length : Int)) + (((k - 1) * P : Nat) : Int) = (t0 : Int) by omega]
      refine WG.run tab_ok 1 rfl ?_
      refine WG.nil ?_
      refine WE.nxt ?_
      refine W.seq ?_
      refine W.block ?_
      refine W.loopK (β := Nat) (fun t => t0 ≤ t ∧ t ≤ t0 + (P - 1) ∧ ∀ j, t0 ≤ j → j < t → F j < v) (fun t => [(11, true, .int .i64 (t : Int))]) [1, 2] [_, _] [] _ rfl (fun t => []) (fun t => t0 + P - t) (t0) (⟨Nat.le_refl _, by omega, fun j a b => by omega⟩) ⟨rfl, rfl, rfl, rfl⟩ qS ?_
      intro t hst
      dsimp only [zipE, setAll, List.cons_append, List.nil_append, List.set_cons_zero, List.set_cons_succ] at hst ⊢
      obtain ⟨ht1, ht2, hno2⟩ := hst
      have hmt := hf.mono ht2
      have hbt : F t ≤ v + 1073741824 := by omega
      refine W.seq ?_
      refine W.seq ?_
      refine W.region _ ?_
      refine' WG.y rfl rfl (by decide) (Yl.load1 tab_ok rfl rfl rfl (fun _ => rfl) ?r10 rfl ?h10) ?_
      case r10 => (exact Rd.blk 0 rfl)
      case h10 => rfl
      refine WG.run tab_ok 1 rfl ?_
      refine WG.callV en116 rfl rfl (by decide) (CallOp.mk' rfl rfl rfl rfl) (fun _ => rfl) (fun hg => WAt_V hf ha (by omega) (by omega)) ?_
      refine WG.run tab_ok 2 rfl ?_
      refine WG.nil ?_
      refine WE.nxt ?_
      refine W.condD rfl (fun hc3 => ?_) (fun hc3 => ?_)
      · try dsimp only at hc3
        refine W.skip ?_
        refine WE.nxt ?_
        refine W.block ?_
        refine W.region _ ?_
        refine WG.run tab_ok 1 rfl ?_
        refine WG.y rfl rfl (by decide) (Yl.add rfl rfl rfl (fun _ => rfl) (by intro _; constructor <;> (try dsimp only) <;> omega)) ?_
        refine WG.run tab_ok 1 rfl ?_
        refine WG.nil ?_
        refine WE.blk _ ?_
        refine WE.again (t + 1) (⟨by omega, by
          apply Classical.byContradiction
          intro hn
          have e : t = t0 + (P - 1) := by omega
          rw [e, g3] at hc3
          omega, fun j a b => by
          by_cases e : j = t
          · subst e; exact hc3
          · exact hno2 j a (by omega)⟩) (by (try dsimp only); omega) ⟨rfl, rfl, rfl, rfl⟩ (RLe.refl _) qS
      · try dsimp only at hc3
        have hff2 : findFrom (fun t => decide (F t ≥ v)) (P + 1) t0 = t := findFrom_some ht1 (by omega) (decide_eq_true (by omega)) (fun j a b => decide_eq_false (by have := hno2 j a b; omega))
        rw [hff2] at hr
        refine W.exit ?_
        refine WE.then_exit ?_
        refine WE.then_exit ?_
        refine WE.blk_exit ?_
        refine WE.nxt ?_
        refine W.seq ?_
        refine W.region _ ?_
        refine WG.run tab_ok 3 rfl ?_
        refine WG.nil ?_
        refine WE.nxt ?_
        refine W.ret ?_
        refine WE.subE (E' := E) qS ?_
        refine WE.retF tab_ok [_, _] rfl ⟨rfl, rfl, trivial⟩ (RLe.refl _) ?_
        exact ⟨by rw [hr]; rfl, rfl⟩

theorem Greatest_V {R : Ro} {g : FuncId} {fi ca : Array Value} {f : Nat → Int × Bool} {n : Nat} (hE : Enters Tryz.prog g) (hF : ∀ t : Nat, t < n → FnV Tryz.prog g (fi.toList ++ [.int .i64 (t : Int)] ++ ca.toList) R (.tuple #[.int .i64 (f t).1, .bool (f t).2])) (hn : n ≤ 1000000) : FnV Tryz.prog 113 [.int .i64 (n : Int), .func (.func g) fi ca] R (.agg #[.bool (greatW f n 0 0 0).1, .int .i64 (greatW f n 0 0 0).2.1, .int .i64 (greatW f n 0 0 0).2.2]) := by
  refine Fn.toVS (fun w0 E => ?_)
  refine Fn.enter (n := 32) Tryz.func113 rfl rfl (Nat.le_of_ble_eq_true rfl) rfl ?_
  refine W.seq ?_
  refine W.region _ ?_
  refine WL.ef rfl rfl (by decide) (Ef.alloc tab_ok rfl rfl (fun b4 => ?_))
  refine WG.nil ?_
  refine WE.nxt ?_
  refine W.seq ?_
  refine W.region _ ?_
  refine WL.ef rfl rfl (by decide) (Ef.alloc tab_ok rfl rfl (fun b5 => ?_))
  refine WG.nil ?_
  refine WE.nxt ?_
  refine W.seq ?_
  refine W.seq ?_
  refine W.region _ ?_
  refine WG.run tab_ok 2 rfl ?_
  refine WG.nil ?_
  refine WE.nxt ?_
  refine W.block ?_
  refine W.loopK (β := Nat × Int × Int) (fun (t, v, a) => t ≤ n ∧ greatW f (n - t) t v a = greatW f n 0 0 0) (fun (t, v, a) => [(10, true, .int .i64 (t : Int))]) [1, 4, 5, 9] [_, _, _, _] [] _ rfl (fun (t, v, a) => [(0, .blk b5 [.bool false, .int .i64 v, .int .i64 a])]) (fun (t, v, a) => n - t) ((0, 0, 0)) (⟨Nat.zero_le _, by rfl⟩) ⟨rfl, rfl, rfl, rfl, rfl, rfl⟩ qS ?_
  intro st hst
  obtain ⟨t, v, a⟩ := st
  dsimp only [zipE, setAll, List.cons_append, List.nil_append, List.set_cons_zero, List.set_cons_succ] at hst ⊢
  obtain ⟨ht, hg⟩ := hst
  refine W.seq ?_
  refine W.region _ ?_
  refine WG.run tab_ok 1 rfl ?_
  refine WG.nil ?_
  refine WE.nxt ?_
  refine W.seq ?_
  refine W.condD rfl (fun hc0 => ?_) (fun hc0 => ?_)
  · try dsimp only at hc0
    have htl : t < n := by omega
    obtain ⟨m, hm⟩ : ∃ m, n - t = m + 1 := ⟨n - t - 1, by omega⟩
    have hm2 : n - (t + 1) = m := by omega
    rw [hm, greatW] at hg
    refine W.skip ?_
    refine WE.nxt ?_
    refine W.seq ?_
    refine W.block ?_
    refine W.seq ?_
    refine W.region _ ?_
    refine WG.run tab_ok 2 rfl ?_
    refine WG.nil ?_
    refine WE.nxt ?_
    refine W.seq ?_
    refine W.region _ ?_
    refine WG.run tab_ok 2 rfl ?_
    refine WG.callV (v := .tuple #[.int .i64 (f t).1, .bool (f t).2]) hE rfl rfl (by decide) (CallOp.mk' rfl rfl rfl rfl) (fun _ => rfl) (fun hg => hF t htl) ?_
    refine WG.run tab_ok 5 rfl ?_
    refine WG.nil ?_
    refine WE.nxt ?_
    refine W.seq ?_
    refine W.seq ?_
    refine W.region _ ?_
    refine WG.run tab_ok 2 rfl ?_
    refine WG.nil ?_
    refine WE.nxt ?_
    refine W.cond rfl (fun hc1 => ?_) (fun hc1 => ?_)
    · try simp only [decide_eq_true_eq, decide_eq_false_iff_not, beq_iff_eq, bne_iff_ne, beq_eq_false_iff_ne, bne_eq_false_iff_eq, ne_eq, Bool.or_eq_true, Bool.or_eq_false_iff, Bool.and_eq_true, Bool.and_eq_false_imp, Bool.not_eq_true, Bool.not_eq_true', Bool.not_eq_false', Classical.not_not, Int.not_lt, Int.not_le, gt_iff_lt, ge_iff_le] at hc1
      have hok : (f t).2 = false := by simpa using hc1
      rw [if_pos hok] at hg
      refine W.seq ?_
      refine W.region _ ?_
      -- build
      refine WG.y rfl rfl (by decide) (Yl.build (parts := [(0, .const (.bool true))]) tab_ok rfl rfl rfl rfl (fun _ => rfl) rfl rfl) ?_
      refine WL.efN rfl rfl (Ef.store0 1 tab_ok rfl rfl rfl rfl rfl rfl rfl rfl ?_)
      refine WG.nil ?_
      refine WE.nxt ?_
      refine W.ret ?_
      refine WE.then_ret ?_
      refine WE.blk_ret ?_
      refine WE.then_ret ?_
      refine WE.then_ret ?_
      refine WE.blk_ret ?_
      refine WE.then_ret ?_
      refine WE.retF tab_ok [_] rfl ⟨⟨_, _, _, rfl, rfl, rfl, ((by first | exact Rd.blk 0 rfl | exact Rd.blk 1 rfl | exact Rd.blk 2 rfl)), rfl⟩, trivial⟩ (RLe.refl _) ?_
      exact ⟨by rw [← hg]; rfl, qS⟩
    · try simp only [decide_eq_true_eq, decide_eq_false_iff_not, beq_iff_eq, bne_iff_ne, beq_eq_false_iff_ne, bne_eq_false_iff_eq, ne_eq, Bool.or_eq_true, Bool.or_eq_false_iff, Bool.and_eq_true, Bool.and_eq_false_imp, Bool.not_eq_true, Bool.not_eq_true', Bool.not_eq_false', Classical.not_not, Int.not_lt, Int.not_le, gt_iff_lt, ge_iff_le] at hc1
      have hok : ¬ (f t).2 = false := by simpa using hc1
      rw [if_neg hok] at hg
      refine W.skip ?_
      refine WE.nxt ?_
      refine W.seq ?_
      refine W.region _ ?_
      refine WG.run tab_ok 2 rfl ?_
      refine' WG.y rfl rfl (by decide) (Yl.load1 tab_ok rfl rfl rfl (fun _ => rfl) ?r1 rfl ?h1) ?_
      case r1 => apply Rd.add; (exact Rd.blk 0 rfl)
      case h1 => rfl
      refine WG.run tab_ok 1 rfl ?_
      refine WG.nil ?_
      refine WE.nxt ?_
      refine W.condD rfl (fun hc2 => ?_) (fun hc2 => ?_)
      · try dsimp only at hc2
        rw [if_pos hc2, ← hm2] at hg
        refine W.region _ ?_
        refine WG.run tab_ok 3 rfl ?_
        refine WL.efN rfl rfl (Ef.store 0 tab_ok rfl rfl rfl rfl rfl rfl rfl rfl ?_)
        refine WG.run tab_ok 1 rfl ?_
        refine WL.efN rfl rfl (Ef.store 0 tab_ok rfl rfl rfl rfl rfl rfl rfl rfl ?_)
        refine WG.nil ?_
        refine WE.blk _ ?_
        refine WE.nxt ?_
        refine W.region _ ?_
        refine WG.y rfl rfl (by decide) (Yl.add rfl rfl rfl (fun _ => rfl) (by intro _; constructor <;> (try dsimp only) <;> omega)) ?_
        refine WG.run tab_ok 1 rfl ?_
        refine WG.nil ?_
        refine WE.again ((t + 1, (f t).1, t)) (⟨by dsimp only; omega, hg⟩) (by (try dsimp only); omega) ⟨rfl, rfl, rfl, rfl, rfl, rfl⟩ (RLe.refl _) qS
      · try dsimp only at hc2
        rw [if_neg (by omega), ← hm2] at hg
        refine W.skip ?_
        refine WE.blk _ ?_
        refine WE.nxt ?_
        refine W.region _ ?_
        refine WG.y rfl rfl (by decide) (Yl.add rfl rfl rfl (fun _ => rfl) (by intro _; constructor <;> (try dsimp only) <;> omega)) ?_
        refine WG.run tab_ok 1 rfl ?_
        refine WG.nil ?_
        refine WE.again ((t + 1, v, a)) (⟨by dsimp only; omega, hg⟩) (by (try dsimp only); omega) ⟨rfl, rfl, rfl, rfl, rfl, rfl⟩ (RLe.refl _) qS
  · try dsimp only at hc0
    obtain rfl : t = n := by omega
    rw [Nat.sub_self, greatW] at hg
    refine W.exit ?_
    refine WE.then_exit ?_
    refine WE.then_exit ?_
    refine WE.blk_exit ?_
    refine WE.nxt ?_
    refine W.seq ?_
    refine W.region _ ?_
    refine' WG.y rfl rfl (by decide) (Yl.load1 tab_ok rfl rfl rfl (fun _ => rfl) ?r2 rfl ?h2) ?_
    case r2 => (exact Rd.blk 0 rfl)
    case h2 => rfl
    refine WL.efN rfl rfl (Ef.store0 1 tab_ok rfl rfl rfl rfl rfl rfl rfl rfl ?_)
    refine WG.nil ?_
    refine WE.nxt ?_
    refine W.ret ?_
    refine WE.retF tab_ok [_] rfl ⟨⟨_, _, _, rfl, rfl, rfl, ((by first | exact Rd.blk 0 rfl | exact Rd.blk 1 rfl | exact Rd.blk 2 rfl)), rfl⟩, trivial⟩ (RLe.refl _) ?_
    exact ⟨by rw [← hg]; rfl, qS⟩

end Go.Proofs.YtlgjkmebpnnphaaGreat

/- Two finite curves in normal form. No condition. -/
set_option maxRecDepth 4000
set_option linter.unusedSimpArgs false
set_option linter.unusedVariables false
namespace Go.Proofs.YtlgjkmebpnnphaaGreat
open Go Go.RowKit Go.Proofs.YtlgjkmebpnnphaaGreat.K Go.Proofs.YtlgjkmebpnnphaaGreat.M

end Go.Proofs.YtlgjkmebpnnphaaGreat

/- The share: differences and their least. No condition. -/
set_option maxRecDepth 4000
set_option linter.unusedSimpArgs false
set_option linter.unusedVariables false
namespace Go.Proofs.YtlgjkmebpnnphaaGreat
open Go Go.RowKit Go.Proofs.YtlgjkmebpnnphaaGreat.K Go.Proofs.YtlgjkmebpnnphaaGreat.M

theorem CommonC_V {R : Ro} {m1 m2 : Cv} (hv1 : validB m1 = true) (hv2 : validB m2 = true) : FnV Tryz.prog 151 [.int .i64 m1.per, .int .i64 m2.per] R (.int .i64 (lcmC m1 m2 : Int)) := by
  obtain ⟨_, _, _, p1, p2, _⟩ := valid_range hv1
  obtain ⟨_, _, _, q1, q2, _⟩ := valid_range hv2
  have h := Common_V (R := R) (a := m1.per.toNat) (b := m2.per.toNat) (by omega) (by omega)
  rw [Int.toNat_of_nonneg (by omega), Int.toNat_of_nonneg (by omega)] at h
  exact h
theorem lcmC_le {m1 m2 : Cv} (hv1 : validB m1 = true) (hv2 : validB m2 = true) : lcmC m1 m2 ≤ 14400 := by
  obtain ⟨_, _, _, p1, p2, _⟩ := valid_range hv1
  obtain ⟨_, _, _, q1, q2, _⟩ := valid_range hv2
  exact Nat.le_trans (lcmN_facts (by omega) (by omega)).2.2.1 (Nat.mul_le_mul (show m1.per.toNat ≤ 120 by omega) (show m2.per.toNat ≤ 120 by omega))
end Go.Proofs.YtlgjkmebpnnphaaGreat

/- Delays and backlogs of any two valid curves. No condition. -/
set_option maxRecDepth 4000
set_option linter.unusedSimpArgs false
set_option linter.unusedVariables false
namespace Go.Proofs.YtlgjkmebpnnphaaGreat
open Go Go.RowKit Go.Proofs.YtlgjkmebpnnphaaGreat.K Go.Proofs.YtlgjkmebpnnphaaGreat.M

theorem ReachI_V {R : Ro} {fa : Option Addr} {fc : Nat} {c : Cv} (hv : validB c = true) (ha : RS R 1 encI fa c.vals) {v : Int} (hx : (v = 4611686018427387904 ∧ finB c = true) ∨ (finB c = false ∧ 0 ≤ v ∧ v ≤ 4611686018427387904)) : FnV Tryz.prog 115 [.agg #[.slice fa c.vals.length fc, .int .i64 c.per, .int .i64 c.inc], .int .i64 v] R (.tuple #[.int .i64 (reachG c v).1, .bool (reachG c v).2]) := by
  refine Fn.toV (fun w0 E => ?_)
  obtain ⟨hr1, hr2, hr3, hr4, hr5, hr6, hr7, hr8⟩ := valid_range hv
  refine Fn.enter (n := 66) Tryz.func115 rfl rfl (Nat.le_of_ble_eq_true rfl) rfl ?_
  refine W.seq ?_
  refine W.region _ ?_
  refine WL.ef rfl rfl (by decide) (Ef.box rfl rfl (fun b2 => ?_))
  refine WG.run tab_ok 2 rfl ?_
  refine WG.nil ?_
  refine WE.nxt ?_
  refine W.seq ?_
  refine W.seq ?_
  refine W.region _ ?_
  refine WG.run tab_ok 1 rfl ?_
  refine' WG.y rfl rfl (by decide) (Yl.load1 tab_ok rfl rfl rfl (fun _ => rfl) ?r1 rfl ?h1) ?_
  case r1 => apply Rd.add; (exact Rd.blk 0 rfl)
  case h1 => rfl
  refine WG.run tab_ok 2 rfl ?_
  refine WG.nil ?_
  refine WE.nxt ?_
  refine W.block ?_
  refine W.loopK (β := Nat) (fun t => t ≤ c.vals.length ∧ ∀ j, j < t → cvF c j < v) (fun t => [(15, true, .int .i64 (t : Int))]) [1, 2, 13, 14] [_, _, _, _] [] _ rfl (fun t => []) (fun t => c.vals.length - t) (0) (⟨Nat.zero_le _, fun j hj => by omega⟩) ⟨rfl, rfl, rfl, rfl, rfl, rfl⟩ qS ?_
  intro t hst
  dsimp only [zipE, setAll, List.cons_append, List.nil_append, List.set_cons_zero, List.set_cons_succ] at hst ⊢
  obtain ⟨ht, hno⟩ := hst
  refine W.seq ?_
  refine W.region _ ?_
  refine WG.run tab_ok 1 rfl ?_
  refine WG.nil ?_
  refine WE.nxt ?_
  refine W.seq ?_
  refine W.condD rfl (fun hc0 => ?_) (fun hc0 => ?_)
  · try dsimp only at hc0
    have htl : t < c.vals.length := by omega
    have hft := cvF_low htl
    refine W.skip ?_
    refine WE.nxt ?_
    refine W.seq ?_
    refine W.block ?_
    refine W.seq ?_
    refine W.region _ ?_
    refine WG.run tab_ok 1 rfl ?_
    refine WG.y rfl rfl (by decide) (Yl.indexN tab_ok rfl rfl rfl rfl rfl rfl (fun _ => rfl) (by intro _; (try dsimp only) <;> omega) (by intro _; first | exact fun _ _ _ _ => rfl | exact RS.has (by assumption) | exact fun _ _ _ _ => (by assumption) | exact HasMem.ownD 0 rfl | exact HasMem.ownD 1 rfl)) ?_
    refine' WG.y rfl rfl (by decide) (Yl.load1 tab_ok rfl rfl rfl (fun _ => rfl) ?r2 rfl ?h2) ?_
    case r2 => ((apply RS.rdD; assumption; ((try dsimp only) <;> omega)))
    case h2 => rfl
    refine WG.run tab_ok 2 rfl ?_
    refine WG.nil ?_
    refine WE.nxt ?_
    refine W.seq ?_
    refine W.region _ ?_
    refine WG.run tab_ok 3 rfl ?_
    refine WG.nil ?_
    refine WE.nxt ?_
    refine W.condD rfl (fun hc1 => ?_) (fun hc1 => ?_)
    · try dsimp only at hc1
      have hff : findFrom (fun t => decide (cvF c t ≥ v)) c.vals.length 0 = t := findFrom_some (Nat.zero_le _) (by omega) (decide_eq_true (by rw [hft]; exact hc1)) (fun j _ hj => decide_eq_false (by have := hno j hj; omega))
      have hr : reachG c v = ((t : Int), true) := by unfold reachG; rw [hff, if_pos (by omega)]
      refine W.seq ?_
      refine W.region _ ?_
      refine WG.run tab_ok 3 rfl ?_
      refine WG.nil ?_
      refine WE.nxt ?_
      refine W.ret ?_
      refine WE.blk_ret ?_
      refine WE.then_ret ?_
      refine WE.then_ret ?_
      refine WE.blk_ret ?_
      refine WE.then_ret ?_
      refine WE.subE (E' := E) qS ?_
      refine WE.retF tab_ok [_, _] rfl ⟨rfl, rfl, trivial⟩ (RLe.refl _) ?_
      exact ⟨by rw [hr]; rfl, rfl⟩
    · try dsimp only at hc1
      refine W.skip ?_
      refine WE.blk _ ?_
      refine WE.nxt ?_
      refine W.region _ ?_
      refine WG.y rfl rfl (by decide) (Yl.add rfl rfl rfl (fun _ => rfl) (by intro _; constructor <;> (try dsimp only) <;> omega)) ?_
      refine WG.run tab_ok 1 rfl ?_
      refine WG.nil ?_
      refine WE.again (t + 1) (⟨by omega, fun j hj => by
        by_cases e : j = t
        · subst e; rw [hft]; omega
        · exact hno j (by omega)⟩) (by (try dsimp only); omega) ⟨rfl, rfl, rfl, rfl, rfl, rfl⟩ (RLe.refl _) qS
  · try dsimp only at hc0
    obtain rfl : t = c.vals.length := by omega
    have hff : findFrom (fun t => decide (cvF c t ≥ v)) c.vals.length 0 = -1 := findFrom_none (fun j _ hj => decide_eq_false (by have := hno j (by omega); omega))
    refine W.exit ?_
    refine WE.then_exit ?_
    refine WE.then_exit ?_
    refine WE.blk_exit ?_
    refine WE.nxt ?_
    refine W.seq ?_
    refine W.regionQ _ mixed (by kernel_rfl) ?_
    refine WG.run tab_ok 1 rfl ?_
    refine' WG.y rfl rfl (by decide) (Yl.load1 tab_ok rfl rfl rfl (fun _ => rfl) ?r3 rfl ?h3) ?_
    case r3 => apply Rd.add; (exact Rd.blk 0 rfl)
    case h3 => rfl
    refine WG.run tab_ok 2 rfl ?_
    refine' WG.y rfl rfl (by decide) (Yl.load1 tab_ok rfl rfl rfl (fun _ => rfl) ?r4 rfl ?h4) ?_
    case r4 => apply Rd.add; (exact Rd.blk 0 rfl)
    case h4 => rfl
    refine WG.run tab_ok 2 rfl ?_
    refine WG.nil ?_
    refine WE.nxt ?_
    refine W.seq ?_
    refine W.seq ?_
    refine W.region _ ?_
    refine WG.run tab_ok 3 rfl ?_
    refine WG.y rfl rfl (by decide) (pureV_ok tab_ok rfl qE) ?_
    refine' WG.y rfl rfl (by decide) (Yl.loadG tab_ok rfl rfl rfl qE ?r5 rfl ?h5 ?g5) ?_
    case r5 => apply Rd.addC; (exact Rd.blkC 0 rfl)
    case h5 => rfl
    case g5 => exact fun _ => trivial
    refine WG.y rfl rfl (by decide) (pureV_ok tab_ok rfl qE) ?_
    refine WG.y rfl rfl (by decide) (Yl.por rfl rfl rfl (fun _ => rfl) (by intro h1 h2; simp_all <;> omega)) ?_
    refine WG.nil ?_
    refine WE.nxt ?_
    refine W.cond rfl (fun hc2 => ?_) (fun hc2 => ?_)
    · try simp only [decide_eq_true_eq, decide_eq_false_iff_not, beq_iff_eq, bne_iff_ne, beq_eq_false_iff_ne, bne_eq_false_iff_eq, ne_eq, Bool.or_eq_true, Bool.or_eq_false_iff, Bool.and_eq_true, Bool.and_eq_false_imp, Bool.not_eq_true, Bool.not_eq_true', Bool.not_eq_false', Classical.not_not, Int.not_lt, Int.not_le, gt_iff_lt, ge_iff_le] at hc2
      have hr : reachG c v = (0, false) := by unfold reachG; rw [hff, if_neg (fun hh => hh rfl), if_pos (by unfold INF; omega)]
      refine W.seq ?_
      refine W.region _ ?_
      refine WG.run tab_ok 2 rfl ?_
      refine WG.nil ?_
      refine WE.nxt ?_
      refine W.ret ?_
      refine WE.then_ret ?_
      refine WE.subE (E' := E) qS ?_
      refine WE.retF tab_ok [_, _] rfl ⟨rfl, rfl, trivial⟩ (RLe.refl _) ?_
      exact ⟨by rw [hr]; rfl, rfl⟩
    · try simp only [decide_eq_true_eq, decide_eq_false_iff_not, beq_iff_eq, bne_iff_ne, beq_eq_false_iff_ne, bne_eq_false_iff_eq, ne_eq, Bool.or_eq_true, Bool.or_eq_false_iff, Bool.and_eq_true, Bool.and_eq_false_imp, Bool.not_eq_true, Bool.not_eq_true', Bool.not_eq_false', Classical.not_not, Int.not_lt, Int.not_le, gt_iff_lt, ge_iff_le] at hc2
      exfalso
      rcases hx with ⟨h, _⟩ | ⟨h1, h2, h3⟩
      · first | exact hc2 (.inl h) | exact hc2.1 h
      · obtain ⟨n, n1, _, n3⟩ := inf_at hv h1
        have hs := stN_lt hv
        have h4 := hno n (by omega)
        rw [n3.hi n (Nat.le_refl _)] at h4
        unfold INF at h4; omega

theorem ReachG_V {R : Ro} {fa : Option Addr} {fc : Nat} {c : Cv} (hv : validB c = true) (ha : RS R 1 encI fa c.vals) {v : Int} (hvv : v = 4611686018427387904 ∨ (0 ≤ v ∧ v ≤ 1000000000000000)) : FnV Tryz.prog 115 [.agg #[.slice fa c.vals.length fc, .int .i64 c.per, .int .i64 c.inc], .int .i64 v] R (.tuple #[.int .i64 (reachG c v).1, .bool (reachG c v).2]) := by
  cases hf : finB c with
  | false => exact ReachI_V hv ha (.inr ⟨hf, by omega⟩)
  | true =>
    by_cases h : v = 4611686018427387904
    · exact ReachI_V hv ha (.inl ⟨h, hf⟩)
    · rcases valid_cases hv with ⟨S, P, e, hl, hp, hfc, _⟩ | ⟨_, _, _, _, _, _, _, f⟩
      · have h2 := reachG_F hl hp (v := v) (by unfold INF; exact h)
        have e2 : c.vals = fvals (cvF c) (S + P) := by rw [← hl]; exact cvF_vals c
        rw [h2, hp, e2]
        rw [e2] at ha
        exact ReachF_V hfc ha (by omega)
      · rw [hf] at f; cases f

set_option maxHeartbeats 2000000 in
theorem DBothG_C {R : Ro} {fa : Option Addr} {fc : Nat} {cf : Cv} (hvf : validB cf = true) (ha : RS R 1 encI fa cf.vals) {ga : Option Addr} {gc : Nat} {cg : Cv} (hvg : validB cg = true) (hb : RS R 1 encI ga cg.vals) (w0 : World) (E : List Ent) : K.Fn Tryz.prog 112 [.agg #[.slice fa cf.vals.length fc, .int .i64 cf.per, .int .i64 cf.inc], .agg #[.slice ga cg.vals.length gc, .int .i64 cg.per, .int .i64 cg.inc]] w0 R E (fun v R' E' => ∃ (f1 : Option Addr) (n1 c1 : Nat) (p1 q1 : Int) (f2 : Option Addr) (n2 c2 : Nat) (p2 q2 tk : Int) (lo : Bool) (e : Int), v = .tuple #[.agg #[.slice f1 n1 c1, .int .i64 p1, .int .i64 q1, .slice f2 n2 c2, .int .i64 p2, .int .i64 q2, .int .i64 tk, .bool lo], .int .i64 e] ∧
      ((e = 3 ∧ 120 < lcmC (normR cf) (normR cg)) ∨ (e = 0 ∧ ¬ 120 < lcmC (normR cf) (normR cg) ∧ n1 = (normR cf).vals.length ∧ p1 = (normR cf).per ∧ q1 = (normR cf).inc ∧ n2 = (normR cg).vals.length ∧ p2 = (normR cg).per ∧ q2 = (normR cg).inc ∧ RS R' 1 encI f1 (normR cf).vals ∧ RS R' 1 encI f2 (normR cg).vals ∧ tk = ((max (stN (normR cf)) (stN (normR cg)) + lcmC (normR cf) (normR cg) : Nat) : Int) ∧ lo = decide (loose (normR cf) (normR cg)))) ∧ E.Sublist E') := by
  have hnf := norm_nrm hvf
  have hng := norm_nrm hvg
  refine Fn.enter (n := 65) Tryz.func112 rfl rfl (Nat.le_of_ble_eq_true rfl) rfl ?_
  refine W.seq ?_
  refine W.region _ ?_
  refine WL.ef rfl rfl (by decide) (Ef.box rfl rfl (fun b2 => ?_))
  refine WL.ef rfl rfl (by decide) (Ef.box rfl rfl (fun b3 => ?_))
  refine WL.ef rfl rfl (by decide) (Ef.alloc tab_ok rfl rfl (fun b4 => ?_))
  refine WG.run tab_ok 1 rfl ?_
  refine WG.nil ?_
  refine WE.nxt ?_
  refine W.seq ?_
  refine W.region _ ?_
  refine' WG.y rfl rfl (by decide) (Yl.load1 tab_ok rfl rfl rfl (fun _ => rfl) ?r1 rfl ?h1) ?_
  case r1 => (exact Rd.blk 2 rfl)
  case h1 => rfl
  refine WL.call en150 rfl rfl (by decide) (CallOp.mkT rfl rfl rfl rfl) (CNormalV_C hvf ha w0 _) ?_
  rintro _ R1 _ hR1 ⟨fa1x, ca1x, rfl, ha1x, hsub⟩
  refine WL.subE hsub ?_
  unfold cvV
  dsimp only at ha1x ⊢
  have hb := hb.mono hR1
  refine WG.run tab_ok 3 rfl ?_
  refine WL.ef rfl rfl (by decide) (Ef.alloc tab_ok rfl rfl (fun b6 => ?_))
  refine WL.efN rfl rfl (Ef.store0 0 tab_ok rfl rfl rfl rfl rfl rfl rfl rfl ?_)
  refine WG.run tab_ok 1 rfl ?_
  refine WG.nil ?_
  refine WE.nxt ?_
  refine W.seq ?_
  refine W.seq ?_
  refine W.region _ ?_
  refine WG.run tab_ok 2 rfl ?_
  refine WG.nil ?_
  refine WE.nxt ?_
  refine W.condN rfl (fun hc0 => ?_) (fun hc0 => ?_)
  · try dsimp only at hc0
    exact absurd rfl hc0
  · try dsimp only at hc0
    refine W.skip ?_
    refine WE.nxt ?_
    refine W.seq ?_
    refine W.region _ ?_
    refine' WG.y rfl rfl (by decide) (Yl.load1 tab_ok rfl rfl rfl (fun _ => rfl) ?r2 rfl ?h2) ?_
    case r2 => (exact Rd.blk 2 rfl)
    case h2 => rfl
    refine WL.call en150 rfl rfl (by decide) (CallOp.mkT rfl rfl rfl rfl) (CNormalV_C hvg hb w0 _) ?_
    rintro _ R2 _ hR2 ⟨fa2x, ca2x, rfl, ha2x, hsub⟩
    refine WL.subE hsub ?_
    unfold cvV
    dsimp only at ha2x ⊢
    have ha1x := ha1x.mono hR2
    generalize normR cf = m1 at *
    generalize normR cg = m2 at *
    have hv1 := hnf.valid
    have hv2 := hng.valid
    have hlle := lcmC_le hv1 hv2
    have hlp := lcm_pos hv1 hv2
    have hs1 := stN_lt hv1
    have hs2 := stN_lt hv2
    refine WG.run tab_ok 3 rfl ?_
    refine WL.ef rfl rfl (by decide) (Ef.alloc tab_ok rfl rfl (fun b8 => ?_))
    refine WL.efN rfl rfl (Ef.store0 0 tab_ok rfl rfl rfl rfl rfl rfl rfl rfl ?_)
    refine WG.run tab_ok 1 rfl ?_
    refine WG.nil ?_
    refine WE.nxt ?_
    refine W.seq ?_
    refine W.seq ?_
    refine W.region _ ?_
    refine WG.run tab_ok 2 rfl ?_
    refine WG.nil ?_
    refine WE.nxt ?_
    refine W.condN rfl (fun hc1 => ?_) (fun hc1 => ?_)
    · try dsimp only at hc1
      exact absurd rfl hc1
    · try dsimp only at hc1
      refine W.skip ?_
      refine WE.nxt ?_
      refine W.seq ?_
      refine W.region _ ?_
      refine WG.run tab_ok 1 rfl ?_
      refine' WG.y rfl rfl (by decide) (Yl.load1 tab_ok rfl rfl rfl (fun _ => rfl) ?r3 rfl ?h3) ?_
      case r3 => apply Rd.add; (exact Rd.blk 1 rfl)
      case h3 => rfl
      refine WG.run tab_ok 1 rfl ?_
      refine' WG.y rfl rfl (by decide) (Yl.load1 tab_ok rfl rfl rfl (fun _ => rfl) ?r4 rfl ?h4) ?_
      case r4 => apply Rd.add; (exact Rd.blk 0 rfl)
      case h4 => rfl
      refine WG.callV (v := .int .i64 (lcmC m1 m2 : Int)) en151 rfl rfl (by decide) (CallOp.mk' rfl rfl rfl rfl) (fun _ => rfl) (fun hg => CommonC_V hv1 hv2) ?_
      refine WG.run tab_ok 1 rfl ?_
      refine WG.nil ?_
      refine WE.nxt ?_
      refine W.seq ?_
      refine W.seq ?_
      refine W.region _ ?_
      refine WG.run tab_ok 2 rfl ?_
      refine WG.nil ?_
      refine WE.nxt ?_
      refine W.condD rfl (fun hc2 => ?_) (fun hc2 => ?_)
      · try dsimp only at hc2
        refine W.seq ?_
        refine W.region _ ?_
        -- build
        refine WG.y rfl rfl (by decide) (Yl.build (parts := []) tab_ok rfl rfl rfl rfl (fun _ => rfl) rfl rfl) ?_
        refine WL.efN rfl rfl (Ef.store0 2 tab_ok rfl rfl rfl rfl rfl rfl rfl rfl ?_)
        refine WG.run tab_ok 1 rfl ?_
        refine WG.nil ?_
        refine WE.nxt ?_
        refine W.ret ?_
        refine WE.then_ret ?_
        refine WE.retF tab_ok [_, _] rfl ⟨⟨_, _, _, rfl, rfl, rfl, ((by first | exact Rd.blk 0 rfl | exact Rd.blk 1 rfl | exact Rd.blk 2 rfl | exact Rd.blk 3 rfl | exact Rd.blk 4 rfl | exact Rd.blk 5 rfl | exact Rd.blk 6 rfl)), rfl⟩, rfl, trivial⟩ (hR1.trans hR2) ?_
        exact ⟨none, 0, 0, 0, 0, none, 0, 0, 0, 0, 0, false, _, rfl, .inl ⟨rfl, by omega⟩, qS⟩
      · try dsimp only at hc2
        have hl1 : ¬ 120 < lcmC m1 m2 := by omega
        refine W.skip ?_
        refine WE.nxt ?_
        refine W.seqCut (β := Nat × Int) (fun (b10, tk) => tk = ((max (stN m1) (stN m2) + lcmC m1 m2 : Nat) : Int)) (fun (b10, tk) => [(4, true, .pointer (some ⟨b4, 0, none⟩)), (6, true, .pointer (some ⟨b6, 0, none⟩)), (8, true, .pointer (some ⟨b8, 0, none⟩)), (9, true, .int .i64 (lcmC m1 m2 : Int)), (10, true, .pointer (some ⟨b10, 0, none⟩))]) (fun _ => R2) (fun (b10, tk) => .blk b10 [.slice fa1x m1.vals.length ca1x, .int .i64 m1.per, .int .i64 m1.inc, .slice fa2x m2.vals.length ca2x, .int .i64 m2.per, .int .i64 m2.inc, .int .i64 tk, .bool false] :: .blk b8 [.slice fa2x m2.vals.length ca2x, .int .i64 m2.per, .int .i64 m2.inc] :: .blk b6 [.slice fa1x m1.vals.length ca1x, .int .i64 m1.per, .int .i64 m1.inc] :: .blk b4 [.slice none 0 0, .int .i64 0, .int .i64 0, .slice none 0 0, .int .i64 0, .int .i64 0, .int .i64 0, .bool false] :: E) ?_ ?_
        ·
          intro st hst
          obtain ⟨b10, tk⟩ := st
          obtain rfl : tk = _ := hst
          dsimp only
          have hloq : (finB m2 && (!finB m1 || decide (gainC m1 (lcmC m1 m2) > gainC m2 (lcmC m1 m2)))) = decide (loose m1 m2) := by
            rw [Bool.eq_iff_iff, decide_eq_true_iff]
            unfold loose
            simp
          refine W.seq ?_
          refine W.regionH _ (ES := [.blk b8 [.slice fa2x m2.vals.length ca2x, .int .i64 m2.per, .int .i64 m2.inc], .blk b6 [.slice fa1x m1.vals.length ca1x, .int .i64 m1.per, .int .i64 m1.inc]]) mixed ?_
          refine' WA.take 0 rfl (by kernel_rfl) (by kernel_rfl) (by kernel_rfl) rfl rfl (by decide) (Yl.load1 tab_ok rfl rfl rfl (fun _ => rfl) ?r5 rfl ?h5) qS (by first | exact RLe.refl _ | assumption) ?_
          case r5 => (exact Rd.blk 0 rfl)
          case h5 => rfl
          refine WA.callV 1 rfl (by kernel_rfl) en153 rfl rfl (by decide) (CallOp.mk' rfl rfl rfl rfl) (fun _ => rfl) (fun hg => WFiniteG_V hv2 ha2x) qS (by first | exact RLe.refl _ | assumption) ?_
          refine WA.take 2 rfl (by kernel_rfl) (by kernel_rfl) (by kernel_rfl) rfl rfl (by decide) (pureV_ok tab_ok rfl (fun _ => rfl)) qS (by first | exact RLe.refl _ | assumption) ?_
          refine' WA.take 3 rfl (by kernel_rfl) (by kernel_rfl) (by kernel_rfl) rfl rfl (by decide) (Yl.loadG tab_ok rfl rfl rfl qE ?r6 rfl ?h6 ?g6) qS (by first | exact RLe.refl _ | assumption) ?_
          case r6 => (exact Rd.blkC 1 rfl)
          case h6 => rfl
          case g6 => exact fun _ => trivial
          refine WA.callV 4 rfl (by kernel_rfl) en153 rfl rfl (by decide) (CallOp.mk' rfl rfl rfl rfl) qE (fun hg => WFiniteG_V hv1 ha1x) qS (by first | exact RLe.refl _ | assumption) ?_
          refine WA.take 5 rfl (by kernel_rfl) (by kernel_rfl) (by kernel_rfl) rfl rfl (by decide) (pureV_ok tab_ok rfl qE) qS (by first | exact RLe.refl _ | assumption) ?_
          refine WA.take 6 rfl (by kernel_rfl) (by kernel_rfl) (by kernel_rfl) rfl rfl (by decide) (pureV_ok tab_ok rfl qE) qS (by first | exact RLe.refl _ | assumption) ?_
          refine' WA.take 7 rfl (by kernel_rfl) (by kernel_rfl) (by kernel_rfl) rfl rfl (by decide) (Yl.loadG tab_ok rfl rfl rfl qE ?r7 rfl ?h7 ?g7) qS (by first | exact RLe.refl _ | assumption) ?_
          case r7 => (exact Rd.blkC 1 rfl)
          case h7 => rfl
          case g7 => exact fun _ => trivial
          refine WA.take 8 rfl (by kernel_rfl) (by kernel_rfl) (by kernel_rfl) rfl rfl (by decide) (pureV_ok tab_ok rfl qE) qS (by first | exact RLe.refl _ | assumption) ?_
          refine' WA.take 10 rfl (by kernel_rfl) (by kernel_rfl) (by kernel_rfl) rfl rfl (by decide) (Yl.loadG tab_ok rfl rfl rfl qE ?r8 rfl ?h8 ?g8) qS (by first | exact RLe.refl _ | assumption) ?_
          case r8 => (exact Rd.blkC 0 rfl)
          case h8 => rfl
          case g8 => exact fun _ => trivial
          refine WA.take 11 rfl (by kernel_rfl) (by kernel_rfl) (by kernel_rfl) rfl rfl (by decide) (pureV_ok tab_ok rfl qE) qS (by first | exact RLe.refl _ | assumption) ?_
          refine WA.callV 9 (v := .int .i64 (gainC m1 (lcmC m1 m2))) rfl (by kernel_rfl) en154 rfl rfl (by decide) (CallOp.mk' rfl rfl rfl rfl) qE (fun hg => WGainG_V hv1 ha1x (L := lcmC m1 m2) (by omega)) qS (by first | exact RLe.refl _ | assumption) ?_
          refine WA.callV 12 (v := .int .i64 (gainC m2 (lcmC m1 m2))) rfl (by kernel_rfl) en154 rfl rfl (by decide) (CallOp.mk' rfl rfl rfl rfl) qE (fun hg => WGainG_V hv2 ha2x (L := lcmC m1 m2) (by omega)) qS (by first | exact RLe.refl _ | assumption) ?_
          refine WA.take 13 rfl (by kernel_rfl) (by kernel_rfl) (by kernel_rfl) rfl rfl (by decide) (pureV_ok tab_ok rfl qE) qS (by first | exact RLe.refl _ | assumption) ?_
          refine WA.take 14 rfl (by kernel_rfl) (by kernel_rfl) (by kernel_rfl) rfl rfl (by decide) (Yl.por rfl rfl rfl qE (by intro h1 h2; simp_all <;> omega)) qS (by first | exact RLe.refl _ | assumption) ?_
          refine WA.take 15 rfl (by kernel_rfl) (by kernel_rfl) (by kernel_rfl) rfl rfl (by decide) (Yl.pand rfl rfl rfl (fun _ => rfl) (by intro h1 h2; simp_all <;> omega)) qS (by first | exact RLe.refl _ | assumption) ?_
          refine WA.take 16 rfl (by kernel_rfl) (by kernel_rfl) (by kernel_rfl) rfl rfl (by decide) (pureV_ok tab_ok rfl (fun _ => rfl)) qS (by first | exact RLe.refl _ | assumption) ?_
          refine WA.effN 17 rfl (by kernel_rfl) rfl rfl (Ef.store 0 tab_ok rfl rfl rfl rfl rfl rfl rfl rfl ?_)
          refine ⟨by first | exact RLe.refl _ | assumption, qS, ?_⟩
          refine WA.done (by kernel_rfl) ?_
          refine WE.nxt ?_
          refine W.seq ?_
          refine W.region _ ?_
          refine' WG.y rfl rfl (by decide) (Yl.load1 tab_ok rfl rfl rfl (fun _ => rfl) ?r9 rfl ?h9) ?_
          case r9 => (exact Rd.blk 0 rfl)
          case h9 => rfl
          refine WL.efN rfl rfl (Ef.store0 3 tab_ok rfl rfl rfl rfl rfl rfl rfl rfl ?_)
          refine WG.run tab_ok 1 rfl ?_
          refine WG.nil ?_
          refine WE.nxt ?_
          refine W.ret ?_
          refine WE.retF tab_ok [_, _] rfl ⟨⟨_, _, _, rfl, rfl, rfl, ((by first | exact Rd.blk 0 rfl | exact Rd.blk 1 rfl | exact Rd.blk 2 rfl | exact Rd.blk 3 rfl | exact Rd.blk 4 rfl | exact Rd.blk 5 rfl | exact Rd.blk 6 rfl)), rfl⟩, rfl, trivial⟩ (hR1.trans hR2) ?_
          refine ⟨fa1x, _, ca1x, _, _, fa2x, _, ca2x, _, _, _, _, _, rfl, .inr ⟨rfl, hl1, rfl, rfl, rfl, rfl, rfl, rfl, ha1x, ha2x, ?_, ?_⟩, qS⟩
          · first | rfl | omega | (split <;> omega)
          · first | exact hloq | (rw [← hloq]; rfl)
        ·
          refine W.regionH _ (ES := [.blk b8 [.slice fa2x m2.vals.length ca2x, .int .i64 m2.per, .int .i64 m2.inc], .blk b6 [.slice fa1x m1.vals.length ca1x, .int .i64 m1.per, .int .i64 m1.inc]]) mixed ?_
          refine' WA.take 0 rfl (by kernel_rfl) (by kernel_rfl) (by kernel_rfl) rfl rfl (by decide) (Yl.load1 tab_ok rfl rfl rfl (fun _ => rfl) ?r10 rfl ?h10) qS (by first | exact RLe.refl _ | assumption) ?_
          case r10 => (exact Rd.blk 1 rfl)
          case h10 => rfl
          refine' WA.take 1 rfl (by kernel_rfl) (by kernel_rfl) (by kernel_rfl) rfl rfl (by decide) (Yl.load1 tab_ok rfl rfl rfl (fun _ => rfl) ?r11 rfl ?h11) qS (by first | exact RLe.refl _ | assumption) ?_
          case r11 => (exact Rd.blk 0 rfl)
          case h11 => rfl
          refine' WA.take 2 rfl (by kernel_rfl) (by kernel_rfl) (by kernel_rfl) rfl rfl (by decide) (Yl.load1 tab_ok rfl rfl rfl (fun _ => rfl) ?r12 rfl ?h12) qS (by first | exact RLe.refl _ | assumption) ?_
          case r12 => (exact Rd.blk 1 rfl)
          case h12 => rfl
          refine' WA.take 4 rfl (by kernel_rfl) (by kernel_rfl) (by kernel_rfl) rfl rfl (by decide) (Yl.load1 tab_ok rfl rfl rfl (fun _ => rfl) ?r13 rfl ?h13) qS (by first | exact RLe.refl _ | assumption) ?_
          case r13 => (exact Rd.blk 0 rfl)
          case h13 => rfl
          refine WA.take 7 rfl (by kernel_rfl) (by kernel_rfl) (by kernel_rfl) rfl rfl (by decide) (pureV_ok tab_ok rfl (fun _ => rfl)) qS (by first | exact RLe.refl _ | assumption) ?_
          refine WA.br2 (i := 3) (j := 10) (by kernel_rfl) ?_ ?_
          ·
            refine WS.callV rfl en152 rfl rfl (by decide) (CallOp.mk' rfl rfl rfl rfl) (fun _ => rfl) (fun hg => WStartG_V hv1 ha1x) qS (by first | exact RLe.refl _ | assumption) ?_
            refine WA.br2 (i := 5) (j := 10) (by kernel_rfl) ?_ ?_
            ·
              refine WS.callV rfl en152 rfl rfl (by decide) (CallOp.mk' rfl rfl rfl rfl) (fun _ => rfl) (fun hg => WStartG_V hv2 ha2x) qS (by first | exact RLe.refl _ | assumption) ?_
              refine WA.take 6 rfl (by kernel_rfl) (by kernel_rfl) (by kernel_rfl) rfl rfl (by decide) (pureV_ok tab_ok rfl (fun _ => rfl)) qS (by first | exact RLe.refl _ | assumption) ?_
              refine WA.take 8 rfl (by kernel_rfl) (by kernel_rfl) (by kernel_rfl) rfl rfl (by decide) (Yl.add rfl rfl rfl (fun _ => rfl) (by intro _; constructor <;> (try dsimp only) <;> omega)) qS (by first | exact RLe.refl _ | assumption) ?_
              -- build
              refine WA.take 9 rfl (by kernel_rfl) (by kernel_rfl) (by kernel_rfl) rfl rfl (by decide) (Yl.build (parts := [(0, .tmp 37), (1, .tmp 38), (2, .tmp 45)]) tab_ok rfl rfl rfl rfl (fun _ => rfl) rfl rfl) qS (by first | exact RLe.refl _ | assumption) ?_
              refine WA.eff 10 rfl (by kernel_rfl) rfl rfl (by decide) (Ef.alloc tab_ok rfl rfl (fun b10 => ?_))
              refine ⟨by first | exact RLe.refl _ | assumption, qS, ?_⟩
              refine WA.effN 11 rfl (by kernel_rfl) rfl rfl (Ef.store0 0 tab_ok rfl rfl rfl rfl rfl rfl rfl rfl ?_)
              refine ⟨by first | exact RLe.refl _ | assumption, qS, ?_⟩
              refine WA.done (by kernel_rfl) ?_
              refine WE.cut (b10, (if (stN m1 : Int) < (stN m2 : Int) then (stN m2 : Int) else (stN m1 : Int)) + (lcmC m1 m2 : Int)) (by first | rfl | omega | (split <;> omega)) ⟨rfl, rfl, rfl, rfl, rfl, rfl⟩ (RLe.refl _) qS
            ·
              refine WS.eff rfl rfl rfl (by decide) (Ef.alloc tab_ok rfl rfl (fun b10 => ?_))
              refine ⟨by first | exact RLe.refl _ | assumption, qS, ?_⟩
              refine WA.callV 5 rfl (by kernel_rfl) en152 rfl rfl (by decide) (CallOp.mk' rfl rfl rfl rfl) (fun _ => rfl) (fun hg => WStartG_V hv2 ha2x) qS (by first | exact RLe.refl _ | assumption) ?_
              refine WA.take 6 rfl (by kernel_rfl) (by kernel_rfl) (by kernel_rfl) rfl rfl (by decide) (pureV_ok tab_ok rfl (fun _ => rfl)) qS (by first | exact RLe.refl _ | assumption) ?_
              refine WA.take 8 rfl (by kernel_rfl) (by kernel_rfl) (by kernel_rfl) rfl rfl (by decide) (Yl.add rfl rfl rfl (fun _ => rfl) (by intro _; constructor <;> (try dsimp only) <;> omega)) qS (by first | exact RLe.refl _ | assumption) ?_
              -- build
              refine WA.take 9 rfl (by kernel_rfl) (by kernel_rfl) (by kernel_rfl) rfl rfl (by decide) (Yl.build (parts := [(0, .tmp 37), (1, .tmp 38), (2, .tmp 45)]) tab_ok rfl rfl rfl rfl (fun _ => rfl) rfl rfl) qS (by first | exact RLe.refl _ | assumption) ?_
              refine WA.effN 11 rfl (by kernel_rfl) rfl rfl (Ef.store0 0 tab_ok rfl rfl rfl rfl rfl rfl rfl rfl ?_)
              refine ⟨by first | exact RLe.refl _ | assumption, qS, ?_⟩
              refine WA.done (by kernel_rfl) ?_
              refine WE.cut (b10, (if (stN m1 : Int) < (stN m2 : Int) then (stN m2 : Int) else (stN m1 : Int)) + (lcmC m1 m2 : Int)) (by first | rfl | omega | (split <;> omega)) ⟨rfl, rfl, rfl, rfl, rfl, rfl⟩ (RLe.refl _) qS
          ·
            refine WS.eff rfl rfl rfl (by decide) (Ef.alloc tab_ok rfl rfl (fun b10 => ?_))
            refine ⟨by first | exact RLe.refl _ | assumption, qS, ?_⟩
            refine WA.callV 3 rfl (by kernel_rfl) en152 rfl rfl (by decide) (CallOp.mk' rfl rfl rfl rfl) (fun _ => rfl) (fun hg => WStartG_V hv1 ha1x) qS (by first | exact RLe.refl _ | assumption) ?_
            refine WA.callV 5 rfl (by kernel_rfl) en152 rfl rfl (by decide) (CallOp.mk' rfl rfl rfl rfl) (fun _ => rfl) (fun hg => WStartG_V hv2 ha2x) qS (by first | exact RLe.refl _ | assumption) ?_
            refine WA.take 6 rfl (by kernel_rfl) (by kernel_rfl) (by kernel_rfl) rfl rfl (by decide) (pureV_ok tab_ok rfl (fun _ => rfl)) qS (by first | exact RLe.refl _ | assumption) ?_
            refine WA.take 8 rfl (by kernel_rfl) (by kernel_rfl) (by kernel_rfl) rfl rfl (by decide) (Yl.add rfl rfl rfl (fun _ => rfl) (by intro _; constructor <;> (try dsimp only) <;> omega)) qS (by first | exact RLe.refl _ | assumption) ?_
            -- build
            refine WA.take 9 rfl (by kernel_rfl) (by kernel_rfl) (by kernel_rfl) rfl rfl (by decide) (Yl.build (parts := [(0, .tmp 37), (1, .tmp 38), (2, .tmp 45)]) tab_ok rfl rfl rfl rfl (fun _ => rfl) rfl rfl) qS (by first | exact RLe.refl _ | assumption) ?_
            refine WA.effN 11 rfl (by kernel_rfl) rfl rfl (Ef.store0 0 tab_ok rfl rfl rfl rfl rfl rfl rfl rfl ?_)
            refine ⟨by first | exact RLe.refl _ | assumption, qS, ?_⟩
            refine WA.done (by kernel_rfl) ?_
            refine WE.cut (b10, (if (stN m1 : Int) < (stN m2 : Int) then (stN m2 : Int) else (stN m1 : Int)) + (lcmC m1 m2 : Int)) (by first | rfl | omega | (split <;> omega)) ⟨rfl, rfl, rfl, rfl, rfl, rfl⟩ (RLe.refl _) qS

theorem DelayFG_V {R : Ro} {a1 : Option Addr} {c1 : Nat} {m1 : Cv} (hv1 : validB m1 = true) (hx1 : RS R 1 encI a1 m1.vals) {a2 : Option Addr} {c2 : Nat} {m2 : Cv} (hv2 : validB m2 = true) (hx2 : RS R 1 encI a2 m2.vals) {b6 : Nat} {tk : Int} {lo : Bool} (h6 : R b6 = some [.slice a1 m1.vals.length c1, .int .i64 m1.per, .int .i64 m1.inc, .slice a2 m2.vals.length c2, .int .i64 m2.per, .int .i64 m2.inc, .int .i64 tk, .bool lo]) {t : Nat} (ht : t ≤ 100000) : FnV Tryz.prog 114 [.int .i64 (t : Int), .pointer (some ⟨b6, 0, none⟩)] R (.tuple #[.int .i64 (gapD m1 m2 t).1, .bool (gapD m1 m2 t).2]) := by
  have hlow := cvF_low15 hv1 ht
  have hrb := reachG_bound hv2 hlow
  unfold INF at hlow
  refine Fn.toV (fun w0 E => ?_)
  refine Fn.enter (n := 21) Tryz.func114 rfl rfl (Nat.le_of_ble_eq_true rfl) rfl ?_
  refine W.seq ?_
  refine W.region _ ?_
  refine WG.run tab_ok 2 rfl ?_
  refine WG.nil ?_
  refine WE.nxt ?_
  refine W.seq ?_
  refine W.regionQ _ mixed (by kernel_rfl) ?_
  refine WG.run tab_ok 1 rfl ?_
  refine' WG.y rfl rfl (by decide) (Yl.load1 tab_ok rfl rfl rfl (fun _ => rfl) ?r1 rfl ?h1) ?_
  case r1 => apply Rd.add; (exact Rd.ro (by assumption))
  case h1 => rfl
  refine WG.run tab_ok 1 rfl ?_
  refine' WG.y rfl rfl (by decide) (Yl.load1 tab_ok rfl rfl rfl (fun _ => rfl) ?r2 rfl ?h2) ?_
  case r2 => apply Rd.add; (exact Rd.ro (by assumption))
  case h2 => rfl
  refine WG.run tab_ok 1 rfl ?_
  refine WG.callV en116 rfl rfl (by decide) (CallOp.mk' rfl rfl rfl rfl) (fun _ => rfl) (fun hg => WAtG_V hv1 hx1 (by omega)) ?_
  refine WG.callV en115 rfl rfl (by decide) (CallOp.mk' rfl rfl rfl rfl) (fun _ => rfl) (fun hg => ReachG_V hv2 hx2 hlow) ?_
  refine WG.run tab_ok 5 rfl ?_
  refine WG.nil ?_
  refine WE.nxt ?_
  refine W.seq ?_
  refine W.region _ ?_
  refine WG.run tab_ok 2 rfl ?_
  refine WG.y rfl rfl (by decide) (Yl.sub rfl rfl rfl (fun _ => rfl) (by intro _; constructor <;> (try dsimp only) <;> omega)) ?_
  refine WG.run tab_ok 3 rfl ?_
  refine WG.nil ?_
  refine WE.nxt ?_
  refine W.ret ?_
  refine WE.subE (E' := E) qS ?_
  refine WE.retF tab_ok [_, _] rfl ⟨rfl, rfl, trivial⟩ (RLe.refl _) ?_
  exact ⟨rfl, rfl⟩

theorem DelayG_C {R : Ro} {fa : Option Addr} {fc : Nat} {cf : Cv} (hvf : validB cf = true) (ha : RS R 1 encI fa cf.vals) {ga : Option Addr} {gc : Nat} {cg : Cv} (hvg : validB cg = true) (hb : RS R 1 encI ga cg.vals) (w0 : World) (E : List Ent) : K.Fn Tryz.prog 75 [.agg #[.slice fa cf.vals.length fc, .int .i64 cf.per, .int .i64 cf.inc], .agg #[.slice ga cg.vals.length gc, .int .i64 cg.per, .int .i64 cg.inc]] w0 R E (fun v R' E' => v = .tuple #[.agg #[.bool ((devN (normR cf) (normR cg) (gapD (normR cf) (normR cg)))).1.1, .int .i64 ((devN (normR cf) (normR cg) (gapD (normR cf) (normR cg)))).1.2.1, .int .i64 ((devN (normR cf) (normR cg) (gapD (normR cf) (normR cg)))).1.2.2], .int .i64 ((devN (normR cf) (normR cg) (gapD (normR cf) (normR cg)))).2] ∧ E.Sublist E') := by
  have hnf := norm_nrm hvf
  have hng := norm_nrm hvg
  refine Fn.enter (n := 25) Tryz.func75 rfl rfl (Nat.le_of_ble_eq_true rfl) rfl ?_
  refine W.seq ?_
  refine W.region _ ?_
  refine WL.ef rfl rfl (by decide) (Ef.box rfl rfl (fun b2 => ?_))
  refine WL.ef rfl rfl (by decide) (Ef.box rfl rfl (fun b3 => ?_))
  refine WL.ef rfl rfl (by decide) (Ef.alloc tab_ok rfl rfl (fun b4 => ?_))
  refine WG.run tab_ok 1 rfl ?_
  refine WG.nil ?_
  refine WE.nxt ?_
  refine W.seq ?_
  refine W.region _ ?_
  refine' WG.y rfl rfl (by decide) (Yl.load1 tab_ok rfl rfl rfl (fun _ => rfl) ?r1 rfl ?h1) ?_
  case r1 => (exact Rd.blk 2 rfl)
  case h1 => rfl
  refine' WG.y rfl rfl (by decide) (Yl.load1 tab_ok rfl rfl rfl (fun _ => rfl) ?r2 rfl ?h2) ?_
  case r2 => (exact Rd.blk 1 rfl)
  case h2 => rfl
  refine WL.call en112 rfl rfl (by decide) (CallOp.mkT rfl rfl rfl rfl) (DBothG_C hvf ha hvg hb w0 _) ?_
  rintro _ R1 _ hR1 ⟨a1, n1, c1, p1, q1, a2, n2, c2, p2, q2, tk, lo, e, rfl, hpair, hsub⟩
  refine WL.subE hsub ?_
  refine WG.run tab_ok 3 rfl ?_
  refine WL.ef rfl rfl (by decide) (Ef.alloc tab_ok rfl rfl (fun b6 => ?_))
  refine WL.efN rfl rfl (Ef.store0 0 tab_ok rfl rfl rfl rfl rfl rfl rfl rfl ?_)
  refine WG.run tab_ok 1 rfl ?_
  refine WG.nil ?_
  refine WE.nxt ?_
  refine W.seq ?_
  refine W.seq ?_
  refine W.region _ ?_
  refine WG.run tab_ok 2 rfl ?_
  refine WG.nil ?_
  refine WE.nxt ?_
  refine W.condN rfl (fun hc0 => ?_) (fun hc0 => ?_)
  · try dsimp only at hc0
    obtain ⟨rfl, hl⟩ : e = 3 ∧ 120 < lcmC (normR cf) (normR cg) := by
      rcases hpair with h | h
      · exact h
      · exact absurd h.1 hc0
    have hd : (devN (normR cf) (normR cg) (gapD (normR cf) (normR cg))) = ((false, 0, 0), 3) := by unfold devN; rw [if_pos hl]
    refine W.seq ?_
    refine W.region _ ?_
    -- build
    refine WG.y rfl rfl (by decide) (Yl.build (parts := []) tab_ok rfl rfl rfl rfl (fun _ => rfl) rfl rfl) ?_
    refine WG.run tab_ok 1 rfl ?_
    refine WL.efN rfl rfl (Ef.store0 1 tab_ok rfl rfl rfl rfl rfl rfl rfl rfl ?_)
    refine WG.run tab_ok 1 rfl ?_
    refine WG.nil ?_
    refine WE.nxt ?_
    refine W.ret ?_
    refine WE.then_ret ?_
    refine WE.retF tab_ok [_, _] rfl ⟨⟨_, _, _, rfl, rfl, rfl, ((by first | exact Rd.blk 0 rfl | exact Rd.blk 1 rfl | exact Rd.blk 2 rfl | exact Rd.blk 3 rfl | exact Rd.blk 4 rfl | exact Rd.blk 5 rfl)), rfl⟩, rfl, trivial⟩ ((by first | exact hR1.trans (hR2.trans hR3) | exact hR1.trans hR2 | exact hR1)) ?_
    exact ⟨by rw [hd]; rfl, qS⟩
  · try dsimp only at hc0
    obtain ⟨rfl, hl, rfl, rfl, rfl, rfl, rfl, rfl, hx1, hx2, rfl, rfl⟩ := hpair.resolve_left (fun h => by omega)
    generalize normR cf = m1 at *
    generalize normR cg = m2 at *
    have hv1 := hnf.valid
    have hv2 := hng.valid
    have hs1 := stN_lt hv1
    have hs2 := stN_lt hv2
    refine W.skip ?_
    refine WE.nxt ?_
    refine W.seq ?_
    refine W.seq ?_
    refine W.region _ ?_
    refine WG.run tab_ok 1 rfl ?_
    refine' WG.y rfl rfl (by decide) (Yl.load1 tab_ok rfl rfl rfl (fun _ => rfl) ?r3 rfl ?h3) ?_
    case r3 => apply Rd.add; (exact Rd.blk 0 rfl)
    case h3 => rfl
    refine WG.nil ?_
    refine WE.nxt ?_
    refine W.cond rfl (fun hc1 => ?_) (fun hc1 => ?_)
    · try simp only [decide_eq_true_eq, decide_eq_false_iff_not, beq_iff_eq, bne_iff_ne, beq_eq_false_iff_ne, bne_eq_false_iff_eq, ne_eq, Bool.or_eq_true, Bool.or_eq_false_iff, Bool.and_eq_true, Bool.and_eq_false_imp, Bool.not_eq_true, Bool.not_eq_true', Bool.not_eq_false', Classical.not_not, Int.not_lt, Int.not_le, gt_iff_lt, ge_iff_le] at hc1
      have hlo : loose m1 m2 := by simpa using hc1
      have hd : devN m1 m2 (gapD m1 m2) = ((true, 0, 0), 0) := by unfold devN; rw [if_neg hl, if_pos hlo]
      refine W.seq ?_
      refine W.region _ ?_
      -- build
      refine WG.y rfl rfl (by decide) (Yl.build (parts := [(0, .const (.bool true))]) tab_ok rfl rfl rfl rfl (fun _ => rfl) rfl rfl) ?_
      refine WL.efN rfl rfl (Ef.store0 1 tab_ok rfl rfl rfl rfl rfl rfl rfl rfl ?_)
      refine WG.run tab_ok 1 rfl ?_
      refine WG.nil ?_
      refine WE.nxt ?_
      refine W.ret ?_
      refine WE.then_ret ?_
      refine WE.retF tab_ok [_, _] rfl ⟨⟨_, _, _, rfl, rfl, rfl, ((by first | exact Rd.blk 0 rfl | exact Rd.blk 1 rfl | exact Rd.blk 2 rfl | exact Rd.blk 3 rfl | exact Rd.blk 4 rfl | exact Rd.blk 5 rfl)), rfl⟩, rfl, trivial⟩ ((by first | exact hR1.trans (hR2.trans hR3) | exact hR1.trans hR2 | exact hR1)) ?_
      exact ⟨by rw [hd]; rfl, qS⟩
    · try simp only [decide_eq_true_eq, decide_eq_false_iff_not, beq_iff_eq, bne_iff_ne, beq_eq_false_iff_ne, bne_eq_false_iff_eq, ne_eq, Bool.or_eq_true, Bool.or_eq_false_iff, Bool.and_eq_true, Bool.and_eq_false_imp, Bool.not_eq_true, Bool.not_eq_true', Bool.not_eq_false', Classical.not_not, Int.not_lt, Int.not_le, gt_iff_lt, ge_iff_le] at hc1
      have hlo : ¬ loose m1 m2 := by simpa using hc1
      have hd : devN m1 m2 (gapD m1 m2) = (greatW (gapD m1 m2) (max (stN m1) (stN m2) + lcmC m1 m2) 0 0 0, 0) := by unfold devN; rw [if_neg hl, if_neg hlo]
      refine W.skip ?_
      refine WE.nxt ?_
      refine W.freezeBlk 0 rfl ?_
      intro R2 hR2 hb6
      have hF : ∀ t : Nat, t < max (stN m1) (stN m2) + lcmC m1 m2 → FnV Tryz.prog 114 ((#[] : Array Value).toList ++ [.int .i64 (t : Int)] ++ (#[.pointer (some ⟨b6, 0, none⟩)] : Array Value).toList) R2 (.tuple #[.int .i64 (gapD m1 m2 t).1, .bool (gapD m1 m2 t).2]) := fun t ht => DelayFG_V hv1 (hx1.mono hR2) hv2 (hx2.mono hR2) hb6 (by omega)
      refine W.seq ?_
      refine W.region _ ?_
      refine WG.run tab_ok 1 rfl ?_
      refine' WG.y rfl rfl (by decide) (Yl.load1 tab_ok rfl rfl rfl (fun _ => rfl) ?r4 rfl ?h4) ?_
      case r4 => apply Rd.add; (exact Rd.ro (by assumption))
      case h4 => rfl
      refine WG.run tab_ok 1 rfl ?_
      refine WG.callV en113 rfl rfl (by decide) (CallOp.mk' rfl rfl rfl rfl) (fun _ => rfl) (fun hg => Greatest_V (f := gapD m1 m2) (n := max (stN m1) (stN m2) + lcmC m1 m2) en114 hF (by omega)) ?_
      refine WL.efN rfl rfl (Ef.store0 0 tab_ok rfl rfl rfl rfl rfl rfl rfl rfl ?_)
      refine WG.run tab_ok 1 rfl ?_
      refine WG.nil ?_
      refine WE.nxt ?_
      refine W.ret ?_
      refine WE.retF tab_ok [_, _] rfl ⟨⟨_, _, _, rfl, rfl, rfl, ((by first | exact Rd.blk 0 rfl | exact Rd.blk 1 rfl | exact Rd.blk 2 rfl | exact Rd.blk 3 rfl | exact Rd.blk 4 rfl | exact Rd.blk 5 rfl)), rfl⟩, rfl, trivial⟩ ((by first | exact hR1.trans (hR2.trans hR3) | exact hR1.trans hR2 | exact hR1)) ?_
      exact ⟨by rw [hd]; rfl, qS⟩

end Go.Proofs.YtlgjkmebpnnphaaGreat

/- Chapter 22: curve.Wait, the delay of all. No condition. -/
set_option maxRecDepth 4000
set_option linter.unusedSimpArgs false
set_option linter.unusedVariables false
namespace Go.Proofs.YtlgjkmebpnnphaaGreat
open Go Go.RowKit Go.Proofs.YtlgjkmebpnnphaaGreat.K Go.Proofs.YtlgjkmebpnnphaaGreat.M

theorem Wait_C {R : Ro} {v : Int} (w0 : World) (E : List Ent) : K.Fn Tryz.prog 195 [.int .i64 v] w0 R E (fun r R' E' => ∃ (f : Option Addr) (fc : Nat), r = cvV f fc (waitC v) ∧ RS R' 1 encI f (waitC v).1.vals ∧ E.Sublist E') := by
  refine Fn.enter (n := 20) Tryz.func195 rfl rfl (Nat.le_of_ble_eq_true rfl) rfl ?_
  refine W.seq ?_
  refine W.region _ ?_
  refine WL.ef rfl rfl (by decide) (Ef.alloc tab_ok rfl rfl (fun b2 => ?_))
  refine WG.run tab_ok 1 rfl ?_
  refine WG.nil ?_
  refine WE.nxt ?_
  refine W.seq ?_
  refine W.seq ?_
  refine W.region _ ?_
  refine WG.run tab_ok 2 rfl ?_
  refine WG.nil ?_
  refine WE.nxt ?_
  refine W.condD rfl (fun hc0 => ?_) (fun hc0 => ?_)
  · try dsimp only at hc0
    have e : waitC v = (zcv, 2) := if_pos hc0
    refine W.seq ?_
    refine W.region _ ?_
    -- build
    refine WG.y rfl rfl (by decide) (Yl.build (parts := []) tab_ok rfl rfl rfl rfl (fun _ => rfl) rfl rfl) ?_
    refine WL.efN rfl rfl (Ef.store0 0 tab_ok rfl rfl rfl rfl rfl rfl rfl rfl ?_)
    refine WG.run tab_ok 1 rfl ?_
    refine WG.nil ?_
    refine WE.nxt ?_
    refine W.ret ?_
    refine WE.then_ret ?_
    refine WE.retF tab_ok [_, _] rfl ⟨⟨_, _, _, rfl, rfl, rfl, ((by first | exact Rd.blk 0 rfl | exact Rd.blk 1 rfl | exact Rd.blk 2 rfl | exact Rd.blk 3 rfl)), rfl⟩, rfl, trivial⟩ (by first | exact RLe.refl _ | exact hR1) ?_
    rw [e]
    exact ⟨none, 0, rfl, rs_nil, qS⟩
  · try dsimp only at hc0
    refine W.skip ?_
    refine WE.nxt ?_
    refine W.seq ?_
    refine W.seq ?_
    refine W.region _ ?_
    refine WG.run tab_ok 2 rfl ?_
    refine WG.nil ?_
    refine WE.nxt ?_
    refine W.condD rfl (fun hc1 => ?_) (fun hc1 => ?_)
    · try dsimp only at hc1
      have e : waitC v = (zcv, 3) := by unfold waitC; rw [if_neg (by omega), if_pos (by omega)]
      refine W.seq ?_
      refine W.region _ ?_
      -- build
      refine WG.y rfl rfl (by decide) (Yl.build (parts := []) tab_ok rfl rfl rfl rfl (fun _ => rfl) rfl rfl) ?_
      refine WL.efN rfl rfl (Ef.store0 0 tab_ok rfl rfl rfl rfl rfl rfl rfl rfl ?_)
      refine WG.run tab_ok 1 rfl ?_
      refine WG.nil ?_
      refine WE.nxt ?_
      refine W.ret ?_
      refine WE.then_ret ?_
      refine WE.retF tab_ok [_, _] rfl ⟨⟨_, _, _, rfl, rfl, rfl, ((by first | exact Rd.blk 0 rfl | exact Rd.blk 1 rfl | exact Rd.blk 2 rfl | exact Rd.blk 3 rfl)), rfl⟩, rfl, trivial⟩ (by first | exact RLe.refl _ | exact hR1) ?_
      rw [e]
      exact ⟨none, 0, rfl, rs_nil, qS⟩
    · try dsimp only at hc1
      have e : waitC v = (⟨waitL v, 1, 0⟩, 0) := by unfold waitC; rw [if_neg (by omega), if_neg (by omega)]
      refine W.skip ?_
      refine WE.nxt ?_
      refine W.seq ?_
      refine W.region _ ?_
      refine WG.run tab_ok 1 rfl ?_
      refine WG.y rfl rfl (by decide) (Yl.add rfl rfl rfl (fun _ => rfl) (by intro _; constructor <;> (try dsimp only) <;> omega)) ?_
      refine WL.ef rfl rfl (by decide) (Ef.makeSliceD (enc := encI) 0 tab_ok rfl rfl rfl rfl rfl rfl (by (try dsimp only) <;> omega) (by (try dsimp only) <;> omega) (by (try dsimp only) <;> omega) (by (try dsimp only) <;> omega) (by decide) rfl rfl (fun a13 => ?_))
      refine WG.run tab_ok 1 rfl ?_
      refine WG.nil ?_
      refine WE.nxt ?_
      refine W.seq ?_
      refine W.region _ ?_
      refine WG.run tab_ok 2 rfl ?_
      refine WG.y rfl rfl (by decide) (Yl.add rfl rfl rfl (fun _ => rfl) (by intro _; constructor <;> (try dsimp only) <;> omega)) ?_
      refine WG.y rfl rfl (by decide) (Yl.index tab_ok rfl rfl rfl rfl rfl rfl (fun _ => rfl) (by intro _; constructor <;> (try dsimp only) <;> omega) (by intro _; first | exact fun _ _ _ _ => rfl | exact RS.has (by assumption) | exact fun _ _ _ _ => (by assumption) | exact HasMem.ownD 0 rfl | exact HasMem.ownD 1 rfl | exact HasMem.ownD 2 rfl | exact HasMem.ownD 3 rfl)) ?_
      refine WL.efN rfl rfl (Ef.storeD (enc := encI) (xs := List.replicate (v + 2).toNat 0) 4611686018427387904 0 tab_ok rfl rfl rfl rfl rfl (by rw [List.length_replicate]; omega) rfl rfl rfl rfl ?_)
      refine WG.nil ?_
      refine WE.nxt ?_
      refine W.freeze (enc := encI) (xs := waitL v) 0 rfl ?_
      intro R1 hR1 hwz
      refine W.seq ?_
      refine W.region _ ?_
      refine WG.run tab_ok 1 rfl ?_
      -- build
      refine WG.y rfl rfl (by decide) (Yl.build (parts := [(0, .tmp 18), (1, .const (.int .i64 1))]) tab_ok rfl rfl rfl rfl (fun _ => rfl) rfl rfl) ?_
      refine WL.efN rfl rfl (Ef.store0 0 tab_ok rfl rfl rfl rfl rfl rfl rfl rfl ?_)
      refine WG.run tab_ok 1 rfl ?_
      refine WG.nil ?_
      refine WE.nxt ?_
      refine W.ret ?_
      refine WE.retF tab_ok [_, _] rfl ⟨⟨_, _, _, rfl, rfl, rfl, ((by first | exact Rd.blk 0 rfl | exact Rd.blk 1 rfl | exact Rd.blk 2 rfl | exact Rd.blk 3 rfl)), rfl⟩, rfl, trivial⟩ (by first | exact RLe.refl _ | exact hR1) ?_
      rw [e]
      refine ⟨some ⟨a13, 0, none⟩, (v + 2).toNat, ?_, hwz, qS⟩
      unfold cvV waitL
      dsimp only
      rw [List.length_set, List.length_replicate]
      rfl

theorem AllSrv_C {R : Ro} {aw at_ : Option Addr} {lw cw lt ct : Nat} {L : Ln} (hw : RS R 1 encI aw L.w) (hlw : L.w.length = lw) (ht : RS R 1 encI at_ L.tb) (hlt : L.tb.length = lt) {la : Option Addr} {lc ll : Nat} {ls : List CvS} (hla : RS R 3 encC la ls) (hll : ls.length = ll) (hls : ∀ x ∈ ls, RS R 1 encI x.a x.cv.vals ∧ validB x.cv = true) (hc : 1 ≤ L.cap ∧ L.cap ≤ 4000) (w0 : World) (E : List Ent) : K.Fn Tryz.prog 76 [.agg #[.int .i64 L.kind, .int .i64 L.cap, .int .i64 L.n, .slice aw lw cw, .slice at_ lt ct], .slice la ll lc] w0 R E (fun r R' E' => r = devV (allC L.cap (ls.map CvS.cv)) ∧ E.Sublist E') := by
  have hvt := total_valid (ls := ls.map CvS.cv) (fun c hc => by obtain ⟨x, hx, rfl⟩ := List.mem_map.1 hc; exact (hls x hx).2)
  have eA : allC L.cap (ls.map CvS.cv) = if (totalC (ls.map CvS.cv)).2 ≠ 0 then ((false, 0, 0), (totalC (ls.map CvS.cv)).2) else delayC (totalC (ls.map CvS.cv)).1 (lineC L.cap) := rfl
  refine Fn.enter (n := 33) Tryz.func76 rfl rfl (Nat.le_of_ble_eq_true rfl) rfl ?_
  refine W.seq ?_
  refine W.region _ ?_
  refine WL.ef rfl rfl (by decide) (Ef.box rfl rfl (fun b2 => ?_))
  refine WL.ef rfl rfl (by decide) (Ef.alloc tab_ok rfl rfl (fun b4 => ?_))
  refine WG.run tab_ok 1 rfl ?_
  refine WG.nil ?_
  refine WE.nxt ?_
  refine W.seq ?_
  refine W.region _ ?_
  refine WG.run tab_ok 1 rfl ?_
  refine WL.call en117 rfl rfl (by decide) (CallOp.mkT rfl rfl rfl rfl) (PTotal_len hll hla hls w0 _) ?_
  rintro _ R2 E2 hR2 ⟨f, fc, rfl, hf, hsub⟩
  refine WL.subE hsub ?_
  generalize hq : totalC (ls.map CvS.cv) = q at hf hvt eA ⊢
  unfold cvV
  refine WG.run tab_ok 3 rfl ?_
  refine WL.ef rfl rfl (by decide) (Ef.alloc tab_ok rfl rfl (fun b6 => ?_))
  refine WL.efN rfl rfl (Ef.store0 0 tab_ok rfl rfl rfl rfl rfl rfl rfl rfl ?_)
  refine WG.run tab_ok 1 rfl ?_
  refine WG.nil ?_
  refine WE.nxt ?_
  refine W.seq ?_
  refine W.seq ?_
  refine W.region _ ?_
  refine WG.run tab_ok 2 rfl ?_
  refine WG.nil ?_
  refine WE.nxt ?_
  refine W.condN rfl (fun hc0 => ?_) (fun hc0 => ?_)
  · try dsimp only at hc0
    rw [if_pos hc0] at eA
    refine W.seq ?_
    refine W.region _ ?_
    -- build
    refine WG.y rfl rfl (by decide) (Yl.build (parts := []) tab_ok rfl rfl rfl rfl (fun _ => rfl) rfl rfl) ?_
    refine WG.run tab_ok 1 rfl ?_
    refine WL.efN rfl rfl (Ef.store0 1 tab_ok rfl rfl rfl rfl rfl rfl rfl rfl ?_)
    refine WG.run tab_ok 1 rfl ?_
    refine WG.nil ?_
    refine WE.nxt ?_
    refine W.ret ?_
    refine WE.then_ret ?_
    refine WE.retF tab_ok [_, _] rfl ⟨⟨_, _, _, rfl, rfl, rfl, ((by first | exact Rd.blk 0 rfl | exact Rd.blk 1 rfl | exact Rd.blk 2 rfl | exact Rd.blk 3 rfl | exact Rd.blk 4 rfl | exact Rd.blk 5 rfl)), rfl⟩, rfl, trivial⟩ (by first | exact hR2 | exact hR2.trans (hR3.trans hR4)) ?_
    exact ⟨by rw [eA]; rfl, qS⟩
  · try dsimp only at hc0
    rw [if_neg (fun h => h hc0)] at eA
    refine W.skip ?_
    refine WE.nxt ?_
    refine W.seq ?_
    refine W.region _ ?_
    refine WG.run tab_ok 1 rfl ?_
    refine' WG.y rfl rfl (by decide) (Yl.load1 tab_ok rfl rfl rfl (fun _ => rfl) ?r1 rfl ?h1) ?_
    case r1 => apply Rd.add; (exact Rd.blk 2 rfl)
    case h1 => rfl
    refine WL.call en118 rfl rfl (by decide) (CallOp.mkT rfl rfl rfl rfl) (Serve_ok (cap := L.cap) w0 hc _) ?_
    rintro _ _ E3 - ⟨g, rfl, rfl, hsub3⟩
    refine WL.subE hsub3 ?_
    refine WL.freeze (enc := encI) (xs := [0]) 0 rfl ?_
    intro R3 hR3 hg0
    refine WG.run tab_ok 3 rfl ?_
    refine WL.ef rfl rfl (by decide) (Ef.alloc tab_ok rfl rfl (fun b8 => ?_))
    refine WL.efN rfl rfl (Ef.store0 0 tab_ok rfl rfl rfl rfl rfl rfl rfl rfl ?_)
    refine WG.run tab_ok 1 rfl ?_
    refine WG.nil ?_
    refine WE.nxt ?_
    refine W.seq ?_
    refine W.seq ?_
    refine W.region _ ?_
    refine WG.run tab_ok 2 rfl ?_
    refine WG.nil ?_
    refine WE.nxt ?_
    refine W.condN rfl (fun hc1 => ?_) (fun hc1 => ?_)
    · try dsimp only at hc1
      exact absurd rfl hc1
    · try dsimp only at hc1
      refine W.skip ?_
      refine WE.nxt ?_
      refine W.seq ?_
      refine W.region _ ?_
      refine' WG.y rfl rfl (by decide) (Yl.load1 tab_ok rfl rfl rfl (fun _ => rfl) ?r2 rfl ?h2) ?_
      case r2 => (exact Rd.blk 1 rfl)
      case h2 => rfl
      refine' WG.y rfl rfl (by decide) (Yl.load1 tab_ok rfl rfl rfl (fun _ => rfl) ?r3 rfl ?h3) ?_
      case r3 => (exact Rd.blk 0 rfl)
      case h3 => rfl
      refine WL.call en75 rfl rfl (by decide) (CallOp.mkT rfl rfl rfl rfl) (DelayG_C (cf := q.1) (cg := lineC L.cap) (hvt hc0) (hf.mono hR3) (line_facts (cap := L.cap) ⟨by omega, by omega⟩).1.valid hg0 w0 _) ?_
      rintro _ R4 E4 hR4 ⟨rfl, hsub4⟩
      refine WL.subE hsub4 ?_
      refine WG.run tab_ok 2 rfl ?_
      refine WL.efN rfl rfl (Ef.store0 2 tab_ok rfl rfl rfl rfl rfl rfl rfl rfl ?_)
      refine WG.run tab_ok 1 rfl ?_
      refine WG.nil ?_
      refine WE.nxt ?_
      refine W.ret ?_
      refine WE.retF tab_ok [_, _] rfl ⟨⟨_, _, _, rfl, rfl, rfl, ((by first | exact Rd.blk 0 rfl | exact Rd.blk 1 rfl | exact Rd.blk 2 rfl | exact Rd.blk 3 rfl | exact Rd.blk 4 rfl | exact Rd.blk 5 rfl)), rfl⟩, rfl, trivial⟩ (by first | exact hR2 | exact hR2.trans (hR3.trans hR4)) ?_
      exact ⟨by rw [eA]; rfl, qS⟩

end Go.Proofs.YtlgjkmebpnnphaaGreat

/- Chapter 19: the curve. No condition. -/
set_option maxRecDepth 4000
set_option linter.unusedSimpArgs false
set_option linter.unusedVariables false
namespace Go.Proofs.YtlgjkmebpnnphaaGreat
open Go Go.RowKit Go.Proofs.YtlgjkmebpnnphaaGreat.K Go.Proofs.YtlgjkmebpnnphaaGreat.M

end Go.Proofs.YtlgjkmebpnnphaaGreat

/- Chapter 20: checks, what others send, the curve. No condition. -/
set_option maxRecDepth 4000
set_option linter.unusedSimpArgs false
set_option linter.unusedVariables false
namespace Go.Proofs.YtlgjkmebpnnphaaGreat
open Go Go.RowKit Go.Proofs.YtlgjkmebpnnphaaGreat.K Go.Proofs.YtlgjkmebpnnphaaGreat.M

end Go.Proofs.YtlgjkmebpnnphaaGreat

/- Chapter 20: the curve. No condition. -/
set_option maxRecDepth 4000
set_option linter.unusedSimpArgs false
set_option linter.unusedVariables false
namespace Go.Proofs.YtlgjkmebpnnphaaGreat
open Go Go.RowKit Go.Proofs.YtlgjkmebpnnphaaGreat.K Go.Proofs.YtlgjkmebpnnphaaGreat.M

end Go.Proofs.YtlgjkmebpnnphaaGreat

/- Time slots: the table of the least counts, as the walk of the curve fills it. No condition. -/
namespace Go.Proofs.YtlgjkmebpnnphaaGreat.M
open Go Go.Proofs.YtlgjkmebpnnphaaGreat.K

def someN (tb : List Int) (cls : Int) : Nat → Bool
  | 0 => false
  | k + 1 => someN tb cls k || mineT tb cls k
def fillL (m k : Nat) : List Int := (List.range m).map fun j => if j < k then INF else 0
def tickL (C : Nat → Nat → Int) (m f k : Nat) : List Int := (List.range m).map fun j => if j < k then minTo (fun a => C a j) (f + 1) else minTo (fun a => C a j) f
/-- four copies of a table -/
def longT (tb : List Int) : List Int := ((tb ++ tb) ++ tb) ++ tb
end Go.Proofs.YtlgjkmebpnnphaaGreat.M

/- append to a slice that is read only and full, and s[:n:n]. No condition. -/
namespace Go.Proofs.YtlgjkmebpnnphaaGreat.K
open Go Go.RowKit

section
variable {P : Program} {T : Tab} {n : Nat} {env : Env} {w0 : World} {R : Ro} {E : List Ent} {o : Oper} {K : Value → Ro → List Ent → Prop} {p q pc : Bool}
end
end Go.Proofs.YtlgjkmebpnnphaaGreat.K

/- Chapter 21: the curve, its parts. No condition. -/
set_option maxRecDepth 4000
set_option linter.unusedSimpArgs false
set_option linter.unusedVariables false
namespace Go.Proofs.YtlgjkmebpnnphaaGreat
open Go Go.RowKit Go.Proofs.YtlgjkmebpnnphaaGreat.K Go.Proofs.YtlgjkmebpnnphaaGreat.M

end Go.Proofs.YtlgjkmebpnnphaaGreat

/- Chapter 21: the curve. No condition. -/
set_option maxRecDepth 4000
set_option linter.unusedSimpArgs false
set_option linter.unusedVariables false
namespace Go.Proofs.YtlgjkmebpnnphaaGreat
open Go Go.RowKit Go.Proofs.YtlgjkmebpnnphaaGreat.K Go.Proofs.YtlgjkmebpnnphaaGreat.M

end Go.Proofs.YtlgjkmebpnnphaaGreat

/- Chapter 22: the curves of each kind, the arguments. No condition. -/
set_option maxRecDepth 4000
set_option linter.unusedSimpArgs false
set_option linter.unusedVariables false
namespace Go.Proofs.YtlgjkmebpnnphaaGreat
open Go Go.RowKit Go.Proofs.YtlgjkmebpnnphaaGreat.K Go.Proofs.YtlgjkmebpnnphaaGreat.M

theorem CurFifo_C {R : Ro} {aw at_ : Option Addr} {lw cw lt ct : Nat} {L : Ln} (hw : RS R 1 encI aw L.w) (hlw : L.w.length = lw) (ht : RS R 1 encI at_ L.tb) (hlt : L.tb.length = lt) {la : Option Addr} {lc ll : Nat} {ls : List CvS} (hla : RS R 3 encC la ls) (hll : ls.length = ll) (hlc : ll ≤ lc) (hls : ∀ x ∈ ls, RS R 1 encI x.a x.cv.vals ∧ x.cv.vals.length ≤ 100000) {za : Option Addr} {zc lz : Nat} {z : List Sz} (hzr : RS R 2 encZ za z) (hlz : z.length = lz) (hzc : lz ≤ zc) {cls : Int} (hc : 1 ≤ L.cap ∧ L.cap ≤ 4000) (hvl : ∀ x ∈ ls, validB x.cv = true) (w0 : World) (E : List Ent) : K.Fn Tryz.prog 192 [.agg #[], .agg #[.int .i64 L.kind, .int .i64 L.cap, .int .i64 L.n, .slice aw lw cw, .slice at_ lt ct], .int .i64 cls, .slice la ll lc, .slice za lz zc] w0 R E (fun r R' E' => ∃ (f : Option Addr) (fc : Nat), r = cvV f fc (fifoC L.cap (ls.map CvS.cv)) ∧ RS R' 1 encI f (fifoC L.cap (ls.map CvS.cv)).1.vals ∧ E.Sublist E') := by
  have eF : fifoC L.cap (ls.map CvS.cv) = if (allC L.cap (ls.map CvS.cv)).2 ≠ 0 then (zcv, (allC L.cap (ls.map CvS.cv)).2) else if (allC L.cap (ls.map CvS.cv)).1.1 = true then (zcv, 5) else waitC (allC L.cap (ls.map CvS.cv)).1.2.1 := rfl
  refine Fn.enter (n := 32) Tryz.func192 rfl rfl (Nat.le_of_ble_eq_true rfl) rfl ?_
  refine W.seq ?_
  refine W.region _ ?_
  refine WL.ef rfl rfl (by decide) (Ef.box rfl rfl (fun b5 => ?_))
  refine WL.ef rfl rfl (by decide) (Ef.box rfl rfl (fun b6 => ?_))
  refine WL.ef rfl rfl (by decide) (Ef.alloc tab_ok rfl rfl (fun b10 => ?_))
  refine WG.run tab_ok 1 rfl ?_
  refine WG.nil ?_
  refine WE.nxt ?_
  refine W.seq ?_
  refine W.region _ ?_
  refine' WG.y rfl rfl (by decide) (Yl.load1 tab_ok rfl rfl rfl (fun _ => rfl) ?r1 rfl ?h1) ?_
  case r1 => (exact Rd.blk 1 rfl)
  case h1 => rfl
  refine WG.run tab_ok 1 rfl ?_
  refine WL.call en76 rfl rfl (by decide) (CallOp.mkT rfl rfl rfl rfl) (AllSrv_C hw hlw ht hlt hla hll (fun x hx => ⟨(hls x hx).1, hvl x hx⟩) hc w0 _) ?_
  rintro _ R2 E2 hR2 ⟨rfl, hsub⟩
  refine WL.subE hsub ?_
  generalize allC L.cap (ls.map CvS.cv) = q at eF ⊢
  unfold devV
  refine WG.run tab_ok 3 rfl ?_
  refine WL.ef rfl rfl (by decide) (Ef.alloc tab_ok rfl rfl (fun b12 => ?_))
  refine WL.efN rfl rfl (Ef.store0 0 tab_ok rfl rfl rfl rfl rfl rfl rfl rfl ?_)
  refine WG.run tab_ok 1 rfl ?_
  refine WG.nil ?_
  refine WE.nxt ?_
  refine W.seq ?_
  refine W.seq ?_
  refine W.region _ ?_
  refine WG.run tab_ok 2 rfl ?_
  refine WG.nil ?_
  refine WE.nxt ?_
  refine W.condN rfl (fun hc0 => ?_) (fun hc0 => ?_)
  · try dsimp only at hc0
    rw [if_pos hc0] at eF
    refine W.seq ?_
    refine W.region _ ?_
    -- build
    refine WG.y rfl rfl (by decide) (Yl.build (parts := []) tab_ok rfl rfl rfl rfl (fun _ => rfl) rfl rfl) ?_
    refine WG.run tab_ok 1 rfl ?_
    refine WL.efN rfl rfl (Ef.store0 1 tab_ok rfl rfl rfl rfl rfl rfl rfl rfl ?_)
    refine WG.run tab_ok 1 rfl ?_
    refine WG.nil ?_
    refine WE.nxt ?_
    refine W.ret ?_
    refine WE.then_ret ?_
    refine WE.retF tab_ok [_, _] rfl ⟨⟨_, _, _, rfl, rfl, rfl, ((by first | exact Rd.blk 0 rfl | exact Rd.blk 1 rfl | exact Rd.blk 2 rfl | exact Rd.blk 3 rfl | exact Rd.blk 4 rfl | exact Rd.blk 5 rfl)), rfl⟩, rfl, trivial⟩ (by first | exact hR2 | exact hR2.trans hR3) ?_
    rw [eF]
    exact ⟨none, 0, rfl, rs_nil, qS⟩
  · try dsimp only at hc0
    rw [if_neg (fun h => h hc0)] at eF
    refine W.skip ?_
    refine WE.nxt ?_
    refine W.seq ?_
    refine W.seq ?_
    refine W.region _ ?_
    refine WG.run tab_ok 1 rfl ?_
    refine' WG.y rfl rfl (by decide) (Yl.load1 tab_ok rfl rfl rfl (fun _ => rfl) ?r2 rfl ?h2) ?_
    case r2 => apply Rd.add; (exact Rd.blk 0 rfl)
    case h2 => rfl
    refine WG.nil ?_
    refine WE.nxt ?_
    refine W.cond rfl (fun hc1 => ?_) (fun hc1 => ?_)
    · try simp only [decide_eq_true_eq, decide_eq_false_iff_not, beq_iff_eq, bne_iff_ne, beq_eq_false_iff_ne, bne_eq_false_iff_eq, ne_eq, Bool.or_eq_true, Bool.or_eq_false_iff, Bool.and_eq_true, Bool.and_eq_false_imp, Bool.not_eq_true, Bool.not_eq_true', Bool.not_eq_false', Classical.not_not, Int.not_lt, Int.not_le, gt_iff_lt, ge_iff_le] at hc1
      rw [if_pos hc1] at eF
      refine W.seq ?_
      refine W.region _ ?_
      -- build
      refine WG.y rfl rfl (by decide) (Yl.build (parts := []) tab_ok rfl rfl rfl rfl (fun _ => rfl) rfl rfl) ?_
      refine WL.efN rfl rfl (Ef.store0 1 tab_ok rfl rfl rfl rfl rfl rfl rfl rfl ?_)
      refine WG.run tab_ok 1 rfl ?_
      refine WG.nil ?_
      refine WE.nxt ?_
      refine W.ret ?_
      refine WE.then_ret ?_
      refine WE.retF tab_ok [_, _] rfl ⟨⟨_, _, _, rfl, rfl, rfl, ((by first | exact Rd.blk 0 rfl | exact Rd.blk 1 rfl | exact Rd.blk 2 rfl | exact Rd.blk 3 rfl | exact Rd.blk 4 rfl | exact Rd.blk 5 rfl)), rfl⟩, rfl, trivial⟩ (by first | exact hR2 | exact hR2.trans hR3) ?_
      rw [eF]
      exact ⟨none, 0, rfl, rs_nil, qS⟩
    · try simp only [decide_eq_true_eq, decide_eq_false_iff_not, beq_iff_eq, bne_iff_ne, beq_eq_false_iff_ne, bne_eq_false_iff_eq, ne_eq, Bool.or_eq_true, Bool.or_eq_false_iff, Bool.and_eq_true, Bool.and_eq_false_imp, Bool.not_eq_true, Bool.not_eq_true', Bool.not_eq_false', Classical.not_not, Int.not_lt, Int.not_le, gt_iff_lt, ge_iff_le] at hc1
      rw [if_neg (by simp [hc1])] at eF
      refine W.skip ?_
      refine WE.nxt ?_
      refine W.seq ?_
      refine W.region _ ?_
      refine WG.run tab_ok 1 rfl ?_
      refine' WG.y rfl rfl (by decide) (Yl.load1 tab_ok rfl rfl rfl (fun _ => rfl) ?r3 rfl ?h3) ?_
      case r3 => apply Rd.add; (exact Rd.blk 0 rfl)
      case h3 => rfl
      refine WL.call en195 rfl rfl (by decide) (CallOp.mkT rfl rfl rfl rfl) (Wait_C (v := q.1.2.1) w0 _) ?_
      rintro _ R3 E3 hR3 ⟨f, fc, rfl, hf, hsub3⟩
      refine WL.subE hsub3 ?_
      rw [← eF] at hf ⊢
      unfold cvV
      refine WG.run tab_ok 2 rfl ?_
      refine WL.efN rfl rfl (Ef.store0 1 tab_ok rfl rfl rfl rfl rfl rfl rfl rfl ?_)
      refine WG.run tab_ok 1 rfl ?_
      refine WG.nil ?_
      refine WE.nxt ?_
      refine W.ret ?_
      refine WE.retF tab_ok [_, _] rfl ⟨⟨_, _, _, rfl, rfl, rfl, ((by first | exact Rd.blk 0 rfl | exact Rd.blk 1 rfl | exact Rd.blk 2 rfl | exact Rd.blk 3 rfl | exact Rd.blk 4 rfl | exact Rd.blk 5 rfl)), rfl⟩, rfl, trivial⟩ (by first | exact hR2 | exact hR2.trans hR3) ?_
      exact ⟨f, fc, rfl, hf, qS⟩

theorem ArgSrv_V {R : Ro} {aw at_ : Option Addr} {lw cw lt ct : Nat} {L : Ln} (hw : RS R 1 encI aw L.w) (hlw : L.w.length = lw) (ht : RS R 1 encI at_ L.tb) (hlt : L.tb.length = lt) {la : Option Addr} {lc ll : Nat} {ls : List CvS} (hla : RS R 3 encC la ls) (hll : ls.length = ll) (hlc : ll ≤ lc) (hls : ∀ x ∈ ls, RS R 1 encI x.a x.cv.vals ∧ x.cv.vals.length ≤ 100000) {za : Option Addr} {zc lz : Nat} {z : List Sz} (hzr : RS R 2 encZ za z) (hlz : z.length = lz) (hzc : lz ≤ zc) {cls : Int} : FnV Tryz.prog 73 [.agg #[.int .i64 L.kind, .int .i64 L.cap, .int .i64 L.n, .slice aw lw cw, .slice at_ lt ct], .int .i64 cls, .slice la ll lc, .slice za lz zc] R (.int .i64 (argE L cls (ls.map CvS.cv) z)) := by
  subst hll
  subst hlz
  have hl1 := hla.len
  have hl2 := hzr.len
  refine Fn.toV (fun w0 E => ?_)
  refine Fn.enter (n := 58) Tryz.func73 rfl rfl (Nat.le_of_ble_eq_true rfl) rfl ?_
  refine W.seq ?_
  refine W.region _ ?_
  refine WL.ef rfl rfl (by decide) (Ef.box rfl rfl (fun b4 => ?_))
  refine WG.run tab_ok 1 rfl ?_
  refine WG.nil ?_
  refine WE.nxt ?_
  refine W.seq ?_
  refine W.seq ?_
  refine W.region _ ?_
  refine' WG.y rfl rfl (by decide) (Yl.load1 tab_ok rfl rfl rfl (fun _ => rfl) ?r1 rfl ?h1) ?_
  case r1 => (exact Rd.blk 0 rfl)
  case h1 => rfl
  refine WG.callV en26 rfl rfl (by decide) (CallOp.mk' rfl rfl rfl rfl) (fun _ => rfl) (fun hg => ChkSrv_V hw hlw ht hlt) ?_
  refine WG.run tab_ok 1 rfl ?_
  refine WG.nil ?_
  refine WE.nxt ?_
  refine W.seq ?_
  refine W.region _ ?_
  refine WG.run tab_ok 2 rfl ?_
  refine WG.nil ?_
  refine WE.nxt ?_
  refine W.condN rfl (fun hc0 => ?_) (fun hc0 => ?_)
  · try dsimp only at hc0
    have e : argE L cls (ls.map CvS.cv) z = chkL L := if_pos hc0
    refine W.seq ?_
    refine W.region _ ?_
    refine WG.run tab_ok 2 rfl ?_
    refine WG.nil ?_
    refine WE.nxt ?_
    refine W.ret ?_
    refine WE.then_ret ?_
    refine WE.subE (E' := E) qS ?_
    refine WE.retF tab_ok [_] rfl ⟨rfl, trivial⟩ (RLe.refl _) ?_
    exact ⟨by rw [e]; rfl, rfl⟩
  · try dsimp only at hc0
    have hn := (chk_facts hc0).2.2.2
    refine W.skip ?_
    refine WE.nxt ?_
    refine W.seq ?_
    refine W.seq ?_
    refine W.region _ ?_
    refine WG.run tab_ok 3 rfl ?_
    refine WG.y rfl rfl (by decide) (pureV_ok tab_ok rfl qE) ?_
    refine WG.y rfl rfl (by decide) (pureV_ok tab_ok rfl qE) ?_
    refine' WG.y rfl rfl (by decide) (Yl.loadG tab_ok rfl rfl rfl qE ?r2 rfl ?h2 ?g2) ?_
    case r2 => apply Rd.addC; (exact Rd.blkC 0 rfl)
    case h2 => rfl
    case g2 => exact fun _ => trivial
    refine WG.y rfl rfl (by decide) (pureV_ok tab_ok rfl qE) ?_
    refine WG.y rfl rfl (by decide) (Yl.por rfl rfl rfl (fun _ => rfl) (by intro h1 h2; simp_all <;> omega)) ?_
    refine WG.run tab_ok 1 rfl ?_
    refine WG.y rfl rfl (by decide) (pureV_ok tab_ok rfl qE) ?_
    refine WG.y rfl rfl (by decide) (pureV_ok tab_ok rfl qE) ?_
    refine WG.y rfl rfl (by decide) (pureV_ok tab_ok rfl qE) ?_
    refine' WG.y rfl rfl (by decide) (Yl.loadG tab_ok rfl rfl rfl qE ?r3 rfl ?h3 ?g3) ?_
    case r3 => apply Rd.addC; (exact Rd.blkC 0 rfl)
    case h3 => rfl
    case g3 => exact fun _ => trivial
    refine WG.y rfl rfl (by decide) (pureV_ok tab_ok rfl qE) ?_
    refine WG.y rfl rfl (by decide) (Yl.por rfl rfl rfl (fun _ => rfl) (by intro h1 h2; simp_all <;> omega)) ?_
    refine WG.run tab_ok 1 rfl ?_
    refine WG.y rfl rfl (by decide) (pureV_ok tab_ok rfl qE) ?_
    refine WG.y rfl rfl (by decide) (pureV_ok tab_ok rfl qE) ?_
    refine WG.y rfl rfl (by decide) (pureV_ok tab_ok rfl qE) ?_
    refine' WG.y rfl rfl (by decide) (Yl.loadG tab_ok rfl rfl rfl qE ?r4 rfl ?h4 ?g4) ?_
    case r4 => apply Rd.addC; (exact Rd.blkC 0 rfl)
    case h4 => rfl
    case g4 => exact fun _ => trivial
    refine WG.y rfl rfl (by decide) (pureV_ok tab_ok rfl qE) ?_
    refine WG.y rfl rfl (by decide) (Yl.por rfl rfl rfl (fun _ => rfl) (by intro h1 h2; simp_all <;> omega)) ?_
    refine WG.nil ?_
    refine WE.nxt ?_
    refine W.cond rfl (fun hc1 => ?_) (fun hc1 => ?_)
    · try simp only [decide_eq_true_eq, decide_eq_false_iff_not, beq_iff_eq, bne_iff_ne, beq_eq_false_iff_ne, bne_eq_false_iff_eq, ne_eq, Bool.or_eq_true, Bool.or_eq_false_iff, Bool.and_eq_true, Bool.and_eq_false_imp, Bool.not_eq_true, Bool.not_eq_true', Bool.not_eq_false', Classical.not_not, Int.not_lt, Int.not_le, gt_iff_lt, ge_iff_le] at hc1
      have e : argE L cls (ls.map CvS.cv) z = 2 := by unfold argE; rw [if_neg (fun h => h hc0), if_pos (by rw [List.length_map]; omega)]
      refine W.seq ?_
      refine W.region _ ?_
      refine WG.run tab_ok 1 rfl ?_
      refine WG.nil ?_
      refine WE.nxt ?_
      refine W.ret ?_
      refine WE.then_ret ?_
      refine WE.subE (E' := E) qS ?_
      refine WE.retF tab_ok [_] rfl ⟨rfl, trivial⟩ (RLe.refl _) ?_
      exact ⟨by rw [e]; rfl, rfl⟩
    · try simp only [decide_eq_true_eq, decide_eq_false_iff_not, beq_iff_eq, bne_iff_ne, beq_eq_false_iff_ne, bne_eq_false_iff_eq, ne_eq, Bool.or_eq_true, Bool.or_eq_false_iff, Bool.and_eq_true, Bool.and_eq_false_imp, Bool.not_eq_true, Bool.not_eq_true', Bool.not_eq_false', Classical.not_not, Int.not_lt, Int.not_le, gt_iff_lt, ge_iff_le] at hc1
      refine W.skip ?_
      refine WE.nxt ?_
      refine W.seq ?_
      refine W.seq ?_
      refine W.region _ ?_
      refine WG.run tab_ok 1 rfl ?_
      refine' WG.y rfl rfl (by decide) (Yl.load1 tab_ok rfl rfl rfl (fun _ => rfl) ?r5 rfl ?h5) ?_
      case r5 => apply Rd.add; (exact Rd.blk 0 rfl)
      case h5 => rfl
      refine WG.run tab_ok 2 rfl ?_
      refine WG.callV en109 rfl rfl (by decide) (CallOp.mk' rfl rfl rfl rfl) (fun _ => rfl) (fun hg => CheckP_V hzr) ?_
      refine WG.run tab_ok 1 rfl ?_
      refine WG.nil ?_
      refine WE.nxt ?_
      refine W.seq ?_
      refine W.region _ ?_
      refine WG.run tab_ok 2 rfl ?_
      refine WG.nil ?_
      refine WE.nxt ?_
      refine W.condN rfl (fun hc2 => ?_) (fun hc2 => ?_)
      · try dsimp only at hc2
        have e : argE L cls (ls.map CvS.cv) z = chk18 L.cap cls z := by unfold argE; rw [if_neg (fun h => h hc0), if_neg (by rw [List.length_map]; omega), if_pos hc2]
        refine W.seq ?_
        refine W.region _ ?_
        refine WG.run tab_ok 2 rfl ?_
        refine WG.nil ?_
        refine WE.nxt ?_
        refine W.ret ?_
        refine WE.then_ret ?_
        refine WE.subE (E' := E) qS ?_
        refine WE.retF tab_ok [_] rfl ⟨rfl, trivial⟩ (RLe.refl _) ?_
        exact ⟨by rw [e]; rfl, rfl⟩
      · try dsimp only at hc2
        refine W.skip ?_
        refine WE.nxt ?_
        refine W.seq ?_
        refine W.seq ?_
        refine W.region _ ?_
        refine WG.run tab_ok 3 rfl ?_
        refine WG.nil ?_
        refine WE.nxt ?_
        refine W.block ?_
        refine W.loopK (β := Nat) (fun k => k ≤ ls.length ∧ ∀ i, i < k → validB (nth ls i).cv = true) (fun k => [(50, true, .int .i64 (k : Int))]) [48, 49] [_, _] [] _ rfl (fun k => []) (fun k => ls.length - k) (0) (⟨Nat.zero_le _, fun i hi => absurd hi (Nat.not_lt_zero i)⟩) ⟨rfl, rfl, rfl, rfl⟩ qS ?_
        intro k hst
        dsimp only [zipE, setAll, List.cons_append, List.nil_append, List.set_cons_zero, List.set_cons_succ] at hst ⊢
        obtain ⟨hk, hpre⟩ := hst
        refine W.seq ?_
        refine W.region _ ?_
        refine WG.run tab_ok 1 rfl ?_
        refine WG.nil ?_
        refine WE.nxt ?_
        refine W.seq ?_
        refine W.condD rfl (fun hc3 => ?_) (fun hc3 => ?_)
        · try dsimp only at hc3
          refine W.skip ?_
          refine WE.nxt ?_
          refine W.seq ?_
          refine W.block ?_
          refine W.seq ?_
          refine W.region _ ?_
          refine WG.y rfl rfl (by decide) (Yl.indexN tab_ok rfl rfl rfl rfl rfl rfl (fun _ => rfl) (by intro _; (try dsimp only) <;> omega) (by intro _; first | exact fun _ _ _ _ => rfl | exact RS.has (by assumption) | exact fun _ _ _ _ => (by assumption) | exact HasMem.ownD 0 rfl | exact HasMem.ownD 1 rfl | exact HasMem.ownD 2 rfl | exact HasMem.ownD 3 rfl)) ?_
          refine' WG.y rfl rfl (by decide) (Yl.load1 tab_ok rfl rfl rfl (fun _ => rfl) ?r6 rfl ?h6) ?_
          case r6 => ((apply RS.rdD; assumption; ((try dsimp only) <;> omega)))
          case h6 => rfl
          refine WL.ef rfl rfl (by decide) (Ef.alloc tab_ok rfl rfl (fun b12 => ?_))
          refine WL.efN rfl rfl (Ef.store0 0 tab_ok rfl rfl rfl rfl rfl rfl rfl rfl ?_)
          refine WG.nil ?_
          refine WE.nxt ?_
          refine W.seq ?_
          refine W.region _ ?_
          refine' WG.y rfl rfl (by decide) (Yl.load1 tab_ok rfl rfl rfl (fun _ => rfl) ?r7 rfl ?h7) ?_
          case r7 => (exact Rd.blk 0 rfl)
          case h7 => rfl
          refine WG.callV en110 rfl rfl (by decide) (CallOp.mk' rfl rfl rfl rfl) (fun _ => rfl) (fun hg => CValidG_V (hls _ (nth_mem (xs := ls) (k := k) (by omega))).1 (hls _ (nth_mem (xs := ls) (k := k) (by omega))).2) ?_
          refine WG.run tab_ok 1 rfl ?_
          refine WG.nil ?_
          refine WE.nxt ?_
          refine W.cond rfl (fun hc4 => ?_) (fun hc4 => ?_)
          · try simp only [decide_eq_true_eq, decide_eq_false_iff_not, beq_iff_eq, bne_iff_ne, beq_eq_false_iff_ne, bne_eq_false_iff_eq, ne_eq, Bool.or_eq_true, Bool.or_eq_false_iff, Bool.and_eq_true, Bool.and_eq_false_imp, Bool.not_eq_true, Bool.not_eq_true', Bool.not_eq_false', Classical.not_not, Int.not_lt, Int.not_le, gt_iff_lt, ge_iff_le] at hc4
            have e : argE L cls (ls.map CvS.cv) z = 1 := by
              unfold argE
              rw [if_neg (fun h => h hc0), if_neg (by rw [List.length_map]; omega), if_neg (fun h => h hc2), if_neg]
              intro hh
              have := List.all_eq_true.1 hh _ (List.mem_map.2 ⟨_, nth_mem (xs := ls) (k := k) (by omega), rfl⟩)
              rw [this] at hc4; cases hc4
            refine W.seq ?_
            refine W.region _ ?_
            refine WG.run tab_ok 1 rfl ?_
            refine WG.nil ?_
            refine WE.nxt ?_
            refine W.ret ?_
            refine WE.blk_ret ?_
            refine WE.then_ret ?_
            refine WE.then_ret ?_
            refine WE.blk_ret ?_
            refine WE.then_ret ?_
            refine WE.subE (E' := E) qS ?_
            refine WE.retF tab_ok [_] rfl ⟨rfl, trivial⟩ (RLe.refl _) ?_
            exact ⟨by rw [e]; rfl, rfl⟩
          · try simp only [decide_eq_true_eq, decide_eq_false_iff_not, beq_iff_eq, bne_iff_ne, beq_eq_false_iff_ne, bne_eq_false_iff_eq, ne_eq, Bool.or_eq_true, Bool.or_eq_false_iff, Bool.and_eq_true, Bool.and_eq_false_imp, Bool.not_eq_true, Bool.not_eq_true', Bool.not_eq_false', Classical.not_not, Int.not_lt, Int.not_le, gt_iff_lt, ge_iff_le] at hc4
            refine W.skip ?_
            refine WE.blk _ ?_
            refine WE.nxt ?_
            refine W.region _ ?_
            refine WG.y rfl rfl (by decide) (Yl.add rfl rfl rfl (fun _ => rfl) (by intro _; constructor <;> (try dsimp only) <;> omega)) ?_
            refine WG.run tab_ok 1 rfl ?_
            refine WG.nil ?_
            refine WE.again (k + 1) (⟨by omega, fun i hi => by rcases Nat.lt_or_ge i k with h | h; exact hpre i h; rw [show i = k by omega]; exact hc4⟩) (by (try dsimp only); omega) ⟨rfl, rfl, rfl, rfl⟩ (RLe.refl _) qS
        · try dsimp only at hc3
          refine W.exit ?_
          refine WE.then_exit ?_
          refine WE.then_exit ?_
          refine WE.blk_exit ?_
          refine WE.nxt ?_
          refine W.seq ?_
          refine W.region _ ?_
          refine WG.run tab_ok 1 rfl ?_
          refine WG.nil ?_
          refine WE.nxt ?_
          refine W.ret ?_
          refine WE.subE (E' := E) qS ?_
          refine WE.retF tab_ok [_] rfl ⟨rfl, trivial⟩ (RLe.refl _) ?_
          have e : argE L cls (ls.map CvS.cv) z = 0 := by
            unfold argE
            rw [if_neg (fun h => h hc0), if_neg (by rw [List.length_map]; omega), if_neg (fun h => h hc2), if_pos]
            rw [List.all_eq_true]
            intro x hx
            obtain ⟨y, hy, rfl⟩ := List.mem_map.1 hx
            obtain ⟨i, hi, rfl⟩ := List.getElem_of_mem hy
            have := hpre i (by omega)
            rw [show nth ls i = ls[i] by unfold nth List.getD; rw [List.getElem?_eq_getElem hi]; rfl] at this
            exact this
          exact ⟨by rw [e]; rfl, rfl⟩

end Go.Proofs.YtlgjkmebpnnphaaGreat

/- Chapter 22: server.Curve of any line. No condition. -/
set_option maxRecDepth 4000
set_option linter.unusedSimpArgs false
set_option linter.unusedVariables false
namespace Go.Proofs.YtlgjkmebpnnphaaGreat
open Go Go.RowKit Go.Proofs.YtlgjkmebpnnphaaGreat.K Go.Proofs.YtlgjkmebpnnphaaGreat.M

theorem meth_curve1 (x y z u : Value) : Meth Tryz.prog 121 (.agg #[]) "netcalculus/server.curve" 192 [x, y, z, u] := fun w => by kernel_rfl
theorem arg_facts {L : Ln} {cls : Int} {l : List Cv} {z : List Sz} (h : argE L cls l z = 0) : chkL L = 0 ∧ (0 ≤ cls ∧ cls < L.n ∧ (l.length : Int) = L.n ∧ (z.length : Int) = L.n) ∧ chk18 L.cap cls z = 0 ∧ ∀ c ∈ l, validB c = true := by
  unfold argE at h
  split at h
  · rename_i h1; exact absurd h h1
  · rename_i h1
    split at h
    · omega
    · split at h
      · rename_i h2; exact absurd h h2
      · rename_i h2
        split at h
        · rename_i h3
          exact ⟨by omega, by omega, by omega, fun c hc => List.all_eq_true.1 h3 c hc⟩
        · omega

theorem CurveSrv1_C {R : Ro} {aw at_ : Option Addr} {lw cw lt ct : Nat} {L : Ln} (hw : RS R 1 encI aw L.w) (hlw : L.w.length = lw) (ht : RS R 1 encI at_ L.tb) (hlt : L.tb.length = lt) {la : Option Addr} {lc ll : Nat} {ls : List CvS} (hla : RS R 3 encC la ls) (hll : ls.length = ll) (hlc : ll ≤ lc) (hls : ∀ x ∈ ls, RS R 1 encI x.a x.cv.vals ∧ x.cv.vals.length ≤ 100000) {za : Option Addr} {zc lz : Nat} {z : List Sz} (hzr : RS R 2 encZ za z) (hlz : z.length = lz) (hzc : lz ≤ zc) {cls : Int} (hk1 : L.kind = 1) (w0 : World) (E : List Ent) : K.Fn Tryz.prog 36 [.agg #[.int .i64 L.kind, .int .i64 L.cap, .int .i64 L.n, .slice aw lw cw, .slice at_ lt ct], .int .i64 cls, .slice la ll lc, .slice za lz zc] w0 R E (fun r R' E' => ∃ (f : Option Addr) (fc : Nat), r = cvV f fc (curveL L cls (ls.map CvS.cv) z) ∧ RS R' 1 encI f (curveL L cls (ls.map CvS.cv) z).1.vals ∧ E.Sublist E') := by
  refine Fn.enter (n := 36) Tryz.func36 rfl rfl (Nat.le_of_ble_eq_true rfl) rfl ?_
  refine W.seq ?_
  refine W.region _ ?_
  refine WL.ef rfl rfl (by decide) (Ef.box rfl rfl (fun b4 => ?_))
  refine WL.ef rfl rfl (by decide) (Ef.alloc tab_ok rfl rfl (fun b8 => ?_))
  refine WG.run tab_ok 1 rfl ?_
  refine WG.nil ?_
  refine WE.nxt ?_
  refine W.seq ?_
  refine W.seq ?_
  refine W.region _ ?_
  refine' WG.y rfl rfl (by decide) (Yl.load1 tab_ok rfl rfl rfl (fun _ => rfl) ?r1 rfl ?h1) ?_
  case r1 => (exact Rd.blk 1 rfl)
  case h1 => rfl
  refine WG.run tab_ok 3 rfl ?_
  refine WG.callV en73 rfl rfl (by decide) (CallOp.mk' rfl rfl rfl rfl) (fun _ => rfl) (fun hg => ArgSrv_V hw hlw ht hlt hla hll hlc hls hzr hlz hzc) ?_
  refine WG.run tab_ok 1 rfl ?_
  refine WG.nil ?_
  refine WE.nxt ?_
  refine W.seq ?_
  refine W.region _ ?_
  refine WG.run tab_ok 2 rfl ?_
  refine WG.nil ?_
  refine WE.nxt ?_
  refine W.condN rfl (fun hc0 => ?_) (fun hc0 => ?_)
  · try dsimp only at hc0
    have e : curveL L cls (ls.map CvS.cv) z = (zcv, argE L cls (ls.map CvS.cv) z) := if_pos hc0
    refine W.seq ?_
    refine W.region _ ?_
    -- build
    refine WG.y rfl rfl (by decide) (Yl.build (parts := []) tab_ok rfl rfl rfl rfl (fun _ => rfl) rfl rfl) ?_
    refine WG.run tab_ok 1 rfl ?_
    refine WL.efN rfl rfl (Ef.store0 0 tab_ok rfl rfl rfl rfl rfl rfl rfl rfl ?_)
    refine WG.run tab_ok 1 rfl ?_
    refine WG.nil ?_
    refine WE.nxt ?_
    refine W.ret ?_
    refine WE.then_ret ?_
    refine WE.retF tab_ok [_, _] rfl ⟨⟨_, _, _, rfl, rfl, rfl, ((by first | exact Rd.blk 0 rfl | exact Rd.blk 1 rfl | exact Rd.blk 2 rfl | exact Rd.blk 3 rfl | exact Rd.blk 4 rfl | exact Rd.blk 5 rfl)), rfl⟩, rfl, trivial⟩ (by first | exact RLe.refl _ | exact hR2) ?_
    rw [e]
    exact ⟨none, 0, rfl, rs_nil, qS⟩
  · try dsimp only at hc0
    have e : curveL L cls (ls.map CvS.cv) z = fifoC L.cap (ls.map CvS.cv) := (if_neg (fun h => h hc0)).trans (if_pos hk1)
    obtain ⟨hk0, -, -, hv⟩ := arg_facts hc0
    have hf := chk_facts hk0
    refine W.skip ?_
    refine WE.nxt ?_
    refine W.seq ?_
    refine W.region _ ?_
    refine WG.run tab_ok 1 rfl ?_
    refine' WG.y rfl rfl (by decide) (Yl.load1 tab_ok rfl rfl rfl (fun _ => rfl) ?r2 rfl ?h2) ?_
    case r2 => apply Rd.add; (exact Rd.blk 1 rfl)
    case h2 => rfl
    refine WG.callV en52 rfl rfl (by decide) (CallOp.mk' rfl rfl rfl rfl) (fun _ => rfl) (fun hg => Kind_V L.kind) ?_
    refine WG.run tab_ok 5 rfl ?_
    refine WG.nil ?_
    refine WE.nxt ?_
    rw [show kindI L.kind = .iface 121 (.agg #[]) by rw [hk1]; rfl]
    refine W.seq ?_
    refine W.region _ ?_
    refine WG.run tab_ok 1 rfl ?_
    refine' WG.y rfl rfl (by decide) (Yl.load1 tab_ok rfl rfl rfl (fun _ => rfl) ?r3 rfl ?h3) ?_
    case r3 => (exact Rd.blk 1 rfl)
    case h3 => rfl
    refine WG.run tab_ok 3 rfl ?_
    refine WL.callI (args := [.tmp 29, .tmp 30, .tmp 31, .tmp 32]) rfl rfl rfl (by decide) rfl rfl (meth_curve1 _ _ _ _) (CurFifo_C hw hlw ht hlt hla hll hlc hls hzr hlz hzc ⟨hf.2.1, hf.2.2.1⟩ (fun x hx => hv _ (List.mem_map.2 ⟨x, hx, rfl⟩)) w0 _) ?_
    rintro _ R2 E2 hR2 ⟨f, fc, rfl, hf, hsub⟩
    refine WL.subE hsub ?_
    rw [← e] at hf ⊢
    unfold cvV
    refine WG.run tab_ok 2 rfl ?_
    refine WL.efN rfl rfl (Ef.store0 0 tab_ok rfl rfl rfl rfl rfl rfl rfl rfl ?_)
    refine WG.run tab_ok 1 rfl ?_
    refine WG.nil ?_
    refine WE.nxt ?_
    refine W.ret ?_
    refine WE.retF tab_ok [_, _] rfl ⟨⟨_, _, _, rfl, rfl, rfl, ((by first | exact Rd.blk 0 rfl | exact Rd.blk 1 rfl | exact Rd.blk 2 rfl | exact Rd.blk 3 rfl | exact Rd.blk 4 rfl | exact Rd.blk 5 rfl)), rfl⟩, rfl, trivial⟩ (by first | exact RLe.refl _ | exact hR2) ?_
    exact ⟨f, fc, rfl, hf, qS⟩


end Go.Proofs.YtlgjkmebpnnphaaGreat

/- Four operations of which any may come first. No condition. -/
namespace Go.Proofs.YtlgjkmebpnnphaaGreat.K
open Go Go.RowKit
variable {P : Program} {T : Tab} {n : Nat} {env : Env} {w0 : World} {R : Ro} {E : List Ent} {Q : Exit → Act → World → Prop}
variable {ops : List Oper} {ES : List Ent} {R0 : Ro} {fuel : Nat} {listed : Array Bool}
theorem WE.retFS {E' : List Ent} (hE : E'.Sublist E) (hT : TabOk P T) {fn : Func} {Post : Value → Ro → List Ent → Prop} {R0 : Ro} {rs : List ResultVar} (vs : List Value) (hr : fn.results = rs.toArray) (h : ResAll T env R E rs vs) (hR : RLe R0 R) (hp : Post (resVal vs) R E') (hds : markOf env = none := by rfl) :
    WE (bodyPost P fn (FnR w0 R0 Post)) .ret n env w0 R E := fun _ _ hk hm => ⟨by rw [hk.defers]; unfold dsOf; rw [hds], resVal vs, results_ok hT hr hk hm h, resVal vs, R, E', rfl, hR, hm.sub (RLe.refl R) hE, hp⟩
end Go.Proofs.YtlgjkmebpnnphaaGreat.K
