/- Rules and walks, joined from 24 texts: the first of them says: Chapter 19: the choice of weighted round robin. No condition. -/
import Derived.Test.YthpblaoehlgpfaaGreatG3
/- Chapter 19: the choice of weighted round robin. No condition. -/
set_option maxRecDepth 4000
set_option linter.unusedSimpArgs false
set_option linter.unusedVariables false
namespace Go.Proofs.YthpblaoehlgpfaaGreat
open Go Go.RowKit Go.Proofs.YthpblaoehlgpfaaGreat.K Go.Proofs.YthpblaoehlgpfaaGreat.M

theorem Next_C {R : Ro} {sb : Nat} {pa : Option Addr} {pc bg : Nat} {ps : List Pkt} {ms : MS} (w0 : World) (hp : RS R 3 encP pa ps) (hb : ms.begun.length = ps.length) (hgd : goodB ps ms) (hsort : ps.Pairwise fun a b => a.time ≤ b.time) (cls : Int) (F : List Ent) :
  K.Fn Tryz.prog 201 [.pointer (some ⟨sb, 0, none⟩), .int .i64 cls] w0 R (stE sb pa ps.length pc bg ms :: .sl 4 1 (some ⟨bg, 0, none⟩) ps.length (ms.begun.map encB) :: F) (fun v R' E' => v = .int .i64 (nextW ps ms cls) ∧ R = R' ∧ E' = stE sb pa ps.length pc bg { ms with before := skipTo ms.begun ms.before } :: .sl 4 1 (some ⟨bg, 0, none⟩) ps.length (ms.begun.map encB) :: F) := by
 have hla := hp.len
 have hsk := hgd.skip hb
 have hfl := firstR_lt ps ms
 refine fE 54 Tryz.func201 ?_
 refine zQ (zG (zR 1 rfl (zN (zU (zQ (zQ (zG (zR 1 rfl ?_))))))))
 refine WL.call en192 rfl rfl qD (CallOp.mkT rfl rfl rfl rfl) (First_C w0 hp hb hgd.1 _) ?_
 rintro _ _ _ - ⟨rfl, rfl, rfl⟩
 refine zR 2 rfl (zN (zU (zB ?_)))
 refine W.loop (β := Nat) (fun i => i ≤ ps.length ∧ ∀ j, j < i → nextP ps ms cls j = false) (fun i => [(0, true, .pointer (some ⟨sb, 0, none⟩)), (1, true, .int .i64 cls), (5, true, .int .i64 (i : Int))]) (fun _ => R) (fun _ => stE sb pa ps.length pc bg { ms with before := skipTo ms.begun ms.before } :: .sl 4 1 (some ⟨bg, 0, none⟩) ps.length (ms.begun.map encB) :: F) (fun i => ps.length - i) ((if 0 < firstR ps ms then firstR ps ms else 0).toNat) (⟨by split <;> omega, fun j hj => by
  have h1 : 0 < firstR ps ms := by
   apply Classical.byContradiction
   intro h; rw [if_neg h] at hj; simp at hj
  rw [if_pos h1] at hj
  have h2 := (firstR_some hgd hb (by omega)).2.2.2 j hj
  unfold nextP; rw [h2]; simp⟩) ⟨rfl, rfl, vint (by split <;> omega), rfl⟩ (RLe.refl _) qS ?_
 intro i hst
 obtain ⟨hi, hno⟩ := hst
 refine zQ (zQ ?_)
 refine W.regionQ _ mixed qK ?_
 refine zR 4 rfl ?_
 refine yL (Rd.add (Rd.blk 0 rfl) _) ?_
 refine zR 3 rfl ?_
 refine yP ?_
 refine yP ?_
 refine yP ?_
 refine yG (Rd.addC (Rd.blkC 0 rfl) _) ?_
 refine yP ?_
 refine WG.y rfl rfl (by decide) (Yl.indexN tab_ok rfl rfl rfl rfl rfl rfl qE (by intro hg; (try simp only [zk] at hg); (try dsimp only) <;> omega) (by intro hg; (try simp only [zk] at hg); first | exact qI)) ?_
 refine yP ?_
 refine' WG.y rfl rfl qD (Yl.loadG tab_ok rfl rfl rfl qE ?r3 rfl ?h3 ?g3) ?_
 case r3 => apply Rd.addC; ((apply RS.rdC; assumption))
 case h3 => rfl
 case g3 => (intro hg; (try simp only [zk] at hg); (try dsimp only); omega)
 refine yP ?_
 refine yP ?_
 refine yP ?_
 refine yG (Rd.addC (Rd.blkC 0 rfl) _) ?_
 refine yP ?_
 refine yN ?_
 refine zN (zU ?_)
 refine W.cond rfl (fun hc0 => ?_) (fun hc0 => ?_)
 ·try simp only [zk] at hc0
  obtain ⟨hc1, hc2⟩ := hc0
  have hil : i < ps.length := by omega
  refine zK (zU (zQ (zB (zQ (zG (zR 3 rfl ?_))))))
  refine yL (Rd.add (Rd.blk 0 rfl) _) ?_
  refine zR 1 rfl ?_
  refine WG.y rfl rfl qD (Yl.indexN tab_ok rfl rfl rfl rfl rfl rfl (fun _ => rfl) qN qH) ?_
  refine' WG.y rfl rfl qD (Yl.load1 tab_ok rfl rfl rfl (fun _ => rfl) ?r6 rfl ?h6) ?_
  case r6 => (exact Rd.slD 1 rfl qX)
  case h6 => rfl
  refine zR 2 rfl ?_
  refine yP ?_
  refine yP ?_
  refine yP ?_
  refine yG (Rd.addC (Rd.blkC 0 rfl) _) ?_
  refine yP ?_
  refine WG.y rfl rfl (by decide) (Yl.indexN tab_ok rfl rfl rfl rfl rfl rfl qE (by intro hg; (try simp only [zk] at hg); (try dsimp only) <;> omega) (by intro hg; (try simp only [zk] at hg); first | exact qI)) ?_
  refine yP ?_
  refine' WG.y rfl rfl qD (Yl.loadG tab_ok rfl rfl rfl qE ?r8 rfl ?h8 ?g8) ?_
  case r8 => apply Rd.addC; ((apply RS.rdC; assumption))
  case h8 => rfl
  case g8 => (intro hg; (try simp only [zk] at hg); (try dsimp only); omega)
  refine yP ?_
  refine yP ?_
  refine yN ?_
  refine zN (zU ?_)
  refine W.cond rfl (fun hc1 => ?_) (fun hc1 => ?_)
  ·try simp only [zk] at hc1
   have hP : nextP ps ms cls i = true := nextP_iff.2 ⟨hc2, by simpa using hc1.1, hc1.2⟩
   refine zQ (zG (zR 2 rfl (zN (zU (zT (wb (wt (wt (wb (wt ?_))))))))))
   refine WE.retF tab_ok [_] rfl ⟨rfl, trivial⟩ (RLe.refl _) ?_
   exact ⟨by rw [show nextW ps ms cls = (i : Int) from findN_some hil hP hno]; rfl, rfl, rfl⟩
  ·try simp only [zk] at hc1
   have hP : nextP ps ms cls i = false := by
    rw [← Bool.not_eq_true]
    intro h
    obtain ⟨h1, h2, h3⟩ := nextP_iff.1 h
    simp [h2, h3] at hc1
   refine zK (zL (zU (zG (zR 1 rfl ?_))))
   refine yA ?_
   refine zR 1 rfl (zN ?_)
   refine WE.again (i + 1) (⟨by omega, fun j hj => by
    by_cases e : j = i
    ·subst e; exact hP
    ·exact hno j (by omega)⟩) (by (try dsimp only); omega) ⟨rfl, rfl, rfl, rfl⟩ (RLe.refl _) qS
 ·try simp only [zk] at hc0
  have hnone : nextW ps ms cls = -1 := findN_none (fun j hj => by
   by_cases hji : j < i
   ·exact hno j hji
   ·by_cases hil : i < ps.length
    ·have h1 := hc0 (by omega)
     have h2 : (nth ps i).time ≤ (nth ps j).time := by
      by_cases e : i = j
      ·subst e; exact Int.le_refl _
      ·have := List.pairwise_iff_getElem.1 hsort i j hil hj (by omega)
       rw [nth_eq hil, nth_eq hj]; exact this
     unfold nextP
     rw [decide_eq_false (by omega)]; simp
    ·omega)
  refine zX ?_
  refine wx (wx (zY (zU (zQ (zG (zR 1 rfl (zN (zU (zT ?_)))))))))
  refine WE.retF tab_ok [_] rfl ⟨rfl, trivial⟩ (RLe.refl _) ?_
  exact ⟨by rw [hnone]; rfl, rfl, rfl⟩

theorem Weighed19_V {R : Ro} {a : Option Addr} {c : Nat} {w : List Int} (ha : RS R 1 encI a w) : FnV Tryz.prog 221 [.slice a w.length c] R (.bool (okW 20 w)) := by
 have hla := ha.len
 refine Fn.toV (fun w0 E => ?_)
 refine fE 18 Tryz.func221 ?_
 refine zQ (zG (zR 1 rfl (zN (zU (zQ (zQ (zG (zR 3 rfl (zN (zU (zB ?_)))))))))))
 refine W.loopK (β := Nat) (fun k => k ≤ w.length ∧ ∀ j, j < k → 1 ≤ nth w j ∧ nth w j ≤ 20) (fun k => [(7, true, .int .i64 (k : Int))]) [5, 6] [_, _] [] _ rfl (fun k => []) (fun k => w.length - k) (0) (⟨Nat.zero_le _, fun j hj => by omega⟩) ⟨rfl, rfl, rfl, rfl⟩ qS ?_
 intro k hst
 dsimp only [zipE, setAll, List.cons_append, List.nil_append, List.set_cons_zero, List.set_cons_succ] at hst ⊢
 
 refine zQ (zG (zR 1 rfl (zN (zU (zQ ?_)))))
 refine W.condD rfl (fun hc0 => ?_) (fun hc0 => ?_)
 ·try dsimp only at hc0
  refine zK (zU (zQ (zB (zQ (zG ?_)))))
  refine WG.y rfl rfl qD (Yl.indexN tab_ok rfl rfl rfl rfl rfl rfl (fun _ => rfl) qN qH) ?_
  refine yR ?_
  refine zR 1 rfl (zN (zU (zQ (zG (zR 3 rfl ?_)))))
  refine yP ?_
  refine yP ?_
  refine yO ?_
  refine zN (zU ?_)
  refine W.cond rfl (fun hc1 => ?_) (fun hc1 => ?_)
  ·try simp only [zk] at hc1
   have hkl : k < w.length := by omega
   refine zQ (zG (zR 1 rfl (zN (zU (zT (wb (wt (wt (wb (wt ?_))))))))))
   refine sE (E := E) ?_
   refine WE.retF tab_ok [_] rfl ⟨rfl, trivial⟩ (RLe.refl _) ?_
   refine ⟨congrArg Value.bool ?_, rfl⟩
   symm
   rw [← Bool.not_eq_true]
   intro h
   have := okW_iff.1 h _ (nth_mem hkl)
   omega
  ·try simp only [zk] at hc1
   refine zK (zL (zU (zG ?_)))
   refine yA ?_
   refine zR 1 rfl (zN ?_)
   refine WE.again (k + 1) (⟨by omega, fun j hj => by
    by_cases e : j = k
    ·subst e; omega
    ·exact hst.2 j (by omega)⟩) (by (try dsimp only); omega) ⟨rfl, rfl, rfl, rfl⟩ (RLe.refl _) qS
 ·try dsimp only at hc0
  refine zX ?_
  refine wx (wx (zY (zU (zQ (zG (zR 1 rfl (zN (zU (zT ?_)))))))))
  refine sE (E := E) ?_
  refine WE.retF tab_ok [_] rfl ⟨rfl, trivial⟩ (RLe.refl _) ?_
  refine ⟨congrArg Value.bool ?_, rfl⟩
  symm
  exact okW_iff.2 (all_of_nth (fun j hj => hst.2 j qO))

theorem Right19_V {R : Ro} {a : Option Addr} {c : Nat} {w : List Int} (ha : RS R 1 encI a w) : FnV Tryz.prog 110 [.slice a w.length c] R (.bool (okW 20 w)) := by
 have hla := ha.len
 refine Fn.toV (fun w0 E => ?_)
 refine fE 22 Tryz.func110 ?_
 refine zQ (zG (zR 1 rfl (zN (zU (zQ (zQ (zG (zR 1 rfl (zN (zU (zB ?_)))))))))))
 refine W.loopK (β := Nat) (fun k => k ≤ w.length ∧ ∀ j, j < k → 1 ≤ nth w j ∧ nth w j ≤ 20) (fun k => [(3, true, .int .i64 (k : Int))]) [0] [_] [] _ rfl (fun k => []) (fun k => w.length - k) (0) (⟨Nat.zero_le _, fun j hj => by omega⟩) ⟨rfl, rfl, rfl⟩ qS ?_
 intro k hst
 dsimp only [zipE, setAll, List.cons_append, List.nil_append, List.set_cons_zero, List.set_cons_succ] at hst ⊢
 
 refine zQ (zQ (zG (zR 4 rfl (zN (zU ?_)))))
 refine W.condD rfl (fun hc0 => ?_) (fun hc0 => ?_)
 ·try dsimp only at hc0
  refine zK (zU (zQ (zB (zQ (zG (zR 2 rfl ?_))))))
  refine WG.y rfl rfl qD (Yl.indexN tab_ok rfl rfl rfl rfl rfl rfl (fun _ => rfl) qN qH) ?_
  refine yR ?_
  refine zR 2 rfl ?_
  refine yP ?_
  refine yP ?_
  refine WG.y rfl rfl (by decide) (Yl.indexN tab_ok rfl rfl rfl rfl rfl rfl qE (by intro hg; (try simp only [zk] at hg); (try dsimp only) <;> omega) (by intro hg; (try simp only [zk] at hg); first | exact qI)) ?_
  refine' WG.y rfl rfl qD (Yl.loadG tab_ok rfl rfl rfl qE ?r2 rfl ?h2 ?g2) ?_
  case r2 => ((apply RS.rdC; assumption))
  case h2 => rfl
  case g2 => (intro hg; (try simp only [zk] at hg); (try dsimp only); omega)
  refine yP ?_
  refine yO ?_
  refine zN (zU ?_)
  refine W.cond rfl (fun hc1 => ?_) (fun hc1 => ?_)
  ·try simp only [zk] at hc1
   have hkl : k < w.length := by omega
   refine zQ (zG (zR 1 rfl (zN (zU (zT (wb (wt (wt (wb (wt ?_))))))))))
   refine sE (E := E) ?_
   refine WE.retF tab_ok [_] rfl ⟨rfl, trivial⟩ (RLe.refl _) ?_
   refine ⟨congrArg Value.bool ?_, rfl⟩
   symm
   rw [← Bool.not_eq_true]
   intro h
   have := okW_iff.1 h _ (nth_mem hkl)
   omega
  ·try simp only [zk] at hc1
   refine zK (zL (zU (zG (zR 1 rfl ?_))))
   refine yA ?_
   refine zR 1 rfl (zN ?_)
   refine WE.again (k + 1) (⟨by omega, fun j hj => by
    by_cases e : j = k
    ·subst e; omega
    ·exact hst.2 j (by omega)⟩) (by (try dsimp only); omega) ⟨rfl, rfl, rfl⟩ (RLe.refl _) qS
 ·try dsimp only at hc0
  refine zX ?_
  refine wx (wx (zY (zU (zQ (zG (zR 1 rfl (zN (zU (zT ?_)))))))))
  refine sE (E := E) ?_
  refine WE.retF tab_ok [_] rfl ⟨rfl, trivial⟩ (RLe.refl _) ?_
  refine ⟨congrArg Value.bool ?_, rfl⟩
  symm
  exact okW_iff.2 (all_of_nth (fun j hj => hst.2 j qO))

theorem Rob1_C {b12 b13 b5 : Nat} {R : Ro} {sb : Nat} {pa : Option Addr} {pc bg : Nat} {ps : List Pkt} {ms : MS} (w0 : World) (hp : RS R 3 encP pa ps) (hb : ms.begun.length = ps.length) (hsort : ps.Pairwise fun a b => a.time ≤ b.time) {wa : Option Addr} {wc : Nat} {w : List Int} (hwr : RS R 1 encI wa w) (hw : ∀ x ∈ w, 1 ≤ x ∧ x ≤ 20) (hn : 0 < w.length) (hfl : ∀ p ∈ ps, 0 ≤ p.flow ∧ p.flow < w.length) {s : Nat × Int} (hg : goodRb ps w.length ms s) (F : List Ent) :
  K.Fn Tryz.prog 222 [.pointer (some ⟨sb, 0, none⟩), .pointer (some ⟨b12, 0, none⟩), .pointer (some ⟨b13, 0, none⟩), .pointer (some ⟨b5, 0, none⟩)] w0 R (stE sb pa ps.length pc bg ms :: .sl 4 1 (some ⟨bg, 0, none⟩) ps.length (ms.begun.map encB) :: ([.blk b12 [.int .i64 (s.1 : Int)], .blk b13 [.int .i64 s.2], .blk b5 [.slice wa w.length wc]] ++ F)) (fun v R' E' => v = .int .i64 (robinCh ps w ms s).1 ∧ R = R' ∧ E' = stE sb pa ps.length pc bg { ms with before := (robinCh ps w ms s).2.1 } :: .sl 4 1 (some ⟨bg, 0, none⟩) ps.length (ms.begun.map encB) :: ([.blk b12 [.int .i64 ((robinCh ps w ms s).2.2.1 : Int)], .blk b13 [.int .i64 (robinCh ps w ms s).2.2.2], .blk b5 [.slice wa w.length wc]] ++ F)) := by
 have hlw := hwr.len
 obtain ⟨hgd, hgc, hgl0, hgl1⟩ := hg
 have hg1 : goodB ps { ms with before := skipTo ms.begun ms.before } := goodB_skip hgd hb
 have hsk0 : skipTo ms.begun (skipTo ms.begun ms.before) = skipTo ms.begun ms.before := by
  by_cases h : skipTo ms.begun ms.before < ms.begun.length
  ·exact skipTo_false h (skipTo_stop' h)
  ·exact skipTo_end (by omega)
 refine fE 31 Tryz.func222 ?_
 refine zQ (zG (zR 1 rfl (zN (zU (zQ (zQ (zG (zR 1 rfl ?_))))))))
 refine WL.call en192 rfl rfl qD (CallOp.mkT rfl rfl rfl rfl) (First_C w0 hp hb hgd.1 _) ?_
 rintro _ _ _ - ⟨rfl, rfl, rfl⟩
 refine zR 1 rfl (zN (zU ?_))
 refine W.condD rfl (fun hc0 => ?_) (fun hc0 => ?_)
 ·try dsimp only at hc0
  have hch : robinCh ps w ms s = (-1, skipTo ms.begun ms.before, s) := by unfold robinCh; rw [if_pos hc0]
  refine zQ (zG (zR 1 rfl (zN (zU (zT (wt ?_))))))
  refine WE.retF tab_ok [_] rfl ⟨rfl, trivial⟩ (RLe.refl _) ?_
  exact ⟨by rw [hch]; rfl, rfl, by rw [hch]; try rfl⟩
 ·try dsimp only at hc0
  have hsoon := robin_soon hn hfl ⟨hgd, hgc, hgl0, hgl1⟩ hb hc0
  have hch : robinCh ps w ms s = ((robinGo (nextW ps ms) w (w.length + 1) s.1 s.2).1, skipTo ms.begun ms.before, (robinGo (nextW ps ms) w (w.length + 1) s.1 s.2).2) := by unfold robinCh; rw [if_neg hc0]
  refine zK (zU (zB ?_))
  refine W.loop (β := Nat × Nat × Int) (fun (k, c, l) => robinGo (nextW ps ms) w k c l = robinGo (nextW ps ms) w (w.length + 1) s.1 s.2 ∧ Soon (nextW ps ms) w.length k c l ∧ c < w.length ∧ 0 ≤ l ∧ l ≤ 20) (fun (k, c, l) => [(0, true, .pointer (some ⟨sb, 0, none⟩)), (1, true, .pointer (some ⟨b12, 0, none⟩)), (2, true, .pointer (some ⟨b13, 0, none⟩)), (3, true, .pointer (some ⟨b5, 0, none⟩))]) (fun _ => R) (fun (k, c, l) => stE sb pa ps.length pc bg { ms with before := skipTo ms.begun ms.before } :: .sl 4 1 (some ⟨bg, 0, none⟩) ps.length (ms.begun.map encB) :: .blk b12 [.int .i64 (c : Int)] :: .blk b13 [.int .i64 l] :: .blk b5 [.slice wa w.length wc] :: F) (fun (k, c, l) => k) ((w.length + 1, s.1, s.2)) (⟨rfl, hsoon, hgc, hgl0, hgl1⟩) ⟨rfl, rfl, rfl, rfl, rfl⟩ (RLe.refl _) qS ?_
  intro st hst
  obtain ⟨k, c, l⟩ := st
  obtain ⟨h1, h2, h3, h4, h5⟩ := hst
  dsimp only at h1 h2 h3 h4 h5 ⊢
  refine zB (zQ (zQ (zG (zR 1 rfl ?_))))
  refine yL (Rd.blk 2 rfl) ?_
  refine WL.call en201 rfl rfl qD (CallOp.mkT rfl rfl rfl rfl) (Next_C (ms := { ms with before := skipTo ms.begun ms.before }) w0 hp hb hg1 hsort _ _) ?_
  rintro _ _ _ - ⟨rfl, rfl, rfl⟩
  dsimp only
  rw [hsk0]
  refine zR 1 rfl (zN (zU (zQ (zG (zR 3 rfl ?_)))))
  refine yG (Rd.blkC 3 rfl) ?_
  refine yP ?_
  refine yN ?_
  refine zN (zU ?_)
  refine W.cond rfl (fun hc1 => ?_) (fun hc1 => ?_)
  ·try simp only [zk] at hc1
   have hc1 : 0 ≤ nextW ps ms c ∧ 0 < l := hc1
   have hgo : robinGo (nextW ps ms) w (w.length + 1) s.1 s.2 = (nextW ps ms c, (c, l - 1)) := by
    rw [← h1]
    obtain ⟨k, rfl⟩ : ∃ m, k = m + 1 := ⟨k - 1, by obtain ⟨j, hj, _⟩ := h2; omega⟩
    rw [robinGo, if_pos hc1]
   rw [hgo] at hch
   refine zQ (zG ?_)
   refine yL (Rd.blk 3 rfl) ?_
   refine yS ?_
   refine zE 3 ?_
   refine zN (zU (zQ (zG (zR 2 rfl (zN (zU (zT (wt (wb (wt (wb ?_)))))))))))
   refine WE.retF tab_ok [_] rfl ⟨rfl, trivial⟩ (RLe.refl _) ?_
   exact ⟨by rw [hch]; rfl, rfl, by rw [hch]; try rfl⟩
  ·try simp only [zk] at hc1
   obtain ⟨k, rfl⟩ : ∃ m, k = m + 1 := ⟨k - 1, by obtain ⟨j, hj, _⟩ := h2; omega⟩
   have hno : ¬ (0 ≤ nextW ps ms c ∧ 0 < l) := by rintro ⟨x1, x2⟩; have := hc1 x1; omega
   rw [robinGo, if_neg hno] at h1
   have h2 := h2.step (fun x hx => (hw x hx).1) hn h3 hno
   have hce : ((c : Int) + 1) % (w.length : Int) = (((c + 1) % w.length : Nat) : Int) := rfl
   have hcl : (c + 1) % w.length < w.length := Nat.mod_lt _ hn
   have hwc := hw _ (nth_mem hcl)
   refine zK (zU (zQ (zG ?_)))
   refine yL (Rd.blk 2 rfl) ?_
   refine yA ?_
   refine yL (Rd.blk 4 rfl) ?_
   refine zR 1 rfl ?_
   refine WG.y rfl rfl qD (Yl.rem rfl rfl rfl (fun _ => rfl) qN qN) ?_
   refine zE 2 ?_
   rw [hce]
   refine zN (zU (zG ?_))
   refine yL (Rd.blk 4 rfl) ?_
   refine yL (Rd.blk 2 rfl) ?_
   refine WG.y rfl rfl qD (Yl.indexN tab_ok rfl rfl rfl rfl rfl rfl (fun _ => rfl) qN qH) ?_
   refine yR ?_
   refine zE 3 ?_
   refine zN (zL ?_)
   refine WE.again ((k, (c + 1) % w.length, nth w ((c + 1) % w.length))) (⟨h1, h2, hcl, by dsimp only; omega, by dsimp only; omega⟩) (by dsimp only; omega) ⟨rfl, rfl, rfl, rfl, rfl⟩ (RLe.refl _) qS



theorem perm4a {α : Type} {a b c d : α} {l : List α} : (a :: b :: d :: c :: l).Perm (a :: b :: c :: d :: l) := ((List.Perm.swap c d l).cons b).cons a
theorem perm4b {α : Type} {a b c d : α} {l : List α} : (b :: a :: d :: c :: l).Perm (a :: b :: c :: d :: l) := (List.Perm.swap a b _).trans perm4a

theorem Robin_err {R : Ro} {pa wa : Option Addr} {pc wc : Nat} {ps : List Pkt} {w : List Int} (hp : RS R 3 encP pa ps) (hwr : RS R 1 encI wa w) {cap ticks : Int} (w0 : World) (hbad : wrunE 20 cap ticks w ps ≠ 0) (E : List Ent) :
  K.Fn Tryz.prog 212 [.int .i64 cap, .slice wa w.length wc, .slice pa ps.length pc, .int .i64 ticks] w0 R E (fun v R' E' => v = .tuple #[.agg #[.slice none 0 0, .slice none 0 0], .int .i64 (wrunE 20 cap ticks w ps)] ∧ R = R' ∧ E.Sublist E') := by
 have hla := hp.len
 have hlw := hwr.len
 refine fE 44 Tryz.func212 ?_
 refine zQ (zG ?_)
 refine zO fun b5 => ?_
 refine zA fun b8 => ?_
 refine zR 1 rfl (zN (zU (zQ (zQ (zG (zR 1 rfl ?_))))))
 refine WG.callV en79 rfl rfl qD (CallOp.mk' rfl rfl rfl rfl) (fun _ => rfl) (fun hg => Validate_V hp) ?_
 refine zR 1 rfl (zN (zU (zQ (zG (zR 2 rfl (zN (zU ?_)))))))
 refine W.condN rfl (fun hc0 => ?_) (fun hc0 => ?_)
 ·try dsimp only at hc0
  have e : wrunE 20 cap ticks w ps = validate ps := by unfold wrunE lrunE; rw [if_pos hc0, if_pos hc0]
  refine zQ (zG ?_)
  -- build
  refine WG.y rfl rfl qD (Yl.build (parts := []) tab_ok rfl rfl rfl rfl (fun _ => rfl) rfl rfl) ?_
  refine zR 1 rfl ?_
  refine zE 0 ?_
  refine zR 1 rfl (zN (zU (zT (wt ?_))))
  refine WE.retF tab_ok [_, _] rfl ⟨⟨_, _, _, rfl, rfl, rfl, qB, rfl⟩, rfl, trivial⟩ (RLe.refl _) ?_
  exact ⟨by rw [e]; rfl, rfl, qS⟩
 ·try dsimp only at hc0
  have hl0 : lrunE cap w.length ticks ps = checkE cap w.length ticks ps := if_neg (fun h => h hc0)
  refine zK (zU (zQ (zQ (zG (zR 1 rfl ?_)))))
  refine yL (Rd.blk 1 rfl) ?_
  refine zR 3 rfl ?_
  refine WG.callV en190 rfl rfl qD (CallOp.mk' rfl rfl rfl rfl) (fun _ => rfl) (fun hg => Check_V hp) ?_
  refine zR 1 rfl (zN (zU (zQ (zG (zR 2 rfl (zN (zU ?_)))))))
  refine W.condN rfl (fun hc1 => ?_) (fun hc1 => ?_)
  ·try dsimp only at hc1
   have e : wrunE 20 cap ticks w ps = checkE cap w.length ticks ps := by unfold wrunE; rw [if_pos (by rw [hl0]; exact hc1), hl0]
   refine zQ (zG ?_)
   -- build
   refine WG.y rfl rfl qD (Yl.build (parts := []) tab_ok rfl rfl rfl rfl (fun _ => rfl) rfl rfl) ?_
   refine zR 1 rfl ?_
   refine zE 0 ?_
   refine zR 1 rfl (zN (zU (zT (wt ?_))))
   refine WE.retF tab_ok [_, _] rfl ⟨⟨_, _, _, rfl, rfl, rfl, qB, rfl⟩, rfl, trivial⟩ (RLe.refl _) ?_
   exact ⟨by rw [e]; rfl, rfl, qS⟩
  ·try dsimp only at hc1
   refine zK (zU (zQ (zQ (zG ?_))))
   refine yL (Rd.blk 1 rfl) ?_
   refine WG.callV en221 rfl rfl qD (CallOp.mk' rfl rfl rfl rfl) (fun _ => rfl) (fun hg => Weighed19_V hwr) ?_
   refine zR 1 rfl (zN (zU ?_))
   refine W.cond rfl (fun hc2 => ?_) (fun hc2 => ?_)
   ·try simp only [zk] at hc2
    have e : wrunE 20 cap ticks w ps = 2 := by unfold wrunE; rw [if_neg (fun h => h (hl0.trans hc1)), if_neg (by simp [hc2])]
    refine zQ (zG ?_)
    -- build
    refine WG.y rfl rfl qD (Yl.build (parts := []) tab_ok rfl rfl rfl rfl (fun _ => rfl) rfl rfl) ?_
    refine zE 0 ?_
    refine zR 1 rfl (zN (zU (zT (wt ?_))))
    refine WE.retF tab_ok [_, _] rfl ⟨⟨_, _, _, rfl, rfl, rfl, qB, rfl⟩, rfl, trivial⟩ (RLe.refl _) ?_
    exact ⟨by rw [e]; rfl, rfl, qS⟩
   ·try simp only [zk] at hc2
    exact absurd (by unfold wrunE; rw [if_neg (fun h => h (hl0.trans hc1)), if_pos (by simpa using hc2)]) hbad

theorem Robin_ok {R : Ro} {pa wa : Option Addr} {pc wc : Nat} {ps : List Pkt} {w : List Int} (hp : RS R 3 encP pa ps) (hwr : RS R 1 encI wa w) {cap : Int} {ticks : Nat} (w0 : World) (hok0 : wrunE 20 cap ticks w ps = 0) (E : List Ent) :
  K.Fn Tryz.prog 212 [.int .i64 cap, .slice wa w.length wc, .slice pa ps.length pc, .int .i64 ticks] w0 R E
   (fun v R' E' => ∃ (rows : List Sl) (gd go : Nat) (s : M.RS (Nat × Int)), s = mrun ps (robinCh ps w) cap w.length ticks (0, nth w 0) ∧ v = .tuple #[.agg #[.slice (some ⟨gd, 0, none⟩) ps.length ps.length, .slice (some ⟨go, 0, none⟩) w.length w.length], .int .i64 0] ∧ R = R' ∧ rows.map Sl.xs = s.sent ∧ (∀ r ∈ rows, r.a.isSome = true) ∧ Inv ps w.length (goodRb ps w.length) (ticks + 1) (ticks * cap) s ∧
    (.sl 3 1 (some ⟨gd, 0, none⟩) ps.length (s.done.map encI) :: .sl 22 1 (some ⟨go, 0, none⟩) w.length (rows.map encS) :: (rows.map (rowE 3) ++ E)).Sublist E') := by
 obtain ⟨hl0, hkw⟩ := wrunE_ok hok0
 have hw := okW_iff.1 hkw
 obtain ⟨hok, hvv, hck, c1, c2, c3, c4, c5, c6, hs, hf⟩ := lrunE_ok hl0
 have hlw := hwr.len
 have hla := hp.len
 refine fE 44 Tryz.func212 ?_
 refine zQ (zG ?_)
 refine zO fun b5 => ?_
 refine zA fun b8 => ?_
 refine zR 1 rfl (zN (zU (zQ (zQ (zG (zR 1 rfl ?_))))))
 refine WG.callV en79 rfl rfl qD (CallOp.mk' rfl rfl rfl rfl) (fun _ => rfl) (fun hg => hvv ▸ Validate_V hp) ?_
 refine zR 1 rfl (zN (zU (zQ (zG (zR 2 rfl (zN (zU ?_)))))))
 refine W.condN rfl (fun hc0 => ?_) (fun hc0 => ?_)
 ·try dsimp only at hc0
  exact absurd rfl hc0
 ·try dsimp only at hc0
  refine zK (zU (zQ (zQ (zG (zR 1 rfl ?_)))))
  refine yL (Rd.blk 1 rfl) ?_
  refine zR 3 rfl ?_
  refine WG.callV en190 rfl rfl qD (CallOp.mk' rfl rfl rfl rfl) (fun _ => rfl) (fun hg => hck ▸ Check_V hp) ?_
  refine zR 1 rfl (zN (zU (zQ (zG (zR 2 rfl (zN (zU ?_)))))))
  refine W.condN rfl (fun hc1 => ?_) (fun hc1 => ?_)
  ·try dsimp only at hc1
   exact absurd rfl hc1
  ·try dsimp only at hc1
   refine zK (zU (zQ (zQ (zG ?_))))
   refine yL (Rd.blk 1 rfl) ?_
   refine WG.callV en221 rfl rfl qD (CallOp.mk' rfl rfl rfl rfl) (fun _ => rfl) (fun hg => hkw ▸ Weighed19_V hwr) ?_
   refine zR 1 rfl (zN (zU ?_))
   refine W.cond rfl (fun hc2 => ?_) (fun hc2 => ?_)
   ·try simp only [zk] at hc2
    simp at hc2
   ·try simp only [zk] at hc2
    refine zK (zU ?_)
    refine W.seqCut (β := Nat × Nat) (fun (b12, b13) => True) (fun (b12, b13) => [(0, true, .int .i64 cap), (2, true, .slice pa ps.length pc), (3, true, .int .i64 ticks), (5, true, .pointer (some ⟨b5, 0, none⟩)), (8, true, .pointer (some ⟨b8, 0, none⟩)), (12, true, .pointer (some ⟨b12, 0, none⟩)), (13, true, .pointer (some ⟨b13, 0, none⟩))]) (fun _ => R) (fun (b12, b13) => .blk b12 [.int .i64 ((0 : Nat) : Int)] :: .blk b13 [.int .i64 (nth w 0)] :: .blk b5 [.slice wa w.length wc] :: .blk b8 [.slice none 0 0, .slice none 0 0] :: E) ?_ ?_
    ·
     intro st hst
     obtain ⟨b12, b13⟩ := st
     dsimp only
     refine zQ (zG (zR 1 rfl ?_))
     refine yL (Rd.blk 2 rfl) ?_
     refine zR 4 rfl ?_
     refine WL.call en191 rfl rfl qD (CallOp.mkT rfl rfl rfl rfl) (MRun_C (pc := pc) (g := 222) (first := #[]) (capd := #[.pointer (some ⟨b12, 0, none⟩), .pointer (some ⟨b13, 0, none⟩), .pointer (some ⟨b5, 0, none⟩)]) (ch := robinCh ps w) (good := goodRb ps w.length) (X := fun s => [.blk b12 [.int .i64 (s.1 : Int)], .blk b13 [.int .i64 s.2], .blk b5 [.slice wa w.length wc]]) (sg := (0, nth w 0)) w0 hp (robin_fair hw qO hf hok.sorted).toGood ⟨by have := hok.len; omega, fun p hp => by have := hs p hp; have := hf p hp; omega⟩ (robin_start hw qO _) qO qO qO en222 (fun sb bg ms sg F hgd hbl _ _ _ _ => Rob1_C w0 hp hbl hok.sorted hwr hw qO hf hgd F) _) ?_
     rintro _ _ E2 - ⟨rows, gd, go, s, hsr, rfl, rfl, h1, h2, h3, hsub⟩
     refine WL.subE hsub ?_
     refine WL.subE (E' := .sl 3 1 (some ⟨gd, 0, none⟩) ps.length (s.done.map encI) :: .sl 22 1 (some ⟨go, 0, none⟩) w.length (rows.map encS) :: (rows.map (rowE 3) ++ (.blk b8 [.slice none 0 0, .slice none 0 0] :: E))) (List.Sublist.cons_cons _ (List.Sublist.cons_cons _ (List.Sublist.append (List.Sublist.refl _) qS))) ?_
     refine WL.perm (List.perm_middle (l₁ := _ :: _ :: rows.map (rowE 3))) ?_
     refine zE 0 ?_
     refine zR 1 rfl (zN (zU (zT ?_)))
     refine WE.retF tab_ok [_, _] rfl ⟨⟨_, _, _, rfl, rfl, rfl, qB, rfl⟩, rfl, trivial⟩ (RLe.refl _) ?_
     exact ⟨rows, gd, go, s, hsr, rfl, rfl, h1, h2, h3, qS⟩
    ·
     refine W.regionH _ (ES := [.blk b5 [.slice wa w.length wc]]) mixed ?_
     refine tL 0 (Rd.blk 0 rfl) ?_
     refine WA.take 1 rfl qK qK qK rfl rfl qD (Yl.index tab_ok rfl rfl rfl rfl rfl rfl (fun _ => rfl) qA qH) qS qR ?_
     refine' WA.take 2 rfl qK qK qK rfl rfl qD (Yl.load1 tab_ok rfl rfl rfl (fun _ => rfl) ?r5 rfl ?h5) qS qR ?_
     case r5 => exact RS.rdD hwr (by show (Int.toNat 0) < _; omega)
     case h5 => rfl
     refine WA.br2 (i := 3) (j := 4) qK ?_ ?_
     ·
      refine WS.eff rfl rfl rfl qD (Ef.alloc tab_ok rfl rfl (fun b12 => ?_))
      refine ⟨qR, qS, ?_⟩
      refine WA.eff 4 rfl qK rfl rfl qD (Ef.alloc tab_ok rfl rfl (fun b13 => ?_))
      refine ⟨qR, qS, ?_⟩
      refine zCE 5 1 ?_
      refine zCE 6 0 ?_
      refine WA.done qK ?_
      refine WE.cutP (b12, b13) trivial ⟨rfl, rfl, rfl, rfl, rfl, rfl, rfl, rfl⟩ (RLe.refl _) (by dsimp only; first | exact perm4a | exact perm4b)
     ·
      refine WS.eff rfl rfl rfl qD (Ef.alloc tab_ok rfl rfl (fun b13 => ?_))
      refine ⟨qR, qS, ?_⟩
      refine WA.eff 3 rfl qK rfl rfl qD (Ef.alloc tab_ok rfl rfl (fun b12 => ?_))
      refine ⟨qR, qS, ?_⟩
      refine zCE 5 0 ?_
      refine zCE 6 1 ?_
      refine WA.done qK ?_
      refine WE.cutP (b12, b13) trivial ⟨rfl, rfl, rfl, rfl, rfl, rfl, rfl, rfl⟩ (RLe.refl _) (by dsimp only; first | exact perm4a | exact perm4b)

theorem RRobin_err {R : Ro} {pa wa : Option Addr} {pc wc : Nat} {ps : List Pkt} {w : List Int} (hp : RS R 3 encP pa ps) (hwr : RS R 1 encI wa w) {cap ticks : Int} (w0 : World) (hbad : wrunE 20 cap ticks w ps ≠ 0) (E : List Ent) :
  K.Fn Tryz.prog 65 [.int .i64 cap, .slice wa w.length wc, .slice pa ps.length pc, .int .i64 ticks] w0 R E (fun v R' E' => v = .tuple #[.agg #[.slice none 0 0, .slice none 0 0], .int .i64 (wrunE 20 cap ticks w ps)] ∧ R = R' ∧ E.Sublist E') := by
 have hla := hp.len
 have hlw := hwr.len
 refine fE 81 Tryz.func65 ?_
 refine zQ (zG ?_)
 refine zA fun b8 => ?_
 refine zR 1 rfl (zN (zU (zQ (zQ (zG (zR 5 rfl ?_))))))
 refine WG.callV en105 rfl rfl qD (CallOp.mk' rfl rfl rfl rfl) (fun _ => rfl) (fun hg => (show (if validate ps ≠ 0 then validate ps else checkE cap w.length ticks ps) = lrunE cap w.length ticks ps from rfl) ▸ BadR_V hp) ?_
 refine zR 1 rfl (zN (zU (zQ (zG (zR 2 rfl (zN (zU ?_)))))))
 refine W.condN rfl (fun hc0 => ?_) (fun hc0 => ?_)
 ·try dsimp only at hc0
  have e : wrunE 20 cap ticks w ps = lrunE cap w.length ticks ps := by unfold wrunE; rw [if_pos hc0]
  refine zQ (zG ?_)
  -- build
  refine WG.y rfl rfl qD (Yl.build (parts := []) tab_ok rfl rfl rfl rfl (fun _ => rfl) rfl rfl) ?_
  refine zR 1 rfl ?_
  refine zE 0 ?_
  refine zR 1 rfl (zN (zU (zT (wt ?_))))
  refine WE.retF tab_ok [_, _] rfl ⟨⟨_, _, _, rfl, rfl, rfl, qB, rfl⟩, rfl, trivial⟩ (RLe.refl _) ?_
  exact ⟨by rw [e]; rfl, rfl, qS⟩
 ·try dsimp only at hc0
  refine zK (zU (zQ (zQ (zG (zR 1 rfl ?_)))))
  refine WG.callV en110 rfl rfl qD (CallOp.mk' rfl rfl rfl rfl) (fun _ => rfl) (fun hg => Right19_V hwr) ?_
  refine zR 1 rfl (zN (zU ?_))
  refine W.cond rfl (fun hc1 => ?_) (fun hc1 => ?_)
  ·try simp only [zk] at hc1
   have e : wrunE 20 cap ticks w ps = 2 := by unfold wrunE; rw [if_neg (fun h => h hc0), if_neg (by simp [hc1])]
   refine zQ (zG ?_)
   -- build
   refine WG.y rfl rfl qD (Yl.build (parts := []) tab_ok rfl rfl rfl rfl (fun _ => rfl) rfl rfl) ?_
   refine zE 0 ?_
   refine zR 1 rfl (zN (zU (zT (wt ?_))))
   refine WE.retF tab_ok [_, _] rfl ⟨⟨_, _, _, rfl, rfl, rfl, qB, rfl⟩, rfl, trivial⟩ (RLe.refl _) ?_
   exact ⟨by rw [e]; rfl, rfl, qS⟩
  ·try simp only [zk] at hc1
   exact absurd (by unfold wrunE; rw [if_neg (fun h => h hc0), if_pos (by simpa using hc1)]) hbad

theorem Begin19_V {R : Ro} {wa : Option Addr} {wc : Nat} {w : List Int} (hwr : RS R 1 encI wa w) (hn : 0 < w.length) : FnV Tryz.prog 111 [.slice wa w.length wc] R (.agg #[.int .i64 ((0 : Nat) : Int), .int .i64 (nth w 0)]) := by
 refine Fn.toVS (fun w0 E => ?_)
 refine fE 7 Tryz.func111 ?_
 refine zQ (zG ?_)
 refine zA fun b2 => ?_
 refine zN (zU (zQ (zG (zR 1 rfl ?_))))
 refine WG.y rfl rfl qD (Yl.index tab_ok rfl rfl rfl rfl rfl rfl (fun _ => rfl) qA qH) ?_
 refine' WG.y rfl rfl qD (Yl.load1 tab_ok rfl rfl rfl (fun _ => rfl) ?r1 rfl ?h1) ?_
 case r1 => exact RS.rdD hwr (by show (Int.toNat 0) < _; omega)
 case h1 => rfl
 -- build
 refine WG.y rfl rfl qD (Yl.build (parts := [(0, .const (.int .i64 0)), (1, .tmp 5)]) tab_ok rfl rfl rfl rfl (fun _ => rfl) rfl rfl) ?_
 refine zE 0 ?_
 refine zN (zU (zT ?_))
 refine WE.retF tab_ok [_] rfl ⟨⟨_, _, _, rfl, rfl, rfl, qB, rfl⟩, trivial⟩ (RLe.refl _) ?_
 exact ⟨rfl, qS⟩

theorem Choose19_V {R : Ro} {pa ga da oa : Option Addr} {pc gc dl dc ol oc : Nat} {ps : List Pkt} {st : St} (hp : RS R 3 encP pa ps) (hgv : RS R 1 encI ga st.given) (hgl : st.given.length = ps.length) {wa : Option Addr} {wc : Nat} {w : List Int} (hwr : RS R 1 encI wa w) (hw : ∀ x ∈ w, 1 ≤ x ∧ x ≤ 20) (hn : 0 < w.length) {s : Nat × Int} (hsoon : Soon (firstW ps st) w.length (w.length + 1) s.1 s.2) (hgc : s.1 < w.length) (hgr : 0 ≤ s.2 ∧ s.2 ≤ 20) :
  FnV Tryz.prog 113 [.agg #[.int .i64 (s.1 : Int), .int .i64 s.2], .agg #[.int .i64 st.time, .slice ga st.given.length gc, .int .i64 st.now, .slice da dl dc, .slice oa ol oc], .slice wa w.length wc, .slice pa ps.length pc] R (.tuple #[.agg #[.int .i64 ((robinGo (firstW ps st) w (w.length + 1) s.1 s.2).2.1 : Int), .int .i64 (robinGo (firstW ps st) w (w.length + 1) s.1 s.2).2.2], .int .i64 (robinGo (firstW ps st) w (w.length + 1) s.1 s.2).1]) := by
 have hlw := hwr.len
 refine Fn.toVS (fun w0 E => ?_)
 refine fE 42 Tryz.func113 ?_
 refine zQ (zG ?_)
 refine zO fun b4 => ?_
 refine zO fun b5 => ?_
 refine zA fun b8 => ?_
 refine zR 1 rfl (zN (zU (zB ?_)))
 refine W.loopK (β := Nat × Nat × Int) (fun (k, c, l) => robinGo (firstW ps st) w k c l = robinGo (firstW ps st) w (w.length + 1) s.1 s.2 ∧ Soon (firstW ps st) w.length k c l ∧ c < w.length ∧ 0 ≤ l ∧ l ≤ 20) (fun (k, c, l) => []) [2, 3, 4, 5, 8] [_, _, _, _, _] [] _ rfl (fun (k, c, l) => [(2, .blk b4 [.int .i64 (c : Int), .int .i64 l])]) (fun (k, c, l) => k) ((w.length + 1, s.1, s.2)) (⟨rfl, hsoon, hgc, hgr.1, hgr.2⟩) ⟨rfl, rfl, rfl, rfl, rfl, rfl⟩ qS ?_
 intro zz hst
 obtain ⟨k, c, l⟩ := zz
 dsimp only [zipE, setAll, List.cons_append, List.nil_append, List.set_cons_zero, List.set_cons_succ] at hst ⊢
 obtain ⟨h1, h2, h3, h4, h5⟩ := hst
 refine zB (zQ (zQ (zG ?_)))
 refine yL (Rd.blk 1 rfl) ?_
 refine zR 2 rfl ?_
 refine yL (Rd.add (Rd.blk 2 rfl) _) ?_
 refine WG.callV en112 rfl rfl qD (CallOp.mk' rfl rfl rfl rfl) (fun _ => rfl) (fun hg => FirstR_V hp hgv hgl) ?_
 refine zR 1 rfl (zN (zU (zQ (zG (zR 3 rfl ?_)))))
 refine yP ?_
 refine yG (Rd.addC (Rd.blkC 2 rfl) _) ?_
 refine yP ?_
 refine yN ?_
 refine zN (zU ?_)
 refine W.cond rfl (fun hc0 => ?_) (fun hc0 => ?_)
 ·try simp only [zk] at hc0
  have hgo : robinGo (firstW ps st) w (w.length + 1) s.1 s.2 = (firstW ps st c, (c, l - 1)) := by
   rw [← h1]
   obtain ⟨k, rfl⟩ : ∃ m, k = m + 1 := ⟨k - 1, by obtain ⟨j, hj, _⟩ := h2; omega⟩
   rw [robinGo, if_pos hc0]
  refine zQ (zG (zR 1 rfl ?_))
  refine yL (Rd.add (Rd.blk 2 rfl) _) ?_
  refine yS ?_
  refine zR 1 rfl ?_
  refine zF 2 ?_
  refine zN (zU (zQ (zG ?_)))
  refine yL (Rd.blk 2 rfl) ?_
  refine zR 1 rfl ?_
  refine zE 0 ?_
  refine zR 1 rfl (zN (zU (zT (wt (wb (wt (wb ?_)))))))
  refine WE.retF tab_ok [_, _] rfl ⟨⟨_, _, _, rfl, rfl, rfl, qB, rfl⟩, rfl, trivial⟩ (RLe.refl _) ?_
  exact ⟨by rw [hgo]; rfl, qS⟩
 ·try simp only [zk] at hc0
  obtain ⟨k, rfl⟩ : ∃ m, k = m + 1 := ⟨k - 1, by obtain ⟨j, hj, _⟩ := h2; omega⟩
  have hno : ¬ (0 ≤ firstW ps st c ∧ 0 < l) := by rintro ⟨x1, x2⟩; have := hc0 x1; omega
  rw [robinGo, if_neg hno] at h1
  have h2 := h2.step (fun x hx => (hw x hx).1) hn h3 hno
  have hce : ((c : Int) + 1) % (w.length : Int) = (((c + 1) % w.length : Nat) : Int) := rfl
  have hcl : (c + 1) % w.length < w.length := Nat.mod_lt _ hn
  have hwc := hw _ (nth_mem hcl)
  refine zK (zU (zQ (zG (zR 1 rfl ?_))))
  refine yL (Rd.add (Rd.blk 2 rfl) _) ?_
  refine yA ?_
  refine zR 2 rfl ?_
  refine WG.y rfl rfl qD (Yl.rem rfl rfl rfl (fun _ => rfl) qN qN) ?_
  refine zR 1 rfl ?_
  refine zF 2 ?_
  rw [hce]
  refine zN (zU (zG (zR 2 rfl ?_)))
  refine yL (Rd.add (Rd.blk 2 rfl) _) ?_
  refine WG.y rfl rfl qD (Yl.indexN tab_ok rfl rfl rfl rfl rfl rfl (fun _ => rfl) qN qH) ?_
  refine yR ?_
  refine zR 1 rfl ?_
  refine zF 2 ?_
  refine zN (zL ?_)
  refine WE.again ((k, (c + 1) % w.length, nth w ((c + 1) % w.length))) (⟨h1, h2, hcl, by dsimp only; omega, by dsimp only; omega⟩) (by dsimp only; omega) ⟨rfl, rfl, rfl, rfl, rfl, rfl⟩ (RLe.refl _) qS



theorem RRobin_ok {R : Ro} {pa wa : Option Addr} {pc wc : Nat} {ps : List Pkt} {w : List Int} (hp : RS R 3 encP pa ps) (hwr : RS R 1 encI wa w) {cap : Int} {ticks : Nat} (w0 : World) (hok0 : wrunE 20 cap ticks w ps = 0) (E : List Ent) :
  K.Fn Tryz.prog 65 [.int .i64 cap, .slice wa w.length wc, .slice pa ps.length pc, .int .i64 ticks] w0 R E (fun v R' E' => ∃ (da oa : Option Addr) (dc oc : Nat) (rows : List Sl) (st : St), st = rrun ps (robinRc ps w) cap w.length ticks (0, nth w 0) ∧ v = .tuple #[.agg #[.slice da st.done.length dc, .slice oa rows.length oc], .int .i64 0] ∧ RS R' 1 encI da st.done ∧ rows.map Sl.xs = st.sent ∧ (∀ r ∈ rows, r.a.isSome = true) ∧ RInv ps w.length (ticks + 1) (ticks * cap) st ∧ (.sl 22 1 oa oc (rows.map encS) :: (rows.map (rowE 3) ++ E)).Sublist E') := by
 obtain ⟨hl0, hkw⟩ := wrunE_ok hok0
 have hw := okW_iff.1 hkw
 obtain ⟨hok, hvv, hck, c1, c2, c3, c4, c5, c6, hs, hf⟩ := lrunE_ok hl0
 have hlw := hwr.len
 have hla := hp.len
 have hpR := hp
 have hwR := hwr
 have hcap : 1 ≤ cap ∧ cap ≤ 1000000 := by omega
 have hsz : ∀ p ∈ ps, 1 ≤ p.size ∧ p.size ≤ 1000000 := fun p hp => by have := hok.at hp; omega
 have hs1 : ∀ p ∈ ps, 1 ≤ p.size := fun p hp => (hsz p hp).1
 have hpl := hok.len
 have hn0 : 0 < w.length := by omega
 have hBt : ∀ k : Nat, k ≤ ticks → (k : Int) * cap ≤ 2000000000 := fun k hk => by have := Int.mul_le_mul (show (k : Int) ≤ 2000 by omega) hcap.2 (by omega) (by omega); omega
 have hwait : Waiting ps (robinRc ps w) := robin_waiting hn0
 have hsoonw : ∀ (st : St) (c : Nat) (l : Int), c < w.length → 0 ≤ firstW ps st (-1) → Soon (firstW ps st) w.length (w.length + 1) c l := fun st c l hc h => firstW_soon hn0 hc hf h
 have hw0 := hw _ (nth_mem hn0)
 have hpg0 : (0 : Nat) < w.length ∧ 0 ≤ nth w 0 ∧ nth w 0 ≤ 20 := by omega
 refine fE 81 Tryz.func65 ?_
 refine zQ (zG ?_)
 refine zA fun b8 => ?_
 refine zR 1 rfl (zN (zU (zQ (zQ (zG (zR 5 rfl ?_))))))
 refine WG.callV en105 rfl rfl (by decide) (CallOp.mk' rfl rfl rfl rfl) (fun _ => rfl) (fun hg => (show (if validate ps ≠ 0 then validate ps else checkE cap w.length ticks ps) = 0 by simp [hvv, hck]) ▸ BadR_V hp) ?_
 refine zR 1 rfl (zN (zU (zQ (zG (zR 2 rfl (zN (zU ?_)))))))
 refine W.condN rfl (fun hc0 => ?_) (fun hc0 => ?_)
 ·try dsimp only at hc0
  exact absurd rfl hc0
 ·try dsimp only at hc0
  refine zK (zU (zQ (zQ (zG (zR 1 rfl ?_)))))
  refine WG.callV en110 rfl rfl qD (CallOp.mk' rfl rfl rfl rfl) (fun _ => rfl) (fun hg => hkw ▸ Right19_V hwr) ?_
  refine zR 1 rfl (zN (zU ?_))
  refine W.cond rfl (fun hc1 => ?_) (fun hc1 => ?_)
  ·try simp only [zk] at hc1
   simp at hc1
  ·try simp only [zk] at hc1
   refine zK (zU (zQ (zG (zR 3 rfl ?_))))
   refine WL.call en106 rfl rfl qD (CallOp.mkT rfl rfl rfl rfl) (NewR_C w0 qO qO _) ?_
   rintro _ R1 E1 hR1 ⟨ga, da, oa, gc, dc, oc, rows, rfl, hgv, hdn, hoa, hrx, hra, hsub⟩
   refine WL.subE hsub ?_
   refine WL.perm (List.perm_middle (l₁ := _ :: rows.map (rowE 3))) ?_
   refine zA fun b11 => ?_
   refine zE 0 ?_
   refine zN (zU (zQ (zG (zR 1 rfl ?_))))
   refine WG.callV en111 rfl rfl qD (CallOp.mk' rfl rfl rfl rfl) (fun _ => rfl) (fun hg => Begin19_V (hwr.mono hR1) hn0) ?_
   refine zA fun b12 => ?_
   refine zE 0 ?_
   refine zN (zU (zQ (zB ?_)))
   refine W.loop (β := Ro × Option Addr × Option Addr × Nat × Nat × St × (Nat × Int) × List Sl) (fun (Rk, ga, da, gc, dc, st, g, rows) => RLe R Rk ∧ RS Rk 1 encI ga st.given ∧ RS Rk 1 encI da st.done ∧ rows.map Sl.xs = st.sent ∧ (∀ r ∈ rows, r.a.isSome = true) ∧ RInv ps w.length (st.time + 1) ((st.time : Int) * cap) st ∧ st.time ≤ ticks ∧ (rticks ps (robinRc ps w) cap (ticks - st.time) st g).1 = rrun ps (robinRc ps w) cap w.length ticks (0, nth w 0) ∧ g.1 < w.length ∧ 0 ≤ g.2 ∧ g.2 ≤ 20) (fun (Rk, ga, da, gc, dc, st, g, rows) => [(0, true, .int .i64 cap), (1, true, .slice wa w.length wc), (2, true, .slice pa ps.length pc), (3, true, .int .i64 ticks), (8, true, .pointer (some ⟨b8, 0, none⟩)), (11, true, .pointer (some ⟨b11, 0, none⟩)), (12, true, .pointer (some ⟨b12, 0, none⟩))]) (fun (Rk, _, _, _, _, _, _, _) => Rk) (fun (Rk, ga, da, gc, dc, st, g, rows) => .blk b12 [.int .i64 (g.1 : Int), .int .i64 g.2] :: .blk b11 [.int .i64 st.time, .slice ga st.given.length gc, .int .i64 st.now, .slice da st.done.length dc, .slice oa rows.length oc] :: .blk b8 [.slice none 0 0, .slice none 0 0] :: .sl 22 1 oa oc (rows.map encS) :: (rows.map (rowE 3) ++ E)) (fun (Rk, ga, da, gc, dc, st, g, rows) => ticks - st.time) ((R1, ga, da, gc, dc, rstart ps w.length, (0, nth w 0), rows)) (⟨hR1, hgv, hdn, hrx, hra, (show RInv ps w.length 1 (((0 : Nat) : Int) * cap) (rstart ps w.length) by simpa using RInv.start (classes := w.length) hs1), Nat.zero_le _, rfl, hpg0⟩) ⟨rfl, rfl, rfl, rfl, rfl, rfl, rfl, rfl⟩ (RLe.refl _) (by simp only [rstart, List.length_replicate]; exact qS) ?_
   intro st hst
   obtain ⟨Rk, ga, da, gc, dc, st0, g0, rows⟩ := st
   obtain ⟨hRk, hgv, hdn, hrx, hra, hinv, htk, hfin, hpg⟩ := hst
   dsimp only at hRk hgv hdn hrx hra hinv htk hfin hpg ⊢
   have hp := hp.mono hRk
   have hlr : rows.length = w.length := by rw [← hinv.slen, ← hrx, List.length_map]
   refine zQ (zQ (zG (zR 1 rfl ?_)))
   refine yL (Rd.add (Rd.blk 1 rfl) _) ?_
   refine zR 2 rfl (zN (zU ?_))
   refine W.condD rfl (fun hc2 => ?_) (fun hc2 => ?_)
   ·try dsimp only at hc2
    refine zK (zU (zB (zQ (zG ?_))))
    refine yL (Rd.blk 1 rfl) ?_
    refine WL.perm perm_out3 ?_
    refine WL.call en107 rfl rfl (by decide) (CallOp.mkT rfl rfl rfl rfl) (BeginR_C w0 hoa (fun r hr => ⟨hra r hr, by have := (hinv.rows r.xs (by rw [← hrx]; exact List.mem_map_of_mem hr)).1; omega⟩) (by omega) _) ?_
    rintro _ _ E2 - ⟨rows2, rfl, rfl, hrx2, hra2, hsub⟩
    refine WL.subE hsub ?_
    refine WL.perm perm_out3.symm ?_
    have hl2 : rows2.length = rows.length := by have := congrArg List.length hrx2; simpa using this
    refine zE 1 ?_
    refine zN (zU (zQ (zQ (zG (zR 2 rfl (zN (zU (zB ?_))))))))
    refine W.loop (β := Ro × Option Addr × Option Addr × Nat × Nat × St × (Nat × Int) × List Sl × Int) (fun (Rk, ga, da, gc, dc, st, g, rows, left) => RLe R Rk ∧ RS Rk 1 encI ga st.given ∧ RS Rk 1 encI da st.done ∧ rows.map Sl.xs = st.sent ∧ (∀ r ∈ rows, r.a.isSome = true) ∧ (∃ k : Nat, rinner ps (robinRc ps w) k left st g = rinner ps (robinRc ps w) cap.toNat cap (rbegin st0) g0 ∧ left ≤ k) ∧ 0 ≤ left ∧ left ≤ cap ∧ st.time = st0.time ∧ (∃ B, RInv ps w.length (st0.time + 2) B st ∧ B + left ≤ ((st0.time : Int) + 1) * cap) ∧ g.1 < w.length ∧ 0 ≤ g.2 ∧ g.2 ≤ 20) (fun (Rk, ga, da, gc, dc, st, g, rows, left) => [(0, true, .int .i64 cap), (1, true, .slice wa w.length wc), (2, true, .slice pa ps.length pc), (3, true, .int .i64 ticks), (8, true, .pointer (some ⟨b8, 0, none⟩)), (11, true, .pointer (some ⟨b11, 0, none⟩)), (12, true, .pointer (some ⟨b12, 0, none⟩)), (13, true, .int .i64 left)]) (fun (Rk, _, _, _, _, _, _, _, _) => Rk) (fun (Rk, ga, da, gc, dc, st, g, rows, left) => .blk b12 [.int .i64 (g.1 : Int), .int .i64 g.2] :: .blk b11 [.int .i64 st.time, .slice ga st.given.length gc, .int .i64 st.now, .slice da st.done.length dc, .slice oa rows.length oc] :: .blk b8 [.slice none 0 0, .slice none 0 0] :: .sl 22 1 oa oc (rows.map encS) :: (rows.map (rowE 3) ++ E)) (fun (Rk, ga, da, gc, dc, st, g, rows, left) => left.toNat) ((Rk, ga, da, gc, dc, rbegin st0, g0, rows2, cap)) (⟨hRk, hgv, hdn, by rw [hrx2, hrx]; rfl, hra2, ⟨cap.toNat, rfl, by (try dsimp only); omega⟩, by (try dsimp only); omega, by (try dsimp only); omega, rfl, ⟨_, hinv.begin (by omega), by (try dsimp only); rw [Int.add_mul]; omega⟩, hpg⟩) ⟨rfl, rfl, rfl, rfl, rfl, rfl, rfl, rfl, rfl⟩ (RLe.refl _) (by rw [← hl2]; exact qS) ?_
    intro st hst
    obtain ⟨Rk, ga, da, gc, dc, st1, g1, rows, left⟩ := st
    obtain ⟨hRk, hgv, hdn, hrx, hra, ⟨k, hin, hkk⟩, hl0, hlc, htime, ⟨B, hinv, hB⟩, hpg⟩ := hst
    dsimp only at hRk hgv hdn hrx hra hin hkk hl0 hlc htime hinv hB hpg ⊢
    have hp := hpR.mono hRk
    have hwr := hwR.mono hRk
    have hB1 := hBt (st0.time + 1) (by omega)
    have hB2 : ((st0.time + 1 : Nat) : Int) = (st0.time : Int) + 1 := by omega
    rw [hB2] at hB1
    have hrc1 : (rpick (robinRc ps w) st1 g1).1 = -1 ∨ (0 ≤ (rpick (robinRc ps w) st1 g1).1) := by
     unfold rpick
     split
     ·rcases hwait st1 g1 with h | h
      ·exact .inl h
      ·exact .inr h.1
     ·rcases hinv.now with h | h
      ·exact .inl h
      ·exact .inr h.1
    refine zQ (zQ (zG (zR 2 rfl (zN (zU ?_)))))
    refine W.condD rfl (fun hc3 => ?_) (fun hc3 => ?_)
    ·try dsimp only at hc3
     refine zK (zU (zB ?_))
     refine W.seqCut (β := St × (Nat × Int)) (fun (st2, g2) => st2 = { st1 with now := (rpick (robinRc ps w) st1 g1).1 } ∧ g2 = (rpick (robinRc ps w) st1 g1).2) (fun (st2, g2) => [(0, true, .int .i64 cap), (1, true, .slice wa w.length wc), (2, true, .slice pa ps.length pc), (3, true, .int .i64 ticks), (8, true, .pointer (some ⟨b8, 0, none⟩)), (11, true, .pointer (some ⟨b11, 0, none⟩)), (12, true, .pointer (some ⟨b12, 0, none⟩)), (13, true, .int .i64 left)]) (fun _ => Rk) (fun (st2, g2) => .blk b12 [.int .i64 (g2.1 : Int), .int .i64 g2.2] :: .blk b11 [.int .i64 st2.time, .slice ga st2.given.length gc, .int .i64 st2.now, .slice da st2.done.length dc, .slice oa rows.length oc] :: .blk b8 [.slice none 0 0, .slice none 0 0] :: .sl 22 1 oa oc (rows.map encS) :: (rows.map (rowE 3) ++ E)) ?_ ?_
     ·
      intro st hst
      obtain ⟨st2, g2⟩ := st
      obtain ⟨hs2, hg2⟩ := hst
      dsimp only at hs2 hg2 ⊢
      have hs2n : st2.now = (rpick (robinRc ps w) st1 g1).1 := by rw [hs2]
      have hinv2 : RInv ps w.length (st0.time + 2) B st2 := by rw [hs2]; exact hinv.pick hs1 hwait
      have hpg2 : g2.1 < w.length ∧ 0 ≤ g2.2 ∧ g2.2 ≤ 20 := by rw [hg2]; exact robinRc_ok hw hn0 hsoonw hpg
      have hgv : RS Rk 1 encI ga st2.given := by rw [hs2]; exact hgv
      have hdn : RS Rk 1 encI da st2.done := by rw [hs2]; exact hdn
      have hrx : rows.map Sl.xs = st2.sent := by rw [hs2]; exact hrx
      refine zQ (zQ (zG (zR 1 rfl ?_)))
      refine yL (Rd.add (Rd.blk 1 rfl) _) ?_
      refine zR 1 rfl (zN (zU ?_))
      refine W.condE rfl (fun hc4 => ?_) (fun hc4 => ?_)
      ·try dsimp only at hc4
       have hend : rinner ps (robinRc ps w) cap.toNat cap (rbegin st0) g0 = (st2, g2) := by rw [← hin, rinner_none hkk (by omega) (by rw [← hs2n]; exact hc4), hs2, hg2]
       have hinv := hinv2
       have htime : st2.time = st0.time := by rw [hs2]; exact htime
       have hpg := hpg2
       refine zX ?_
       refine wx ?_
       refine WE.blk_other rfl ?_
       refine wx (zY (zU (zG (zR 1 rfl ?_))))
       refine yL (Rd.add (Rd.blk 1 rfl) _) ?_
       refine yA ?_
       refine zR 1 rfl ?_
       refine zF 1 ?_
       refine zN (zL ?_)
       refine WE.again (Rk, ga, da, gc, dc, { st2 with time := st2.time + 1 }, g2, rows) ⟨hRk, hgv, hdn, hrx, hra, ?_, by (try dsimp only); omega, ?_, hpg⟩ (by (try dsimp only); omega) ⟨rfl, rfl, rfl, rfl, rfl, rfl, rfl, rfl⟩ (RLe.refl _) qS
       ·have := hinv.tick.mono (B' := ((st0.time + 1 : Nat) : Int) * cap) (by rw [hB2]; omega)
        dsimp only at this ⊢
        rw [htime] at this ⊢; exact this
       ·dsimp only
        rw [← hfin, show ticks - st0.time = (ticks - (st0.time + 1)) + 1 by omega, rticks, htime]
        have hrt : rtick ps (robinRc ps w) cap st0 g0 = ({ st2 with time := st0.time + 1 }, g2) := by unfold rtick; rw [hend]; dsimp only; rw [htime]
        rw [hrt]
      ·try dsimp only at hc4
       refine zK (zU (zQ (zG (zR 1 rfl (zN (zU (zQ (zG ?_))))))))
       refine yL (Rd.blk 1 rfl) ?_
       refine zR 2 rfl ?_
       refine WL.perm perm_out3 ?_
       refine WL.call en109 rfl rfl qD (CallOp.mkT rfl rfl rfl rfl) (SendR_C (classes := w.length) (B := B) (len := st0.time + 2) w0 hoa hp hgv hdn hinv2 qO qO hrx hra hc4 qO hsz hf qO _) ?_
       rintro _ R3 E3 hR3 ⟨ga2, da2, gc2, dc2, rows3, rfl, hgv3, hdn3, hrx3, hra3, hsub⟩
       refine WL.subE hsub ?_
       refine WL.perm perm_out3.symm ?_
       obtain ⟨hs4, hs5, hs6⟩ := hinv2.send hf (by omega) hc4 (most := left) (by omega)
       have hl3 : rows3.length = rows.length := by
        have h1 := congrArg List.length hrx3
        have h2 := hs4.slen
        have h3 := hinv2.slen
        have h4 := congrArg List.length hrx
        simp only [List.length_map] at h1 h4
        omega
       refine zR 3 rfl ?_
       refine zE 1 ?_
       refine zR 1 rfl (zN (zU (zG (zR 2 rfl ?_))))
       refine yS ?_
       refine zR 1 rfl (zN (zL ?_))
       have hin2 : rinner ps (robinRc ps w) (k - 1) (left - rsendN ps left st2) (rsend ps left st2) g2 = rinner ps (robinRc ps w) cap.toNat cap (rbegin st0) g0 := by rw [← hin, rinner_some hkk (by omega) (by rw [← hs2n]; exact hc4), hs2, hg2]
       refine WE.again (R3, ga2, da2, gc2, dc2, rsend ps left st2, g2, rows3, left - rsendN ps left st2) ⟨hRk.trans hR3, hgv3, hdn3, hrx3, hra3, ⟨k - 1, hin2, by (try dsimp only); omega⟩, by (try dsimp only); omega, by (try dsimp only); omega, by dsimp only; rw [rsend_time, hs2]; exact htime, ⟨_, hs4, by (try dsimp only); omega⟩, hpg2⟩ (by (try dsimp only); omega) ⟨rfl, rfl, rfl, rfl, rfl, rfl, rfl, rfl, rfl⟩ (RLe.refl _) (by rw [hl3]; exact qS)
     ·
      refine zQ (zG (zR 1 rfl ?_))
      refine yL (Rd.add (Rd.blk 1 rfl) _) ?_
      refine zR 2 rfl ?_
      refine yG (Rd.blkC 1 rfl) ?_
      refine yP ?_
      refine WG.callV en112 rfl rfl qD (CallOp.mk' rfl rfl rfl rfl) qE (fun hg => FirstR_V hp hgv hinv.glen (cls := -1)) ?_
      refine yP ?_
      refine yN ?_
      refine zN (zU ?_)
      refine W.cond rfl (fun hc5 => ?_) (fun hc5 => ?_)
      ·try simp only [zk] at hc5
       have hpk : rpick (robinRc ps w) st1 g1 = robinGo (firstW ps st1) w (w.length + 1) g1.1 g1.2 := by unfold rpick robinRc; rw [if_pos hc5.1, if_pos hc5.2]
       refine zG ?_
       refine yL (Rd.blk 0 rfl) ?_
       refine yL (Rd.blk 1 rfl) ?_
       refine zR 2 rfl ?_
       refine WG.callV en113 rfl rfl qD (CallOp.mk' rfl rfl rfl rfl) (fun _ => rfl) (fun hg => Choose19_V (s := g1) hp hgv hinv.glen hwr hw hn0 (hsoonw st1 g1.1 g1.2 hpg.1 hc5.2) hpg.1 hpg.2) ?_
       refine zR 3 rfl ?_
       refine zE 0 ?_
       refine zR 1 rfl ?_
       refine zF 1 ?_
       refine zN ?_
       refine WE.cut ({ st1 with now := (robinGo (firstW ps st1) w (w.length + 1) g1.1 g1.2).1 }, (robinGo (firstW ps st1) w (w.length + 1) g1.1 g1.2).2) (by rw [hpk]; exact ⟨rfl, rfl⟩) ⟨rfl, rfl, rfl, rfl, rfl, rfl, rfl, rfl, rfl⟩ (RLe.refl _) qS
      ·try simp only [zk] at hc5
       have hpk : rpick (robinRc ps w) st1 g1 = (st1.now, g1) := by
        unfold rpick robinRc
        by_cases h : st1.now = -1
        ·rw [if_pos h, if_neg (by have := hc5 h; omega), h]
        ·rw [if_neg h]
       refine zK ?_
       refine WE.cut (st1, g1) (by rw [hpk]; exact ⟨rfl, rfl⟩) ⟨rfl, rfl, rfl, rfl, rfl, rfl, rfl, rfl, rfl⟩ (RLe.refl _) qS
    ·try dsimp only at hc3
     have hend : rinner ps (robinRc ps w) cap.toNat cap (rbegin st0) g0 = (st1, g1) := by rw [← hin, rinner_stop (by omega)]
     refine zX ?_
     refine wx (wx (zY (zU (zG (zR 1 rfl ?_)))))
     refine yL (Rd.add (Rd.blk 1 rfl) _) ?_
     refine yA ?_
     refine zR 1 rfl ?_
     refine zF 1 ?_
     refine zN (zL ?_)
     refine WE.again (Rk, ga, da, gc, dc, { st1 with time := st1.time + 1 }, g1, rows) ⟨hRk, hgv, hdn, hrx, hra, ?_, by (try dsimp only); omega, ?_, hpg⟩ (by (try dsimp only); omega) ⟨rfl, rfl, rfl, rfl, rfl, rfl, rfl, rfl⟩ (RLe.refl _) qS
     ·have := hinv.tick.mono (B' := ((st0.time + 1 : Nat) : Int) * cap) (by rw [hB2]; omega)
      dsimp only at this ⊢
      rw [htime] at this ⊢; exact this
     ·dsimp only
      rw [← hfin, show ticks - st0.time = (ticks - (st0.time + 1)) + 1 by omega, rticks, htime]
      have hrt : rtick ps (robinRc ps w) cap st0 g0 = ({ st1 with time := st0.time + 1 }, g1) := by unfold rtick; rw [hend]; dsimp only; rw [htime]
      rw [hrt]
   ·try dsimp only at hc2
    have hst : st0.time = ticks := by omega
    have hfin2 : st0 = rrun ps (robinRc ps w) cap w.length ticks (0, nth w 0) := by rw [← hfin, hst, Nat.sub_self]; rfl
    rw [hst] at hinv
    refine zX ?_
    refine wx (wx (zY (zU (zQ (zG (zR 1 rfl ?_))))))
    refine yL (Rd.add (Rd.blk 1 rfl) _) ?_
    refine zE 2 ?_
    refine zR 1 rfl (zN (zU (zT ?_)))
    refine WE.retF tab_ok [_, _] rfl ⟨⟨_, _, _, rfl, rfl, rfl, qB, rfl⟩, rfl, trivial⟩ (hRk) ?_
    exact ⟨da, oa, dc, oc, rows, st0, hfin2, rfl, hdn, hrx, hra, hinv, qS⟩


theorem RRobin_any {R : Ro} {pa wa : Option Addr} {pc wc l : Nat} {ps : List Pkt} {w : List Int} (hp : RS R 3 encP pa ps) (hl : ps.length = l) (hwr : RS R 1 encI wa w) {wl : Nat} (hwl : w.length = wl) {cap ticks : Int} (w0 : World) (E : List Ent) :
  K.Fn Tryz.prog 65 [.int .i64 cap, .slice wa wl wc, .slice pa l pc, .int .i64 ticks] w0 R E (fun v R' E' => ∃ (da oa : Option Addr) (dc oc : Nat) (rows : List Sl), v = .tuple #[.agg #[.slice da (outOf (wrunE 20 cap ticks w ps) (mrun ps (robinCh ps w) cap w.length ticks.toNat ((0, nth w 0) : Nat × Int))).1.length dc, .slice oa rows.length oc], .int .i64 (wrunE 20 cap ticks w ps)] ∧ RS R' 1 encI da (outOf (wrunE 20 cap ticks w ps) (mrun ps (robinCh ps w) cap w.length ticks.toNat ((0, nth w 0) : Nat × Int))).1 ∧ RS R' 1 encS oa rows ∧ (∀ r ∈ rows, RS R' 1 encI r.a r.xs) ∧ rows.map Sl.xs = (outOf (wrunE 20 cap ticks w ps) (mrun ps (robinCh ps w) cap w.length ticks.toNat ((0, nth w 0) : Nat × Int))).2 ∧ E.Sublist E') := by
 subst hl
 subst hwl
 by_cases h : wrunE 20 cap ticks w ps = 0
 ·obtain ⟨hl0, hkw⟩ := wrunE_ok h
  have hw := okW_iff.1 hkw
  obtain ⟨hok, hvv, hck, c1, c2, c3, c4, c5, c6, hs, hf⟩ := lrunE_ok hl0
  obtain ⟨nt, rfl⟩ := Int.eq_ofNat_of_zero_le c5
  simp only [Int.toNat_natCast]
  have hrf := sim_run (robin_fair hw (by omega) hf hok.sorted) (fun p hp => (hs p hp).1) (classes := w.length) (fun p hp => by have := hf p hp; omega) (robin_alike hw (by omega) hf hok.sorted) (cap := cap) (by omega) (sg := ((0, nth w 0) : Nat × Int)) (g := ((0, nth w 0) : Nat × Int)) (robin_start hw (by omega) _) rfl nt
  intro x hm
  refine (RRobin_ok (pc := pc) hp hwr w0 h E x hm).mono ?_
  rintro e w' ⟨v, R', E', rfl, hR, hm', da, oa, dc, oc, rows, st, rfl, rfl, hd, h1, h2, h3, hsub⟩
  have hm1 := hm'.sub (RLe.refl _) hsub
  obtain ⟨R2, k1, k2, k3⟩ := hm1.freeze (i := 0) (enc := encS) (xs := rows) rfl
  obtain ⟨R3, j1, j2, j3⟩ := Mem.freezeRows (rows := rows) (G := E) k3
  unfold outOf
  rw [if_neg (by omega), h]
  refine ⟨_, R3, E, rfl, hR.trans (k1.trans j1), j3, da, oa, dc, oc, rows, ?_, ?_, k2.mono j1, j2, ?_, List.Sublist.refl _⟩
  ·dsimp only; rw [← hrf.1]
  ·dsimp only; rw [← hrf.1]; exact hd.mono (k1.trans j1)
  ·dsimp only; rw [← hrf.2]; exact h1
 ·refine (RRobin_err hp hwr w0 h E).mono ?_
  rintro v R' E' hR ⟨rfl, rfl, hsub⟩
  unfold outOf
  rw [if_pos h]
  exact ⟨none, none, 0, 0, [], rfl, rs_nil, rs_nil, by simp, rfl, hsub⟩



theorem Weighed20_V {R : Ro} {a : Option Addr} {c : Nat} {w : List Int} (ha : RS R 1 encI a w) : FnV Tryz.prog 234 [.slice a w.length c] R (.bool (okW 6000 w)) := by
 have hla := ha.len
 refine Fn.toV (fun w0 E => ?_)
 refine fE 18 Tryz.func234 ?_
 refine zQ (zG (zR 1 rfl (zN (zU (zQ (zQ (zG (zR 3 rfl (zN (zU (zB ?_)))))))))))
 refine W.loopK (β := Nat) (fun k => k ≤ w.length ∧ ∀ j, j < k → 1 ≤ nth w j ∧ nth w j ≤ 6000) (fun k => [(7, true, .int .i64 (k : Int))]) [5, 6] [_, _] [] _ rfl (fun k => []) (fun k => w.length - k) (0) (⟨Nat.zero_le _, fun j hj => by omega⟩) ⟨rfl, rfl, rfl, rfl⟩ qS ?_
 intro k hst
 dsimp only [zipE, setAll, List.cons_append, List.nil_append, List.set_cons_zero, List.set_cons_succ] at hst ⊢
 
 refine zQ (zG (zR 1 rfl (zN (zU (zQ ?_)))))
 refine W.condD rfl (fun hc0 => ?_) (fun hc0 => ?_)
 ·try dsimp only at hc0
  refine zK (zU (zQ (zB (zQ (zG ?_)))))
  refine WG.y rfl rfl qD (Yl.indexN tab_ok rfl rfl rfl rfl rfl rfl (fun _ => rfl) qN qH) ?_
  refine yR ?_
  refine zR 1 rfl (zN (zU (zQ (zG (zR 3 rfl ?_)))))
  refine yP ?_
  refine yP ?_
  refine yO ?_
  refine zN (zU ?_)
  refine W.cond rfl (fun hc1 => ?_) (fun hc1 => ?_)
  ·try simp only [zk] at hc1
   have hkl : k < w.length := by omega
   refine zQ (zG (zR 1 rfl (zN (zU (zT (wb (wt (wt (wb (wt ?_))))))))))
   refine sE (E := E) ?_
   refine WE.retF tab_ok [_] rfl ⟨rfl, trivial⟩ (RLe.refl _) ?_
   refine ⟨congrArg Value.bool ?_, rfl⟩
   symm
   rw [← Bool.not_eq_true]
   intro h
   have := okW_iff.1 h _ (nth_mem hkl)
   omega
  ·try simp only [zk] at hc1
   refine zK (zL (zU (zG ?_)))
   refine yA ?_
   refine zR 1 rfl (zN ?_)
   refine WE.again (k + 1) (⟨by omega, fun j hj => by
    by_cases e : j = k
    ·subst e; omega
    ·exact hst.2 j (by omega)⟩) (by (try dsimp only); omega) ⟨rfl, rfl, rfl, rfl⟩ (RLe.refl _) qS
 ·try dsimp only at hc0
  refine zX ?_
  refine wx (wx (zY (zU (zQ (zG (zR 1 rfl (zN (zU (zT ?_)))))))))
  refine sE (E := E) ?_
  refine WE.retF tab_ok [_] rfl ⟨rfl, trivial⟩ (RLe.refl _) ?_
  refine ⟨congrArg Value.bool ?_, rfl⟩
  symm
  exact okW_iff.2 (all_of_nth (fun j hj => hst.2 j qO))

theorem Right20_V {R : Ro} {a : Option Addr} {c : Nat} {w : List Int} (ha : RS R 1 encI a w) : FnV Tryz.prog 114 [.slice a w.length c] R (.bool (okW 6000 w)) := by
 have hla := ha.len
 refine Fn.toV (fun w0 E => ?_)
 refine fE 22 Tryz.func114 ?_
 refine zQ (zG (zR 1 rfl (zN (zU (zQ (zQ (zG (zR 1 rfl (zN (zU (zB ?_)))))))))))
 refine W.loopK (β := Nat) (fun k => k ≤ w.length ∧ ∀ j, j < k → 1 ≤ nth w j ∧ nth w j ≤ 6000) (fun k => [(3, true, .int .i64 (k : Int))]) [0] [_] [] _ rfl (fun k => []) (fun k => w.length - k) (0) (⟨Nat.zero_le _, fun j hj => by omega⟩) ⟨rfl, rfl, rfl⟩ qS ?_
 intro k hst
 dsimp only [zipE, setAll, List.cons_append, List.nil_append, List.set_cons_zero, List.set_cons_succ] at hst ⊢
 
 refine zQ (zQ (zG (zR 4 rfl (zN (zU ?_)))))
 refine W.condD rfl (fun hc0 => ?_) (fun hc0 => ?_)
 ·try dsimp only at hc0
  refine zK (zU (zQ (zB (zQ (zG (zR 2 rfl ?_))))))
  refine WG.y rfl rfl qD (Yl.indexN tab_ok rfl rfl rfl rfl rfl rfl (fun _ => rfl) qN qH) ?_
  refine yR ?_
  refine zR 2 rfl ?_
  refine yP ?_
  refine yP ?_
  refine WG.y rfl rfl (by decide) (Yl.indexN tab_ok rfl rfl rfl rfl rfl rfl qE (by intro hg; (try simp only [zk] at hg); (try dsimp only) <;> omega) (by intro hg; (try simp only [zk] at hg); first | exact qI)) ?_
  refine' WG.y rfl rfl qD (Yl.loadG tab_ok rfl rfl rfl qE ?r2 rfl ?h2 ?g2) ?_
  case r2 => ((apply RS.rdC; assumption))
  case h2 => rfl
  case g2 => (intro hg; (try simp only [zk] at hg); (try dsimp only); omega)
  refine yP ?_
  refine yO ?_
  refine zN (zU ?_)
  refine W.cond rfl (fun hc1 => ?_) (fun hc1 => ?_)
  ·try simp only [zk] at hc1
   have hkl : k < w.length := by omega
   refine zQ (zG (zR 1 rfl (zN (zU (zT (wb (wt (wt (wb (wt ?_))))))))))
   refine sE (E := E) ?_
   refine WE.retF tab_ok [_] rfl ⟨rfl, trivial⟩ (RLe.refl _) ?_
   refine ⟨congrArg Value.bool ?_, rfl⟩
   symm
   rw [← Bool.not_eq_true]
   intro h
   have := okW_iff.1 h _ (nth_mem hkl)
   omega
  ·try simp only [zk] at hc1
   refine zK (zL (zU (zG (zR 1 rfl ?_))))
   refine yA ?_
   refine zR 1 rfl (zN ?_)
   refine WE.again (k + 1) (⟨by omega, fun j hj => by
    by_cases e : j = k
    ·subst e; omega
    ·exact hst.2 j (by omega)⟩) (by (try dsimp only); omega) ⟨rfl, rfl, rfl⟩ (RLe.refl _) qS
 ·try dsimp only at hc0
  refine zX ?_
  refine wx (wx (zY (zU (zQ (zG (zR 1 rfl (zN (zU (zT ?_)))))))))
  refine sE (E := E) ?_
  refine WE.retF tab_ok [_] rfl ⟨rfl, trivial⟩ (RLe.refl _) ?_
  refine ⟨congrArg Value.bool ?_, rfl⟩
  symm
  exact okW_iff.2 (all_of_nth (fun j hj => hst.2 j qO))

theorem Size_C {R : Ro} {sb : Nat} {pa : Option Addr} {pc bg : Nat} {ps : List Pkt} {ms : MS} (w0 : World) (hp : RS R 3 encP pa ps) (i : Int) (h0 : 0 ≤ i) (h1 : i < ps.length) (F : List Ent) :
  K.Fn Tryz.prog 236 [.pointer (some ⟨sb, 0, none⟩), .int .i64 i] w0 R (stE sb pa ps.length pc bg ms :: F) (fun v R' E' => v = .int .i64 (szOf ps i) ∧ R = R' ∧ E' = stE sb pa ps.length pc bg ms :: F) := by
 have hla := hp.len
 refine fE 13 Tryz.func236 ?_
 refine zQ (zG (zR 1 rfl (zN (zU (zQ (zG (zR 3 rfl ?_)))))))
 refine yL (Rd.add (Rd.blk 0 rfl) _) ?_
 refine zR 1 rfl ?_
 refine WG.y rfl rfl qD (Yl.index tab_ok rfl rfl rfl rfl rfl rfl (fun _ => rfl) qA qH) ?_
 refine zR 1 rfl ?_
 refine' WG.y rfl rfl qD (Yl.load1 tab_ok rfl rfl rfl (fun _ => rfl) ?r2 rfl ?h2) ?_
 case r2 => apply Rd.add; ((apply RS.rdD; assumption; ((try dsimp only) <;> omega)))
 case h2 => rfl
 refine zR 1 rfl (zN (zU (zT ?_)))
 refine WE.retF tab_ok [_] rfl ⟨rfl, trivial⟩ (RLe.refl _) ?_
 exact ⟨rfl, rfl, rfl⟩

theorem Size_E {R : Ro} {sb : Nat} {pa : Option Addr} {pc bg : Nat} {ps : List Pkt} {ms : MS} (w0 : World) (hp : RS R 3 encP pa ps) (i : Int) (h0 : 0 ≤ i) (h1 : i < ps.length) (F : List Ent) :
  FnE Tryz.prog 236 [.pointer (some ⟨sb, 0, none⟩), .int .i64 i] w0 R (stE sb pa ps.length pc bg ms :: F) (.int .i64 (szOf ps i)) := by
 refine Fn.toE ?_
 intro w hm
 refine (Size_C w0 hp i h0 h1 F w hm).mono ?_
 rintro e w' ⟨v', R', E', rfl, hR, hm', rfl, rfl, rfl⟩
 exact ⟨_, _, _, rfl, hR, hm', rfl, rfl⟩

theorem ChooseD_C {bv bd : Nat} {R : Ro} {sb : Nat} {pa : Option Addr} {pc bg : Nat} {ps : List Pkt} {ms : MS} (w0 : World) (hp : RS R 3 encP pa ps) (hb : ms.begun.length = ps.length) (hsort : ps.Pairwise fun a b => a.time ≤ b.time) {wa : Option Addr} {wc : Nat} {w : List Int} (hwr : RS R 1 encI wa w) (hw : ∀ x ∈ w, 1 ≤ x ∧ x ≤ 6000) (hn : 0 < w.length) (hsz : ∀ p ∈ ps, 1 ≤ p.size ∧ p.size ≤ 1500) (hfl : ∀ p ∈ ps, 0 ≤ p.flow ∧ p.flow < w.length) {s : Nat × Bool × List Int} (hg : goodDf ps w.length ms s) (F : List Ent) :
  K.Fn Tryz.prog 235 [.pointer (some ⟨bv, 0, none⟩), .pointer (some ⟨sb, 0, none⟩)] w0 R (stE sb pa ps.length pc bg ms :: .sl 4 1 (some ⟨bg, 0, none⟩) ps.length (ms.begun.map encB) :: ([.blk bv [.slice wa w.length wc, .slice (some ⟨bd, 0, none⟩) w.length w.length, .int .i64 (s.1 : Int), .bool s.2.1], .sl 3 1 (some ⟨bd, 0, none⟩) w.length ((s.2.2).map encI)] ++ F)) (fun v R' E' => v = .int .i64 (defCh ps w ms s).1 ∧ R = R' ∧ E' = stE sb pa ps.length pc bg { ms with before := (defCh ps w ms s).2.1 } :: .sl 4 1 (some ⟨bg, 0, none⟩) ps.length (ms.begun.map encB) :: ([.blk bv [.slice wa w.length wc, .slice (some ⟨bd, 0, none⟩) w.length w.length, .int .i64 ((defCh ps w ms s).2.2.1 : Int), .bool (defCh ps w ms s).2.2.2.1], .sl 3 1 (some ⟨bd, 0, none⟩) w.length (((defCh ps w ms s).2.2.2.2).map encI)] ++ F)) := by
 have hlw := hwr.len
 have hlp := hp.len
 obtain ⟨hgd, hgc⟩ := hg
 have hg1 : goodB ps { ms with before := skipTo ms.begun ms.before } := goodB_skip hgd hb
 have hszn : ∀ c : Nat, 0 ≤ nextW ps ms c → 1 ≤ szOf ps (nextW ps ms c) ∧ szOf ps (nextW ps ms c) ≤ 1500 := fun c h => szOf_next hsz c h
 have hsk0 : skipTo ms.begun (skipTo ms.begun ms.before) = skipTo ms.begun ms.before := by
  by_cases h : skipTo ms.begun ms.before < ms.begun.length
  ·exact skipTo_false h (skipTo_stop' h)
  ·exact skipTo_end (by omega)
 refine fE 111 Tryz.func235 ?_
 refine zQ (zG (zR 1 rfl (zN (zU (zQ (zQ (zG (zR 1 rfl ?_))))))))
 refine WL.call en192 rfl rfl qD (CallOp.mkT rfl rfl rfl rfl) (First_C w0 hp hb hgd.1 _) ?_
 rintro _ _ _ - ⟨rfl, rfl, rfl⟩
 refine zR 1 rfl (zN (zU ?_))
 refine W.condD rfl (fun hc0 => ?_) (fun hc0 => ?_)
 ·try dsimp only at hc0
  have hch : defCh ps w ms s = (-1, skipTo ms.begun ms.before, s) := by unfold defCh; rw [if_pos hc0]
  refine zQ (zG (zR 1 rfl (zN (zU (zT (wt ?_))))))
  refine WE.retF tab_ok [_] rfl ⟨rfl, trivial⟩ (RLe.refl _) ?_
  exact ⟨by rw [hch]; rfl, rfl, by rw [hch]; try rfl⟩
 ·try dsimp only at hc0
  have hsoon := def_soon hfl ⟨hgd, hgc⟩ hb hc0
  have hch : defCh ps w ms s = ((defGo (nextW ps ms) (szOf ps) w (defF w.length) s.1 s.2.1 s.2.2).1, skipTo ms.begun ms.before, (defGo (nextW ps ms) (szOf ps) w (defF w.length) s.1 s.2.1 s.2.2).2) := by unfold defCh; rw [if_neg hc0]
  refine zK (zU (zB ?_))
  refine W.loopK (β := Nat × Nat × Bool × List Int) (fun (k, c, b, d) => defGo (nextW ps ms) (szOf ps) w k c b d = defGo (nextW ps ms) (szOf ps) w (defF w.length) s.1 s.2.1 s.2.2 ∧ DSoon (nextW ps ms) w.length k c b d ∧ DOk w.length c b d) (fun (k, c, b, d) => []) [0, 1] [_, _] [] _ rfl (fun (k, c, b, d) => [(2, .blk bv [.slice wa w.length wc, .slice (some ⟨bd, 0, none⟩) w.length w.length, .int .i64 (c : Int), .bool b]), (3, .sl 3 1 (some ⟨bd, 0, none⟩) w.length ((d).map encI))]) (fun (k, c, b, d) => k) ((defF w.length, s.1, s.2.1, s.2.2)) (⟨rfl, hsoon, hgc⟩) ⟨rfl, rfl, rfl⟩ qS ?_
  intro zz hst
  obtain ⟨k, c, b, d⟩ := zz
  dsimp only [zipE, setAll, List.cons_append, List.nil_append, List.set_cons_zero, List.set_cons_succ] at hst ⊢
  obtain ⟨h1, h2, h3⟩ := hst
  have hdl := h3.2.1
  have hcw := h3.1
  refine zB (zQ (zG (zR 4 rfl ?_)))
  refine yL (Rd.add (Rd.blk 2 rfl) _) ?_
  refine WL.call en201 rfl rfl qD (CallOp.mkT rfl rfl rfl rfl) (Next_C (ms := { ms with before := skipTo ms.begun ms.before }) w0 hp hb hg1 hsort _ _) ?_
  rintro _ _ _ - ⟨rfl, rfl, rfl⟩
  dsimp only
  rw [hsk0]
  refine zR 1 rfl (zN (zU ?_))
  refine W.seqCut (β := Bool × List Int) (fun (b1, d1) => d1 = grant (nextW ps ms) w c b d ∧ b1 = (if 0 ≤ nextW ps ms c then true else b)) (fun (b1, d1) => [(0, true, .pointer (some ⟨bv, 0, none⟩)), (1, true, .pointer (some ⟨sb, 0, none⟩)), (5, true, .int .i64 (nextW ps ms c))]) (fun _ => R) (fun (b1, d1) => stE sb pa ps.length pc bg { ms with before := skipTo ms.begun ms.before } :: .sl 4 1 (some ⟨bg, 0, none⟩) ps.length (ms.begun.map encB) :: .blk bv [.slice wa w.length wc, .slice (some ⟨bd, 0, none⟩) w.length w.length, .int .i64 (c : Int), .bool b1] :: .sl 3 1 (some ⟨bd, 0, none⟩) w.length ((d1).map encI) :: F) ?_ ?_
  ·
   intro st hst
   obtain ⟨b1, d1⟩ := st
   obtain ⟨hd1, hb1⟩ := hst
   dsimp only at hd1 hb1 ⊢
   have hgb := h3.grant (nx := nextW ps ms) hw
   have hgl : (grant (nextW ps ms) w c b d).length = w.length := by rw [grant_len]; exact hdl
   subst hd1
   refine zQ (zQ ?_)
   refine W.regionQ _ mixed qK ?_
   refine zR 3 rfl ?_
   refine yP ?_
   refine yP ?_
   refine WG.callE en236 rfl rfl (by decide) (CallOp.mk' rfl rfl rfl rfl) qE (fun hg => Size_E w0 hp _ (by simpa using hg) (nextW_lt ps _ _).1 _) ?_
   refine yP ?_
   refine yP ?_
   refine yP ?_
   refine yG (Rd.addC (Rd.blkC 2 rfl) _) ?_
   refine yP ?_
   refine yP ?_
   refine yP ?_
   refine yG (Rd.addC (Rd.blkC 2 rfl) _) ?_
   refine WG.y rfl rfl (by decide) (Yl.indexN tab_ok rfl rfl rfl rfl rfl rfl qE (by intro hg; (try simp only [zk] at hg); (try dsimp only) <;> omega) (by intro hg; (try simp only [zk] at hg); first | exact qI)) ?_
   refine' WG.y rfl rfl qD (Yl.loadG tab_ok rfl rfl rfl qE ?r4 rfl ?h4 ?g4) ?_
   case r4 => (exact Rd.slC 3 rfl)
   case h4 => rfl
   case g4 => (intro hg; (try simp only [zk] at hg); (try dsimp only); omega)
   refine yP ?_
   refine yN ?_
   refine zN (zU ?_)
   refine W.cond rfl (fun hc1 => ?_) (fun hc1 => ?_)
   ·try simp only [zk] at hc1
    have hy : 0 ≤ nextW ps ms c ∧ szOf ps (nextW ps ms c) ≤ nth (grant (nextW ps ms) w c b d) c := hc1
    have hgo : defGo (nextW ps ms) (szOf ps) w (defF w.length) s.1 s.2.1 s.2.2 = (nextW ps ms c, (c, true, (grant (nextW ps ms) w c b d).set c (nth (grant (nextW ps ms) w c b d) c - szOf ps (nextW ps ms c)))) := by
     rw [← h1]
     obtain ⟨k, rfl⟩ : ∃ m, k = m + 1 := ⟨k - 1, by obtain ⟨j, _, _, hj⟩ := h2; omega⟩
     rw [defGo, if_pos hy]
    have hszc := hszn c hy.1
    have hgc := hgb c h3.1
    rw [hgo] at hch
    obtain rfl : b1 = true := by rw [hb1, if_pos hy.1]
    refine zQ ?_
    refine W.regionH _ (ES := [.blk bv [.slice wa w.length wc, .slice (some ⟨bd, 0, none⟩) w.length w.length, .int .i64 (c : Int), .bool true]]) mixed ?_
    refine tP 0 ?_
    refine tP 1 ?_
    refine tP 2 ?_
    refine tL 3 (Rd.add (Rd.blk 0 rfl) _) ?_
    refine tP 4 ?_
    refine tP 5 ?_
    refine tP 6 ?_
    refine tL 7 (Rd.add (Rd.blk 0 rfl) _) ?_
    refine WA.take 8 rfl qK qK qK rfl rfl qD (Yl.indexN tab_ok rfl rfl rfl rfl rfl rfl (fun _ => rfl) qN qH) qS qR ?_
    refine tP 10 ?_
    refine tP 11 ?_
    refine WA.br2 (i := 9) (j := 12) qK ?_ ?_
    ·
     refine' WS.yl rfl rfl rfl qD (Yl.load1 tab_ok rfl rfl rfl (fun _ => rfl) ?r7 rfl ?h7) qS qR ?_
     case r7 => (exact Rd.slD 3 rfl qX)
     case h7 => rfl
     refine WA.callG 12 rfl qK en236 rfl (by first | rfl | decide) rfl qD (CallOp.mkT rfl rfl rfl rfl) (Size_C w0 hp _ hy.1 (nextW_lt ps _ _).1 _) ?_
     rintro _ _ _ - ⟨rfl, rfl, rfl⟩
     refine ⟨RLe.refl _, qS, ?_⟩
     refine tS 13 ?_
     refine WA.take 14 rfl qK qK qK rfl rfl qD (Yl.indexN tab_ok rfl rfl rfl rfl rfl rfl (fun _ => rfl) qN qH) qS qR ?_
     refine WA.effN 15 rfl qK rfl rfl (Ef.storeD _ 3 tab_ok rfl rfl rfl rfl rfl qX rfl rfl rfl rfl ?_)
     refine ⟨qR, qS, ?_⟩
     refine WA.done qK ?_
     refine zU (zQ (zG (zR 2 rfl (zN (zU (zT (wt (wb (wt (wb ?_))))))))))
     refine WE.retF tab_ok [_] rfl ⟨rfl, trivial⟩ (RLe.refl _) ?_
     exact ⟨by rw [hch]; rfl, rfl, by rw [hch]; try rfl⟩
    ·
     refine WS.callG rfl en236 rfl (by first | rfl | decide) rfl qD (CallOp.mkT rfl rfl rfl rfl) (Size_C w0 hp _ hy.1 (nextW_lt ps _ _).1 _) ?_
     rintro _ _ _ - ⟨rfl, rfl, rfl⟩
     refine ⟨RLe.refl _, qS, ?_⟩
     refine' WA.yl 9 rfl qK rfl rfl qD (Yl.load1 tab_ok rfl rfl rfl (fun _ => rfl) ?r8 rfl ?h8) qS qR ?_
     case r8 => (exact Rd.slD 3 rfl qX)
     case h8 => rfl
     refine tS 13 ?_
     refine WA.take 14 rfl qK qK qK rfl rfl qD (Yl.indexN tab_ok rfl rfl rfl rfl rfl rfl (fun _ => rfl) qN qH) qS qR ?_
     refine WA.effN 15 rfl qK rfl rfl (Ef.storeD _ 3 tab_ok rfl rfl rfl rfl rfl qX rfl rfl rfl rfl ?_)
     refine ⟨qR, qS, ?_⟩
     refine WA.done qK ?_
     refine zU (zQ (zG (zR 2 rfl (zN (zU (zT (wt (wb (wt (wb ?_))))))))))
     refine WE.retF tab_ok [_] rfl ⟨rfl, trivial⟩ (RLe.refl _) ?_
     exact ⟨by rw [hch]; rfl, rfl, by rw [hch]; try rfl⟩
   ·try simp only [zk] at hc1
    have hno : ¬ (0 ≤ nextW ps ms c ∧ szOf ps (nextW ps ms c) ≤ nth (grant (nextW ps ms) w c b d) c) := by
     rintro ⟨x1, x2⟩
     have := hc1 x1
     omega
    obtain ⟨k, rfl⟩ : ∃ m, k = m + 1 := ⟨k - 1, by obtain ⟨j, _, _, hj⟩ := h2; omega⟩
    rw [defGo, if_neg hno] at h1
    have h4 := h2.step (sz := szOf ps) hw (fun h => (hszn c h).2) h3 hno
    have h5 := h3.next (sz := szOf ps) hw (fun h => (hszn c h).2) hno
    have hce : ((c : Int) + 1) % (w.length : Int) = (((c + 1) % w.length : Nat) : Int) := rfl
    refine zK (zU (zQ (zQ (zG (zR 2 rfl (zN (zU ?_)))))))
    refine W.condD rfl (fun hc2 => ?_) (fun hc2 => ?_)
    ·try dsimp only at hc2
     have e0 : drop0 (nextW ps ms) c (grant (nextW ps ms) w c b d) = (grant (nextW ps ms) w c b d).set c 0 := if_pos (by omega)
     rw [e0] at h1 h4 h5
     refine W.regionH _ (ES := [.blk bv [.slice wa w.length wc, .slice (some ⟨bd, 0, none⟩) w.length w.length, .int .i64 (c : Int), .bool b1]]) mixed ?_
     refine tP 0 ?_
     refine tP 1 ?_
     refine tP 2 ?_
     refine tL 3 (Rd.add (Rd.blk 0 rfl) _) ?_
     refine tP 4 ?_
     refine tP 5 ?_
     refine tP 6 ?_
     refine tL 7 (Rd.add (Rd.blk 0 rfl) _) ?_
     refine WA.take 8 rfl qK qK qK rfl rfl qD (Yl.indexN tab_ok rfl rfl rfl rfl rfl rfl (fun _ => rfl) qN qH) qS qR ?_
     refine WA.effN 9 rfl qK rfl rfl (Ef.storeD _ 3 tab_ok rfl rfl rfl rfl rfl qX rfl rfl rfl rfl ?_)
     refine ⟨qR, qS, ?_⟩
     refine WA.done qK ?_
     refine zU ?_
     refine W.regionH _ (ES := []) mixed ?_
     refine tP 0 ?_
     refine tP 1 ?_
     refine tP 2 ?_
     refine tP 3 ?_
     refine tP 4 ?_
     refine tP 7 ?_
     refine tP 8 ?_
     refine tP 9 ?_
     refine WA.br2 (i := 5) (j := 10) qK ?_ ?_
     ·
      refine sL (Rd.add (Rd.blk 2 rfl) _) ?_
      refine tA 6 ?_
      refine lL 10 (Rd.add (Rd.blk 2 rfl) _) ?_
      refine tP 11 ?_
      refine WA.take 12 rfl qK qK qK rfl rfl qD (Yl.rem rfl rfl rfl (fun _ => rfl) qN qN) qS qR ?_
      refine tP 13 ?_
      refine tP 14 ?_
      refine zCF 15 2 ?_
      refine tP 16 ?_
      refine tP 17 ?_
      refine zCF 18 2 ?_
      refine WA.done qK ?_
      refine zL ?_
      refine WE.again ((k, (c + 1) % w.length, false, (grant (nextW ps ms) w c b d).set c 0)) (⟨h1, h4, h5⟩) (by dsimp only; omega) ⟨rfl, rfl, rfl⟩ (RLe.refl _) qS
     ·
      refine sL (Rd.add (Rd.blk 2 rfl) _) ?_
      refine tP 11 ?_
      refine lL 5 (Rd.add (Rd.blk 2 rfl) _) ?_
      refine tA 6 ?_
      refine WA.take 12 rfl qK qK qK rfl rfl qD (Yl.rem rfl rfl rfl (fun _ => rfl) qN qN) qS qR ?_
      refine tP 13 ?_
      refine tP 14 ?_
      refine zCF 15 2 ?_
      refine tP 16 ?_
      refine tP 17 ?_
      refine zCF 18 2 ?_
      refine WA.done qK ?_
      refine zL ?_
      refine WE.again ((k, (c + 1) % w.length, false, (grant (nextW ps ms) w c b d).set c 0)) (⟨h1, h4, h5⟩) (by dsimp only; omega) ⟨rfl, rfl, rfl⟩ (RLe.refl _) qS
    ·try dsimp only at hc2
     have e0 : drop0 (nextW ps ms) c (grant (nextW ps ms) w c b d) = grant (nextW ps ms) w c b d := if_neg (by omega)
     rw [e0] at h1 h4 h5
     refine zK (zU ?_)
     refine W.regionH _ (ES := []) mixed ?_
     refine tP 0 ?_
     refine tP 1 ?_
     refine tP 2 ?_
     refine tP 3 ?_
     refine tP 4 ?_
     refine tP 7 ?_
     refine tP 8 ?_
     refine tP 9 ?_
     refine WA.br2 (i := 5) (j := 10) qK ?_ ?_
     ·
      refine sL (Rd.add (Rd.blk 2 rfl) _) ?_
      refine tA 6 ?_
      refine lL 10 (Rd.add (Rd.blk 2 rfl) _) ?_
      refine tP 11 ?_
      refine WA.take 12 rfl qK qK qK rfl rfl qD (Yl.rem rfl rfl rfl (fun _ => rfl) qN qN) qS qR ?_
      refine tP 13 ?_
      refine tP 14 ?_
      refine zCF 15 2 ?_
      refine tP 16 ?_
      refine tP 17 ?_
      refine zCF 18 2 ?_
      refine WA.done qK ?_
      refine zL ?_
      refine WE.again ((k, (c + 1) % w.length, false, grant (nextW ps ms) w c b d)) (⟨h1, h4, h5⟩) (by dsimp only; omega) ⟨rfl, rfl, rfl⟩ (RLe.refl _) qS
     ·
      refine sL (Rd.add (Rd.blk 2 rfl) _) ?_
      refine tP 11 ?_
      refine lL 5 (Rd.add (Rd.blk 2 rfl) _) ?_
      refine tA 6 ?_
      refine WA.take 12 rfl qK qK qK rfl rfl qD (Yl.rem rfl rfl rfl (fun _ => rfl) qN qN) qS qR ?_
      refine tP 13 ?_
      refine tP 14 ?_
      refine zCF 15 2 ?_
      refine tP 16 ?_
      refine tP 17 ?_
      refine zCF 18 2 ?_
      refine WA.done qK ?_
      refine zL ?_
      refine WE.again ((k, (c + 1) % w.length, false, grant (nextW ps ms) w c b d)) (⟨h1, h4, h5⟩) (by dsimp only; omega) ⟨rfl, rfl, rfl⟩ (RLe.refl _) qS
  ·
   refine zQ (zG (zR 3 rfl ?_))
   refine yP ?_
   refine yP ?_
   refine yP ?_
   refine yG (Rd.addC (Rd.blkC 2 rfl) _) ?_
   refine yP ?_
   refine yN ?_
   refine zN (zU ?_)
   refine W.cond rfl (fun hc3 => ?_) (fun hc3 => ?_)
   ·try simp only [zk] at hc3
    have eg : grant (nextW ps ms) w c b d = d.set c (nth d c + nth w c) := if_pos hc3
    have hwc := hw _ (nth_mem h3.1)
    have hdc := h3.2.2 c h3.1
    refine zQ (zG (zR 3 rfl ?_))
    refine zF 2 ?_
    refine zN (zU ?_)
    refine W.regionH _ (ES := [.blk bv [.slice wa w.length wc, .slice (some ⟨bd, 0, none⟩) w.length w.length, .int .i64 (c : Int), .bool true]]) mixed ?_
    refine tP 0 ?_
    refine tP 1 ?_
    refine tP 2 ?_
    refine tL 3 (Rd.add (Rd.blk 0 rfl) _) ?_
    refine tP 4 ?_
    refine tP 5 ?_
    refine tP 6 ?_
    refine tL 7 (Rd.add (Rd.blk 0 rfl) _) ?_
    refine WA.take 8 rfl qK qK qK rfl rfl qD (Yl.indexN tab_ok rfl rfl rfl rfl rfl rfl (fun _ => rfl) qN qH) qS qR ?_
    refine tP 10 ?_
    refine tP 11 ?_
    refine tP 12 ?_
    refine tL 13 (Rd.add (Rd.blk 0 rfl) _) ?_
    refine tP 14 ?_
    refine tP 15 ?_
    refine tP 16 ?_
    refine tL 17 (Rd.add (Rd.blk 0 rfl) _) ?_
    refine WA.take 18 rfl qK qK qK rfl rfl qD (Yl.indexN tab_ok rfl rfl rfl rfl rfl rfl (fun _ => rfl) qN qH) qS qR ?_
    refine' WA.take 19 rfl qK qK qK rfl rfl qD (Yl.load1 tab_ok rfl rfl rfl (fun _ => rfl) ?r24 rfl ?h24) qS qR ?_
    case r24 => ((apply RS.rdD; assumption; ((try dsimp only) <;> omega)))
    case h24 => rfl
    refine' WA.yl 9 rfl qK rfl rfl qD (Yl.load1 tab_ok rfl rfl rfl (fun _ => rfl) ?r25 rfl ?h25) qS qR ?_
    case r25 => (exact Rd.slD 3 rfl qX)
    case h25 => rfl
    refine tA 20 ?_
    refine WA.take 21 rfl qK qK qK rfl rfl qD (Yl.indexN tab_ok rfl rfl rfl rfl rfl rfl (fun _ => rfl) qN qH) qS qR ?_
    refine WA.effN 22 rfl qK rfl rfl (Ef.storeD _ 3 tab_ok rfl rfl rfl rfl rfl qX rfl rfl rfl rfl ?_)
    refine ⟨qR, qS, ?_⟩
    refine WA.done qK ?_
    refine WE.cut (true, d.set c (nth d c + nth w c)) ⟨by rw [eg], (if_pos (show 0 ≤ nextW ps ms c from hc3.1)).symm⟩ ⟨rfl, rfl, rfl, rfl⟩ (RLe.refl _) qS
   ·try simp only [zk] at hc3
    have eg : grant (nextW ps ms) w c b d = d := if_neg (by rintro ⟨x1, x2⟩; have := hc3 x1; simp_all)
    refine zK ?_
    refine WE.cut (b, d) ⟨by rw [eg], by split; have := hc3 (by assumption); simp_all; rfl⟩ ⟨rfl, rfl, rfl, rfl⟩ (RLe.refl _) qS



theorem Def_err {R : Ro} {pa wa : Option Addr} {pc wc : Nat} {ps : List Pkt} {w : List Int} (hp : RS R 3 encP pa ps) (hwr : RS R 1 encI wa w) {cap ticks : Int} (w0 : World) (hbad : wrunE 6000 cap ticks w ps ≠ 0) (E : List Ent) :
  K.Fn Tryz.prog 228 [.int .i64 cap, .slice wa w.length wc, .slice pa ps.length pc, .int .i64 ticks] w0 R E (fun v R' E' => v = .tuple #[.agg #[.slice none 0 0, .slice none 0 0], .int .i64 (wrunE 6000 cap ticks w ps)] ∧ R = R' ∧ E.Sublist E') := by
 have hla := hp.len
 have hlw := hwr.len
 refine fE 47 Tryz.func228 ?_
 refine zQ (zG ?_)
 refine zA fun b8 => ?_
 refine zR 1 rfl (zN (zU (zQ (zQ (zG (zR 1 rfl ?_))))))
 refine WG.callV en79 rfl rfl qD (CallOp.mk' rfl rfl rfl rfl) (fun _ => rfl) (fun hg => Validate_V hp) ?_
 refine zR 1 rfl (zN (zU (zQ (zG (zR 2 rfl (zN (zU ?_)))))))
 refine W.condN rfl (fun hc0 => ?_) (fun hc0 => ?_)
 ·try dsimp only at hc0
  have e : wrunE 6000 cap ticks w ps = validate ps := by unfold wrunE lrunE; rw [if_pos hc0, if_pos hc0]
  refine zQ (zG ?_)
  -- build
  refine WG.y rfl rfl qD (Yl.build (parts := []) tab_ok rfl rfl rfl rfl (fun _ => rfl) rfl rfl) ?_
  refine zR 1 rfl ?_
  refine zE 0 ?_
  refine zR 1 rfl (zN (zU (zT (wt ?_))))
  refine WE.retF tab_ok [_, _] rfl ⟨⟨_, _, _, rfl, rfl, rfl, qB, rfl⟩, rfl, trivial⟩ (RLe.refl _) ?_
  exact ⟨by rw [e]; rfl, rfl, qS⟩
 ·try dsimp only at hc0
  have hl0 : lrunE cap w.length ticks ps = checkE cap w.length ticks ps := if_neg (fun h => h hc0)
  refine zK (zU (zQ (zQ (zG (zR 5 rfl ?_)))))
  refine WG.callV en190 rfl rfl qD (CallOp.mk' rfl rfl rfl rfl) (fun _ => rfl) (fun hg => Check_V hp) ?_
  refine zR 1 rfl (zN (zU (zQ (zG (zR 2 rfl (zN (zU ?_)))))))
  refine W.condN rfl (fun hc1 => ?_) (fun hc1 => ?_)
  ·try dsimp only at hc1
   have e : wrunE 6000 cap ticks w ps = checkE cap w.length ticks ps := by unfold wrunE; rw [if_pos (by rw [hl0]; exact hc1), hl0]
   refine zQ (zG ?_)
   -- build
   refine WG.y rfl rfl qD (Yl.build (parts := []) tab_ok rfl rfl rfl rfl (fun _ => rfl) rfl rfl) ?_
   refine zR 1 rfl ?_
   refine zE 0 ?_
   refine zR 1 rfl (zN (zU (zT (wt ?_))))
   refine WE.retF tab_ok [_, _] rfl ⟨⟨_, _, _, rfl, rfl, rfl, qB, rfl⟩, rfl, trivial⟩ (RLe.refl _) ?_
   exact ⟨by rw [e]; rfl, rfl, qS⟩
  ·try dsimp only at hc1
   refine zK (zU (zQ (zQ (zG (zR 1 rfl ?_)))))
   refine WG.callV en234 rfl rfl qD (CallOp.mk' rfl rfl rfl rfl) (fun _ => rfl) (fun hg => Weighed20_V hwr) ?_
   refine zR 1 rfl (zN (zU ?_))
   refine W.cond rfl (fun hc2 => ?_) (fun hc2 => ?_)
   ·try simp only [zk] at hc2
    have e : wrunE 6000 cap ticks w ps = 2 := by unfold wrunE; rw [if_neg (fun h => h (hl0.trans hc1)), if_neg (by simp [hc2])]
    refine zQ (zG ?_)
    -- build
    refine WG.y rfl rfl qD (Yl.build (parts := []) tab_ok rfl rfl rfl rfl (fun _ => rfl) rfl rfl) ?_
    refine zE 0 ?_
    refine zR 1 rfl (zN (zU (zT (wt ?_))))
    refine WE.retF tab_ok [_, _] rfl ⟨⟨_, _, _, rfl, rfl, rfl, qB, rfl⟩, rfl, trivial⟩ (RLe.refl _) ?_
    exact ⟨by rw [e]; rfl, rfl, qS⟩
   ·try simp only [zk] at hc2
    exact absurd (by unfold wrunE; rw [if_neg (fun h => h (hl0.trans hc1)), if_pos (by simpa using hc2)]) hbad

theorem Def_ok {R : Ro} {pa wa : Option Addr} {pc wc : Nat} {ps : List Pkt} {w : List Int} (hp : RS R 3 encP pa ps) (hwr : RS R 1 encI wa w) {cap : Int} {ticks : Nat} (w0 : World) (hok0 : wrunE 6000 cap ticks w ps = 0) (E : List Ent) :
  K.Fn Tryz.prog 228 [.int .i64 cap, .slice wa w.length wc, .slice pa ps.length pc, .int .i64 ticks] w0 R E
   (fun v R' E' => ∃ (rows : List Sl) (gd go : Nat) (s : M.RS (Nat × Bool × List Int)), s = mrun ps (defCh ps w) cap w.length ticks (def0 w.length) ∧ v = .tuple #[.agg #[.slice (some ⟨gd, 0, none⟩) ps.length ps.length, .slice (some ⟨go, 0, none⟩) w.length w.length], .int .i64 0] ∧ R = R' ∧ rows.map Sl.xs = s.sent ∧ (∀ r ∈ rows, r.a.isSome = true) ∧ Inv ps w.length (goodDf ps w.length) (ticks + 1) (ticks * cap) s ∧
    (.sl 3 1 (some ⟨gd, 0, none⟩) ps.length (s.done.map encI) :: .sl 22 1 (some ⟨go, 0, none⟩) w.length (rows.map encS) :: (rows.map (rowE 3) ++ E)).Sublist E') := by
 obtain ⟨hl0, hkw⟩ := wrunE_ok hok0
 have hw := okW_iff.1 hkw
 obtain ⟨hok, hvv, hck, c1, c2, c3, c4, c5, c6, hs, hf⟩ := lrunE_ok hl0
 have hlw := hwr.len
 have hla := hp.len
 refine fE 47 Tryz.func228 ?_
 refine zQ (zG ?_)
 refine zA fun b8 => ?_
 refine zR 1 rfl (zN (zU (zQ (zQ (zG (zR 1 rfl ?_))))))
 refine WG.callV en79 rfl rfl qD (CallOp.mk' rfl rfl rfl rfl) (fun _ => rfl) (fun hg => hvv ▸ Validate_V hp) ?_
 refine zR 1 rfl (zN (zU (zQ (zG (zR 2 rfl (zN (zU ?_)))))))
 refine W.condN rfl (fun hc0 => ?_) (fun hc0 => ?_)
 ·try dsimp only at hc0
  exact absurd rfl hc0
 ·try dsimp only at hc0
  refine zK (zU (zQ (zQ (zG (zR 5 rfl ?_)))))
  refine WG.callV en190 rfl rfl qD (CallOp.mk' rfl rfl rfl rfl) (fun _ => rfl) (fun hg => hck ▸ Check_V hp) ?_
  refine zR 1 rfl (zN (zU (zQ (zG (zR 2 rfl (zN (zU ?_)))))))
  refine W.condN rfl (fun hc1 => ?_) (fun hc1 => ?_)
  ·try dsimp only at hc1
   exact absurd rfl hc1
  ·try dsimp only at hc1
   refine zK (zU (zQ (zQ (zG (zR 1 rfl ?_)))))
   refine WG.callV en234 rfl rfl qD (CallOp.mk' rfl rfl rfl rfl) (fun _ => rfl) (fun hg => hkw ▸ Weighed20_V hwr) ?_
   refine zR 1 rfl (zN (zU ?_))
   refine W.cond rfl (fun hc2 => ?_) (fun hc2 => ?_)
   ·try simp only [zk] at hc2
    simp at hc2
   ·try simp only [zk] at hc2
    refine zK (zU (zQ (zG (zR 3 rfl ?_))))
    refine WL.ef rfl rfl qD (Ef.makeSliceD (enc := encI) 0 tab_ok rfl rfl rfl rfl rfl rfl qX qX qX qX qD rfl rfl (fun a36 => ?_))
    -- build
    refine WG.y rfl rfl qD (Yl.build (parts := [(0, .tmp 33), (1, .tmp 36)]) tab_ok rfl rfl rfl rfl (fun _ => rfl) rfl rfl) ?_
    refine zO fun b38 => ?_
    refine zR 1 rfl (zN (zU (zQ (zG (zR 7 rfl ?_)))))
    refine WL.call en191 rfl rfl qD (CallOp.mkT rfl rfl rfl rfl) (MRun_C (pc := pc) (g := 235) (first := #[.pointer (some ⟨b38, 0, none⟩)]) (capd := #[]) (ch := defCh ps w) (good := goodDf ps w.length) (X := fun s => [.blk b38 [.slice wa w.length wc, .slice (some ⟨a36, 0, none⟩) w.length w.length, .int .i64 (s.1 : Int), .bool s.2.1], .sl 3 1 (some ⟨a36, 0, none⟩) w.length ((s.2.2).map encI)]) (sg := def0 w.length) w0 hp (def_fair hw (fun p hp => by have := hok.at hp; omega) hf hok.sorted).toGood ⟨by have := hok.len; omega, fun p hp => by have := hs p hp; have := hf p hp; omega⟩ (def_start qO _) qO qO qO en235 (fun sb bg ms sg F hgd hbl _ _ _ _ => ChooseD_C w0 hp hbl hok.sorted hwr hw qO (fun p hp => by have := hok.at hp; omega) hf hgd F) _) ?_
    rintro _ _ E2 - ⟨rows, gd, go, s, hsr, rfl, rfl, h1, h2, h3, hsub⟩
    refine WL.subE hsub ?_
    refine WL.subE (E' := .sl 3 1 (some ⟨gd, 0, none⟩) ps.length (s.done.map encI) :: .sl 22 1 (some ⟨go, 0, none⟩) w.length (rows.map encS) :: (rows.map (rowE 3) ++ (.blk b8 [.slice none 0 0, .slice none 0 0] :: E))) (List.Sublist.cons_cons _ (List.Sublist.cons_cons _ (List.Sublist.append (List.Sublist.refl _) qS))) ?_
    refine WL.perm (List.perm_middle (l₁ := _ :: _ :: rows.map (rowE 3))) ?_
    refine zE 0 ?_
    refine zR 1 rfl (zN (zU (zT ?_)))
    refine WE.retF tab_ok [_, _] rfl ⟨⟨_, _, _, rfl, rfl, rfl, qB, rfl⟩, rfl, trivial⟩ (RLe.refl _) ?_
    exact ⟨rows, gd, go, s, hsr, rfl, rfl, h1, h2, h3, qS⟩

theorem RDef_err {R : Ro} {pa wa : Option Addr} {pc wc : Nat} {ps : List Pkt} {w : List Int} (hp : RS R 3 encP pa ps) (hwr : RS R 1 encI wa w) {cap ticks : Int} (w0 : World) (hbad : wrunE 6000 cap ticks w ps ≠ 0) (E : List Ent) :
  K.Fn Tryz.prog 66 [.int .i64 cap, .slice wa w.length wc, .slice pa ps.length pc, .int .i64 ticks] w0 R E (fun v R' E' => v = .tuple #[.agg #[.slice none 0 0, .slice none 0 0], .int .i64 (wrunE 6000 cap ticks w ps)] ∧ R = R' ∧ E.Sublist E') := by
 have hla := hp.len
 have hlw := hwr.len
 refine fE 81 Tryz.func66 ?_
 refine zQ (zG ?_)
 refine zA fun b8 => ?_
 refine zR 1 rfl (zN (zU (zQ (zQ (zG (zR 5 rfl ?_))))))
 refine WG.callV en105 rfl rfl qD (CallOp.mk' rfl rfl rfl rfl) (fun _ => rfl) (fun hg => (show (if validate ps ≠ 0 then validate ps else checkE cap w.length ticks ps) = lrunE cap w.length ticks ps from rfl) ▸ BadR_V hp) ?_
 refine zR 1 rfl (zN (zU (zQ (zG (zR 2 rfl (zN (zU ?_)))))))
 refine W.condN rfl (fun hc0 => ?_) (fun hc0 => ?_)
 ·try dsimp only at hc0
  have e : wrunE 6000 cap ticks w ps = lrunE cap w.length ticks ps := by unfold wrunE; rw [if_pos hc0]
  refine zQ (zG ?_)
  -- build
  refine WG.y rfl rfl qD (Yl.build (parts := []) tab_ok rfl rfl rfl rfl (fun _ => rfl) rfl rfl) ?_
  refine zR 1 rfl ?_
  refine zE 0 ?_
  refine zR 1 rfl (zN (zU (zT (wt ?_))))
  refine WE.retF tab_ok [_, _] rfl ⟨⟨_, _, _, rfl, rfl, rfl, qB, rfl⟩, rfl, trivial⟩ (RLe.refl _) ?_
  exact ⟨by rw [e]; rfl, rfl, qS⟩
 ·try dsimp only at hc0
  refine zK (zU (zQ (zQ (zG (zR 1 rfl ?_)))))
  refine WG.callV en114 rfl rfl qD (CallOp.mk' rfl rfl rfl rfl) (fun _ => rfl) (fun hg => Right20_V hwr) ?_
  refine zR 1 rfl (zN (zU ?_))
  refine W.cond rfl (fun hc1 => ?_) (fun hc1 => ?_)
  ·try simp only [zk] at hc1
   have e : wrunE 6000 cap ticks w ps = 2 := by unfold wrunE; rw [if_neg (fun h => h hc0), if_neg (by simp [hc1])]
   refine zQ (zG ?_)
   -- build
   refine WG.y rfl rfl qD (Yl.build (parts := []) tab_ok rfl rfl rfl rfl (fun _ => rfl) rfl rfl) ?_
   refine zE 0 ?_
   refine zR 1 rfl (zN (zU (zT (wt ?_))))
   refine WE.retF tab_ok [_, _] rfl ⟨⟨_, _, _, rfl, rfl, rfl, qB, rfl⟩, rfl, trivial⟩ (RLe.refl _) ?_
   exact ⟨by rw [e]; rfl, rfl, qS⟩
  ·try simp only [zk] at hc1
   exact absurd (by unfold wrunE; rw [if_neg (fun h => h hc0), if_pos (by simpa using hc1)]) hbad



theorem firstW_lt (ps : List Pkt) (st : St) (c : Int) : firstW ps st c < ps.length := by
 rcases firstW_waiting ps c st with h | h
 ·rw [h]; omega
 ·exact h.2.1

theorem Begin20_C {R : Ro} {wa : Option Addr} {wc : Nat} {w : List Int} (hwr : RS R 1 encI wa w) (hl : w.length ≤ 6) (w0 : World) (E : List Ent) : K.Fn Tryz.prog 115 [.slice wa w.length wc] w0 R E (fun v R' E' => ∃ bd : Nat, v = .agg #[.int .i64 ((0 : Nat) : Int), .bool false, .slice (some ⟨bd, 0, none⟩) w.length w.length] ∧ R = R' ∧ (.sl 3 1 (some ⟨bd, 0, none⟩) w.length ((List.replicate w.length (0 : Int)).map encI) :: E).Sublist E') := by
 have hlw := hwr.len
 refine fE 7 Tryz.func115 ?_
 refine zQ (zG ?_)
 refine zA fun b2 => ?_
 refine zN (zU (zQ (zG (zR 2 rfl ?_))))
 refine WL.ef rfl rfl qD (Ef.makeSliceD (enc := encI) 0 tab_ok rfl rfl rfl rfl rfl rfl qX qX qX qX qD rfl rfl (fun a5 => ?_))
 -- build
 refine WG.y rfl rfl qD (Yl.build (parts := [(2, .tmp 5)]) tab_ok rfl rfl rfl rfl (fun _ => rfl) rfl rfl) ?_
 refine zE 1 ?_
 refine zN (zU (zT ?_))
 refine WE.retF tab_ok [_] rfl ⟨⟨_, _, _, rfl, rfl, rfl, qB, rfl⟩, trivial⟩ (RLe.refl _) ?_
 exact ⟨_, rfl, rfl, qS⟩

theorem Choose20_C {R : Ro} {pa ga da oa : Option Addr} {pc gc dl dc ol oc : Nat} {ps : List Pkt} {st : St} (hp : RS R 3 encP pa ps) (hgv : RS R 1 encI ga st.given) (hgl : st.given.length = ps.length) {wa : Option Addr} {wc bd : Nat} {w : List Int} (hwr : RS R 1 encI wa w) (hw : ∀ x ∈ w, 1 ≤ x ∧ x ≤ 6000) (hn : 0 < w.length) (hsz : ∀ p ∈ ps, 1 ≤ p.size ∧ p.size ≤ 1500) {s : Nat × Bool × List Int} (hsoon : DSoon (firstW ps st) w.length (defF w.length) s.1 s.2.1 s.2.2) (hgc : DOk w.length s.1 s.2.1 s.2.2) (w0 : World) (F : List Ent) :
  K.Fn Tryz.prog 116 [.agg #[.int .i64 (s.1 : Int), .bool s.2.1, .slice (some ⟨bd, 0, none⟩) w.length w.length], .agg #[.int .i64 st.time, .slice ga st.given.length gc, .int .i64 st.now, .slice da dl dc, .slice oa ol oc], .slice wa w.length wc, .slice pa ps.length pc] w0 R (.sl 3 1 (some ⟨bd, 0, none⟩) w.length ((s.2.2).map encI) :: F) (fun v R' E' => ∃ e' N, E' = N ++ e' :: F ∧ (v = .tuple #[.agg #[.int .i64 ((defGo (firstW ps st) (szOf ps) w (defF w.length) s.1 s.2.1 s.2.2).2.1 : Int), .bool (defGo (firstW ps st) (szOf ps) w (defF w.length) s.1 s.2.1 s.2.2).2.2.1, .slice (some ⟨bd, 0, none⟩) w.length w.length], .int .i64 (defGo (firstW ps st) (szOf ps) w (defF w.length) s.1 s.2.1 s.2.2).1] ∧ R = R' ∧ e' = .sl 3 1 (some ⟨bd, 0, none⟩) w.length (((defGo (firstW ps st) (szOf ps) w (defF w.length) s.1 s.2.1 s.2.2).2.2.2).map encI))) := by
 have hlw := hwr.len
 have hlp := hp.len
 have hszn : ∀ c : Nat, 0 ≤ firstW ps st c → 1 ≤ szOf ps (firstW ps st c) ∧ szOf ps (firstW ps st c) ≤ 1500 := fun c h => szOf_first hsz c h
 have hfw : ∀ c : Nat, firstW ps st c < ps.length := fun c => firstW_lt ps st c
 refine fE 91 Tryz.func116 ?_
 refine zQ (zG ?_)
 refine zO fun b4 => ?_
 refine zO fun b5 => ?_
 refine zA fun b8 => ?_
 refine zR 1 rfl (zN (zU (zB ?_)))
 refine W.loopK (β := Nat × Nat × Bool × List Int) (fun (k, c, b, d) => defGo (firstW ps st) (szOf ps) w k c b d = defGo (firstW ps st) (szOf ps) w (defF w.length) s.1 s.2.1 s.2.2 ∧ DSoon (firstW ps st) w.length k c b d ∧ DOk w.length c b d) (fun (k, c, b, d) => []) [2, 3, 4, 5, 8] [_, _, _, _, _] [] _ rfl (fun (k, c, b, d) => [(2, .blk b4 [.int .i64 (c : Int), .bool b, .slice (some ⟨bd, 0, none⟩) w.length w.length]), (3, .sl 3 1 (some ⟨bd, 0, none⟩) w.length ((d).map encI))]) (fun (k, c, b, d) => k) ((defF w.length, s.1, s.2.1, s.2.2)) (⟨rfl, hsoon, hgc⟩) ⟨rfl, rfl, rfl, rfl, rfl, rfl⟩ qS ?_
 intro zz hst
 obtain ⟨k, c, b, d⟩ := zz
 dsimp only [zipE, setAll, List.cons_append, List.nil_append, List.set_cons_zero, List.set_cons_succ] at hst ⊢
 obtain ⟨h1, h2, h3⟩ := hst
 have hdl := h3.2.1
 have hcw := h3.1
 have hfc := hfw c
 refine zB (zQ (zG ?_))
 refine yL (Rd.blk 1 rfl) ?_
 refine zR 2 rfl ?_
 refine yL (Rd.add (Rd.blk 2 rfl) _) ?_
 refine WG.callV en112 rfl rfl qD (CallOp.mk' rfl rfl rfl rfl) (fun _ => rfl) (fun hg => FirstR_V hp hgv hgl) ?_
 refine zR 1 rfl (zN (zU ?_))
 refine W.seqCut (β := Bool × List Int) (fun (b1, d1) => d1 = grant (firstW ps st) w c b d ∧ b1 = (if 0 ≤ firstW ps st c then true else b)) (fun (b1, d1) => [(2, true, .slice wa w.length wc), (3, true, .slice pa ps.length pc), (4, true, .pointer (some ⟨b4, 0, none⟩)), (5, true, .pointer (some ⟨b5, 0, none⟩)), (8, true, .pointer (some ⟨b8, 0, none⟩)), (10, true, .int .i64 (firstW ps st c))]) (fun _ => R) (fun (b1, d1) => .blk b8 [.int .i64 0, .bool false, .slice none 0 0] :: .blk b5 [.int .i64 st.time, .slice ga st.given.length gc, .int .i64 st.now, .slice da dl dc, .slice oa ol oc] :: .blk b4 [.int .i64 (c : Int), .bool b1, .slice (some ⟨bd, 0, none⟩) w.length w.length] :: .sl 3 1 (some ⟨bd, 0, none⟩) w.length ((d1).map encI) :: F) ?_ ?_
 ·
  intro st1 hst
  obtain ⟨b1, d1⟩ := st1
  obtain ⟨hd1, hb1⟩ := hst
  dsimp only at hd1 hb1 ⊢
  have hgb := h3.grant (nx := firstW ps st) hw
  have hgl : (grant (firstW ps st) w c b d).length = w.length := by rw [grant_len]; exact hdl
  subst hd1
  have hse : szOf ps (firstW ps st c) = (nth ps (firstW ps st c).toNat).size := rfl
  refine zQ (zQ ?_)
  refine W.regionQ _ mixed qK ?_
  refine zR 3 rfl ?_
  refine yP ?_
  refine yP ?_
  refine WG.y rfl rfl (by decide) (Yl.index tab_ok rfl rfl rfl rfl rfl rfl qE (by intro hg; (try simp only [zk] at hg); constructor <;> (try dsimp only) <;> omega) (by intro hg; (try simp only [zk] at hg); first | exact qI)) ?_
  refine yP ?_
  refine' WG.y rfl rfl qD (Yl.loadG tab_ok rfl rfl rfl qE ?r3 rfl ?h3 ?g3) ?_
  case r3 => apply Rd.addC; ((apply RS.rdC; assumption))
  case h3 => rfl
  case g3 => (intro hg; (try simp only [zk] at hg); (try dsimp only); omega)
  refine yP ?_
  refine yG (Rd.addC (Rd.blkC 2 rfl) _) ?_
  refine yP ?_
  refine yG (Rd.addC (Rd.blkC 2 rfl) _) ?_
  refine WG.y rfl rfl (by decide) (Yl.indexN tab_ok rfl rfl rfl rfl rfl rfl qE (by intro hg; (try simp only [zk] at hg); (try dsimp only) <;> omega) (by intro hg; (try simp only [zk] at hg); first | exact qI)) ?_
  refine' WG.y rfl rfl qD (Yl.loadG tab_ok rfl rfl rfl qE ?r6 rfl ?h6 ?g6) ?_
  case r6 => (exact Rd.slC 3 rfl)
  case h6 => rfl
  case g6 => (intro hg; (try simp only [zk] at hg); (try dsimp only); omega)
  refine yP ?_
  refine yN ?_
  refine zN (zU ?_)
  refine W.cond rfl (fun hc0 => ?_) (fun hc0 => ?_)
  ·try simp only [zk] at hc0
   have hy : 0 ≤ firstW ps st c ∧ szOf ps (firstW ps st c) ≤ nth (grant (firstW ps st) w c b d) c := hc0
   have hgo : defGo (firstW ps st) (szOf ps) w (defF w.length) s.1 s.2.1 s.2.2 = (firstW ps st c, (c, true, (grant (firstW ps st) w c b d).set c (nth (grant (firstW ps st) w c b d) c - szOf ps (firstW ps st c)))) := by
    rw [← h1]
    obtain ⟨k, rfl⟩ : ∃ m, k = m + 1 := ⟨k - 1, by obtain ⟨j, _, _, hj⟩ := h2; omega⟩
    rw [defGo, if_pos hy]
   have hszc := hszn c hy.1
   have hgc := hgb c h3.1
   obtain rfl : b1 = true := by rw [hb1, if_pos hy.1]
   refine zQ ?_
   refine W.regionH _ (ES := [.blk b4 [.int .i64 (c : Int), .bool true, .slice (some ⟨bd, 0, none⟩) w.length w.length]]) mixed ?_
   refine tP 0 ?_
   refine tL 1 (Rd.add (Rd.blk 0 rfl) _) ?_
   refine tP 2 ?_
   refine tL 3 (Rd.add (Rd.blk 0 rfl) _) ?_
   refine tP 4 ?_
   refine tL 5 (Rd.add (Rd.blk 0 rfl) _) ?_
   refine tP 6 ?_
   refine tL 7 (Rd.add (Rd.blk 0 rfl) _) ?_
   refine WA.take 8 rfl qK qK qK rfl rfl qD (Yl.indexN tab_ok rfl rfl rfl rfl rfl rfl (fun _ => rfl) qN qH) qS qR ?_
   refine tP 10 ?_
   refine tP 11 ?_
   refine WA.take 12 rfl qK qK qK rfl rfl qD (Yl.index tab_ok rfl rfl rfl rfl rfl rfl (fun _ => rfl) qA qH) qS qR ?_
   refine tP 13 ?_
   refine' WA.take 14 rfl qK qK qK rfl rfl qD (Yl.load1 tab_ok rfl rfl rfl (fun _ => rfl) ?r11 rfl ?h11) qS qR ?_
   case r11 => apply Rd.add; ((apply RS.rdD; assumption; ((try dsimp only) <;> omega)))
   case h11 => rfl
   refine' WA.yl 9 rfl qK rfl rfl qD (Yl.load1 tab_ok rfl rfl rfl (fun _ => rfl) ?r12 rfl ?h12) qS qR ?_
   case r12 => (exact Rd.slD 3 rfl qX)
   case h12 => rfl
   refine tS 15 ?_
   refine WA.take 16 rfl qK qK qK rfl rfl qD (Yl.indexN tab_ok rfl rfl rfl rfl rfl rfl (fun _ => rfl) qN qH) qS qR ?_
   refine WA.effN 17 rfl qK rfl rfl (Ef.storeD _ 3 tab_ok rfl rfl rfl rfl rfl qX rfl rfl rfl rfl ?_)
   refine ⟨qR, qS, ?_⟩
   refine WA.done qK ?_
   refine zU (zQ (zG ?_))
   refine yL (Rd.blk 2 rfl) ?_
   refine zR 1 rfl ?_
   refine zE 0 ?_
   refine zR 1 rfl (zN (zU (zT (wt (wb (wt (wb ?_)))))))
   refine WE.retF tab_ok [_, _] rfl ⟨⟨_, _, _, rfl, rfl, rfl, qB, rfl⟩, rfl, trivial⟩ (RLe.refl _) ?_
   exact ⟨_, [_, _, _], rfl, by rw [hgo]; rfl, rfl, by rw [hgo]; rfl⟩
  ·try simp only [zk] at hc0
   have hno : ¬ (0 ≤ firstW ps st c ∧ szOf ps (firstW ps st c) ≤ nth (grant (firstW ps st) w c b d) c) := by
    rintro ⟨x1, x2⟩
    have := hc0 x1
    omega
   obtain ⟨k, rfl⟩ : ∃ m, k = m + 1 := ⟨k - 1, by obtain ⟨j, _, _, hj⟩ := h2; omega⟩
   rw [defGo, if_neg hno] at h1
   have h4 := h2.step (sz := szOf ps) hw (fun h => (hszn c h).2) h3 hno
   have h5 := h3.next (sz := szOf ps) hw (fun h => (hszn c h).2) hno
   have hce : ((c : Int) + 1) % (w.length : Int) = (((c + 1) % w.length : Nat) : Int) := rfl
   refine zK (zU (zQ (zQ (zG (zR 2 rfl (zN (zU ?_)))))))
   refine W.condD rfl (fun hc1 => ?_) (fun hc1 => ?_)
   ·try dsimp only at hc1
    have e0 : drop0 (firstW ps st) c (grant (firstW ps st) w c b d) = (grant (firstW ps st) w c b d).set c 0 := if_pos (by omega)
    rw [e0] at h1 h4 h5
    refine zG (zR 1 rfl ?_)
    refine yL (Rd.add (Rd.blk 2 rfl) _) ?_
    refine zR 1 rfl ?_
    refine yL (Rd.add (Rd.blk 2 rfl) _) ?_
    refine WG.y rfl rfl qD (Yl.indexN tab_ok rfl rfl rfl rfl rfl rfl (fun _ => rfl) qN qH) ?_
    refine WL.efN rfl rfl (Ef.storeD _ 3 tab_ok rfl rfl rfl rfl rfl qX rfl rfl rfl rfl ?_)
    refine zN (zU (zG (zR 1 rfl ?_)))
    refine yL (Rd.add (Rd.blk 2 rfl) _) ?_
    refine yA ?_
    refine zR 2 rfl ?_
    refine WG.y rfl rfl qD (Yl.rem rfl rfl rfl (fun _ => rfl) qN qN) ?_
    refine zR 1 rfl ?_
    refine zF 2 ?_
    refine zR 1 rfl ?_
    refine zF 2 ?_
    refine zN (zL ?_)
    refine WE.again ((k, (c + 1) % w.length, false, (grant (firstW ps st) w c b d).set c 0)) (⟨h1, h4, h5⟩) (by dsimp only; omega) ⟨rfl, rfl, rfl, rfl, rfl, rfl⟩ (RLe.refl _) qS
   ·try dsimp only at hc1
    have e0 : drop0 (firstW ps st) c (grant (firstW ps st) w c b d) = grant (firstW ps st) w c b d := if_neg (by omega)
    rw [e0] at h1 h4 h5
    refine zK (zU (zG (zR 1 rfl ?_)))
    refine yL (Rd.add (Rd.blk 2 rfl) _) ?_
    refine yA ?_
    refine zR 2 rfl ?_
    refine WG.y rfl rfl qD (Yl.rem rfl rfl rfl (fun _ => rfl) qN qN) ?_
    refine zR 1 rfl ?_
    refine zF 2 ?_
    refine zR 1 rfl ?_
    refine zF 2 ?_
    refine zN (zL ?_)
    refine WE.again ((k, (c + 1) % w.length, false, grant (firstW ps st) w c b d)) (⟨h1, h4, h5⟩) (by dsimp only; omega) ⟨rfl, rfl, rfl, rfl, rfl, rfl⟩ (RLe.refl _) qS
 ·
  refine zQ (zG (zR 3 rfl ?_))
  refine yP ?_
  refine yG (Rd.addC (Rd.blkC 2 rfl) _) ?_
  refine yP ?_
  refine yN ?_
  refine zN (zU ?_)
  refine W.cond rfl (fun hc2 => ?_) (fun hc2 => ?_)
  ·try simp only [zk] at hc2
   have eg : grant (firstW ps st) w c b d = d.set c (nth d c + nth w c) := if_pos hc2
   have hwc := hw _ (nth_mem h3.1)
   have hdc := h3.2.2 c h3.1
   refine zQ (zG (zR 1 rfl ?_))
   refine zF 2 ?_
   refine zN (zU ?_)
   refine W.regionH _ (ES := [.blk b4 [.int .i64 (c : Int), .bool true, .slice (some ⟨bd, 0, none⟩) w.length w.length]]) mixed ?_
   refine tP 0 ?_
   refine tL 1 (Rd.add (Rd.blk 0 rfl) _) ?_
   refine tP 2 ?_
   refine tL 3 (Rd.add (Rd.blk 0 rfl) _) ?_
   refine tP 4 ?_
   refine tL 5 (Rd.add (Rd.blk 0 rfl) _) ?_
   refine tP 6 ?_
   refine tL 7 (Rd.add (Rd.blk 0 rfl) _) ?_
   refine WA.take 8 rfl qK qK qK rfl rfl qD (Yl.indexN tab_ok rfl rfl rfl rfl rfl rfl (fun _ => rfl) qN qH) qS qR ?_
   refine tP 10 ?_
   refine tP 11 ?_
   refine tL 12 (Rd.add (Rd.blk 0 rfl) _) ?_
   refine WA.take 13 rfl qK qK qK rfl rfl qD (Yl.indexN tab_ok rfl rfl rfl rfl rfl rfl (fun _ => rfl) qN qH) qS qR ?_
   refine' WA.take 14 rfl qK qK qK rfl rfl qD (Yl.load1 tab_ok rfl rfl rfl (fun _ => rfl) ?r24 rfl ?h24) qS qR ?_
   case r24 => ((apply RS.rdD; assumption; ((try dsimp only) <;> omega)))
   case h24 => rfl
   refine' WA.yl 9 rfl qK rfl rfl qD (Yl.load1 tab_ok rfl rfl rfl (fun _ => rfl) ?r25 rfl ?h25) qS qR ?_
   case r25 => (exact Rd.slD 3 rfl qX)
   case h25 => rfl
   refine tA 15 ?_
   refine WA.take 16 rfl qK qK qK rfl rfl qD (Yl.indexN tab_ok rfl rfl rfl rfl rfl rfl (fun _ => rfl) qN qH) qS qR ?_
   refine WA.effN 17 rfl qK rfl rfl (Ef.storeD _ 3 tab_ok rfl rfl rfl rfl rfl qX rfl rfl rfl rfl ?_)
   refine ⟨qR, qS, ?_⟩
   refine WA.done qK ?_
   refine WE.cut (true, d.set c (nth d c + nth w c)) ⟨by rw [eg], (if_pos (show 0 ≤ firstW ps st c from hc2.1)).symm⟩ ⟨rfl, rfl, rfl, rfl, rfl, rfl, rfl⟩ (RLe.refl _) qS
  ·try simp only [zk] at hc2
   have eg : grant (firstW ps st) w c b d = d := if_neg (by rintro ⟨x1, x2⟩; have := hc2 x1; simp_all)
   refine zK ?_
   refine WE.cut (b, d) ⟨by rw [eg], by split; have := hc2 (by assumption); simp_all; rfl⟩ ⟨rfl, rfl, rfl, rfl, rfl, rfl, rfl⟩ (RLe.refl _) qS



theorem RDef_ok {R : Ro} {pa wa : Option Addr} {pc wc : Nat} {ps : List Pkt} {w : List Int} (hp : RS R 3 encP pa ps) (hwr : RS R 1 encI wa w) {cap : Int} {ticks : Nat} (w0 : World) (hok0 : wrunE 6000 cap ticks w ps = 0) (E : List Ent) :
  K.Fn Tryz.prog 66 [.int .i64 cap, .slice wa w.length wc, .slice pa ps.length pc, .int .i64 ticks] w0 R E (fun v R' E' => ∃ (da oa : Option Addr) (dc oc : Nat) (rows : List Sl) (st : St), st = rrun ps (defRc ps w) cap w.length ticks (def0 w.length) ∧ v = .tuple #[.agg #[.slice da st.done.length dc, .slice oa rows.length oc], .int .i64 0] ∧ RS R' 1 encI da st.done ∧ rows.map Sl.xs = st.sent ∧ (∀ r ∈ rows, r.a.isSome = true) ∧ RInv ps w.length (ticks + 1) (ticks * cap) st ∧ (.sl 22 1 oa oc (rows.map encS) :: (rows.map (rowE 3) ++ E)).Sublist E') := by
 obtain ⟨hl0, hkw⟩ := wrunE_ok hok0
 have hw := okW_iff.1 hkw
 obtain ⟨hok, hvv, hck, c1, c2, c3, c4, c5, c6, hs, hf⟩ := lrunE_ok hl0
 have hlw := hwr.len
 have hla := hp.len
 have hpR := hp
 have hwR := hwr
 have hcap : 1 ≤ cap ∧ cap ≤ 1000000 := by omega
 have hsz : ∀ p ∈ ps, 1 ≤ p.size ∧ p.size ≤ 1000000 := fun p hp => by have := hok.at hp; omega
 have hs1 : ∀ p ∈ ps, 1 ≤ p.size := fun p hp => (hsz p hp).1
 have hpl := hok.len
 have hn0 : 0 < w.length := by omega
 have hBt : ∀ k : Nat, k ≤ ticks → (k : Int) * cap ≤ 2000000000 := fun k hk => by have := Int.mul_le_mul (show (k : Int) ≤ 2000 by omega) hcap.2 (by omega) (by omega); omega
 have hwait : Waiting ps (defRc ps w) := def_waiting
 have hz15 : ∀ p ∈ ps, 1 ≤ p.size ∧ p.size ≤ 1500 := fun p hp => by have := hok.at hp; omega
 have hpg0 := def0_ok hn0
 refine fE 81 Tryz.func66 ?_
 refine zQ (zG ?_)
 refine zA fun b8 => ?_
 refine zR 1 rfl (zN (zU (zQ (zQ (zG (zR 5 rfl ?_))))))
 refine WG.callV en105 rfl rfl (by decide) (CallOp.mk' rfl rfl rfl rfl) (fun _ => rfl) (fun hg => (show (if validate ps ≠ 0 then validate ps else checkE cap w.length ticks ps) = 0 by simp [hvv, hck]) ▸ BadR_V hp) ?_
 refine zR 1 rfl (zN (zU (zQ (zG (zR 2 rfl (zN (zU ?_)))))))
 refine W.condN rfl (fun hc0 => ?_) (fun hc0 => ?_)
 ·try dsimp only at hc0
  exact absurd rfl hc0
 ·try dsimp only at hc0
  refine zK (zU (zQ (zQ (zG (zR 1 rfl ?_)))))
  refine WG.callV en114 rfl rfl qD (CallOp.mk' rfl rfl rfl rfl) (fun _ => rfl) (fun hg => hkw ▸ Right20_V hwr) ?_
  refine zR 1 rfl (zN (zU ?_))
  refine W.cond rfl (fun hc1 => ?_) (fun hc1 => ?_)
  ·try simp only [zk] at hc1
   simp at hc1
  ·try simp only [zk] at hc1
   refine zK (zU (zQ (zG (zR 3 rfl ?_))))
   refine WL.call en106 rfl rfl qD (CallOp.mkT rfl rfl rfl rfl) (NewR_C w0 qO qO _) ?_
   rintro _ R1 E1 hR1 ⟨ga, da, oa, gc, dc, oc, rows, rfl, hgv, hdn, hoa, hrx, hra, hsub⟩
   refine WL.subE hsub ?_
   refine WL.perm (List.perm_middle (l₁ := _ :: rows.map (rowE 3))) ?_
   refine zA fun b11 => ?_
   refine zE 0 ?_
   refine zN (zU (zQ (zG (zR 1 rfl ?_))))
   refine WL.call en115 rfl rfl qD (CallOp.mkT rfl rfl rfl rfl) (Begin20_C (hwr.mono hR1) qO w0 _) ?_
   rintro _ _ E20 - ⟨bd, rfl, rfl, hsub20⟩
   refine WL.subE hsub20 ?_
   refine zA fun b12 => ?_
   refine zE 0 ?_
   refine zN (zU (zQ (zB ?_)))
   refine W.loop (β := Ro × Option Addr × Option Addr × Nat × Nat × St × (Nat × Bool × List Int) × List Sl) (fun (Rk, ga, da, gc, dc, st, g, rows) => RLe R Rk ∧ RS Rk 1 encI ga st.given ∧ RS Rk 1 encI da st.done ∧ rows.map Sl.xs = st.sent ∧ (∀ r ∈ rows, r.a.isSome = true) ∧ RInv ps w.length (st.time + 1) ((st.time : Int) * cap) st ∧ st.time ≤ ticks ∧ (rticks ps (defRc ps w) cap (ticks - st.time) st g).1 = rrun ps (defRc ps w) cap w.length ticks (def0 w.length) ∧ DOk w.length g.1 g.2.1 g.2.2) (fun (Rk, ga, da, gc, dc, st, g, rows) => [(0, true, .int .i64 cap), (1, true, .slice wa w.length wc), (2, true, .slice pa ps.length pc), (3, true, .int .i64 ticks), (8, true, .pointer (some ⟨b8, 0, none⟩)), (11, true, .pointer (some ⟨b11, 0, none⟩)), (12, true, .pointer (some ⟨b12, 0, none⟩))]) (fun (Rk, _, _, _, _, _, _, _) => Rk) (fun (Rk, ga, da, gc, dc, st, g, rows) => .blk b12 [.int .i64 (g.1 : Int), .bool g.2.1, .slice (some ⟨bd, 0, none⟩) w.length w.length] :: .sl 3 1 (some ⟨bd, 0, none⟩) w.length ((g.2.2).map encI) :: .blk b11 [.int .i64 st.time, .slice ga st.given.length gc, .int .i64 st.now, .slice da st.done.length dc, .slice oa rows.length oc] :: .blk b8 [.slice none 0 0, .slice none 0 0] :: .sl 22 1 oa oc (rows.map encS) :: (rows.map (rowE 3) ++ E)) (fun (Rk, ga, da, gc, dc, st, g, rows) => ticks - st.time) ((R1, ga, da, gc, dc, rstart ps w.length, (def0 w.length), rows)) (⟨hR1, hgv, hdn, hrx, hra, (show RInv ps w.length 1 (((0 : Nat) : Int) * cap) (rstart ps w.length) by simpa using RInv.start (classes := w.length) hs1), Nat.zero_le _, rfl, hpg0⟩) ⟨rfl, rfl, rfl, rfl, rfl, rfl, rfl, rfl⟩ (RLe.refl _) (by simp only [rstart, List.length_replicate]; exact qS) ?_
   intro st hst
   obtain ⟨Rk, ga, da, gc, dc, st0, g0, rows⟩ := st
   obtain ⟨hRk, hgv, hdn, hrx, hra, hinv, htk, hfin, hpg⟩ := hst
   dsimp only at hRk hgv hdn hrx hra hinv htk hfin hpg ⊢
   have hp := hp.mono hRk
   have hlr : rows.length = w.length := by rw [← hinv.slen, ← hrx, List.length_map]
   refine zQ (zQ (zG (zR 1 rfl ?_)))
   refine yL (Rd.add (Rd.blk 2 rfl) _) ?_
   refine zR 2 rfl (zN (zU ?_))
   refine W.condD rfl (fun hc2 => ?_) (fun hc2 => ?_)
   ·try dsimp only at hc2
    refine zK (zU (zB (zQ (zG ?_))))
    refine yL (Rd.blk 2 rfl) ?_
    refine WL.perm perm_out4 ?_
    refine WL.call en107 rfl rfl (by decide) (CallOp.mkT rfl rfl rfl rfl) (BeginR_C w0 hoa (fun r hr => ⟨hra r hr, by have := (hinv.rows r.xs (by rw [← hrx]; exact List.mem_map_of_mem hr)).1; omega⟩) (by omega) _) ?_
    rintro _ _ E2 - ⟨rows2, rfl, rfl, hrx2, hra2, hsub⟩
    refine WL.subE hsub ?_
    refine WL.perm perm_out4.symm ?_
    have hl2 : rows2.length = rows.length := by have := congrArg List.length hrx2; simpa using this
    refine zE 2 ?_
    refine zN (zU (zQ (zQ (zG (zR 2 rfl (zN (zU (zB ?_))))))))
    refine W.loop (β := Ro × Option Addr × Option Addr × Nat × Nat × St × (Nat × Bool × List Int) × List Sl × Int) (fun (Rk, ga, da, gc, dc, st, g, rows, left) => RLe R Rk ∧ RS Rk 1 encI ga st.given ∧ RS Rk 1 encI da st.done ∧ rows.map Sl.xs = st.sent ∧ (∀ r ∈ rows, r.a.isSome = true) ∧ (∃ k : Nat, rinner ps (defRc ps w) k left st g = rinner ps (defRc ps w) cap.toNat cap (rbegin st0) g0 ∧ left ≤ k) ∧ 0 ≤ left ∧ left ≤ cap ∧ st.time = st0.time ∧ (∃ B, RInv ps w.length (st0.time + 2) B st ∧ B + left ≤ ((st0.time : Int) + 1) * cap) ∧ DOk w.length g.1 g.2.1 g.2.2) (fun (Rk, ga, da, gc, dc, st, g, rows, left) => [(0, true, .int .i64 cap), (1, true, .slice wa w.length wc), (2, true, .slice pa ps.length pc), (3, true, .int .i64 ticks), (8, true, .pointer (some ⟨b8, 0, none⟩)), (11, true, .pointer (some ⟨b11, 0, none⟩)), (12, true, .pointer (some ⟨b12, 0, none⟩)), (13, true, .int .i64 left)]) (fun (Rk, _, _, _, _, _, _, _, _) => Rk) (fun (Rk, ga, da, gc, dc, st, g, rows, left) => .blk b12 [.int .i64 (g.1 : Int), .bool g.2.1, .slice (some ⟨bd, 0, none⟩) w.length w.length] :: .sl 3 1 (some ⟨bd, 0, none⟩) w.length ((g.2.2).map encI) :: .blk b11 [.int .i64 st.time, .slice ga st.given.length gc, .int .i64 st.now, .slice da st.done.length dc, .slice oa rows.length oc] :: .blk b8 [.slice none 0 0, .slice none 0 0] :: .sl 22 1 oa oc (rows.map encS) :: (rows.map (rowE 3) ++ E)) (fun (Rk, ga, da, gc, dc, st, g, rows, left) => left.toNat) ((Rk, ga, da, gc, dc, rbegin st0, g0, rows2, cap)) (⟨hRk, hgv, hdn, by rw [hrx2, hrx]; rfl, hra2, ⟨cap.toNat, rfl, by (try dsimp only); omega⟩, by (try dsimp only); omega, by (try dsimp only); omega, rfl, ⟨_, hinv.begin (by omega), by (try dsimp only); rw [Int.add_mul]; omega⟩, hpg⟩) ⟨rfl, rfl, rfl, rfl, rfl, rfl, rfl, rfl, rfl⟩ (RLe.refl _) (by rw [← hl2]; exact qS) ?_
    intro st hst
    obtain ⟨Rk, ga, da, gc, dc, st1, g1, rows, left⟩ := st
    obtain ⟨hRk, hgv, hdn, hrx, hra, ⟨k, hin, hkk⟩, hl0, hlc, htime, ⟨B, hinv, hB⟩, hpg⟩ := hst
    dsimp only at hRk hgv hdn hrx hra hin hkk hl0 hlc htime hinv hB hpg ⊢
    have hp := hpR.mono hRk
    have hwr := hwR.mono hRk
    have hB1 := hBt (st0.time + 1) (by omega)
    have hB2 : ((st0.time + 1 : Nat) : Int) = (st0.time : Int) + 1 := by omega
    rw [hB2] at hB1
    have hrc1 : (rpick (defRc ps w) st1 g1).1 = -1 ∨ (0 ≤ (rpick (defRc ps w) st1 g1).1) := by
     unfold rpick
     split
     ·rcases hwait st1 g1 with h | h
      ·exact .inl h
      ·exact .inr h.1
     ·rcases hinv.now with h | h
      ·exact .inl h
      ·exact .inr h.1
    refine zQ (zQ (zG (zR 2 rfl (zN (zU ?_)))))
    refine W.condD rfl (fun hc3 => ?_) (fun hc3 => ?_)
    ·try dsimp only at hc3
     refine zK (zU (zB ?_))
     refine W.seqCut (β := St × (Nat × Bool × List Int)) (fun (st2, g2) => st2 = { st1 with now := (rpick (defRc ps w) st1 g1).1 } ∧ g2 = (rpick (defRc ps w) st1 g1).2) (fun (st2, g2) => [(0, true, .int .i64 cap), (1, true, .slice wa w.length wc), (2, true, .slice pa ps.length pc), (3, true, .int .i64 ticks), (8, true, .pointer (some ⟨b8, 0, none⟩)), (11, true, .pointer (some ⟨b11, 0, none⟩)), (12, true, .pointer (some ⟨b12, 0, none⟩)), (13, true, .int .i64 left)]) (fun _ => Rk) (fun (st2, g2) => .blk b12 [.int .i64 (g2.1 : Int), .bool g2.2.1, .slice (some ⟨bd, 0, none⟩) w.length w.length] :: .sl 3 1 (some ⟨bd, 0, none⟩) w.length ((g2.2.2).map encI) :: .blk b11 [.int .i64 st2.time, .slice ga st2.given.length gc, .int .i64 st2.now, .slice da st2.done.length dc, .slice oa rows.length oc] :: .blk b8 [.slice none 0 0, .slice none 0 0] :: .sl 22 1 oa oc (rows.map encS) :: (rows.map (rowE 3) ++ E)) ?_ ?_
     ·
      intro st hst
      obtain ⟨st2, g2⟩ := st
      obtain ⟨hs2, hg2⟩ := hst
      dsimp only at hs2 hg2 ⊢
      have hs2n : st2.now = (rpick (defRc ps w) st1 g1).1 := by rw [hs2]
      have hinv2 : RInv ps w.length (st0.time + 2) B st2 := by rw [hs2]; exact hinv.pick hs1 hwait
      have hpg2 : DOk w.length g2.1 g2.2.1 g2.2.2 := by rw [hg2]; exact defRc_ok hw hz15 hf hpg
      have hgv : RS Rk 1 encI ga st2.given := by rw [hs2]; exact hgv
      have hdn : RS Rk 1 encI da st2.done := by rw [hs2]; exact hdn
      have hrx : rows.map Sl.xs = st2.sent := by rw [hs2]; exact hrx
      refine zQ (zQ (zG (zR 1 rfl ?_)))
      refine yL (Rd.add (Rd.blk 2 rfl) _) ?_
      refine zR 1 rfl (zN (zU ?_))
      refine W.condE rfl (fun hc4 => ?_) (fun hc4 => ?_)
      ·try dsimp only at hc4
       have hend : rinner ps (defRc ps w) cap.toNat cap (rbegin st0) g0 = (st2, g2) := by rw [← hin, rinner_none hkk (by omega) (by rw [← hs2n]; exact hc4), hs2, hg2]
       have hinv := hinv2
       have htime : st2.time = st0.time := by rw [hs2]; exact htime
       have hpg := hpg2
       refine zX ?_
       refine wx ?_
       refine WE.blk_other rfl ?_
       refine wx (zY (zU (zG (zR 1 rfl ?_))))
       refine yL (Rd.add (Rd.blk 2 rfl) _) ?_
       refine yA ?_
       refine zR 1 rfl ?_
       refine zF 2 ?_
       refine zN (zL ?_)
       refine WE.again (Rk, ga, da, gc, dc, { st2 with time := st2.time + 1 }, g2, rows) ⟨hRk, hgv, hdn, hrx, hra, ?_, by (try dsimp only); omega, ?_, hpg⟩ (by (try dsimp only); omega) ⟨rfl, rfl, rfl, rfl, rfl, rfl, rfl, rfl⟩ (RLe.refl _) qS
       ·have := hinv.tick.mono (B' := ((st0.time + 1 : Nat) : Int) * cap) (by rw [hB2]; omega)
        dsimp only at this ⊢
        rw [htime] at this ⊢; exact this
       ·dsimp only
        rw [← hfin, show ticks - st0.time = (ticks - (st0.time + 1)) + 1 by omega, rticks, htime]
        have hrt : rtick ps (defRc ps w) cap st0 g0 = ({ st2 with time := st0.time + 1 }, g2) := by unfold rtick; rw [hend]; dsimp only; rw [htime]
        rw [hrt]
      ·try dsimp only at hc4
       refine zK (zU (zQ (zG (zR 1 rfl (zN (zU (zQ (zG ?_))))))))
       refine yL (Rd.blk 2 rfl) ?_
       refine zR 2 rfl ?_
       refine WL.perm perm_out4 ?_
       refine WL.call en109 rfl rfl qD (CallOp.mkT rfl rfl rfl rfl) (SendR_C (classes := w.length) (B := B) (len := st0.time + 2) w0 hoa hp hgv hdn hinv2 qO qO hrx hra hc4 qO hsz hf qO _) ?_
       rintro _ R3 E3 hR3 ⟨ga2, da2, gc2, dc2, rows3, rfl, hgv3, hdn3, hrx3, hra3, hsub⟩
       refine WL.subE hsub ?_
       refine WL.perm perm_out4.symm ?_
       obtain ⟨hs4, hs5, hs6⟩ := hinv2.send hf (by omega) hc4 (most := left) (by omega)
       have hl3 : rows3.length = rows.length := by
        have h1 := congrArg List.length hrx3
        have h2 := hs4.slen
        have h3 := hinv2.slen
        have h4 := congrArg List.length hrx
        simp only [List.length_map] at h1 h4
        omega
       refine zR 3 rfl ?_
       refine zE 2 ?_
       refine zR 1 rfl (zN (zU (zG (zR 2 rfl ?_))))
       refine yS ?_
       refine zR 1 rfl (zN (zL ?_))
       have hin2 : rinner ps (defRc ps w) (k - 1) (left - rsendN ps left st2) (rsend ps left st2) g2 = rinner ps (defRc ps w) cap.toNat cap (rbegin st0) g0 := by rw [← hin, rinner_some hkk (by omega) (by rw [← hs2n]; exact hc4), hs2, hg2]
       refine WE.again (R3, ga2, da2, gc2, dc2, rsend ps left st2, g2, rows3, left - rsendN ps left st2) ⟨hRk.trans hR3, hgv3, hdn3, hrx3, hra3, ⟨k - 1, hin2, by (try dsimp only); omega⟩, by (try dsimp only); omega, by (try dsimp only); omega, by dsimp only; rw [rsend_time, hs2]; exact htime, ⟨_, hs4, by (try dsimp only); omega⟩, hpg2⟩ (by (try dsimp only); omega) ⟨rfl, rfl, rfl, rfl, rfl, rfl, rfl, rfl, rfl⟩ (RLe.refl _) (by rw [hl3]; exact qS)
     ·
      refine zQ (zG (zR 1 rfl ?_))
      refine yL (Rd.add (Rd.blk 2 rfl) _) ?_
      refine zR 2 rfl ?_
      refine yG (Rd.blkC 2 rfl) ?_
      refine yP ?_
      refine WG.callV en112 rfl rfl qD (CallOp.mk' rfl rfl rfl rfl) qE (fun hg => FirstR_V hp hgv hinv.glen (cls := -1)) ?_
      refine yP ?_
      refine yN ?_
      refine zN (zU ?_)
      refine W.cond rfl (fun hc5 => ?_) (fun hc5 => ?_)
      ·try simp only [zk] at hc5
       have hpk : rpick (defRc ps w) st1 g1 = defGo (firstW ps st1) (szOf ps) w (defF w.length) g1.1 g1.2.1 g1.2.2 := by unfold rpick defRc; rw [if_pos hc5.1, if_pos hc5.2]
       refine zG ?_
       refine yL (Rd.blk 0 rfl) ?_
       refine yL (Rd.blk 2 rfl) ?_
       refine zR 2 rfl ?_
       refine WL.callAt 1 en116 rfl rfl qD (CallOp.mkT rfl rfl rfl rfl) rfl (Choose20_C (s := g1) hp hgv hinv.glen hwr hw hn0 hz15 (firstW_dsoon hpg hf hc5.2) hpg w0 _) ?_
       rintro _ _ _ N - ⟨rfl, rfl, rfl⟩
       refine WL.subE (List.sublist_append_right _ _) ?_
       refine zR 3 rfl ?_
       refine zE 0 ?_
       refine zR 1 rfl ?_
       refine zF 2 ?_
       refine zN ?_
       refine WE.cut ({ st1 with now := (defGo (firstW ps st1) (szOf ps) w (defF w.length) g1.1 g1.2.1 g1.2.2).1 }, (defGo (firstW ps st1) (szOf ps) w (defF w.length) g1.1 g1.2.1 g1.2.2).2) (by rw [hpk]; exact ⟨rfl, rfl⟩) ⟨rfl, rfl, rfl, rfl, rfl, rfl, rfl, rfl, rfl⟩ (RLe.refl _) qS
      ·try simp only [zk] at hc5
       have hpk : rpick (defRc ps w) st1 g1 = (st1.now, g1) := by
        unfold rpick defRc
        by_cases h : st1.now = -1
        ·rw [if_pos h, if_neg (by have := hc5 h; omega), h]
        ·rw [if_neg h]
       refine zK ?_
       refine WE.cut (st1, g1) (by rw [hpk]; exact ⟨rfl, rfl⟩) ⟨rfl, rfl, rfl, rfl, rfl, rfl, rfl, rfl, rfl⟩ (RLe.refl _) qS
    ·try dsimp only at hc3
     have hend : rinner ps (defRc ps w) cap.toNat cap (rbegin st0) g0 = (st1, g1) := by rw [← hin, rinner_stop (by omega)]
     refine zX ?_
     refine wx (wx (zY (zU (zG (zR 1 rfl ?_)))))
     refine yL (Rd.add (Rd.blk 2 rfl) _) ?_
     refine yA ?_
     refine zR 1 rfl ?_
     refine zF 2 ?_
     refine zN (zL ?_)
     refine WE.again (Rk, ga, da, gc, dc, { st1 with time := st1.time + 1 }, g1, rows) ⟨hRk, hgv, hdn, hrx, hra, ?_, by (try dsimp only); omega, ?_, hpg⟩ (by (try dsimp only); omega) ⟨rfl, rfl, rfl, rfl, rfl, rfl, rfl, rfl⟩ (RLe.refl _) qS
     ·have := hinv.tick.mono (B' := ((st0.time + 1 : Nat) : Int) * cap) (by rw [hB2]; omega)
      dsimp only at this ⊢
      rw [htime] at this ⊢; exact this
     ·dsimp only
      rw [← hfin, show ticks - st0.time = (ticks - (st0.time + 1)) + 1 by omega, rticks, htime]
      have hrt : rtick ps (defRc ps w) cap st0 g0 = ({ st1 with time := st0.time + 1 }, g1) := by unfold rtick; rw [hend]; dsimp only; rw [htime]
      rw [hrt]
   ·try dsimp only at hc2
    have hst : st0.time = ticks := by omega
    have hfin2 : st0 = rrun ps (defRc ps w) cap w.length ticks (def0 w.length) := by rw [← hfin, hst, Nat.sub_self]; rfl
    rw [hst] at hinv
    refine zX ?_
    refine wx (wx (zY (zU (zQ (zG (zR 1 rfl ?_))))))
    refine yL (Rd.add (Rd.blk 2 rfl) _) ?_
    refine zE 3 ?_
    refine zR 1 rfl (zN (zU (zT ?_)))
    refine WE.retF tab_ok [_, _] rfl ⟨⟨_, _, _, rfl, rfl, rfl, qB, rfl⟩, rfl, trivial⟩ (hRk) ?_
    exact ⟨da, oa, dc, oc, rows, st0, hfin2, rfl, hdn, hrx, hra, hinv, qS⟩


theorem RDef_any {R : Ro} {pa wa : Option Addr} {pc wc l : Nat} {ps : List Pkt} {w : List Int} (hp : RS R 3 encP pa ps) (hl : ps.length = l) (hwr : RS R 1 encI wa w) {wl : Nat} (hwl : w.length = wl) {cap ticks : Int} (w0 : World) (E : List Ent) :
  K.Fn Tryz.prog 66 [.int .i64 cap, .slice wa wl wc, .slice pa l pc, .int .i64 ticks] w0 R E (fun v R' E' => ∃ (da oa : Option Addr) (dc oc : Nat) (rows : List Sl), v = .tuple #[.agg #[.slice da (outOf (wrunE 6000 cap ticks w ps) (mrun ps (defCh ps w) cap w.length ticks.toNat (def0 w.length))).1.length dc, .slice oa rows.length oc], .int .i64 (wrunE 6000 cap ticks w ps)] ∧ RS R' 1 encI da (outOf (wrunE 6000 cap ticks w ps) (mrun ps (defCh ps w) cap w.length ticks.toNat (def0 w.length))).1 ∧ RS R' 1 encS oa rows ∧ (∀ r ∈ rows, RS R' 1 encI r.a r.xs) ∧ rows.map Sl.xs = (outOf (wrunE 6000 cap ticks w ps) (mrun ps (defCh ps w) cap w.length ticks.toNat (def0 w.length))).2 ∧ E.Sublist E') := by
 subst hl
 subst hwl
 by_cases h : wrunE 6000 cap ticks w ps = 0
 ·obtain ⟨hl0, hkw⟩ := wrunE_ok h
  have hw := okW_iff.1 hkw
  obtain ⟨hok, hvv, hck, c1, c2, c3, c4, c5, c6, hs, hf⟩ := lrunE_ok hl0
  obtain ⟨nt, rfl⟩ := Int.eq_ofNat_of_zero_le c5
  simp only [Int.toNat_natCast]
  have hrf := sim_run (def_fair hw (fun p hp => by have := hok.at hp; omega) hf hok.sorted) (fun p hp => (hs p hp).1) (classes := w.length) (fun p hp => by have := hf p hp; omega) (def_alike hw (fun p hp => by have := hok.at hp; omega) hf hok.sorted) (cap := cap) (by omega) (sg := (def0 w.length)) (g := (def0 w.length)) (def_start (by omega) _) rfl nt
  intro x hm
  refine (RDef_ok (pc := pc) hp hwr w0 h E x hm).mono ?_
  rintro e w' ⟨v, R', E', rfl, hR, hm', da, oa, dc, oc, rows, st, rfl, rfl, hd, h1, h2, h3, hsub⟩
  have hm1 := hm'.sub (RLe.refl _) hsub
  obtain ⟨R2, k1, k2, k3⟩ := hm1.freeze (i := 0) (enc := encS) (xs := rows) rfl
  obtain ⟨R3, j1, j2, j3⟩ := Mem.freezeRows (rows := rows) (G := E) k3
  unfold outOf
  rw [if_neg (by omega), h]
  refine ⟨_, R3, E, rfl, hR.trans (k1.trans j1), j3, da, oa, dc, oc, rows, ?_, ?_, k2.mono j1, j2, ?_, List.Sublist.refl _⟩
  ·dsimp only; rw [← hrf.1]
  ·dsimp only; rw [← hrf.1]; exact hd.mono (k1.trans j1)
  ·dsimp only; rw [← hrf.2]; exact h1
 ·refine (RDef_err hp hwr w0 h E).mono ?_
  rintro v R' E' hR ⟨rfl, rfl, hsub⟩
  unfold outOf
  rw [if_pos h]
  exact ⟨none, none, 0, 0, [], rfl, rs_nil, rs_nil, by simp, rfl, hsub⟩

end Go.Proofs.YthpblaoehlgpfaaGreat

/- What a class is sent while it is backlogged, plain, whatever the choice: an invariant of the rounds is carried from tick to tick. No condition. -/
namespace Go.Proofs.YthpblaoehlgpfaaGreat.M
open Go Go.Proofs.YthpblaoehlgpfaaGreat.K

/-- the bytes of a class that have been begun -/
def begK (k : Int) : List Pkt → List Bool → Int
  | p :: ps, b :: bs => (if b = true ∧ p.flow = k then p.size else 0) + begK k ps bs
  | _, _ => 0
theorem begK_set (k : Int) : ∀ (ps : List Pkt) (bs : List Bool) (i : Nat), i < ps.length → i < bs.length → nth bs i = false → begK k ps (bs.set i true) = begK k ps bs + (if (nth ps i).flow = k then (nth ps i).size else 0)
 | [], _, i, h, _, _ => by simp at h
 | _ :: _, [], i, _, h, _ => by simp at h
 | p :: ps, b :: bs, 0, _, _, hb => by
  have : b = false := hb
  subst this
  simp only [List.set_cons_zero, begK, show nth (p :: ps) 0 = p from rfl]
  simp; omega
 | p :: ps, b :: bs, i + 1, h1, h2, hb => by
  have := begK_set k ps bs i (by simpa using h1) (by simpa using h2) hb
  simp only [List.set_cons_succ, begK, this]
  rw [show nth (p :: ps) (i + 1) = nth ps i from rfl]; omega
/-- a class of which less has been begun than has arrived waits -/
theorem begK_wait {k t : Int} (hk : 0 ≤ k) : ∀ (ps : List Pkt) (bs : List Bool), bs.length = ps.length → (∀ p ∈ ps, 0 ≤ p.size) → begK k ps bs < pbytes k (t + 1) ps → ∃ i, i < ps.length ∧ nth bs i = false ∧ (nth ps i).flow = k ∧ (nth ps i).time ≤ t
 | [], _, _, _, h => by simp [begK, pbytes] at h
 | _ :: _, [], hl, _, _ => by simp at hl
 | p :: ps, b :: bs, hl, hs, h => by
  have hp := hs p (by simp)
  by_cases h0 : b = false ∧ p.flow = k ∧ p.time ≤ t
  ·exact ⟨0, by simp, h0.1, h0.2.1, h0.2.2⟩
  ·have h1 : begK k ps bs < pbytes k (t + 1) ps := by
    simp only [begK, pbytes] at h
    by_cases hh : hit k (t + 1) p
    ·rw [if_pos hh] at h
     have hb : b = true ∧ p.flow = k := by
      unfold hit at hh
      have hf : p.flow = k := by omega
      refine ⟨?_, hf⟩
      cases b with
      | true => rfl
      | false => exact absurd ⟨rfl, hf, by omega⟩ h0
     rw [if_pos hb] at h
     omega
    ·rw [if_neg hh] at h
     split at h <;> omega
   obtain ⟨i, g1, g2, g3, g4⟩ := begK_wait hk ps bs (by simpa using hl) (fun q hq => hs q (by simp [hq])) h1
   exact ⟨i + 1, by simpa using g1, g2, g3, g4⟩

/-- the sums of a class: begun, less what is still to be sent of the open packet -/
def Cl {σ : Type} (ps : List Pkt) (k : Nat) (col : Nat) (s : RS σ) : Prop :=
  nth (nth s.sent k) col = begK k ps s.ms.begun - (if 0 ≤ s.cur ∧ (nth ps s.cur.toNat).flow = k then s.rest else 0)
/-- an invariant of the rounds: of the choice's state, the open packet and what is left of it, what the class and all others have been sent -/
structure Per {σ : Type} (ps : List Pkt) (ch : MS → σ → Int × Nat × σ) (good : MS → σ → Prop) (k : Nat) (J : σ → Int → Int → Int → Int → Prop) : Prop where
  pick : ∀ ms sg r own oth, good ms sg → ms.begun.length = ps.length → (∃ i, i < ps.length ∧ nth ms.begun i = false ∧ (nth ps i).flow = k ∧ (nth ps i).time ≤ ms.now) → J sg (-1) r own oth → 0 ≤ (ch ms sg).1 → J (ch ms sg).2.2 (ch ms sg).1 (nth ps (ch ms sg).1.toNat).size own oth
  send : ∀ (sg : σ) (cur rest own oth n : Int), 0 ≤ cur → cur < ps.length → 1 ≤ n → n ≤ rest → J sg cur rest own oth →
    J sg (if rest - n = 0 then -1 else cur) (rest - n) (own + (if (nth ps cur.toNat).flow = k then n else 0)) (oth + (if (nth ps cur.toNat).flow = k then 0 else n))
  none : ∀ sg c c' r r' own oth, c < 0 → c' < 0 → J sg c r own oth → J sg c' r' own oth
section
variable {σ : Type} {ps : List Pkt} {ch : MS → σ → Int × Nat × σ} {good : MS → σ → Prop} {rel : Nat → Nat → Prop} {classes col k : Nat} {s : RS σ} {J : σ → Int → Int → Int → Int → Prop}
theorem Cl.pickup (hg : Fair ps ch good rel) (hw : Wk ps classes good rel col s) (h : Cl ps k col s) : Cl ps k col (pickup ps ch s) := by
 unfold M.pickup
 by_cases hc : 0 ≤ s.cur
 ·rw [if_pos hc]; exact h
 ·rw [if_neg hc]
  unfold Cl at h
  rw [if_neg (by omega)] at h
  by_cases hr : (ch s.ms s.sg).1 < 0
  ·simp only [hr, if_true]
   unfold Cl
   dsimp only
   rw [if_neg (by omega)]; exact h
  ·simp only [hr, if_false]
   have hi := hg.idx _ _ hw.good hw.blen (by omega)
   obtain ⟨w1, w2⟩ := hg.waits _ _ hw.good hw.blen (by omega)
   have hb := hw.blen
   unfold Cl
   dsimp only
   rw [begK_set _ _ _ _ (by omega) (by omega) w1, h]
   by_cases hf : (nth ps (ch s.ms s.sg).1.toNat).flow = k
   ·rw [if_pos hf, if_pos ⟨by omega, hf⟩]; omega
   ·rw [if_neg hf, if_neg (fun h => hf h.2)]; omega
/-- what is sent of the class: n or nothing -/
theorem Cl.send (hfl : ∀ p ∈ ps, 0 ≤ p.flow ∧ p.flow < classes) (hk : k < classes) {t : Nat} (hw : Wk ps classes good rel (t + 1) s) (h : Cl ps k (t + 1) s) (hc : 0 ≤ s.cur) (hl : 0 < s.ms.left) :
  ∃ n, 1 ≤ n ∧ n ≤ s.rest ∧ (M.send ps t s).ms.left = s.ms.left - n ∧ (M.send ps t s).rest = s.rest - n ∧ (M.send ps t s).cur = (if s.rest - n = 0 then -1 else s.cur) ∧ (M.send ps t s).sg = s.sg ∧ (M.send ps t s).ms.begun = s.ms.begun ∧
   nth (nth (M.send ps t s).sent k) (t + 1) = nth (nth s.sent k) (t + 1) + (if (nth ps s.cur.toNat).flow = k then n else 0) ∧ Cl ps k (t + 1) (M.send ps t s) := by
 obtain ⟨c1, c2, c3⟩ := hw.cur hc
 have hfl' := hfl _ (nth_mem (show s.cur.toNat < ps.length by omega))
 have hlen := hw.slen
 refine ⟨if s.ms.left < s.rest then s.ms.left else s.rest, by split <;> omega, by split <;> omega, rfl, rfl, rfl, rfl, rfl, ?_⟩
 have hn : (if s.ms.left < s.rest then s.ms.left else s.rest) ≤ s.rest := by split <;> omega
 have hcol : nth (nth (M.send ps t s).sent k) (t + 1) = nth (nth s.sent k) (t + 1) + (if (nth ps s.cur.toNat).flow = k then (if s.ms.left < s.rest then s.ms.left else s.rest) else 0) := by
  unfold M.send
  dsimp only
  by_cases hf : (nth ps s.cur.toNat).flow = k
  ·have e : (nth ps s.cur.toNat).flow.toNat = k := by omega
   rw [if_pos hf, e, nth_set_self (by omega), nth_set_self]
   have := hw.rlen _ (nth_mem (xs := s.sent) (k := k) (by omega))
   omega
  ·rw [if_neg hf, nth_set_ne (by omega)]; omega
 refine ⟨hcol, ?_⟩
 unfold Cl at h ⊢
 rw [hcol, h]
 unfold M.send
 dsimp only
 generalize (if s.ms.left < s.rest then s.ms.left else s.rest) = n at hn ⊢
 by_cases hf : (nth ps s.cur.toNat).flow = k
 ·rw [if_pos ⟨hc, hf⟩, if_pos hf]
  by_cases hz : s.rest - n = 0
  ·simp only [hz, if_true]; rw [if_neg (by omega)]; omega
  ·simp only [hz, if_false]; rw [if_pos ⟨hc, hf⟩]; omega
 ·rw [if_neg (fun h => hf h.2), if_neg hf]
  by_cases hz : s.rest - n = 0
  ·simp only [hz, if_true]; rw [if_neg (by omega)]; omega
  ·simp only [hz, if_false]; rw [if_neg (fun h => hf h.2)]; omega
theorem Per.inner (hg : Fair ps ch good rel) (hb : Busy ps ch good) (hJ : Per ps ch good k J) (hs : ∀ p ∈ ps, 1 ≤ p.size) (hfl : ∀ p ∈ ps, 0 ≤ p.flow ∧ p.flow < classes) (hk : k < classes) {t : Nat} : ∀ (j : Nat) (s : RS σ) (own oth : Int), Wk ps classes good rel (t + 1) s → Cl ps k (t + 1) s → s.ms.now = t → 0 ≤ s.ms.left →
  (J s.sg s.cur s.rest own oth ∨ pbytes k ((t : Int) + 1) ps ≤ nth (nth s.sent k) (t + 1)) →
  Cl ps k (t + 1) (inner ps ch t j s) ∧ nth (nth s.sent k) (t + 1) ≤ nth (nth (inner ps ch t j s).sent k) (t + 1) ∧
   (nth (nth (inner ps ch t j s).sent k) (t + 1) < pbytes k ((t : Int) + 1) ps →
    J (inner ps ch t j s).sg (inner ps ch t j s).cur (inner ps ch t j s).rest (own + (nth (nth (inner ps ch t j s).sent k) (t + 1) - nth (nth s.sent k) (t + 1))) (oth + ((colSum (inner ps ch t j s).sent (t + 1) - colSum s.sent (t + 1)) - (nth (nth (inner ps ch t j s).sent k) (t + 1) - nth (nth s.sent k) (t + 1)))))
 | 0, s, own, oth, hw, hc, hn, hl, h => by
  simp only [M.inner]
  refine ⟨hc, Int.le_refl _, fun hlt => ?_⟩
  rcases h with h | h
  ·simpa using h
  ·omega
 | j + 1, s, own, oth, hw, hc, hn, hl, h => by
  simp only [M.inner]
  by_cases hl0 : s.ms.left ≤ 0
  ·rw [if_pos hl0]
   refine ⟨hc, Int.le_refl _, fun hlt => ?_⟩
   rcases h with h | h
   ·simpa using h
   ·omega
  ·rw [if_neg hl0]
   have hw1 := hw.pickup hg hs
   have hc1 := hc.pickup hg hw
   obtain ⟨e1, e2, e3, e4⟩ := pickup_same ps ch s
   -- the choice
   have hJ1 : nth (nth s.sent k) (t + 1) < pbytes k ((t : Int) + 1) ps → 0 ≤ (M.pickup ps ch s).cur ∧ J (M.pickup ps ch s).sg (M.pickup ps ch s).cur (M.pickup ps ch s).rest own oth := fun hlt => by
    have h := h.resolve_right (by omega)
    by_cases hcur : 0 ≤ s.cur
    ·unfold M.pickup; rw [if_pos hcur]; exact ⟨hcur, h⟩
    ·unfold Cl at hc
     rw [if_neg (fun x => hcur x.1)] at hc
     obtain ⟨i, g1, g2, g3, g4⟩ := begK_wait (k := (k : Int)) (t := (t : Int)) (by omega) ps s.ms.begun hw.blen (fun p hp => by have := hs p hp; omega) (by omega)
     have hr0 : 0 ≤ (ch s.ms s.sg).1 := by
      apply Classical.byContradiction
      intro hneg
      have := hb _ _ hw.good hw.blen (by omega) i g1 (by omega)
      rw [this] at g2; cases g2
     have hp := hJ.pick s.ms s.sg s.rest own oth hw.good hw.blen ⟨i, g1, g2, g3, by omega⟩ (hJ.none _ s.cur _ s.rest _ own oth (by omega) (by omega) h) hr0
     unfold M.pickup
     rw [if_neg hcur]
     dsimp only
     rw [if_neg (by omega)]
     exact ⟨hr0, hp⟩
   by_cases hcn : (M.pickup ps ch s).cur < 0
   ·rw [if_pos hcn]
    refine ⟨hc1, by rw [e3]; exact Int.le_refl _, fun hlt => ?_⟩
    rw [e3] at hlt
    have := (hJ1 hlt).1
    omega
   ·rw [if_neg hcn]
    obtain ⟨n, n1, n2, n3, n4, n5, n6, n7, n8, n9⟩ := Cl.send hfl hk hw1 hc1 (by omega) (by rw [e1]; omega)
    obtain ⟨g1, g2, g3, g4, g5, g6⟩ := hw1.send hfl hg.free (by rw [e2]; exact hn) (by omega) (by rw [e1]; omega)
    have hn0 : 0 ≤ (if (nth ps (M.pickup ps ch s).cur.toNat).flow = (k : Int) then n else 0) := by split <;> omega
    have hcc := hw1.cur (by omega)
    obtain ⟨r1, r2, r3⟩ := Per.inner hg hb hJ hs hfl hk j (M.send ps t (M.pickup ps ch s)) (own + (if (nth ps (M.pickup ps ch s).cur.toNat).flow = (k : Int) then n else 0)) (oth + (if (nth ps (M.pickup ps ch s).cur.toNat).flow = (k : Int) then 0 else n)) g1 n9 (by rw [g5, e2]; exact hn) g3 (by
     by_cases hlt : nth (nth s.sent k) (t + 1) < pbytes k ((t : Int) + 1) ps
     ·left
      have := hJ.send _ _ _ _ _ n (by omega) hcc.1 n1 n2 (hJ1 hlt).2
      rw [n4, n5, n6]; exact this
     ·right; rw [n8, e3]; omega)
    have hcs : colSum (M.send ps t (M.pickup ps ch s)).sent (t + 1) = colSum s.sent (t + 1) + n := by rw [g2, n3, e3]; omega
    refine ⟨r1, by rw [n8, e3] at r2; omega, fun hlt => ?_⟩
    have := r3 hlt
    rw [n8, hcs, e3] at this
    have ea : own + (if (nth ps (M.pickup ps ch s).cur.toNat).flow = (k : Int) then n else 0) + (nth (nth (M.inner ps ch t j (M.send ps t (M.pickup ps ch s))).sent k) (t + 1) - (nth (nth s.sent k) (t + 1) + (if (nth ps (M.pickup ps ch s).cur.toNat).flow = (k : Int) then n else 0))) = own + (nth (nth (M.inner ps ch t j (M.send ps t (M.pickup ps ch s))).sent k) (t + 1) - nth (nth s.sent k) (t + 1)) := by omega
    rw [ea] at this
    have eb : oth + (if (nth ps (M.pickup ps ch s).cur.toNat).flow = (k : Int) then 0 else n) + ((colSum (M.inner ps ch t j (M.send ps t (M.pickup ps ch s))).sent (t + 1) - (colSum s.sent (t + 1) + n)) - (nth (nth (M.inner ps ch t j (M.send ps t (M.pickup ps ch s))).sent k) (t + 1) - (nth (nth s.sent k) (t + 1) + (if (nth ps (M.pickup ps ch s).cur.toNat).flow = (k : Int) then n else 0)))) = oth + ((colSum (M.inner ps ch t j (M.send ps t (M.pickup ps ch s))).sent (t + 1) - colSum s.sent (t + 1)) - (nth (nth (M.inner ps ch t j (M.send ps t (M.pickup ps ch s))).sent k) (t + 1) - nth (nth s.sent k) (t + 1))) := by split <;> omega
    rw [eb] at this
    exact this
/-- the state at the beginning of a tick -/
def opened (cap : Int) (t : Nat) (s : RS σ) : RS σ := { s with ms := { s.ms with now := t, left := cap }, sent := s.sent.map fun l => l ++ [nth l t] }
theorem opened_row {t : Nat} {l : List Int} (h : l.length = t + 1) : nth (l ++ [nth l t]) (t + 1) = nth l t := by
 unfold nth List.getD
 rw [List.getElem?_append_right (by omega), h]; simp
theorem Wk.opened (hg : Fair ps ch good rel) {t : Nat} {cap : Int} (h : Wk ps classes good rel t s) (hnow : s.ms.now ≤ t) : Wk ps classes good rel (t + 1) (M.opened cap t s) ∧ colSum (M.opened cap t s).sent (t + 1) = colSum s.sent t := by
 have hcol : colSum (s.sent.map fun l => l ++ [nth l t]) (t + 1) = colSum s.sent t := colSum_map _ (fun l hl => opened_row (h.rlen l hl))
 refine ⟨⟨hg.free _ _ _ _ h.good, h.dlen, h.blen, by simp [M.opened, h.slen], fun l hl => ?_, h.cur, h.open_, fun i hi hb hne => ?_, fun i hi hb => ?_, h.ord, h.dord, by unfold M.opened; dsimp only; rw [hcol]; exact h.sum⟩, hcol⟩
 ·obtain ⟨l', h2, rfl⟩ := List.mem_map.1 hl
  simp [h.rlen l' h2]
 ·have := h.shut i hi hb hne
  unfold M.opened; dsimp only; omega
 ·have := h.time i hi hb
  unfold M.opened; dsimp only; omega
end
end Go.Proofs.YthpblaoehlgpfaaGreat.M

/- Weighted round robin while a class is backlogged, plain: what the others take. No condition. -/
namespace Go.Proofs.YthpblaoehlgpfaaGreat.M
open Go Go.Proofs.YthpblaoehlgpfaaGreat.K

section
variable {w : List Int} {z : List Sz} {k : Nat}
/-- what the others may still take, from the beginning of class c on until class k -/
def restR (w : List Int) (z : List Sz) (k c : Nat) : Int := if c ≤ k then qSum k w z k - qSum k w z c else qSum k w z w.length - qSum k w z c + qSum k w z k
def mosts (w : List Int) (z : List Sz) (c : Nat) : Int := nth w c * (nth z c).most
theorem qSum_succ (i : Nat) : qSum k w z (i + 1) = qSum k w z i + (if i ≠ k then mosts w z i else 0) := by
 simp only [qSum, mosts]
 by_cases h : i = k
 ·rw [if_neg (by omega), if_neg (by omega)]
 ·rw [if_pos (by omega), if_pos h]
theorem restR_self : restR w z k k = 0 := by unfold restR; rw [if_pos (Nat.le_refl _)]; omega
theorem restR_next {c : Nat} (hc : c < w.length) (hk : k < w.length) (hne : c ≠ k) : restR w z k ((c + 1) % w.length) = restR w z k c - mosts w z c := by
 have hs := qSum_succ (w := w) (z := z) (k := k) c
 rw [if_pos hne] at hs
 by_cases hl : c + 1 < w.length
 ·rw [Nat.mod_eq_of_lt hl]
  unfold restR
  by_cases h : c ≤ k
  ·rw [if_pos h, if_pos (by omega), hs]; omega
  ·rw [if_neg h, if_neg (by omega), hs]; omega
 ·have e : c + 1 = w.length := by omega
  rw [e, Nat.mod_self]
  unfold restR
  rw [if_pos (Nat.zero_le _), if_neg (by omega), ← e, hs]
  have h0 : qSum k w z 0 = 0 := rfl
  omega
theorem restR_first (hk : k < w.length) : restR w z k ((k + 1) % w.length) = qSum k w z w.length := by
 have hs := qSum_succ (w := w) (z := z) (k := k) k
 rw [if_neg (by omega)] at hs
 by_cases hl : k + 1 < w.length
 ·rw [Nat.mod_eq_of_lt hl]
  unfold restR
  rw [if_neg (by omega), hs]; omega
 ·have e : k + 1 = w.length := by omega
  rw [e, Nat.mod_self]
  unfold restR
  rw [if_pos (Nat.zero_le _), ← e, hs]
  have h0 : qSum k w z 0 = 0 := rfl
  omega
/-- in class c, l packets of whose visit are to come and op bytes of the open one -/
def JR (w : List Int) (z : List Sz) (k c : Nat) (l op own oth : Int) : Prop :=
  c < w.length ∧ 0 ≤ l ∧
  if c = k then ∃ f : Nat, oth ≤ qSum k w z w.length * f ∧ nth w k * (nth z k).least * f ≤ own + op + l * (nth z k).least ∧ nth w k * (nth z k).least * ((f : Int) - 1) ≤ own
  else ∃ f : Nat, oth + op + l * (nth z c).most + (restR w z k c - mosts w z c) ≤ qSum k w z w.length * ((f : Int) + 1) ∧ nth w k * (nth z k).least * f ≤ own
theorem JR.next (hw : ∀ x ∈ w, 1 ≤ x) (hz : ∀ c, c < w.length → 0 ≤ (nth z c).least ∧ (nth z c).least ≤ (nth z c).most) (hk : k < w.length) (hn : 2 ≤ w.length) {c : Nat} {l own oth : Int} (h : JR w z k c l 0 own oth) (hl : c = k → l ≤ 0) :
  JR w z k ((c + 1) % w.length) (nth w ((c + 1) % w.length)) 0 own oth := by
 obtain ⟨h1, h2, h3⟩ := h
 have hlt : (c + 1) % w.length < w.length := Nat.mod_lt _ (by omega)
 have hwc := hw _ (nth_mem hlt)
 refine ⟨hlt, by omega, ?_⟩
 by_cases hck : c = k
 ·subst hck
  rw [if_pos rfl] at h3
  obtain ⟨f, f1, f2, f3⟩ := h3
  have hne : (c + 1) % w.length ≠ c := by
   by_cases hh : c + 1 < w.length
   ·rw [Nat.mod_eq_of_lt hh]; omega
   ·rw [show c + 1 = w.length by omega, Nat.mod_self]; omega
  rw [if_neg hne]
  refine ⟨f, ?_, ?_⟩
  ·rw [restR_first hk]
   show oth + 0 + mosts w z ((c + 1) % w.length) + (_ - mosts w z ((c + 1) % w.length)) ≤ _
   rw [Int.mul_add, Int.mul_one]; omega
  ·have : l = 0 := by have := hl rfl; omega
   rw [this] at f2
   simpa using f2
 ·rw [if_neg hck] at h3
  obtain ⟨f, f1, f2⟩ := h3
  have hr := restR_next (z := z) h1 hk hck
  have hl0 : 0 ≤ l * (nth z c).most := Int.mul_nonneg h2 (by have := hz c h1; omega)
  by_cases hnk : (c + 1) % w.length = k
  ·rw [if_pos hnk, hnk]
   rw [hnk, restR_self] at hr
   refine ⟨f + 1, ?_, ?_, ?_⟩
   ·have : ((f + 1 : Nat) : Int) = (f : Int) + 1 := by omega
    rw [this]; omega
   ·have : ((f + 1 : Nat) : Int) = (f : Int) + 1 := by omega
    rw [this, Int.mul_add, Int.mul_one]; omega
   ·have : ((f + 1 : Nat) : Int) - 1 = (f : Int) := by omega
    rw [this]; exact f2
  ·rw [if_neg hnk]
   refine ⟨f, ?_, f2⟩
   show oth + 0 + mosts w z ((c + 1) % w.length) + (_ - mosts w z ((c + 1) % w.length)) ≤ _
   omega
end
end Go.Proofs.YthpblaoehlgpfaaGreat.M

/- Weighted round robin: the invariant of the rounds while a class is backlogged, plain. No condition. -/
namespace Go.Proofs.YthpblaoehlgpfaaGreat.M
open Go Go.Proofs.YthpblaoehlgpfaaGreat.K

/-- an invariant of every run: of the choice's state, the open packet and what is left of it -/
structure Vis {σ : Type} (ps : List Pkt) (ch : MS → σ → Int × Nat × σ) (good : MS → σ → Prop) (V : σ → Int → Int → Prop) : Prop where
  pick : ∀ ms sg r, good ms sg → ms.begun.length = ps.length → V sg (-1) r → 0 ≤ (ch ms sg).1 → V (ch ms sg).2.2 (ch ms sg).1 (nth ps (ch ms sg).1.toNat).size
  idle : ∀ ms sg r r', good ms sg → ms.begun.length = ps.length → V sg (-1) r → (ch ms sg).1 < 0 → V (ch ms sg).2.2 (ch ms sg).1 r'
  send : ∀ (sg : σ) (cur rest n : Int), 0 ≤ cur → cur < ps.length → 1 ≤ n → n ≤ rest → V sg cur rest → V sg (if rest - n = 0 then -1 else cur) (rest - n)
  none : ∀ sg c c' r r', c < 0 → c' < 0 → V sg c r → V sg c' r'
section
variable {σ : Type} {ps : List Pkt} {ch : MS → σ → Int × Nat × σ} {good : MS → σ → Prop} {rel : Nat → Nat → Prop} {classes k : Nat} {V : σ → Int → Int → Prop}
theorem Vis.inner (hg : Fair ps ch good rel) (hV : Vis ps ch good V) (hs : ∀ p ∈ ps, 1 ≤ p.size) (hfl : ∀ p ∈ ps, 0 ≤ p.flow ∧ p.flow < classes) {t : Nat} : ∀ (j : Nat) (s : RS σ), Wk ps classes good rel (t + 1) s → s.ms.now = t → 0 ≤ s.ms.left → V s.sg s.cur s.rest →
  V (inner ps ch t j s).sg (inner ps ch t j s).cur (inner ps ch t j s).rest
 | 0, s, hw, hn, hl, h => h
 | j + 1, s, hw, hn, hl, h => by
  simp only [M.inner]
  by_cases hl0 : s.ms.left ≤ 0
  ·rw [if_pos hl0]; exact h
  ·rw [if_neg hl0]
   have hw1 := hw.pickup hg hs
   obtain ⟨e1, e2, e3, e4⟩ := pickup_same ps ch s
   have h1 : V (M.pickup ps ch s).sg (M.pickup ps ch s).cur (M.pickup ps ch s).rest := by
    unfold M.pickup
    by_cases hcur : 0 ≤ s.cur
    ·rw [if_pos hcur]; exact h
    ·rw [if_neg hcur]
     have h0 := hV.none s.sg s.cur (-1) s.rest s.rest (by omega) (by omega) h
     by_cases hr : (ch s.ms s.sg).1 < 0
     ·simp only [hr, if_true]
      exact hV.idle _ _ _ _ hw.good hw.blen h0 hr
     ·simp only [hr, if_false]
      exact hV.pick _ _ _ hw.good hw.blen h0 (by omega)
   by_cases hcn : (M.pickup ps ch s).cur < 0
   ·rw [if_pos hcn]; exact h1
   ·rw [if_neg hcn]
    obtain ⟨c1, c2, c3⟩ := hw1.cur (by omega)
    obtain ⟨g1, g2, g3, g4, g5, g6⟩ := hw1.send hfl hg.free (by rw [e2]; exact hn) (by omega) (by rw [e1]; omega)
    refine Vis.inner hg hV hs hfl j _ g1 (by rw [g5, e2]; exact hn) g3 ?_
    have hle : (if (M.pickup ps ch s).ms.left < (M.pickup ps ch s).rest then (M.pickup ps ch s).ms.left else (M.pickup ps ch s).rest) ≤ (M.pickup ps ch s).rest := by split <;> omega
    have hge : 1 ≤ (if (M.pickup ps ch s).ms.left < (M.pickup ps ch s).rest then (M.pickup ps ch s).ms.left else (M.pickup ps ch s).rest) := by rw [e1]; split <;> omega
    exact hV.send _ _ _ _ (by omega) c1 hge hle h1
end
/-! ### round robin -/
def Jrob (ps : List Pkt) (w : List Int) (z : List Sz) (k : Nat) (sg : Nat × Int) (cur rest own oth : Int) : Prop := JR w z k sg.1 sg.2 (if 0 ≤ cur then rest else 0) own oth ∧ (0 ≤ cur → (nth ps cur.toNat).flow = sg.1)
/-- sizes of the packets of each class -/
def SzOf (ps : List Pkt) (z : List Sz) : Prop := ∀ i, i < ps.length → (nth z (nth ps i).flow.toNat).least ≤ (nth ps i).size ∧ (nth ps i).size ≤ (nth z (nth ps i).flow.toNat).most
section
variable {ps : List Pkt} {w : List Int} {z : List Sz} {k : Nat}
/-- where every run stands -/
def Vrob (ps : List Pkt) (w : List Int) (sg : Nat × Int) (cur rest : Int) : Prop := sg.1 < w.length ∧ 0 ≤ sg.2 ∧ sg.2 ≤ nth w sg.1 ∧ (0 ≤ cur → cur < ps.length ∧ (nth ps cur.toNat).flow = sg.1 ∧ sg.2 ≤ nth w sg.1 - 1 ∧ 0 ≤ rest ∧ rest ≤ (nth ps cur.toNat).size)
end
end Go.Proofs.YthpblaoehlgpfaaGreat.M

/- Shares over one run: what the others are sent while a class is backlogged, plain. No condition. -/
namespace Go.Proofs.YthpblaoehlgpfaaGreat.M
open Go Go.Proofs.YthpblaoehlgpfaaGreat.K

section
variable {σ : Type} {ps : List Pkt} {ch : MS → σ → Int × Nat × σ} {good : MS → σ → Prop} {rel : Nat → Nat → Prop} {classes k : Nat}
end
end Go.Proofs.YthpblaoehlgpfaaGreat.M

/- What a flow keeps: the least curve of a trace, plain. No condition. -/
namespace Go.Proofs.YthpblaoehlgpfaaGreat.M
open Go Go.Proofs.YthpblaoehlgpfaaGreat.K

theorem pbytes_congr {flow t t' : Int} : ∀ (ps : List Pkt), (∀ p ∈ ps, p.time < t ↔ p.time < t') → pbytes flow t ps = pbytes flow t' ps
 | [], _ => rfl
 | p :: ps, h => by
  have h1 := h p (by simp)
  have ih := pbytes_congr (flow := flow) ps (fun q hq => h q (by simp [hq]))
  simp only [pbytes]
  rw [ih]
  congr 1
  have e : hit flow t p ↔ hit flow t' p := by unfold hit; rw [h1]
  by_cases hh : hit flow t p
  ·rw [if_pos hh, if_pos (e.1 hh)]
  ·rw [if_neg hh, if_neg (fun h2 => hh (e.2 h2))]
def endN (ps : List Pkt) : Int := if ps.length = 0 then 0 else (nth ps (ps.length - 1)).time + 1
theorem nth_up {vs : List Int} {en : Nat} (hm : ∀ j, j < en → nth vs j ≤ nth vs (j + 1)) {a b : Nat} (hab : a ≤ b) (hb : b ≤ en) : nth vs a ≤ nth vs b := by
  induction b with
  | zero => obtain rfl : a = 0 := by omega
            exact Int.le_refl _
  | succ b ih =>
    by_cases e : a = b + 1
    · subst e; exact Int.le_refl _
    · have h1 := ih (by omega) (by omega)
      have h2 := hm b (by omega)
      omega
theorem keeps {ps : List Pkt} {flow : Int} (hsort : ps.Pairwise fun a b => a.time ≤ b.time) {en : Nat} (hen : ∀ p ∈ ps, 0 ≤ p.time ∧ p.time < en) {vs : List Int} (h0 : ∀ j, j ≤ en → 0 ≤ nth vs j) (hm : ∀ j, j < en → nth vs j ≤ nth vs (j + 1))
  (hP : ∀ i, i < ps.length → ∀ T t : Nat, (nth ps i).time = T → T ≤ t → t ≤ en → pbytes flow (t : Int) ps - pbytes flow (T : Int) ps ≤ nth vs (t - T)) {x t : Nat} (hxt : x ≤ t) : pbytes flow (t : Int) ps - pbytes flow (x : Int) ps ≤ nth vs (min (t - x) en) := by
 have hnn := h0 (min (t - x) en) (by omega)
 by_cases hex : ∃ i, i < ps.length ∧ (x : Int) ≤ (nth ps i).time ∧ (nth ps i).time < t
 ·obtain ⟨i0, i1, i2, i3⟩ := hex
  rcases findFrom_cases (fun i => decide ((x : Int) ≤ (nth ps i).time)) ps.length 0 with ⟨j, j1, j2, _, j4, j5⟩ | ⟨_, h2⟩
  ·have j4 := of_decide_eq_true j4
   have hji : j ≤ i0 := by
    apply Classical.byContradiction
    intro hn
    have := of_decide_eq_false (j5 i0 (Nat.zero_le _) (by omega))
    exact this i2
   have hle : ∀ i, j ≤ i → i < ps.length → (nth ps j).time ≤ (nth ps i).time := fun i h1 h2 => by
    by_cases e : j = i
    ·subst e; exact Int.le_refl _
    ·have := List.pairwise_iff_getElem.1 hsort j i (by omega) h2 (by omega)
     rwa [← nth_eq (show j < ps.length by omega), ← nth_eq h2] at this
   have hj := hen _ (nth_mem (xs := ps) (k := j) (by omega))
   obtain ⟨T, hT⟩ := Int.eq_ofNat_of_zero_le hj.1
   have hTi := hle i0 hji i1
   have e1 : pbytes flow (x : Int) ps = pbytes flow (T : Int) ps := by
    refine pbytes_congr ps (all_of_nth (fun i hi => ?_))
    constructor
    ·intro h; omega
    ·intro h
     apply Classical.byContradiction
     intro hn
     by_cases hij : i < j
     ·have := of_decide_eq_false (j5 i (Nat.zero_le _) hij)
      omega
     ·have := hle i (by omega) hi
      omega
   have e2 : pbytes flow (t : Int) ps = pbytes flow ((min t en : Nat) : Int) ps := by
    refine pbytes_congr ps (fun p hp => ?_)
    have := hen p hp
    omega
   have h3 := hP j (by omega) T (min t en) hT (by omega) (by omega)
   have h4 := nth_up hm (a := min t en - T) (b := min (t - x) en) (by omega) (by omega)
   omega
  ·exact absurd i2 (of_decide_eq_false (h2 i0 (Nat.zero_le _) (by omega)))
 ·have e : pbytes flow (t : Int) ps = pbytes flow (x : Int) ps := by
   refine pbytes_congr ps (all_of_nth (fun i hi => ?_))
   constructor
   ·intro h
    apply Classical.byContradiction
    intro hn
    exact hex ⟨i, hi, by omega, h⟩
   ·intro h; omega
  omega
end Go.Proofs.YthpblaoehlgpfaaGreat.M

/- Any line that is never idle and keeps the order within a class: service and waits of a class, plain. No condition. -/
namespace Go.Proofs.YthpblaoehlgpfaaGreat.M
open Go Go.Proofs.YthpblaoehlgpfaaGreat.K

section
variable {σ : Type} {ps : List Pkt} {ch : MS → σ → Int × Nat × σ} {good : MS → σ → Prop} {rel : Nat → Nat → Prop} {classes col k : Nat} {s : RS σ}
end
end Go.Proofs.YthpblaoehlgpfaaGreat.M
namespace Go.Proofs.YthpblaoehlgpfaaGreat.M
open Go Go.Proofs.YthpblaoehlgpfaaGreat.K
end Go.Proofs.YthpblaoehlgpfaaGreat.M

/- The curve of deficit round robin, plain: it repeats itself from some tick on, so that the program's and the references' forms are one. No condition. -/
namespace Go.Proofs.YthpblaoehlgpfaaGreat.M
open Go Go.Proofs.YthpblaoehlgpfaaGreat.K

/-- the quanta of the other classes that have packets, and what they may have saved -/
def xSum (k : Int) (w : List Int) (z : List Sz) : Nat → Int
  | 0 => 0
  | n + 1 => xSum k w z n + (if (n : Int) ≠ k ∧ 1 ≤ (nth z n).most then nth w n else 0)
def zSum (k : Int) (z : List Sz) : Nat → Int
  | 0 => 0
  | n + 1 => zSum k z n + (if (n : Int) ≠ k ∧ 1 ≤ (nth z n).most then (nth z n).most - 1 else 0)
def defOthers (k : Int) (w : List Int) (z : List Sz) (own : Int) : Int :=
  if chkW 6000 1 k w z ≠ 0 ∨ (nth z k.toNat).most < 1 ∨ own < 0 ∨ MAXV < own then 0
  else ((own + (nth z k.toNat).most - 1) / nth w k.toNat + 1) * xSum k w z w.length + zSum k z w.length
def allD (s q l z y : Int) : Int := y + (s - q) * ((y + l - 1) / q + 1) + z
def defH (cap s q l z : Int) (t y : Nat) : Bool := decide (allD s q l z (y : Int) ≥ cap * t)
def defFn (cap s q l z : Int) (t : Nat) : Int := leastY (defH cap s q l z t) (cap * t).toNat
def startD (cap s q l z : Int) : Int := if 2 ≤ l then (allD s q l z (-1)).tdiv cap + 1 else if 1 ≤ z then (z - 1) / cap + 1 else 0
def fromD (cap s q l z : Int) : Int := ((s - q) * ((l - 1) / q + 1) + z) / cap + 1
def defC (cap k : Int) (w : List Int) (z : List Sz) : Cv × Int :=
  if chkW 6000 cap k w z ≠ 0 then (zcv, chkW 6000 cap k w z) else if (nth z k.toNat).most < 1 then (zcv, 5) else
    let q := nth w k.toNat
    let l := (nth z k.toNat).most
    let s := shortN (q + xSum k w z w.length).toNat cap.toNat
    let zz := zSum k z w.length
    if s = -1 then (zcv, 3) else
      let p := s.toNat / Nat.gcd s.toNat cap.toNat
      if 400 < fromD cap s q l zz then (zcv, 3)
      else madeR ⟨fvals (defFn cap s q l zz) ((fromD cap s q l zz).toNat + p), p, cap * p / s * q⟩
section
variable {cap s q l z : Int}
end
/-- all of it, for the walks -/
structure DefOk (cap k : Int) (w : List Int) (z : List Sz) (cn kn m s p mm : Nat) (q l x y : Int) : Prop where
  hs : shortN m cn = s
  s1 : q ≤ s ∧ s ≤ 120 * cn
  sx : q + x ≤ s
  hp : p = s / Nat.gcd s cn
  p1 : 1 ≤ p ∧ p ≤ 120
  hmm : (cn : Int) * p = mm * s
  mm1 : mm ≤ 4000
  hinc : (cn : Int) * p / s * q = mm * q
end Go.Proofs.YthpblaoehlgpfaaGreat.M

/- Deficit round robin while a class is backlogged, plain: what the others take. No condition. -/
namespace Go.Proofs.YthpblaoehlgpfaaGreat.M
open Go Go.Proofs.YthpblaoehlgpfaaGreat.K

def sumF (f : Nat → Int) : Nat → Int
  | 0 => 0
  | n + 1 => sumF f n + f n
theorem sumF_congr {f g : Nat → Int} : ∀ {n : Nat}, (∀ i, i < n → f i = g i) → sumF f n = sumF g n
 | 0, _ => rfl
 | n + 1, h => by simp only [sumF]; rw [sumF_congr (fun i hi => h i (by omega)), h n (by omega)]
theorem sumF_le {f g : Nat → Int} : ∀ {n : Nat}, (∀ i, i < n → f i ≤ g i) → sumF f n ≤ sumF g n
 | 0, _ => Int.le_refl _
 | n + 1, h => by have a := sumF_le (fun i hi => h i (by omega) : ∀ i, i < n → f i ≤ g i); have b := h n (by omega); simp only [sumF]; omega
theorem sumF_change {f g : Nat → Int} {c : Nat} : ∀ {n : Nat}, c < n → (∀ i, i < n → i ≠ c → g i = f i) → sumF g n = sumF f n + (g c - f c)
 | 0, h, _ => by omega
 | n + 1, hc, h => by
  simp only [sumF]
  by_cases e : c = n
  ·subst e
   rw [sumF_congr (fun i hi => h i (by omega) (by omega) : ∀ i, i < c → g i = f i)]; omega
  ·rw [sumF_change (by omega) (fun i hi hne => h i (by omega) hne : ∀ i, i < n → i ≠ c → g i = f i), h n (by omega) (by omega)]; omega
theorem sumF_add {f g : Nat → Int} : ∀ {n : Nat}, sumF (fun i => f i + g i) n = sumF f n + sumF g n
 | 0 => rfl
 | n + 1 => by simp only [sumF]; rw [sumF_add]; omega
def xF (k : Nat) (w : List Int) (z : List Sz) (i : Nat) : Int := if i ≠ k ∧ 1 ≤ (nth z i).most then nth w i else 0
def zF (k : Nat) (z : List Sz) (i : Nat) : Int := if i ≠ k ∧ 1 ≤ (nth z i).most then (nth z i).most - 1 else 0
theorem xSum_eq {k : Nat} {w : List Int} {z : List Sz} : ∀ n : Nat, xSum k w z n = sumF (xF k w z) n
 | 0 => rfl
 | n + 1 => by
  simp only [xSum, sumF, xSum_eq n]
  congr 1
  unfold xF
  by_cases h : n ≠ k ∧ 1 ≤ (nth z n).most
  ·rw [if_pos h, if_pos ⟨by omega, h.2⟩]
  ·rw [if_neg h, if_neg (fun hh => h ⟨by omega, hh.2⟩)]
/-- the quantum of class i is still to be given before class k's next one -/
def pend (k c : Nat) (b : Bool) (i : Nat) : Bool := if c = k then b else (decide (i ≠ c) || !b) && (if c ≤ k then decide (c ≤ i ∧ i < k) else decide (c ≤ i ∨ i < k))
theorem pend_iff {k c i : Nat} {b : Bool} : pend k c b i = true ↔ (c = k ∧ b = true) ∨ (c ≠ k ∧ (i ≠ c ∨ b = false) ∧ ((c ≤ k ∧ c ≤ i ∧ i < k) ∨ (¬ c ≤ k ∧ (c ≤ i ∨ i < k)))) := by
 unfold pend
 by_cases h1 : c = k
 ·rw [if_pos h1]; simp [h1]
 ·rw [if_neg h1]
  by_cases h2 : c ≤ k
  ·rw [if_pos h2]; cases b <;> simp [h1, h2]
  ·rw [if_neg h2]; cases b <;> simp [h1, h2]
theorem pend_next {k c n i : Nat} (hc : c < n) (hk : k < n) (hn : 2 ≤ n) (hi : i < n) (hik : i ≠ k) : pend k ((c + 1) % n) false i = pend k c true i := by
 rw [mod_succ hc, Bool.eq_iff_iff, pend_iff, pend_iff]
 have e1 : (false = true) = False := by simp
 have e2 : (true = false) = False := by simp
 by_cases hl : c + 1 < n
 ·rw [if_pos hl, e1, e2]
  simp only [and_false, or_false, and_true, or_true, true_and, false_or]
  omega
 ·rw [if_neg hl, e1, e2]
  simp only [and_false, or_false, and_true, or_true, true_and, false_or]
  omega
theorem pend_self {k c : Nat} (h : c ≠ k) : pend k c true c = false := by unfold pend; rw [if_neg h]; simp
theorem pend_self' {k c : Nat} (h : c ≠ k) : pend k c false c = true := by unfold pend; rw [if_neg h]; split <;> simp <;> omega
theorem pend_other {k c i : Nat} {b : Bool} (h : c ≠ k) (hi : i ≠ c) : pend k c b i = pend k c true i := by unfold pend; rw [if_neg h, if_neg h]; simp [hi]
theorem pend_k {k i : Nat} {b : Bool} : pend k k b i = b := by unfold pend; rw [if_pos rfl]
/-- deficits saved, and quanta to come -/
def potF (w : List Int) (z : List Sz) (k c : Nat) (b : Bool) (d : List Int) (i : Nat) : Int := if i ≠ k ∧ 1 ≤ (nth z i).most then nth d i + (if pend k c b i = true then nth w i else 0) else 0
/-- the deficits: what is saved is less than a packet, but of the class that is visited -/
def DD (n : Nat) (z : List Sz) (c : Nat) (b : Bool) (d : List Int) : Prop := c < n ∧ d.length = n ∧ ∀ i, i < n → 0 ≤ nth d i ∧ (¬ (i = c ∧ b = true) → 1 ≤ (nth z i).most → nth d i ≤ (nth z i).most - 1)
def JD (w : List Int) (z : List Sz) (k c : Nat) (b : Bool) (d : List Int) (op own oth : Int) : Prop :=
  DD w.length z c b d ∧ ∃ v : Nat, oth + (if c = k then 0 else op) + sumF (potF w z k c b d) w.length ≤ ((v : Int) + 1) * xSum k w z w.length + zSum k z w.length ∧
    (v : Int) * nth w k ≤ own + (if c = k then op else 0) + nth d k ∧ (c = k → b = true → ((v : Int) - 1) * nth w k - ((nth z k).most - 1) ≤ own)
section
variable {nx sz : Int → Int} {w : List Int} {z : List Sz} {k : Nat}
theorem DD.grant (hw : ∀ x ∈ w, 1 ≤ x) {c : Nat} {b : Bool} {d : List Int} (h : DD w.length z c b d) (h0 : 0 ≤ nx c) : DD w.length z c true (M.grant nx w c b d) := by
 obtain ⟨h1, h2, h3⟩ := h
 refine ⟨h1, by rw [grant_len]; exact h2, fun i hi => ?_⟩
 have a := h3 i hi
 by_cases e : i = c
 ·subst e
  refine ⟨?_, fun hn => absurd ⟨rfl, rfl⟩ hn⟩
  rw [grant_self (by omega)]
  have := hw _ (nth_mem hi)
  split <;> omega
 ·rw [grant_ne e]
  exact ⟨a.1, fun _ hm => a.2 (fun hh => e hh.1) hm⟩
theorem DD.pick {c : Nat} {d : List Int} (h : DD w.length z c true d) {s : Int} (hs : s ≤ nth d c) : DD w.length z c true (d.set c (nth d c - s)) := by
 obtain ⟨h1, h2, h3⟩ := h
 refine ⟨h1, by rw [List.length_set]; exact h2, fun i hi => ?_⟩
 have a := h3 i hi
 by_cases e : i = c
 ·subst e
  rw [nth_set_self (by omega)]
  exact ⟨by omega, fun hn => absurd ⟨rfl, rfl⟩ hn⟩
 ·rw [nth_set_ne (Ne.symm e)]
  exact ⟨a.1, fun _ hm => a.2 (fun hh => e hh.1) hm⟩
theorem DD.next {c : Nat} {b : Bool} {d : List Int} (h : DD w.length z c b d) (hlt : 1 ≤ (nth z c).most → nth d c ≤ (nth z c).most - 1) : DD w.length z ((c + 1) % w.length) false d := by
 obtain ⟨h1, h2, h3⟩ := h
 refine ⟨Nat.mod_lt _ (by omega), h2, fun i hi => ?_⟩
 have a := h3 i hi
 refine ⟨a.1, fun _ hm => ?_⟩
 by_cases e : i = c
 ·subst e; exact hlt hm
 ·exact a.2 (fun hh => e hh.1) hm
theorem JD.grant (hw : ∀ x ∈ w, 1 ≤ x) (hk : k < w.length) (hL : 1 ≤ (nth z k).most) {c : Nat} {b : Bool} {d : List Int} {own oth : Int} (h : JD w z k c b d 0 own oth) (h0 : 0 ≤ nx c) : JD w z k c true (M.grant nx w c b d) 0 own oth := by
 obtain ⟨hd, v, a1, a2, a3⟩ := h
 refine ⟨hd.grant hw h0, ?_⟩
 have hcl : c < d.length := by rw [hd.2.1]; exact hd.1
 cases b with
 | true =>
  have e : M.grant nx w c true d = d := by unfold M.grant; rw [if_neg (by simp)]
  rw [e]; exact ⟨v, a1, a2, a3⟩
 | false =>
  have eg : nth (M.grant nx w c false d) c = nth d c + nth w c := by rw [grant_self hcl, if_pos ⟨h0, rfl⟩]
  by_cases hck : c = k
  ·subst hck
   rw [if_pos rfl] at a1 a2
   refine ⟨v + 1, ?_, ?_, fun _ _ => ?_⟩
   ·rw [if_pos rfl]
    have e : sumF (potF w z c c true (M.grant nx w c false d)) w.length = sumF (potF w z c c false d) w.length + xSum c w z w.length := by
     rw [xSum_eq, ← sumF_add]
     refine sumF_congr (fun i hi => ?_)
     unfold potF xF
     by_cases hh : i ≠ c ∧ 1 ≤ (nth z i).most
     ·rw [if_pos hh, if_pos hh, if_pos hh, grant_ne hh.1, pend_k, pend_k, if_pos rfl, if_neg (by simp)]; omega
     ·rw [if_neg hh, if_neg hh, if_neg hh]; omega
    rw [e]
    have e2 : (((v + 1 : Nat) : Int) + 1) * xSum c w z w.length = ((v : Int) + 1) * xSum c w z w.length + xSum c w z w.length := by rw [show (((v + 1 : Nat) : Int) + 1) = ((v : Int) + 1) + 1 by omega, Int.add_mul, Int.one_mul]
    rw [e2]; omega
   ·rw [if_pos rfl, eg]
    have e2 : (((v + 1 : Nat) : Int)) * nth w c = (v : Int) * nth w c + nth w c := by rw [show ((v + 1 : Nat) : Int) = (v : Int) + 1 by omega, Int.add_mul, Int.one_mul]
    rw [e2]; omega
   ·have hdk := (hd.2.2 c hk).2 (by simp) hL
    rw [show (((v + 1 : Nat) : Int) - 1) = (v : Int) by omega]
    omega
  ·rw [if_neg hck] at a1 a2
   refine ⟨v, ?_, ?_, fun h => absurd h hck⟩
   ·rw [if_neg hck]
    have e : sumF (potF w z k c true (M.grant nx w c false d)) w.length = sumF (potF w z k c false d) w.length := by
     refine sumF_congr (fun i hi => ?_)
     unfold potF
     by_cases hh : i ≠ k ∧ 1 ≤ (nth z i).most
     ·rw [if_pos hh, if_pos hh]
      by_cases e : i = c
      ·subst e
       rw [eg, pend_self hck, pend_self' hck, if_neg (by simp), if_pos rfl]; omega
      ·rw [grant_ne e, pend_other (b := false) hck e]
     ·rw [if_neg hh, if_neg hh]
    rw [e]; exact a1
   ·rw [if_neg hck, grant_ne (Ne.symm hck)]; exact a2
theorem JD.pick {c : Nat} {d : List Int} {own oth : Int} (h : JD w z k c true d 0 own oth) {s : Int} (hs : s ≤ nth d c) (hm : 1 ≤ (nth z c).most) : JD w z k c true (d.set c (nth d c - s)) s own oth := by
 obtain ⟨hd, v, a1, a2, a3⟩ := h
 have hcl : c < d.length := by rw [hd.2.1]; exact hd.1
 refine ⟨hd.pick hs, v, ?_, ?_, a3⟩
 ·by_cases hck : c = k
  ·subst hck
   rw [if_pos rfl] at a1 ⊢
   have e : sumF (potF w z c c true (d.set c (nth d c - s))) w.length = sumF (potF w z c c true d) w.length := by
    refine sumF_congr (fun i hi => ?_)
    unfold potF
    by_cases hh : i ≠ c ∧ 1 ≤ (nth z i).most
    ·rw [if_pos hh, if_pos hh, nth_set_ne (Ne.symm hh.1)]
    ·rw [if_neg hh, if_neg hh]
   rw [e]; exact a1
  ·rw [if_neg hck] at a1 ⊢
   have e : sumF (potF w z k c true (d.set c (nth d c - s))) w.length = sumF (potF w z k c true d) w.length + (potF w z k c true (d.set c (nth d c - s)) c - potF w z k c true d c) := by
    refine sumF_change hd.1 (fun i hi hne => ?_)
    unfold potF
    rw [nth_set_ne (Ne.symm hne)]
   have e2 : potF w z k c true (d.set c (nth d c - s)) c - potF w z k c true d c = - s := by
    unfold potF
    have hcm : c ≠ k ∧ 1 ≤ (nth z c).most := ⟨hck, hm⟩
    rw [if_pos hcm, if_pos hcm, nth_set_self hcl]; omega
   rw [e, e2]; omega
 ·by_cases hck : c = k
  ·subst hck
   rw [if_pos rfl] at a2 ⊢
   rw [nth_set_self hcl]; omega
  ·rw [if_neg hck] at a2 ⊢
   rw [nth_set_ne hck]; exact a2
theorem JD.next (hw : ∀ x ∈ w, 1 ≤ x) (hk : k < w.length) (hn : 2 ≤ w.length) {c : Nat} {d : List Int} {own oth : Int} (h : JD w z k c true d 0 own oth) (hlt : 1 ≤ (nth z c).most → nth d c ≤ (nth z c).most - 1) : JD w z k ((c + 1) % w.length) false d 0 own oth := by
 obtain ⟨hd, v, a1, a2, a3⟩ := h
 refine ⟨hd.next hlt, v, ?_, ?_, fun _ h => by cases h⟩
 ·have e : sumF (potF w z k ((c + 1) % w.length) false d) w.length = sumF (potF w z k c true d) w.length := by
   refine sumF_congr (fun i hi => ?_)
   unfold potF
   by_cases hh : i ≠ k ∧ 1 ≤ (nth z i).most
   ·rw [if_pos hh, if_pos hh, pend_next hd.1 hk hn hi hh.1]
   ·rw [if_neg hh, if_neg hh]
  rw [e]
  split <;> split at a1 <;> omega
 ·split <;> split at a2 <;> omega
/-- a class without a waiting packet loses its deficit -/
theorem JD.skip (hw : ∀ x ∈ w, 1 ≤ x) (hk : k < w.length) (hn : 2 ≤ w.length) {c : Nat} {b : Bool} {d : List Int} {own oth : Int} (h : JD w z k c b d 0 own oth) (hck : c ≠ k) : JD w z k ((c + 1) % w.length) false (d.set c 0) 0 own oth := by
 obtain ⟨hd, v, a1, a2, a3⟩ := h
 have hcl : c < d.length := by rw [hd.2.1]; exact hd.1
 have hd2 : DD w.length z c b (d.set c 0) := by
  refine ⟨hd.1, by rw [List.length_set]; exact hd.2.1, fun i hi => ?_⟩
  by_cases e : i = c
  ·subst e
   rw [nth_set_self hcl]
   exact ⟨Int.le_refl _, fun _ hm => by omega⟩
  ·rw [nth_set_ne (Ne.symm e)]; exact hd.2.2 i hi
 refine ⟨hd2.next (fun hm => by rw [nth_set_self hcl]; omega), v, ?_, ?_, fun _ h => by cases h⟩
 ·have e : sumF (potF w z k ((c + 1) % w.length) false (d.set c 0)) w.length ≤ sumF (potF w z k c b d) w.length := by
   refine sumF_le (fun i hi => ?_)
   unfold potF
   by_cases hh : i ≠ k ∧ 1 ≤ (nth z i).most
   ·rw [if_pos hh, if_pos hh, pend_next hd.1 hk hn hi hh.1]
    by_cases e : i = c
    ·subst e
     rw [nth_set_self hcl, pend_self hck, if_neg (by simp)]
     have := (hd.2.2 i hi).1
     have := hw _ (nth_mem hi)
     split <;> omega
    ·rw [nth_set_ne (Ne.symm e), pend_other (b := b) hck e]; exact Int.le_refl _
   ·rw [if_neg hh, if_neg hh]; exact Int.le_refl _
  rw [if_neg hck] at a1
  split <;> omega
 ·rw [nth_set_ne hck]
  rw [if_neg hck] at a2
  split <;> omega
end
def Jdef (ps : List Pkt) (w : List Int) (z : List Sz) (k : Nat) (sg : Nat × Bool × List Int) (cur rest own oth : Int) : Prop := JD w z k sg.1 sg.2.1 sg.2.2 (if 0 ≤ cur then rest else 0) own oth ∧ (0 ≤ cur → (nth ps cur.toNat).flow = sg.1 ∧ sg.2.1 = true)
section
variable {ps : List Pkt} {w : List Int} {z : List Sz} {k : Nat}
/-- where every run stands -/
def V0 (w : List Int) (z : List Sz) (c : Nat) (b : Bool) (d : List Int) (op : Int) : Prop := DD w.length z c b d ∧ (b = true → 1 ≤ (nth z c).most → nth d c + op ≤ (nth z c).most - 1 + nth w c)
def Vdef (ps : List Pkt) (w : List Int) (z : List Sz) (sg : Nat × Bool × List Int) (cur rest : Int) : Prop := V0 w z sg.1 sg.2.1 sg.2.2 (if 0 ≤ cur then rest else 0) ∧ (0 ≤ cur → cur < ps.length ∧ (nth ps cur.toNat).flow = sg.1 ∧ sg.2.1 = true ∧ 0 ≤ rest ∧ 1 ≤ (nth z sg.1).most)
theorem V0.grant (hw : ∀ x ∈ w, 1 ≤ x) {nx : Int → Int} {c : Nat} {b : Bool} {d : List Int} (h : V0 w z c b d 0) (h0 : 0 ≤ nx c) : V0 w z c true (M.grant nx w c b d) 0 := by
 obtain ⟨hd, h1⟩ := h
 have hcl : c < d.length := by rw [hd.2.1]; exact hd.1
 refine ⟨hd.grant hw h0, fun _ hm => ?_⟩
 rw [grant_self hcl]
 cases b with
 | true => rw [if_neg (by simp)]; exact h1 rfl hm
 | false =>
  rw [if_pos ⟨h0, rfl⟩]
  have := (hd.2.2 c hd.1).2 (by simp) hm
  omega
end
end Go.Proofs.YthpblaoehlgpfaaGreat.M

/- Weighted and deficit round robin: the curve of a class is what it is served while it is backlogged, plain. No condition. -/
namespace Go.Proofs.YthpblaoehlgpfaaGreat.M
open Go Go.Proofs.YthpblaoehlgpfaaGreat.K

/-- what a law over a scheduler wants of a class's curve: its form, and that it is less than what is sent where the others take at most O -/
def CurveFor (x : Cv × Int) (cap : Int) (O : Int → Int) (G : Nat → Int) (s p : Nat) (q : Int) : Prop :=
  x = (⟨fvals G (s + p), p, q⟩, 0) ∧ FC G s p q ∧ G 0 = 0 ∧ ∀ (t : Nat) (own : Int), 0 ≤ own → cap * (t : Int) ≤ own + O own → G t ≤ own
section
variable {σ : Type} {ps : List Pkt} {ch : MS → σ → Int × Nat × σ} {good : MS → σ → Prop} {classes k : Nat}
end
end Go.Proofs.YthpblaoehlgpfaaGreat.M

/- Time slots, plain: what every run of such a line keeps. No condition. -/
namespace Go.Proofs.YthpblaoehlgpfaaGreat.M
open Go Go.Proofs.YthpblaoehlgpfaaGreat.K

/-- the rest of a packet has room in the ticks in a row from t on -/
def Fits (tb : List Int) (cap : Int) (t : Nat) (left rest : Int) : Prop := (∀ i, slotT tb i = slotT tb t) ∨ ∃ n : Nat, (∀ j, j ≤ n → slotT tb (t + j) = slotT tb t) ∧ rest ≤ left + cap * n
theorem Fits.next {tb : List Int} {cap : Int} {t : Nat} {rest : Int} (h : Fits tb cap t 0 rest) (hr : 1 ≤ rest) : slotT tb (t + 1) = slotT tb t ∧ Fits tb cap (t + 1) cap rest := by
 rcases h with h | ⟨n, h1, h2⟩
 ·exact ⟨h _, .inl (fun i => by rw [h i, h (t + 1)])⟩
 ·cases n with
  | zero => simp at h2; omega
  | succ n =>
   have e := h1 1 (by omega)
   refine ⟨e, .inr ⟨n, fun j hj => ?_, ?_⟩⟩
   ·rw [show t + 1 + j = t + (j + 1) by omega, h1 (j + 1) (by omega), e]
   ·rw [Int.natCast_add, Int.mul_add] at h2
    simp at h2; omega
structure SlotPost (ps : List Pkt) (cap : Int) (tb : List Int) (classes t : Nat) (s s' : RS Unit) : Prop where
  open_ : 0 ≤ s'.cur → (nth ps s'.cur.toNat).flow = slotT tb t ∧ Fits tb cap t s'.ms.left s'.rest
  left0 : 0 ≤ s'.cur → s'.ms.left = 0
  other : ∀ c : Nat, (c : Int) ≠ slotT tb t → c < classes → nth (nth s'.sent c) (t + 1) = nth (nth s.sent c) (t + 1)
  mine : ∀ c : Nat, (c : Int) = slotT tb t → c < classes → nth (nth s'.sent c) (t + 1) + s'.ms.left = nth (nth s.sent c) (t + 1) + s.ms.left
  done : ∀ i, i < ps.length → nth s'.done i = nth s.done i ∨ (nth s'.done i = t ∧ (nth ps i).flow = slotT tb t)
  beg : ∀ i, (nth ps i).flow ≠ slotT tb t → nth s'.ms.begun i = nth s.ms.begun i
  lft : 0 ≤ s'.ms.left ∧ s'.ms.left ≤ s.ms.left
  idle : 0 < s'.ms.left → s'.cur < 0 ∧ (slotT tb t < 0 ∨ nextW ps s'.ms (slotT tb t) < 0 ∨ ∃ n : Nat, aheadN tb (slotT tb t) t = n + 1 ∧ (nth ps (nextW ps s'.ms (slotT tb t)).toNat).size > s'.ms.left + cap * n)
section
variable {ps : List Pkt} {cap : Int} {tb : List Int} {classes : Nat}
end
end Go.Proofs.YthpblaoehlgpfaaGreat.M

/- Time slots, plain: the curve of a class, and that it is what the class is served. No condition. -/
namespace Go.Proofs.YthpblaoehlgpfaaGreat.M
open Go Go.Proofs.YthpblaoehlgpfaaGreat.K

/-- of so many ticks from a tick on: what the parts that have ended count, and the part that goes on -/
def slotS (cap lost : Int) (mine : Nat → Bool) (from_ : Nat) : Nat → Int × Int
  | 0 => (0, 0)
  | d + 1 => if mine (from_ + d) = true then ((slotS cap lost mine from_ d).1, (slotS cap lost mine from_ d).2 + cap) else ((slotS cap lost mine from_ d).1 + max 0 ((slotS cap lost mine from_ d).2 - lost), 0)
def cntS (cap lost : Int) (mine : Nat → Bool) (from_ k : Nat) : Int := (slotS cap lost mine from_ k).1 + max 0 ((slotS cap lost mine from_ k).2 - lost)
/-- the least of so many -/
def minTo (f : Nat → Int) : Nat → Int
  | 0 => 4611686018427387904
  | n + 1 => min (minTo f n) (f n)
def minN (f : Nat → Int) : Nat → Int
  | 0 => f 0
  | n + 1 => min (minN f n) (f n)
def slotF (cap lost : Int) (mine : Nat → Bool) (n : Nat) (k : Nat) : Int := minN (fun a => cntS cap lost mine a k) n
section
variable {cap lost : Int} {mine : Nat → Bool} {a : Nat}
end
/-- the ticks of a class -/
def mineT (tb : List Int) (k : Int) (t : Nat) : Bool := slotT tb t == k
section
variable {ps : List Pkt} {cap : Int} {tb : List Int} {classes k : Nat}
end
end Go.Proofs.YthpblaoehlgpfaaGreat.M

/- Deficit round robin, plain: greater quanta and packets of others leave less. No condition. -/
namespace Go.Proofs.YthpblaoehlgpfaaGreat.M
open Go Go.Proofs.YthpblaoehlgpfaaGreat.K

end Go.Proofs.YthpblaoehlgpfaaGreat.M

/- Time slots, plain: the curves of the program and of the reference are the same. No condition. -/
namespace Go.Proofs.YthpblaoehlgpfaaGreat.M
open Go Go.Proofs.YthpblaoehlgpfaaGreat.K

def chkT (cap cls : Int) (tb : List Int) (z : List Sz) : Int := if chk18 cap cls z ≠ 0 then 2 else if okT z.length tb = false then 2 else 0
def someT (cls : Int) (tb : List Int) : Bool := tb.any fun c => c == cls
def allT (cls : Int) (tb : List Int) : Bool := tb.all fun c => c == cls
def lineF (cap lost : Int) (t : Nat) : Int := max 0 (cap * t - lost)
def slotC (cap cls : Int) (tb : List Int) (z : List Sz) : Cv × Int :=
  if chkT cap cls tb z ≠ 0 then (zcv, chkT cap cls tb z)
  else if someT cls tb = false ∨ (nth z cls.toNat).most < 1 then (zcv, 5)
  else if allT cls tb = true then (if 400 * cap < (nth z cls.toNat).most - 1 then (zcv, 3) else madeR ⟨fvals (lineF cap ((nth z cls.toNat).most - 1)) 401, 1, cap⟩)
  else madeR ⟨fvals (slotF cap ((nth z cls.toNat).most - 1) (mineT tb cls) tb.length) (3 * tb.length + tb.length), tb.length,
    slotF cap ((nth z cls.toNat).most - 1) (mineT tb cls) tb.length (4 * tb.length - 1) - slotF cap ((nth z cls.toNat).most - 1) (mineT tb cls) tb.length (3 * tb.length - 1)⟩
section
variable {cap lost : Int}
variable {mine : Nat → Bool} {n : Nat}
end
end Go.Proofs.YthpblaoehlgpfaaGreat.M

/- Time slots: what the walks want. No condition. -/
namespace Go.Proofs.YthpblaoehlgpfaaGreat.M
open Go Go.Proofs.YthpblaoehlgpfaaGreat.K

def aheadP (tb : List Int) (cls : Int) (t n : Nat) : Bool := decide (cls < 0) || nth tb ((t + n) % tb.length) != cls
theorem aheadP_iff {tb : List Int} {cls : Int} {t n : Nat} : aheadP tb cls t n = true ↔ cls < 0 ∨ nth tb ((t + n) % tb.length) ≠ cls := by unfold aheadP; simp
theorem aheadN_some {tb : List Int} {cls : Int} {t n : Nat} (hn : n < tb.length) (hP : aheadP tb cls t n = true) (h : ∀ j, j < n → aheadP tb cls t j = false) : aheadN tb cls t = n :=
 findFrom_some (P := aheadP tb cls t) (Nat.zero_le _) (by omega) hP (fun j _ hj => h j hj)
theorem aheadN_none {tb : List Int} {cls : Int} {t : Nat} (h : ∀ j, j < tb.length → aheadP tb cls t j = false) : aheadN tb cls t = -1 :=
 findFrom_none (P := aheadP tb cls t) (fun j _ hj => h j (by omega))
theorem aheadN_range (tb : List Int) (cls : Int) (t : Nat) : -1 ≤ aheadN tb cls t ∧ aheadN tb cls t < tb.length ∨ aheadN tb cls t = -1 := by
 rcases findFrom_cases (aheadP tb cls t) tb.length 0 with ⟨i, h1, h2, h3, _⟩ | ⟨h1, _⟩
 ·left
  have : aheadN tb cls t = i := h3
  omega
 ·right; exact h1
def aheadV (tb : List Int) (cls : Int) (t : Nat) : Int × Bool := if aheadN tb cls t = -1 then (0, false) else (aheadN tb cls t, true)
theorem afterN_at {tb : List Int} {t n : Nat} (hn : n ≤ tb.length) (h : ∀ j, j < n → nth tb ((t + 1 + j) % tb.length) = nth tb (t % tb.length)) (he : n < tb.length → nth tb ((t + 1 + n) % tb.length) ≠ nth tb (t % tb.length)) : afterN tb t = n := by
 unfold afterN
 by_cases hl : n < tb.length
 ·have : findFrom (fun k => nth tb ((t + 1 + k) % tb.length) != nth tb (t % tb.length)) tb.length 0 = n := findFrom_some (Nat.zero_le _) (by omega) (by simpa using he hl) (fun j _ hj => by simpa using h j hj)
  rw [this, if_neg (by omega), Int.toNat_natCast]
 ·have : findFrom (fun k => nth tb ((t + 1 + k) % tb.length) != nth tb (t % tb.length)) tb.length 0 = -1 := findFrom_none (fun j _ hj => by simpa using h j (by omega))
  rw [this, if_pos rfl]; omega
theorem afterN_le (tb : List Int) (t : Nat) : afterN tb t ≤ tb.length := by
 unfold afterN
 split
 ·exact Nat.le_refl _
 ·rcases findFrom_cases (fun k => nth tb ((t + 1 + k) % tb.length) != nth tb (t % tb.length)) tb.length 0 with ⟨i, h1, h2, h3, _⟩ | ⟨h1, _⟩
  ·rw [h3]; omega
  ·rw [h1]; omega
def clsN (tb : List Int) (k : Nat) : Int := (tb.take k).foldl (fun m c => if m < c + 1 then c + 1 else m) 1
theorem slotCh_if {ps : List Pkt} {cap : Int} {tb : List Int} {ms : MS} (h0 : ¬ slotT tb ms.now.toNat < 0) (h1 : ¬ nextW ps ms (slotT tb ms.now.toNat) < 0) : slotCh ps cap tb ms () =
  if (aheadV tb (slotT tb ms.now.toNat) ms.now.toNat).2 = true ∧ ms.left + ((aheadV tb (slotT tb ms.now.toNat) ms.now.toNat).1 - 1) * cap < szOf ps (nextW ps ms (slotT tb ms.now.toNat)) then (-1, skipTo ms.begun ms.before, ()) else (nextW ps ms (slotT tb ms.now.toNat), skipTo ms.begun ms.before, ()) := by
 unfold slotCh
 rw [if_neg h0, if_neg h1]
 unfold aheadV szOf
 by_cases ha : aheadN tb (slotT tb ms.now.toNat) ms.now.toNat = -1
 ·rw [if_pos ha, if_neg (fun h => h.1 ha), if_neg (fun h => by cases h.1)]
 ·rw [if_neg ha]
  by_cases hb : (nth ps (nextW ps ms (slotT tb ms.now.toNat)).toNat).size > ms.left + (aheadN tb (slotT tb ms.now.toNat) ms.now.toNat - 1) * cap
  ·rw [if_pos ⟨ha, hb⟩, if_pos ⟨rfl, hb⟩]
  ·rw [if_neg (fun h => hb h.2), if_neg (fun h => hb h.2)]
/-- what room a packet of a class has at the beginning of a tick -/
def roomT (cap : Int) (tb : List Int) (cls t : Int) : Int :=
  if cap < 1 ∨ 4000 < cap ∨ tb.length < 1 ∨ 40 < tb.length ∨ t < 0 ∨ 2000 < t then 0
  else if (aheadV tb cls t.toNat).2 = false then 1073741824 else (aheadV tb cls t.toNat).1 * cap
/-- how many ticks of the part that goes on -/
def rowS (mine : Nat → Bool) (a : Nat) : Nat → Nat
  | 0 => 0
  | d + 1 => if mine (a + d) = true then rowS mine a d + 1 else 0
end Go.Proofs.YthpblaoehlgpfaaGreat.M

/- Time slots, plain: a class's curve is what it is served, and greater packets have a lesser one. No condition. -/
namespace Go.Proofs.YthpblaoehlgpfaaGreat.M
open Go Go.Proofs.YthpblaoehlgpfaaGreat.K

theorem FC.valid {F : Nat → Int} {S P : Nat} {I : Int} (h : FC F S P I) : validB ⟨fvals F (S + P), P, I⟩ = true := by
 have hP := h.hP
 have hn := h.hn
 have hI := h.hI
 rw [validB_iff]
 dsimp only
 rw [fvals_len]
 refine ⟨⟨by omega, by omega, by omega, by omega, by omega, by omega, by unfold MAXV; omega⟩, fun i hi => ?_, ?_⟩
 ·rw [fvals_nth F hi]
  have a := h.nonneg i
  have b := h.hb i hi
  refine ⟨.inr ⟨a, by unfold MAXV; omega⟩, ?_⟩
  by_cases h0 : i = 0
  ·exact .inl h0
  ·right
   rw [fvals_nth F (by omega)]
   exact h.mono (show i - 1 ≤ i by omega)
 ·rw [fvals_nth F (by omega), if_neg (h.fin (by omega)), Int.toNat_natCast, fvals_nth F (by omega)]
  have h1 := h.hg (S + P - P) (by omega)
  have h2 := h.mono (show S + P - 1 ≤ S + P - P + P by omega)
  omega
end Go.Proofs.YthpblaoehlgpfaaGreat.M

/- Chapter 21: the choice. No condition. -/
set_option maxRecDepth 4000
set_option linter.unusedSimpArgs false
set_option linter.unusedVariables false
namespace Go.Proofs.YthpblaoehlgpfaaGreat
open Go Go.RowKit Go.Proofs.YthpblaoehlgpfaaGreat.K Go.Proofs.YthpblaoehlgpfaaGreat.M

theorem Ahead_V {R : Ro} {wa : Option Addr} {wc : Nat} {tb : List Int} (hwr : RS R 1 encI wa tb) {cls : Int} {t : Nat} (hl : tb.length ≤ 1000) (ht : t ≤ 1000000) : FnV Tryz.prog 248 [.slice wa tb.length wc, .int .i64 cls, .int .i64 (t : Int)] R (.tuple #[.int .i64 (aheadV tb cls t).1, .bool (aheadV tb cls t).2]) := by
 have hla := hwr.len
 refine Fn.toV (fun w0 E => ?_)
 refine fE 31 Tryz.func248 ?_
 refine zQ (zG (zR 2 rfl (zN (zU (zQ (zQ (zG (zR 3 rfl (zN (zU (zB ?_)))))))))))
 refine W.loopK (β := Nat) (fun k => k ≤ tb.length ∧ ∀ j, j < k → aheadP tb cls t j = false) (fun k => [(11, true, .int .i64 (k : Int))]) [0, 1, 2, 10] [_, _, _, _] [] _ rfl (fun k => []) (fun k => tb.length - k) (0) (⟨Nat.zero_le _, fun j hj => by omega⟩) ⟨rfl, rfl, rfl, rfl, rfl, rfl⟩ qS ?_
 intro k hst
 dsimp only [zipE, setAll, List.cons_append, List.nil_append, List.set_cons_zero, List.set_cons_succ] at hst ⊢
 obtain ⟨hk, hno⟩ := hst
 have hce : ((t : Int) + (k : Int)) % (tb.length : Int) = (((t + k) % tb.length : Nat) : Int) := rfl
 have hml : 0 < tb.length → (t + k) % tb.length < tb.length := fun h => Nat.mod_lt _ h
 refine zQ (zG (zR 1 rfl (zN (zU (zQ ?_)))))
 refine W.condD rfl (fun hc0 => ?_) (fun hc0 => ?_)
 ·try dsimp only at hc0
  have hkl : k < tb.length := by omega
  have hml := hml (by omega)
  refine zK (zU (zQ (zB (zQ (zG (zR 2 rfl (zN (zU (zQ (zG (zR 3 rfl ?_)))))))))))
  refine yP ?_
  refine yP ?_
  refine yP ?_
  refine WG.y rfl rfl (by decide) (Yl.add rfl rfl rfl qE (by intro hg; (try simp only [zk] at hg); constructor <;> (try dsimp only) <;> omega)) ?_
  refine yP ?_
  refine yP ?_
  refine WG.y rfl rfl (by decide) (Yl.rem rfl rfl rfl qE (by intro hg; (try simp only [zk] at hg); (try dsimp only) <;> omega) (by intro hg; (try simp only [zk] at hg); (try dsimp only) <;> omega)) ?_
  rw [hce]
  refine WG.y rfl rfl (by decide) (Yl.indexN tab_ok rfl rfl rfl rfl rfl rfl qE (by intro hg; (try simp only [zk] at hg); (try dsimp only) <;> omega) (by intro hg; (try simp only [zk] at hg); first | exact qI)) ?_
  refine' WG.y rfl rfl qD (Yl.loadG tab_ok rfl rfl rfl qE ?r1 rfl ?h1 ?g1) ?_
  case r1 => ((apply RS.rdC; assumption))
  case h1 => rfl
  case g1 => (intro hg; (try simp only [zk] at hg); (try dsimp only); omega)
  refine yP ?_
  refine yP ?_
  refine yO ?_
  refine zN (zU ?_)
  refine W.cond rfl (fun hc1 => ?_) (fun hc1 => ?_)
  ·try simp only [zk] at hc1
   have hP : aheadP tb cls t k = true := aheadP_iff.2 hc1
   have hav : aheadV tb cls t = ((k : Int), true) := by unfold aheadV; rw [aheadN_some hkl hP hno, if_neg (by omega)]
   refine zQ (zG (zR 3 rfl (zN (zU (zT (wb (wt (wt (wb (wt ?_))))))))))
   refine sE (E := E) ?_
   refine WE.retF tab_ok [_, _] rfl ⟨rfl, rfl, trivial⟩ (RLe.refl _) ?_
   exact ⟨by rw [hav]; rfl, rfl⟩
  ·try simp only [zk] at hc1
   have hP : aheadP tb cls t k = false := by
    rw [← Bool.not_eq_true, aheadP_iff]
    intro h
    rcases h with h | h <;> simp_all <;> omega
   refine zK (zL (zU (zG ?_)))
   refine yA ?_
   refine zR 1 rfl (zN ?_)
   refine WE.again (k + 1) (⟨by omega, fun j hj => by
    by_cases e : j = k
    ·subst e; exact hP
    ·exact hno j (by omega)⟩) (by (try dsimp only); omega) ⟨rfl, rfl, rfl, rfl, rfl, rfl⟩ (RLe.refl _) qS
 ·try dsimp only at hc0
  have hav : aheadV tb cls t = (0, false) := by unfold aheadV; rw [if_pos (aheadN_none (fun j hj => hno j (by omega)))]
  refine zX ?_
  refine wx (wx (zY (zU (zQ (zG (zR 2 rfl (zN (zU (zT ?_)))))))))
  refine sE (E := E) ?_
  refine WE.retF tab_ok [_, _] rfl ⟨rfl, rfl, trivial⟩ (RLe.refl _) ?_
  exact ⟨by rw [hav]; rfl, rfl⟩

theorem After21_V {R : Ro} {wa : Option Addr} {wc : Nat} {tb : List Int} (hwr : RS R 1 encI wa tb) {t : Nat} (hl : tb.length ≤ 1000) (ht : t ≤ 1000000) : FnV Tryz.prog 156 [.slice wa tb.length wc, .int .i64 (t : Int)] R (.int .i64 (afterN tb t : Int)) := by
 have hla := hwr.len
 refine Fn.toV (fun w0 E => ?_)
 have hcz : (t : Int) % (tb.length : Int) = ((t % tb.length : Nat) : Int) := rfl
 have hm0 : t % tb.length < tb.length ∨ tb.length = 0 := by
  by_cases h : tb.length = 0
  ·exact .inr h
  ·exact .inl (Nat.mod_lt _ (by omega))
 refine fE 33 Tryz.func156 ?_
 refine zQ (zG (zR 1 rfl (zN (zU (zQ (zG (zR 1 rfl (zN (zU (zQ (zB ?_)))))))))))
 refine W.loopK (β := Nat) (fun k => k ≤ tb.length ∧ ∀ j, j < k → nth tb ((t + 1 + j) % tb.length) = nth tb (t % tb.length)) (fun k => [(5, true, .int .i64 (k : Int))]) [0, 1] [_, _] [] _ rfl (fun k => []) (fun k => tb.length - k) (0) (⟨Nat.zero_le _, fun j hj => by omega⟩) ⟨rfl, rfl, rfl, rfl⟩ qS ?_
 intro k hst
 dsimp only [zipE, setAll, List.cons_append, List.nil_append, List.set_cons_zero, List.set_cons_succ] at hst ⊢
 obtain ⟨hk, hno⟩ := hst
 have hce : ((t : Int) + 1 + (k : Int)) % (tb.length : Int) = (((t + 1 + k) % tb.length : Nat) : Int) := rfl
 have hml : (t + 1 + k) % tb.length < tb.length ∨ tb.length = 0 := by
  by_cases h : tb.length = 0
  ·exact .inr h
  ·exact .inl (Nat.mod_lt _ (by omega))
 refine zQ (zQ ?_)
 refine W.regionQ _ mixed qK ?_
 refine zR 5 rfl ?_
 refine yP ?_
 refine yP ?_
 refine WG.y rfl rfl (by decide) (Yl.add rfl rfl rfl qE (by intro hg; (try simp only [zk] at hg); constructor <;> (try dsimp only) <;> omega)) ?_
 refine yP ?_
 refine WG.y rfl rfl (by decide) (Yl.add rfl rfl rfl qE (by intro hg; (try simp only [zk] at hg); constructor <;> (try dsimp only) <;> omega)) ?_
 refine yP ?_
 refine yP ?_
 refine WG.y rfl rfl (by decide) (Yl.rem rfl rfl rfl qE (by intro hg; (try simp only [zk] at hg); (try dsimp only) <;> omega) (by intro hg; (try simp only [zk] at hg); (try dsimp only) <;> omega)) ?_
 rw [hce]
 refine WG.y rfl rfl (by decide) (Yl.indexN tab_ok rfl rfl rfl rfl rfl rfl qE (by intro hg; (try simp only [zk] at hg); (try dsimp only) <;> omega) (by intro hg; (try simp only [zk] at hg); first | exact qI)) ?_
 refine' WG.y rfl rfl qD (Yl.loadG tab_ok rfl rfl rfl qE ?r1 rfl ?h1 ?g1) ?_
 case r1 => ((apply RS.rdC; assumption))
 case h1 => rfl
 case g1 => (intro hg; (try simp only [zk] at hg); (try dsimp only); omega)
 refine yP ?_
 refine yP ?_
 refine yP ?_
 refine yP ?_
 refine WG.y rfl rfl (by decide) (Yl.rem rfl rfl rfl qE (by intro hg; (try simp only [zk] at hg); (try dsimp only) <;> omega) (by intro hg; (try simp only [zk] at hg); (try dsimp only) <;> omega)) ?_
 rw [hcz]
 refine WG.y rfl rfl (by decide) (Yl.indexN tab_ok rfl rfl rfl rfl rfl rfl qE (by intro hg; (try simp only [zk] at hg); (try dsimp only) <;> omega) (by intro hg; (try simp only [zk] at hg); first | exact qI)) ?_
 refine' WG.y rfl rfl qD (Yl.loadG tab_ok rfl rfl rfl qE ?r2 rfl ?h2 ?g2) ?_
 case r2 => ((apply RS.rdC; assumption))
 case h2 => rfl
 case g2 => (intro hg; (try simp only [zk] at hg); (try dsimp only); omega)
 refine yP ?_
 refine yN ?_
 refine zN (zU ?_)
 refine W.cond rfl (fun hc0 => ?_) (fun hc0 => ?_)
 ·try simp only [zk] at hc0
  refine zK (zU (zB (zG (zR 1 rfl ?_))))
  refine yA ?_
  refine zR 1 rfl (zN (zL ?_))
  refine WE.again (k + 1) (⟨by omega, fun j hj => by
   by_cases e : j = k
   ·subst e; exact hc0.2
   ·exact hno j (by omega)⟩) (by (try dsimp only); omega) ⟨rfl, rfl, rfl, rfl⟩ (RLe.refl _) qS
 ·try simp only [zk] at hc0
  have haf : afterN tb t = k := afterN_at hk hno (fun h => hc0 (by omega))
  refine zX ?_
  refine wx (wx (zY (zU (zQ (zG (zR 2 rfl (zN (zU (zT ?_)))))))))
  refine sE (E := E) ?_
  refine WE.retF tab_ok [_] rfl ⟨rfl, trivial⟩ (RLe.refl _) ?_
  exact ⟨by rw [haf]; rfl, rfl⟩

theorem Room21_V {R : Ro} {wa : Option Addr} {wc : Nat} {tb : List Int} (hwr : RS R 1 encI wa tb) {cap left : Int} {t : Nat} (hl : tb.length ≤ 1000) (hc : 0 ≤ cap ∧ cap ≤ 1000000) (hf : 0 ≤ left ∧ left ≤ 1000000) (ht : t ≤ 1000000) : FnV Tryz.prog 117 [.int .i64 cap, .slice wa tb.length wc, .int .i64 (t : Int), .int .i64 left] R (.int .i64 (roomN cap tb t left)) := by
 have hla := hwr.len
 refine Fn.toV (fun w0 E => ?_)
 have hal := afterN_le tb t
 have hmb := mulB (a := cap) (b := (afterN tb t : Int)) (A := 1000000) (B := 1000) (by omega) (by omega)
 refine fE 22 Tryz.func117 ?_
 refine zQ (zG (zR 1 rfl (zN (zU (zQ (zG (zR 2 rfl ?_)))))))
 refine WG.callV en156 rfl rfl qD (CallOp.mk' rfl rfl rfl rfl) (fun _ => rfl) (fun hg => After21_V hwr hl ht) ?_
 refine zR 1 rfl (zN (zU (zQ (zQ (zG (zR 4 rfl (zN (zU ?_))))))))
 refine W.condE rfl (fun hc0 => ?_) (fun hc0 => ?_)
 ·try dsimp only at hc0
  have hr : roomN cap tb t left = 1073741824 := if_pos (by omega)
  refine zQ (zG (zR 1 rfl (zN (zU (zT (wt ?_))))))
  refine sE (E := E) ?_
  refine WE.retF tab_ok [_] rfl ⟨rfl, trivial⟩ (RLe.refl _) ?_
  exact ⟨by rw [hr]; rfl, rfl⟩
 ·try dsimp only at hc0
  have hr : roomN cap tb t left = left + cap * (afterN tb t : Int) := if_neg (by omega)
  refine zK (zU (zQ (zG (zR 3 rfl ?_))))
  refine WG.y rfl rfl qD (Yl.mul rfl rfl rfl (fun _ => rfl) qA) ?_
  refine yA ?_
  refine zR 1 rfl (zN (zU (zT ?_)))
  refine sE (E := E) ?_
  refine WE.retF tab_ok [_] rfl ⟨rfl, trivial⟩ (RLe.refl _) ?_
  exact ⟨by rw [hr]; rfl, rfl⟩

theorem SlotsMk_C {R : Ro} {wa : Option Addr} {wc n : Nat} {cap : Int} (w0 : World) (E : List Ent) : K.Fn Tryz.prog 241 [.int .i64 cap, .slice wa n wc] w0 R E (fun v R' E' => ∃ b2 b3 : Nat, v = .func (.func 247) #[] #[.pointer (some ⟨b3, 0, none⟩), .pointer (some ⟨b2, 0, none⟩)] ∧ R = R' ∧ E' = .blk b3 [.slice wa n wc] :: .blk b2 [.int .i64 cap] :: E) := by
 refine fE 6 Tryz.func241 ?_
 refine zQ (zG ?_)
 refine zO fun b2 => ?_
 refine zO fun b3 => ?_
 refine zR 1 rfl (zN (zU (zQ (zG (zR 2 rfl (zN (zU (zT ?_))))))))
 refine WE.retF tab_ok [_] rfl ⟨rfl, trivial⟩ (RLe.refl _) ?_
 exact ⟨b2, b3, rfl, rfl, rfl⟩

theorem Slot1_C {b2 b3 : Nat} {R : Ro} {sb : Nat} {pa : Option Addr} {pc bg : Nat} {ps : List Pkt} {ms : MS} (w0 : World) (hp : RS R 3 encP pa ps) (hb : ms.begun.length = ps.length) (hsort : ps.Pairwise fun a b => a.time ≤ b.time) {wa : Option Addr} {wc : Nat} {tb : List Int} {cap : Int} (hwr : RS R 1 encI wa tb) (h3 : R b3 = some [.slice wa tb.length wc]) (h2 : R b2 = some [.int .i64 cap]) (hn : 0 < tb.length) (hl : tb.length ≤ 1000) (hc : 1 ≤ cap ∧ cap ≤ 1000000) (hgd : goodB ps ms) (hnow : 0 ≤ ms.now ∧ ms.now ≤ 1000000) (hleft : 0 ≤ ms.left ∧ ms.left ≤ 1000000) (F : List Ent) :
  K.Fn Tryz.prog 247 [.pointer (some ⟨sb, 0, none⟩), .pointer (some ⟨b3, 0, none⟩), .pointer (some ⟨b2, 0, none⟩)] w0 R (stE sb pa ps.length pc bg ms :: .sl 4 1 (some ⟨bg, 0, none⟩) ps.length (ms.begun.map encB) :: F) (fun v R' E' => v = .int .i64 (slotCh ps cap tb ms ()).1 ∧ R = R' ∧ E' = stE sb pa ps.length pc bg { ms with before := (slotCh ps cap tb ms ()).2.1 } :: .sl 4 1 (some ⟨bg, 0, none⟩) ps.length (ms.begun.map encB) :: F) := by
 have hlw := hwr.len
 have hlp := hp.len
 have hnt : (ms.now.toNat : Int) = ms.now := by omega
 have hce : ms.now % (tb.length : Int) = ((ms.now.toNat % tb.length : Nat) : Int) := by rw [Int.natCast_emod, hnt]
 have hml := Nat.mod_lt ms.now.toNat hn
 have har := aheadN_range tb (slotT tb ms.now.toNat) ms.now.toNat
 have hab : 0 ≤ (aheadV tb (slotT tb ms.now.toNat) ms.now.toNat).1 ∧ (aheadV tb (slotT tb ms.now.toNat) ms.now.toNat).1 ≤ 1000 := by unfold aheadV; split <;> (dsimp only; omega)
 have hmb := mulB (a := (aheadV tb (slotT tb ms.now.toNat) ms.now.toNat).1) (b := cap) (A := 1000) (B := 1000000) (by omega) (by omega)
 have hme : ((aheadV tb (slotT tb ms.now.toNat) ms.now.toNat).1 - 1) * cap = (aheadV tb (slotT tb ms.now.toNat) ms.now.toNat).1 * cap - cap := by rw [Int.sub_mul, Int.one_mul]
 refine fE 53 Tryz.func247 ?_
 refine zQ (zG (zR 1 rfl (zN (zU (zQ ?_)))))
 refine W.regionQ _ mixed qK ?_
 refine' WG.y rfl rfl qD (Yl.load1 tab_ok rfl rfl rfl (fun _ => rfl) ?r1 rfl ?h1) ?_
 case r1 => (exact Rd.ro qU)
 case h1 => rfl
 refine zR 3 rfl ?_
 refine yL (Rd.add (Rd.blk 0 rfl) _) ?_
 refine' WG.y rfl rfl qD (Yl.load1 tab_ok rfl rfl rfl (fun _ => rfl) ?r3 rfl ?h3) ?_
 case r3 => (exact Rd.ro qU)
 case h3 => rfl
 refine zR 1 rfl ?_
 refine WG.y rfl rfl qD (Yl.rem rfl rfl rfl (fun _ => rfl) qN qN) ?_
 rw [hce]
 refine WG.y rfl rfl qD (Yl.indexN tab_ok rfl rfl rfl rfl rfl rfl (fun _ => rfl) qN qH) ?_
 refine yR ?_
 refine zR 1 rfl (zN (zU (zQ ?_)))
 rw [show nth tb (ms.now.toNat % tb.length) = slotT tb ms.now.toNat from rfl]
 refine zQ (zG (zR 2 rfl (zN (zU ?_))))
 refine W.condD rfl (fun hc0 => ?_) (fun hc0 => ?_)
 ·try dsimp only at hc0
  have hch : slotCh ps cap tb ms () = (-1, ms.before, ()) := by unfold slotCh; rw [if_pos hc0]
  refine zQ (zG (zR 1 rfl (zN (zU (zT (wt ?_))))))
  refine WE.retF tab_ok [_] rfl ⟨rfl, trivial⟩ (RLe.refl _) ?_
  exact ⟨by rw [hch]; try rfl, rfl, by rw [hch]; try rfl⟩
 ·try dsimp only at hc0
  refine zK (zU (zQ (zG (zR 2 rfl ?_))))
  refine WL.call en201 rfl rfl qD (CallOp.mkT rfl rfl rfl rfl) (Next_C (ms := ms) w0 hp hb hgd hsort _ _) ?_
  rintro _ _ _ - ⟨rfl, rfl, rfl⟩
  refine zR 1 rfl (zN (zU (zQ (zQ (zG (zR 2 rfl (zN (zU ?_))))))))
  refine W.condD rfl (fun hc1 => ?_) (fun hc1 => ?_)
  ·try dsimp only at hc1
   have hch : slotCh ps cap tb ms () = (-1, skipTo ms.begun ms.before, ()) := by unfold slotCh; rw [if_neg (by omega), if_pos hc1]
   refine zQ (zG (zR 1 rfl (zN (zU (zT (wt ?_))))))
   refine WE.retF tab_ok [_] rfl ⟨rfl, trivial⟩ (RLe.refl _) ?_
   exact ⟨by rw [hch]; try rfl, rfl, by rw [hch]; try rfl⟩
  ·try dsimp only at hc1
   refine zK (zU (zQ (zQ ?_)))
   refine W.regionQ _ mixed qK ?_
   refine' WG.y rfl rfl qD (Yl.load1 tab_ok rfl rfl rfl (fun _ => rfl) ?r5 rfl ?h5) ?_
   case r5 => (exact Rd.ro qU)
   case h5 => rfl
   refine zR 4 rfl ?_
   refine yL (Rd.add (Rd.blk 0 rfl) _) ?_
   refine WG.callV en248 rfl rfl (by decide) (CallOp.mk' rfl rfl rfl rfl) (fun _ => rfl) (fun hg => by have h := Ahead_V (wc := wc) (cls := slotT tb ms.now.toNat) (t := ms.now.toNat) hwr (by omega) (by omega); rw [hnt] at h; exact h) ?_
   refine zR 5 rfl (zN (zU (zQ ?_)))
   refine W.regionQ _ mixed qK ?_
   refine zR 2 rfl ?_
   refine yP ?_
   refine yP ?_
   refine WG.callE en236 rfl rfl qD (CallOp.mk' rfl rfl rfl rfl) qE (fun hg => Size_E w0 hp _ qO (nextW_lt ps _ _).1 _) ?_
   refine yP ?_
   refine yP ?_
   refine yP ?_
   refine yG (Rd.addC (Rd.blkC 0 rfl) _) ?_
   refine yP ?_
   refine WG.y rfl rfl (by decide) (Yl.sub rfl rfl rfl qE (by intro hg; (try simp only [zk] at hg); constructor <;> (try dsimp only) <;> omega)) ?_
   refine' WG.y rfl rfl qD (Yl.loadG tab_ok rfl rfl rfl qE ?r8 rfl ?h8 ?g8) ?_
   case r8 => exact fun _ => Rd.ro h2
   case h8 => rfl
   case g8 => exact fun _ => trivial
   refine WG.y rfl rfl (by decide) (Yl.mul rfl rfl rfl qE (by intro hg; (try simp only [zk] at hg); constructor <;> (try dsimp only) <;> omega)) ?_
   refine WG.y rfl rfl (by decide) (Yl.add rfl rfl rfl qE (by intro hg; (try simp only [zk] at hg); constructor <;> (try dsimp only) <;> omega)) ?_
   refine yP ?_
   refine yN ?_
   refine zN (zU ?_)
   refine W.cond rfl (fun hc2 => ?_) (fun hc2 => ?_)
   ·try simp only [zk] at hc2
    have hch : slotCh ps cap tb ms () = (-1, skipTo ms.begun ms.before, ()) := by rw [slotCh_if hc0 hc1, if_pos hc2]
    refine zQ (zG (zR 1 rfl (zN (zU (zT (wt ?_))))))
    refine WE.retF tab_ok [_] rfl ⟨rfl, trivial⟩ (RLe.refl _) ?_
    exact ⟨by rw [hch]; try rfl, rfl, by rw [hch]; try rfl⟩
   ·try simp only [zk] at hc2
    have hch : slotCh ps cap tb ms () = (nextW ps ms (slotT tb ms.now.toNat), skipTo ms.begun ms.before, ()) := by rw [slotCh_if hc0 hc1, if_neg (fun h => by have := hc2 h.1; omega)]
    refine zK (zU (zQ (zG (zR 2 rfl (zN (zU (zT ?_)))))))
    refine WE.retF tab_ok [_] rfl ⟨rfl, trivial⟩ (RLe.refl _) ?_
    exact ⟨by rw [hch]; try rfl, rfl, by rw [hch]; try rfl⟩



theorem For_err {R : Ro} {pa wa : Option Addr} {pc wc : Nat} {ps : List Pkt} {tb : List Int} (hp : RS R 3 encP pa ps) (hwr : RS R 1 encI wa tb) {cap ticks : Int} {classes : Nat} (w0 : World) (hbad : lrunE cap classes ticks ps ≠ 0) (E : List Ent) :
  K.Fn Tryz.prog 67 [.int .i64 cap, .int .i64 (classes : Int), .slice wa tb.length wc, .slice pa ps.length pc, .int .i64 ticks] w0 R E (fun v R' E' => v = .tuple #[.agg #[.slice none 0 0, .slice none 0 0], .int .i64 (lrunE cap classes ticks ps)] ∧ R = R' ∧ E.Sublist E') := by
 have hla := hp.len
 have hlw := hwr.len
 refine fE 95 Tryz.func67 ?_
 refine zQ (zG ?_)
 refine zA fun b10 => ?_
 refine zR 1 rfl (zN (zU (zQ (zQ (zG (zR 4 rfl ?_))))))
 refine WG.callV en105 rfl rfl qD (CallOp.mk' rfl rfl rfl rfl) (fun _ => rfl) (fun hg => (show (if validate ps ≠ 0 then validate ps else checkE cap classes ticks ps) = lrunE cap classes ticks ps from rfl) ▸ BadR_V hp) ?_
 refine zR 1 rfl (zN (zU (zQ (zG (zR 2 rfl (zN (zU ?_)))))))
 refine W.condN rfl (fun hc0 => ?_) (fun hc0 => ?_)
 ·try dsimp only at hc0
  refine zQ (zG ?_)
  -- build
  refine WG.y rfl rfl qD (Yl.build (parts := []) tab_ok rfl rfl rfl rfl (fun _ => rfl) rfl rfl) ?_
  refine zR 1 rfl ?_
  refine zE 0 ?_
  refine zR 1 rfl (zN (zU (zT (wt ?_))))
  refine WE.retF tab_ok [_, _] rfl ⟨⟨_, _, _, rfl, rfl, rfl, qB, rfl⟩, rfl, trivial⟩ (RLe.refl _) ?_
  exact ⟨rfl, rfl, qS⟩
 ·try dsimp only at hc0
  exact absurd hc0 hbad

theorem For_ok {R : Ro} {pa wa : Option Addr} {pc wc : Nat} {ps : List Pkt} {tb : List Int} (hp : RS R 3 encP pa ps) (hwr : RS R 1 encI wa tb) {cap : Int} {classes ticks : Nat} (w0 : World) (ht1 : 1 ≤ tb.length ∧ tb.length ≤ 40) (hl0 : lrunE cap classes ticks ps = 0) (E : List Ent) :
  K.Fn Tryz.prog 67 [.int .i64 cap, .int .i64 (classes : Int), .slice wa tb.length wc, .slice pa ps.length pc, .int .i64 ticks] w0 R E (fun v R' E' => ∃ (da oa : Option Addr) (dc oc : Nat) (rows : List Sl) (st : St), st = rrunL ps (slotRc ps cap tb) cap classes ticks () ∧ v = .tuple #[.agg #[.slice da st.done.length dc, .slice oa rows.length oc], .int .i64 0] ∧ RS R' 1 encI da st.done ∧ rows.map Sl.xs = st.sent ∧ (∀ r ∈ rows, r.a.isSome = true) ∧ RInv ps classes (ticks + 1) (ticks * cap) st ∧ (.sl 22 1 oa oc (rows.map encS) :: (rows.map (rowE 3) ++ E)).Sublist E') := by
 have hpR := hp
 have hwR := hwr
 obtain ⟨hok, hvv, hckk, d1, d2, d3, d4, d5, d6, hs, hf⟩ := lrunE_ok hl0
 have hcap : 1 ≤ cap ∧ cap ≤ 1000000 := by omega
 have hsz : ∀ p ∈ ps, 1 ≤ p.size ∧ p.size ≤ 1000000 := fun p hp => by have := hs p hp; omega
 have hs1 : ∀ p ∈ ps, 1 ≤ p.size := fun p hp => (hsz p hp).1
 have hpl := hok.len
 have hla := hp.len
 have hlw := hwr.len
 have hBt : ∀ k : Nat, k ≤ ticks → (k : Int) * cap ≤ 2000000000 := fun k hk => by have := Int.mul_le_mul (show (k : Int) ≤ 2000 by omega) hcap.2 (by omega) (by omega); omega
 refine fE 95 Tryz.func67 ?_
 refine zQ (zG ?_)
 refine zA fun b10 => ?_
 refine zR 1 rfl (zN (zU (zQ (zQ (zG (zR 4 rfl ?_))))))
 refine WG.callV en105 rfl rfl (by decide) (CallOp.mk' rfl rfl rfl rfl) (fun _ => rfl) (fun hg => (show (if validate ps ≠ 0 then validate ps else checkE cap classes ticks ps) = 0 by simp [hvv, hckk]) ▸ BadR_V hp) ?_
 refine zR 1 rfl (zN (zU (zQ (zG (zR 2 rfl (zN (zU ?_)))))))
 refine W.condN rfl (fun hc0 => ?_) (fun hc0 => ?_)
 ·try dsimp only at hc0
  exact absurd rfl hc0
 ·try dsimp only at hc0
  refine zK (zU (zQ (zG (zR 2 rfl ?_))))
  refine WL.call en106 rfl rfl qD (CallOp.mkT rfl rfl rfl rfl) (NewR_C w0 qO qO _) ?_
  rintro _ R1 E1 hR1 ⟨ga, da, oa, gc, dc, oc, rows, rfl, hgv, hdn, hoa, hrx, hra, hsub⟩
  refine WL.subE hsub ?_
  refine WL.perm (List.perm_middle (l₁ := _ :: rows.map (rowE 3))) ?_
  refine zA fun b13 => ?_
  refine zE 0 ?_
  refine zN (zU (zQ (zB ?_)))
  refine W.loop (β := Ro × Option Addr × Option Addr × Nat × Nat × St × Unit × List Sl) (fun (Rk, ga, da, gc, dc, st, g, rows) => RLe R Rk ∧ RS Rk 1 encI ga st.given ∧ RS Rk 1 encI da st.done ∧ rows.map Sl.xs = st.sent ∧ (∀ r ∈ rows, r.a.isSome = true) ∧ RInv ps classes (st.time + 1) ((st.time : Int) * cap) st ∧ st.time ≤ ticks ∧ (rticksL ps (slotRc ps cap tb) cap (ticks - st.time) st g).1 = rrunL ps (slotRc ps cap tb) cap classes ticks ()) (fun (Rk, ga, da, gc, dc, st, g, rows) => [(0, true, .int .i64 cap), (2, true, .slice wa tb.length wc), (3, true, .slice pa ps.length pc), (4, true, .int .i64 ticks), (10, true, .pointer (some ⟨b10, 0, none⟩)), (13, true, .pointer (some ⟨b13, 0, none⟩))]) (fun (Rk, _, _, _, _, _, _, _) => Rk) (fun (Rk, ga, da, gc, dc, st, g, rows) => .blk b13 [.int .i64 st.time, .slice ga st.given.length gc, .int .i64 st.now, .slice da st.done.length dc, .slice oa rows.length oc] :: .blk b10 [.slice none 0 0, .slice none 0 0] :: .sl 22 1 oa oc (rows.map encS) :: (rows.map (rowE 3) ++ E)) (fun (Rk, ga, da, gc, dc, st, g, rows) => ticks - st.time) ((R1, ga, da, gc, dc, rstart ps classes, (), rows)) (⟨hR1, hgv, hdn, hrx, hra, (show RInv ps classes 1 (((0 : Nat) : Int) * cap) (rstart ps classes) by simpa using RInv.start (classes := classes) hs1), Nat.zero_le _, rfl⟩) ⟨rfl, rfl, rfl, rfl, rfl, rfl, rfl⟩ (RLe.refl _) (by simp only [rstart, List.length_replicate]; exact qS) ?_
  intro st hst
  obtain ⟨Rk, ga, da, gc, dc, st0, g0, rows⟩ := st
  obtain ⟨hRk, hgv, hdn, hrx, hra, hinv, htk, hfin⟩ := hst
  dsimp only at hRk hgv hdn hrx hra hinv htk hfin ⊢
  have hp := hp.mono hRk
  have hwr := hwr.mono hRk
  have hce : (st0.time : Int) % (tb.length : Int) = ((st0.time % tb.length : Nat) : Int) := rfl
  have hml := Nat.mod_lt st0.time (show 0 < tb.length by omega)
  have hlr : rows.length = classes := by rw [← hinv.slen, ← hrx, List.length_map]
  refine zQ (zQ (zG (zR 1 rfl ?_)))
  refine yL (Rd.add (Rd.blk 0 rfl) _) ?_
  refine zR 2 rfl (zN (zU ?_))
  refine W.condD rfl (fun hc1 => ?_) (fun hc1 => ?_)
  ·try dsimp only at hc1
   refine zK (zU (zB (zQ (zG ?_))))
   refine yL (Rd.blk 0 rfl) ?_
   refine WL.perm perm_out ?_
   refine WL.call en107 rfl rfl (by decide) (CallOp.mkT rfl rfl rfl rfl) (BeginR_C w0 hoa (fun r hr => ⟨hra r hr, by have := (hinv.rows r.xs (by rw [← hrx]; exact List.mem_map_of_mem hr)).1; omega⟩) (by omega) _) ?_
   rintro _ _ E2 - ⟨rows2, rfl, rfl, hrx2, hra2, hsub⟩
   refine WL.subE hsub ?_
   refine WL.perm perm_out.symm ?_
   have hl2 : rows2.length = rows.length := by have := congrArg List.length hrx2; simpa using this
   refine zE 0 ?_
   refine zN (zU (zQ (zG (zR 2 rfl ?_))))
   refine yL (Rd.add (Rd.blk 0 rfl) _) ?_
   refine zR 2 rfl ?_
   refine WG.y rfl rfl qD (Yl.rem rfl rfl rfl (fun _ => rfl) qN qN) ?_
   rw [hce]
   refine WG.y rfl rfl qD (Yl.indexN tab_ok rfl rfl rfl rfl rfl rfl (fun _ => rfl) qN qH) ?_
   refine yR ?_
   refine zR 1 rfl (zN (zU (zQ ?_)))
   rw [show nth tb (st0.time % tb.length) = slotT tb st0.time from rfl]
   refine zQ (zG (zR 2 rfl (zN (zU (zB ?_)))))
   refine W.loop (β := Ro × Option Addr × Option Addr × Nat × Nat × St × Unit × List Sl × Int) (fun (Rk, ga, da, gc, dc, st, g, rows, left) => RLe R Rk ∧ RS Rk 1 encI ga st.given ∧ RS Rk 1 encI da st.done ∧ rows.map Sl.xs = st.sent ∧ (∀ r ∈ rows, r.a.isSome = true) ∧ (∃ k : Nat, rinnerL ps (slotRc ps cap tb) k left st g = rinnerL ps (slotRc ps cap tb) cap.toNat cap (rbegin st0) g0 ∧ left ≤ k) ∧ 0 ≤ left ∧ left ≤ cap ∧ st.time = st0.time ∧ ∃ B, RInv ps classes (st0.time + 2) B st ∧ B + left ≤ ((st0.time : Int) + 1) * cap) (fun (Rk, ga, da, gc, dc, st, g, rows, left) => [(0, true, .int .i64 cap), (2, true, .slice wa tb.length wc), (3, true, .slice pa ps.length pc), (4, true, .int .i64 ticks), (10, true, .pointer (some ⟨b10, 0, none⟩)), (13, true, .pointer (some ⟨b13, 0, none⟩)), (14, true, .int .i64 (slotT tb st0.time)), (15, true, .int .i64 left)]) (fun (Rk, _, _, _, _, _, _, _, _) => Rk) (fun (Rk, ga, da, gc, dc, st, g, rows, left) => .blk b13 [.int .i64 st.time, .slice ga st.given.length gc, .int .i64 st.now, .slice da st.done.length dc, .slice oa rows.length oc] :: .blk b10 [.slice none 0 0, .slice none 0 0] :: .sl 22 1 oa oc (rows.map encS) :: (rows.map (rowE 3) ++ E)) (fun (Rk, ga, da, gc, dc, st, g, rows, left) => left.toNat) ((Rk, ga, da, gc, dc, rbegin st0, g0, rows2, cap)) (⟨hRk, hgv, hdn, by rw [hrx2, hrx]; rfl, hra2, ⟨cap.toNat, rfl, by (try dsimp only); omega⟩, by (try dsimp only); omega, by (try dsimp only); omega, rfl, _, hinv.begin (by omega), by (try dsimp only); rw [Int.add_mul]; omega⟩) ⟨rfl, rfl, rfl, rfl, rfl, rfl, rfl, rfl, rfl⟩ (RLe.refl _) (by rw [← hl2]; exact qS) ?_
   intro st hst
   obtain ⟨Rk, ga, da, gc, dc, st1, g1, rows, left⟩ := st
   obtain ⟨hRk, hgv, hdn, hrx, hra, ⟨k, hin, hkk⟩, hl0, hlc, htime, B, hinv, hB⟩ := hst
   dsimp only at hRk hgv hdn hrx hra hin hkk hl0 hlc htime hinv hB ⊢
   have hp := hpR.mono hRk
   have hwr := hwR.mono hRk
   have hfl1 := firstW_lt ps st1 (slotT tb st0.time)
   have hB1 := hBt (st0.time + 1) (by omega)
   have hB2 : ((st0.time + 1 : Nat) : Int) = (st0.time : Int) + 1 := by omega
   rw [hB2] at hB1
   refine zQ (zQ (zG (zR 2 rfl (zN (zU ?_)))))
   refine W.condD rfl (fun hc2 => ?_) (fun hc2 => ?_)
   ·try dsimp only at hc2
    refine zK (zU (zB ?_))
    refine W.seqCut (β := St) (fun st2 => st2 = { st1 with now := (rpickL (slotRc ps cap tb) left st1 g1).1 }) (fun st2 => [(0, true, .int .i64 cap), (2, true, .slice wa tb.length wc), (3, true, .slice pa ps.length pc), (4, true, .int .i64 ticks), (10, true, .pointer (some ⟨b10, 0, none⟩)), (13, true, .pointer (some ⟨b13, 0, none⟩)), (14, true, .int .i64 (slotT tb st0.time)), (15, true, .int .i64 left)]) (fun _ => Rk) (fun st2 => .blk b13 [.int .i64 st2.time, .slice ga st2.given.length gc, .int .i64 st2.now, .slice da st2.done.length dc, .slice oa rows.length oc] :: .blk b10 [.slice none 0 0, .slice none 0 0] :: .sl 22 1 oa oc (rows.map encS) :: (rows.map (rowE 3) ++ E)) ?_ ?_
    ·
     intro st2 hst
     have hs2 := hst
     have hs2n : st2.now = (rpickL (slotRc ps cap tb) left st1 g1).1 := by rw [hs2]
     have hinv2 : RInv ps classes (st0.time + 2) B st2 := by rw [hs2]; exact hinv.pickL hs1 slot_waiting
     have hgv : RS Rk 1 encI ga st2.given := by rw [hs2]; exact hgv
     have hdn : RS Rk 1 encI da st2.done := by rw [hs2]; exact hdn
     have hrx : rows.map Sl.xs = st2.sent := by rw [hs2]; exact hrx
     refine zQ (zQ (zG (zR 1 rfl ?_)))
     refine yL (Rd.add (Rd.blk 0 rfl) _) ?_
     refine zR 1 rfl (zN (zU ?_))
     refine W.condE rfl (fun hc3 => ?_) (fun hc3 => ?_)
     ·try dsimp only at hc3
      have hend : rinnerL ps (slotRc ps cap tb) cap.toNat cap (rbegin st0) g0 = (st2, (rpickL (slotRc ps cap tb) left st1 g1).2) := by rw [← hin, rinnerL_none hkk (by omega) (by rw [← hs2n]; exact hc3), hs2]
      have hinv := hinv2
      have htime : st2.time = st0.time := by rw [hs2]; exact htime
      refine zX ?_
      refine wx ?_
      refine WE.blk_other rfl ?_
      refine wx (zY (zU (zG (zR 1 rfl ?_))))
      refine yL (Rd.add (Rd.blk 0 rfl) _) ?_
      refine yA ?_
      refine zR 1 rfl ?_
      refine zF 0 ?_
      refine zN (zL ?_)
      refine WE.again (Rk, ga, da, gc, dc, { st2 with time := st2.time + 1 }, (rpickL (slotRc ps cap tb) left st1 g1).2, rows) ⟨hRk, hgv, hdn, hrx, hra, ?_, by (try dsimp only); omega, ?_⟩ (by (try dsimp only); omega) ⟨rfl, rfl, rfl, rfl, rfl, rfl, rfl⟩ (RLe.refl _) qS
      ·have := hinv.tick.mono (B' := ((st0.time + 1 : Nat) : Int) * cap) (by rw [hB2]; omega)
       dsimp only at this ⊢
       rw [htime] at this ⊢; exact this
      ·dsimp only
       rw [← hfin, show ticks - st0.time = (ticks - (st0.time + 1)) + 1 by omega, rticksL, htime]
       have hrt : rtickL ps (slotRc ps cap tb) cap st0 g0 = ({ st2 with time := st0.time + 1 }, (rpickL (slotRc ps cap tb) left st1 g1).2) := by unfold rtickL; rw [hend]; dsimp only; rw [htime]
       rw [hrt]
     ·try dsimp only at hc3
      refine zK (zU (zQ (zG (zR 1 rfl (zN (zU (zQ (zG ?_))))))))
      refine yL (Rd.blk 0 rfl) ?_
      refine zR 2 rfl ?_
      refine WL.perm perm_out ?_
      refine WL.call en109 rfl rfl qD (CallOp.mkT rfl rfl rfl rfl) (SendR_C (classes := classes) (B := B) (len := st0.time + 2) w0 hoa hp hgv hdn hinv2 qO qO hrx hra hc3 qO hsz hf qO _) ?_
      rintro _ R3 E3 hR3 ⟨ga2, da2, gc2, dc2, rows3, rfl, hgv3, hdn3, hrx3, hra3, hsub⟩
      refine WL.subE hsub ?_
      refine WL.perm perm_out.symm ?_
      obtain ⟨hs4, hs5, hs6⟩ := hinv2.send hf (by omega) hc3 (most := left) (by omega)
      have hl3 : rows3.length = rows.length := by
       have h1 := congrArg List.length hrx3
       have h2 := hs4.slen
       have h3 := hinv2.slen
       have h4 := congrArg List.length hrx
       simp only [List.length_map] at h1 h4
       omega
      refine zR 3 rfl ?_
      refine zE 0 ?_
      refine zR 1 rfl (zN (zU (zG (zR 2 rfl ?_))))
      refine yS ?_
      refine zR 1 rfl (zN (zL ?_))
      have hin2 : rinnerL ps (slotRc ps cap tb) (k - 1) (left - rsendN ps left st2) (rsend ps left st2) (rpickL (slotRc ps cap tb) left st1 g1).2 = rinnerL ps (slotRc ps cap tb) cap.toNat cap (rbegin st0) g0 := by rw [← hin, rinnerL_some hkk (by omega) (by rw [← hs2n]; exact hc3), hs2]
      refine WE.again (R3, ga2, da2, gc2, dc2, rsend ps left st2, (rpickL (slotRc ps cap tb) left st1 g1).2, rows3, left - rsendN ps left st2) ⟨hRk.trans hR3, hgv3, hdn3, hrx3, hra3, ⟨k - 1, hin2, by (try dsimp only); omega⟩, by (try dsimp only); omega, by (try dsimp only); omega, by dsimp only; rw [rsend_time, hs2]; exact htime, _, hs4, by (try dsimp only); omega⟩ (by (try dsimp only); omega) ⟨rfl, rfl, rfl, rfl, rfl, rfl, rfl, rfl, rfl⟩ (RLe.refl _) (by rw [hl3]; exact qS)
    ·
     refine zQ (zG (zR 1 rfl ?_))
     refine yL (Rd.add (Rd.blk 0 rfl) _) ?_
     refine zR 2 rfl ?_
     refine yP ?_
     refine yP ?_
     refine yN ?_
     refine zN (zU ?_)
     refine W.cond rfl (fun hc4 => ?_) (fun hc4 => ?_)
     ·try simp only [zk] at hc4
      refine zQ (zG ?_)
      refine yL (Rd.blk 0 rfl) ?_
      refine zR 2 rfl ?_
      refine WG.callV en112 rfl rfl qD (CallOp.mk' rfl rfl rfl rfl) (fun _ => rfl) (fun hg => FirstR_V hp hgv hinv.glen) ?_
      refine zR 1 rfl (zN (zU (zQ ?_)))
      refine W.regionQ _ mixed qK ?_
      refine zR 3 rfl ?_
      refine yP ?_
      refine yP ?_
      refine WG.y rfl rfl (by decide) (Yl.index tab_ok rfl rfl rfl rfl rfl rfl qE (by intro hg; (try simp only [zk] at hg); constructor <;> (try dsimp only) <;> omega) (by intro hg; (try simp only [zk] at hg); first | exact qI)) ?_
      refine yP ?_
      refine' WG.y rfl rfl qD (Yl.loadG tab_ok rfl rfl rfl qE ?r10 rfl ?h10 ?g10) ?_
      case r10 => apply Rd.addC; ((apply RS.rdC; assumption))
      case h10 => rfl
      case g10 => (intro hg; (try simp only [zk] at hg); (try dsimp only); omega)
      refine yP ?_
      refine yP ?_
      refine yP ?_
      refine yG (Rd.addC (Rd.blkC 0 rfl) _) ?_
      refine yP ?_
      refine WG.callV en117 rfl rfl qD (CallOp.mk' rfl rfl rfl rfl) qE (fun hg => Room21_V hwr qO qO qO qO) ?_
      refine yP ?_
      refine yN ?_
      refine zN (zU ?_)
      refine W.cond rfl (fun hc5 => ?_) (fun hc5 => ?_)
      ·try simp only [zk] at hc5
       refine zG (zR 2 rfl ?_)
       refine zF 0 ?_
       refine zN ?_
       have hpk : rpickL (slotRc ps cap tb) left st1 g1 = (firstW ps st1 (slotT tb st0.time), g1) := by unfold rpickL slotRc; rw [if_pos hc4.1, htime, if_pos ⟨hc4.2, hc5.1, by have h5 := hc5.2; rw [htime] at h5; exact h5⟩]
       refine WE.cut { st1 with now := firstW ps st1 (slotT tb st0.time) } (by rw [hpk]) ⟨rfl, rfl, rfl, rfl, rfl, rfl, rfl, rfl, rfl⟩ (RLe.refl _) qS
      ·try simp only [zk] at hc5
       refine zK ?_
       have hpk : rpickL (slotRc ps cap tb) left st1 g1 = (-1, g1) := by unfold rpickL slotRc; rw [if_pos hc4.1, htime, if_neg (fun h => by have := hc5 h.2.1; have := h.2.2; simp_all; omega)]
       refine WE.cut st1 (by rw [hpk]; simp [← hc4.1]) ⟨rfl, rfl, rfl, rfl, rfl, rfl, rfl, rfl, rfl⟩ (RLe.refl _) qS
     ·try simp only [zk] at hc4
      refine zK ?_
      have hpk : rpickL (slotRc ps cap tb) left st1 g1 = (st1.now, g1) := by
       unfold rpickL slotRc
       by_cases h : st1.now = -1
       ·rw [if_pos h, htime, if_neg (fun h2 => by have := hc4 h; omega), h]
       ·rw [if_neg h]
      refine WE.cut st1 (by rw [hpk]) ⟨rfl, rfl, rfl, rfl, rfl, rfl, rfl, rfl, rfl⟩ (RLe.refl _) qS
   ·try dsimp only at hc2
    have hend : rinnerL ps (slotRc ps cap tb) cap.toNat cap (rbegin st0) g0 = (st1, g1) := by rw [← hin, rinnerL_stop (by omega)]
    refine zX ?_
    refine wx (wx (zY (zU (zG (zR 1 rfl ?_)))))
    refine yL (Rd.add (Rd.blk 0 rfl) _) ?_
    refine yA ?_
    refine zR 1 rfl ?_
    refine zF 0 ?_
    refine zN (zL ?_)
    refine WE.again (Rk, ga, da, gc, dc, { st1 with time := st1.time + 1 }, g1, rows) ⟨hRk, hgv, hdn, hrx, hra, ?_, by (try dsimp only); omega, ?_⟩ (by (try dsimp only); omega) ⟨rfl, rfl, rfl, rfl, rfl, rfl, rfl⟩ (RLe.refl _) qS
    ·have := hinv.tick.mono (B' := ((st0.time + 1 : Nat) : Int) * cap) (by rw [hB2]; omega)
     dsimp only at this ⊢
     rw [htime] at this ⊢; exact this
    ·dsimp only
     rw [← hfin, show ticks - st0.time = (ticks - (st0.time + 1)) + 1 by omega, rticksL, htime]
     have hrt : rtickL ps (slotRc ps cap tb) cap st0 g0 = ({ st1 with time := st0.time + 1 }, g1) := by unfold rtickL; rw [hend]; dsimp only; rw [htime]
     rw [hrt]
  ·try dsimp only at hc1
   have hst : st0.time = ticks := by omega
   have hfin2 : st0 = rrunL ps (slotRc ps cap tb) cap classes ticks () := by rw [← hfin, hst, Nat.sub_self]; rfl
   rw [hst] at hinv
   refine zX ?_
   refine wx (wx (zY (zU (zQ (zG (zR 1 rfl ?_))))))
   refine yL (Rd.add (Rd.blk 0 rfl) _) ?_
   refine zE 1 ?_
   refine zR 1 rfl (zN (zU (zT ?_)))
   refine WE.retF tab_ok [_, _] rfl ⟨⟨_, _, _, rfl, rfl, rfl, qB, rfl⟩, rfl, trivial⟩ (hRk) ?_
   exact ⟨da, oa, dc, oc, rows, st0, hfin2, rfl, hdn, hrx, hra, hinv, qS⟩

end Go.Proofs.YthpblaoehlgpfaaGreat
