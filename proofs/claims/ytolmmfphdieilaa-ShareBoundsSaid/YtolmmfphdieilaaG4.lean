/- Rules and walks, joined from 22 texts: the first of them says: Chapters 13 and 16: Sound and Later. No condition. -/
import Derived.Test.YtolmmfphdieilaaG3
import Derived.WalkSpells
/- Chapters 13 and 16: Sound and Later. No condition. -/
set_option linter.unusedSimpArgs false
set_option linter.unusedVariables false
namespace Go.Proofs.Ytolmmfphdieilaa
open Go Go.RowKit Go.Proofs.Ytolmmfphdieilaa.K Go.Proofs.Ytolmmfphdieilaa.M

theorem Sound_V {R : Ro} {oa : Option Addr} {oc : Nat} {rows : List Sl} {pa da : Option Addr} {pl pc dc n : Nat} (ho : RS R 1 encS oa rows) (hn : rows.length = n) (hn2 : n ≤ 1000) {t : Int} (ht : 0 ≤ t ∧ t ≤ 1000000) (hl : ∀ r ∈ rows, (r.xs.length : Int) = t + 1) :
    FnV Try.prog 34 [.slice pa pl pc, .agg #[.slice da pl dc, .slice oa n oc], .int .i64 n, .int .i64 t] R (.bool true) := by
  subst hn
  refine Fn.toV (fun w0 E => ?_)
  refine Fn.enter (n := 37) Try.func34 rfl rfl (Nat.le_of_ble_eq_true rfl) rfl ?_
  refine W.seq ?_
  refine W.region _ ?_
  refine WL.ef rfl rfl (by decide) (Ef.box rfl rfl (fun b5 => ?_))
  refine WG.run tab_ok 1 rfl ?_
  refine WG.nil ?_
  refine WE.nxt ?_
  refine W.seq ?_
  refine W.seq ?_
  refine W.region _ ?_
  refine WG.run tab_ok 1 rfl ?_
  refine' WG.y rfl rfl (by decide) (Yl.load1 tab_ok rfl rfl rfl (fun _ => rfl) ?r1 rfl ?h1) ?_
  case r1 => apply Rd.add; (first | exact Rd.blk 0 rfl | exact Rd.blk 1 rfl)
  case h1 => rfl
  refine WG.run tab_ok 5 rfl ?_
  refine WG.y rfl rfl (by decide) (pureV_ok tab_ok rfl qE) ?_
  refine' WG.y rfl rfl (by decide) (Yl.loadG tab_ok rfl rfl rfl qE ?r2 rfl ?h2 ?g2) ?_
  case r2 => apply Rd.addC; (first | exact Rd.blkC 0 rfl | exact Rd.blkC 1 rfl)
  case h2 => rfl
  case g2 => first | exact fun _ => trivial | (intro hg; (try simp only [decide_eq_true_eq, decide_eq_false_iff_not, beq_iff_eq, bne_iff_ne, beq_eq_false_iff_ne, bne_eq_false_iff_eq, ne_eq, Bool.or_eq_true, Bool.or_eq_false_iff, Bool.and_eq_true, Bool.and_eq_false_imp, Bool.not_eq_true, Bool.not_eq_true', Bool.not_eq_false', Classical.not_not, Int.not_lt, Int.not_le, gt_iff_lt, ge_iff_le] at hg); (try dsimp only); omega)
  refine WG.y rfl rfl (by decide) (pureV_ok tab_ok rfl qE) ?_
  refine WG.y rfl rfl (by decide) (pureV_ok tab_ok rfl qE) ?_
  refine WG.y rfl rfl (by decide) (pureV_ok tab_ok rfl qE) ?_
  refine WG.y rfl rfl (by decide) (Yl.por rfl rfl rfl (fun _ => rfl) (by intro h1 h2; simp_all <;> omega)) ?_
  refine WG.nil ?_
  refine WE.nxt ?_
  refine W.cond rfl (fun hc0 => ?_) (fun hc0 => ?_)
  · try simp only [decide_eq_true_eq, decide_eq_false_iff_not, beq_iff_eq, bne_iff_ne, beq_eq_false_iff_ne, bne_eq_false_iff_eq, ne_eq, Bool.or_eq_true, Bool.or_eq_false_iff, Bool.and_eq_true, Bool.and_eq_false_imp, Bool.not_eq_true, Bool.not_eq_true', Bool.not_eq_false', Classical.not_not, Int.not_lt, Int.not_le, gt_iff_lt, ge_iff_le] at hc0
    exact absurd hc0 (by simp)
  · try simp only [decide_eq_true_eq, decide_eq_false_iff_not, beq_iff_eq, bne_iff_ne, beq_eq_false_iff_ne, bne_eq_false_iff_eq, ne_eq, Bool.or_eq_true, Bool.or_eq_false_iff, Bool.and_eq_true, Bool.and_eq_false_imp, Bool.not_eq_true, Bool.not_eq_true', Bool.not_eq_false', Classical.not_not, Int.not_lt, Int.not_le, gt_iff_lt, ge_iff_le] at hc0
    refine W.skip ?_
    refine WE.nxt ?_
    refine W.seq ?_
    refine W.seq ?_
    refine W.region _ ?_
    refine WG.run tab_ok 1 rfl ?_
    refine WG.nil ?_
    refine WE.nxt ?_
    refine W.block ?_
    refine W.loop (β := Nat) (fun k => k ≤ rows.length) (fun k => [(2, true, .int .i64 rows.length), (3, true, .int .i64 t), (5, true, .pointer (some ⟨b5, 0, none⟩)), (9, true, .int .i64 (k : Int))]) (fun _ => R) (fun _ => .blk b5 [.slice da pl dc, .slice oa rows.length oc] :: E) (fun k => rows.length - k) (0) (Nat.zero_le _) ⟨rfl, rfl, rfl, rfl, rfl⟩ (RLe.refl _) qS ?_
    intro st hst
    have hk : st ≤ rows.length := hst
    refine W.seq ?_
    refine W.seq ?_
    refine W.region _ ?_
    refine WG.run tab_ok 3 rfl ?_
    refine WG.nil ?_
    refine WE.nxt ?_
    refine W.condD rfl (fun hc1 => ?_) (fun hc1 => ?_)
    · try dsimp only at hc1
      have hx := hl _ (nth_mem (xs := rows) (k := st) (by omega))
      refine W.skip ?_
      refine WE.nxt ?_
      refine W.seq ?_
      refine W.block ?_
      refine W.seq ?_
      refine W.region _ ?_
      refine WG.run tab_ok 1 rfl ?_
      refine' WG.y rfl rfl (by decide) (Yl.load1 tab_ok rfl rfl rfl (fun _ => rfl) ?r3 rfl ?h3) ?_
      case r3 => apply Rd.add; (first | exact Rd.blk 0 rfl | exact Rd.blk 1 rfl)
      case h3 => rfl
      refine WG.run tab_ok 1 rfl ?_
      refine WG.y rfl rfl (by decide) (Yl.indexN tab_ok rfl rfl rfl rfl rfl rfl (fun _ => rfl) (by intro _; (try dsimp only) <;> omega) (by intro _; first | exact fun _ _ _ _ => rfl | exact RS.has (by assumption) | exact fun _ _ _ _ => (by assumption) | exact HasMem.ownD 0 rfl | exact HasMem.ownD 1 rfl)) ?_
      refine' WG.y rfl rfl (by decide) (Yl.load1 tab_ok rfl rfl rfl (fun _ => rfl) ?r4 rfl ?h4) ?_
      case r4 => (first | (apply RS.rdD; assumption; ((try dsimp only) <;> omega)) | exact Rd.slD 0 rfl (by (try dsimp only) <;> omega) | exact Rd.slD 1 rfl (by (try dsimp only) <;> omega))
      case h4 => rfl
      refine WG.run tab_ok 2 rfl ?_
      refine WG.y rfl rfl (by decide) (Yl.add rfl rfl rfl (fun _ => rfl) (by intro _; constructor <;> (try dsimp only) <;> omega)) ?_
      refine WG.run tab_ok 1 rfl ?_
      refine WG.nil ?_
      refine WE.nxt ?_
      refine W.condN rfl (fun hc2 => ?_) (fun hc2 => ?_)
      · try dsimp only at hc2
        omega
      · try dsimp only at hc2
        refine W.skip ?_
        refine WE.blk _ ?_
        refine WE.nxt ?_
        refine W.region _ ?_
        refine WG.run tab_ok 1 rfl ?_
        refine WG.y rfl rfl (by decide) (Yl.add rfl rfl rfl (fun _ => rfl) (by intro _; constructor <;> (try dsimp only) <;> omega)) ?_
        refine WG.run tab_ok 1 rfl ?_
        refine WG.nil ?_
        refine WE.again (st + 1) (by omega) (by (try dsimp only); omega) ⟨rfl, rfl, rfl, rfl, rfl⟩ (RLe.refl _) qS
    · try dsimp only at hc1
      refine W.exit ?_
      refine WE.then_exit ?_
      refine WE.then_exit ?_
      refine WE.blk_exit ?_
      refine WE.nxt ?_
      refine W.seq ?_
      refine W.region _ ?_
      refine WG.run tab_ok 1 rfl ?_
      refine WG.nil ?_
      refine WE.nxt ?_
      refine W.ret ?_
      refine WE.subE (E' := E) qS ?_
      refine WE.retF tab_ok [_] rfl ⟨rfl, trivial⟩ (RLe.refl _) ?_
      exact ⟨rfl, rfl⟩

end Go.Proofs.Ytolmmfphdieilaa

/- Chapter 16: everything later. No condition. -/
set_option linter.unusedSimpArgs false
set_option linter.unusedVariables false
namespace Go.Proofs.Ytolmmfphdieilaa
open Go Go.RowKit Go.Proofs.Ytolmmfphdieilaa.K Go.Proofs.Ytolmmfphdieilaa.M

theorem LRun_len {R : Ro} {pa : Option Addr} {pc l : Nat} {ps : List Pkt} (hp : RS R 3 encP pa ps) (hlen : ps.length = l) {cap : Int} {classes ticks : Nat} (w0 : World) (hv : Ok ps) (hc : checkE cap classes ticks ps = 0) (E : List Ent) :
    K.Fn Try.prog 33 [.int .i64 cap, .int .i64 classes, .slice pa l pc, .int .i64 ticks] w0 R E
      (fun v R' E' => ∃ (rows : List Sl) (gd go : Nat) (s : M.RS Unit), s = mrun ps (fifo ps) cap classes ticks () ∧ v = .tuple #[.agg #[.slice (some ⟨gd, 0, none⟩) l l, .slice (some ⟨go, 0, none⟩) classes classes], .int .i64 0] ∧ R = R' ∧ rows.map Sl.xs = s.sent ∧ (∀ r ∈ rows, r.a.isSome = true) ∧ Inv ps classes (goodF ps) (ticks + 1) (ticks * cap) s ∧
        (.sl 3 1 (some ⟨gd, 0, none⟩) l (s.done.map encI) :: .sl 22 1 (some ⟨go, 0, none⟩) classes (rows.map encS) :: (rows.map (rowE 3) ++ E)).Sublist E') := by
  subst hlen; exact LRun_ok hp w0 hv hc E
end Go.Proofs.Ytolmmfphdieilaa

/- Chapter 16: what all classes together are sent. No condition. -/
set_option linter.unusedSimpArgs false
set_option linter.unusedVariables false
namespace Go.Proofs.Ytolmmfphdieilaa
open Go Go.RowKit Go.Proofs.Ytolmmfphdieilaa.K Go.Proofs.Ytolmmfphdieilaa.M

theorem At_W {R : Ro} {a : Option Addr} {c : Nat} {xs : List Int} {per inc t : Int} (ha : RS R 1 encI a xs) (hper : InR per) (ht : InR t) (hinc : 0 ≤ inc) (hB : ∀ q : Int, 0 ≤ q → q ≤ t → (q + 1) * inc ≤ 4611686018427387904) (hv : ∀ x ∈ xs, -2305843009213693952 ≤ x ∧ x ≤ 4611686018427387904) :
    FnV Try.prog 18 [.agg #[.slice a xs.length c, .int .i64 per, .int .i64 inc], .int .i64 t] R (.int .i64 (atR xs per inc t)) := by
  have hla := ha.len
  refine Fn.toV (fun w0 E => ?_)
  refine Fn.enter (n := 62) Try.func18 rfl rfl (Nat.le_of_ble_eq_true rfl) rfl ?_
  refine W.seq ?_
  refine W.region _ ?_
  refine WL.ef rfl rfl (by decide) (Ef.box rfl rfl (fun b2 => ?_))
  refine WG.run tab_ok 1 rfl ?_
  refine WG.nil ?_
  refine WE.nxt ?_
  refine W.seq ?_
  refine W.region _ ?_
  refine WG.run tab_ok 1 rfl ?_
  refine' WG.y rfl rfl (by decide) (Yl.load1 tab_ok rfl rfl rfl (fun _ => rfl) ?r1 rfl ?h1) ?_
  case r1 => apply Rd.add; (first | exact Rd.blk 0 rfl | exact Rd.blk 1 rfl)
  case h1 => rfl
  refine WG.run tab_ok 2 rfl ?_
  refine WG.nil ?_
  refine WE.nxt ?_
  refine W.seq ?_
  refine W.seq ?_
  refine W.region _ ?_
  refine WG.run tab_ok 3 rfl ?_
  refine WG.y rfl rfl (by decide) (pureV_ok tab_ok rfl qE) ?_
  refine WG.y rfl rfl (by decide) (pureV_ok tab_ok rfl qE) ?_
  refine WG.y rfl rfl (by decide) (pureV_ok tab_ok rfl qE) ?_
  refine WG.y rfl rfl (by decide) (pureV_ok tab_ok rfl qE) ?_
  refine WG.y rfl rfl (by decide) (pureV_ok tab_ok rfl qE) ?_
  refine' WG.y rfl rfl (by decide) (Yl.loadG tab_ok rfl rfl rfl qE ?r2 rfl ?h2 ?g2) ?_
  case r2 => apply Rd.addC; (first | exact Rd.blkC 0 rfl | exact Rd.blkC 1 rfl)
  case h2 => rfl
  case g2 => first | exact fun _ => trivial | (intro hg; (try simp only [decide_eq_true_eq, decide_eq_false_iff_not, beq_iff_eq, bne_iff_ne, beq_eq_false_iff_ne, bne_eq_false_iff_eq, ne_eq, Bool.or_eq_true, Bool.or_eq_false_iff, Bool.and_eq_true, Bool.and_eq_false_imp, Bool.not_eq_true, Bool.not_eq_true', Bool.not_eq_false', Classical.not_not, Int.not_lt, Int.not_le, gt_iff_lt, ge_iff_le] at hg); (try dsimp only); omega)
  refine WG.y rfl rfl (by decide) (pureV_ok tab_ok rfl qE) ?_
  refine WG.y rfl rfl (by decide) (pureV_ok tab_ok rfl qE) ?_
  refine WG.y rfl rfl (by decide) (pureV_ok tab_ok rfl qE) ?_
  refine' WG.y rfl rfl (by decide) (Yl.loadG tab_ok rfl rfl rfl qE ?r3 rfl ?h3 ?g3) ?_
  case r3 => apply Rd.addC; (first | exact Rd.blkC 0 rfl | exact Rd.blkC 1 rfl)
  case h3 => rfl
  case g3 => first | exact fun _ => trivial | (intro hg; (try simp only [decide_eq_true_eq, decide_eq_false_iff_not, beq_iff_eq, bne_iff_ne, beq_eq_false_iff_ne, bne_eq_false_iff_eq, ne_eq, Bool.or_eq_true, Bool.or_eq_false_iff, Bool.and_eq_true, Bool.and_eq_false_imp, Bool.not_eq_true, Bool.not_eq_true', Bool.not_eq_false', Classical.not_not, Int.not_lt, Int.not_le, gt_iff_lt, ge_iff_le] at hg); (try dsimp only); omega)
  refine WG.y rfl rfl (by decide) (pureV_ok tab_ok rfl qE) ?_
  refine WG.y rfl rfl (by decide) (pureV_ok tab_ok rfl qE) ?_
  refine WG.y rfl rfl (by decide) (Yl.por rfl rfl rfl qE (by intro h1 h2; simp_all <;> omega)) ?_
  refine WG.y rfl rfl (by decide) (Yl.pand rfl rfl rfl qE (by intro h1 h2; simp_all <;> omega)) ?_
  refine WG.y rfl rfl (by decide) (Yl.por rfl rfl rfl (fun _ => rfl) (by intro h1 h2; simp_all <;> omega)) ?_
  refine WG.nil ?_
  refine WE.nxt ?_
  refine W.cond rfl (fun hc0 => ?_) (fun hc0 => ?_)
  · try simp only [decide_eq_true_eq, decide_eq_false_iff_not, beq_iff_eq, bne_iff_ne, beq_eq_false_iff_ne, bne_eq_false_iff_eq, ne_eq, Bool.or_eq_true, Bool.or_eq_false_iff, Bool.and_eq_true, Bool.and_eq_false_imp, Bool.not_eq_true, Bool.not_eq_true', Bool.not_eq_false', Classical.not_not, Int.not_lt, Int.not_le, gt_iff_lt, ge_iff_le] at hc0
    have e : atR xs per inc t = -1 := by unfold atR; rw [if_pos (by omega)]
    refine W.seq ?_
    refine W.region _ ?_
    refine WG.run tab_ok 1 rfl ?_
    refine WG.nil ?_
    refine WE.nxt ?_
    refine W.ret ?_
    refine WE.then_ret ?_
    refine WE.subE (E' := E) qS ?_
    refine WE.retF tab_ok [_] rfl ⟨rfl, trivial⟩ (RLe.refl _) ?_
    exact ⟨by rw [e]; rfl, rfl⟩
  · try simp only [decide_eq_true_eq, decide_eq_false_iff_not, beq_iff_eq, bne_iff_ne, beq_eq_false_iff_ne, bne_eq_false_iff_eq, ne_eq, Bool.or_eq_true, Bool.or_eq_false_iff, Bool.and_eq_true, Bool.and_eq_false_imp, Bool.not_eq_true, Bool.not_eq_true', Bool.not_eq_false', Classical.not_not, Int.not_lt, Int.not_le, gt_iff_lt, ge_iff_le] at hc0
    have hb : ¬ (t < 0 ∨ ((xs.length : Int) ≤ t ∧ (per < 1 ∨ (xs.length : Int) < per))) := by
      rintro (h1 | ⟨h1, h2 | h2⟩) <;> omega
    refine W.skip ?_
    refine WE.nxt ?_
    refine W.seq ?_
    refine W.seq ?_
    refine W.region _ ?_
    refine WG.run tab_ok 3 rfl ?_
    refine WG.nil ?_
    refine WE.nxt ?_
    refine W.condD rfl (fun hc1 => ?_) (fun hc1 => ?_)
    · try dsimp only at hc1
      have e : atR xs per inc t = nth xs t.toNat := by unfold atR; rw [if_neg hb, if_pos hc1]
      refine W.seq ?_
      refine W.region _ ?_
      refine WG.run tab_ok 1 rfl ?_
      refine' WG.y rfl rfl (by decide) (Yl.load1 tab_ok rfl rfl rfl (fun _ => rfl) ?r4 rfl ?h4) ?_
      case r4 => apply Rd.add; (first | exact Rd.blk 0 rfl | exact Rd.blk 1 rfl)
      case h4 => rfl
      refine WG.run tab_ok 1 rfl ?_
      refine WG.y rfl rfl (by decide) (Yl.index tab_ok rfl rfl rfl rfl rfl rfl (fun _ => rfl) (by intro _; constructor <;> (try dsimp only) <;> omega) (by intro _; first | exact fun _ _ _ _ => rfl | exact RS.has (by assumption) | exact fun _ _ _ _ => (by assumption) | exact HasMem.ownD 0 rfl | exact HasMem.ownD 1 rfl)) ?_
      refine' WG.y rfl rfl (by decide) (Yl.load1 tab_ok rfl rfl rfl (fun _ => rfl) ?r5 rfl ?h5) ?_
      case r5 => (first | (apply RS.rdD; assumption; ((try dsimp only) <;> omega)) | exact Rd.slD 0 rfl (by (try dsimp only) <;> omega) | exact Rd.slD 1 rfl (by (try dsimp only) <;> omega))
      case h5 => rfl
      refine WG.run tab_ok 1 rfl ?_
      refine WG.nil ?_
      refine WE.nxt ?_
      refine W.ret ?_
      refine WE.then_ret ?_
      refine WE.subE (E' := E) qS ?_
      refine WE.retF tab_ok [_] rfl ⟨rfl, trivial⟩ (RLe.refl _) ?_
      exact ⟨by rw [e]; rfl, rfl⟩
    · try dsimp only at hc1
      obtain ⟨hp1, hp2⟩ : 1 ≤ per ∧ per ≤ (xs.length : Int) := by omega
      have q1 : 0 ≤ (t - (xs.length : Int)) / per := Int.ediv_nonneg (by omega) (by omega)
      have q2 : (t - (xs.length : Int)) / per * per ≤ t - xs.length := Int.ediv_mul_le _ (by omega)
      have q3 : t - (xs.length : Int) < ((t - (xs.length : Int)) / per + 1) * per := Int.lt_ediv_add_one_mul_self _ (by omega)
      have q4 : ((t - (xs.length : Int)) / per + 1) * per = (t - (xs.length : Int)) / per * per + per := by rw [Int.add_mul]; simp
      have q5 : (t - (xs.length : Int)) / per ≤ t - xs.length := Int.ediv_le_self _ (by omega)
      have q6 : ((t - (xs.length : Int)) / per + 1) * inc ≤ 4611686018427387904 := hB _ q1 (by omega)
      have q7 : 0 ≤ ((t - (xs.length : Int)) / per + 1) * inc := Int.mul_nonneg (by omega) hinc
      refine W.skip ?_
      refine WE.nxt ?_
      refine W.seq ?_
      refine W.region _ ?_
      refine WG.run tab_ok 2 rfl ?_
      refine WG.y rfl rfl (by decide) (Yl.sub rfl rfl rfl (fun _ => rfl) (by intro _; constructor <;> (try dsimp only) <;> omega)) ?_
      refine WG.run tab_ok 1 rfl ?_
      refine' WG.y rfl rfl (by decide) (Yl.load1 tab_ok rfl rfl rfl (fun _ => rfl) ?r6 rfl ?h6) ?_
      case r6 => apply Rd.add; (first | exact Rd.blk 0 rfl | exact Rd.blk 1 rfl)
      case h6 => rfl
      refine WG.y rfl rfl (by decide) (Yl.quo rfl rfl rfl (fun _ => rfl) (by intro _; constructor <;> (try dsimp only) <;> omega) (by intro _; omega)) ?_
      refine WG.y rfl rfl (by decide) (Yl.add rfl rfl rfl (fun _ => rfl) (by intro _; constructor <;> (try dsimp only) <;> omega)) ?_
      refine WG.run tab_ok 1 rfl ?_
      refine WG.nil ?_
      refine WE.nxt ?_
      refine W.seq ?_
      refine W.region _ ?_
      refine WG.run tab_ok 1 rfl ?_
      refine' WG.y rfl rfl (by decide) (Yl.load1 tab_ok rfl rfl rfl (fun _ => rfl) ?r7 rfl ?h7) ?_
      case r7 => apply Rd.add; (first | exact Rd.blk 0 rfl | exact Rd.blk 1 rfl)
      case h7 => rfl
      refine WG.run tab_ok 3 rfl ?_
      refine' WG.y rfl rfl (by decide) (Yl.load1 tab_ok rfl rfl rfl (fun _ => rfl) ?r8 rfl ?h8) ?_
      case r8 => apply Rd.add; (first | exact Rd.blk 0 rfl | exact Rd.blk 1 rfl)
      case h8 => rfl
      refine WG.y rfl rfl (by decide) (Yl.mul rfl rfl rfl (fun _ => rfl) (by intro _; constructor <;> (try dsimp only) <;> omega)) ?_
      refine WG.y rfl rfl (by decide) (Yl.sub rfl rfl rfl (fun _ => rfl) (by intro _; constructor <;> (try dsimp only) <;> omega)) ?_
      refine WG.y rfl rfl (by decide) (Yl.index tab_ok rfl rfl rfl rfl rfl rfl (fun _ => rfl) (by intro _; constructor <;> (try dsimp only) <;> omega) (by intro _; first | exact fun _ _ _ _ => rfl | exact RS.has (by assumption) | exact fun _ _ _ _ => (by assumption) | exact HasMem.ownD 0 rfl | exact HasMem.ownD 1 rfl)) ?_
      refine' WG.y rfl rfl (by decide) (Yl.load1 tab_ok rfl rfl rfl (fun _ => rfl) ?r9 rfl ?h9) ?_
      case r9 => (first | (apply RS.rdD; assumption; ((try dsimp only) <;> omega)) | exact Rd.slD 0 rfl (by (try dsimp only) <;> omega) | exact Rd.slD 1 rfl (by (try dsimp only) <;> omega))
      case h9 => rfl
      refine WG.run tab_ok 1 rfl ?_
      refine WG.nil ?_
      refine WE.nxt ?_
      refine W.seq ?_
      refine W.seq ?_
      refine W.region _ ?_
      refine WG.run tab_ok 2 rfl ?_
      refine WG.nil ?_
      refine WE.nxt ?_
      refine W.condE rfl (fun hc2 => ?_) (fun hc2 => ?_)
      · try dsimp only at hc2
        have e : atR xs per inc t = 4611686018427387904 := by unfold atR; rw [if_neg hb, if_neg (by omega), if_pos hc2]
        refine W.seq ?_
        refine W.region _ ?_
        refine WG.run tab_ok 1 rfl ?_
        refine WG.nil ?_
        refine WE.nxt ?_
        refine W.ret ?_
        refine WE.then_ret ?_
        refine WE.subE (E' := E) qS ?_
        refine WE.retF tab_ok [_] rfl ⟨rfl, trivial⟩ (RLe.refl _) ?_
        exact ⟨by rw [e]; rfl, rfl⟩
      · try dsimp only at hc2
        have e : atR xs per inc t = nth xs (t - ((t - xs.length) / per + 1) * per).toNat + ((t - xs.length) / per + 1) * inc := by unfold atR; rw [if_neg hb, if_neg (by omega), if_neg hc2]
        have hx := hv _ (nth_mem (xs := xs) (k := (t - ((t - xs.length) / per + 1) * per).toNat) (by omega))
        refine W.skip ?_
        refine WE.nxt ?_
        refine W.seq ?_
        refine W.region _ ?_
        refine WG.run tab_ok 3 rfl ?_
        refine' WG.y rfl rfl (by decide) (Yl.load1 tab_ok rfl rfl rfl (fun _ => rfl) ?r10 rfl ?h10) ?_
        case r10 => apply Rd.add; (first | exact Rd.blk 0 rfl | exact Rd.blk 1 rfl)
        case h10 => rfl
        refine WG.y rfl rfl (by decide) (Yl.mul rfl rfl rfl (fun _ => rfl) (by intro _; constructor <;> (try dsimp only) <;> omega)) ?_
        refine WG.y rfl rfl (by decide) (Yl.add rfl rfl rfl (fun _ => rfl) (by intro _; constructor <;> (try dsimp only) <;> omega)) ?_
        refine WG.run tab_ok 1 rfl ?_
        refine WG.nil ?_
        refine WE.nxt ?_
        refine W.ret ?_
        refine WE.subE (E' := E) qS ?_
        refine WE.retF tab_ok [_] rfl ⟨rfl, trivial⟩ (RLe.refl _) ?_
        exact ⟨by rw [e]; rfl, rfl⟩

theorem At_V {R : Ro} {a : Option Addr} {c : Nat} {xs : List Int} {per inc t : Int} (ha : RS R 1 encI a xs) (hper : InR per) (ht : InR t ∧ t ≤ 1000000000) (hinc : 0 ≤ inc ∧ inc ≤ 2147483648) (hv : ∀ x ∈ xs, -2305843009213693952 ≤ x ∧ x ≤ 4611686018427387904) :
    FnV Try.prog 18 [.agg #[.slice a xs.length c, .int .i64 per, .int .i64 inc], .int .i64 t] R (.int .i64 (atR xs per inc t)) :=
  At_W ha hper ht.1 hinc.1 (fun q q0 q1 => by
    have : (q + 1) * inc ≤ 1000000001 * 2147483648 := Int.mul_le_mul (by omega) hinc.2 hinc.1 (by omega)
    omega) hv
end Go.Proofs.Ytolmmfphdieilaa

/- Chapter 16: the line works. No condition. -/
set_option linter.unusedSimpArgs false
set_option linter.unusedVariables false
namespace Go.Proofs.Ytolmmfphdieilaa
open Go Go.RowKit Go.Proofs.Ytolmmfphdieilaa.K Go.Proofs.Ytolmmfphdieilaa.M

end Go.Proofs.Ytolmmfphdieilaa

/- Chapter 16: the reference line. No condition. -/
set_option linter.unusedSimpArgs false
set_option linter.unusedVariables false
namespace Go.Proofs.Ytolmmfphdieilaa
open Go Go.RowKit Go.Proofs.Ytolmmfphdieilaa.K Go.Proofs.Ytolmmfphdieilaa.M

end Go.Proofs.Ytolmmfphdieilaa

/- Chapter 16: the reference line, begun. No condition. -/
set_option linter.unusedSimpArgs false
set_option linter.unusedVariables false
namespace Go.Proofs.Ytolmmfphdieilaa
open Go Go.RowKit Go.Proofs.Ytolmmfphdieilaa.K Go.Proofs.Ytolmmfphdieilaa.M

end Go.Proofs.Ytolmmfphdieilaa

/- Chapter 16: the reference run. No condition. -/
set_option linter.unusedSimpArgs false
set_option linter.unusedVariables false
namespace Go.Proofs.Ytolmmfphdieilaa
open Go Go.RowKit Go.Proofs.Ytolmmfphdieilaa.K Go.Proofs.Ytolmmfphdieilaa.M

end Go.Proofs.Ytolmmfphdieilaa

/- Chapter 16: what is answered to anything. No condition. -/
set_option linter.unusedSimpArgs false
set_option linter.unusedVariables false
namespace Go.Proofs.Ytolmmfphdieilaa
open Go Go.RowKit Go.Proofs.Ytolmmfphdieilaa.K Go.Proofs.Ytolmmfphdieilaa.M

end Go.Proofs.Ytolmmfphdieilaa

/- A trace in which one thing is changed. No condition. -/
set_option linter.unusedSimpArgs false
set_option linter.unusedVariables false
namespace Go.Proofs.Ytolmmfphdieilaa
open Go Go.RowKit Go.Proofs.Ytolmmfphdieilaa.K Go.Proofs.Ytolmmfphdieilaa.M

end Go.Proofs.Ytolmmfphdieilaa

/- The rules of the walks, over any program: a call that only reads the memory that is owned. No condition. -/
namespace Go.Proofs.Ytolmmfphdieilaa.K
open Go Go.RowKit

/-- a call that hands back this value and leaves this memory as it is -/
def FnE (P : Program) (f : FuncId) (args : List Value) (w0 : World) (R : Ro) (E : List Ent) (v : Value) : Prop :=
  ∀ w, Mem w0 w R E → Calls P f args.toArray w fun e w' => e = .returned v ∧ Mem w0 w' R E
section
variable {P : Program} {ops : List Oper} {Q : Exit → Act → World → Prop} {rest : List Oper} {n : Nat} {env : Env} {w0 : World} {R : Ro} {E : List Ent} {o : Oper} {pc q draw : Bool}
end
end Go.Proofs.Ytolmmfphdieilaa.K
namespace Go.Proofs.Ytolmmfphdieilaa.K
open Go Go.RowKit
section
variable {P : Program} {n : Nat} {env : Env} {w0 : World} {R : Ro} {E : List Ent} {o : Oper} {pc p q : Bool}
end
end Go.Proofs.Ytolmmfphdieilaa.K
namespace Go.Proofs.Ytolmmfphdieilaa.K
open Go Go.RowKit
section
variable {P : Program} {n : Nat} {env : Env} {w0 : World} {R : Ro} {E : List Ent} {o : Oper} {pc p q : Bool}
/-- a slice against nil -/
theorem Yl.eqNilS {t t' e : TypeId} {x y : Operand} {a : Option Addr} {m c m' c' : Nat} (hu : P.underlying t = some (.slice e)) (ho : o.op = .binOp .eql t x y t') (hx : ev env x = some (p, .slice a m c)) (hy : ev env y = some (q, .slice none m' c'))
    (hpq : pc = true → (p && q) = true) : Yl P n env w0 R E o pc (.bool a.isNone) := by
  intro ac w hk hm hp
  obtain ⟨h1, h2⟩ := and_both (hpq hp)
  have e1 : (binOp .eql t (.slice a m c) (.slice none m' c')).run P w = .ok (.bool a.isNone) w := by
    simp only [binOp]
    simp [Op.equal, Op.maxDepth, Lib.run_equalIn_slice_nil w 9999 t e a m c m' c' hu]
  unfold execOp
  simp [ho, hk.ev hx h1, hk.ev hy h2, eqGuard, e1]
end
theorem RS.some {α : Type} {_i : Inhabited α} {R : Ro} {k : Nat} {enc : α → List Value} {a : Option Addr} {xs : List α} (h : RS (_i := _i) R k enc a xs) (hx : 0 < xs.length) : a.isNone = false := by
  rcases h.2.1 with h1 | ⟨b, off, cs, h1, _⟩
  · rw [List.map_eq_nil_iff] at h1; rw [h1] at hx; simp at hx
  · rw [h1]; rfl
end Go.Proofs.Ytolmmfphdieilaa.K

/- Chapter 19: the choice of weighted round robin. No condition. -/
set_option linter.unusedSimpArgs false
set_option linter.unusedVariables false
namespace Go.Proofs.Ytolmmfphdieilaa
open Go Go.RowKit Go.Proofs.Ytolmmfphdieilaa.K Go.Proofs.Ytolmmfphdieilaa.M

end Go.Proofs.Ytolmmfphdieilaa

/- Curves of schedulers: rounds, the first enough, the least period, values checked. No condition. -/
set_option linter.unusedSimpArgs false
set_option linter.unusedVariables false
namespace Go.Proofs.Ytolmmfphdieilaa
open Go Go.RowKit Go.Proofs.Ytolmmfphdieilaa.K Go.Proofs.Ytolmmfphdieilaa.M

theorem Common_V {R : Ro} {a b : Nat} (ha : a ≤ 1000000000) (hb : 0 < b ∧ b ≤ 1000000) : FnV Try.prog 53 [.int .i64 (a : Int), .int .i64 (b : Int)] R (.int .i64 ((a / Nat.gcd a b * b : Nat) : Int)) := by
  refine Fn.toV (fun w0 E => ?_)
  have hg : 0 < Nat.gcd a b := Nat.gcd_pos_of_pos_right _ hb.1
  have hq : ((a : Int) / (Nat.gcd a b : Int) * (b : Int)) ≤ 1000000000 * 1000000 ∧ 0 ≤ ((a : Int) / (Nat.gcd a b : Int) * (b : Int)) := by
    have h1 : a / Nat.gcd a b * b ≤ 1000000000 * 1000000 := Nat.mul_le_mul (Nat.le_trans (Nat.div_le_self _ _) ha) hb.2
    have e : ((a : Int) / (Nat.gcd a b : Int) * (b : Int)) = ((a / Nat.gcd a b * b : Nat) : Int) := rfl
    omega
  refine Fn.enter (n := 20) Try.func53 rfl rfl (Nat.le_of_ble_eq_true rfl) rfl ?_
  refine W.seq ?_
  refine W.region _ ?_
  refine WG.run tab_ok 1 rfl ?_
  refine WG.nil ?_
  refine WE.nxt ?_
  refine W.seq ?_
  refine W.region _ ?_
  refine WG.run tab_ok 4 rfl ?_
  refine WG.nil ?_
  refine WE.nxt ?_
  refine W.seq ?_
  refine W.block ?_
  refine W.loopK (β := Nat × Nat) (fun (x, y) => Nat.gcd x y = Nat.gcd a b) (fun (x, y) => [(5, true, .int .i64 (x : Int)), (6, true, .int .i64 (y : Int))]) [0, 1] [_, _] [] _ rfl (fun (x, y) => []) (fun (x, y) => y) ((a, b)) (rfl) ⟨rfl, rfl, rfl, rfl, rfl⟩ qS ?_
  intro st hst
  obtain ⟨x, y⟩ := st
  dsimp only [zipE, setAll, List.cons_append, List.nil_append, List.set_cons_zero, List.set_cons_succ] at hst ⊢
  
  refine W.seq ?_
  refine W.seq ?_
  refine W.region _ ?_
  refine WG.run tab_ok 2 rfl ?_
  refine WG.nil ?_
  refine WE.nxt ?_
  refine W.condN rfl (fun hc0 => ?_) (fun hc0 => ?_)
  · try dsimp only at hc0
    refine W.skip ?_
    refine WE.nxt ?_
    refine W.block ?_
    refine W.regionQ _ mixed (by kernel_rfl) ?_
    refine WG.run tab_ok 3 rfl ?_
    refine WG.y rfl rfl (by decide) (Yl.rem rfl rfl rfl (fun _ => rfl) (by intro _; (try dsimp only) <;> omega) (by intro _; (try dsimp only) <;> omega)) ?_
    refine WG.run tab_ok 2 rfl ?_
    refine WG.nil ?_
    refine WE.blk _ ?_
    refine WE.again ((y, x % y)) ((gcd_step x y).trans hst) (by dsimp only; exact Nat.mod_lt _ (by omega)) ⟨rfl, rfl, rfl, rfl, rfl⟩ (RLe.refl _) qS
  · try dsimp only at hc0
    obtain rfl : y = 0 := by omega
    rw [Nat.gcd_zero_right] at hst
    subst hst
    refine W.exit ?_
    refine WE.then_exit ?_
    refine WE.then_exit ?_
    refine WE.blk_exit ?_
    refine WE.nxt ?_
    refine W.seq ?_
    refine W.region _ ?_
    refine WG.run tab_ok 2 rfl ?_
    refine WG.y rfl rfl (by decide) (Yl.quo rfl rfl rfl (fun _ => rfl) (by intro _; constructor <;> (try dsimp only) <;> omega) (by intro _; omega)) ?_
    refine WG.run tab_ok 1 rfl ?_
    refine WG.y rfl rfl (by decide) (Yl.mul rfl rfl rfl (fun _ => rfl) (by intro _; constructor <;> (try dsimp only) <;> omega)) ?_
    refine WG.run tab_ok 1 rfl ?_
    refine WG.nil ?_
    refine WE.nxt ?_
    refine W.ret ?_
    refine WE.subE (E' := E) qS ?_
    refine WE.retF tab_ok [_] rfl ⟨rfl, trivial⟩ (RLe.refl _) ?_
    exact ⟨rfl, rfl⟩

theorem LeastW_V {R : Ro} {a : Option Addr} {c : Nat} {v : List Int} {inc : Int} {l : Nat} (ha : RS R 1 encI a v) (hvl : v.length = l) (hl : 0 < l ∧ l ≤ 100000) (hi : 0 ≤ inc ∧ inc ≤ 1000000000000) (hv : ∀ x ∈ v, 0 ≤ x ∧ x ≤ 1000000000000000) : FnV Try.prog 110 [.slice a l c, .int .i64 inc] R (.int .i64 (leastL v inc : Int)) := by
  subst hvl
  refine Fn.toV (fun w0 E => ?_)
  refine Fn.enter (n := 84) Try.func110 rfl rfl (Nat.le_of_ble_eq_true rfl) rfl ?_
  refine W.seq ?_
  refine W.region _ ?_
  refine WG.run tab_ok 1 rfl ?_
  refine WG.nil ?_
  refine WE.nxt ?_
  refine W.scope ?_
  refine W.seq ?_
  refine W.region _ ?_
  refine WG.run tab_ok 3 rfl ?_
  refine WG.nil ?_
  refine WE.nxt ?_
  refine W.seq ?_
  refine W.label ?_
  refine WE.nxt ?_
  refine W.seq ?_
  refine W.seq ?_
  refine W.region _ ?_
  refine WG.run tab_ok 1 rfl ?_
  refine WG.nil ?_
  refine WE.nxt ?_
  refine W.block ?_
  refine W.loopK (β := Nat) (fun p => 1 ≤ p ∧ p ≤ max 1 v.length ∧ ∀ j, 1 ≤ j → j < p → leastOk v inc j = false) (fun p => [(6, true, .int .i64 (p : Int))]) [0, 1, 5] [_, _, _] [] _ rfl (fun p => []) (fun p => v.length - p) (1) (⟨Nat.le_refl _, by omega, fun j a b => by omega⟩) ⟨rfl, rfl, rfl, rfl, rfl⟩ qS ?_
  intro p hst
  dsimp only [zipE, setAll, List.cons_append, List.nil_append, List.set_cons_zero, List.set_cons_succ] at hst ⊢
  obtain ⟨h1, h2, h3⟩ := hst
  have hip : 0 ≤ inc * (p : Int) ∧ inc * (p : Int) ≤ 1000000000000 * 100000 := ⟨Int.mul_nonneg hi.1 (by omega), Int.mul_le_mul hi.2 (by omega) (by omega) (by omega)⟩
  have hiq : 0 ≤ inc * (p : Int) / (v.length : Int) ∧ inc * (p : Int) / (v.length : Int) ≤ 1000000000000 * 100000 := ⟨Int.ediv_nonneg hip.1 (by omega), Int.le_trans (Int.ediv_le_self _ hip.1) hip.2⟩
  refine W.seq ?_
  refine W.seq ?_
  refine W.region _ ?_
  refine WG.run tab_ok 3 rfl ?_
  refine WG.nil ?_
  refine WE.nxt ?_
  refine W.condD rfl (fun hc0 => ?_) (fun hc0 => ?_)
  · try dsimp only at hc0
    refine W.skip ?_
    refine WE.nxt ?_
    refine W.seq ?_
    refine W.block ?_
    refine W.seq ?_
    refine W.seq ?_
    refine W.region _ ?_
    refine WG.run tab_ok 2 rfl ?_
    refine WG.y rfl rfl (by decide) (Yl.rem rfl rfl rfl (fun _ => rfl) (by intro _; (try dsimp only) <;> omega) (by intro _; (try dsimp only) <;> omega)) ?_
    refine WG.run tab_ok 2 rfl ?_
    refine WG.y rfl rfl (by decide) (pureV_ok tab_ok rfl qE) ?_
    refine WG.y rfl rfl (by decide) (pureV_ok tab_ok rfl qE) ?_
    refine WG.y rfl rfl (by decide) (Yl.mul rfl rfl rfl qE (by intro hg; (try simp only [decide_eq_true_eq, decide_eq_false_iff_not, beq_iff_eq, bne_iff_ne, beq_eq_false_iff_ne, bne_eq_false_iff_eq, ne_eq, Bool.or_eq_true, Bool.or_eq_false_iff, Bool.and_eq_true, Bool.and_eq_false_imp, Bool.not_eq_true, Bool.not_eq_true', Bool.not_eq_false', Classical.not_not, Int.not_lt, Int.not_le, gt_iff_lt, ge_iff_le] at hg); constructor <;> (try dsimp only) <;> omega)) ?_
    refine WG.y rfl rfl (by decide) (pureV_ok tab_ok rfl qE) ?_
    refine WG.y rfl rfl (by decide) (Yl.rem rfl rfl rfl qE (by intro hg; (try simp only [decide_eq_true_eq, decide_eq_false_iff_not, beq_iff_eq, bne_iff_ne, beq_eq_false_iff_ne, bne_eq_false_iff_eq, ne_eq, Bool.or_eq_true, Bool.or_eq_false_iff, Bool.and_eq_true, Bool.and_eq_false_imp, Bool.not_eq_true, Bool.not_eq_true', Bool.not_eq_false', Classical.not_not, Int.not_lt, Int.not_le, gt_iff_lt, ge_iff_le] at hg); (try dsimp only) <;> omega) (by intro hg; (try simp only [decide_eq_true_eq, decide_eq_false_iff_not, beq_iff_eq, bne_iff_ne, beq_eq_false_iff_ne, bne_eq_false_iff_eq, ne_eq, Bool.or_eq_true, Bool.or_eq_false_iff, Bool.and_eq_true, Bool.and_eq_false_imp, Bool.not_eq_true, Bool.not_eq_true', Bool.not_eq_false', Classical.not_not, Int.not_lt, Int.not_le, gt_iff_lt, ge_iff_le] at hg); (try dsimp only) <;> omega)) ?_
    refine WG.y rfl rfl (by decide) (pureV_ok tab_ok rfl qE) ?_
    refine WG.y rfl rfl (by decide) (Yl.por rfl rfl rfl (fun _ => rfl) (by intro h1 h2; simp_all <;> omega)) ?_
    refine WG.nil ?_
    refine WE.nxt ?_
    refine W.cond rfl (fun hc1 => ?_) (fun hc1 => ?_)
    · try simp only [decide_eq_true_eq, decide_eq_false_iff_not, beq_iff_eq, bne_iff_ne, beq_eq_false_iff_ne, bne_eq_false_iff_eq, ne_eq, Bool.or_eq_true, Bool.or_eq_false_iff, Bool.and_eq_true, Bool.and_eq_false_imp, Bool.not_eq_true, Bool.not_eq_true', Bool.not_eq_false', Classical.not_not, Int.not_lt, Int.not_le, gt_iff_lt, ge_iff_le] at hc1
      have hno : leastOk v inc p = false := leastOk_no1 (by rcases hc1 with h | h; exact .inl (by omega); exact .inr h)
      refine W.exit ?_
      refine WE.then_exit ?_
      refine WE.blk_exit ?_
      refine WE.nxt ?_
      refine W.region _ ?_
      refine WG.run tab_ok 1 rfl ?_
      refine WG.y rfl rfl (by decide) (Yl.add rfl rfl rfl (fun _ => rfl) (by intro _; constructor <;> (try dsimp only) <;> omega)) ?_
      refine WG.run tab_ok 1 rfl ?_
      refine WG.nil ?_
      refine WE.again (p + 1) (⟨by omega, by omega, fun j a b => by
        by_cases e : j = p
        · subst e; exact hno
        · exact h3 j a (by omega)⟩) (by (try dsimp only); omega) ⟨rfl, rfl, rfl, rfl, rfl⟩ (RLe.refl _) qS
    · try simp only [decide_eq_true_eq, decide_eq_false_iff_not, beq_iff_eq, bne_iff_ne, beq_eq_false_iff_ne, bne_eq_false_iff_eq, ne_eq, Bool.or_eq_true, Bool.or_eq_false_iff, Bool.and_eq_true, Bool.and_eq_false_imp, Bool.not_eq_true, Bool.not_eq_true', Bool.not_eq_false', Classical.not_not, Int.not_lt, Int.not_le, gt_iff_lt, ge_iff_le] at hc1
      have hy1 : v.length % p = 0 := by have := hc1.1; omega
      have hy2 : (inc * (p : Int)) % (v.length : Int) = 0 := hc1.2
      refine W.skip ?_
      refine WE.nxt ?_
      refine W.seq ?_
      refine W.region _ ?_
      refine WG.run tab_ok 2 rfl ?_
      refine WG.y rfl rfl (by decide) (Yl.mul rfl rfl rfl (fun _ => rfl) (by intro _; constructor <;> (try dsimp only) <;> omega)) ?_
      refine WG.run tab_ok 1 rfl ?_
      refine WG.y rfl rfl (by decide) (Yl.quo rfl rfl rfl (fun _ => rfl) (by intro _; constructor <;> (try dsimp only) <;> omega) (by intro _; omega)) ?_
      refine WG.run tab_ok 1 rfl ?_
      refine WG.nil ?_
      refine WE.nxt ?_
      refine W.seq ?_
      refine W.seq ?_
      refine W.region _ ?_
      refine WG.run tab_ok 3 rfl ?_
      refine WG.nil ?_
      refine WE.nxt ?_
      refine W.block ?_
      refine W.loopK (β := Nat) (fun i => i ≤ v.length ∧ ∀ j, j < i → leastC v inc p j = true) (fun i => [(36, true, .int .i64 (i : Int))]) [0, 1, 5, 6, 7, 35] [_, _, _, _, _, _] [] _ rfl (fun i => []) (fun i => v.length - i) (0) (⟨Nat.zero_le _, fun j hj => by omega⟩) ⟨rfl, rfl, rfl, rfl, rfl, rfl, rfl, rfl⟩ qS ?_
      intro i hst
      dsimp only [zipE, setAll, List.cons_append, List.nil_append, List.set_cons_zero, List.set_cons_succ] at hst ⊢
      
      refine W.seq ?_
      refine W.region _ ?_
      refine WG.run tab_ok 1 rfl ?_
      refine WG.nil ?_
      refine WE.nxt ?_
      refine W.seq ?_
      refine W.condD rfl (fun hc2 => ?_) (fun hc2 => ?_)
      · try dsimp only at hc2
        have hil : i < v.length := by omega
        have hvi := hv _ (nth_mem hil)
        have e1 : ((i : Int) + (p : Int)).toNat = i + p := by omega
        have e2 : ((i : Int) + (p : Int) - (v.length : Int)).toNat = i + p - v.length := by omega
        have hvj : i + p < v.length → 0 ≤ nth v (i + p) ∧ nth v (i + p) ≤ 1000000000000000 := fun h => hv _ (nth_mem h)
        have hvk : v.length ≤ i + p → 0 ≤ nth v (i + p - v.length) ∧ nth v (i + p - v.length) ≤ 1000000000000000 := fun h => hv _ (nth_mem (by omega))
        have hvk2 : v.length ≤ i + p → 0 ≤ nth v ((i : Int) + (p : Int) - (v.length : Int)).toNat ∧ nth v ((i : Int) + (p : Int) - (v.length : Int)).toNat ≤ 1000000000000000 := fun h => by rw [e2]; exact hvk h
        refine W.skip ?_
        refine WE.nxt ?_
        refine W.seq ?_
        refine W.block ?_
        refine W.seq ?_
        refine W.region _ ?_
        refine WG.run tab_ok 2 rfl ?_
        refine WG.nil ?_
        refine WE.nxt ?_
        refine W.seq ?_
        refine W.region _ ?_
        refine WG.run tab_ok 2 rfl ?_
        refine WG.y rfl rfl (by decide) (Yl.indexN tab_ok rfl rfl rfl rfl rfl rfl (fun _ => rfl) (by intro _; (try dsimp only) <;> omega) (by intro _; first | exact fun _ _ _ _ => rfl | exact RS.has (by assumption) | exact fun _ _ _ _ => (by assumption) | exact HasMem.ownD 0 rfl)) ?_
        refine' WG.y rfl rfl (by decide) (Yl.load1 tab_ok rfl rfl rfl (fun _ => rfl) ?r1 rfl ?h1) ?_
        case r1 => (first | (apply RS.rdD; assumption; ((try dsimp only) <;> omega)) | exact Rd.slD 0 rfl (by (try dsimp only) <;> omega))
        case h1 => rfl
        refine WG.run tab_ok 1 rfl ?_
        refine WG.y rfl rfl (by decide) (Yl.add rfl rfl rfl (fun _ => rfl) (by intro _; constructor <;> (try dsimp only) <;> omega)) ?_
        refine WG.run tab_ok 1 rfl ?_
        refine WG.nil ?_
        refine WE.nxt ?_
        refine W.seq ?_
        refine W.region _ ?_
        refine WG.run tab_ok 2 rfl ?_
        refine WG.y rfl rfl (by decide) (Yl.add rfl rfl rfl (fun _ => rfl) (by intro _; constructor <;> (try dsimp only) <;> omega)) ?_
        refine WG.run tab_ok 3 rfl ?_
        refine WG.y rfl rfl (by decide) (pureV_ok tab_ok rfl qE) ?_
        refine WG.y rfl rfl (by decide) (pureV_ok tab_ok rfl qE) ?_
        refine WG.y rfl rfl (by decide) (pureV_ok tab_ok rfl qE) ?_
        refine WG.y rfl rfl (by decide) (Yl.add rfl rfl rfl qE (by intro hg; (try simp only [decide_eq_true_eq, decide_eq_false_iff_not, beq_iff_eq, bne_iff_ne, beq_eq_false_iff_ne, bne_eq_false_iff_eq, ne_eq, Bool.or_eq_true, Bool.or_eq_false_iff, Bool.and_eq_true, Bool.and_eq_false_imp, Bool.not_eq_true, Bool.not_eq_true', Bool.not_eq_false', Classical.not_not, Int.not_lt, Int.not_le, gt_iff_lt, ge_iff_le] at hg); constructor <;> (try dsimp only) <;> omega)) ?_
        refine WG.y rfl rfl (by decide) (Yl.index tab_ok rfl rfl rfl rfl rfl rfl qE (by intro hg; (try simp only [decide_eq_true_eq, decide_eq_false_iff_not, beq_iff_eq, bne_iff_ne, beq_eq_false_iff_ne, bne_eq_false_iff_eq, ne_eq, Bool.or_eq_true, Bool.or_eq_false_iff, Bool.and_eq_true, Bool.and_eq_false_imp, Bool.not_eq_true, Bool.not_eq_true', Bool.not_eq_false', Classical.not_not, Int.not_lt, Int.not_le, gt_iff_lt, ge_iff_le] at hg); constructor <;> (try dsimp only) <;> omega) (by intro hg; (try simp only [decide_eq_true_eq, decide_eq_false_iff_not, beq_iff_eq, bne_iff_ne, beq_eq_false_iff_ne, bne_eq_false_iff_eq, ne_eq, Bool.or_eq_true, Bool.or_eq_false_iff, Bool.and_eq_true, Bool.and_eq_false_imp, Bool.not_eq_true, Bool.not_eq_true', Bool.not_eq_false', Classical.not_not, Int.not_lt, Int.not_le, gt_iff_lt, ge_iff_le] at hg); first | exact fun _ _ _ _ => rfl | exact RS.has (by assumption) | exact fun _ _ _ _ => (by assumption) | exact HasMem.ownD 0 rfl)) ?_
        refine' WG.y rfl rfl (by decide) (Yl.loadG tab_ok rfl rfl rfl qE ?r2 rfl ?h2 ?g2) ?_
        case r2 => (first | (apply RS.rdC; assumption) | exact Rd.slC 0 rfl)
        case h2 => rfl
        case g2 => first | exact fun _ => trivial | (intro hg; (try simp only [decide_eq_true_eq, decide_eq_false_iff_not, beq_iff_eq, bne_iff_ne, beq_eq_false_iff_ne, bne_eq_false_iff_eq, ne_eq, Bool.or_eq_true, Bool.or_eq_false_iff, Bool.and_eq_true, Bool.and_eq_false_imp, Bool.not_eq_true, Bool.not_eq_true', Bool.not_eq_false', Classical.not_not, Int.not_lt, Int.not_le, gt_iff_lt, ge_iff_le] at hg); (try dsimp only); omega)
        refine WG.y rfl rfl (by decide) (pureV_ok tab_ok rfl qE) ?_
        refine WG.y rfl rfl (by decide) (pureV_ok tab_ok rfl qE) ?_
        refine WG.y rfl rfl (by decide) (Yl.pand rfl rfl rfl (fun _ => rfl) (by intro h1 h2; simp_all <;> omega)) ?_
        refine WG.run tab_ok 1 rfl ?_
        refine WG.y rfl rfl (by decide) (pureV_ok tab_ok rfl qE) ?_
        refine WG.y rfl rfl (by decide) (pureV_ok tab_ok rfl qE) ?_
        refine WG.y rfl rfl (by decide) (Yl.add rfl rfl rfl qE (by intro hg; (try simp only [decide_eq_true_eq, decide_eq_false_iff_not, beq_iff_eq, bne_iff_ne, beq_eq_false_iff_ne, bne_eq_false_iff_eq, ne_eq, Bool.or_eq_true, Bool.or_eq_false_iff, Bool.and_eq_true, Bool.and_eq_false_imp, Bool.not_eq_true, Bool.not_eq_true', Bool.not_eq_false', Classical.not_not, Int.not_lt, Int.not_le, gt_iff_lt, ge_iff_le] at hg); constructor <;> (try dsimp only) <;> omega)) ?_
        refine WG.y rfl rfl (by decide) (pureV_ok tab_ok rfl qE) ?_
        refine WG.y rfl rfl (by decide) (pureV_ok tab_ok rfl qE) ?_
        refine WG.y rfl rfl (by decide) (pureV_ok tab_ok rfl qE) ?_
        refine WG.y rfl rfl (by decide) (pureV_ok tab_ok rfl qE) ?_
        refine WG.y rfl rfl (by decide) (pureV_ok tab_ok rfl qE) ?_
        refine WG.y rfl rfl (by decide) (pureV_ok tab_ok rfl qE) ?_
        refine WG.y rfl rfl (by decide) (Yl.add rfl rfl rfl qE (by intro hg; (try simp only [decide_eq_true_eq, decide_eq_false_iff_not, beq_iff_eq, bne_iff_ne, beq_eq_false_iff_ne, bne_eq_false_iff_eq, ne_eq, Bool.or_eq_true, Bool.or_eq_false_iff, Bool.and_eq_true, Bool.and_eq_false_imp, Bool.not_eq_true, Bool.not_eq_true', Bool.not_eq_false', Classical.not_not, Int.not_lt, Int.not_le, gt_iff_lt, ge_iff_le] at hg); constructor <;> (try dsimp only) <;> omega)) ?_
        refine WG.y rfl rfl (by decide) (pureV_ok tab_ok rfl qE) ?_
        refine WG.y rfl rfl (by decide) (Yl.sub rfl rfl rfl qE (by intro hg; (try simp only [decide_eq_true_eq, decide_eq_false_iff_not, beq_iff_eq, bne_iff_ne, beq_eq_false_iff_ne, bne_eq_false_iff_eq, ne_eq, Bool.or_eq_true, Bool.or_eq_false_iff, Bool.and_eq_true, Bool.and_eq_false_imp, Bool.not_eq_true, Bool.not_eq_true', Bool.not_eq_false', Classical.not_not, Int.not_lt, Int.not_le, gt_iff_lt, ge_iff_le] at hg); constructor <;> (try dsimp only) <;> omega)) ?_
        refine WG.y rfl rfl (by decide) (Yl.index tab_ok rfl rfl rfl rfl rfl rfl qE (by intro hg; (try simp only [decide_eq_true_eq, decide_eq_false_iff_not, beq_iff_eq, bne_iff_ne, beq_eq_false_iff_ne, bne_eq_false_iff_eq, ne_eq, Bool.or_eq_true, Bool.or_eq_false_iff, Bool.and_eq_true, Bool.and_eq_false_imp, Bool.not_eq_true, Bool.not_eq_true', Bool.not_eq_false', Classical.not_not, Int.not_lt, Int.not_le, gt_iff_lt, ge_iff_le] at hg); constructor <;> (try dsimp only) <;> omega) (by intro hg; (try simp only [decide_eq_true_eq, decide_eq_false_iff_not, beq_iff_eq, bne_iff_ne, beq_eq_false_iff_ne, bne_eq_false_iff_eq, ne_eq, Bool.or_eq_true, Bool.or_eq_false_iff, Bool.and_eq_true, Bool.and_eq_false_imp, Bool.not_eq_true, Bool.not_eq_true', Bool.not_eq_false', Classical.not_not, Int.not_lt, Int.not_le, gt_iff_lt, ge_iff_le] at hg); first | exact fun _ _ _ _ => rfl | exact RS.has (by assumption) | exact fun _ _ _ _ => (by assumption) | exact HasMem.ownD 0 rfl)) ?_
        refine' WG.y rfl rfl (by decide) (Yl.loadG tab_ok rfl rfl rfl qE ?r3 rfl ?h3 ?g3) ?_
        case r3 => (first | (apply RS.rdC; assumption) | exact Rd.slC 0 rfl)
        case h3 => rfl
        case g3 => first | exact fun _ => trivial | (intro hg; (try simp only [decide_eq_true_eq, decide_eq_false_iff_not, beq_iff_eq, bne_iff_ne, beq_eq_false_iff_ne, bne_eq_false_iff_eq, ne_eq, Bool.or_eq_true, Bool.or_eq_false_iff, Bool.and_eq_true, Bool.and_eq_false_imp, Bool.not_eq_true, Bool.not_eq_true', Bool.not_eq_false', Classical.not_not, Int.not_lt, Int.not_le, gt_iff_lt, ge_iff_le] at hg); (try dsimp only); omega)
        refine WG.y rfl rfl (by decide) (pureV_ok tab_ok rfl qE) ?_
        refine WG.y rfl rfl (by decide) (Yl.add rfl rfl rfl qE (by intro hg; (try simp only [decide_eq_true_eq, decide_eq_false_iff_not, beq_iff_eq, bne_iff_ne, beq_eq_false_iff_ne, bne_eq_false_iff_eq, ne_eq, Bool.or_eq_true, Bool.or_eq_false_iff, Bool.and_eq_true, Bool.and_eq_false_imp, Bool.not_eq_true, Bool.not_eq_true', Bool.not_eq_false', Classical.not_not, Int.not_lt, Int.not_le, gt_iff_lt, ge_iff_le] at hg); constructor <;> (try dsimp only) <;> omega)) ?_
        refine WG.y rfl rfl (by decide) (pureV_ok tab_ok rfl qE) ?_
        refine WG.y rfl rfl (by decide) (pureV_ok tab_ok rfl qE) ?_
        refine WG.y rfl rfl (by decide) (Yl.pand rfl rfl rfl qE (by intro h1 h2; simp_all <;> omega)) ?_
        refine WG.y rfl rfl (by decide) (Yl.por rfl rfl rfl (fun _ => rfl) (by intro h1 h2; simp_all <;> omega)) ?_
        refine WG.nil ?_
        refine WE.nxt ?_
        refine W.cond rfl (fun hc3 => ?_) (fun hc3 => ?_)
        · try simp only [decide_eq_true_eq, decide_eq_false_iff_not, beq_iff_eq, bne_iff_ne, beq_eq_false_iff_ne, bne_eq_false_iff_eq, ne_eq, Bool.or_eq_true, Bool.or_eq_false_iff, Bool.and_eq_true, Bool.and_eq_false_imp, Bool.not_eq_true, Bool.not_eq_true', Bool.not_eq_false', Classical.not_not, Int.not_lt, Int.not_le, gt_iff_lt, ge_iff_le] at hc3
          have hC : leastC v inc p i = false := by
            unfold leastC
            rw [← Bool.not_eq_true]
            intro h
            rw [beq_iff_eq] at h
            rw [e1, e2] at hc3
            rcases hc3 with ⟨x1, x2⟩ | ⟨x1, x2⟩
            · rw [if_pos (by omega)] at h; exact x2 h
            · rw [if_neg (by omega)] at h; exact x2 h
          have hno : leastOk v inc p = false := leastOk_no2 hil hC
          refine W.exit ?_
          refine WE.blk_other rfl ?_
          refine WE.then_exit ?_
          refine WE.then_exit ?_
          refine WE.blk_other rfl ?_
          refine WE.then_exit ?_
          refine WE.blk_exit ?_
          refine WE.nxt ?_
          refine W.region _ ?_
          refine WG.run tab_ok 1 rfl ?_
          refine WG.y rfl rfl (by decide) (Yl.add rfl rfl rfl (fun _ => rfl) (by intro _; constructor <;> (try dsimp only) <;> omega)) ?_
          refine WG.run tab_ok 1 rfl ?_
          refine WG.nil ?_
          refine WE.again (p + 1) (⟨by omega, by omega, fun j a b => by
            by_cases e : j = p
            · subst e; exact hno
            · exact h3 j a (by omega)⟩) (by (try dsimp only); omega) ⟨rfl, rfl, rfl, rfl, rfl⟩ (RLe.refl _) qS
        · try simp only [decide_eq_true_eq, decide_eq_false_iff_not, beq_iff_eq, bne_iff_ne, beq_eq_false_iff_ne, bne_eq_false_iff_eq, ne_eq, Bool.or_eq_true, Bool.or_eq_false_iff, Bool.and_eq_true, Bool.and_eq_false_imp, Bool.not_eq_true, Bool.not_eq_true', Bool.not_eq_false', Classical.not_not, Int.not_lt, Int.not_le, gt_iff_lt, ge_iff_le] at hc3
          have hC : leastC v inc p i = true := by
            unfold leastC
            rw [beq_iff_eq]
            rw [e1, e2] at hc3
            by_cases h : i + p < v.length
            · rw [if_pos h]; exact hc3.1 (by omega)
            · rw [if_neg h]; exact hc3.2 (by omega)
          refine W.skip ?_
          refine WE.blk _ ?_
          refine WE.nxt ?_
          refine W.region _ ?_
          refine WG.y rfl rfl (by decide) (Yl.add rfl rfl rfl (fun _ => rfl) (by intro _; constructor <;> (try dsimp only) <;> omega)) ?_
          refine WG.run tab_ok 1 rfl ?_
          refine WG.nil ?_
          refine WE.again (i + 1) (⟨by omega, fun j hj => by
            by_cases e : j = i
            · subst e; exact hC
            · exact hst.2 j (by omega)⟩) (by (try dsimp only); omega) ⟨rfl, rfl, rfl, rfl, rfl, rfl, rfl, rfl⟩ (RLe.refl _) qS
      · try dsimp only at hc2
        obtain rfl : i = v.length := by omega
        have hok : leastOk v inc p = true := leastOk_yes hy1 hy2 hst.2
        refine W.exit ?_
        refine WE.then_exit ?_
        refine WE.then_exit ?_
        refine WE.blk_exit ?_
        refine WE.nxt ?_
        refine W.seq ?_
        refine W.region _ ?_
        refine WG.run tab_ok 2 rfl ?_
        refine WG.nil ?_
        refine WE.nxt ?_
        refine W.ret ?_
        refine WE.blk_ret ?_
        refine WE.then_ret ?_
        refine WE.then_ret ?_
        refine WE.blk_ret ?_
        refine WE.then_ret ?_
        refine WE.scope_ret ?_
        refine WE.subE (E' := E) qS ?_
        refine WE.retF tab_ok [_] rfl ⟨rfl, trivial⟩ (RLe.refl _) ?_
        exact ⟨by rw [leastL_some h1 (by omega) hok h3]; rfl, rfl⟩
  · try dsimp only at hc0
    refine W.exit ?_
    refine WE.then_exit ?_
    refine WE.then_exit ?_
    refine WE.blk_exit ?_
    refine WE.nxt ?_
    refine W.seq ?_
    refine W.region _ ?_
    refine WG.run tab_ok 2 rfl ?_
    refine WG.nil ?_
    refine WE.nxt ?_
    refine W.ret ?_
    refine WE.scope_ret ?_
    refine WE.subE (E' := E) qS ?_
    refine WE.retF tab_ok [_] rfl ⟨rfl, trivial⟩ (RLe.refl _) ?_
    exact ⟨by rw [leastL_none (fun j a b => h3 j a (by omega))]; rfl, rfl⟩

theorem Checked_C {R : Ro} {a : Option Addr} {c : Nat} {v : List Int} {p q : Int} {l : Nat} (ha : RS R 1 encI a v) (hvl : v.length = l) (w0 : World) (E : List Ent) : K.Fn Try.prog 111 [.slice a l c, .int .i64 p, .int .i64 q] w0 R E (fun r R' E' => ∃ (f : Option Addr) (fc : Nat), r = cvV f fc (checkedL v p q) ∧ RS R' 1 encI f (checkedL v p q).1.vals ∧ E.Sublist E') := by
  subst hvl
  have hla := ha.len
  refine Fn.enter (n := 33) Try.func111 rfl rfl (Nat.le_of_ble_eq_true rfl) rfl ?_
  refine W.seq ?_
  refine W.region _ ?_
  refine WL.ef rfl rfl (by decide) (Ef.alloc tab_ok rfl rfl (fun b6 => ?_))
  refine WG.run tab_ok 1 rfl ?_
  refine WG.nil ?_
  refine WE.nxt ?_
  refine W.seq ?_
  refine W.seq ?_
  refine W.region _ ?_
  refine WG.run tab_ok 3 rfl ?_
  refine WG.nil ?_
  refine WE.nxt ?_
  refine W.condD rfl (fun hc0 => ?_) (fun hc0 => ?_)
  · try dsimp only at hc0
    have hb : checkedE v = 3 := checkedE_big (by omega)
    refine W.seq ?_
    refine W.region _ ?_
    -- build
    refine WG.y rfl rfl (by decide) (Yl.build (parts := []) tab_ok rfl rfl rfl rfl (fun _ => rfl) rfl rfl) ?_
    first | refine WL.efN rfl rfl (Ef.store0 0 tab_ok rfl rfl rfl rfl rfl rfl rfl rfl ?_) | refine WL.efN rfl rfl (Ef.store0 1 tab_ok rfl rfl rfl rfl rfl rfl rfl rfl ?_) | refine WL.efN rfl rfl (Ef.store0 2 tab_ok rfl rfl rfl rfl rfl rfl rfl rfl ?_)
    refine WG.run tab_ok 1 rfl ?_
    refine WG.nil ?_
    refine WE.nxt ?_
    refine W.ret ?_
    refine WE.then_ret ?_
    refine WE.retF tab_ok [_, _] rfl ⟨⟨_, _, _, rfl, rfl, rfl, ((by first | exact Rd.blk 0 rfl | exact Rd.blk 1 rfl | exact Rd.blk 2 rfl)), rfl⟩, rfl, trivial⟩ ((by first | exact hR1 | exact RLe.refl _)) ?_
    exact ⟨none, 0, by rw [checkedL_bad hb]; rfl, by rw [checkedL_bad hb]; exact rs_nil, qS⟩
  · try dsimp only at hc0
    refine W.skip ?_
    refine WE.nxt ?_
    refine W.seq ?_
    refine W.seq ?_
    refine W.region _ ?_
    refine WG.run tab_ok 3 rfl ?_
    refine WG.nil ?_
    refine WE.nxt ?_
    refine W.block ?_
    refine W.loopK (β := Nat) (fun i => i ≤ v.length ∧ ∀ j, j < i → nth v j = INF ∨ nth v j ≤ MAXV) (fun i => [(16, true, .int .i64 (i : Int))]) [0, 1, 2, 6, 14, 15] [_, _, _, _, _, _] [] _ rfl (fun i => []) (fun i => v.length - i) (0) (⟨Nat.zero_le _, fun j hj => by omega⟩) ⟨rfl, rfl, rfl, rfl, rfl, rfl, rfl, rfl⟩ qS ?_
    intro i hst
    dsimp only [zipE, setAll, List.cons_append, List.nil_append, List.set_cons_zero, List.set_cons_succ] at hst ⊢
    
    refine W.seq ?_
    refine W.region _ ?_
    refine WG.run tab_ok 1 rfl ?_
    refine WG.nil ?_
    refine WE.nxt ?_
    refine W.seq ?_
    refine W.condD rfl (fun hc1 => ?_) (fun hc1 => ?_)
    · try dsimp only at hc1
      refine W.skip ?_
      refine WE.nxt ?_
      refine W.seq ?_
      refine W.block ?_
      refine W.seq ?_
      refine W.region _ ?_
      refine WG.y rfl rfl (by decide) (Yl.indexN tab_ok rfl rfl rfl rfl rfl rfl (fun _ => rfl) (by intro _; (try dsimp only) <;> omega) (by intro _; first | exact fun _ _ _ _ => rfl | exact RS.has (by assumption) | exact fun _ _ _ _ => (by assumption) | exact HasMem.ownD 0 rfl | exact HasMem.ownD 1 rfl | exact HasMem.ownD 2 rfl)) ?_
      refine' WG.y rfl rfl (by decide) (Yl.load1 tab_ok rfl rfl rfl (fun _ => rfl) ?r1 rfl ?h1) ?_
      case r1 => (first | (apply RS.rdD; assumption; ((try dsimp only) <;> omega)) | exact Rd.slD 0 rfl (by (try dsimp only) <;> omega) | exact Rd.slD 1 rfl (by (try dsimp only) <;> omega) | exact Rd.slD 2 rfl (by (try dsimp only) <;> omega))
      case h1 => rfl
      refine WG.run tab_ok 1 rfl ?_
      refine WG.nil ?_
      refine WE.nxt ?_
      refine W.seq ?_
      refine W.region _ ?_
      refine WG.run tab_ok 3 rfl ?_
      refine WG.y rfl rfl (by decide) (pureV_ok tab_ok rfl qE) ?_
      refine WG.y rfl rfl (by decide) (pureV_ok tab_ok rfl qE) ?_
      refine WG.y rfl rfl (by decide) (Yl.pand rfl rfl rfl (fun _ => rfl) (by intro h1 h2; simp_all <;> omega)) ?_
      refine WG.nil ?_
      refine WE.nxt ?_
      refine W.cond rfl (fun hc2 => ?_) (fun hc2 => ?_)
      · try simp only [decide_eq_true_eq, decide_eq_false_iff_not, beq_iff_eq, bne_iff_ne, beq_eq_false_iff_ne, bne_eq_false_iff_eq, ne_eq, Bool.or_eq_true, Bool.or_eq_false_iff, Bool.and_eq_true, Bool.and_eq_false_imp, Bool.not_eq_true, Bool.not_eq_true', Bool.not_eq_false', Classical.not_not, Int.not_lt, Int.not_le, gt_iff_lt, ge_iff_le] at hc2
        have hb : checkedE v = 3 := checkedE_one (i := i) (by omega) hc2.1 hc2.2
        refine W.seq ?_
        refine W.region _ ?_
        -- build
        refine WG.y rfl rfl (by decide) (Yl.build (parts := []) tab_ok rfl rfl rfl rfl (fun _ => rfl) rfl rfl) ?_
        first | refine WL.efN rfl rfl (Ef.store0 0 tab_ok rfl rfl rfl rfl rfl rfl rfl rfl ?_) | refine WL.efN rfl rfl (Ef.store0 1 tab_ok rfl rfl rfl rfl rfl rfl rfl rfl ?_) | refine WL.efN rfl rfl (Ef.store0 2 tab_ok rfl rfl rfl rfl rfl rfl rfl rfl ?_)
        refine WG.run tab_ok 1 rfl ?_
        refine WG.nil ?_
        refine WE.nxt ?_
        refine W.ret ?_
        refine WE.blk_ret ?_
        refine WE.then_ret ?_
        refine WE.then_ret ?_
        refine WE.blk_ret ?_
        refine WE.then_ret ?_
        refine WE.retF tab_ok [_, _] rfl ⟨⟨_, _, _, rfl, rfl, rfl, ((by first | exact Rd.blk 0 rfl | exact Rd.blk 1 rfl | exact Rd.blk 2 rfl)), rfl⟩, rfl, trivial⟩ ((by first | exact hR1 | exact RLe.refl _)) ?_
        exact ⟨none, 0, by rw [checkedL_bad hb]; rfl, by rw [checkedL_bad hb]; exact rs_nil, qS⟩
      · try simp only [decide_eq_true_eq, decide_eq_false_iff_not, beq_iff_eq, bne_iff_ne, beq_eq_false_iff_ne, bne_eq_false_iff_eq, ne_eq, Bool.or_eq_true, Bool.or_eq_false_iff, Bool.and_eq_true, Bool.and_eq_false_imp, Bool.not_eq_true, Bool.not_eq_true', Bool.not_eq_false', Classical.not_not, Int.not_lt, Int.not_le, gt_iff_lt, ge_iff_le] at hc2
        have hy : nth v i = INF ∨ nth v i ≤ MAXV := by unfold INF MAXV; omega
        refine W.skip ?_
        refine WE.blk _ ?_
        refine WE.nxt ?_
        refine W.region _ ?_
        refine WG.y rfl rfl (by decide) (Yl.add rfl rfl rfl (fun _ => rfl) (by intro _; constructor <;> (try dsimp only) <;> omega)) ?_
        refine WG.run tab_ok 1 rfl ?_
        refine WG.nil ?_
        refine WE.again (i + 1) (⟨by omega, fun j hj => by
          by_cases e : j = i
          · subst e; exact hy
          · exact hst.2 j (by omega)⟩) (by (try dsimp only); omega) ⟨rfl, rfl, rfl, rfl, rfl, rfl, rfl, rfl⟩ (RLe.refl _) qS
    · try dsimp only at hc1
      obtain rfl : i = v.length := by omega
      have hg : checkedE v ≠ 3 := checkedE_fine (by omega) hst.2
      refine W.exit ?_
      refine WE.then_exit ?_
      refine WE.then_exit ?_
      refine WE.blk_exit ?_
      refine WE.nxt ?_
      refine W.nil 3 1 (by decide) ?_
      refine W.seq ?_
      refine W.region _ ?_
      refine WG.run tab_ok 1 rfl ?_
      refine WL.ef rfl rfl (by decide) (Ef.cloneR (enc := encI) 0 tab_ok rfl rfl rfl rfl rfl rfl rfl rfl rfl rfl ha (fun _ _ => rfl) (by dsimp only; omega) (by omega) (fun a29 c29 ha29 => ?_))
      refine WG.run tab_ok 2 rfl ?_
      -- build
      refine WG.y rfl rfl (by decide) (Yl.build (parts := [(0, .tmp 29), (1, .tmp 30), (2, .tmp 31)]) tab_ok rfl rfl rfl rfl (fun _ => rfl) rfl rfl) ?_
      first | refine WL.efN rfl rfl (Ef.store0 0 tab_ok rfl rfl rfl rfl rfl rfl rfl rfl ?_) | refine WL.efN rfl rfl (Ef.store0 1 tab_ok rfl rfl rfl rfl rfl rfl rfl rfl ?_) | refine WL.efN rfl rfl (Ef.store0 2 tab_ok rfl rfl rfl rfl rfl rfl rfl rfl ?_)
      refine WG.run tab_ok 1 rfl ?_
      refine WL.freeze (enc := encI) (xs := v) 0 rfl ?_
      intro R1 hR1 hz
      refine WG.nil ?_
      refine WE.nxt ?_
      refine W.ret ?_
      refine WE.retF tab_ok [_, _] rfl ⟨⟨_, _, _, rfl, rfl, rfl, ((by first | exact Rd.blk 0 rfl | exact Rd.blk 1 rfl | exact Rd.blk 2 rfl)), rfl⟩, rfl, trivial⟩ ((by first | exact hR1 | exact RLe.refl _)) ?_
      exact ⟨a29, c29, by rw [checkedL_good hg]; rfl, by rw [checkedL_good hg]; exact hz, qS⟩

theorem Ending_C {R : Ro} {a : Option Addr} {c : Nat} {v : List Int} {l : Nat} (ha : RS R 1 encI a v) (hvl : v.length = l) (w0 : World) (E : List Ent) : K.Fn Try.prog 109 [.slice a l c] w0 R E (fun r R' E' => ∃ (f : Option Addr) (fc : Nat), r = cvV f fc (checkedL v 1 0) ∧ RS R' 1 encI f (checkedL v 1 0).1.vals ∧ E.Sublist E') := by
  refine Fn.enter (n := 8) Try.func109 rfl rfl (Nat.le_of_ble_eq_true rfl) rfl ?_
  refine W.seq ?_
  refine W.region _ ?_
  refine WL.ef rfl rfl (by decide) (Ef.alloc tab_ok rfl rfl (fun b2 => ?_))
  refine WG.run tab_ok 1 rfl ?_
  refine WG.nil ?_
  refine WE.nxt ?_
  refine W.seq ?_
  refine W.region _ ?_
  refine WG.run tab_ok 1 rfl ?_
  refine WL.call en111 rfl rfl (by decide) (CallOp.mkT rfl rfl rfl rfl) (Checked_C ha hvl w0 _) ?_
  rintro _ R1 E1 hR1 ⟨f, fc, rfl, hf, hsub⟩
  refine WL.subE hsub ?_
  unfold cvV
  refine WG.run tab_ok 2 rfl ?_
  first | refine WL.efN rfl rfl (Ef.store0 0 tab_ok rfl rfl rfl rfl rfl rfl rfl rfl ?_) | refine WL.efN rfl rfl (Ef.store0 1 tab_ok rfl rfl rfl rfl rfl rfl rfl rfl ?_) | refine WL.efN rfl rfl (Ef.store0 2 tab_ok rfl rfl rfl rfl rfl rfl rfl rfl ?_)
  refine WG.run tab_ok 1 rfl ?_
  refine WG.nil ?_
  refine WE.nxt ?_
  refine W.ret ?_
  refine WE.retF tab_ok [_, _] rfl ⟨⟨_, _, _, rfl, rfl, rfl, ((by first | exact Rd.blk 0 rfl | exact Rd.blk 1 rfl | exact Rd.blk 2 rfl)), rfl⟩, rfl, trivial⟩ (hR1) ?_
  exact ⟨f, fc, rfl, hf, qS⟩

theorem Build_C {R : Ro} {g : FuncId} {fi ca : Array Value} {F : Nat → Int} {S P : Nat} {I : Int} (hE : Enters Try.prog g) (hS : S ≤ 10000) (hP : 0 < P ∧ P ≤ 10000) (hI : 0 ≤ I ∧ I ≤ 1000000000000) (hFb : ∀ t, t < S + P → F t = INF ∨ (0 ≤ F t ∧ F t ≤ 1000000000000000)) (hF : ∀ t : Nat, t < S + P → FnV Try.prog g (fi.toList ++ [.int .i64 (t : Int)] ++ ca.toList) R (.int .i64 (F t))) (w0 : World) (E : List Ent) :
    K.Fn Try.prog 60 [.func (.func g) fi ca, .int .i64 (S : Int), .int .i64 (P : Int), .int .i64 I] w0 R E (fun r R' E' => ∃ (f : Option Addr) (fc : Nat), r = cvV f fc (mbuild F S P I) ∧ RS R' 1 encI f (mbuild F S P I).1.vals ∧ E.Sublist E') := by
  have hsp : ((S : Int) + (P : Int)).toNat = S + P := by omega
  refine Fn.enter (n := 90) Try.func60 rfl rfl (Nat.le_of_ble_eq_true rfl) rfl ?_
  refine W.seq ?_
  refine W.region _ ?_
  refine WL.ef rfl rfl (by decide) (Ef.alloc tab_ok rfl rfl (fun b8 => ?_))
  refine WG.run tab_ok 1 rfl ?_
  refine WG.nil ?_
  refine WE.nxt ?_
  refine W.seq ?_
  refine W.region _ ?_
  refine WG.run tab_ok 2 rfl ?_
  refine WG.y rfl rfl (by decide) (Yl.add rfl rfl rfl (fun _ => rfl) (by intro _; constructor <;> (try dsimp only) <;> omega)) ?_
  refine WL.ef rfl rfl (by decide) (Ef.makeSliceD (enc := encI) 0 tab_ok rfl rfl rfl rfl rfl rfl (by (try dsimp only) <;> omega) (by (try dsimp only) <;> omega) (by (try dsimp only) <;> omega) (by (try dsimp only) <;> omega) (by decide) rfl rfl (fun a17 => ?_))
  refine WG.run tab_ok 1 rfl ?_
  refine WG.nil ?_
  refine WE.nxt ?_
  refine W.seq ?_
  refine W.seq ?_
  refine W.region _ ?_
  refine WG.run tab_ok 3 rfl ?_
  refine WG.nil ?_
  refine WE.nxt ?_
  refine W.block ?_
  refine W.loopK (β := Nat) (fun t => t ≤ S + P ∧ ∀ j, j < t → F j ≠ INF) (fun t => [(20, true, .int .i64 (t : Int))]) [0, 1, 2, 3, 8, 10, 19] [_, _, _, _, _, _, _] [] _ rfl (fun t => [(0, .sl 3 1 (some ⟨a17, 0, none⟩) (S + P) ((partV F t (S + P)).map encI))]) (fun t => S + P - t) (0) (⟨Nat.zero_le _, fun j hj => by omega⟩) ⟨rfl, rfl, rfl, rfl, rfl, rfl, rfl, rfl, rfl⟩ qS ?_
  intro t hst
  dsimp only [zipE, setAll, List.cons_append, List.nil_append, List.set_cons_zero, List.set_cons_succ] at hst ⊢
  have hpl := partV_len F (t := t) (n := S + P) (by omega)
  obtain ⟨ht, hni⟩ := hst
  refine W.seq ?_
  refine W.region _ ?_
  refine WG.run tab_ok 1 rfl ?_
  refine WG.nil ?_
  refine WE.nxt ?_
  refine W.seq ?_
  refine W.condD rfl (fun hc0 => ?_) (fun hc0 => ?_)
  · try dsimp only at hc0
    have htl : t < S + P := by omega
    have hset := partV_set F htl
    have hnt := partV_nth F (t := t) (k := t + 1) (n := S + P) (by omega)
    have hbt := hFb t htl
    refine W.skip ?_
    refine WE.nxt ?_
    refine W.seq ?_
    refine W.block ?_
    refine W.seq ?_
    refine W.region _ ?_
    refine WG.run tab_ok 2 rfl ?_
    refine WG.nil ?_
    refine WE.nxt ?_
    refine W.seq ?_
    refine W.region _ ?_
    refine WG.run tab_ok 4 rfl ?_
    refine WG.callV hE rfl rfl (by decide) (CallOp.mk' rfl rfl rfl rfl) (fun _ => rfl) (fun hg => hF t (by omega)) ?_
    refine WG.y rfl rfl (by decide) (Yl.indexN tab_ok rfl rfl rfl rfl rfl rfl (fun _ => rfl) (by intro _; (try dsimp only) <;> omega) (by intro _; first | exact fun _ _ _ _ => rfl | exact RS.has (by assumption) | exact fun _ _ _ _ => (by assumption) | exact HasMem.ownD 0 rfl | exact HasMem.ownD 1 rfl | exact HasMem.ownD 2 rfl | exact HasMem.ownD 3 rfl)) ?_
    first | refine WL.efN rfl rfl (Ef.storeD _ 0 tab_ok rfl rfl rfl rfl rfl (by (try dsimp only) <;> omega) rfl rfl rfl rfl ?_) | refine WL.efN rfl rfl (Ef.storeD _ 1 tab_ok rfl rfl rfl rfl rfl (by (try dsimp only) <;> omega) rfl rfl rfl rfl ?_) | refine WL.efN rfl rfl (Ef.storeD _ 2 tab_ok rfl rfl rfl rfl rfl (by (try dsimp only) <;> omega) rfl rfl rfl rfl ?_) | refine WL.efN rfl rfl (Ef.storeD _ 3 tab_ok rfl rfl rfl rfl rfl (by (try dsimp only) <;> omega) rfl rfl rfl rfl ?_)
    refine WG.nil ?_
    refine WE.nxt ?_
    have hnt2 : nth ((partV F t (S + P)).set t (F t)) t = F t := by rw [hset]; exact hnt
    refine W.seq ?_
    refine W.region _ ?_
    refine WG.run tab_ok 2 rfl ?_
    refine WG.y rfl rfl (by decide) (Yl.indexN tab_ok rfl rfl rfl rfl rfl rfl (fun _ => rfl) (by intro _; (try dsimp only) <;> omega) (by intro _; first | exact fun _ _ _ _ => rfl | exact RS.has (by assumption) | exact fun _ _ _ _ => (by assumption) | exact HasMem.ownD 0 rfl | exact HasMem.ownD 1 rfl | exact HasMem.ownD 2 rfl | exact HasMem.ownD 3 rfl)) ?_
    refine' WG.y rfl rfl (by decide) (Yl.load1 tab_ok rfl rfl rfl (fun _ => rfl) ?r1 rfl ?h1) ?_
    case r1 => exact Rd.slD 0 rfl (by rw [List.length_set]; omega)
    case h1 => rfl
    refine WG.run tab_ok 1 rfl ?_
    refine WG.nil ?_
    refine WE.nxt ?_
    refine W.condE rfl (fun hc1 => ?_) (fun hc1 => ?_)
    · try dsimp only at hc1
      have hinf : F t = INF := by rw [← hnt, ← hset]; exact hc1
      have hmb : mbuild F S P I = checkedL (fvals F (t + 1)) 1 0 := by unfold mbuild; rw [infAt_some htl hinf hni, if_neg (by omega), Int.toNat_natCast]
      refine W.freeze (enc := encI) (xs := partV F (t + 1) (S + P)) 0 (by rw [← hset]; rfl) ?_
      intro R1 hR1 hz
      refine W.seq ?_
      refine W.region _ ?_
      refine WG.run tab_ok 2 rfl ?_
      refine WG.y rfl rfl (by decide) (Yl.add rfl rfl rfl (fun _ => rfl) (by intro _; constructor <;> (try dsimp only) <;> omega)) ?_
      refine WG.y rfl rfl (by decide) (Yl.sliceH tab_ok rfl rfl rfl rfl rfl (fun _ => rfl) (by intro _; omega) rfl) ?_
      refine WL.call en109 rfl rfl (by decide) (CallOp.mkT rfl rfl rfl rfl) (Ending_C (by have := hz.take (t + 1); rwa [partV_take] at this) (by rw [fvals_len]; omega) w0 _) ?_
      rintro _ R2 E2 hR2 ⟨f, fc, rfl, hf, hsub⟩
      refine WL.subE hsub ?_
      unfold cvV
      refine WG.run tab_ok 2 rfl ?_
      first | refine WL.efN rfl rfl (Ef.store0 0 tab_ok rfl rfl rfl rfl rfl rfl rfl rfl ?_) | refine WL.efN rfl rfl (Ef.store0 1 tab_ok rfl rfl rfl rfl rfl rfl rfl rfl ?_) | refine WL.efN rfl rfl (Ef.store0 2 tab_ok rfl rfl rfl rfl rfl rfl rfl rfl ?_) | refine WL.efN rfl rfl (Ef.store0 3 tab_ok rfl rfl rfl rfl rfl rfl rfl rfl ?_)
      refine WG.run tab_ok 1 rfl ?_
      refine WG.nil ?_
      refine WE.nxt ?_
      refine W.ret ?_
      refine WE.blk_ret ?_
      refine WE.then_ret ?_
      refine WE.then_ret ?_
      refine WE.blk_ret ?_
      refine WE.then_ret ?_
      refine WE.retF tab_ok [_, _] rfl ⟨⟨_, _, _, rfl, rfl, rfl, ((by first | exact Rd.blk 0 rfl | exact Rd.blk 1 rfl | exact Rd.blk 2 rfl | exact Rd.blk 3 rfl)), rfl⟩, rfl, trivial⟩ ((by first | exact hR1 | exact hR1.trans hR2)) ?_
      exact ⟨f, fc, by rw [hmb]; rfl, by rw [hmb]; exact hf, qS⟩
    · try dsimp only at hc1
      have hinf : F t ≠ INF := by rw [← hnt, ← hset]; exact hc1
      refine W.skip ?_
      refine WE.blk _ ?_
      refine WE.nxt ?_
      refine W.region _ ?_
      refine WG.y rfl rfl (by decide) (Yl.add rfl rfl rfl (fun _ => rfl) (by intro _; constructor <;> (try dsimp only) <;> omega)) ?_
      refine WG.run tab_ok 1 rfl ?_
      refine WG.nil ?_
      refine WE.again (t + 1) (⟨by omega, fun j hj => by
        by_cases e : j = t
        · subst e; exact hinf
        · exact hni j (by omega)⟩) (by (try dsimp only); omega) ⟨rfl, rfl, rfl, rfl, rfl, rfl, rfl, rfl, rfl⟩ (RLe.refl _) (by dsimp only [setAll, List.set_cons_zero, List.set_cons_succ]; rw [← hset]; exact qS)
  · try dsimp only at hc0
    obtain rfl : t = S + P := by omega
    refine W.exit ?_
    refine WE.then_exit ?_
    refine WE.then_exit ?_
    refine WE.blk_exit ?_
    refine WE.nxt ?_
    rw [partV_all]
    refine W.freeze (enc := encI) (xs := fvals F (S + P)) 0 rfl ?_
    intro R1 hR1 hz
    have hmi := infAt_none (F := F) (n := S + P) hni
    have hlp : 1 ≤ (leastL ((fvals F (S + P)).drop S) I) ∧ (leastL ((fvals F (S + P)).drop S) I) ≤ P := by
      have := leastL_pos (v := (fvals F (S + P)).drop S) (inc := I) (by simp [fvals_len]; omega)
      simp only [List.length_drop, fvals_len] at this
      omega
    have hvb : ∀ x ∈ fvals F (S + P), 0 ≤ x ∧ x ≤ 1000000000000000 := all_of_nth (fun j hj => by
      rw [fvals_len] at hj
      rw [fvals_nth F hj]
      exact (hFb j hj).resolve_left (hni j hj))
    have hvn : ∀ j, j < S + P → 0 ≤ nth (fvals F (S + P)) j ∧ nth (fvals F (S + P)) j ≤ 1000000000000000 := fun j hj => hvb _ (nth_mem (by rw [fvals_len]; exact hj))
    have hIp : 0 ≤ I * ((leastL ((fvals F (S + P)).drop S) I) : Int) ∧ I * ((leastL ((fvals F (S + P)).drop S) I) : Int) ≤ 1000000000000 * 10000 := ⟨Int.mul_nonneg hI.1 (by omega), Int.mul_le_mul hI.2 (by omega) (by omega) (by omega)⟩
    have hIq : 0 ≤ (I * ((leastL ((fvals F (S + P)).drop S) I) : Int) / (P : Int)) ∧ (I * ((leastL ((fvals F (S + P)).drop S) I) : Int) / (P : Int)) ≤ 1000000000000 * 10000 := ⟨Int.ediv_nonneg hIp.1 (by omega), Int.le_trans (Int.ediv_le_self _ hIp.1) hIp.2⟩
    have hfl := fvals_len F (S + P)
    refine W.seq ?_
    refine W.region _ ?_
    refine WG.run tab_ok 2 rfl ?_
    refine WG.y rfl rfl (by decide) (Yl.sliceL tab_ok rfl rfl rfl rfl rfl rfl (fun _ => rfl) (by intro _; omega)) ?_
    refine WG.run tab_ok 1 rfl ?_
    refine WG.callV en110 rfl rfl (by decide) (CallOp.mk' rfl rfl rfl rfl) (fun _ => rfl) (fun hg => LeastW_V (hz.subL (l := S) (cap := S + P) (by rw [fvals_len]; omega) (by rw [fvals_len]; omega)) (by simp [fvals_len]; omega) (by omega) hI (fun x hx => hvb x (List.mem_of_mem_drop hx))) ?_
    refine WG.run tab_ok 1 rfl ?_
    refine WG.nil ?_
    refine WE.nxt ?_
    refine W.seq ?_
    refine W.region _ ?_
    refine WG.run tab_ok 2 rfl ?_
    refine WG.y rfl rfl (by decide) (Yl.mul rfl rfl rfl (fun _ => rfl) (by intro _; constructor <;> (try dsimp only) <;> omega)) ?_
    refine WG.run tab_ok 1 rfl ?_
    refine WG.y rfl rfl (by decide) (Yl.quo rfl rfl rfl (fun _ => rfl) (by intro _; constructor <;> (try dsimp only) <;> omega) (by intro _; omega)) ?_
    refine WG.run tab_ok 1 rfl ?_
    refine WG.nil ?_
    refine WE.nxt ?_
    refine W.seq ?_
    refine W.block ?_
    refine W.loopK (β := Nat) (fun s => s ≤ S ∧ downL (fvals F (S + P)) (leastL ((fvals F (S + P)).drop S) I) (I * (leastL ((fvals F (S + P)).drop S) I : Int) / (P : Int)) s = downL (fvals F (S + P)) (leastL ((fvals F (S + P)).drop S) I) (I * (leastL ((fvals F (S + P)).drop S) I : Int) / (P : Int)) S) (fun s => [(1, true, .int .i64 (s : Int))]) [8, 10, 12, 13] [_, _, _, _] [] _ rfl (fun s => []) (fun s => s) (S) (⟨Nat.le_refl _, rfl⟩) ⟨rfl, rfl, rfl, rfl, rfl, rfl⟩ qS ?_
    intro s hst
    dsimp only [zipE, setAll, List.cons_append, List.nil_append, List.set_cons_zero, List.set_cons_succ] at hst ⊢
    obtain ⟨hs, hd⟩ := hst
    have hs1 : 0 < s → ((s : Int) - 1).toNat = s - 1 := fun _ => by omega
    have hs2 : 0 < s → ((s : Int) - 1 + ((leastL ((fvals F (S + P)).drop S) I) : Int)).toNat = s - 1 + (leastL ((fvals F (S + P)).drop S) I) := fun _ => by omega
    have hb1 : 0 < s → 0 ≤ nth (fvals F (S + P)) ((s : Int) - 1).toNat ∧ nth (fvals F (S + P)) ((s : Int) - 1).toNat ≤ 1000000000000000 := fun h => hvn _ (by omega)
    refine W.seq ?_
    refine W.seq ?_
    refine W.regionQ _ mixed (by kernel_rfl) ?_
    refine WG.run tab_ok 3 rfl ?_
    refine WG.y rfl rfl (by decide) (pureV_ok tab_ok rfl qE) ?_
    refine WG.y rfl rfl (by decide) (pureV_ok tab_ok rfl qE) ?_
    refine WG.y rfl rfl (by decide) (Yl.sub rfl rfl rfl qE (by intro hg; (try simp only [decide_eq_true_eq, decide_eq_false_iff_not, beq_iff_eq, bne_iff_ne, beq_eq_false_iff_ne, bne_eq_false_iff_eq, ne_eq, Bool.or_eq_true, Bool.or_eq_false_iff, Bool.and_eq_true, Bool.and_eq_false_imp, Bool.not_eq_true, Bool.not_eq_true', Bool.not_eq_false', Classical.not_not, Int.not_lt, Int.not_le, gt_iff_lt, ge_iff_le] at hg); constructor <;> (try dsimp only) <;> omega)) ?_
    refine WG.y rfl rfl (by decide) (Yl.index tab_ok rfl rfl rfl rfl rfl rfl qE (by intro hg; (try simp only [decide_eq_true_eq, decide_eq_false_iff_not, beq_iff_eq, bne_iff_ne, beq_eq_false_iff_ne, bne_eq_false_iff_eq, ne_eq, Bool.or_eq_true, Bool.or_eq_false_iff, Bool.and_eq_true, Bool.and_eq_false_imp, Bool.not_eq_true, Bool.not_eq_true', Bool.not_eq_false', Classical.not_not, Int.not_lt, Int.not_le, gt_iff_lt, ge_iff_le] at hg); constructor <;> (try dsimp only) <;> omega) (by intro hg; (try simp only [decide_eq_true_eq, decide_eq_false_iff_not, beq_iff_eq, bne_iff_ne, beq_eq_false_iff_ne, bne_eq_false_iff_eq, ne_eq, Bool.or_eq_true, Bool.or_eq_false_iff, Bool.and_eq_true, Bool.and_eq_false_imp, Bool.not_eq_true, Bool.not_eq_true', Bool.not_eq_false', Classical.not_not, Int.not_lt, Int.not_le, gt_iff_lt, ge_iff_le] at hg); first | exact fun _ _ _ _ => rfl | exact RS.has (by assumption) | exact fun _ _ _ _ => (by assumption) | exact HasMem.ownD 0 rfl | exact HasMem.ownD 1 rfl | exact HasMem.ownD 2 rfl | exact HasMem.ownD 3 rfl)) ?_
    refine' WG.y rfl rfl (by decide) (Yl.loadG tab_ok rfl rfl rfl qE ?r2 rfl ?h2 ?g2) ?_
    case r2 => (first | (apply RS.rdC; assumption) | exact Rd.slC 0 rfl | exact Rd.slC 1 rfl | exact Rd.slC 2 rfl | exact Rd.slC 3 rfl)
    case h2 => rfl
    case g2 => first | exact fun _ => trivial | (intro hg; (try simp only [decide_eq_true_eq, decide_eq_false_iff_not, beq_iff_eq, bne_iff_ne, beq_eq_false_iff_ne, bne_eq_false_iff_eq, ne_eq, Bool.or_eq_true, Bool.or_eq_false_iff, Bool.and_eq_true, Bool.and_eq_false_imp, Bool.not_eq_true, Bool.not_eq_true', Bool.not_eq_false', Classical.not_not, Int.not_lt, Int.not_le, gt_iff_lt, ge_iff_le] at hg); (try dsimp only); omega)
    refine WG.y rfl rfl (by decide) (pureV_ok tab_ok rfl qE) ?_
    refine WG.y rfl rfl (by decide) (Yl.add rfl rfl rfl qE (by intro hg; (try simp only [decide_eq_true_eq, decide_eq_false_iff_not, beq_iff_eq, bne_iff_ne, beq_eq_false_iff_ne, bne_eq_false_iff_eq, ne_eq, Bool.or_eq_true, Bool.or_eq_false_iff, Bool.and_eq_true, Bool.and_eq_false_imp, Bool.not_eq_true, Bool.not_eq_true', Bool.not_eq_false', Classical.not_not, Int.not_lt, Int.not_le, gt_iff_lt, ge_iff_le] at hg); constructor <;> (try dsimp only) <;> omega)) ?_
    refine WG.y rfl rfl (by decide) (pureV_ok tab_ok rfl qE) ?_
    refine WG.y rfl rfl (by decide) (pureV_ok tab_ok rfl qE) ?_
    refine WG.y rfl rfl (by decide) (Yl.sub rfl rfl rfl qE (by intro hg; (try simp only [decide_eq_true_eq, decide_eq_false_iff_not, beq_iff_eq, bne_iff_ne, beq_eq_false_iff_ne, bne_eq_false_iff_eq, ne_eq, Bool.or_eq_true, Bool.or_eq_false_iff, Bool.and_eq_true, Bool.and_eq_false_imp, Bool.not_eq_true, Bool.not_eq_true', Bool.not_eq_false', Classical.not_not, Int.not_lt, Int.not_le, gt_iff_lt, ge_iff_le] at hg); constructor <;> (try dsimp only) <;> omega)) ?_
    refine WG.y rfl rfl (by decide) (pureV_ok tab_ok rfl qE) ?_
    refine WG.y rfl rfl (by decide) (Yl.add rfl rfl rfl qE (by intro hg; (try simp only [decide_eq_true_eq, decide_eq_false_iff_not, beq_iff_eq, bne_iff_ne, beq_eq_false_iff_ne, bne_eq_false_iff_eq, ne_eq, Bool.or_eq_true, Bool.or_eq_false_iff, Bool.and_eq_true, Bool.and_eq_false_imp, Bool.not_eq_true, Bool.not_eq_true', Bool.not_eq_false', Classical.not_not, Int.not_lt, Int.not_le, gt_iff_lt, ge_iff_le] at hg); constructor <;> (try dsimp only) <;> omega)) ?_
    refine WG.y rfl rfl (by decide) (Yl.index tab_ok rfl rfl rfl rfl rfl rfl qE (by intro hg; (try simp only [decide_eq_true_eq, decide_eq_false_iff_not, beq_iff_eq, bne_iff_ne, beq_eq_false_iff_ne, bne_eq_false_iff_eq, ne_eq, Bool.or_eq_true, Bool.or_eq_false_iff, Bool.and_eq_true, Bool.and_eq_false_imp, Bool.not_eq_true, Bool.not_eq_true', Bool.not_eq_false', Classical.not_not, Int.not_lt, Int.not_le, gt_iff_lt, ge_iff_le] at hg); constructor <;> (try dsimp only) <;> omega) (by intro hg; (try simp only [decide_eq_true_eq, decide_eq_false_iff_not, beq_iff_eq, bne_iff_ne, beq_eq_false_iff_ne, bne_eq_false_iff_eq, ne_eq, Bool.or_eq_true, Bool.or_eq_false_iff, Bool.and_eq_true, Bool.and_eq_false_imp, Bool.not_eq_true, Bool.not_eq_true', Bool.not_eq_false', Classical.not_not, Int.not_lt, Int.not_le, gt_iff_lt, ge_iff_le] at hg); first | exact fun _ _ _ _ => rfl | exact RS.has (by assumption) | exact fun _ _ _ _ => (by assumption) | exact HasMem.ownD 0 rfl | exact HasMem.ownD 1 rfl | exact HasMem.ownD 2 rfl | exact HasMem.ownD 3 rfl)) ?_
    refine' WG.y rfl rfl (by decide) (Yl.loadG tab_ok rfl rfl rfl qE ?r3 rfl ?h3 ?g3) ?_
    case r3 => (first | (apply RS.rdC; assumption) | exact Rd.slC 0 rfl | exact Rd.slC 1 rfl | exact Rd.slC 2 rfl | exact Rd.slC 3 rfl)
    case h3 => rfl
    case g3 => first | exact fun _ => trivial | (intro hg; (try simp only [decide_eq_true_eq, decide_eq_false_iff_not, beq_iff_eq, bne_iff_ne, beq_eq_false_iff_ne, bne_eq_false_iff_eq, ne_eq, Bool.or_eq_true, Bool.or_eq_false_iff, Bool.and_eq_true, Bool.and_eq_false_imp, Bool.not_eq_true, Bool.not_eq_true', Bool.not_eq_false', Classical.not_not, Int.not_lt, Int.not_le, gt_iff_lt, ge_iff_le] at hg); (try dsimp only); omega)
    refine WG.y rfl rfl (by decide) (pureV_ok tab_ok rfl qE) ?_
    refine WG.y rfl rfl (by decide) (Yl.pand rfl rfl rfl (fun _ => rfl) (by intro h1 h2; simp_all <;> omega)) ?_
    refine WG.nil ?_
    refine WE.nxt ?_
    refine W.cond rfl (fun hc2 => ?_) (fun hc2 => ?_)
    · try simp only [decide_eq_true_eq, decide_eq_false_iff_not, beq_iff_eq, bne_iff_ne, beq_eq_false_iff_ne, bne_eq_false_iff_eq, ne_eq, Bool.or_eq_true, Bool.or_eq_false_iff, Bool.and_eq_true, Bool.and_eq_false_imp, Bool.not_eq_true, Bool.not_eq_true', Bool.not_eq_false', Classical.not_not, Int.not_lt, Int.not_le, gt_iff_lt, ge_iff_le] at hc2
      obtain ⟨hc3, hc4⟩ := hc2
      rw [hs1 (by omega), hs2 (by omega)] at hc4
      have hdn : downL (fvals F (S + P)) (leastL ((fvals F (S + P)).drop S) I) (I * ((leastL ((fvals F (S + P)).drop S) I) : Int) / (P : Int)) (s - 1) = downL (fvals F (S + P)) (leastL ((fvals F (S + P)).drop S) I) (I * ((leastL ((fvals F (S + P)).drop S) I) : Int) / (P : Int)) s := by
        conv => rhs; rw [show s = (s - 1) + 1 by omega]
        simp only [downL]
        rw [if_pos hc4]
      refine W.skip ?_
      refine WE.nxt ?_
      refine W.block ?_
      refine W.region _ ?_
      refine WG.run tab_ok 1 rfl ?_
      refine WG.y rfl rfl (by decide) (Yl.sub rfl rfl rfl (fun _ => rfl) (by intro _; constructor <;> (try dsimp only) <;> omega)) ?_
      refine WG.run tab_ok 1 rfl ?_
      refine WG.nil ?_
      refine WE.blk _ ?_
      refine WE.again (s - 1) (⟨by omega, by rw [← hd]; exact hdn⟩) (by (try dsimp only); omega) ⟨vint (by omega), rfl, rfl, rfl, rfl, rfl⟩ (RLe.refl _) qS
    · try simp only [decide_eq_true_eq, decide_eq_false_iff_not, beq_iff_eq, bne_iff_ne, beq_eq_false_iff_ne, bne_eq_false_iff_eq, ne_eq, Bool.or_eq_true, Bool.or_eq_false_iff, Bool.and_eq_true, Bool.and_eq_false_imp, Bool.not_eq_true, Bool.not_eq_true', Bool.not_eq_false', Classical.not_not, Int.not_lt, Int.not_le, gt_iff_lt, ge_iff_le] at hc2
      have hsd : s = downL (fvals F (S + P)) (leastL ((fvals F (S + P)).drop S) I) (I * ((leastL ((fvals F (S + P)).drop S) I) : Int) / (P : Int)) S := by
        rw [← hd]
        by_cases h : 0 < s
        · have h2 := hc2 (by omega)
          rw [hs1 h, hs2 h] at h2
          obtain ⟨s', rfl⟩ : ∃ m, s = m + 1 := ⟨s - 1, by omega⟩
          simp only [downL]
          rw [if_neg (by simpa using h2)]
        · obtain rfl : s = 0 := by omega
          rfl
      refine W.exit ?_
      refine WE.then_exit ?_
      refine WE.then_exit ?_
      refine WE.blk_exit ?_
      refine WE.nxt ?_
      refine W.seq ?_
      refine W.seq ?_
      refine W.region _ ?_
      refine WG.run tab_ok 3 rfl ?_
      refine WG.y rfl rfl (by decide) (pureV_ok tab_ok rfl qE) ?_
      refine WG.y rfl rfl (by decide) (pureV_ok tab_ok rfl qE) ?_
      refine WG.y rfl rfl (by decide) (Yl.por rfl rfl rfl (fun _ => rfl) (by intro h1 h2; simp_all <;> omega)) ?_
      refine WG.nil ?_
      refine WE.nxt ?_
      refine W.cond rfl (fun hc3 => ?_) (fun hc3 => ?_)
      · try simp only [decide_eq_true_eq, decide_eq_false_iff_not, beq_iff_eq, bne_iff_ne, beq_eq_false_iff_ne, bne_eq_false_iff_eq, ne_eq, Bool.or_eq_true, Bool.or_eq_false_iff, Bool.and_eq_true, Bool.and_eq_false_imp, Bool.not_eq_true, Bool.not_eq_true', Bool.not_eq_false', Classical.not_not, Int.not_lt, Int.not_le, gt_iff_lt, ge_iff_le] at hc3
        have hmb : mbuild F S P I = (zcv, 3) := by
          unfold mbuild finL; rw [if_pos hmi]; dsimp only
          rw [if_pos (by rcases hc3 with h | h; exact .inl (by omega); exact .inr h)]
        refine W.seq ?_
        refine W.region _ ?_
        -- build
        refine WG.y rfl rfl (by decide) (Yl.build (parts := []) tab_ok rfl rfl rfl rfl (fun _ => rfl) rfl rfl) ?_
        first | refine WL.efN rfl rfl (Ef.store0 0 tab_ok rfl rfl rfl rfl rfl rfl rfl rfl ?_) | refine WL.efN rfl rfl (Ef.store0 1 tab_ok rfl rfl rfl rfl rfl rfl rfl rfl ?_) | refine WL.efN rfl rfl (Ef.store0 2 tab_ok rfl rfl rfl rfl rfl rfl rfl rfl ?_) | refine WL.efN rfl rfl (Ef.store0 3 tab_ok rfl rfl rfl rfl rfl rfl rfl rfl ?_)
        refine WG.run tab_ok 1 rfl ?_
        refine WG.nil ?_
        refine WE.nxt ?_
        refine W.ret ?_
        refine WE.then_ret ?_
        refine WE.retF tab_ok [_, _] rfl ⟨⟨_, _, _, rfl, rfl, rfl, ((by first | exact Rd.blk 0 rfl | exact Rd.blk 1 rfl | exact Rd.blk 2 rfl | exact Rd.blk 3 rfl)), rfl⟩, rfl, trivial⟩ ((by first | exact hR1 | exact hR1.trans hR2)) ?_
        exact ⟨none, 0, by rw [hmb]; rfl, by rw [hmb]; exact rs_nil, qS⟩
      · try simp only [decide_eq_true_eq, decide_eq_false_iff_not, beq_iff_eq, bne_iff_ne, beq_eq_false_iff_ne, bne_eq_false_iff_eq, ne_eq, Bool.or_eq_true, Bool.or_eq_false_iff, Bool.and_eq_true, Bool.and_eq_false_imp, Bool.not_eq_true, Bool.not_eq_true', Bool.not_eq_false', Classical.not_not, Int.not_lt, Int.not_le, gt_iff_lt, ge_iff_le] at hc3
        have hmb : mbuild F S P I = checkedL ((fvals F (S + P)).take (s + (leastL ((fvals F (S + P)).drop S) I))) (leastL ((fvals F (S + P)).drop S) I) (I * ((leastL ((fvals F (S + P)).drop S) I) : Int) / (P : Int)) := by
          unfold mbuild finL; rw [if_pos hmi]; dsimp only
          rw [if_neg (by rintro (h | h); have := hc3.1; omega; have := hc3.2; unfold MAXV at h; omega), ← hsd]
        refine W.skip ?_
        refine WE.nxt ?_
        refine W.seq ?_
        refine W.region _ ?_
        refine WG.run tab_ok 3 rfl ?_
        refine WG.y rfl rfl (by decide) (Yl.add rfl rfl rfl (fun _ => rfl) (by intro _; constructor <;> (try dsimp only) <;> omega)) ?_
        refine WG.y rfl rfl (by decide) (Yl.sliceH tab_ok rfl rfl rfl rfl rfl (fun _ => rfl) (by intro _; omega) rfl) ?_
        refine WG.run tab_ok 2 rfl ?_
        refine WL.call en111 rfl rfl (by decide) (CallOp.mkT rfl rfl rfl rfl) (Checked_C (by have := hz.take (s + leastL ((fvals F (S + P)).drop S) I); exact this) (by rw [List.length_take, fvals_len]; omega) w0 _) ?_
        rintro _ R2 E2 hR2 ⟨f, fc, rfl, hf, hsub⟩
        refine WL.subE hsub ?_
        unfold cvV
        refine WG.run tab_ok 2 rfl ?_
        first | refine WL.efN rfl rfl (Ef.store0 0 tab_ok rfl rfl rfl rfl rfl rfl rfl rfl ?_) | refine WL.efN rfl rfl (Ef.store0 1 tab_ok rfl rfl rfl rfl rfl rfl rfl rfl ?_) | refine WL.efN rfl rfl (Ef.store0 2 tab_ok rfl rfl rfl rfl rfl rfl rfl rfl ?_) | refine WL.efN rfl rfl (Ef.store0 3 tab_ok rfl rfl rfl rfl rfl rfl rfl rfl ?_)
        refine WG.run tab_ok 1 rfl ?_
        refine WG.nil ?_
        refine WE.nxt ?_
        refine W.ret ?_
        refine WE.retF tab_ok [_, _] rfl ⟨⟨_, _, _, rfl, rfl, rfl, ((by first | exact Rd.blk 0 rfl | exact Rd.blk 1 rfl | exact Rd.blk 2 rfl | exact Rd.blk 3 rfl)), rfl⟩, rfl, trivial⟩ ((by first | exact hR1 | exact hR1.trans hR2)) ?_
        exact ⟨f, fc, by rw [hmb]; rfl, by rw [hmb]; exact hf, qS⟩

end Go.Proofs.Ytolmmfphdieilaa

/- Reference 02: the least form, validity, Made. No condition. -/
set_option linter.unusedSimpArgs false
set_option linter.unusedVariables false
namespace Go.Proofs.Ytolmmfphdieilaa
open Go Go.RowKit Go.Proofs.Ytolmmfphdieilaa.K Go.Proofs.Ytolmmfphdieilaa.M

theorem Valid_V {R : Ro} {a : Option Addr} {c : Nat} {v : List Int} {per inc : Int} (ha : RS R 1 encI a v) (hper : InR per) (hinc : InR inc) (hv : ∀ x ∈ v, -2305843009213693952 ≤ x ∧ x ≤ 4611686018427387904) : FnV Try.prog 71 [.agg #[.slice a v.length c, .int .i64 per, .int .i64 inc]] R (.bool (validB ⟨v, per, inc⟩)) := by
  have hla := ha.len
  refine Fn.toV (fun w0 E => ?_)
  have hvn : ∀ j, j < v.length → -2305843009213693952 ≤ nth v j ∧ nth v j ≤ 4611686018427387904 := fun j hj => hv _ (nth_mem hj)
  refine Fn.enter (n := 118) Try.func71 rfl rfl (Nat.le_of_ble_eq_true rfl) rfl ?_
  refine W.seq ?_
  refine W.region _ ?_
  refine WL.ef rfl rfl (by decide) (Ef.box rfl rfl (fun b1 => ?_))
  refine WG.run tab_ok 1 rfl ?_
  refine WG.nil ?_
  refine WE.nxt ?_
  refine W.seq ?_
  refine W.region _ ?_
  refine WG.run tab_ok 1 rfl ?_
  refine' WG.y rfl rfl (by decide) (Yl.load1 tab_ok rfl rfl rfl (fun _ => rfl) ?r1 rfl ?h1) ?_
  case r1 => apply Rd.add; (first | exact Rd.blk 0 rfl | exact Rd.blk 1 rfl | exact Rd.blk 2 rfl)
  case h1 => rfl
  refine WG.run tab_ok 2 rfl ?_
  refine WG.nil ?_
  refine WE.nxt ?_
  refine W.seq ?_
  refine W.seq ?_
  refine W.region _ ?_
  refine WG.run tab_ok 3 rfl ?_
  refine WG.y rfl rfl (by decide) (pureV_ok tab_ok rfl qE) ?_
  refine WG.y rfl rfl (by decide) (pureV_ok tab_ok rfl qE) ?_
  refine WG.y rfl rfl (by decide) (Yl.por rfl rfl rfl (fun _ => rfl) (by intro h1 h2; simp_all <;> omega)) ?_
  refine WG.run tab_ok 1 rfl ?_
  refine WG.y rfl rfl (by decide) (pureV_ok tab_ok rfl qE) ?_
  refine' WG.y rfl rfl (by decide) (Yl.loadG tab_ok rfl rfl rfl qE ?r2 rfl ?h2 ?g2) ?_
  case r2 => apply Rd.addC; (first | exact Rd.blkC 0 rfl | exact Rd.blkC 1 rfl | exact Rd.blkC 2 rfl)
  case h2 => rfl
  case g2 => first | exact fun _ => trivial | (intro hg; (try simp only [decide_eq_true_eq, decide_eq_false_iff_not, beq_iff_eq, bne_iff_ne, beq_eq_false_iff_ne, bne_eq_false_iff_eq, ne_eq, Bool.or_eq_true, Bool.or_eq_false_iff, Bool.and_eq_true, Bool.and_eq_false_imp, Bool.not_eq_true, Bool.not_eq_true', Bool.not_eq_false', Classical.not_not, Int.not_lt, Int.not_le, gt_iff_lt, ge_iff_le] at hg); (try dsimp only); omega)
  refine WG.y rfl rfl (by decide) (pureV_ok tab_ok rfl qE) ?_
  refine WG.y rfl rfl (by decide) (Yl.por rfl rfl rfl (fun _ => rfl) (by intro h1 h2; simp_all <;> omega)) ?_
  refine WG.run tab_ok 1 rfl ?_
  refine WG.y rfl rfl (by decide) (pureV_ok tab_ok rfl qE) ?_
  refine' WG.y rfl rfl (by decide) (Yl.loadG tab_ok rfl rfl rfl qE ?r3 rfl ?h3 ?g3) ?_
  case r3 => apply Rd.addC; (first | exact Rd.blkC 0 rfl | exact Rd.blkC 1 rfl | exact Rd.blkC 2 rfl)
  case h3 => rfl
  case g3 => first | exact fun _ => trivial | (intro hg; (try simp only [decide_eq_true_eq, decide_eq_false_iff_not, beq_iff_eq, bne_iff_ne, beq_eq_false_iff_ne, bne_eq_false_iff_eq, ne_eq, Bool.or_eq_true, Bool.or_eq_false_iff, Bool.and_eq_true, Bool.and_eq_false_imp, Bool.not_eq_true, Bool.not_eq_true', Bool.not_eq_false', Classical.not_not, Int.not_lt, Int.not_le, gt_iff_lt, ge_iff_le] at hg); (try dsimp only); omega)
  refine WG.y rfl rfl (by decide) (pureV_ok tab_ok rfl qE) ?_
  refine WG.y rfl rfl (by decide) (Yl.por rfl rfl rfl (fun _ => rfl) (by intro h1 h2; simp_all <;> omega)) ?_
  refine WG.run tab_ok 1 rfl ?_
  refine WG.y rfl rfl (by decide) (pureV_ok tab_ok rfl qE) ?_
  refine' WG.y rfl rfl (by decide) (Yl.loadG tab_ok rfl rfl rfl qE ?r4 rfl ?h4 ?g4) ?_
  case r4 => apply Rd.addC; (first | exact Rd.blkC 0 rfl | exact Rd.blkC 1 rfl | exact Rd.blkC 2 rfl)
  case h4 => rfl
  case g4 => first | exact fun _ => trivial | (intro hg; (try simp only [decide_eq_true_eq, decide_eq_false_iff_not, beq_iff_eq, bne_iff_ne, beq_eq_false_iff_ne, bne_eq_false_iff_eq, ne_eq, Bool.or_eq_true, Bool.or_eq_false_iff, Bool.and_eq_true, Bool.and_eq_false_imp, Bool.not_eq_true, Bool.not_eq_true', Bool.not_eq_false', Classical.not_not, Int.not_lt, Int.not_le, gt_iff_lt, ge_iff_le] at hg); (try dsimp only); omega)
  refine WG.y rfl rfl (by decide) (pureV_ok tab_ok rfl qE) ?_
  refine WG.y rfl rfl (by decide) (pureV_ok tab_ok rfl qE) ?_
  refine WG.y rfl rfl (by decide) (Yl.por rfl rfl rfl (fun _ => rfl) (by intro h1 h2; simp_all <;> omega)) ?_
  refine WG.run tab_ok 1 rfl ?_
  refine WG.y rfl rfl (by decide) (pureV_ok tab_ok rfl qE) ?_
  refine' WG.y rfl rfl (by decide) (Yl.loadG tab_ok rfl rfl rfl qE ?r5 rfl ?h5 ?g5) ?_
  case r5 => apply Rd.addC; (first | exact Rd.blkC 0 rfl | exact Rd.blkC 1 rfl | exact Rd.blkC 2 rfl)
  case h5 => rfl
  case g5 => first | exact fun _ => trivial | (intro hg; (try simp only [decide_eq_true_eq, decide_eq_false_iff_not, beq_iff_eq, bne_iff_ne, beq_eq_false_iff_ne, bne_eq_false_iff_eq, ne_eq, Bool.or_eq_true, Bool.or_eq_false_iff, Bool.and_eq_true, Bool.and_eq_false_imp, Bool.not_eq_true, Bool.not_eq_true', Bool.not_eq_false', Classical.not_not, Int.not_lt, Int.not_le, gt_iff_lt, ge_iff_le] at hg); (try dsimp only); omega)
  refine WG.y rfl rfl (by decide) (pureV_ok tab_ok rfl qE) ?_
  refine WG.y rfl rfl (by decide) (Yl.por rfl rfl rfl (fun _ => rfl) (by intro h1 h2; simp_all <;> omega)) ?_
  refine WG.run tab_ok 1 rfl ?_
  refine WG.y rfl rfl (by decide) (pureV_ok tab_ok rfl qE) ?_
  refine' WG.y rfl rfl (by decide) (Yl.loadG tab_ok rfl rfl rfl qE ?r6 rfl ?h6 ?g6) ?_
  case r6 => apply Rd.addC; (first | exact Rd.blkC 0 rfl | exact Rd.blkC 1 rfl | exact Rd.blkC 2 rfl)
  case h6 => rfl
  case g6 => first | exact fun _ => trivial | (intro hg; (try simp only [decide_eq_true_eq, decide_eq_false_iff_not, beq_iff_eq, bne_iff_ne, beq_eq_false_iff_ne, bne_eq_false_iff_eq, ne_eq, Bool.or_eq_true, Bool.or_eq_false_iff, Bool.and_eq_true, Bool.and_eq_false_imp, Bool.not_eq_true, Bool.not_eq_true', Bool.not_eq_false', Classical.not_not, Int.not_lt, Int.not_le, gt_iff_lt, ge_iff_le] at hg); (try dsimp only); omega)
  refine WG.y rfl rfl (by decide) (pureV_ok tab_ok rfl qE) ?_
  refine WG.y rfl rfl (by decide) (Yl.por rfl rfl rfl (fun _ => rfl) (by intro h1 h2; simp_all <;> omega)) ?_
  refine WG.nil ?_
  refine WE.nxt ?_
  refine W.cond rfl (fun hc0 => ?_) (fun hc0 => ?_)
  · try simp only [decide_eq_true_eq, decide_eq_false_iff_not, beq_iff_eq, bne_iff_ne, beq_eq_false_iff_ne, bne_eq_false_iff_eq, ne_eq, Bool.or_eq_true, Bool.or_eq_false_iff, Bool.and_eq_true, Bool.and_eq_false_imp, Bool.not_eq_true, Bool.not_eq_true', Bool.not_eq_false', Classical.not_not, Int.not_lt, Int.not_le, gt_iff_lt, ge_iff_le] at hc0
    have hno : validB ⟨v, per, inc⟩ = false := validB_false (fun h => by obtain ⟨⟨a1, a2, a3, a4, a5, a6, a7⟩, _⟩ := h; dsimp only at a1 a2 a3 a4 a5 a6 a7; unfold MAXV at a7; omega)
    refine W.seq ?_
    refine W.region _ ?_
    refine WG.run tab_ok 1 rfl ?_
    refine WG.nil ?_
    refine WE.nxt ?_
    refine W.ret ?_
    refine WE.then_ret ?_
    refine WE.subE (E' := E) qS ?_
    refine WE.retF tab_ok [_] rfl ⟨rfl, trivial⟩ (RLe.refl _) ?_
    exact ⟨by rw [hno]; rfl, rfl⟩
  · try simp only [decide_eq_true_eq, decide_eq_false_iff_not, beq_iff_eq, bne_iff_ne, beq_eq_false_iff_ne, bne_eq_false_iff_eq, ne_eq, Bool.or_eq_true, Bool.or_eq_false_iff, Bool.and_eq_true, Bool.and_eq_false_imp, Bool.not_eq_true, Bool.not_eq_true', Bool.not_eq_false', Classical.not_not, Int.not_lt, Int.not_le, gt_iff_lt, ge_iff_le] at hc0
    have hall : 1 ≤ v.length ∧ v.length ≤ 400 ∧ 1 ≤ per ∧ per ≤ 120 ∧ per ≤ v.length ∧ 0 ≤ inc ∧ inc ≤ MAXV := by unfold MAXV; omega
    refine W.skip ?_
    refine WE.nxt ?_
    refine W.seq ?_
    refine W.seq ?_
    refine W.region _ ?_
    refine WG.run tab_ok 1 rfl ?_
    refine WG.nil ?_
    refine WE.nxt ?_
    refine W.block ?_
    refine W.loopK (β := Nat) (fun i => i ≤ v.length ∧ ∀ j, j < i → (nth v j = INF ∨ (0 ≤ nth v j ∧ nth v j ≤ MAXV)) ∧ (j = 0 ∨ nth v (j - 1) ≤ nth v j)) (fun i => [(4, true, .int .i64 (i : Int))]) [1, 3] [_, _] [] _ rfl (fun i => []) (fun i => v.length - i) (0) (⟨Nat.zero_le _, fun j hj => by omega⟩) ⟨rfl, rfl, rfl, rfl⟩ qS ?_
    intro i hst
    dsimp only [zipE, setAll, List.cons_append, List.nil_append, List.set_cons_zero, List.set_cons_succ] at hst ⊢
    
    refine W.seq ?_
    refine W.seq ?_
    refine W.region _ ?_
    refine WG.run tab_ok 3 rfl ?_
    refine WG.nil ?_
    refine WE.nxt ?_
    refine W.condD rfl (fun hc1 => ?_) (fun hc1 => ?_)
    · try dsimp only at hc1
      have hil : i < v.length := by omega
      have hvi := hvn i hil
      have e1 : 0 < i → ((i : Int) - 1).toNat = i - 1 := fun _ => by omega
      have hv1 : 0 < i → -2305843009213693952 ≤ nth v ((i : Int) - 1).toNat ∧ nth v ((i : Int) - 1).toNat ≤ 4611686018427387904 := fun h => hvn _ (by omega)
      refine W.skip ?_
      refine WE.nxt ?_
      refine W.seq ?_
      refine W.block ?_
      refine W.seq ?_
      refine W.regionQ _ mixed (by kernel_rfl) ?_
      refine WG.run tab_ok 1 rfl ?_
      refine' WG.y rfl rfl (by decide) (Yl.load1 tab_ok rfl rfl rfl (fun _ => rfl) ?r7 rfl ?h7) ?_
      case r7 => apply Rd.add; (first | exact Rd.blk 0 rfl | exact Rd.blk 1 rfl | exact Rd.blk 2 rfl)
      case h7 => rfl
      refine WG.run tab_ok 1 rfl ?_
      refine WG.y rfl rfl (by decide) (Yl.indexN tab_ok rfl rfl rfl rfl rfl rfl (fun _ => rfl) (by intro _; (try dsimp only) <;> omega) (by intro _; first | exact fun _ _ _ _ => rfl | exact RS.has (by assumption) | exact fun _ _ _ _ => (by assumption) | exact HasMem.ownD 0 rfl | exact HasMem.ownD 1 rfl | exact HasMem.ownD 2 rfl)) ?_
      refine' WG.y rfl rfl (by decide) (Yl.load1 tab_ok rfl rfl rfl (fun _ => rfl) ?r8 rfl ?h8) ?_
      case r8 => (first | (apply RS.rdD; assumption; ((try dsimp only) <;> omega)) | exact Rd.slD 0 rfl (by (try dsimp only) <;> omega) | exact Rd.slD 1 rfl (by (try dsimp only) <;> omega) | exact Rd.slD 2 rfl (by (try dsimp only) <;> omega))
      case h8 => rfl
      refine WG.run tab_ok 2 rfl ?_
      refine WG.y rfl rfl (by decide) (pureV_ok tab_ok rfl qE) ?_
      refine' WG.y rfl rfl (by decide) (Yl.loadG tab_ok rfl rfl rfl qE ?r9 rfl ?h9 ?g9) ?_
      case r9 => apply Rd.addC; (first | exact Rd.blkC 0 rfl | exact Rd.blkC 1 rfl | exact Rd.blkC 2 rfl)
      case h9 => rfl
      case g9 => first | exact fun _ => trivial | (intro hg; (try simp only [decide_eq_true_eq, decide_eq_false_iff_not, beq_iff_eq, bne_iff_ne, beq_eq_false_iff_ne, bne_eq_false_iff_eq, ne_eq, Bool.or_eq_true, Bool.or_eq_false_iff, Bool.and_eq_true, Bool.and_eq_false_imp, Bool.not_eq_true, Bool.not_eq_true', Bool.not_eq_false', Classical.not_not, Int.not_lt, Int.not_le, gt_iff_lt, ge_iff_le] at hg); (try dsimp only); omega)
      refine WG.y rfl rfl (by decide) (pureV_ok tab_ok rfl qE) ?_
      refine WG.y rfl rfl (by decide) (Yl.indexN tab_ok rfl rfl rfl rfl rfl rfl qE (by intro hg; (try simp only [decide_eq_true_eq, decide_eq_false_iff_not, beq_iff_eq, bne_iff_ne, beq_eq_false_iff_ne, bne_eq_false_iff_eq, ne_eq, Bool.or_eq_true, Bool.or_eq_false_iff, Bool.and_eq_true, Bool.and_eq_false_imp, Bool.not_eq_true, Bool.not_eq_true', Bool.not_eq_false', Classical.not_not, Int.not_lt, Int.not_le, gt_iff_lt, ge_iff_le] at hg); (try dsimp only) <;> omega) (by intro hg; (try simp only [decide_eq_true_eq, decide_eq_false_iff_not, beq_iff_eq, bne_iff_ne, beq_eq_false_iff_ne, bne_eq_false_iff_eq, ne_eq, Bool.or_eq_true, Bool.or_eq_false_iff, Bool.and_eq_true, Bool.and_eq_false_imp, Bool.not_eq_true, Bool.not_eq_true', Bool.not_eq_false', Classical.not_not, Int.not_lt, Int.not_le, gt_iff_lt, ge_iff_le] at hg); first | exact fun _ _ _ _ => rfl | exact RS.has (by assumption) | exact fun _ _ _ _ => (by assumption) | exact HasMem.ownD 0 rfl | exact HasMem.ownD 1 rfl | exact HasMem.ownD 2 rfl)) ?_
      refine' WG.y rfl rfl (by decide) (Yl.loadG tab_ok rfl rfl rfl qE ?r10 rfl ?h10 ?g10) ?_
      case r10 => (first | (apply RS.rdC; assumption) | exact Rd.slC 0 rfl | exact Rd.slC 1 rfl | exact Rd.slC 2 rfl)
      case h10 => rfl
      case g10 => first | exact fun _ => trivial | (intro hg; (try simp only [decide_eq_true_eq, decide_eq_false_iff_not, beq_iff_eq, bne_iff_ne, beq_eq_false_iff_ne, bne_eq_false_iff_eq, ne_eq, Bool.or_eq_true, Bool.or_eq_false_iff, Bool.and_eq_true, Bool.and_eq_false_imp, Bool.not_eq_true, Bool.not_eq_true', Bool.not_eq_false', Classical.not_not, Int.not_lt, Int.not_le, gt_iff_lt, ge_iff_le] at hg); (try dsimp only); omega)
      refine WG.y rfl rfl (by decide) (pureV_ok tab_ok rfl qE) ?_
      refine WG.y rfl rfl (by decide) (pureV_ok tab_ok rfl qE) ?_
      refine WG.y rfl rfl (by decide) (pureV_ok tab_ok rfl qE) ?_
      refine' WG.y rfl rfl (by decide) (Yl.loadG tab_ok rfl rfl rfl qE ?r11 rfl ?h11 ?g11) ?_
      case r11 => apply Rd.addC; (first | exact Rd.blkC 0 rfl | exact Rd.blkC 1 rfl | exact Rd.blkC 2 rfl)
      case h11 => rfl
      case g11 => first | exact fun _ => trivial | (intro hg; (try simp only [decide_eq_true_eq, decide_eq_false_iff_not, beq_iff_eq, bne_iff_ne, beq_eq_false_iff_ne, bne_eq_false_iff_eq, ne_eq, Bool.or_eq_true, Bool.or_eq_false_iff, Bool.and_eq_true, Bool.and_eq_false_imp, Bool.not_eq_true, Bool.not_eq_true', Bool.not_eq_false', Classical.not_not, Int.not_lt, Int.not_le, gt_iff_lt, ge_iff_le] at hg); (try dsimp only); omega)
      refine WG.y rfl rfl (by decide) (pureV_ok tab_ok rfl qE) ?_
      refine WG.y rfl rfl (by decide) (Yl.indexN tab_ok rfl rfl rfl rfl rfl rfl qE (by intro hg; (try simp only [decide_eq_true_eq, decide_eq_false_iff_not, beq_iff_eq, bne_iff_ne, beq_eq_false_iff_ne, bne_eq_false_iff_eq, ne_eq, Bool.or_eq_true, Bool.or_eq_false_iff, Bool.and_eq_true, Bool.and_eq_false_imp, Bool.not_eq_true, Bool.not_eq_true', Bool.not_eq_false', Classical.not_not, Int.not_lt, Int.not_le, gt_iff_lt, ge_iff_le] at hg); (try dsimp only) <;> omega) (by intro hg; (try simp only [decide_eq_true_eq, decide_eq_false_iff_not, beq_iff_eq, bne_iff_ne, beq_eq_false_iff_ne, bne_eq_false_iff_eq, ne_eq, Bool.or_eq_true, Bool.or_eq_false_iff, Bool.and_eq_true, Bool.and_eq_false_imp, Bool.not_eq_true, Bool.not_eq_true', Bool.not_eq_false', Classical.not_not, Int.not_lt, Int.not_le, gt_iff_lt, ge_iff_le] at hg); first | exact fun _ _ _ _ => rfl | exact RS.has (by assumption) | exact fun _ _ _ _ => (by assumption) | exact HasMem.ownD 0 rfl | exact HasMem.ownD 1 rfl | exact HasMem.ownD 2 rfl)) ?_
      refine' WG.y rfl rfl (by decide) (Yl.loadG tab_ok rfl rfl rfl qE ?r12 rfl ?h12 ?g12) ?_
      case r12 => (first | (apply RS.rdC; assumption) | exact Rd.slC 0 rfl | exact Rd.slC 1 rfl | exact Rd.slC 2 rfl)
      case h12 => rfl
      case g12 => first | exact fun _ => trivial | (intro hg; (try simp only [decide_eq_true_eq, decide_eq_false_iff_not, beq_iff_eq, bne_iff_ne, beq_eq_false_iff_ne, bne_eq_false_iff_eq, ne_eq, Bool.or_eq_true, Bool.or_eq_false_iff, Bool.and_eq_true, Bool.and_eq_false_imp, Bool.not_eq_true, Bool.not_eq_true', Bool.not_eq_false', Classical.not_not, Int.not_lt, Int.not_le, gt_iff_lt, ge_iff_le] at hg); (try dsimp only); omega)
      refine WG.y rfl rfl (by decide) (pureV_ok tab_ok rfl qE) ?_
      refine WG.y rfl rfl (by decide) (Yl.por rfl rfl rfl qE (by intro h1 h2; simp_all <;> omega)) ?_
      refine WG.y rfl rfl (by decide) (Yl.pand rfl rfl rfl (fun _ => rfl) (by intro h1 h2; simp_all <;> omega)) ?_
      refine WG.run tab_ok 1 rfl ?_
      refine WG.y rfl rfl (by decide) (pureV_ok tab_ok rfl qE) ?_
      refine WG.y rfl rfl (by decide) (pureV_ok tab_ok rfl qE) ?_
      refine WG.y rfl rfl (by decide) (pureV_ok tab_ok rfl qE) ?_
      refine WG.y rfl rfl (by decide) (pureV_ok tab_ok rfl qE) ?_
      refine' WG.y rfl rfl (by decide) (Yl.loadG tab_ok rfl rfl rfl qE ?r13 rfl ?h13 ?g13) ?_
      case r13 => apply Rd.addC; (first | exact Rd.blkC 0 rfl | exact Rd.blkC 1 rfl | exact Rd.blkC 2 rfl)
      case h13 => rfl
      case g13 => first | exact fun _ => trivial | (intro hg; (try simp only [decide_eq_true_eq, decide_eq_false_iff_not, beq_iff_eq, bne_iff_ne, beq_eq_false_iff_ne, bne_eq_false_iff_eq, ne_eq, Bool.or_eq_true, Bool.or_eq_false_iff, Bool.and_eq_true, Bool.and_eq_false_imp, Bool.not_eq_true, Bool.not_eq_true', Bool.not_eq_false', Classical.not_not, Int.not_lt, Int.not_le, gt_iff_lt, ge_iff_le] at hg); (try dsimp only); omega)
      refine WG.y rfl rfl (by decide) (pureV_ok tab_ok rfl qE) ?_
      refine WG.y rfl rfl (by decide) (Yl.indexN tab_ok rfl rfl rfl rfl rfl rfl qE (by intro hg; (try simp only [decide_eq_true_eq, decide_eq_false_iff_not, beq_iff_eq, bne_iff_ne, beq_eq_false_iff_ne, bne_eq_false_iff_eq, ne_eq, Bool.or_eq_true, Bool.or_eq_false_iff, Bool.and_eq_true, Bool.and_eq_false_imp, Bool.not_eq_true, Bool.not_eq_true', Bool.not_eq_false', Classical.not_not, Int.not_lt, Int.not_le, gt_iff_lt, ge_iff_le] at hg); (try dsimp only) <;> omega) (by intro hg; (try simp only [decide_eq_true_eq, decide_eq_false_iff_not, beq_iff_eq, bne_iff_ne, beq_eq_false_iff_ne, bne_eq_false_iff_eq, ne_eq, Bool.or_eq_true, Bool.or_eq_false_iff, Bool.and_eq_true, Bool.and_eq_false_imp, Bool.not_eq_true, Bool.not_eq_true', Bool.not_eq_false', Classical.not_not, Int.not_lt, Int.not_le, gt_iff_lt, ge_iff_le] at hg); first | exact fun _ _ _ _ => rfl | exact RS.has (by assumption) | exact fun _ _ _ _ => (by assumption) | exact HasMem.ownD 0 rfl | exact HasMem.ownD 1 rfl | exact HasMem.ownD 2 rfl)) ?_
      refine' WG.y rfl rfl (by decide) (Yl.loadG tab_ok rfl rfl rfl qE ?r14 rfl ?h14 ?g14) ?_
      case r14 => (first | (apply RS.rdC; assumption) | exact Rd.slC 0 rfl | exact Rd.slC 1 rfl | exact Rd.slC 2 rfl)
      case h14 => rfl
      case g14 => first | exact fun _ => trivial | (intro hg; (try simp only [decide_eq_true_eq, decide_eq_false_iff_not, beq_iff_eq, bne_iff_ne, beq_eq_false_iff_ne, bne_eq_false_iff_eq, ne_eq, Bool.or_eq_true, Bool.or_eq_false_iff, Bool.and_eq_true, Bool.and_eq_false_imp, Bool.not_eq_true, Bool.not_eq_true', Bool.not_eq_false', Classical.not_not, Int.not_lt, Int.not_le, gt_iff_lt, ge_iff_le] at hg); (try dsimp only); omega)
      refine WG.y rfl rfl (by decide) (pureV_ok tab_ok rfl qE) ?_
      refine' WG.y rfl rfl (by decide) (Yl.loadG tab_ok rfl rfl rfl qE ?r15 rfl ?h15 ?g15) ?_
      case r15 => apply Rd.addC; (first | exact Rd.blkC 0 rfl | exact Rd.blkC 1 rfl | exact Rd.blkC 2 rfl)
      case h15 => rfl
      case g15 => first | exact fun _ => trivial | (intro hg; (try simp only [decide_eq_true_eq, decide_eq_false_iff_not, beq_iff_eq, bne_iff_ne, beq_eq_false_iff_ne, bne_eq_false_iff_eq, ne_eq, Bool.or_eq_true, Bool.or_eq_false_iff, Bool.and_eq_true, Bool.and_eq_false_imp, Bool.not_eq_true, Bool.not_eq_true', Bool.not_eq_false', Classical.not_not, Int.not_lt, Int.not_le, gt_iff_lt, ge_iff_le] at hg); (try dsimp only); omega)
      refine WG.y rfl rfl (by decide) (pureV_ok tab_ok rfl qE) ?_
      refine WG.y rfl rfl (by decide) (Yl.sub rfl rfl rfl qE (by intro hg; (try simp only [decide_eq_true_eq, decide_eq_false_iff_not, beq_iff_eq, bne_iff_ne, beq_eq_false_iff_ne, bne_eq_false_iff_eq, ne_eq, Bool.or_eq_true, Bool.or_eq_false_iff, Bool.and_eq_true, Bool.and_eq_false_imp, Bool.not_eq_true, Bool.not_eq_true', Bool.not_eq_false', Classical.not_not, Int.not_lt, Int.not_le, gt_iff_lt, ge_iff_le] at hg); constructor <;> (try dsimp only) <;> omega)) ?_
      refine WG.y rfl rfl (by decide) (Yl.index tab_ok rfl rfl rfl rfl rfl rfl qE (by intro hg; (try simp only [decide_eq_true_eq, decide_eq_false_iff_not, beq_iff_eq, bne_iff_ne, beq_eq_false_iff_ne, bne_eq_false_iff_eq, ne_eq, Bool.or_eq_true, Bool.or_eq_false_iff, Bool.and_eq_true, Bool.and_eq_false_imp, Bool.not_eq_true, Bool.not_eq_true', Bool.not_eq_false', Classical.not_not, Int.not_lt, Int.not_le, gt_iff_lt, ge_iff_le] at hg); constructor <;> (try dsimp only) <;> omega) (by intro hg; (try simp only [decide_eq_true_eq, decide_eq_false_iff_not, beq_iff_eq, bne_iff_ne, beq_eq_false_iff_ne, bne_eq_false_iff_eq, ne_eq, Bool.or_eq_true, Bool.or_eq_false_iff, Bool.and_eq_true, Bool.and_eq_false_imp, Bool.not_eq_true, Bool.not_eq_true', Bool.not_eq_false', Classical.not_not, Int.not_lt, Int.not_le, gt_iff_lt, ge_iff_le] at hg); first | exact fun _ _ _ _ => rfl | exact RS.has (by assumption) | exact fun _ _ _ _ => (by assumption) | exact HasMem.ownD 0 rfl | exact HasMem.ownD 1 rfl | exact HasMem.ownD 2 rfl)) ?_
      refine' WG.y rfl rfl (by decide) (Yl.loadG tab_ok rfl rfl rfl qE ?r16 rfl ?h16 ?g16) ?_
      case r16 => (first | (apply RS.rdC; assumption) | exact Rd.slC 0 rfl | exact Rd.slC 1 rfl | exact Rd.slC 2 rfl)
      case h16 => rfl
      case g16 => first | exact fun _ => trivial | (intro hg; (try simp only [decide_eq_true_eq, decide_eq_false_iff_not, beq_iff_eq, bne_iff_ne, beq_eq_false_iff_ne, bne_eq_false_iff_eq, ne_eq, Bool.or_eq_true, Bool.or_eq_false_iff, Bool.and_eq_true, Bool.and_eq_false_imp, Bool.not_eq_true, Bool.not_eq_true', Bool.not_eq_false', Classical.not_not, Int.not_lt, Int.not_le, gt_iff_lt, ge_iff_le] at hg); (try dsimp only); omega)
      refine WG.y rfl rfl (by decide) (pureV_ok tab_ok rfl qE) ?_
      refine WG.y rfl rfl (by decide) (Yl.pand rfl rfl rfl qE (by intro h1 h2; simp_all <;> omega)) ?_
      refine WG.y rfl rfl (by decide) (Yl.por rfl rfl rfl (fun _ => rfl) (by intro h1 h2; simp_all <;> omega)) ?_
      refine WG.nil ?_
      refine WE.nxt ?_
      refine W.cond rfl (fun hc2 => ?_) (fun hc2 => ?_)
      · try simp only [decide_eq_true_eq, decide_eq_false_iff_not, beq_iff_eq, bne_iff_ne, beq_eq_false_iff_ne, bne_eq_false_iff_eq, ne_eq, Bool.or_eq_true, Bool.or_eq_false_iff, Bool.and_eq_true, Bool.and_eq_false_imp, Bool.not_eq_true, Bool.not_eq_true', Bool.not_eq_false', Classical.not_not, Int.not_lt, Int.not_le, gt_iff_lt, ge_iff_le] at hc2
        have hno : validB ⟨v, per, inc⟩ = false := validB_false (fun h => by
          obtain ⟨_, h2, _⟩ := h
          have h2 := h2 i hil
          dsimp only at h2
          unfold INF MAXV at h2
          rcases hc2 with ⟨x1, x2⟩ | ⟨x1, x2⟩
          · omega
          · rw [e1 (by omega)] at x2; omega)
        refine W.seq ?_
        refine W.region _ ?_
        refine WG.run tab_ok 1 rfl ?_
        refine WG.nil ?_
        refine WE.nxt ?_
        refine W.ret ?_
        refine WE.blk_ret ?_
        refine WE.then_ret ?_
        refine WE.then_ret ?_
        refine WE.blk_ret ?_
        refine WE.then_ret ?_
        refine WE.subE (E' := E) qS ?_
        refine WE.retF tab_ok [_] rfl ⟨rfl, trivial⟩ (RLe.refl _) ?_
        exact ⟨by rw [hno]; rfl, rfl⟩
      · try simp only [decide_eq_true_eq, decide_eq_false_iff_not, beq_iff_eq, bne_iff_ne, beq_eq_false_iff_ne, bne_eq_false_iff_eq, ne_eq, Bool.or_eq_true, Bool.or_eq_false_iff, Bool.and_eq_true, Bool.and_eq_false_imp, Bool.not_eq_true, Bool.not_eq_true', Bool.not_eq_false', Classical.not_not, Int.not_lt, Int.not_le, gt_iff_lt, ge_iff_le] at hc2
        have hy : (nth v i = INF ∨ (0 ≤ nth v i ∧ nth v i ≤ MAXV)) ∧ (i = 0 ∨ nth v (i - 1) ≤ nth v i) := by
          obtain ⟨x1, x2⟩ := hc2
          unfold INF MAXV
          refine ⟨by omega, ?_⟩
          by_cases h : i = 0
          · exact .inl h
          · have := x2 (by omega)
            rw [e1 (by omega)] at this
            right; omega
        refine W.skip ?_
        refine WE.blk _ ?_
        refine WE.nxt ?_
        refine W.region _ ?_
        refine WG.run tab_ok 1 rfl ?_
        refine WG.y rfl rfl (by decide) (Yl.add rfl rfl rfl (fun _ => rfl) (by intro _; constructor <;> (try dsimp only) <;> omega)) ?_
        refine WG.run tab_ok 1 rfl ?_
        refine WG.nil ?_
        refine WE.again (i + 1) (⟨by omega, fun j hj => by
          by_cases e : j = i
          · subst e; exact hy
          · exact hst.2 j (by omega)⟩) (by (try dsimp only); omega) ⟨rfl, rfl, rfl, rfl⟩ (RLe.refl _) qS
    · try dsimp only at hc1
      obtain rfl : i = v.length := by omega
      have e2 : ((v.length : Int) - 1).toNat = v.length - 1 := by omega
      have e3 : ((v.length : Int) - per).toNat = v.length - per.toNat := by omega
      have hx1 := hvn (((v.length : Int) - 1).toNat) (by omega)
      have hx2 := hvn (((v.length : Int) - per).toNat) (by omega)
      refine W.exit ?_
      refine WE.then_exit ?_
      refine WE.then_exit ?_
      refine WE.blk_exit ?_
      refine WE.nxt ?_
      refine W.seq ?_
      refine W.seq ?_
      refine W.region _ ?_
      refine WG.run tab_ok 1 rfl ?_
      refine' WG.y rfl rfl (by decide) (Yl.load1 tab_ok rfl rfl rfl (fun _ => rfl) ?r17 rfl ?h17) ?_
      case r17 => apply Rd.add; (first | exact Rd.blk 0 rfl | exact Rd.blk 1 rfl | exact Rd.blk 2 rfl)
      case h17 => rfl
      refine WG.run tab_ok 1 rfl ?_
      refine WG.y rfl rfl (by decide) (Yl.sub rfl rfl rfl (fun _ => rfl) (by intro _; constructor <;> (try dsimp only) <;> omega)) ?_
      refine WG.y rfl rfl (by decide) (Yl.index tab_ok rfl rfl rfl rfl rfl rfl (fun _ => rfl) (by intro _; constructor <;> (try dsimp only) <;> omega) (by intro _; first | exact fun _ _ _ _ => rfl | exact RS.has (by assumption) | exact fun _ _ _ _ => (by assumption) | exact HasMem.ownD 0 rfl | exact HasMem.ownD 1 rfl | exact HasMem.ownD 2 rfl)) ?_
      refine' WG.y rfl rfl (by decide) (Yl.load1 tab_ok rfl rfl rfl (fun _ => rfl) ?r18 rfl ?h18) ?_
      case r18 => exact RS.rdD ha (by omega)
      case h18 => rfl
      refine WG.run tab_ok 1 rfl ?_
      refine WG.nil ?_
      refine WE.nxt ?_
      refine W.condE rfl (fun hc3 => ?_) (fun hc3 => ?_)
      · try dsimp only at hc3
        have hif : (if nth v (v.length - 1) = INF then per = 1 ∧ inc = 0 else nth v (v.length - 1) ≤ nth v (v.length - per.toNat) + inc) ↔ (per = 1 ∧ inc = 0) := by rw [if_pos (by rw [← e2]; exact hc3)]
        refine W.seq ?_
        refine W.region _ ?_
        refine WG.run tab_ok 1 rfl ?_
        refine' WG.y rfl rfl (by decide) (Yl.load1 tab_ok rfl rfl rfl (fun _ => rfl) ?r19 rfl ?h19) ?_
        case r19 => apply Rd.add; (first | exact Rd.blk 0 rfl | exact Rd.blk 1 rfl | exact Rd.blk 2 rfl)
        case h19 => rfl
        refine WG.run tab_ok 2 rfl ?_
        refine WG.y rfl rfl (by decide) (pureV_ok tab_ok rfl qE) ?_
        refine' WG.y rfl rfl (by decide) (Yl.loadG tab_ok rfl rfl rfl qE ?r20 rfl ?h20 ?g20) ?_
        case r20 => apply Rd.addC; (first | exact Rd.blkC 0 rfl | exact Rd.blkC 1 rfl | exact Rd.blkC 2 rfl)
        case h20 => rfl
        case g20 => first | exact fun _ => trivial | (intro hg; (try simp only [decide_eq_true_eq, decide_eq_false_iff_not, beq_iff_eq, bne_iff_ne, beq_eq_false_iff_ne, bne_eq_false_iff_eq, ne_eq, Bool.or_eq_true, Bool.or_eq_false_iff, Bool.and_eq_true, Bool.and_eq_false_imp, Bool.not_eq_true, Bool.not_eq_true', Bool.not_eq_false', Classical.not_not, Int.not_lt, Int.not_le, gt_iff_lt, ge_iff_le] at hg); (try dsimp only); omega)
        refine WG.y rfl rfl (by decide) (pureV_ok tab_ok rfl qE) ?_
        refine WG.y rfl rfl (by decide) (Yl.pand rfl rfl rfl (fun _ => rfl) (by intro h1 h2; simp_all <;> omega)) ?_
        refine WG.run tab_ok 1 rfl ?_
        refine WG.nil ?_
        refine WE.nxt ?_
        refine W.ret ?_
        refine WE.then_ret ?_
        refine WE.subE (E' := E) qS ?_
        refine WE.retF tab_ok [_] rfl ⟨rfl, trivial⟩ (RLe.refl _) ?_
        refine ⟨congrArg Value.bool ?_, rfl⟩
        rw [Bool.eq_iff_iff, validB_iff]
        dsimp only
        rw [hif]
        simp only [Bool.and_eq_true, beq_iff_eq]
        exact ⟨fun h => ⟨hall, fun j hj => hst.2 j hj, h⟩, fun h => h.2.2⟩
      · try dsimp only at hc3
        have hif : (if nth v (v.length - 1) = INF then per = 1 ∧ inc = 0 else nth v (v.length - 1) ≤ nth v (v.length - per.toNat) + inc) ↔ (nth v (v.length - 1) ≤ nth v (v.length - per.toNat) + inc) := by rw [if_neg (by rw [← e2]; exact hc3)]
        refine W.skip ?_
        refine WE.nxt ?_
        refine W.seq ?_
        refine W.regionQ _ mixed (by kernel_rfl) ?_
        refine WG.run tab_ok 1 rfl ?_
        refine' WG.y rfl rfl (by decide) (Yl.load1 tab_ok rfl rfl rfl (fun _ => rfl) ?r21 rfl ?h21) ?_
        case r21 => apply Rd.add; (first | exact Rd.blk 0 rfl | exact Rd.blk 1 rfl | exact Rd.blk 2 rfl)
        case h21 => rfl
        refine WG.run tab_ok 2 rfl ?_
        refine' WG.y rfl rfl (by decide) (Yl.load1 tab_ok rfl rfl rfl (fun _ => rfl) ?r22 rfl ?h22) ?_
        case r22 => apply Rd.add; (first | exact Rd.blk 0 rfl | exact Rd.blk 1 rfl | exact Rd.blk 2 rfl)
        case h22 => rfl
        refine WG.y rfl rfl (by decide) (Yl.sub rfl rfl rfl (fun _ => rfl) (by intro _; constructor <;> (try dsimp only) <;> omega)) ?_
        refine WG.y rfl rfl (by decide) (Yl.index tab_ok rfl rfl rfl rfl rfl rfl (fun _ => rfl) (by intro _; constructor <;> (try dsimp only) <;> omega) (by intro _; first | exact fun _ _ _ _ => rfl | exact RS.has (by assumption) | exact fun _ _ _ _ => (by assumption) | exact HasMem.ownD 0 rfl | exact HasMem.ownD 1 rfl | exact HasMem.ownD 2 rfl)) ?_
        refine' WG.y rfl rfl (by decide) (Yl.load1 tab_ok rfl rfl rfl (fun _ => rfl) ?r23 rfl ?h23) ?_
        case r23 => exact RS.rdD ha (by omega)
        case h23 => rfl
        refine WG.run tab_ok 1 rfl ?_
        refine' WG.y rfl rfl (by decide) (Yl.load1 tab_ok rfl rfl rfl (fun _ => rfl) ?r24 rfl ?h24) ?_
        case r24 => apply Rd.add; (first | exact Rd.blk 0 rfl | exact Rd.blk 1 rfl | exact Rd.blk 2 rfl)
        case h24 => rfl
        refine WG.y rfl rfl (by decide) (Yl.add rfl rfl rfl (fun _ => rfl) (by intro _; constructor <;> (try dsimp only) <;> omega)) ?_
        refine WG.run tab_ok 1 rfl ?_
        refine' WG.y rfl rfl (by decide) (Yl.load1 tab_ok rfl rfl rfl (fun _ => rfl) ?r25 rfl ?h25) ?_
        case r25 => apply Rd.add; (first | exact Rd.blk 0 rfl | exact Rd.blk 1 rfl | exact Rd.blk 2 rfl)
        case h25 => rfl
        refine WG.run tab_ok 1 rfl ?_
        refine WG.y rfl rfl (by decide) (Yl.sub rfl rfl rfl (fun _ => rfl) (by intro _; constructor <;> (try dsimp only) <;> omega)) ?_
        refine WG.y rfl rfl (by decide) (Yl.index tab_ok rfl rfl rfl rfl rfl rfl (fun _ => rfl) (by intro _; constructor <;> (try dsimp only) <;> omega) (by intro _; first | exact fun _ _ _ _ => rfl | exact RS.has (by assumption) | exact fun _ _ _ _ => (by assumption) | exact HasMem.ownD 0 rfl | exact HasMem.ownD 1 rfl | exact HasMem.ownD 2 rfl)) ?_
        refine' WG.y rfl rfl (by decide) (Yl.load1 tab_ok rfl rfl rfl (fun _ => rfl) ?r26 rfl ?h26) ?_
        case r26 => exact RS.rdD ha (by omega)
        case h26 => rfl
        refine WG.run tab_ok 2 rfl ?_
        refine WG.nil ?_
        refine WE.nxt ?_
        refine W.ret ?_
        refine WE.subE (E' := E) qS ?_
        refine WE.retF tab_ok [_] rfl ⟨rfl, trivial⟩ (RLe.refl _) ?_
        refine ⟨congrArg Value.bool ?_, rfl⟩
        rw [Bool.eq_iff_iff, validB_iff]
        dsimp only
        rw [hif, e2, e3]
        simp only [decide_eq_true_eq]
        exact ⟨fun h => ⟨hall, fun j hj => hst.2 j hj, h⟩, fun h => h.2.2⟩

end Go.Proofs.Ytolmmfphdieilaa

/- The least curve that a flow keeps. No condition. -/
set_option linter.unusedSimpArgs false
set_option linter.unusedVariables false
namespace Go.Proofs.Ytolmmfphdieilaa
open Go Go.RowKit Go.Proofs.Ytolmmfphdieilaa.K Go.Proofs.Ytolmmfphdieilaa.M

theorem CEnd_V {R : Ro} {pa : Option Addr} {pc : Nat} {ps : List Pkt} (hp : RS R 3 encP pa ps) (hok : Ok ps) : FnV Try.prog 119 [.slice pa ps.length pc] R (.int .i64 (endN ps)) := by
  have hlp := hp.len
  refine Fn.toV (fun w0 E => ?_)
  refine Fn.enter (n := 14) Try.func119 rfl rfl (Nat.le_of_ble_eq_true rfl) rfl ?_
  refine W.seq ?_
  refine W.region _ ?_
  refine WG.run tab_ok 1 rfl ?_
  refine WG.nil ?_
  refine WE.nxt ?_
  refine W.seq ?_
  refine W.seq ?_
  refine W.region _ ?_
  refine WG.run tab_ok 3 rfl ?_
  refine WG.nil ?_
  refine WE.nxt ?_
  refine W.condE rfl (fun hc0 => ?_) (fun hc0 => ?_)
  · try dsimp only at hc0
    have e : endN ps = 0 := if_pos (by omega)
    refine W.seq ?_
    refine W.region _ ?_
    refine WG.run tab_ok 1 rfl ?_
    refine WG.nil ?_
    refine WE.nxt ?_
    refine W.ret ?_
    refine WE.then_ret ?_
    refine WE.subE (E' := E) qS ?_
    refine WE.retF tab_ok [_] rfl ⟨rfl, trivial⟩ (RLe.refl _) ?_
    exact ⟨by rw [e]; rfl, rfl⟩
  · try dsimp only at hc0
    have e : endN ps = (nth ps (ps.length - 1)).time + 1 := if_neg (by omega)
    have hat := hok.at (nth_mem (xs := ps) (k := ps.length - 1) (by omega))
    have hix : ((ps.length : Int) - 1).toNat = ps.length - 1 := by omega
    refine W.skip ?_
    refine WE.nxt ?_
    refine W.seq ?_
    refine W.region _ ?_
    refine WG.run tab_ok 3 rfl ?_
    refine WG.y rfl rfl (by decide) (Yl.sub rfl rfl rfl (fun _ => rfl) (by intro _; constructor <;> (try dsimp only) <;> omega)) ?_
    refine WG.y rfl rfl (by decide) (Yl.index tab_ok rfl rfl rfl rfl rfl rfl (fun _ => rfl) (by intro _; constructor <;> (try dsimp only) <;> omega) (by intro _; first | exact fun _ _ _ _ => rfl | exact RS.has (by assumption) | exact fun _ _ _ _ => (by assumption) | exact HasMem.ownD 0 rfl)) ?_
    refine WG.run tab_ok 1 rfl ?_
    refine' WG.y rfl rfl (by decide) (Yl.load1 tab_ok rfl rfl rfl (fun _ => rfl) ?r1 rfl ?h1) ?_
    case r1 => apply Rd.add; (first | (apply RS.rdD; assumption; ((try dsimp only) <;> omega)) | exact Rd.slD 0 rfl (by (try dsimp only) <;> omega))
    case h1 => rfl
    refine WG.y rfl rfl (by decide) (Yl.add rfl rfl rfl (fun _ => rfl) (by intro _; rw [hix]; constructor <;> (try dsimp only) <;> omega)) ?_
    refine WG.run tab_ok 1 rfl ?_
    refine WG.nil ?_
    refine WE.nxt ?_
    refine W.ret ?_
    refine WE.subE (E' := E) qS ?_
    refine WE.retF tab_ok [_] rfl ⟨rfl, trivial⟩ (RLe.refl _) ?_
    exact ⟨by rw [e, hix]; rfl, rfl⟩

theorem CSums_C {R : Ro} {pa : Option Addr} {pc : Nat} {ps : List Pkt} (hp : RS R 3 encP pa ps) {flow : Int} {en : Nat} (hok : Ok ps) (hen : endN ps = en) (he : en ≤ 3000) (w0 : World) (E : List Ent) : K.Fn Try.prog 78 [.slice pa ps.length pc, .int .i64 flow] w0 R E (fun v R' E' => ∃ (a : Option Addr) (c : Nat), v = .slice a (cumL flow ps (en + 1)).length c ∧ R = R' ∧ (.sl 3 1 a c ((cumL flow ps (en + 1)).map encI) :: E).Sublist E') := by
  have hpl := hok.len
  have hcl : (cumL flow ps (en + 1)).length = en + 1 := by simp [cumL]
  have hsz : ∀ p ∈ ps, 0 ≤ p.size ∧ p.size ≤ 1000000 := fun p hp => by have := hok.at hp; omega
  refine Fn.enter (n := 25) Try.func78 rfl rfl (Nat.le_of_ble_eq_true rfl) rfl ?_
  refine W.seq ?_
  refine W.region _ ?_
  refine WG.run tab_ok 1 rfl ?_
  refine WG.nil ?_
  refine WE.nxt ?_
  refine W.seq ?_
  refine W.region _ ?_
  refine WG.run tab_ok 1 rfl ?_
  refine WG.callV en119 rfl rfl (by decide) (CallOp.mk' rfl rfl rfl rfl) (fun _ => rfl) (fun hg => hen ▸ CEnd_V hp hok) ?_
  refine WG.y rfl rfl (by decide) (Yl.add rfl rfl rfl (fun _ => rfl) (by intro _; constructor <;> (try dsimp only) <;> omega)) ?_
  refine WL.ef rfl rfl (by decide) (Ef.makeSliceD (enc := encI) 0 tab_ok rfl rfl rfl rfl rfl rfl (by (try dsimp only) <;> omega) (by (try dsimp only) <;> omega) (by (try dsimp only) <;> omega) (by (try dsimp only) <;> omega) (by decide) rfl rfl (fun a10 => ?_))
  refine WG.run tab_ok 1 rfl ?_
  refine WG.nil ?_
  refine WE.nxt ?_
  refine W.seq ?_
  refine W.seq ?_
  refine W.region _ ?_
  refine WG.run tab_ok 3 rfl ?_
  refine WG.nil ?_
  refine WE.nxt ?_
  refine W.block ?_
  refine W.loopK (β := Nat) (fun t => t ≤ en + 1) (fun t => [(13, true, .int .i64 (t : Int))]) [0, 1, 5, 12] [_, _, _, _] [] _ rfl (fun t => [(0, .sl 3 1 (some ⟨a10, 0, none⟩) (en + 1) ((partV (fun t : Nat => pbytes flow (t : Int) ps) t (en + 1)).map encI))]) (fun t => en + 1 - t) (0) (Nat.zero_le _) ⟨rfl, rfl, rfl, rfl, rfl, rfl⟩ qS ?_
  intro t hst
  dsimp only [zipE, setAll, List.cons_append, List.nil_append, List.set_cons_zero, List.set_cons_succ] at hst ⊢
  have hpv := partV_len (fun t : Nat => pbytes flow (t : Int) ps) (t := t) (n := en + 1) hst
  refine W.seq ?_
  refine W.region _ ?_
  refine WG.run tab_ok 1 rfl ?_
  refine WG.nil ?_
  refine WE.nxt ?_
  refine W.seq ?_
  refine W.condD rfl (fun hc0 => ?_) (fun hc0 => ?_)
  · try dsimp only at hc0
    have htl : t < en + 1 := by omega
    have hset := partV_set (fun t : Nat => pbytes flow (t : Int) ps) htl
    refine W.skip ?_
    refine WE.nxt ?_
    refine W.seq ?_
    refine W.block ?_
    refine W.seq ?_
    refine W.region _ ?_
    refine WG.run tab_ok 2 rfl ?_
    refine WG.nil ?_
    refine WE.nxt ?_
    refine W.region _ ?_
    refine WG.run tab_ok 5 rfl ?_
    refine WG.callV en91 rfl rfl (by decide) (CallOp.mk' rfl rfl rfl rfl) (fun _ => rfl) (fun hg => Bytes_V hp hsz (by omega)) ?_
    refine WG.y rfl rfl (by decide) (Yl.indexN tab_ok rfl rfl rfl rfl rfl rfl (fun _ => rfl) (by intro _; (try dsimp only) <;> omega) (by intro _; first | exact fun _ _ _ _ => rfl | exact RS.has (by assumption) | exact fun _ _ _ _ => (by assumption) | exact HasMem.ownD 0 rfl | exact HasMem.ownD 1 rfl)) ?_
    first | refine WL.efN rfl rfl (Ef.storeD _ 0 tab_ok rfl rfl rfl rfl rfl (by (try dsimp only) <;> omega) rfl rfl rfl rfl ?_) | refine WL.efN rfl rfl (Ef.storeD _ 1 tab_ok rfl rfl rfl rfl rfl (by (try dsimp only) <;> omega) rfl rfl rfl rfl ?_)
    refine WG.nil ?_
    refine WE.blk _ ?_
    refine WE.nxt ?_
    refine W.region _ ?_
    refine WG.y rfl rfl (by decide) (Yl.add rfl rfl rfl (fun _ => rfl) (by intro _; constructor <;> (try dsimp only) <;> omega)) ?_
    refine WG.run tab_ok 1 rfl ?_
    refine WG.nil ?_
    refine WE.again (t + 1) (by omega) (by (try dsimp only); omega) ⟨rfl, rfl, rfl, rfl, rfl, rfl⟩ (RLe.refl _) (by dsimp only [setAll, List.set_cons_zero, List.set_cons_succ]; rw [← hset]; exact qS)
  · try dsimp only at hc0
    obtain rfl : t = en + 1 := by omega
    rw [partV_all]
    refine W.exit ?_
    refine WE.then_exit ?_
    refine WE.then_exit ?_
    refine WE.blk_exit ?_
    refine WE.nxt ?_
    refine W.seq ?_
    refine W.region _ ?_
    refine WG.run tab_ok 2 rfl ?_
    refine WG.nil ?_
    refine WE.nxt ?_
    refine W.ret ?_
    refine WE.retF tab_ok [_] rfl ⟨rfl, trivial⟩ (RLe.refl _) ?_
    exact ⟨_, _, by rw [hcl]; rfl, rfl, qS⟩

theorem LeastF_V {R : Ro} {va : Option Addr} {vc b8 en : Nat} {vs : List Int} (hv : RS R 1 encI va vs) (hl : vs.length = en + 1) (he : en ≤ 3000) (h8 : R b8 = some [.slice va vs.length vc]) {t : Nat} (ht : t ≤ 100000) : FnV Try.prog 79 [.int .i64 (t : Int), .pointer (some ⟨b8, 0, none⟩)] R (.int .i64 (nth vs (min t en))) := by
  refine Fn.toV (fun w0 E => ?_)
  have hix : (if ((vs.length : Int) - 1) < (t : Int) then ((vs.length : Int) - 1) else (t : Int)).toNat = min t en := by split <;> omega
  have hi0 : 0 ≤ (if ((vs.length : Int) - 1) < (t : Int) then ((vs.length : Int) - 1) else (t : Int)) := by split <;> omega
  have hi1 : (if ((vs.length : Int) - 1) < (t : Int) then ((vs.length : Int) - 1) else (t : Int)) < vs.length := by split <;> omega
  refine Fn.enter (n := 12) Try.func79 rfl rfl (Nat.le_of_ble_eq_true rfl) rfl ?_
  refine W.seq ?_
  refine W.region _ ?_
  refine WG.run tab_ok 1 rfl ?_
  refine WG.nil ?_
  refine WE.nxt ?_
  refine W.seq ?_
  refine W.region _ ?_
  refine' WG.y rfl rfl (by decide) (Yl.load1 tab_ok rfl rfl rfl (fun _ => rfl) ?r1 rfl ?h1) ?_
  case r1 => (first | exact Rd.ro (by assumption) | exact Rd.blk 0 rfl | (apply RS.rdD; assumption; ((try dsimp only) <;> omega)) | exact Rd.slD 0 rfl (by (try dsimp only) <;> omega))
  case h1 => rfl
  refine WG.run tab_ok 1 rfl ?_
  refine' WG.y rfl rfl (by decide) (Yl.load1 tab_ok rfl rfl rfl (fun _ => rfl) ?r2 rfl ?h2) ?_
  case r2 => (first | exact Rd.ro (by assumption) | exact Rd.blk 0 rfl | (apply RS.rdD; assumption; ((try dsimp only) <;> omega)) | exact Rd.slD 0 rfl (by (try dsimp only) <;> omega))
  case h2 => rfl
  refine WG.run tab_ok 1 rfl ?_
  refine WG.y rfl rfl (by decide) (Yl.sub rfl rfl rfl (fun _ => rfl) (by intro _; constructor <;> (try dsimp only) <;> omega)) ?_
  refine WG.run tab_ok 1 rfl ?_
  refine WG.y rfl rfl (by decide) (Yl.index tab_ok rfl rfl rfl rfl rfl rfl (fun _ => rfl) (by intro _; exact ⟨hi0, hi1⟩) (by intro _; first | exact fun _ _ _ _ => rfl | exact RS.has (by assumption) | exact fun _ _ _ _ => (by assumption) | exact HasMem.ownD 0 rfl)) ?_
  refine' WG.y rfl rfl (by decide) (Yl.load1 tab_ok rfl rfl rfl (fun _ => rfl) ?r3 rfl ?h3) ?_
  case r3 => exact RS.rdD hv (by rw [hix]; omega)
  case h3 => rfl
  refine WG.run tab_ok 1 rfl ?_
  refine WG.nil ?_
  refine WE.nxt ?_
  refine W.ret ?_
  refine WE.subE (E' := E) qS ?_
  refine WE.retF tab_ok [_] rfl ⟨rfl, trivial⟩ (RLe.refl _) ?_
  exact ⟨by rw [hix]; rfl, rfl⟩

end Go.Proofs.Ytolmmfphdieilaa

/- The least curve that a flow keeps has period 1. No condition. -/
set_option linter.unusedSimpArgs false
set_option linter.unusedVariables false
namespace Go.Proofs.Ytolmmfphdieilaa
open Go Go.RowKit Go.Proofs.Ytolmmfphdieilaa.K Go.Proofs.Ytolmmfphdieilaa.M

theorem Least1_C {R : Ro} {pa : Option Addr} {pc : Nat} {ps : List Pkt} (hp : RS R 3 encP pa ps) {flow : Int} (hok : Ok ps) (hfl : -1 ≤ flow) (htm : ∀ p ∈ ps, p.time ≤ 390) (w0 : World) (E : List Ent) : K.Fn Try.prog 32 [.slice pa ps.length pc, .int .i64 flow] w0 R E (fun v R' E' => ∃ (f : Option Addr) (fc : Nat) (F : Nat → Int) (s p : Nat) (q : Int), v = .tuple #[.agg #[.slice f (fvals F (s + p)).length fc, .int .i64 (p : Int), .int .i64 q], .int .i64 0] ∧ RS R' 1 encI f (fvals F (s + p)) ∧ FC F s p q ∧ p ≤ 1 ∧ (∀ x t : Nat, x ≤ t → pbytes flow (t : Int) ps - pbytes flow (x : Int) ps ≤ F (t - x)) ∧ E.Sublist E') := by
  have hpl := hok.len
  have hvv := (validate_ok ps).2 hok
  have hsz : ∀ p ∈ ps, 0 ≤ p.size ∧ p.size ≤ 1000000 := fun p hp => by have := hok.at hp; omega
  have heb := endN_bound (ps := ps) (B := 390) (by omega) (fun p hp => ⟨(hok.at hp).2.2.1, htm p hp⟩)
  obtain ⟨en, hen⟩ := Int.eq_ofNat_of_zero_le heb.1
  have hen1 : en ≤ 391 := by omega
  have hgt := endN_gt hok.sorted
  rw [hen] at hgt
  have hpb := fun u => pbytes_bound flow u ps hsz
  have hcl : (cumL flow ps (en + 1)).length = en + 1 := by simp [cumL]
  have hcn : ∀ u, u < en + 1 → nth (cumL flow ps (en + 1)) u = pbytes flow (u : Int) ps := fun u hu => range_map_nth _ hu
  generalize hA : cumL flow ps (en + 1) = A at hcl hcn
  refine Fn.enter (n := 95) Try.func32 rfl rfl (Nat.le_of_ble_eq_true rfl) rfl ?_
  refine W.seq ?_
  refine W.region _ ?_
  refine WL.ef rfl rfl (by decide) (Ef.alloc tab_ok rfl rfl (fun b4 => ?_))
  refine WG.run tab_ok 1 rfl ?_
  refine WG.nil ?_
  refine WE.nxt ?_
  refine W.seq ?_
  refine W.seq ?_
  refine W.region _ ?_
  refine WG.run tab_ok 1 rfl ?_
  refine WG.callV en77 rfl rfl (by decide) (CallOp.mk' rfl rfl rfl rfl) (fun _ => rfl) (fun hg => hvv ▸ Validate_V hp) ?_
  refine WG.run tab_ok 1 rfl ?_
  refine WG.nil ?_
  refine WE.nxt ?_
  refine W.seq ?_
  refine W.region _ ?_
  refine WG.run tab_ok 2 rfl ?_
  refine WG.nil ?_
  refine WE.nxt ?_
  refine W.condN rfl (fun hc0 => ?_) (fun hc0 => ?_)
  · try dsimp only at hc0
    exact absurd rfl hc0
  · try dsimp only at hc0
    refine W.skip ?_
    refine WE.nxt ?_
    refine W.seq ?_
    refine W.seq ?_
    refine W.region _ ?_
    refine WG.run tab_ok 2 rfl ?_
    refine WG.nil ?_
    refine WE.nxt ?_
    refine W.condD rfl (fun hc1 => ?_) (fun hc1 => ?_)
    · try dsimp only at hc1
      omega
    · try dsimp only at hc1
      refine W.skip ?_
      refine WE.nxt ?_
      refine W.seq ?_
      refine W.region _ ?_
      refine WG.run tab_ok 2 rfl ?_
      refine WL.call en78 rfl rfl (by decide) (CallOp.mkT rfl rfl rfl rfl) (CSums_C (flow := flow) hp hok hen (by omega) w0 _) ?_
      rintro _ _ E1 - ⟨aa, ac, rfl, rfl, hsub1⟩
      refine WL.subE hsub1 ?_
      rw [hA]
      refine WL.freeze (enc := encI) (xs := A) 0 rfl ?_
      intro R1 hR1 haA
      have hp := hp.mono hR1
      refine WG.run tab_ok 1 rfl ?_
      refine WG.nil ?_
      refine WE.nxt ?_
      refine W.seq ?_
      refine W.region _ ?_
      refine WG.run tab_ok 2 rfl ?_
      refine WL.ef rfl rfl (by decide) (Ef.makeSliceD (enc := encI) 0 tab_ok rfl rfl rfl rfl rfl rfl (by (try dsimp only) <;> omega) (by (try dsimp only) <;> omega) (by (try dsimp only) <;> omega) (by (try dsimp only) <;> omega) (by decide) rfl rfl (fun a28 => ?_))
      refine WL.ef rfl rfl (by decide) (Ef.alloc tab_ok rfl rfl (fun b8 => ?_))
      first | refine WL.efN rfl rfl (Ef.store0 0 tab_ok rfl rfl rfl rfl rfl rfl rfl rfl ?_) | refine WL.efN rfl rfl (Ef.store0 1 tab_ok rfl rfl rfl rfl rfl rfl rfl rfl ?_) | refine WL.efN rfl rfl (Ef.store0 2 tab_ok rfl rfl rfl rfl rfl rfl rfl rfl ?_) | refine WL.efN rfl rfl (Ef.store0 3 tab_ok rfl rfl rfl rfl rfl rfl rfl rfl ?_) | refine WL.efN rfl rfl (Ef.store0 4 tab_ok rfl rfl rfl rfl rfl rfl rfl rfl ?_) | refine WL.efN rfl rfl (Ef.store0 5 tab_ok rfl rfl rfl rfl rfl rfl rfl rfl ?_)
      refine WG.nil ?_
      refine WE.nxt ?_
      refine W.seq ?_
      refine W.seq ?_
      refine W.region _ ?_
      refine WG.run tab_ok 3 rfl ?_
      refine WG.nil ?_
      refine WE.nxt ?_
      refine W.block ?_
      refine W.loopK (β := Nat × List Int) (fun (i, vs) => i ≤ ps.length ∧ vs.length = en + 1 ∧ (∀ j, j ≤ en → 0 ≤ nth vs j ∧ nth vs j ≤ 1000000 * 60) ∧ (∀ j, j < i → ∀ T t : Nat, (nth ps j).time = T → T ≤ t → t ≤ en → pbytes flow (t : Int) ps - pbytes flow (T : Int) ps ≤ nth vs (t - T))) (fun (i, vs) => [(31, true, .int .i64 (i : Int))]) [4, 7, 8, 29, 30] [_, _, _, _, _] [] _ rfl (fun (i, vs) => [(1, .sl 3 1 (some ⟨a28, 0, none⟩) A.length ((vs).map encI))]) (fun (i, vs) => ps.length - i) ((0, List.replicate A.length 0)) (⟨Nat.zero_le _, by simp [hcl], fun j hj => by (try dsimp only); rw [nth_replicate (by omega)]; omega, fun j hj => by (try dsimp only at hj); omega⟩) ⟨rfl, rfl, rfl, rfl, rfl, rfl, rfl⟩ qS ?_
      intro st hst
      obtain ⟨i, vs⟩ := st
      dsimp only [zipE, setAll, List.cons_append, List.nil_append, List.set_cons_zero, List.set_cons_succ] at hst ⊢
      obtain ⟨hi, hvl, hb, hold⟩ := hst
      refine W.seq ?_
      refine W.region _ ?_
      refine WG.run tab_ok 1 rfl ?_
      refine WG.nil ?_
      refine WE.nxt ?_
      refine W.seq ?_
      refine W.condD rfl (fun hc2 => ?_) (fun hc2 => ?_)
      · try dsimp only at hc2
        have hil : i < ps.length := by omega
        refine W.skip ?_
        refine WE.nxt ?_
        refine W.seq ?_
        refine W.block ?_
        refine W.seq ?_
        refine W.region _ ?_
        refine WG.y rfl rfl (by decide) (Yl.indexN tab_ok rfl rfl rfl rfl rfl rfl (fun _ => rfl) (by intro _; (try dsimp only) <;> omega) (by intro _; first | exact fun _ _ _ _ => rfl | exact RS.has (by assumption) | exact fun _ _ _ _ => (by assumption) | exact HasMem.ownD 0 rfl | exact HasMem.ownD 1 rfl | exact HasMem.ownD 2 rfl | exact HasMem.ownD 3 rfl | exact HasMem.ownD 4 rfl | exact HasMem.ownD 5 rfl)) ?_
        refine' WG.y rfl rfl (by decide) (Yl.load1 tab_ok rfl rfl rfl (fun _ => rfl) ?r1 rfl ?h1) ?_
        case r1 => (first | (apply RS.rdD; assumption; ((try dsimp only) <;> omega)) | exact Rd.slD 0 rfl (by (try dsimp only) <;> omega) | exact Rd.slD 1 rfl (by (try dsimp only) <;> omega) | exact Rd.slD 2 rfl (by (try dsimp only) <;> omega) | exact Rd.slD 3 rfl (by (try dsimp only) <;> omega) | exact Rd.slD 4 rfl (by (try dsimp only) <;> omega) | exact Rd.slD 5 rfl (by (try dsimp only) <;> omega))
        case h1 => rfl
        refine WL.ef rfl rfl (by decide) (Ef.alloc tab_ok rfl rfl (fun b10 => ?_))
        first | refine WL.efN rfl rfl (Ef.store0 0 tab_ok rfl rfl rfl rfl rfl rfl rfl rfl ?_) | refine WL.efN rfl rfl (Ef.store0 1 tab_ok rfl rfl rfl rfl rfl rfl rfl rfl ?_) | refine WL.efN rfl rfl (Ef.store0 2 tab_ok rfl rfl rfl rfl rfl rfl rfl rfl ?_) | refine WL.efN rfl rfl (Ef.store0 3 tab_ok rfl rfl rfl rfl rfl rfl rfl rfl ?_) | refine WL.efN rfl rfl (Ef.store0 4 tab_ok rfl rfl rfl rfl rfl rfl rfl rfl ?_) | refine WL.efN rfl rfl (Ef.store0 5 tab_ok rfl rfl rfl rfl rfl rfl rfl rfl ?_)
        refine WG.nil ?_
        refine WE.nxt ?_
        obtain ⟨T, hT⟩ := Int.eq_ofNat_of_zero_le (hok.at (nth_mem hil)).2.2.1
        have hTe : T ≤ en := by have := hgt _ (nth_mem hil); omega
        obtain ⟨fl, szz, hpi⟩ : ∃ fl szz, nth ps i = ⟨fl, (T : Int), szz⟩ := ⟨(nth ps i).flow, (nth ps i).size, by rw [← hT]⟩
        rw [hpi]
        refine W.seq ?_
        refine W.region _ ?_
        refine WG.run tab_ok 1 rfl ?_
        refine' WG.y rfl rfl (by decide) (Yl.load1 tab_ok rfl rfl rfl (fun _ => rfl) ?r2 rfl ?h2) ?_
        case r2 => apply Rd.add; (first | exact Rd.ro (by assumption) | exact Rd.blk 0 rfl | exact Rd.blk 1 rfl | exact Rd.blk 2 rfl | exact Rd.blk 3 rfl | exact Rd.blk 4 rfl | exact Rd.blk 5 rfl)
        case h2 => rfl
        refine WG.run tab_ok 1 rfl ?_
        refine WG.nil ?_
        refine WE.nxt ?_
        refine W.block ?_
        refine W.loopK (β := Nat × List Int) (fun (t, vs) => T ≤ t ∧ t ≤ en + 1 ∧ vs.length = en + 1 ∧ (∀ j, j ≤ en → 0 ≤ nth vs j ∧ nth vs j ≤ 1000000 * 60) ∧ (∀ j, j < i → ∀ T t : Nat, (nth ps j).time = T → T ≤ t → t ≤ en → pbytes flow (t : Int) ps - pbytes flow (T : Int) ps ≤ nth vs (t - T)) ∧ (∀ u : Nat, T ≤ u → u < t → pbytes flow (u : Int) ps - pbytes flow (T : Int) ps ≤ nth vs (u - T))) (fun (t, vs) => [(11, true, .int .i64 (t : Int))]) [4, 7, 8, 10, 29, 30, 31] [_, _, _, _, _, _, _] [] _ rfl (fun (t, vs) => [(2, .sl 3 1 (some ⟨a28, 0, none⟩) A.length ((vs).map encI))]) (fun (t, vs) => en + 1 - t) ((T, vs)) (⟨Nat.le_refl _, by (try dsimp only); omega, hvl, hb, hold, fun u h1 h2 => by (try dsimp only at h2); omega⟩) ⟨rfl, rfl, rfl, rfl, rfl, rfl, rfl, rfl, rfl⟩ qS ?_
        intro st hst
        obtain ⟨t, vs⟩ := st
        dsimp only [zipE, setAll, List.cons_append, List.nil_append, List.set_cons_zero, List.set_cons_succ] at hst ⊢
        obtain ⟨hTt, ht, hvl, hb, hold, hnew⟩ := hst
        have hAt := hcn t
        have hAT := hcn T (by omega)
        have hbt := hpb t
        have hbT := hpb T
        have hix : ((t : Int) - (T : Int)).toNat = t - T := by omega
        refine W.seq ?_
        refine W.seq ?_
        refine W.region _ ?_
        refine WG.run tab_ok 4 rfl ?_
        refine WG.nil ?_
        refine WE.nxt ?_
        refine W.condD rfl (fun hc3 => ?_) (fun hc3 => ?_)
        · try dsimp only at hc3
          have htl : t < en + 1 := by omega
          refine W.skip ?_
          refine WE.nxt ?_
          refine W.seq ?_
          refine W.block ?_
          refine W.regionH _ (ES := [.blk b10 [.int .i64 fl, .int .i64 (T : Int), .int .i64 szz], .blk b8 [.slice (some ⟨a28, 0, none⟩) A.length A.length]]) mixed ?_
          refine' WA.take 0 rfl (by kernel_rfl) (by kernel_rfl) (by kernel_rfl) rfl rfl (by decide) (Yl.load1 tab_ok rfl rfl rfl (fun _ => rfl) ?r3 rfl ?h3) qS (by first | exact RLe.refl _ | assumption) ?_
          case r3 => (first | exact Rd.ro (by assumption) | exact Rd.blk 0 rfl | exact Rd.blk 1 rfl | exact Rd.blk 2 rfl | exact Rd.blk 3 rfl | exact Rd.blk 4 rfl | exact Rd.blk 5 rfl)
          case h3 => rfl
          refine WA.take 1 rfl (by kernel_rfl) (by kernel_rfl) (by kernel_rfl) rfl rfl (by decide) (pureV_ok tab_ok rfl (fun _ => rfl)) qS (by first | exact RLe.refl _ | assumption) ?_
          refine WA.take 2 rfl (by kernel_rfl) (by kernel_rfl) (by kernel_rfl) rfl rfl (by decide) (pureV_ok tab_ok rfl (fun _ => rfl)) qS (by first | exact RLe.refl _ | assumption) ?_
          refine' WA.take 3 rfl (by kernel_rfl) (by kernel_rfl) (by kernel_rfl) rfl rfl (by decide) (Yl.load1 tab_ok rfl rfl rfl (fun _ => rfl) ?r4 rfl ?h4) qS (by first | exact RLe.refl _ | assumption) ?_
          case r4 => apply Rd.add; (first | exact Rd.ro (by assumption) | exact Rd.blk 0 rfl | exact Rd.blk 1 rfl | exact Rd.blk 2 rfl | exact Rd.blk 3 rfl | exact Rd.blk 4 rfl | exact Rd.blk 5 rfl)
          case h4 => rfl
          refine WA.take 4 rfl (by kernel_rfl) (by kernel_rfl) (by kernel_rfl) rfl rfl (by decide) (Yl.sub rfl rfl rfl (fun _ => rfl) (by intro _; constructor <;> (try dsimp only) <;> omega)) qS (by first | exact RLe.refl _ | assumption) ?_
          refine' WA.take 5 rfl (by kernel_rfl) (by kernel_rfl) (by kernel_rfl) rfl rfl (by decide) (Yl.load1 tab_ok rfl rfl rfl (fun _ => rfl) ?r5 rfl ?h5) qS (by first | exact RLe.refl _ | assumption) ?_
          case r5 => (first | exact Rd.ro (by assumption) | exact Rd.blk 0 rfl | exact Rd.blk 1 rfl | exact Rd.blk 2 rfl | exact Rd.blk 3 rfl | exact Rd.blk 4 rfl | exact Rd.blk 5 rfl)
          case h5 => rfl
          refine WA.take 6 rfl (by kernel_rfl) (by kernel_rfl) (by kernel_rfl) rfl rfl (by decide) (pureV_ok tab_ok rfl (fun _ => rfl)) qS (by first | exact RLe.refl _ | assumption) ?_
          refine WA.take 7 rfl (by kernel_rfl) (by kernel_rfl) (by kernel_rfl) rfl rfl (by decide) (pureV_ok tab_ok rfl (fun _ => rfl)) qS (by first | exact RLe.refl _ | assumption) ?_
          refine' WA.take 8 rfl (by kernel_rfl) (by kernel_rfl) (by kernel_rfl) rfl rfl (by decide) (Yl.load1 tab_ok rfl rfl rfl (fun _ => rfl) ?r6 rfl ?h6) qS (by first | exact RLe.refl _ | assumption) ?_
          case r6 => apply Rd.add; (first | exact Rd.ro (by assumption) | exact Rd.blk 0 rfl | exact Rd.blk 1 rfl | exact Rd.blk 2 rfl | exact Rd.blk 3 rfl | exact Rd.blk 4 rfl | exact Rd.blk 5 rfl)
          case h6 => rfl
          refine WA.take 9 rfl (by kernel_rfl) (by kernel_rfl) (by kernel_rfl) rfl rfl (by decide) (Yl.sub rfl rfl rfl (fun _ => rfl) (by intro _; constructor <;> (try dsimp only) <;> omega)) qS (by first | exact RLe.refl _ | assumption) ?_
          refine WA.take 10 rfl (by kernel_rfl) (by kernel_rfl) (by kernel_rfl) rfl rfl (by decide) (Yl.index tab_ok rfl rfl rfl rfl rfl rfl (fun _ => rfl) (by intro _; constructor <;> (try dsimp only) <;> omega) (by intro _; first | exact fun _ _ _ _ => rfl | exact RS.has (by assumption) | exact fun _ _ _ _ => (by assumption) | exact HasMem.ownD 0 rfl | exact HasMem.ownD 1 rfl | exact HasMem.ownD 2 rfl | exact HasMem.ownD 3 rfl | exact HasMem.ownD 4 rfl | exact HasMem.ownD 5 rfl)) qS (by first | exact RLe.refl _ | assumption) ?_
          refine WA.take 12 rfl (by kernel_rfl) (by kernel_rfl) (by kernel_rfl) rfl rfl (by decide) (pureV_ok tab_ok rfl (fun _ => rfl)) qS (by first | exact RLe.refl _ | assumption) ?_
          refine WA.take 13 rfl (by kernel_rfl) (by kernel_rfl) (by kernel_rfl) rfl rfl (by decide) (pureV_ok tab_ok rfl (fun _ => rfl)) qS (by first | exact RLe.refl _ | assumption) ?_
          refine WA.take 14 rfl (by kernel_rfl) (by kernel_rfl) (by kernel_rfl) rfl rfl (by decide) (Yl.indexN tab_ok rfl rfl rfl rfl rfl rfl (fun _ => rfl) (by intro _; (try dsimp only) <;> omega) (by intro _; first | exact fun _ _ _ _ => rfl | exact RS.has (by assumption) | exact fun _ _ _ _ => (by assumption) | exact HasMem.ownD 0 rfl | exact HasMem.ownD 1 rfl | exact HasMem.ownD 2 rfl | exact HasMem.ownD 3 rfl | exact HasMem.ownD 4 rfl | exact HasMem.ownD 5 rfl)) qS (by first | exact RLe.refl _ | assumption) ?_
          refine' WA.take 15 rfl (by kernel_rfl) (by kernel_rfl) (by kernel_rfl) rfl rfl (by decide) (Yl.load1 tab_ok rfl rfl rfl (fun _ => rfl) ?r7 rfl ?h7) qS (by first | exact RLe.refl _ | assumption) ?_
          case r7 => (first | (apply RS.rdD; assumption; ((try dsimp only) <;> omega)) | exact Rd.slD 0 rfl (by (try dsimp only) <;> omega) | exact Rd.slD 1 rfl (by (try dsimp only) <;> omega) | exact Rd.slD 2 rfl (by (try dsimp only) <;> omega) | exact Rd.slD 3 rfl (by (try dsimp only) <;> omega) | exact Rd.slD 4 rfl (by (try dsimp only) <;> omega) | exact Rd.slD 5 rfl (by (try dsimp only) <;> omega))
          case h7 => rfl
          refine WA.take 16 rfl (by kernel_rfl) (by kernel_rfl) (by kernel_rfl) rfl rfl (by decide) (pureV_ok tab_ok rfl (fun _ => rfl)) qS (by first | exact RLe.refl _ | assumption) ?_
          refine WA.take 17 rfl (by kernel_rfl) (by kernel_rfl) (by kernel_rfl) rfl rfl (by decide) (pureV_ok tab_ok rfl (fun _ => rfl)) qS (by first | exact RLe.refl _ | assumption) ?_
          refine' WA.take 18 rfl (by kernel_rfl) (by kernel_rfl) (by kernel_rfl) rfl rfl (by decide) (Yl.load1 tab_ok rfl rfl rfl (fun _ => rfl) ?r8 rfl ?h8) qS (by first | exact RLe.refl _ | assumption) ?_
          case r8 => apply Rd.add; (first | exact Rd.ro (by assumption) | exact Rd.blk 0 rfl | exact Rd.blk 1 rfl | exact Rd.blk 2 rfl | exact Rd.blk 3 rfl | exact Rd.blk 4 rfl | exact Rd.blk 5 rfl)
          case h8 => rfl
          refine WA.take 19 rfl (by kernel_rfl) (by kernel_rfl) (by kernel_rfl) rfl rfl (by decide) (Yl.indexN tab_ok rfl rfl rfl rfl rfl rfl (fun _ => rfl) (by intro _; (try dsimp only) <;> omega) (by intro _; first | exact fun _ _ _ _ => rfl | exact RS.has (by assumption) | exact fun _ _ _ _ => (by assumption) | exact HasMem.ownD 0 rfl | exact HasMem.ownD 1 rfl | exact HasMem.ownD 2 rfl | exact HasMem.ownD 3 rfl | exact HasMem.ownD 4 rfl | exact HasMem.ownD 5 rfl)) qS (by first | exact RLe.refl _ | assumption) ?_
          refine' WA.take 20 rfl (by kernel_rfl) (by kernel_rfl) (by kernel_rfl) rfl rfl (by decide) (Yl.load1 tab_ok rfl rfl rfl (fun _ => rfl) ?r9 rfl ?h9) qS (by first | exact RLe.refl _ | assumption) ?_
          case r9 => (first | (apply RS.rdD; assumption; ((try dsimp only) <;> omega)) | exact Rd.slD 0 rfl (by (try dsimp only) <;> omega) | exact Rd.slD 1 rfl (by (try dsimp only) <;> omega) | exact Rd.slD 2 rfl (by (try dsimp only) <;> omega) | exact Rd.slD 3 rfl (by (try dsimp only) <;> omega) | exact Rd.slD 4 rfl (by (try dsimp only) <;> omega) | exact Rd.slD 5 rfl (by (try dsimp only) <;> omega))
          case h9 => rfl
          refine WA.take 21 rfl (by kernel_rfl) (by kernel_rfl) (by kernel_rfl) rfl rfl (by decide) (Yl.sub rfl rfl rfl (fun _ => rfl) (by intro _; constructor <;> (try dsimp only) <;> omega)) qS (by first | exact RLe.refl _ | assumption) ?_
          refine' WA.yl 11 rfl (by kernel_rfl) rfl rfl (by decide) (Yl.load1 tab_ok rfl rfl rfl (fun _ => rfl) ?r10 rfl ?h10) qS (RLe.refl _) ?_
          case r10 => (first | (apply RS.rdD; assumption; ((try dsimp only) <;> omega)) | exact Rd.slD 0 rfl (by (try dsimp only) <;> omega) | exact Rd.slD 1 rfl (by (try dsimp only) <;> omega) | exact Rd.slD 2 rfl (by (try dsimp only) <;> omega) | exact Rd.slD 3 rfl (by (try dsimp only) <;> omega) | exact Rd.slD 4 rfl (by (try dsimp only) <;> omega) | exact Rd.slD 5 rfl (by (try dsimp only) <;> omega))
          case h10 => rfl
          refine WA.take 22 rfl (by kernel_rfl) (by kernel_rfl) (by kernel_rfl) rfl rfl (by decide) (pureV_ok tab_ok rfl (fun _ => rfl)) qS (by first | exact RLe.refl _ | assumption) ?_
          refine WA.take 23 rfl (by kernel_rfl) (by kernel_rfl) (by kernel_rfl) rfl rfl (by decide) (Yl.index tab_ok rfl rfl rfl rfl rfl rfl (fun _ => rfl) (by intro _; constructor <;> (try dsimp only) <;> omega) (by intro _; first | exact fun _ _ _ _ => rfl | exact RS.has (by assumption) | exact fun _ _ _ _ => (by assumption) | exact HasMem.ownD 0 rfl | exact HasMem.ownD 1 rfl | exact HasMem.ownD 2 rfl | exact HasMem.ownD 3 rfl | exact HasMem.ownD 4 rfl | exact HasMem.ownD 5 rfl)) qS (by first | exact RLe.refl _ | assumption) ?_
          first | refine WA.effN 24 rfl (by kernel_rfl) rfl rfl (Ef.storeD _ 0 tab_ok rfl rfl rfl rfl rfl (by (try dsimp only) <;> omega) rfl rfl rfl rfl ?_) | refine WA.effN 24 rfl (by kernel_rfl) rfl rfl (Ef.storeD _ 1 tab_ok rfl rfl rfl rfl rfl (by (try dsimp only) <;> omega) rfl rfl rfl rfl ?_) | refine WA.effN 24 rfl (by kernel_rfl) rfl rfl (Ef.storeD _ 2 tab_ok rfl rfl rfl rfl rfl (by (try dsimp only) <;> omega) rfl rfl rfl rfl ?_) | refine WA.effN 24 rfl (by kernel_rfl) rfl rfl (Ef.storeD _ 3 tab_ok rfl rfl rfl rfl rfl (by (try dsimp only) <;> omega) rfl rfl rfl rfl ?_) | refine WA.effN 24 rfl (by kernel_rfl) rfl rfl (Ef.storeD _ 4 tab_ok rfl rfl rfl rfl rfl (by (try dsimp only) <;> omega) rfl rfl rfl rfl ?_) | refine WA.effN 24 rfl (by kernel_rfl) rfl rfl (Ef.storeD _ 5 tab_ok rfl rfl rfl rfl rfl (by (try dsimp only) <;> omega) rfl rfl rfl rfl ?_)
          refine ⟨by first | exact RLe.refl _ | assumption, qS, ?_⟩
          refine WA.done (by kernel_rfl) ?_
          refine WE.blk _ ?_
          refine WE.nxt ?_
          refine W.region _ ?_
          refine WG.run tab_ok 1 rfl ?_
          refine WG.y rfl rfl (by decide) (Yl.add rfl rfl rfl (fun _ => rfl) (by intro _; constructor <;> (try dsimp only) <;> omega)) ?_
          refine WG.run tab_ok 1 rfl ?_
          refine WG.nil ?_
          refine WE.again ((t + 1, vs.set (((t : Int) - (T : Int)).toNat) (if nth vs (((t : Int) - (T : Int)).toNat) < nth A t - nth A T then nth A t - nth A T else nth vs (((t : Int) - (T : Int)).toNat)))) (by
            have hAt := hcn t htl
            have hbj := hb (t - T) (by omega)
            rw [hix, hAt, hAT]
            have hr := nth_raise (vs := vs) (k := t - T) (x := if nth vs (t - T) < pbytes flow (t : Int) ps - pbytes flow (T : Int) ps then pbytes flow (t : Int) ps - pbytes flow (T : Int) ps else nth vs (t - T)) (by split <;> omega)
            refine ⟨by (try dsimp only); omega, by (try dsimp only); omega, by (try dsimp only); rw [List.length_set]; exact hvl, fun j hj => ?_, fun j hj T' u h1 h2 h3 => Int.le_trans (hold j hj T' u h1 h2 h3) (hr _), fun u h1 h2 => ?_⟩
            · try dsimp only
              by_cases e : t - T = j
              · rw [e, nth_set_self (by omega)]
                rw [e] at hbj
                split <;> omega
              · rw [nth_set_ne e]; exact hb j hj
            · try dsimp only at h2 ⊢
              by_cases e : u = t
              · subst e
                rw [nth_set_self (by omega)]
                split <;> omega
              · exact Int.le_trans (hnew u h1 (by omega)) (hr _)) (by (try dsimp only); omega) ⟨rfl, rfl, rfl, rfl, rfl, rfl, rfl, rfl, rfl⟩ (RLe.refl _) qS
        · try dsimp only at hc3
          have htE : t = en + 1 := by omega
          refine W.exit ?_
          refine WE.then_exit ?_
          refine WE.then_exit ?_
          refine WE.blk_exit ?_
          refine WE.blk _ ?_
          refine WE.nxt ?_
          refine W.region _ ?_
          refine WG.y rfl rfl (by decide) (Yl.add rfl rfl rfl (fun _ => rfl) (by intro _; constructor <;> (try dsimp only) <;> omega)) ?_
          refine WG.run tab_ok 1 rfl ?_
          refine WG.nil ?_
          refine WE.again ((i + 1, vs)) (⟨by (try dsimp only); omega, hvl, hb, fun j hj T' u h1 h2 h3 => by
            by_cases e : j = i
            · subst e
              obtain rfl : T' = T := by omega
              exact hnew u h2 (by omega)
            · exact hold j (by (try dsimp only at hj); omega) T' u h1 h2 h3⟩) (by (try dsimp only); omega) ⟨rfl, rfl, rfl, rfl, rfl, rfl, rfl⟩ (RLe.refl _) qS
      · try dsimp only at hc2
        refine W.exit ?_
        refine WE.then_exit ?_
        refine WE.then_exit ?_
        refine WE.blk_exit ?_
        refine WE.nxt ?_
        refine W.seq ?_
        have hiE : i = ps.length := by omega
        refine W.seq ?_
        refine W.region _ ?_
        refine WG.run tab_ok 1 rfl ?_
        refine WG.nil ?_
        refine WE.nxt ?_
        refine W.block ?_
        refine W.loopK (β := Nat × List Int) (fun (k, vs) => 1 ≤ k ∧ k ≤ en + 1 ∧ vs.length = en + 1 ∧ (∀ j, j ≤ en → 0 ≤ nth vs j ∧ nth vs j ≤ 1000000 * 60) ∧ (∀ j, j < ps.length → ∀ T t : Nat, (nth ps j).time = T → T ≤ t → t ≤ en → pbytes flow (t : Int) ps - pbytes flow (T : Int) ps ≤ nth vs (t - T)) ∧ (∀ j, j + 1 < k → nth vs j ≤ nth vs (j + 1))) (fun (k, vs) => [(12, true, .int .i64 (k : Int))]) [4, 8] [_, _] [] _ rfl (fun (k, vs) => [(1, .sl 3 1 (some ⟨a28, 0, none⟩) A.length ((vs).map encI))]) (fun (k, vs) => en + 1 - k) ((1, vs)) (⟨Nat.le_refl _, by (try dsimp only); omega, hvl, hb, by rw [hiE] at hold; exact hold, fun j hj => by (try dsimp only at hj); omega⟩) ⟨rfl, rfl, rfl, rfl⟩ qS ?_
        intro st hst
        obtain ⟨k, vs⟩ := st
        dsimp only [zipE, setAll, List.cons_append, List.nil_append, List.set_cons_zero, List.set_cons_succ] at hst ⊢
        obtain ⟨hk1, hk2, hvl, hb, hold, hup0⟩ := hst
        have hix : ((k : Int) - 1).toNat = k - 1 := by omega
        refine W.seq ?_
        refine W.seq ?_
        refine W.region _ ?_
        refine WG.run tab_ok 1 rfl ?_
        refine' WG.y rfl rfl (by decide) (Yl.load1 tab_ok rfl rfl rfl (fun _ => rfl) ?r11 rfl ?h11) ?_
        case r11 => (first | exact Rd.ro (by assumption) | exact Rd.blk 0 rfl | exact Rd.blk 1 rfl | exact Rd.blk 2 rfl | exact Rd.blk 3 rfl | exact Rd.blk 4 rfl | exact Rd.blk 5 rfl)
        case h11 => rfl
        refine WG.run tab_ok 2 rfl ?_
        refine WG.nil ?_
        refine WE.nxt ?_
        refine W.condD rfl (fun hc4 => ?_) (fun hc4 => ?_)
        · try dsimp only at hc4
          have hkl : k < en + 1 := by omega
          refine W.skip ?_
          refine WE.nxt ?_
          refine W.seq ?_
          refine W.block ?_
          refine W.regionH _ (ES := [.blk b8 [.slice (some ⟨a28, 0, none⟩) A.length A.length]]) mixed ?_
          refine' WA.take 0 rfl (by kernel_rfl) (by kernel_rfl) (by kernel_rfl) rfl rfl (by decide) (Yl.load1 tab_ok rfl rfl rfl (fun _ => rfl) ?r12 rfl ?h12) qS (by first | exact RLe.refl _ | assumption) ?_
          case r12 => (first | exact Rd.ro (by assumption) | exact Rd.blk 0 rfl | exact Rd.blk 1 rfl | exact Rd.blk 2 rfl | exact Rd.blk 3 rfl | exact Rd.blk 4 rfl | exact Rd.blk 5 rfl)
          case h12 => rfl
          refine WA.take 1 rfl (by kernel_rfl) (by kernel_rfl) (by kernel_rfl) rfl rfl (by decide) (pureV_ok tab_ok rfl (fun _ => rfl)) qS (by first | exact RLe.refl _ | assumption) ?_
          refine' WA.take 2 rfl (by kernel_rfl) (by kernel_rfl) (by kernel_rfl) rfl rfl (by decide) (Yl.load1 tab_ok rfl rfl rfl (fun _ => rfl) ?r13 rfl ?h13) qS (by first | exact RLe.refl _ | assumption) ?_
          case r13 => (first | exact Rd.ro (by assumption) | exact Rd.blk 0 rfl | exact Rd.blk 1 rfl | exact Rd.blk 2 rfl | exact Rd.blk 3 rfl | exact Rd.blk 4 rfl | exact Rd.blk 5 rfl)
          case h13 => rfl
          refine WA.take 3 rfl (by kernel_rfl) (by kernel_rfl) (by kernel_rfl) rfl rfl (by decide) (pureV_ok tab_ok rfl (fun _ => rfl)) qS (by first | exact RLe.refl _ | assumption) ?_
          refine WA.take 4 rfl (by kernel_rfl) (by kernel_rfl) (by kernel_rfl) rfl rfl (by decide) (Yl.indexN tab_ok rfl rfl rfl rfl rfl rfl (fun _ => rfl) (by intro _; (try dsimp only) <;> omega) (by intro _; first | exact fun _ _ _ _ => rfl | exact RS.has (by assumption) | exact fun _ _ _ _ => (by assumption) | exact HasMem.ownD 0 rfl | exact HasMem.ownD 1 rfl | exact HasMem.ownD 2 rfl | exact HasMem.ownD 3 rfl | exact HasMem.ownD 4 rfl | exact HasMem.ownD 5 rfl)) qS (by first | exact RLe.refl _ | assumption) ?_
          refine' WA.take 6 rfl (by kernel_rfl) (by kernel_rfl) (by kernel_rfl) rfl rfl (by decide) (Yl.load1 tab_ok rfl rfl rfl (fun _ => rfl) ?r14 rfl ?h14) qS (by first | exact RLe.refl _ | assumption) ?_
          case r14 => (first | exact Rd.ro (by assumption) | exact Rd.blk 0 rfl | exact Rd.blk 1 rfl | exact Rd.blk 2 rfl | exact Rd.blk 3 rfl | exact Rd.blk 4 rfl | exact Rd.blk 5 rfl)
          case h14 => rfl
          refine WA.take 7 rfl (by kernel_rfl) (by kernel_rfl) (by kernel_rfl) rfl rfl (by decide) (pureV_ok tab_ok rfl (fun _ => rfl)) qS (by first | exact RLe.refl _ | assumption) ?_
          refine WA.take 8 rfl (by kernel_rfl) (by kernel_rfl) (by kernel_rfl) rfl rfl (by decide) (Yl.sub rfl rfl rfl (fun _ => rfl) (by intro _; constructor <;> (try dsimp only) <;> omega)) qS (by first | exact RLe.refl _ | assumption) ?_
          refine WA.take 9 rfl (by kernel_rfl) (by kernel_rfl) (by kernel_rfl) rfl rfl (by decide) (Yl.index tab_ok rfl rfl rfl rfl rfl rfl (fun _ => rfl) (by intro _; constructor <;> (try dsimp only) <;> omega) (by intro _; first | exact fun _ _ _ _ => rfl | exact RS.has (by assumption) | exact fun _ _ _ _ => (by assumption) | exact HasMem.ownD 0 rfl | exact HasMem.ownD 1 rfl | exact HasMem.ownD 2 rfl | exact HasMem.ownD 3 rfl | exact HasMem.ownD 4 rfl | exact HasMem.ownD 5 rfl)) qS (by first | exact RLe.refl _ | assumption) ?_
          refine WA.br2 (i := 5) (j := 10) (by kernel_rfl) ?_ ?_
          ·
            refine' WS.yl rfl rfl rfl (by decide) (Yl.load1 tab_ok rfl rfl rfl (fun _ => rfl) ?r15 rfl ?h15) qS (RLe.refl _) ?_
            case r15 => (first | (apply RS.rdD; assumption; ((try dsimp only) <;> omega)) | exact Rd.slD 0 rfl (by (try dsimp only) <;> omega) | exact Rd.slD 1 rfl (by (try dsimp only) <;> omega) | exact Rd.slD 2 rfl (by (try dsimp only) <;> omega) | exact Rd.slD 3 rfl (by (try dsimp only) <;> omega) | exact Rd.slD 4 rfl (by (try dsimp only) <;> omega) | exact Rd.slD 5 rfl (by (try dsimp only) <;> omega))
            case h15 => rfl
            refine' WA.yl 10 rfl (by kernel_rfl) rfl rfl (by decide) (Yl.load1 tab_ok rfl rfl rfl (fun _ => rfl) ?r16 rfl ?h16) qS (RLe.refl _) ?_
            case r16 => (first | (apply RS.rdD; assumption; ((try dsimp only) <;> omega)) | exact Rd.slD 0 rfl (by (try dsimp only) <;> omega) | exact Rd.slD 1 rfl (by (try dsimp only) <;> omega) | exact Rd.slD 2 rfl (by (try dsimp only) <;> omega) | exact Rd.slD 3 rfl (by (try dsimp only) <;> omega) | exact Rd.slD 4 rfl (by (try dsimp only) <;> omega) | exact Rd.slD 5 rfl (by (try dsimp only) <;> omega))
            case h16 => rfl
            refine WA.take 11 rfl (by kernel_rfl) (by kernel_rfl) (by kernel_rfl) rfl rfl (by decide) (pureV_ok tab_ok rfl (fun _ => rfl)) qS (by first | exact RLe.refl _ | assumption) ?_
            refine WA.take 12 rfl (by kernel_rfl) (by kernel_rfl) (by kernel_rfl) rfl rfl (by decide) (Yl.indexN tab_ok rfl rfl rfl rfl rfl rfl (fun _ => rfl) (by intro _; (try dsimp only) <;> omega) (by intro _; first | exact fun _ _ _ _ => rfl | exact RS.has (by assumption) | exact fun _ _ _ _ => (by assumption) | exact HasMem.ownD 0 rfl | exact HasMem.ownD 1 rfl | exact HasMem.ownD 2 rfl | exact HasMem.ownD 3 rfl | exact HasMem.ownD 4 rfl | exact HasMem.ownD 5 rfl)) qS (by first | exact RLe.refl _ | assumption) ?_
            first | refine WA.effN 13 rfl (by kernel_rfl) rfl rfl (Ef.storeD _ 0 tab_ok rfl rfl rfl rfl rfl (by (try dsimp only) <;> omega) rfl rfl rfl rfl ?_) | refine WA.effN 13 rfl (by kernel_rfl) rfl rfl (Ef.storeD _ 1 tab_ok rfl rfl rfl rfl rfl (by (try dsimp only) <;> omega) rfl rfl rfl rfl ?_) | refine WA.effN 13 rfl (by kernel_rfl) rfl rfl (Ef.storeD _ 2 tab_ok rfl rfl rfl rfl rfl (by (try dsimp only) <;> omega) rfl rfl rfl rfl ?_) | refine WA.effN 13 rfl (by kernel_rfl) rfl rfl (Ef.storeD _ 3 tab_ok rfl rfl rfl rfl rfl (by (try dsimp only) <;> omega) rfl rfl rfl rfl ?_) | refine WA.effN 13 rfl (by kernel_rfl) rfl rfl (Ef.storeD _ 4 tab_ok rfl rfl rfl rfl rfl (by (try dsimp only) <;> omega) rfl rfl rfl rfl ?_) | refine WA.effN 13 rfl (by kernel_rfl) rfl rfl (Ef.storeD _ 5 tab_ok rfl rfl rfl rfl rfl (by (try dsimp only) <;> omega) rfl rfl rfl rfl ?_)
            refine ⟨by first | exact RLe.refl _ | assumption, qS, ?_⟩
            refine WA.done (by kernel_rfl) ?_
            refine WE.blk _ ?_
            refine WE.nxt ?_
            refine W.region _ ?_
            refine WG.run tab_ok 1 rfl ?_
            refine WG.y rfl rfl (by decide) (Yl.add rfl rfl rfl (fun _ => rfl) (by intro _; constructor <;> (try dsimp only) <;> omega)) ?_
            refine WG.run tab_ok 1 rfl ?_
            refine WG.nil ?_
            refine WE.again ((k + 1, vs.set k (if nth vs k < nth vs (((k : Int) - 1).toNat) then nth vs (((k : Int) - 1).toNat) else nth vs k))) (by
              have hbk := hb k (by omega)
              have hbk1 := hb (k - 1) (by omega)
              rw [hix]
              have hr := nth_raise (vs := vs) (k := k) (x := if nth vs k < nth vs (k - 1) then nth vs (k - 1) else nth vs k) (by split <;> omega)
              refine ⟨by (try dsimp only); omega, by (try dsimp only); omega, by (try dsimp only); rw [List.length_set]; exact hvl, fun j hj => ?_, fun j hj T' u h1 h2 h3 => Int.le_trans (hold j hj T' u h1 h2 h3) (hr _), fun j hj => ?_⟩
              · try dsimp only
                by_cases e : k = j
                · subst e
                  rw [nth_set_self (by omega)]
                  split <;> omega
                · rw [nth_set_ne e]; exact hb j hj
              · try dsimp only at hj ⊢
                by_cases e : j + 1 = k
                · obtain rfl : j = k - 1 := by omega
                  rw [nth_set_ne (show k ≠ k - 1 by omega), show k - 1 + 1 = k by omega, nth_set_self (by omega)]
                  split <;> omega
                · rw [nth_set_ne (show k ≠ j by omega), nth_set_ne (show k ≠ j + 1 by omega)]
                  exact hup0 j (by omega)) (by (try dsimp only); omega) ⟨rfl, rfl, rfl, rfl⟩ (RLe.refl _) qS
          ·
            refine' WS.yl rfl rfl rfl (by decide) (Yl.load1 tab_ok rfl rfl rfl (fun _ => rfl) ?r17 rfl ?h17) qS (RLe.refl _) ?_
            case r17 => (first | (apply RS.rdD; assumption; ((try dsimp only) <;> omega)) | exact Rd.slD 0 rfl (by (try dsimp only) <;> omega) | exact Rd.slD 1 rfl (by (try dsimp only) <;> omega) | exact Rd.slD 2 rfl (by (try dsimp only) <;> omega) | exact Rd.slD 3 rfl (by (try dsimp only) <;> omega) | exact Rd.slD 4 rfl (by (try dsimp only) <;> omega) | exact Rd.slD 5 rfl (by (try dsimp only) <;> omega))
            case h17 => rfl
            refine' WA.yl 5 rfl (by kernel_rfl) rfl rfl (by decide) (Yl.load1 tab_ok rfl rfl rfl (fun _ => rfl) ?r18 rfl ?h18) qS (RLe.refl _) ?_
            case r18 => (first | (apply RS.rdD; assumption; ((try dsimp only) <;> omega)) | exact Rd.slD 0 rfl (by (try dsimp only) <;> omega) | exact Rd.slD 1 rfl (by (try dsimp only) <;> omega) | exact Rd.slD 2 rfl (by (try dsimp only) <;> omega) | exact Rd.slD 3 rfl (by (try dsimp only) <;> omega) | exact Rd.slD 4 rfl (by (try dsimp only) <;> omega) | exact Rd.slD 5 rfl (by (try dsimp only) <;> omega))
            case h18 => rfl
            refine WA.take 11 rfl (by kernel_rfl) (by kernel_rfl) (by kernel_rfl) rfl rfl (by decide) (pureV_ok tab_ok rfl (fun _ => rfl)) qS (by first | exact RLe.refl _ | assumption) ?_
            refine WA.take 12 rfl (by kernel_rfl) (by kernel_rfl) (by kernel_rfl) rfl rfl (by decide) (Yl.indexN tab_ok rfl rfl rfl rfl rfl rfl (fun _ => rfl) (by intro _; (try dsimp only) <;> omega) (by intro _; first | exact fun _ _ _ _ => rfl | exact RS.has (by assumption) | exact fun _ _ _ _ => (by assumption) | exact HasMem.ownD 0 rfl | exact HasMem.ownD 1 rfl | exact HasMem.ownD 2 rfl | exact HasMem.ownD 3 rfl | exact HasMem.ownD 4 rfl | exact HasMem.ownD 5 rfl)) qS (by first | exact RLe.refl _ | assumption) ?_
            first | refine WA.effN 13 rfl (by kernel_rfl) rfl rfl (Ef.storeD _ 0 tab_ok rfl rfl rfl rfl rfl (by (try dsimp only) <;> omega) rfl rfl rfl rfl ?_) | refine WA.effN 13 rfl (by kernel_rfl) rfl rfl (Ef.storeD _ 1 tab_ok rfl rfl rfl rfl rfl (by (try dsimp only) <;> omega) rfl rfl rfl rfl ?_) | refine WA.effN 13 rfl (by kernel_rfl) rfl rfl (Ef.storeD _ 2 tab_ok rfl rfl rfl rfl rfl (by (try dsimp only) <;> omega) rfl rfl rfl rfl ?_) | refine WA.effN 13 rfl (by kernel_rfl) rfl rfl (Ef.storeD _ 3 tab_ok rfl rfl rfl rfl rfl (by (try dsimp only) <;> omega) rfl rfl rfl rfl ?_) | refine WA.effN 13 rfl (by kernel_rfl) rfl rfl (Ef.storeD _ 4 tab_ok rfl rfl rfl rfl rfl (by (try dsimp only) <;> omega) rfl rfl rfl rfl ?_) | refine WA.effN 13 rfl (by kernel_rfl) rfl rfl (Ef.storeD _ 5 tab_ok rfl rfl rfl rfl rfl (by (try dsimp only) <;> omega) rfl rfl rfl rfl ?_)
            refine ⟨by first | exact RLe.refl _ | assumption, qS, ?_⟩
            refine WA.done (by kernel_rfl) ?_
            refine WE.blk _ ?_
            refine WE.nxt ?_
            refine W.region _ ?_
            refine WG.run tab_ok 1 rfl ?_
            refine WG.y rfl rfl (by decide) (Yl.add rfl rfl rfl (fun _ => rfl) (by intro _; constructor <;> (try dsimp only) <;> omega)) ?_
            refine WG.run tab_ok 1 rfl ?_
            refine WG.nil ?_
            refine WE.again ((k + 1, vs.set k (if nth vs k < nth vs (((k : Int) - 1).toNat) then nth vs (((k : Int) - 1).toNat) else nth vs k))) (by
              have hbk := hb k (by omega)
              have hbk1 := hb (k - 1) (by omega)
              rw [hix]
              have hr := nth_raise (vs := vs) (k := k) (x := if nth vs k < nth vs (k - 1) then nth vs (k - 1) else nth vs k) (by split <;> omega)
              refine ⟨by (try dsimp only); omega, by (try dsimp only); omega, by (try dsimp only); rw [List.length_set]; exact hvl, fun j hj => ?_, fun j hj T' u h1 h2 h3 => Int.le_trans (hold j hj T' u h1 h2 h3) (hr _), fun j hj => ?_⟩
              · try dsimp only
                by_cases e : k = j
                · subst e
                  rw [nth_set_self (by omega)]
                  split <;> omega
                · rw [nth_set_ne e]; exact hb j hj
              · try dsimp only at hj ⊢
                by_cases e : j + 1 = k
                · obtain rfl : j = k - 1 := by omega
                  rw [nth_set_ne (show k ≠ k - 1 by omega), show k - 1 + 1 = k by omega, nth_set_self (by omega)]
                  split <;> omega
                · rw [nth_set_ne (show k ≠ j by omega), nth_set_ne (show k ≠ j + 1 by omega)]
                  exact hup0 j (by omega)) (by (try dsimp only); omega) ⟨rfl, rfl, rfl, rfl⟩ (RLe.refl _) qS
        · try dsimp only at hc4
          have hkE : k = en + 1 := by omega
          refine W.exit ?_
          refine WE.then_exit ?_
          refine WE.then_exit ?_
          refine WE.blk_exit ?_
          refine WE.nxt ?_
          have hup : ∀ j, j < en → nth vs j ≤ nth vs (j + 1) := fun j hj => hup0 j (by omega)
          refine W.freeze (enc := encI) (xs := vs) 1 rfl ?_
          intro R2 hR2 hvf
          refine W.freezeBlk 0 rfl ?_
          intro R3 hR3 hb8
          have hvf := hvf.mono hR3
          have hF : ∀ t : Nat, t < en + 1 → FnV Try.prog 79 ((#[] : Array Value).toList ++ [.int .i64 (t : Int)] ++ (#[.pointer (some ⟨b8, 0, none⟩)] : Array Value).toList) R3 (.int .i64 (nth vs (min t en))) := fun t ht => LeastF_V hvf hvl (by omega) (by rw [hvl, ← hcl]; exact hb8) (by omega)
          refine W.seq ?_
          refine W.region _ ?_
          refine WG.run tab_ok 2 rfl ?_
          refine WG.nil ?_
          refine WE.nxt ?_
          refine W.seq ?_
          refine W.region _ ?_
          refine WG.run tab_ok 1 rfl ?_
          refine' WG.y rfl rfl (by decide) (Yl.load1 tab_ok rfl rfl rfl (fun _ => rfl) ?r19 rfl ?h19) ?_
          case r19 => (first | exact Rd.ro (by assumption) | exact Rd.blk 0 rfl | exact Rd.blk 1 rfl | exact Rd.blk 2 rfl | exact Rd.blk 3 rfl | exact Rd.blk 4 rfl | exact Rd.blk 5 rfl)
          case h19 => rfl
          refine WG.run tab_ok 1 rfl ?_
          refine WG.y rfl rfl (by decide) (Yl.sub rfl rfl rfl (fun _ => rfl) (by intro _; constructor <;> (try dsimp only) <;> omega)) ?_
          (try simp only [Int.toNat_natCast])
          rw [show ((A.length : Int) - 1) = (en : Int) by omega]
          refine WL.call en60 rfl rfl (by decide) (CallOp.mkT rfl rfl rfl rfl) (Build_C (S := en) (P := 1) (I := 0) (F := fun t => nth vs (min t en)) en79 (by omega) (by omega) (by omega) (fun t ht => .inr (by have := hb (min t en) (by omega); (try dsimp only); omega)) hF w0 _) ?_
          rintro _ R4 E4 hR4 ⟨f, fc, rfl, hff, hsub4⟩
          refine WL.subE hsub4 ?_
          obtain ⟨s, p, q, hmb, hfc, _, hp1⟩ := build_ok (F := fun t => nth vs (min t en)) (S := en) (P := 1) (I := 0) (by omega) (by omega) (by omega) (fun t ht => by (try dsimp only); rw [Nat.min_eq_right (show en ≤ t + 1 by omega), Nat.min_eq_right (show en ≤ t by omega)]; omega) (fun t => nth_up hup (by omega) (by omega)) (hb _ (by omega)).1 (fun t ht => by have := (hb (min t en) (by omega)).2; (try dsimp only); omega)
          rw [hmb] at hff ⊢
          unfold cvV
          refine WG.run tab_ok 2 rfl ?_
          first | refine WL.efN rfl rfl (Ef.store0 0 tab_ok rfl rfl rfl rfl rfl rfl rfl rfl ?_) | refine WL.efN rfl rfl (Ef.store0 1 tab_ok rfl rfl rfl rfl rfl rfl rfl rfl ?_) | refine WL.efN rfl rfl (Ef.store0 2 tab_ok rfl rfl rfl rfl rfl rfl rfl rfl ?_) | refine WL.efN rfl rfl (Ef.store0 3 tab_ok rfl rfl rfl rfl rfl rfl rfl rfl ?_) | refine WL.efN rfl rfl (Ef.store0 4 tab_ok rfl rfl rfl rfl rfl rfl rfl rfl ?_) | refine WL.efN rfl rfl (Ef.store0 5 tab_ok rfl rfl rfl rfl rfl rfl rfl rfl ?_)
          refine WG.run tab_ok 1 rfl ?_
          refine WG.nil ?_
          refine WE.nxt ?_
          refine W.ret ?_
          refine WE.retF tab_ok [_, _] rfl ⟨⟨_, _, _, rfl, rfl, rfl, ((by first | exact Rd.blk 0 rfl | exact Rd.blk 1 rfl | exact Rd.blk 2 rfl | exact Rd.blk 3 rfl | exact Rd.blk 4 rfl | exact Rd.blk 5 rfl)), rfl⟩, rfl, trivial⟩ (hR1.trans (hR2.trans (hR3.trans hR4))) ?_
          exact ⟨f, fc, _, s, p, q, rfl, hff, hfc, hp1, fun x t hxt => keeps hok.sorted (fun p hp => ⟨(hok.at hp).2.2.1, hgt p hp⟩) (fun j hj => (hb j hj).1) hup hold hxt, qS⟩

end Go.Proofs.Ytolmmfphdieilaa

/- Rule: the greatest of three. No condition. -/
namespace Go.Proofs.Ytolmmfphdieilaa.K
open Go Go.RowKit
section
variable {P : Program} {n : Nat} {env : Env} {w0 : World} {R : Ro} {E : List Ent} {o : Oper} {pc p q r : Bool}
theorem Yl.max3 {x y z : Operand} {a b c : Int} {ats : Array TypeId} (ho : o.op = .call { callee := .builtin .max, args := #[x, y, z], argTypes := ats }) (hx : ev env x = some (p, .int .i64 a)) (hy : ev env y = some (q, .int .i64 b)) (hz : ev env z = some (r, .int .i64 c))
    (hpq : pc = true → (p && (q && r)) = true) : Yl P n env w0 R E o pc (.int .i64 (if (if a < b then b else a) < c then c else (if a < b then b else a))) := by
  intro ac w hk hm hp
  obtain ⟨h1, h23⟩ := and_both (hpq hp)
  obtain ⟨h2, h3⟩ := and_both h23
  unfold execOp
  by_cases e1 : a < b
  · by_cases e2 : b < c
    · simp [ho, resolve, invoke, builtin, hk.ev hx h1, hk.ev hy h2, hk.ev hz h3, Builtin.max_, Builtin.max2, e1, e2]
    · simp [ho, resolve, invoke, builtin, hk.ev hx h1, hk.ev hy h2, hk.ev hz h3, Builtin.max_, Builtin.max2, e1, e2]
  · by_cases e2 : a < c
    · simp [ho, resolve, invoke, builtin, hk.ev hx h1, hk.ev hy h2, hk.ev hz h3, Builtin.max_, Builtin.max2, e1, e2]
    · simp [ho, resolve, invoke, builtin, hk.ev hx h1, hk.ev hy h2, hk.ev hz h3, Builtin.max_, Builtin.max2, e1, e2]
end
end Go.Proofs.Ytolmmfphdieilaa.K

/- An operation without a value, one of several that may come up. No condition. -/
namespace Go.Proofs.Ytolmmfphdieilaa.K
open Go Go.RowKit
variable {P : Program} {T : Tab} {n : Nat} {env : Env} {w0 : World} {R : Ro} {E : List Ent} {Q : Exit → Act → World → Prop}
variable {ops : List Oper} {o : Oper} {ES : List Ent} {R0 : Ro} {fuel : Nat} {listed : Array Bool}
theorem WS.effN {i : Nat} (hi : ops.toArray[i]? = some o) (hg : o.guard = none) (hd : o.dst = none)
    (h : Ef P n env w0 R E o fun _ R' E' => RLe R0 R' ∧ ES.Sublist E' ∧ WA P ops Q ES R0 w0 fuel (listed.setIfInBounds i true) n env R' E') : WS P ops Q ES R0 w0 fuel listed n env R E i := by
  intro a w hk hm
  unfold wpOp
  rw [hi]
  simp only [Region.wanted, hg, if_true]
  left
  obtain ⟨v, w', R', E', hrun, hm', hR', hsub', hn⟩ := h a w hk hm
  unfold Oper.wp
  rcases hrun with hrun | ⟨hrun, rfl⟩
  · rw [hrun]; simp only [Oper.upon, hd]; exact ⟨hm'.sub hR' hsub', hn _ _ hk hm'⟩
  · rw [hrun]; simp only [Oper.upon, hd]; exact ⟨hm'.sub hR' hsub', hn _ _ hk hm'⟩
end Go.Proofs.Ytolmmfphdieilaa.K

/- Finite curves: values, gains, validity. No condition. -/
set_option linter.unusedSimpArgs false
set_option linter.unusedVariables false
namespace Go.Proofs.Ytolmmfphdieilaa
open Go Go.RowKit Go.Proofs.Ytolmmfphdieilaa.K Go.Proofs.Ytolmmfphdieilaa.M

theorem WAt_V {R : Ro} {fa : Option Addr} {fc : Nat} {F : Nat → Int} {S P : Nat} {I : Int} (hf : FC F S P I) (ha : RS R 1 encI fa (fvals F (S + P))) {t : Nat} (ht : t ≤ 1000000000000000000) (hG : F t ≤ 4000000000000000000) : FnV Try.prog 68 [.agg #[.slice fa (fvals F (S + P)).length fc, .int .i64 (P : Int), .int .i64 I], .int .i64 (t : Int)] R (.int .i64 (F t)) := by
  have hfl := fvals_len F (S + P)
  have hP := hf.hP
  have hn := hf.hn
  have hI := hf.hI
  refine Fn.toV (fun w0 E => ?_)
  refine Fn.enter (n := 45) Try.func68 rfl rfl (Nat.le_of_ble_eq_true rfl) rfl ?_
  refine W.seq ?_
  refine W.region _ ?_
  refine WL.ef rfl rfl (by decide) (Ef.box rfl rfl (fun b2 => ?_))
  refine WG.run tab_ok 1 rfl ?_
  refine WG.nil ?_
  refine WE.nxt ?_
  refine W.seq ?_
  refine W.region _ ?_
  refine WG.run tab_ok 1 rfl ?_
  refine' WG.y rfl rfl (by decide) (Yl.load1 tab_ok rfl rfl rfl (fun _ => rfl) ?r1 rfl ?h1) ?_
  case r1 => apply Rd.add; (first | exact Rd.blk 0 rfl | exact Rd.blk 1 rfl)
  case h1 => rfl
  refine WG.run tab_ok 2 rfl ?_
  refine WG.nil ?_
  refine WE.nxt ?_
  refine W.seq ?_
  refine W.seq ?_
  refine W.region _ ?_
  refine WG.run tab_ok 3 rfl ?_
  refine WG.nil ?_
  refine WE.nxt ?_
  refine W.condD rfl (fun hc0 => ?_) (fun hc0 => ?_)
  · try dsimp only at hc0
    have htl : t < S + P := by omega
    refine W.seq ?_
    refine W.region _ ?_
    refine WG.run tab_ok 1 rfl ?_
    refine' WG.y rfl rfl (by decide) (Yl.load1 tab_ok rfl rfl rfl (fun _ => rfl) ?r2 rfl ?h2) ?_
    case r2 => apply Rd.add; (first | exact Rd.blk 0 rfl | exact Rd.blk 1 rfl)
    case h2 => rfl
    refine WG.run tab_ok 1 rfl ?_
    refine WG.y rfl rfl (by decide) (Yl.indexN tab_ok rfl rfl rfl rfl rfl rfl (fun _ => rfl) (by intro _; (try dsimp only) <;> omega) (by intro _; first | exact fun _ _ _ _ => rfl | exact RS.has (by assumption) | exact fun _ _ _ _ => (by assumption) | exact HasMem.ownD 0 rfl | exact HasMem.ownD 1 rfl)) ?_
    refine' WG.y rfl rfl (by decide) (Yl.load1 tab_ok rfl rfl rfl (fun _ => rfl) ?r3 rfl ?h3) ?_
    case r3 => (first | (apply RS.rdD; assumption; ((try dsimp only) <;> omega)) | exact Rd.slD 0 rfl (by (try dsimp only) <;> omega) | exact Rd.slD 1 rfl (by (try dsimp only) <;> omega))
    case h3 => rfl
    refine WG.run tab_ok 1 rfl ?_
    refine WG.nil ?_
    refine WE.nxt ?_
    refine W.ret ?_
    refine WE.then_ret ?_
    refine WE.subE (E' := E) qS ?_
    refine WE.retF tab_ok [_] rfl ⟨rfl, trivial⟩ (RLe.refl _) ?_
    exact ⟨by rw [fvals_nth F htl]; rfl, rfl⟩
  · try dsimp only at hc0
    obtain ⟨q, hq⟩ := Int.eq_ofNat_of_zero_le (show 0 ≤ ((t : Int) - ((fvals F (S + P)).length : Int)) / (P : Int) from Int.ediv_nonneg (by omega) (by omega))
    have hq1 : (q : Int) * P ≤ (t : Int) - (S + P : Nat) := by rw [← hfl, ← hq]; exact Int.ediv_mul_le _ (by omega)
    have hq2 : (t : Int) - (S + P : Nat) < P * (q : Int) + P := by rw [← hfl, ← hq]; exact Int.lt_mul_ediv_self_add (by omega)
    rw [Int.mul_comm] at hq2
    have hq3 : (q + 1) * P = q * P + P := by rw [Nat.add_mul]; omega
    have hq4 : ((q * P : Nat) : Int) = (q : Int) * P := by rw [Int.natCast_mul]
    have hq5 : ((q : Int) + 1) * (P : Int) = (((q + 1) * P : Nat) : Int) := by rw [Int.natCast_mul]; rfl
    have hqle : q ≤ t := Nat.le_trans (Nat.le_mul_of_pos_right q (show 0 < P by omega)) (by omega)
    have hgm := hf.hg.mul (q + 1) (t - (q + 1) * P) (by omega)
    rw [show t - (q + 1) * P + (q + 1) * P = t by omega, show ((q + 1 : Nat) : Int) = (q : Int) + 1 from rfl] at hgm
    have hF0 := hf.nonneg (t - (q + 1) * P)
    have hF1 := hf.fin (t := t - (q + 1) * P) (by omega)
    have hqI : 0 ≤ ((q : Int) + 1) * I := Int.mul_nonneg (by omega) (by omega)
    refine W.skip ?_
    refine WE.nxt ?_
    refine W.seq ?_
    refine W.region _ ?_
    refine WG.run tab_ok 2 rfl ?_
    refine WG.y rfl rfl (by decide) (Yl.sub rfl rfl rfl (fun _ => rfl) (by intro _; constructor <;> (try dsimp only) <;> omega)) ?_
    refine WG.run tab_ok 1 rfl ?_
    refine' WG.y rfl rfl (by decide) (Yl.load1 tab_ok rfl rfl rfl (fun _ => rfl) ?r4 rfl ?h4) ?_
    case r4 => apply Rd.add; (first | exact Rd.blk 0 rfl | exact Rd.blk 1 rfl)
    case h4 => rfl
    refine WG.y rfl rfl (by decide) (Yl.quo rfl rfl rfl (fun _ => rfl) (by intro _; constructor <;> (try dsimp only) <;> omega) (by intro _; omega)) ?_
    refine WG.y rfl rfl (by decide) (Yl.add rfl rfl rfl (fun _ => rfl) (by intro _; constructor <;> (try dsimp only) <;> omega)) ?_
    refine WG.run tab_ok 1 rfl ?_
    refine WG.nil ?_
    refine WE.nxt ?_
    rw [hq]
    refine W.seq ?_
    refine W.region _ ?_
    refine WG.run tab_ok 1 rfl ?_
    refine' WG.y rfl rfl (by decide) (Yl.load1 tab_ok rfl rfl rfl (fun _ => rfl) ?r5 rfl ?h5) ?_
    case r5 => apply Rd.add; (first | exact Rd.blk 0 rfl | exact Rd.blk 1 rfl)
    case h5 => rfl
    refine WG.run tab_ok 3 rfl ?_
    refine' WG.y rfl rfl (by decide) (Yl.load1 tab_ok rfl rfl rfl (fun _ => rfl) ?r6 rfl ?h6) ?_
    case r6 => apply Rd.add; (first | exact Rd.blk 0 rfl | exact Rd.blk 1 rfl)
    case h6 => rfl
    refine WG.y rfl rfl (by decide) (Yl.mul rfl rfl rfl (fun _ => rfl) (by intro _; constructor <;> (try dsimp only) <;> omega)) ?_
    refine WG.y rfl rfl (by decide) (Yl.sub rfl rfl rfl (fun _ => rfl) (by intro _; constructor <;> (try dsimp only) <;> omega)) ?_
    rw [hq5, show (t : Int) - (((q + 1) * P : Nat) : Int) = ((t - (q + 1) * P : Nat) : Int) by omega]
    refine WG.y rfl rfl (by decide) (Yl.indexN tab_ok rfl rfl rfl rfl rfl rfl (fun _ => rfl) (by intro _; (try dsimp only) <;> omega) (by intro _; first | exact fun _ _ _ _ => rfl | exact RS.has (by assumption) | exact fun _ _ _ _ => (by assumption) | exact HasMem.ownD 0 rfl | exact HasMem.ownD 1 rfl)) ?_
    refine' WG.y rfl rfl (by decide) (Yl.load1 tab_ok rfl rfl rfl (fun _ => rfl) ?r7 rfl ?h7) ?_
    case r7 => (first | (apply RS.rdD; assumption; ((try dsimp only) <;> omega)) | exact Rd.slD 0 rfl (by (try dsimp only) <;> omega) | exact Rd.slD 1 rfl (by (try dsimp only) <;> omega))
    case h7 => rfl
    refine WG.run tab_ok 1 rfl ?_
    refine WG.nil ?_
    refine WE.nxt ?_
    refine W.seq ?_
    rw [fvals_nth F (show t - (q + 1) * P < S + P by omega)]
    refine W.seq ?_
    refine W.region _ ?_
    refine WG.run tab_ok 2 rfl ?_
    refine WG.nil ?_
    refine WE.nxt ?_
    refine W.condE rfl (fun hc1 => ?_) (fun hc1 => ?_)
    · try dsimp only at hc1
      exact absurd hc1 hF1
    · try dsimp only at hc1
      refine W.skip ?_
      refine WE.nxt ?_
      refine W.seq ?_
      refine W.region _ ?_
      refine WG.run tab_ok 3 rfl ?_
      refine' WG.y rfl rfl (by decide) (Yl.load1 tab_ok rfl rfl rfl (fun _ => rfl) ?r8 rfl ?h8) ?_
      case r8 => apply Rd.add; (first | exact Rd.blk 0 rfl | exact Rd.blk 1 rfl)
      case h8 => rfl
      refine WG.y rfl rfl (by decide) (Yl.mul rfl rfl rfl (fun _ => rfl) (by intro _; constructor <;> (try dsimp only) <;> omega)) ?_
      refine WG.y rfl rfl (by decide) (Yl.add rfl rfl rfl (fun _ => rfl) (by intro _; constructor <;> (try dsimp only) <;> omega)) ?_
      refine WG.run tab_ok 1 rfl ?_
      refine WG.nil ?_
      refine WE.nxt ?_
      refine W.ret ?_
      refine WE.subE (E' := E) qS ?_
      refine WE.retF tab_ok [_] rfl ⟨rfl, trivial⟩ (RLe.refl _) ?_
      exact ⟨by rw [hgm]; rfl, rfl⟩

end Go.Proofs.Ytolmmfphdieilaa

/- Finite curves: normal forms. No condition. -/
set_option linter.unusedSimpArgs false
set_option linter.unusedVariables false
namespace Go.Proofs.Ytolmmfphdieilaa
open Go Go.RowKit Go.Proofs.Ytolmmfphdieilaa.K Go.Proofs.Ytolmmfphdieilaa.M

theorem CloneI_C {R : Ro} {fa : Option Addr} {fc : Nat} {xs : List Int} (ha : RS R 1 encI fa xs) (hx : 0 < xs.length) (hl : xs.length ≤ 100000) (w0 : World) (E : List Ent) : K.Fn Try.prog 106 [.slice fa xs.length fc] w0 R E (fun v R' E' => ∃ (a2 : Option Addr) (c2 : Nat), v = .slice a2 xs.length c2 ∧ R = R' ∧ (.sl 3 1 a2 c2 (xs.map encI) :: E).Sublist E') := by
  have hns := ha.some hx
  refine Fn.enter (n := 8) Try.func106 rfl rfl (Nat.le_of_ble_eq_true rfl) rfl ?_
  refine W.seq ?_
  refine W.region _ ?_
  refine WG.run tab_ok 1 rfl ?_
  refine WG.nil ?_
  refine WE.nxt ?_
  refine W.seq ?_
  refine W.seq ?_
  refine W.region _ ?_
  refine WG.run tab_ok 1 rfl ?_
  refine WG.y rfl rfl (by decide) (Yl.eqNilS Try.underlying22 rfl rfl rfl (fun _ => rfl)) ?_
  refine WG.nil ?_
  refine WE.nxt ?_
  refine W.cond rfl (fun hc0 => ?_) (fun hc0 => ?_)
  · try simp only [decide_eq_true_eq, decide_eq_false_iff_not, beq_iff_eq, bne_iff_ne, beq_eq_false_iff_ne, bne_eq_false_iff_eq, ne_eq, Bool.or_eq_true, Bool.or_eq_false_iff, Bool.and_eq_true, Bool.and_eq_false_imp, Bool.not_eq_true, Bool.not_eq_true', Bool.not_eq_false', Classical.not_not, Int.not_lt, Int.not_le, gt_iff_lt, ge_iff_le] at hc0
    rw [hns] at hc0; cases hc0
  · try simp only [decide_eq_true_eq, decide_eq_false_iff_not, beq_iff_eq, bne_iff_ne, beq_eq_false_iff_ne, bne_eq_false_iff_eq, ne_eq, Bool.or_eq_true, Bool.or_eq_false_iff, Bool.and_eq_true, Bool.and_eq_false_imp, Bool.not_eq_true, Bool.not_eq_true', Bool.not_eq_false', Classical.not_not, Int.not_lt, Int.not_le, gt_iff_lt, ge_iff_le] at hc0
    refine W.skip ?_
    refine WE.nxt ?_
    refine W.seq ?_
    refine W.region _ ?_
    refine WL.ef rfl rfl (by decide) (Ef.buildSliceD (enc := encI) (parts := []) [] tab_ok rfl rfl rfl rfl rfl rfl rfl rfl (by decide) (by decide) (fun a5 => ?_))
    refine WG.run tab_ok 1 rfl ?_
    refine WL.ef rfl rfl (by decide) (Ef.cloneL (enc := encI) 0 tab_ok rfl rfl rfl rfl rfl rfl rfl rfl rfl rfl ha (fun _ _ => rfl) (by dsimp only; omega) (by omega) (fun a7 c7 ha7 => ?_))
    refine WG.run tab_ok 1 rfl ?_
    refine WG.nil ?_
    refine WE.nxt ?_
    refine W.ret ?_
    refine WE.retF tab_ok [_] rfl ⟨rfl, trivial⟩ (RLe.refl _) ?_
    exact ⟨_, _, rfl, rfl, qS⟩

end Go.Proofs.Ytolmmfphdieilaa

/- Any valid curve in the program. No condition. -/
set_option linter.unusedSimpArgs false
set_option linter.unusedVariables false
namespace Go.Proofs.Ytolmmfphdieilaa
open Go Go.RowKit Go.Proofs.Ytolmmfphdieilaa.K Go.Proofs.Ytolmmfphdieilaa.M

theorem WAtG_V {R : Ro} {fa : Option Addr} {fc : Nat} {c : Cv} (hv : validB c = true) (ha : RS R 1 encI fa c.vals) {t : Nat} (ht : t ≤ 1000000000) : FnV Try.prog 68 [.agg #[.slice fa c.vals.length fc, .int .i64 c.per, .int .i64 c.inc], .int .i64 (t : Int)] R (.int .i64 (cvF c t)) := by
  refine Fn.toV (fun w0 E => ?_)
  obtain ⟨hr1, hr2, hr3, hr4, hr5, hr6, hr7, hr8⟩ := valid_range hv
  refine Fn.enter (n := 45) Try.func68 rfl rfl (Nat.le_of_ble_eq_true rfl) rfl ?_
  refine W.seq ?_
  refine W.region _ ?_
  refine WL.ef rfl rfl (by decide) (Ef.box rfl rfl (fun b2 => ?_))
  refine WG.run tab_ok 1 rfl ?_
  refine WG.nil ?_
  refine WE.nxt ?_
  refine W.seq ?_
  refine W.region _ ?_
  refine WG.run tab_ok 1 rfl ?_
  refine' WG.y rfl rfl (by decide) (Yl.load1 tab_ok rfl rfl rfl (fun _ => rfl) ?r1 rfl ?h1) ?_
  case r1 => apply Rd.add; (first | exact Rd.blk 0 rfl | exact Rd.blk 1 rfl)
  case h1 => rfl
  refine WG.run tab_ok 2 rfl ?_
  refine WG.nil ?_
  refine WE.nxt ?_
  refine W.seq ?_
  refine W.seq ?_
  refine W.region _ ?_
  refine WG.run tab_ok 3 rfl ?_
  refine WG.nil ?_
  refine WE.nxt ?_
  refine W.condD rfl (fun hc0 => ?_) (fun hc0 => ?_)
  · try dsimp only at hc0
    have htl : t < c.vals.length := by omega
    refine W.seq ?_
    refine W.region _ ?_
    refine WG.run tab_ok 1 rfl ?_
    refine' WG.y rfl rfl (by decide) (Yl.load1 tab_ok rfl rfl rfl (fun _ => rfl) ?r2 rfl ?h2) ?_
    case r2 => apply Rd.add; (first | exact Rd.blk 0 rfl | exact Rd.blk 1 rfl)
    case h2 => rfl
    refine WG.run tab_ok 1 rfl ?_
    refine WG.y rfl rfl (by decide) (Yl.indexN tab_ok rfl rfl rfl rfl rfl rfl (fun _ => rfl) (by intro _; (try dsimp only) <;> omega) (by intro _; first | exact fun _ _ _ _ => rfl | exact RS.has (by assumption) | exact fun _ _ _ _ => (by assumption) | exact HasMem.ownD 0 rfl | exact HasMem.ownD 1 rfl)) ?_
    refine' WG.y rfl rfl (by decide) (Yl.load1 tab_ok rfl rfl rfl (fun _ => rfl) ?r3 rfl ?h3) ?_
    case r3 => (first | (apply RS.rdD; assumption; ((try dsimp only) <;> omega)) | exact Rd.slD 0 rfl (by (try dsimp only) <;> omega) | exact Rd.slD 1 rfl (by (try dsimp only) <;> omega))
    case h3 => rfl
    refine WG.run tab_ok 1 rfl ?_
    refine WG.nil ?_
    refine WE.nxt ?_
    refine W.ret ?_
    refine WE.then_ret ?_
    refine WE.subE (E' := E) qS ?_
    refine WE.retF tab_ok [_] rfl ⟨rfl, trivial⟩ (RLe.refl _) ?_
    exact ⟨by rw [cvF_low htl]; rfl, rfl⟩
  · try dsimp only at hc0
    obtain ⟨P, hP⟩ := Int.eq_ofNat_of_zero_le (show 0 ≤ c.per by omega)
    have hPn : 1 ≤ P ∧ P ≤ c.vals.length := by omega
    obtain ⟨j1, j2, j3⟩ := cvJ_at hPn (show c.vals.length ≤ t by omega)
    have hcv := cvF_high hP hPn (show c.vals.length ≤ t by omega)
    generalize hq : (t - c.vals.length) / P = q at j3 hcv
    have hq1 : ((t : Int) - (c.vals.length : Int)) / c.per = (q : Int) := by rw [hP, show (t : Int) - (c.vals.length : Int) = ((t - c.vals.length : Nat) : Int) by omega, ← hq]; rfl
    have hq5 : ((q : Int) + 1) * c.per = (((q + 1) * P : Nat) : Int) := by rw [hP, Int.natCast_mul]; rfl
    have hj : (t : Int) - (((q + 1) * P : Nat) : Int) = (cvJ c.vals.length P t : Int) := by omega
    have hqt : q + 1 ≤ t := Nat.le_trans (Nat.le_mul_of_pos_right (q + 1) (show 0 < P by omega)) (by omega)
    have hve := valid_each hv _ j2
    have hqI := mulB (a := (q : Int) + 1) (b := c.inc) (A := 1000000000) (B := 1073741824) (by omega) (by omega)
    refine W.skip ?_
    refine WE.nxt ?_
    refine W.seq ?_
    refine W.region _ ?_
    refine WG.run tab_ok 2 rfl ?_
    refine WG.y rfl rfl (by decide) (Yl.sub rfl rfl rfl (fun _ => rfl) (by intro _; constructor <;> (try dsimp only) <;> omega)) ?_
    refine WG.run tab_ok 1 rfl ?_
    refine' WG.y rfl rfl (by decide) (Yl.load1 tab_ok rfl rfl rfl (fun _ => rfl) ?r4 rfl ?h4) ?_
    case r4 => apply Rd.add; (first | exact Rd.blk 0 rfl | exact Rd.blk 1 rfl)
    case h4 => rfl
    refine WG.y rfl rfl (by decide) (Yl.quo rfl rfl rfl (fun _ => rfl) (by intro _; constructor <;> (try dsimp only) <;> omega) (by intro _; omega)) ?_
    refine WG.y rfl rfl (by decide) (Yl.add rfl rfl rfl (fun _ => rfl) (by intro _; constructor <;> (try dsimp only) <;> omega)) ?_
    refine WG.run tab_ok 1 rfl ?_
    refine WG.nil ?_
    refine WE.nxt ?_
    rw [hq1]
    refine W.seq ?_
    refine W.region _ ?_
    refine WG.run tab_ok 1 rfl ?_
    refine' WG.y rfl rfl (by decide) (Yl.load1 tab_ok rfl rfl rfl (fun _ => rfl) ?r5 rfl ?h5) ?_
    case r5 => apply Rd.add; (first | exact Rd.blk 0 rfl | exact Rd.blk 1 rfl)
    case h5 => rfl
    refine WG.run tab_ok 3 rfl ?_
    refine' WG.y rfl rfl (by decide) (Yl.load1 tab_ok rfl rfl rfl (fun _ => rfl) ?r6 rfl ?h6) ?_
    case r6 => apply Rd.add; (first | exact Rd.blk 0 rfl | exact Rd.blk 1 rfl)
    case h6 => rfl
    refine WG.y rfl rfl (by decide) (Yl.mul rfl rfl rfl (fun _ => rfl) (by intro _; constructor <;> (try dsimp only) <;> omega)) ?_
    refine WG.y rfl rfl (by decide) (Yl.sub rfl rfl rfl (fun _ => rfl) (by intro _; constructor <;> (try dsimp only) <;> omega)) ?_
    rw [hq5, hj]
    refine WG.y rfl rfl (by decide) (Yl.indexN tab_ok rfl rfl rfl rfl rfl rfl (fun _ => rfl) (by intro _; (try dsimp only) <;> omega) (by intro _; first | exact fun _ _ _ _ => rfl | exact RS.has (by assumption) | exact fun _ _ _ _ => (by assumption) | exact HasMem.ownD 0 rfl | exact HasMem.ownD 1 rfl)) ?_
    refine' WG.y rfl rfl (by decide) (Yl.load1 tab_ok rfl rfl rfl (fun _ => rfl) ?r7 rfl ?h7) ?_
    case r7 => (first | (apply RS.rdD; assumption; ((try dsimp only) <;> omega)) | exact Rd.slD 0 rfl (by (try dsimp only) <;> omega) | exact Rd.slD 1 rfl (by (try dsimp only) <;> omega))
    case h7 => rfl
    refine WG.run tab_ok 1 rfl ?_
    refine WG.nil ?_
    refine WE.nxt ?_
    refine W.seq ?_
    refine W.seq ?_
    refine W.region _ ?_
    refine WG.run tab_ok 2 rfl ?_
    refine WG.nil ?_
    refine WE.nxt ?_
    refine W.condE rfl (fun hc1 => ?_) (fun hc1 => ?_)
    · try dsimp only at hc1
      have hcv : cvF c t = 4611686018427387904 := by rw [hcv, if_pos (show _ = INF from hc1)]; rfl
      refine W.seq ?_
      refine W.region _ ?_
      refine WG.run tab_ok 2 rfl ?_
      refine WG.nil ?_
      refine WE.nxt ?_
      refine W.ret ?_
      refine WE.then_ret ?_
      refine WE.subE (E' := E) qS ?_
      refine WE.retF tab_ok [_] rfl ⟨rfl, trivial⟩ (RLe.refl _) ?_
      exact ⟨by rw [hcv, hc1]; rfl, rfl⟩
    · try dsimp only at hc1
      have hvm := hve.resolve_left hc1
      unfold MAXV at hvm
      rw [if_neg (show ¬ _ = INF from hc1), show ((q + 1 : Nat) : Int) = (q : Int) + 1 from rfl] at hcv
      refine W.skip ?_
      refine WE.nxt ?_
      refine W.seq ?_
      refine W.region _ ?_
      refine WG.run tab_ok 3 rfl ?_
      refine' WG.y rfl rfl (by decide) (Yl.load1 tab_ok rfl rfl rfl (fun _ => rfl) ?r8 rfl ?h8) ?_
      case r8 => apply Rd.add; (first | exact Rd.blk 0 rfl | exact Rd.blk 1 rfl)
      case h8 => rfl
      refine WG.y rfl rfl (by decide) (Yl.mul rfl rfl rfl (fun _ => rfl) (by intro _; constructor <;> (try dsimp only) <;> omega)) ?_
      refine WG.y rfl rfl (by decide) (Yl.add rfl rfl rfl (fun _ => rfl) (by intro _; constructor <;> (try dsimp only) <;> omega)) ?_
      refine WG.run tab_ok 1 rfl ?_
      refine WG.nil ?_
      refine WE.nxt ?_
      refine W.ret ?_
      refine WE.subE (E' := E) qS ?_
      refine WE.retF tab_ok [_] rfl ⟨rfl, trivial⟩ (RLe.refl _) ?_
      exact ⟨by rw [hcv]; rfl, rfl⟩

theorem WFiniteG_V {R : Ro} {fa : Option Addr} {fc : Nat} {c : Cv} (hv : validB c = true) (ha : RS R 1 encI fa c.vals) : FnV Try.prog 57 [.agg #[.slice fa c.vals.length fc, .int .i64 c.per, .int .i64 c.inc]] R (.bool (finB c)) := by
  refine Fn.toV (fun w0 E => ?_)
  obtain ⟨hr1, hr2, hr3, hr4, hr5, hr6, hr7, hr8⟩ := valid_range hv
  have hl : ((c.vals.length : Int) - 1).toNat = c.vals.length - 1 := by omega
  refine Fn.enter (n := 12) Try.func57 rfl rfl (Nat.le_of_ble_eq_true rfl) rfl ?_
  refine W.seq ?_
  refine W.region _ ?_
  refine WL.ef rfl rfl (by decide) (Ef.box rfl rfl (fun b1 => ?_))
  refine WG.run tab_ok 1 rfl ?_
  refine WG.nil ?_
  refine WE.nxt ?_
  refine W.seq ?_
  refine W.region _ ?_
  refine WG.run tab_ok 1 rfl ?_
  refine' WG.y rfl rfl (by decide) (Yl.load1 tab_ok rfl rfl rfl (fun _ => rfl) ?r1 rfl ?h1) ?_
  case r1 => apply Rd.add; (first | exact Rd.blk 0 rfl | exact Rd.blk 1 rfl)
  case h1 => rfl
  refine WG.run tab_ok 1 rfl ?_
  refine' WG.y rfl rfl (by decide) (Yl.load1 tab_ok rfl rfl rfl (fun _ => rfl) ?r2 rfl ?h2) ?_
  case r2 => apply Rd.add; (first | exact Rd.blk 0 rfl | exact Rd.blk 1 rfl)
  case h2 => rfl
  refine WG.run tab_ok 1 rfl ?_
  refine WG.y rfl rfl (by decide) (Yl.sub rfl rfl rfl (fun _ => rfl) (by intro _; constructor <;> (try dsimp only) <;> omega)) ?_
  refine WG.y rfl rfl (by decide) (Yl.index tab_ok rfl rfl rfl rfl rfl rfl (fun _ => rfl) (by intro _; constructor <;> (try dsimp only) <;> omega) (by intro _; first | exact fun _ _ _ _ => rfl | exact RS.has (by assumption) | exact fun _ _ _ _ => (by assumption) | exact HasMem.ownD 0 rfl | exact HasMem.ownD 1 rfl)) ?_
  refine' WG.y rfl rfl (by decide) (Yl.load1 tab_ok rfl rfl rfl (fun _ => rfl) ?r3 rfl ?h3) ?_
  case r3 => (first | (apply RS.rdD; assumption; ((try dsimp only) <;> omega)) | exact Rd.slD 0 rfl (by (try dsimp only) <;> omega) | exact Rd.slD 1 rfl (by (try dsimp only) <;> omega))
  case h3 => rfl
  refine WG.run tab_ok 2 rfl ?_
  refine WG.nil ?_
  refine WE.nxt ?_
  refine W.ret ?_
  refine WE.subE (E' := E) qS ?_
  refine WE.retF tab_ok [_] rfl ⟨rfl, trivial⟩ (RLe.refl _) ?_
  exact ⟨by rw [hl]; rfl, rfl⟩

theorem WStartG_V {R : Ro} {fa : Option Addr} {fc : Nat} {c : Cv} (hv : validB c = true) (ha : RS R 1 encI fa c.vals) : FnV Try.prog 55 [.agg #[.slice fa c.vals.length fc, .int .i64 c.per, .int .i64 c.inc]] R (.int .i64 (stN c : Int)) := by
  refine Fn.toV (fun w0 E => ?_)
  obtain ⟨hr1, hr2, hr3, hr4, hr5, hr6, hr7, hr8⟩ := valid_range hv
  have hl : (c.vals.length : Int) - c.per = (stN c : Int) := by unfold stN; omega
  refine Fn.enter (n := 9) Try.func55 rfl rfl (Nat.le_of_ble_eq_true rfl) rfl ?_
  refine W.seq ?_
  refine W.region _ ?_
  refine WL.ef rfl rfl (by decide) (Ef.box rfl rfl (fun b1 => ?_))
  refine WG.run tab_ok 1 rfl ?_
  refine WG.nil ?_
  refine WE.nxt ?_
  refine W.seq ?_
  refine W.region _ ?_
  refine WG.run tab_ok 1 rfl ?_
  refine' WG.y rfl rfl (by decide) (Yl.load1 tab_ok rfl rfl rfl (fun _ => rfl) ?r1 rfl ?h1) ?_
  case r1 => apply Rd.add; (first | exact Rd.blk 0 rfl | exact Rd.blk 1 rfl)
  case h1 => rfl
  refine WG.run tab_ok 2 rfl ?_
  refine' WG.y rfl rfl (by decide) (Yl.load1 tab_ok rfl rfl rfl (fun _ => rfl) ?r2 rfl ?h2) ?_
  case r2 => apply Rd.add; (first | exact Rd.blk 0 rfl | exact Rd.blk 1 rfl)
  case h2 => rfl
  refine WG.y rfl rfl (by decide) (Yl.sub rfl rfl rfl (fun _ => rfl) (by intro _; constructor <;> (try dsimp only) <;> omega)) ?_
  refine WG.run tab_ok 1 rfl ?_
  refine WG.nil ?_
  refine WE.nxt ?_
  refine W.ret ?_
  refine WE.subE (E' := E) qS ?_
  refine WE.retF tab_ok [_] rfl ⟨rfl, trivial⟩ (RLe.refl _) ?_
  exact ⟨by rw [hl]; rfl, rfl⟩

theorem WGainG_V {R : Ro} {fa : Option Addr} {fc : Nat} {c : Cv} (hv : validB c = true) (ha : RS R 1 encI fa c.vals) {L : Nat} (hL : L ≤ 100000) : FnV Try.prog 54 [.agg #[.slice fa c.vals.length fc, .int .i64 c.per, .int .i64 c.inc], .int .i64 (L : Int)] R (.int .i64 (gainC c L)) := by
  refine Fn.toV (fun w0 E => ?_)
  obtain ⟨hr1, hr2, hr3, hr4, hr5, hr6, hr7, hr8⟩ := valid_range hv
  have hd0 : 0 ≤ (L : Int) / c.per := Int.ediv_nonneg (by omega) (by omega)
  have hd1 : (L : Int) / c.per ≤ L := Int.ediv_le_self _ (by omega)
  have hd2 := mulB (a := (L : Int) / c.per) (b := c.inc) (A := 100000) (B := 1073741824) (by omega) (by omega)
  refine Fn.enter (n := 12) Try.func54 rfl rfl (Nat.le_of_ble_eq_true rfl) rfl ?_
  refine W.seq ?_
  refine W.region _ ?_
  refine WL.ef rfl rfl (by decide) (Ef.box rfl rfl (fun b2 => ?_))
  refine WG.run tab_ok 1 rfl ?_
  refine WG.nil ?_
  refine WE.nxt ?_
  refine W.seq ?_
  refine W.regionQ _ mixed (by kernel_rfl) ?_
  refine WG.run tab_ok 2 rfl ?_
  refine' WG.y rfl rfl (by decide) (Yl.load1 tab_ok rfl rfl rfl (fun _ => rfl) ?r1 rfl ?h1) ?_
  case r1 => apply Rd.add; (first | exact Rd.blk 0 rfl | exact Rd.blk 1 rfl)
  case h1 => rfl
  refine WG.y rfl rfl (by decide) (Yl.quo rfl rfl rfl (fun _ => rfl) (by intro _; constructor <;> (try dsimp only) <;> omega) (by intro _; omega)) ?_
  refine WG.run tab_ok 1 rfl ?_
  refine' WG.y rfl rfl (by decide) (Yl.load1 tab_ok rfl rfl rfl (fun _ => rfl) ?r2 rfl ?h2) ?_
  case r2 => apply Rd.add; (first | exact Rd.blk 0 rfl | exact Rd.blk 1 rfl)
  case h2 => rfl
  refine WG.y rfl rfl (by decide) (Yl.mul rfl rfl rfl (fun _ => rfl) (by intro _; constructor <;> (try dsimp only) <;> omega)) ?_
  refine WG.run tab_ok 1 rfl ?_
  refine WG.nil ?_
  refine WE.nxt ?_
  refine W.ret ?_
  refine WE.subE (E' := E) qS ?_
  refine WE.retF tab_ok [_] rfl ⟨rfl, trivial⟩ (RLe.refl _) ?_
  exact ⟨rfl, rfl⟩

theorem CValidG_V {R : Ro} {fa : Option Addr} {fc : Nat} {c : Cv} (ha : RS R 1 encI fa c.vals) (hl : c.vals.length ≤ 100000) : FnV Try.prog 67 [.agg #[.slice fa c.vals.length fc, .int .i64 c.per, .int .i64 c.inc]] R (.bool (validB c)) := by
  refine Fn.toV (fun w0 E => ?_)
  refine Fn.enter (n := 85) Try.func67 rfl rfl (Nat.le_of_ble_eq_true rfl) rfl ?_
  refine W.seq ?_
  refine W.region _ ?_
  refine WL.ef rfl rfl (by decide) (Ef.box rfl rfl (fun b1 => ?_))
  refine WG.run tab_ok 1 rfl ?_
  refine WG.nil ?_
  refine WE.nxt ?_
  refine W.seq ?_
  refine W.region _ ?_
  refine WG.run tab_ok 1 rfl ?_
  refine' WG.y rfl rfl (by decide) (Yl.load1 tab_ok rfl rfl rfl (fun _ => rfl) ?r1 rfl ?h1) ?_
  case r1 => apply Rd.add; (first | exact Rd.blk 0 rfl | exact Rd.blk 1 rfl)
  case h1 => rfl
  refine WG.run tab_ok 2 rfl ?_
  refine WG.nil ?_
  refine WE.nxt ?_
  refine W.seq ?_
  refine W.seq ?_
  refine W.region _ ?_
  refine WG.run tab_ok 3 rfl ?_
  refine WG.y rfl rfl (by decide) (pureV_ok tab_ok rfl qE) ?_
  refine WG.y rfl rfl (by decide) (pureV_ok tab_ok rfl qE) ?_
  refine WG.y rfl rfl (by decide) (Yl.por rfl rfl rfl (fun _ => rfl) (by intro h1 h2; simp_all <;> omega)) ?_
  refine WG.run tab_ok 1 rfl ?_
  refine WG.y rfl rfl (by decide) (pureV_ok tab_ok rfl qE) ?_
  refine' WG.y rfl rfl (by decide) (Yl.loadG tab_ok rfl rfl rfl qE ?r2 rfl ?h2 ?g2) ?_
  case r2 => apply Rd.addC; (first | exact Rd.blkC 0 rfl | exact Rd.blkC 1 rfl)
  case h2 => rfl
  case g2 => first | exact fun _ => trivial | (intro hg; (try simp only [decide_eq_true_eq, decide_eq_false_iff_not, beq_iff_eq, bne_iff_ne, beq_eq_false_iff_ne, bne_eq_false_iff_eq, ne_eq, Bool.or_eq_true, Bool.or_eq_false_iff, Bool.and_eq_true, Bool.and_eq_false_imp, Bool.not_eq_true, Bool.not_eq_true', Bool.not_eq_false', Classical.not_not, Int.not_lt, Int.not_le, gt_iff_lt, ge_iff_le] at hg); (try dsimp only); omega)
  refine WG.y rfl rfl (by decide) (pureV_ok tab_ok rfl qE) ?_
  refine WG.y rfl rfl (by decide) (Yl.por rfl rfl rfl (fun _ => rfl) (by intro h1 h2; simp_all <;> omega)) ?_
  refine WG.run tab_ok 1 rfl ?_
  refine WG.y rfl rfl (by decide) (pureV_ok tab_ok rfl qE) ?_
  refine' WG.y rfl rfl (by decide) (Yl.loadG tab_ok rfl rfl rfl qE ?r3 rfl ?h3 ?g3) ?_
  case r3 => apply Rd.addC; (first | exact Rd.blkC 0 rfl | exact Rd.blkC 1 rfl)
  case h3 => rfl
  case g3 => first | exact fun _ => trivial | (intro hg; (try simp only [decide_eq_true_eq, decide_eq_false_iff_not, beq_iff_eq, bne_iff_ne, beq_eq_false_iff_ne, bne_eq_false_iff_eq, ne_eq, Bool.or_eq_true, Bool.or_eq_false_iff, Bool.and_eq_true, Bool.and_eq_false_imp, Bool.not_eq_true, Bool.not_eq_true', Bool.not_eq_false', Classical.not_not, Int.not_lt, Int.not_le, gt_iff_lt, ge_iff_le] at hg); (try dsimp only); omega)
  refine WG.y rfl rfl (by decide) (pureV_ok tab_ok rfl qE) ?_
  refine WG.y rfl rfl (by decide) (Yl.por rfl rfl rfl (fun _ => rfl) (by intro h1 h2; simp_all <;> omega)) ?_
  refine WG.run tab_ok 1 rfl ?_
  refine WG.y rfl rfl (by decide) (pureV_ok tab_ok rfl qE) ?_
  refine' WG.y rfl rfl (by decide) (Yl.loadG tab_ok rfl rfl rfl qE ?r4 rfl ?h4 ?g4) ?_
  case r4 => apply Rd.addC; (first | exact Rd.blkC 0 rfl | exact Rd.blkC 1 rfl)
  case h4 => rfl
  case g4 => first | exact fun _ => trivial | (intro hg; (try simp only [decide_eq_true_eq, decide_eq_false_iff_not, beq_iff_eq, bne_iff_ne, beq_eq_false_iff_ne, bne_eq_false_iff_eq, ne_eq, Bool.or_eq_true, Bool.or_eq_false_iff, Bool.and_eq_true, Bool.and_eq_false_imp, Bool.not_eq_true, Bool.not_eq_true', Bool.not_eq_false', Classical.not_not, Int.not_lt, Int.not_le, gt_iff_lt, ge_iff_le] at hg); (try dsimp only); omega)
  refine WG.y rfl rfl (by decide) (pureV_ok tab_ok rfl qE) ?_
  refine WG.y rfl rfl (by decide) (pureV_ok tab_ok rfl qE) ?_
  refine WG.y rfl rfl (by decide) (Yl.por rfl rfl rfl (fun _ => rfl) (by intro h1 h2; simp_all <;> omega)) ?_
  refine WG.run tab_ok 1 rfl ?_
  refine WG.y rfl rfl (by decide) (pureV_ok tab_ok rfl qE) ?_
  refine' WG.y rfl rfl (by decide) (Yl.loadG tab_ok rfl rfl rfl qE ?r5 rfl ?h5 ?g5) ?_
  case r5 => apply Rd.addC; (first | exact Rd.blkC 0 rfl | exact Rd.blkC 1 rfl)
  case h5 => rfl
  case g5 => first | exact fun _ => trivial | (intro hg; (try simp only [decide_eq_true_eq, decide_eq_false_iff_not, beq_iff_eq, bne_iff_ne, beq_eq_false_iff_ne, bne_eq_false_iff_eq, ne_eq, Bool.or_eq_true, Bool.or_eq_false_iff, Bool.and_eq_true, Bool.and_eq_false_imp, Bool.not_eq_true, Bool.not_eq_true', Bool.not_eq_false', Classical.not_not, Int.not_lt, Int.not_le, gt_iff_lt, ge_iff_le] at hg); (try dsimp only); omega)
  refine WG.y rfl rfl (by decide) (pureV_ok tab_ok rfl qE) ?_
  refine WG.y rfl rfl (by decide) (Yl.por rfl rfl rfl (fun _ => rfl) (by intro h1 h2; simp_all <;> omega)) ?_
  refine WG.run tab_ok 1 rfl ?_
  refine WG.y rfl rfl (by decide) (pureV_ok tab_ok rfl qE) ?_
  refine' WG.y rfl rfl (by decide) (Yl.loadG tab_ok rfl rfl rfl qE ?r6 rfl ?h6 ?g6) ?_
  case r6 => apply Rd.addC; (first | exact Rd.blkC 0 rfl | exact Rd.blkC 1 rfl)
  case h6 => rfl
  case g6 => first | exact fun _ => trivial | (intro hg; (try simp only [decide_eq_true_eq, decide_eq_false_iff_not, beq_iff_eq, bne_iff_ne, beq_eq_false_iff_ne, bne_eq_false_iff_eq, ne_eq, Bool.or_eq_true, Bool.or_eq_false_iff, Bool.and_eq_true, Bool.and_eq_false_imp, Bool.not_eq_true, Bool.not_eq_true', Bool.not_eq_false', Classical.not_not, Int.not_lt, Int.not_le, gt_iff_lt, ge_iff_le] at hg); (try dsimp only); omega)
  refine WG.y rfl rfl (by decide) (pureV_ok tab_ok rfl qE) ?_
  refine WG.y rfl rfl (by decide) (Yl.por rfl rfl rfl (fun _ => rfl) (by intro h1 h2; simp_all <;> omega)) ?_
  refine WG.nil ?_
  refine WE.nxt ?_
  refine W.cond rfl (fun hc0 => ?_) (fun hc0 => ?_)
  · try simp only [decide_eq_true_eq, decide_eq_false_iff_not, beq_iff_eq, bne_iff_ne, beq_eq_false_iff_ne, bne_eq_false_iff_eq, ne_eq, Bool.or_eq_true, Bool.or_eq_false_iff, Bool.and_eq_true, Bool.and_eq_false_imp, Bool.not_eq_true, Bool.not_eq_true', Bool.not_eq_false', Classical.not_not, Int.not_lt, Int.not_le, gt_iff_lt, ge_iff_le] at hc0
    have hno : validB c = false := validB_false (fun h => by obtain ⟨⟨a1, a2, a3, a4, a5, a6, a7⟩, _⟩ := h; unfold MAXV at a7; omega)
    refine W.seq ?_
    refine W.region _ ?_
    refine WG.run tab_ok 1 rfl ?_
    refine WG.nil ?_
    refine WE.nxt ?_
    refine W.ret ?_
    refine WE.then_ret ?_
    refine WE.subE (E' := E) qS ?_
    refine WE.retF tab_ok [_] rfl ⟨rfl, trivial⟩ (RLe.refl _) ?_
    exact ⟨by rw [hno]; rfl, rfl⟩
  · try simp only [decide_eq_true_eq, decide_eq_false_iff_not, beq_iff_eq, bne_iff_ne, beq_eq_false_iff_ne, bne_eq_false_iff_eq, ne_eq, Bool.or_eq_true, Bool.or_eq_false_iff, Bool.and_eq_true, Bool.and_eq_false_imp, Bool.not_eq_true, Bool.not_eq_true', Bool.not_eq_false', Classical.not_not, Int.not_lt, Int.not_le, gt_iff_lt, ge_iff_le] at hc0
    have hall : 1 ≤ c.vals.length ∧ c.vals.length ≤ 400 ∧ 1 ≤ c.per ∧ c.per ≤ 120 ∧ c.per ≤ c.vals.length ∧ 0 ≤ c.inc ∧ c.inc ≤ MAXV := by unfold MAXV; omega
    refine W.skip ?_
    refine WE.nxt ?_
    refine W.seq ?_
    refine W.region _ ?_
    refine WG.run tab_ok 1 rfl ?_
    refine WG.nil ?_
    refine WE.nxt ?_
    refine W.seq ?_
    refine W.seq ?_
    refine W.region _ ?_
    refine WG.run tab_ok 1 rfl ?_
    refine' WG.y rfl rfl (by decide) (Yl.load1 tab_ok rfl rfl rfl (fun _ => rfl) ?r7 rfl ?h7) ?_
    case r7 => apply Rd.add; (first | exact Rd.blk 0 rfl | exact Rd.blk 1 rfl)
    case h7 => rfl
    refine WG.run tab_ok 2 rfl ?_
    refine WG.nil ?_
    refine WE.nxt ?_
    refine W.block ?_
    refine W.loopK (β := Nat) (fun t => t ≤ c.vals.length ∧ ∀ i, i < t → (nth c.vals i = INF ∨ (0 ≤ nth c.vals i ∧ nth c.vals i ≤ MAXV)) ∧ (i = 0 ∨ nth c.vals (i - 1) ≤ nth c.vals i)) (fun t => [(4, true, .int .i64 (lastV c.vals t)), (45, true, .int .i64 (t : Int))]) [1, 3, 43, 44] [_, _, _, _] [] _ rfl (fun t => []) (fun t => c.vals.length - t) (0) (⟨Nat.zero_le _, fun i hi => by omega⟩) ⟨rfl, rfl, rfl, rfl, rfl, rfl, rfl⟩ qS ?_
    intro t hst
    dsimp only [zipE, setAll, List.cons_append, List.nil_append, List.set_cons_zero, List.set_cons_succ] at hst ⊢
    have hlast : 0 ≤ lastV c.vals t ∧ (lastV c.vals t = INF ∨ lastV c.vals t ≤ MAXV) := by
      unfold lastV
      by_cases h : t = 0
      · rw [if_pos h]; exact ⟨Int.le_refl _, .inr (by decide)⟩
      · rw [if_neg h]
        have := (hst.2 (t - 1) (by omega)).1
        unfold INF MAXV at this ⊢
        omega
    refine W.seq ?_
    refine W.region _ ?_
    refine WG.run tab_ok 1 rfl ?_
    refine WG.nil ?_
    refine WE.nxt ?_
    refine W.seq ?_
    refine W.condD rfl (fun hc1 => ?_) (fun hc1 => ?_)
    · try dsimp only at hc1
      have htl : t < c.vals.length := by omega
      refine W.skip ?_
      refine WE.nxt ?_
      refine W.seq ?_
      refine W.block ?_
      refine W.seq ?_
      refine W.region _ ?_
      refine WG.y rfl rfl (by decide) (Yl.indexN tab_ok rfl rfl rfl rfl rfl rfl (fun _ => rfl) (by intro _; (try dsimp only) <;> omega) (by intro _; first | exact fun _ _ _ _ => rfl | exact RS.has (by assumption) | exact fun _ _ _ _ => (by assumption) | exact HasMem.ownD 0 rfl | exact HasMem.ownD 1 rfl)) ?_
      refine' WG.y rfl rfl (by decide) (Yl.load1 tab_ok rfl rfl rfl (fun _ => rfl) ?r8 rfl ?h8) ?_
      case r8 => (first | (apply RS.rdD; assumption; ((try dsimp only) <;> omega)) | exact Rd.slD 0 rfl (by (try dsimp only) <;> omega) | exact Rd.slD 1 rfl (by (try dsimp only) <;> omega))
      case h8 => rfl
      refine WG.run tab_ok 1 rfl ?_
      refine WG.nil ?_
      refine WE.nxt ?_
      refine W.seq ?_
      refine W.seq ?_
      refine W.region _ ?_
      refine WG.run tab_ok 4 rfl ?_
      refine WG.y rfl rfl (by decide) (pureV_ok tab_ok rfl qE) ?_
      refine WG.y rfl rfl (by decide) (pureV_ok tab_ok rfl qE) ?_
      refine WG.y rfl rfl (by decide) (pureV_ok tab_ok rfl qE) ?_
      refine WG.y rfl rfl (by decide) (pureV_ok tab_ok rfl qE) ?_
      refine WG.y rfl rfl (by decide) (pureV_ok tab_ok rfl qE) ?_
      refine WG.y rfl rfl (by decide) (Yl.pand rfl rfl rfl qE (by intro h1 h2; simp_all <;> omega)) ?_
      refine WG.y rfl rfl (by decide) (Yl.por rfl rfl rfl (fun _ => rfl) (by intro h1 h2; simp_all <;> omega)) ?_
      refine WG.nil ?_
      refine WE.nxt ?_
      refine W.cond rfl (fun hc2 => ?_) (fun hc2 => ?_)
      · try simp only [decide_eq_true_eq, decide_eq_false_iff_not, beq_iff_eq, bne_iff_ne, beq_eq_false_iff_ne, bne_eq_false_iff_eq, ne_eq, Bool.or_eq_true, Bool.or_eq_false_iff, Bool.and_eq_true, Bool.and_eq_false_imp, Bool.not_eq_true, Bool.not_eq_true', Bool.not_eq_false', Classical.not_not, Int.not_lt, Int.not_le, gt_iff_lt, ge_iff_le] at hc2
        have hno : validB c = false := validB_false (fun h => by
          have h2 := h.2.1 t htl
          unfold lastV at hc2
          unfold INF MAXV at h2
          rcases hc2 with x | x
          · split at x
            · omega
            · have := h2.2.resolve_left (by omega)
              omega
          · omega)
        refine W.seq ?_
        refine W.region _ ?_
        refine WG.run tab_ok 1 rfl ?_
        refine WG.nil ?_
        refine WE.nxt ?_
        refine W.ret ?_
        refine WE.then_ret ?_
        refine WE.blk_ret ?_
        refine WE.then_ret ?_
        refine WE.then_ret ?_
        refine WE.blk_ret ?_
        refine WE.then_ret ?_
        refine WE.subE (E' := E) qS ?_
        refine WE.retF tab_ok [_] rfl ⟨rfl, trivial⟩ (RLe.refl _) ?_
        exact ⟨by rw [hno]; rfl, rfl⟩
      · try simp only [decide_eq_true_eq, decide_eq_false_iff_not, beq_iff_eq, bne_iff_ne, beq_eq_false_iff_ne, bne_eq_false_iff_eq, ne_eq, Bool.or_eq_true, Bool.or_eq_false_iff, Bool.and_eq_true, Bool.and_eq_false_imp, Bool.not_eq_true, Bool.not_eq_true', Bool.not_eq_false', Classical.not_not, Int.not_lt, Int.not_le, gt_iff_lt, ge_iff_le] at hc2
        have hy : (nth c.vals t = INF ∨ (0 ≤ nth c.vals t ∧ nth c.vals t ≤ MAXV)) ∧ (t = 0 ∨ nth c.vals (t - 1) ≤ nth c.vals t) := by
          unfold INF MAXV
          have hle : lastV c.vals t ≤ nth c.vals t := by omega
          refine ⟨by omega, ?_⟩
          unfold lastV at hle
          by_cases h : t = 0
          · exact .inl h
          · rw [if_neg h] at hle; exact .inr hle
        refine W.skip ?_
        refine WE.nxt ?_
        refine W.region _ ?_
        refine WG.run tab_ok 2 rfl ?_
        refine WG.nil ?_
        refine WE.blk _ ?_
        refine WE.nxt ?_
        refine W.region _ ?_
        refine WG.y rfl rfl (by decide) (Yl.add rfl rfl rfl (fun _ => rfl) (by intro _; constructor <;> (try dsimp only) <;> omega)) ?_
        refine WG.run tab_ok 1 rfl ?_
        refine WG.nil ?_
        refine WE.again (t + 1) (⟨by omega, fun i hi => by
          by_cases e : i = t
          · subst e; exact hy
          · exact hst.2 i (by omega)⟩) (by (try dsimp only); omega) ⟨vint (lastV_succ _ _), rfl, rfl, rfl, rfl, rfl, rfl⟩ (RLe.refl _) qS
    · try dsimp only at hc1
      obtain rfl : t = c.vals.length := by omega
      obtain ⟨P, hP⟩ := Int.eq_ofNat_of_zero_le (show 0 ≤ c.per by omega)
      have hlv : lastV c.vals c.vals.length = nth c.vals (c.vals.length - 1) := if_neg (by omega)
      have e3 : ((c.vals.length : Int) - c.per).toNat = c.vals.length - c.per.toNat := by omega
      refine W.exit ?_
      refine WE.then_exit ?_
      refine WE.then_exit ?_
      refine WE.blk_exit ?_
      refine WE.nxt ?_
      refine W.seq ?_
      refine W.seq ?_
      refine W.region _ ?_
      refine WG.run tab_ok 2 rfl ?_
      refine WG.nil ?_
      refine WE.nxt ?_
      refine W.condE rfl (fun hc3 => ?_) (fun hc3 => ?_)
      · try dsimp only at hc3
        have hif : (if nth c.vals (c.vals.length - 1) = INF then c.per = 1 ∧ c.inc = 0 else nth c.vals (c.vals.length - 1) ≤ nth c.vals (c.vals.length - c.per.toNat) + c.inc) ↔ (c.per = 1 ∧ c.inc = 0) := by rw [if_pos (by rw [← hlv]; exact hc3)]
        refine W.seq ?_
        refine W.region _ ?_
        refine WG.run tab_ok 1 rfl ?_
        refine' WG.y rfl rfl (by decide) (Yl.load1 tab_ok rfl rfl rfl (fun _ => rfl) ?r9 rfl ?h9) ?_
        case r9 => apply Rd.add; (first | exact Rd.blk 0 rfl | exact Rd.blk 1 rfl)
        case h9 => rfl
        refine WG.run tab_ok 2 rfl ?_
        refine WG.y rfl rfl (by decide) (pureV_ok tab_ok rfl qE) ?_
        refine' WG.y rfl rfl (by decide) (Yl.loadG tab_ok rfl rfl rfl qE ?r10 rfl ?h10 ?g10) ?_
        case r10 => apply Rd.addC; (first | exact Rd.blkC 0 rfl | exact Rd.blkC 1 rfl)
        case h10 => rfl
        case g10 => first | exact fun _ => trivial | (intro hg; (try simp only [decide_eq_true_eq, decide_eq_false_iff_not, beq_iff_eq, bne_iff_ne, beq_eq_false_iff_ne, bne_eq_false_iff_eq, ne_eq, Bool.or_eq_true, Bool.or_eq_false_iff, Bool.and_eq_true, Bool.and_eq_false_imp, Bool.not_eq_true, Bool.not_eq_true', Bool.not_eq_false', Classical.not_not, Int.not_lt, Int.not_le, gt_iff_lt, ge_iff_le] at hg); (try dsimp only); omega)
        refine WG.y rfl rfl (by decide) (pureV_ok tab_ok rfl qE) ?_
        refine WG.y rfl rfl (by decide) (Yl.pand rfl rfl rfl (fun _ => rfl) (by intro h1 h2; simp_all <;> omega)) ?_
        refine WG.run tab_ok 1 rfl ?_
        refine WG.nil ?_
        refine WE.nxt ?_
        refine W.ret ?_
        refine WE.then_ret ?_
        refine WE.subE (E' := E) qS ?_
        refine WE.retF tab_ok [_] rfl ⟨rfl, trivial⟩ (RLe.refl _) ?_
        refine ⟨congrArg Value.bool ?_, rfl⟩
        rw [Bool.eq_iff_iff, validB_iff, hif]
        simp only [Bool.and_eq_true, beq_iff_eq]
        exact ⟨fun h => ⟨hall, fun j hj => hst.2 j hj, h⟩, fun h => h.2.2⟩
      · try dsimp only at hc3
        have hif : (if nth c.vals (c.vals.length - 1) = INF then c.per = 1 ∧ c.inc = 0 else nth c.vals (c.vals.length - 1) ≤ nth c.vals (c.vals.length - c.per.toNat) + c.inc) ↔ (nth c.vals (c.vals.length - 1) ≤ nth c.vals (c.vals.length - c.per.toNat) + c.inc) := by rw [if_neg (by rw [← hlv]; exact hc3)]
        have hx2 := (hst.2 (c.vals.length - c.per.toNat) (by omega)).1
        rw [← e3] at hx2
        unfold INF MAXV at hx2 hall
        refine W.skip ?_
        refine WE.nxt ?_
        refine W.seq ?_
        refine W.regionQ _ mixed (by kernel_rfl) ?_
        refine WG.run tab_ok 1 rfl ?_
        refine' WG.y rfl rfl (by decide) (Yl.load1 tab_ok rfl rfl rfl (fun _ => rfl) ?r11 rfl ?h11) ?_
        case r11 => apply Rd.add; (first | exact Rd.blk 0 rfl | exact Rd.blk 1 rfl)
        case h11 => rfl
        refine WG.run tab_ok 2 rfl ?_
        refine' WG.y rfl rfl (by decide) (Yl.load1 tab_ok rfl rfl rfl (fun _ => rfl) ?r12 rfl ?h12) ?_
        case r12 => apply Rd.add; (first | exact Rd.blk 0 rfl | exact Rd.blk 1 rfl)
        case h12 => rfl
        refine WG.y rfl rfl (by decide) (Yl.sub rfl rfl rfl (fun _ => rfl) (by intro _; constructor <;> (try dsimp only) <;> omega)) ?_
        refine WG.y rfl rfl (by decide) (Yl.index tab_ok rfl rfl rfl rfl rfl rfl (fun _ => rfl) (by intro _; constructor <;> (try dsimp only) <;> omega) (by intro _; first | exact fun _ _ _ _ => rfl | exact RS.has (by assumption) | exact fun _ _ _ _ => (by assumption) | exact HasMem.ownD 0 rfl | exact HasMem.ownD 1 rfl)) ?_
        refine' WG.y rfl rfl (by decide) (Yl.load1 tab_ok rfl rfl rfl (fun _ => rfl) ?r13 rfl ?h13) ?_
        case r13 => (first | (apply RS.rdD; assumption; ((try dsimp only) <;> omega)) | exact Rd.slD 0 rfl (by (try dsimp only) <;> omega) | exact Rd.slD 1 rfl (by (try dsimp only) <;> omega))
        case h13 => rfl
        refine WG.run tab_ok 1 rfl ?_
        refine' WG.y rfl rfl (by decide) (Yl.load1 tab_ok rfl rfl rfl (fun _ => rfl) ?r14 rfl ?h14) ?_
        case r14 => apply Rd.add; (first | exact Rd.blk 0 rfl | exact Rd.blk 1 rfl)
        case h14 => rfl
        refine WG.y rfl rfl (by decide) (Yl.add rfl rfl rfl (fun _ => rfl) (by intro _; constructor <;> (try dsimp only) <;> omega)) ?_
        refine WG.run tab_ok 3 rfl ?_
        refine WG.nil ?_
        refine WE.nxt ?_
        refine W.ret ?_
        refine WE.subE (E' := E) qS ?_
        refine WE.retF tab_ok [_] rfl ⟨rfl, trivial⟩ (RLe.refl _) ?_
        refine ⟨congrArg Value.bool ?_, rfl⟩
        rw [Bool.eq_iff_iff, validB_iff, hif, e3, hlv]
        simp only [decide_eq_true_eq]
        exact ⟨fun h => ⟨by unfold MAXV; omega, fun j hj => hst.2 j hj, by omega⟩, fun h => by have := h.2.2; omega⟩

theorem NormG_V {R : Ro} {fa : Option Addr} {fc : Nat} {c : Cv} (hv : validB c = true) (ha : RS R 1 encI fa c.vals) {b1 : Nat} (h1 : R b1 = some [.slice fa c.vals.length fc, .int .i64 c.per, .int .i64 c.inc]) {t : Nat} (ht : t ≤ 1000000) : FnV Try.prog 107 [.int .i64 (t : Int), .pointer (some ⟨b1, 0, none⟩)] R (.int .i64 (cvF c t)) := by
  refine Fn.toV (fun w0 E => ?_)
  refine Fn.enter (n := 7) Try.func107 rfl rfl (Nat.le_of_ble_eq_true rfl) rfl ?_
  refine W.seq ?_
  refine W.region _ ?_
  refine WG.run tab_ok 1 rfl ?_
  refine WG.nil ?_
  refine WE.nxt ?_
  refine W.seq ?_
  refine W.region _ ?_
  refine' WG.y rfl rfl (by decide) (Yl.load1 tab_ok rfl rfl rfl (fun _ => rfl) ?r1 rfl ?h1) ?_
  case r1 => (first | exact Rd.ro (by assumption) | exact Rd.blk 0 rfl | (apply RS.rdD; assumption; ((try dsimp only) <;> omega)) | exact Rd.slD 0 rfl (by (try dsimp only) <;> omega))
  case h1 => rfl
  refine WG.run tab_ok 1 rfl ?_
  refine WG.callV en68 rfl rfl (by decide) (CallOp.mk' rfl rfl rfl rfl) (fun _ => rfl) (fun hg => WAtG_V hv ha (by omega)) ?_
  refine WG.run tab_ok 1 rfl ?_
  refine WG.nil ?_
  refine WE.nxt ?_
  refine W.ret ?_
  refine WE.subE (E' := E) qS ?_
  refine WE.retF tab_ok [_] rfl ⟨rfl, trivial⟩ (RLe.refl _) ?_
  exact ⟨rfl, rfl⟩

theorem CNormalG_C {R : Ro} {fa : Option Addr} {fc : Nat} {c : Cv} (ha : RS R 1 encI fa c.vals) (hl : c.vals.length ≤ 100000) (w0 : World) (E : List Ent) : K.Fn Try.prog 52 [.agg #[.slice fa c.vals.length fc, .int .i64 c.per, .int .i64 c.inc]] w0 R E (fun r R' E' => ∃ (f : Option Addr) (fc : Nat), r = cvV f fc (normC c) ∧ RS R' 1 encI f (normC c).1.vals ∧ E.Sublist E') := by
  refine Fn.enter (n := 22) Try.func52 rfl rfl (Nat.le_of_ble_eq_true rfl) rfl ?_
  refine W.seq ?_
  refine W.region _ ?_
  refine WL.ef rfl rfl (by decide) (Ef.box rfl rfl (fun b1 => ?_))
  refine WL.ef rfl rfl (by decide) (Ef.alloc tab_ok rfl rfl (fun b2 => ?_))
  refine WG.run tab_ok 1 rfl ?_
  refine WG.nil ?_
  refine WE.nxt ?_
  refine W.seq ?_
  refine W.seq ?_
  refine W.region _ ?_
  refine' WG.y rfl rfl (by decide) (Yl.load1 tab_ok rfl rfl rfl (fun _ => rfl) ?r1 rfl ?h1) ?_
  case r1 => (first | exact Rd.ro (by assumption) | exact Rd.blk 0 rfl | exact Rd.blk 1 rfl | exact Rd.blk 2 rfl | exact Rd.blk 3 rfl)
  case h1 => rfl
  refine WG.callV en67 rfl rfl (by decide) (CallOp.mk' rfl rfl rfl rfl) (fun _ => rfl) (fun hg => CValidG_V ha hl) ?_
  refine WG.run tab_ok 1 rfl ?_
  refine WG.nil ?_
  refine WE.nxt ?_
  refine W.cond rfl (fun hc0 => ?_) (fun hc0 => ?_)
  · try simp only [decide_eq_true_eq, decide_eq_false_iff_not, beq_iff_eq, bne_iff_ne, beq_eq_false_iff_ne, bne_eq_false_iff_eq, ne_eq, Bool.or_eq_true, Bool.or_eq_false_iff, Bool.and_eq_true, Bool.and_eq_false_imp, Bool.not_eq_true, Bool.not_eq_true', Bool.not_eq_false', Classical.not_not, Int.not_lt, Int.not_le, gt_iff_lt, ge_iff_le] at hc0
    have hn : normC c = (zcv, 1) := if_neg (by simp [hc0])
    refine W.seq ?_
    refine W.region _ ?_
    -- build
    refine WG.y rfl rfl (by decide) (Yl.build (parts := []) tab_ok rfl rfl rfl rfl (fun _ => rfl) rfl rfl) ?_
    first | refine WL.efN rfl rfl (Ef.store0 0 tab_ok rfl rfl rfl rfl rfl rfl rfl rfl ?_) | refine WL.efN rfl rfl (Ef.store0 1 tab_ok rfl rfl rfl rfl rfl rfl rfl rfl ?_) | refine WL.efN rfl rfl (Ef.store0 2 tab_ok rfl rfl rfl rfl rfl rfl rfl rfl ?_) | refine WL.efN rfl rfl (Ef.store0 3 tab_ok rfl rfl rfl rfl rfl rfl rfl rfl ?_)
    refine WG.run tab_ok 1 rfl ?_
    refine WG.nil ?_
    refine WE.nxt ?_
    refine W.ret ?_
    refine WE.then_ret ?_
    refine WE.retF tab_ok [_, _] rfl ⟨⟨_, _, _, rfl, rfl, rfl, ((by first | exact Rd.blk 0 rfl | exact Rd.blk 1 rfl | exact Rd.blk 2 rfl | exact Rd.blk 3 rfl)), rfl⟩, rfl, trivial⟩ ((by first | exact hR1.trans (hR2.trans hR4) | exact RLe.refl _)) ?_
    exact ⟨none, 0, by rw [hn]; rfl, by rw [hn]; exact rs_nil, qS⟩
  · try simp only [decide_eq_true_eq, decide_eq_false_iff_not, beq_iff_eq, bne_iff_ne, beq_eq_false_iff_ne, bne_eq_false_iff_eq, ne_eq, Bool.or_eq_true, Bool.or_eq_false_iff, Bool.and_eq_true, Bool.and_eq_false_imp, Bool.not_eq_true, Bool.not_eq_true', Bool.not_eq_false', Classical.not_not, Int.not_lt, Int.not_le, gt_iff_lt, ge_iff_le] at hc0
    have hv : validB c = true := by simpa using hc0
    have hn : normC c = (normR c, 0) := if_pos hv
    obtain ⟨hr1, hr2, hr3, hr4, hr5, hr6, hr7, hr8⟩ := valid_range hv
    have hst := stN_lt hv
    refine W.skip ?_
    refine WE.nxt ?_
    refine W.seq ?_
    refine W.region _ ?_
    refine WG.run tab_ok 1 rfl ?_
    refine' WG.y rfl rfl (by decide) (Yl.load1 tab_ok rfl rfl rfl (fun _ => rfl) ?r2 rfl ?h2) ?_
    case r2 => apply Rd.add; (first | exact Rd.ro (by assumption) | exact Rd.blk 0 rfl | exact Rd.blk 1 rfl | exact Rd.blk 2 rfl | exact Rd.blk 3 rfl)
    case h2 => rfl
    refine WL.call en106 rfl rfl (by decide) (CallOp.mkT rfl rfl rfl rfl) (CloneI_C ha (by omega) (by omega) w0 _) ?_
    rintro _ _ E2 - ⟨a2, c2, rfl, rfl, hsub⟩
    refine WL.subE hsub ?_
    refine WG.run tab_ok 1 rfl ?_
    first | refine WL.efN rfl rfl (Ef.store 0 tab_ok rfl rfl rfl rfl rfl rfl rfl rfl ?_) | refine WL.efN rfl rfl (Ef.store 1 tab_ok rfl rfl rfl rfl rfl rfl rfl rfl ?_) | refine WL.efN rfl rfl (Ef.store 2 tab_ok rfl rfl rfl rfl rfl rfl rfl rfl ?_) | refine WL.efN rfl rfl (Ef.store 3 tab_ok rfl rfl rfl rfl rfl rfl rfl rfl ?_)
    refine WG.nil ?_
    refine WE.nxt ?_
    refine W.freeze (enc := encI) (xs := c.vals) 0 rfl ?_
    intro R1 hR1 ha1
    refine W.freezeBlk 1 rfl ?_
    intro R2 hR2 hb1
    have ha2 := ha1.mono hR2
    have hperI : ((c.per.toNat : Nat) : Int) = c.per := by omega
    have hF : ∀ t : Nat, t < stN c + c.per.toNat → FnV Try.prog 107 ((#[] : Array Value).toList ++ [.int .i64 (t : Int)] ++ (#[.pointer (some ⟨b1, 0, none⟩)] : Array Value).toList) R2 (.int .i64 (cvF c t)) := fun t ht => NormG_V hv ha2 hb1 (by omega)
    refine W.seq ?_
    refine W.regionH _ (ES := []) mixed ?_
    refine WA.take 0 rfl (by kernel_rfl) (by kernel_rfl) (by kernel_rfl) rfl rfl (by decide) (Yl.makeFunc (fi := []) (ca := [.tmp 1]) rfl rfl rfl (fun _ => rfl)) qS (by first | exact RLe.refl _ | assumption) ?_
    refine' WA.take 1 rfl (by kernel_rfl) (by kernel_rfl) (by kernel_rfl) rfl rfl (by decide) (Yl.load1 tab_ok rfl rfl rfl (fun _ => rfl) ?r3 rfl ?h3) qS (by first | exact RLe.refl _ | assumption) ?_
    case r3 => (first | exact Rd.ro (by assumption) | exact Rd.blk 0 rfl | exact Rd.blk 1 rfl | exact Rd.blk 2 rfl | exact Rd.blk 3 rfl)
    case h3 => rfl
    refine WA.take 3 rfl (by kernel_rfl) (by kernel_rfl) (by kernel_rfl) rfl rfl (by decide) (pureV_ok tab_ok rfl (fun _ => rfl)) qS (by first | exact RLe.refl _ | assumption) ?_
    refine' WA.take 4 rfl (by kernel_rfl) (by kernel_rfl) (by kernel_rfl) rfl rfl (by decide) (Yl.load1 tab_ok rfl rfl rfl (fun _ => rfl) ?r4 rfl ?h4) qS (by first | exact RLe.refl _ | assumption) ?_
    case r4 => apply Rd.add; (first | exact Rd.ro (by assumption) | exact Rd.blk 0 rfl | exact Rd.blk 1 rfl | exact Rd.blk 2 rfl | exact Rd.blk 3 rfl)
    case h4 => rfl
    refine WA.take 5 rfl (by kernel_rfl) (by kernel_rfl) (by kernel_rfl) rfl rfl (by decide) (pureV_ok tab_ok rfl (fun _ => rfl)) qS (by first | exact RLe.refl _ | assumption) ?_
    refine' WA.take 6 rfl (by kernel_rfl) (by kernel_rfl) (by kernel_rfl) rfl rfl (by decide) (Yl.load1 tab_ok rfl rfl rfl (fun _ => rfl) ?r5 rfl ?h5) qS (by first | exact RLe.refl _ | assumption) ?_
    case r5 => apply Rd.add; (first | exact Rd.ro (by assumption) | exact Rd.blk 0 rfl | exact Rd.blk 1 rfl | exact Rd.blk 2 rfl | exact Rd.blk 3 rfl)
    case h5 => rfl
    refine WA.callG 2 rfl (by kernel_rfl) en55 rfl (by first | rfl | decide) rfl (by decide) (CallOp.mkT rfl rfl rfl rfl) ((WStartG_V hv ha2).toFn) ?_
    rintro _ _ _ - ⟨rfl, rfl, rfl⟩
    refine ⟨by first | exact RLe.refl _ | assumption, qS, ?_⟩
    refine WA.callG 7 rfl (by kernel_rfl) en60 rfl (by first | rfl | decide) rfl (by decide) (CallOp.mkT rfl rfl rfl rfl) (hperI ▸ Build_C (S := stN c) (P := c.per.toNat) (F := cvF c) en107 (by omega) (by omega) (by omega) (fun t ht => (cvF_bound hv t).2.imp id (fun h => ⟨(cvF_bound hv t).1, by omega⟩)) hF w0 _) ?_
    rintro _ R4 E4 hR4 ⟨f, fc', rfl, hff, hsub⟩
    refine ⟨hR4, List.nil_sublist _, ?_⟩
    refine WA.subE hsub ?_
    rw [norm_build hv] at hff ⊢
    unfold cvV
    refine WA.take 8 rfl (by kernel_rfl) (by kernel_rfl) (by kernel_rfl) rfl rfl (by decide) (pureV_ok tab_ok rfl (fun _ => rfl)) qS (by first | exact RLe.refl _ | assumption) ?_
    refine WA.take 9 rfl (by kernel_rfl) (by kernel_rfl) (by kernel_rfl) rfl rfl (by decide) (pureV_ok tab_ok rfl (fun _ => rfl)) qS (by first | exact RLe.refl _ | assumption) ?_
    first | refine WA.effN 10 rfl (by kernel_rfl) rfl rfl (Ef.store0 0 tab_ok rfl rfl rfl rfl rfl rfl rfl rfl ?_) | refine WA.effN 10 rfl (by kernel_rfl) rfl rfl (Ef.store0 1 tab_ok rfl rfl rfl rfl rfl rfl rfl rfl ?_) | refine WA.effN 10 rfl (by kernel_rfl) rfl rfl (Ef.store0 2 tab_ok rfl rfl rfl rfl rfl rfl rfl rfl ?_) | refine WA.effN 10 rfl (by kernel_rfl) rfl rfl (Ef.store0 3 tab_ok rfl rfl rfl rfl rfl rfl rfl rfl ?_)
    refine ⟨by first | exact RLe.refl _ | assumption, qS, ?_⟩
    refine WA.take 11 rfl (by kernel_rfl) (by kernel_rfl) (by kernel_rfl) rfl rfl (by decide) (pureV_ok tab_ok rfl (fun _ => rfl)) qS (by first | exact RLe.refl _ | assumption) ?_
    refine WA.done (by kernel_rfl) ?_
    refine WE.nxt ?_
    refine W.ret ?_
    refine WE.retF tab_ok [_, _] rfl ⟨⟨_, _, _, rfl, rfl, rfl, ((by first | exact Rd.blk 0 rfl | exact Rd.blk 1 rfl | exact Rd.blk 2 rfl | exact Rd.blk 3 rfl)), rfl⟩, rfl, trivial⟩ ((by first | exact hR1.trans (hR2.trans hR4) | exact RLe.refl _)) ?_
    exact ⟨f, fc', by rw [hn]; rfl, by rw [hn]; exact hff, qS⟩

theorem CNormalV_C {R : Ro} {fa : Option Addr} {fc : Nat} {c : Cv} (hv : validB c = true) (ha : RS R 1 encI fa c.vals) (w0 : World) (E : List Ent) : K.Fn Try.prog 52 [.agg #[.slice fa c.vals.length fc, .int .i64 c.per, .int .i64 c.inc]] w0 R E (fun r R' E' => ∃ (f : Option Addr) (fc : Nat), r = cvV f fc (normR c, 0) ∧ RS R' 1 encI f ((normR c, (0 : Int))).1.vals ∧ E.Sublist E') := by
  have h := CNormalG_C (fc := fc) ha (by have := valid_range hv; omega) w0 E
  rw [show normC c = (normR c, 0) from if_pos hv] at h
  exact h

end Go.Proofs.Ytolmmfphdieilaa

/- Sums of curves. No condition. -/
set_option linter.unusedSimpArgs false
set_option linter.unusedVariables false
namespace Go.Proofs.Ytolmmfphdieilaa
open Go Go.RowKit Go.Proofs.Ytolmmfphdieilaa.K Go.Proofs.Ytolmmfphdieilaa.M

end Go.Proofs.Ytolmmfphdieilaa

/- Curves raised, totals. No condition. -/
set_option linter.unusedSimpArgs false
set_option linter.unusedVariables false
namespace Go.Proofs.Ytolmmfphdieilaa
open Go Go.RowKit Go.Proofs.Ytolmmfphdieilaa.K Go.Proofs.Ytolmmfphdieilaa.M

theorem FlatF_V {R : Ro} {b1 : Nat} {k : Int} (h1 : R b1 = some [.int .i64 k]) (hk : 0 ≤ k ∧ k ≤ 1073741824) {t : Nat} (ht : t ≤ 1000000) : FnV Try.prog 108 [.int .i64 (t : Int), .pointer (some ⟨b1, 0, none⟩)] R (.int .i64 (flatF k t)) := by
  refine Fn.toV (fun w0 E => ?_)
  have hfl : k * (if (1 : Int) < (t : Int) then (1 : Int) else (t : Int)) = flatF k t := by
    unfold flatF
    by_cases h : t = 0
    · subst h; simp
    · rw [if_neg h, show (if (1 : Int) < (t : Int) then (1 : Int) else (t : Int)) = 1 by split <;> omega, Int.mul_one]
  have hfb : 0 ≤ flatF k t ∧ flatF k t ≤ 1073741824 := by unfold flatF; split <;> omega
  refine Fn.enter (n := 8) Try.func108 rfl rfl (Nat.le_of_ble_eq_true rfl) rfl ?_
  refine W.seq ?_
  refine W.region _ ?_
  refine WG.run tab_ok 1 rfl ?_
  refine WG.nil ?_
  refine WE.nxt ?_
  refine W.seq ?_
  refine W.region _ ?_
  refine' WG.y rfl rfl (by decide) (Yl.load1 tab_ok rfl rfl rfl (fun _ => rfl) ?r1 rfl ?h1) ?_
  case r1 => exact Rd.ro h1
  case h1 => rfl
  refine WG.run tab_ok 2 rfl ?_
  refine WG.y rfl rfl (by decide) (Yl.mul rfl rfl rfl (fun _ => rfl) (by intro _; constructor <;> (try dsimp only) <;> omega)) ?_
  refine WG.run tab_ok 1 rfl ?_
  refine WG.nil ?_
  refine WE.nxt ?_
  refine W.ret ?_
  refine WE.subE (E' := E) qS ?_
  refine WE.retF tab_ok [_] rfl ⟨rfl, trivial⟩ (RLe.refl _) ?_
  exact ⟨by rw [← hfl]; rfl, rfl⟩

theorem CFlat_C {R : Ro} {k : Int} (hk : 0 ≤ k ∧ k ≤ 1073741824) (w0 : World) (E : List Ent) : K.Fn Try.prog 58 [.int .i64 k] w0 R E (fun r R' E' => ∃ (f : Option Addr) (fc : Nat), r = cvV f fc (flatC k) ∧ RS R' 1 encI f (flatC k).1.vals ∧ E.Sublist E') := by
  have hd : flatC k = mbuild (flatF k) 1 1 0 := rfl
  refine Fn.enter (n := 14) Try.func58 rfl rfl (Nat.le_of_ble_eq_true rfl) rfl ?_
  refine W.seq ?_
  refine W.region _ ?_
  refine WL.ef rfl rfl (by decide) (Ef.box rfl rfl (fun b1 => ?_))
  refine WL.ef rfl rfl (by decide) (Ef.alloc tab_ok rfl rfl (fun b2 => ?_))
  refine WG.run tab_ok 1 rfl ?_
  refine WG.nil ?_
  refine WE.nxt ?_
  refine W.seq ?_
  refine W.seq ?_
  refine W.region _ ?_
  refine' WG.y rfl rfl (by decide) (Yl.load1 tab_ok rfl rfl rfl (fun _ => rfl) ?r1 rfl ?h1) ?_
  case r1 => (first | exact Rd.ro (by assumption) | exact Rd.blk 0 rfl | exact Rd.blk 1 rfl | exact Rd.blk 2 rfl | exact Rd.blk 3 rfl)
  case h1 => rfl
  refine WG.run tab_ok 1 rfl ?_
  refine WG.nil ?_
  refine WE.nxt ?_
  refine W.condD rfl (fun hc0 => ?_) (fun hc0 => ?_)
  · try dsimp only at hc0
    omega
  · try dsimp only at hc0
    refine W.skip ?_
    refine WE.nxt ?_
    refine W.seq ?_
    refine W.seq ?_
    refine W.region _ ?_
    refine' WG.y rfl rfl (by decide) (Yl.load1 tab_ok rfl rfl rfl (fun _ => rfl) ?r2 rfl ?h2) ?_
    case r2 => (first | exact Rd.ro (by assumption) | exact Rd.blk 0 rfl | exact Rd.blk 1 rfl | exact Rd.blk 2 rfl | exact Rd.blk 3 rfl)
    case h2 => rfl
    refine WG.run tab_ok 1 rfl ?_
    refine WG.nil ?_
    refine WE.nxt ?_
    refine W.condD rfl (fun hc1 => ?_) (fun hc1 => ?_)
    · try dsimp only at hc1
      omega
    · try dsimp only at hc1
      refine W.skip ?_
      refine WE.nxt ?_
      refine W.freezeBlk 1 rfl ?_
      intro R2 hR2 h1
      have hF : ∀ t : Nat, t < 1 + 1 → FnV Try.prog 108 ((#[] : Array Value).toList ++ [.int .i64 (t : Int)] ++ (#[.pointer (some ⟨b1, 0, none⟩)] : Array Value).toList) R2 (.int .i64 (flatF k t)) := fun t ht => FlatF_V h1 hk (by omega)
      refine W.seq ?_
      refine W.region _ ?_
      refine WG.run tab_ok 1 rfl ?_
      refine WL.call en60 rfl rfl (by decide) (CallOp.mkT rfl rfl rfl rfl) (Build_C (S := 1) (P := 1) (F := flatF k) en108 (by omega) (by omega) (by omega) (fun t ht => .inr (flatF_bound hk t)) hF w0 _) ?_
      rintro _ R4 E4 hR4 ⟨fr, frc, rfl, hfr, hsub⟩
      refine WL.subE hsub ?_
      rw [← hd] at hfr ⊢
      unfold cvV
      refine WG.run tab_ok 2 rfl ?_
      first | refine WL.efN rfl rfl (Ef.store0 0 tab_ok rfl rfl rfl rfl rfl rfl rfl rfl ?_) | refine WL.efN rfl rfl (Ef.store0 1 tab_ok rfl rfl rfl rfl rfl rfl rfl rfl ?_) | refine WL.efN rfl rfl (Ef.store0 2 tab_ok rfl rfl rfl rfl rfl rfl rfl rfl ?_) | refine WL.efN rfl rfl (Ef.store0 3 tab_ok rfl rfl rfl rfl rfl rfl rfl rfl ?_)
      refine WG.run tab_ok 1 rfl ?_
      refine WG.nil ?_
      refine WE.nxt ?_
      refine W.ret ?_
      refine WE.retF tab_ok [_, _] rfl ⟨⟨_, _, _, rfl, rfl, rfl, ((by first | exact Rd.blk 0 rfl | exact Rd.blk 1 rfl | exact Rd.blk 2 rfl | exact Rd.blk 3 rfl)), rfl⟩, rfl, trivial⟩ (hR2.trans hR4) ?_
      exact ⟨fr, frc, rfl, hfr, qS⟩

end Go.Proofs.Ytolmmfphdieilaa
