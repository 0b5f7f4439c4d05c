/- Queues. No condition. -/
import Derived.Test.YtgcpmmbljhnacaaTab
import Derived.Test.YtgcpmmbljhnacaaAns
import Derived.Test.YtgcpmmbljhnacaaLoop
import Derived.Test.YtgcpmmbljhnacaaT1
import Derived.Test.YtgcpmmbljhnacaaT3
import Derived.Test.YtgcpmmbljhnacaaT4
import Derived.Test.YtgcpmmbljhnacaaT7
import Derived.Test.YtgcpmmbljhnacaaT8
set_option linter.unusedSimpArgs false
set_option linter.unusedVariables false
namespace Go.Proofs.Ytgcpmmbljhnacaa
open Go Go.RowKit Go.Proofs.Ytgcpmmbljhnacaa.K Go.Proofs.Ytgcpmmbljhnacaa.M

theorem QueueA_V {R : Ro} {pa oa : Option Addr} {pc oc m : Nat} {ps : List Pkt} {rows : List Sl} {cls t : Int} (hp : RS R 3 encP pa ps) (ho : RS R 1 encS oa rows) (hr : ∀ r ∈ rows, RS R 1 encI r.a r.xs) (hs : ∀ p ∈ ps, 0 ≤ p.size ∧ p.size ≤ 1000000) (hl : ps.length ≤ 1000000) (hm : ∀ r ∈ rows, r.xs.length = m ∧ ∀ x ∈ r.xs, 0 ≤ x ∧ x ≤ 1000000000) (hr0 : 0 < rows.length) (hrl : rows.length ≤ 1000) (hml : m ≤ 1000000) {da : Option Addr} {dl dc : Nat} :
    FnV Try.prog 18 [.slice pa ps.length pc, .agg #[.slice da dl dc, .slice oa rows.length oc], .int .i64 cls, .int .i64 t] R (.tuple #[.int .i64 (queueR ps (rows.map Sl.xs) cls t).1, .int .i64 (queueR ps (rows.map Sl.xs) cls t).2]) := by
  have hlo := ho.len
  have hb : ∀ r ∈ rows, ∀ x ∈ r.xs, -1000000000000 ≤ x ∧ x ≤ 1000000000000 := fun r h x hx => by have := (hm r h).2 x hx; omega
  have hmm : ∀ l ∈ rows.map Sl.xs, l.length = m := fun l hl => by obtain ⟨r, h, rfl⟩ := List.mem_map.1 hl; exact (hm r h).1
  refine Fn.toV (fun w0 E => ?_)
  have hb1 := pbytes_bound cls t ps hs
  have hb2 := pbytes_bound cls (t + 1) ps hs
  refine Fn.enter (n := 65) Try.func18 rfl rfl (Nat.le_of_ble_eq_true rfl) rfl ?_
  refine W.seq ?_
  refine W.region _ ?_
  refine WL.ef rfl rfl (by decide) (Ef.box rfl rfl (fun b5 => ?_))
  refine WG.run tab_ok 2 rfl ?_
  refine WG.nil ?_
  refine WE.nxt ?_
  refine W.seq ?_
  refine W.seq ?_
  refine W.region _ ?_
  refine WG.run tab_ok 3 rfl ?_
  refine WG.y rfl rfl (by decide) (pureV_ok tab_ok rfl (by first | exact fun _ => rfl | exact fun h => h | (intro h; simp_all))) ?_
  refine WG.y rfl rfl (by decide) (pureV_ok tab_ok rfl (by first | exact fun _ => rfl | exact fun h => h | (intro h; simp_all))) ?_
  refine' WG.y rfl rfl (by decide) (Yl.loadG tab_ok rfl rfl rfl (by first | exact fun _ => rfl | exact fun h => h | (intro h; simp_all)) ?r1 rfl ?h1 ?g1) ?_
  case r1 => apply Rd.addC; (first | exact Rd.blkC 0 rfl | exact Rd.blkC 1 rfl)
  case h1 => rfl
  case g1 => first | exact fun _ => trivial | (intro hg; (try simp only [decide_eq_true_eq, decide_eq_false_iff_not, beq_iff_eq, bne_iff_ne, beq_eq_false_iff_ne, bne_eq_false_iff_eq, ne_eq, Bool.or_eq_true, Bool.or_eq_false_iff, Bool.and_eq_true, Bool.and_eq_false_imp, Bool.not_eq_true, Bool.not_eq_true', Bool.not_eq_false', Classical.not_not, Int.not_lt, Int.not_le, gt_iff_lt, ge_iff_le] at hg); (try dsimp only); omega)
  refine WG.y rfl rfl (by decide) (pureV_ok tab_ok rfl (by first | exact fun _ => rfl | exact fun h => h | (intro h; simp_all))) ?_
  refine WG.y rfl rfl (by decide) (pureV_ok tab_ok rfl (by first | exact fun _ => rfl | exact fun h => h | (intro h; simp_all))) ?_
  refine WG.y rfl rfl (by decide) (Yl.por rfl rfl rfl (fun _ => rfl) (by intro h1 h2; simp_all <;> omega)) ?_
  refine WG.run tab_ok 1 rfl ?_
  refine WG.y rfl rfl (by decide) (pureV_ok tab_ok rfl (by first | exact fun _ => rfl | exact fun h => h | (intro h; simp_all))) ?_
  refine WG.y rfl rfl (by decide) (pureV_ok tab_ok rfl (by first | exact fun _ => rfl | exact fun h => h | (intro h; simp_all))) ?_
  refine WG.y rfl rfl (by decide) (Yl.por rfl rfl rfl (fun _ => rfl) (by intro h1 h2; simp_all <;> omega)) ?_
  refine WG.nil ?_
  refine WE.nxt ?_
  refine W.cond rfl (fun hc0 => ?_) (fun hc0 => ?_)
  · try simp only [decide_eq_true_eq, decide_eq_false_iff_not, beq_iff_eq, bne_iff_ne, beq_eq_false_iff_ne, bne_eq_false_iff_eq, ne_eq, Bool.or_eq_true, Bool.or_eq_false_iff, Bool.and_eq_true, Bool.and_eq_false_imp, Bool.not_eq_true, Bool.not_eq_true', Bool.not_eq_false', Classical.not_not, Int.not_lt, Int.not_le, gt_iff_lt, ge_iff_le] at hc0
    refine W.seq ?_
    refine W.region _ ?_
    refine WG.run tab_ok 2 rfl ?_
    refine WG.nil ?_
    refine WE.nxt ?_
    refine W.ret ?_
    refine WE.then_ret ?_
    refine WE.subE (E' := E) (by (repeat (first | exact List.Sublist.refl _ | exact List.nil_sublist _ | apply List.Sublist.cons_cons | apply List.Sublist.cons)); done) ?_
    refine WE.retF tab_ok [_, _] rfl ⟨rfl, rfl, trivial⟩ (RLe.refl _) ?_
    have hq : queueR ps (rows.map Sl.xs) cls t = (0, 0) := by unfold queueR; rw [if_pos (by rw [List.length_map]; omega)]
    exact ⟨by rw [hq]; rfl, rfl⟩
  · try simp only [decide_eq_true_eq, decide_eq_false_iff_not, beq_iff_eq, bne_iff_ne, beq_eq_false_iff_ne, bne_eq_false_iff_eq, ne_eq, Bool.or_eq_true, Bool.or_eq_false_iff, Bool.and_eq_true, Bool.and_eq_false_imp, Bool.not_eq_true, Bool.not_eq_true', Bool.not_eq_false', Classical.not_not, Int.not_lt, Int.not_le, gt_iff_lt, ge_iff_le] at hc0
    have hne : ¬ (cls < -1 ∨ ((rows.map Sl.xs).length : Int) ≤ cls ∨ t < 0) := by rw [List.length_map]; omega
    have hq : queueR ps (rows.map Sl.xs) cls t = match qGo cls t 0 0 (rows.map Sl.xs) with | none => (0, 0) | some s => (pbytes cls t ps - s, pbytes cls (t + 1) ps - s) := by unfold queueR; rw [if_neg hne]; rfl
    refine W.skip ?_
    refine WE.nxt ?_
    refine W.seq ?_
    refine W.region _ ?_
    refine WG.run tab_ok 1 rfl ?_
    refine WG.nil ?_
    refine WE.nxt ?_
    refine W.seq ?_
    refine W.seq ?_
    refine W.region _ ?_
    refine WG.run tab_ok 1 rfl ?_
    refine' WG.y rfl rfl (by decide) (Yl.load1 tab_ok rfl rfl rfl (fun _ => rfl) ?r2 rfl ?h2) ?_
    case r2 => apply Rd.add; (first | exact Rd.blk 0 rfl | exact Rd.blk 1 rfl)
    case h2 => rfl
    refine WG.run tab_ok 2 rfl ?_
    refine WG.nil ?_
    refine WE.nxt ?_
    refine W.block ?_
    refine W.loop (β := Nat × Int) (fun (k, acc) => k ≤ rows.length ∧ qGo cls t acc k ((rows.drop k).map Sl.xs) = qGo cls t 0 0 (rows.map Sl.xs) ∧ -1000000000000 * k ≤ acc ∧ acc ≤ 1000000000000 * k) (fun (k, acc) => [(0, true, .slice pa ps.length pc), (2, true, .int .i64 cls), (3, true, .int .i64 t), (10, true, .int .i64 acc), (27, true, .slice oa rows.length oc), (28, true, .int .i64 rows.length), (29, true, .int .i64 (k : Int))]) (fun _ => R) (fun _ => E) (fun (k, acc) => rows.length - k) ((0, 0)) (⟨Nat.zero_le _, rfl, by omega, by omega⟩) ⟨rfl, rfl, rfl, rfl, rfl, rfl, rfl, rfl⟩ (RLe.refl _) (by (repeat (first | exact List.Sublist.refl _ | exact List.nil_sublist _ | apply List.Sublist.cons_cons | apply List.Sublist.cons)); done) ?_
    intro st hst
    obtain ⟨k, acc⟩ := st
    obtain ⟨hk, hv, hlo1, hhi1⟩ := hst
    dsimp only at hk hv hlo1 hhi1 ⊢
    refine W.seq ?_
    refine W.region _ ?_
    refine WG.run tab_ok 1 rfl ?_
    refine WG.nil ?_
    refine WE.nxt ?_
    refine W.seq ?_
    refine W.condD rfl (fun hc1 => ?_) (fun hc1 => ?_)
    · try dsimp only at hc1
      have hd := drop_nth (xs := rows) (k := k) (by omega)
      rw [hd, List.map_cons, qGo] at hv
      have hrk := hr _ (nth_mem (xs := rows) (k := k) (by omega))
      have hbk := hb _ (nth_mem (xs := rows) (k := k) (by omega))
      have hrkl := hrk.len
      refine W.skip ?_
      refine WE.nxt ?_
      refine W.seq ?_
      refine W.block ?_
      refine W.seq ?_
      refine W.region _ ?_
      refine WG.run tab_ok 1 rfl ?_
      refine WG.y rfl rfl (by decide) (Yl.indexN tab_ok rfl rfl rfl rfl rfl rfl (fun _ => rfl) (by intro _; (try dsimp only) <;> omega) (by intro _; first | exact fun _ _ _ _ => rfl | exact RS.has (by assumption) | exact fun _ _ _ _ => (by assumption) | exact HasMem.ownD 0 rfl | exact HasMem.ownD 1 rfl)) ?_
      refine' WG.y rfl rfl (by decide) (Yl.load1 tab_ok rfl rfl rfl (fun _ => rfl) ?r3 rfl ?h3) ?_
      case r3 => (first | (apply RS.rdD; assumption; ((try dsimp only) <;> omega)) | exact Rd.slD 0 rfl (by (try dsimp only) <;> omega) | exact Rd.slD 1 rfl (by (try dsimp only) <;> omega))
      case h3 => rfl
      refine WG.run tab_ok 2 rfl ?_
      refine WG.nil ?_
      refine WE.nxt ?_
      refine W.seq ?_
      refine W.seq ?_
      refine W.region _ ?_
      refine WG.run tab_ok 4 rfl ?_
      refine WG.y rfl rfl (by decide) (pureV_ok tab_ok rfl (by first | exact fun _ => rfl | exact fun h => h | (intro h; simp_all))) ?_
      refine WG.y rfl rfl (by decide) (pureV_ok tab_ok rfl (by first | exact fun _ => rfl | exact fun h => h | (intro h; simp_all))) ?_
      refine WG.y rfl rfl (by decide) (Yl.pand rfl rfl rfl (fun _ => rfl) (by intro h1 h2; simp_all <;> omega)) ?_
      refine WG.nil ?_
      refine WE.nxt ?_
      refine W.cond rfl (fun hc2 => ?_) (fun hc2 => ?_)
      · try simp only [decide_eq_true_eq, decide_eq_false_iff_not, beq_iff_eq, bne_iff_ne, beq_eq_false_iff_ne, bne_eq_false_iff_eq, ne_eq, Bool.or_eq_true, Bool.or_eq_false_iff, Bool.and_eq_true, Bool.and_eq_false_imp, Bool.not_eq_true, Bool.not_eq_true', Bool.not_eq_false', Classical.not_not, Int.not_lt, Int.not_le, gt_iff_lt, ge_iff_le] at hc2
        rw [if_pos hc2] at hv
        refine W.exit ?_
        refine WE.then_exit ?_
        refine WE.blk_exit ?_
        refine WE.nxt ?_
        refine W.region _ ?_
        refine WG.y rfl rfl (by decide) (Yl.add rfl rfl rfl (fun _ => rfl) (by intro _; constructor <;> (try dsimp only) <;> omega)) ?_
        refine WG.run tab_ok 1 rfl ?_
        refine WG.nil ?_
        refine WE.again ((k + 1, acc)) (⟨by dsimp only; omega, hv, by dsimp only; omega, by dsimp only; omega⟩) (by (try dsimp only); omega) ⟨rfl, rfl, rfl, rfl, rfl, rfl, rfl, rfl⟩ (RLe.refl _) (by (repeat (first | exact List.Sublist.refl _ | exact List.nil_sublist _ | apply List.Sublist.cons_cons | apply List.Sublist.cons)); done)
      · try simp only [decide_eq_true_eq, decide_eq_false_iff_not, beq_iff_eq, bne_iff_ne, beq_eq_false_iff_ne, bne_eq_false_iff_eq, ne_eq, Bool.or_eq_true, Bool.or_eq_false_iff, Bool.and_eq_true, Bool.and_eq_false_imp, Bool.not_eq_true, Bool.not_eq_true', Bool.not_eq_false', Classical.not_not, Int.not_lt, Int.not_le, gt_iff_lt, ge_iff_le] at hc2
        rw [if_neg (show ¬ ((k : Int) ≠ cls ∧ cls ≠ -1) by omega)] at hv
        refine W.skip ?_
        refine WE.nxt ?_
        refine W.seq ?_
        refine W.seq ?_
        refine W.region _ ?_
        refine WG.run tab_ok 4 rfl ?_
        refine WG.nil ?_
        refine WE.nxt ?_
        refine W.condD rfl (fun hc3 => ?_) (fun hc3 => ?_)
        · try dsimp only at hc3
          rw [if_pos (by omega)] at hv
          refine W.seq ?_
          refine W.region _ ?_
          refine WG.run tab_ok 2 rfl ?_
          refine WG.nil ?_
          refine WE.nxt ?_
          refine W.ret ?_
          refine WE.then_ret ?_
          refine WE.blk_ret ?_
          refine WE.then_ret ?_
          refine WE.then_ret ?_
          refine WE.blk_ret ?_
          refine WE.then_ret ?_
          refine WE.subE (E' := E) (by (repeat (first | exact List.Sublist.refl _ | exact List.nil_sublist _ | apply List.Sublist.cons_cons | apply List.Sublist.cons)); done) ?_
          refine WE.retF tab_ok [_, _] rfl ⟨rfl, rfl, trivial⟩ (RLe.refl _) ?_
          exact ⟨by rw [hq, ← hv]; rfl, rfl⟩
        · try dsimp only at hc3
          rw [if_neg (by omega)] at hv
          have hx := hbk _ (nth_mem (xs := (nth rows k).xs) (k := t.toNat) (by omega))
          refine W.skip ?_
          refine WE.nxt ?_
          refine W.region _ ?_
          refine WG.run tab_ok 3 rfl ?_
          refine WG.y rfl rfl (by decide) (Yl.index tab_ok rfl rfl rfl rfl rfl rfl (fun _ => rfl) (by intro _; constructor <;> (try dsimp only) <;> omega) (by intro _; first | exact fun _ _ _ _ => rfl | exact RS.has (by assumption) | exact fun _ _ _ _ => (by assumption) | exact HasMem.ownD 0 rfl | exact HasMem.ownD 1 rfl)) ?_
          refine' WG.y rfl rfl (by decide) (Yl.load1 tab_ok rfl rfl rfl (fun _ => rfl) ?r4 rfl ?h4) ?_
          case r4 => (first | (apply RS.rdD; assumption; ((try dsimp only) <;> omega)) | exact Rd.slD 0 rfl (by (try dsimp only) <;> omega) | exact Rd.slD 1 rfl (by (try dsimp only) <;> omega))
          case h4 => rfl
          refine WG.y rfl rfl (by decide) (Yl.add rfl rfl rfl (fun _ => rfl) (by intro _; constructor <;> (try dsimp only) <;> omega)) ?_
          refine WG.run tab_ok 1 rfl ?_
          refine WG.nil ?_
          refine WE.blk _ ?_
          refine WE.nxt ?_
          refine W.region _ ?_
          refine WG.y rfl rfl (by decide) (Yl.add rfl rfl rfl (fun _ => rfl) (by intro _; constructor <;> (try dsimp only) <;> omega)) ?_
          refine WG.run tab_ok 1 rfl ?_
          refine WG.nil ?_
          refine WE.again ((k + 1, acc + nth (nth rows k).xs t.toNat)) (⟨by dsimp only; omega, hv, by dsimp only; omega, by dsimp only; omega⟩) (by (try dsimp only); omega) ⟨rfl, rfl, rfl, rfl, rfl, rfl, rfl, rfl⟩ (RLe.refl _) (by (repeat (first | exact List.Sublist.refl _ | exact List.nil_sublist _ | apply List.Sublist.cons_cons | apply List.Sublist.cons)); done)
    · try dsimp only at hc1
      obtain rfl : k = rows.length := by omega
      rw [List.drop_length, List.map_nil, qGo] at hv
      have ht : t < m := by
        apply Classical.byContradiction
        intro hh
        have := qGo_none (cls := cls) (t := t) (by omega) (rows.map Sl.xs) 0 0 hmm (by
          rw [List.length_map]
          by_cases h : cls = -1
          · exact .inl ⟨h, List.ne_nil_of_length_pos (by simpa using hr0)⟩
          · right; omega)
        rw [this] at hv; cases hv
      refine W.exit ?_
      refine WE.then_exit ?_
      refine WE.then_exit ?_
      refine WE.blk_exit ?_
      refine WE.nxt ?_
      refine W.seq ?_
      refine W.region _ ?_
      refine WG.run tab_ok 3 rfl ?_
      refine WG.callV en48 rfl rfl (by decide) (CallOp.mk' rfl rfl rfl rfl) (fun _ => rfl) (fun hg => Bytes_V hp hs hl) ?_
      refine WG.run tab_ok 1 rfl ?_
      refine WG.y rfl rfl (by decide) (Yl.sub rfl rfl rfl (fun _ => rfl) (by intro _; constructor <;> (try dsimp only) <;> omega)) ?_
      refine WG.run tab_ok 3 rfl ?_
      refine WG.y rfl rfl (by decide) (Yl.add rfl rfl rfl (fun _ => rfl) (by intro _; constructor <;> (try dsimp only) <;> omega)) ?_
      refine WG.callV en48 rfl rfl (by decide) (CallOp.mk' rfl rfl rfl rfl) (fun _ => rfl) (fun hg => Bytes_V hp hs hl) ?_
      refine WG.run tab_ok 1 rfl ?_
      refine WG.y rfl rfl (by decide) (Yl.sub rfl rfl rfl (fun _ => rfl) (by intro _; constructor <;> (try dsimp only) <;> omega)) ?_
      refine WG.run tab_ok 2 rfl ?_
      refine WG.nil ?_
      refine WE.nxt ?_
      refine W.ret ?_
      refine WE.subE (E' := E) (by (repeat (first | exact List.Sublist.refl _ | exact List.nil_sublist _ | apply List.Sublist.cons_cons | apply List.Sublist.cons)); done) ?_
      refine WE.retF tab_ok [_, _] rfl ⟨rfl, rfl, trivial⟩ (RLe.refl _) ?_
      exact ⟨by rw [hq, ← hv]; rfl, rfl⟩

end Go.Proofs.Ytgcpmmbljhnacaa
