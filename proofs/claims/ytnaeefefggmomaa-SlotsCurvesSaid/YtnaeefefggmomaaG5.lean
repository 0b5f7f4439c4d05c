/- Rules and walks, joined from 13 texts: the first of them says: Sizes of a trace. No condition. -/
import Derived.Test.YtnaeefefggmomaaG4
import Derived.WalkSpells
/- Sizes of a trace. No condition. -/
set_option linter.unusedSimpArgs false
set_option linter.unusedVariables false
namespace Go.Proofs.Ytnaeefefggmomaa
open Go Go.RowKit Go.Proofs.Ytnaeefefggmomaa.K Go.Proofs.Ytnaeefefggmomaa.M

def szPre (z : List Sz) (p : Pkt) : List Sz := if (nth z p.flow.toNat).most = 0 then z.set p.flow.toNat ⟨p.size, p.size⟩ else z
def szPut (z1 : List Sz) (p : Pkt) : List Sz := z1.set p.flow.toNat ⟨(if p.size < (nth z1 p.flow.toNat).least then p.size else (nth z1 p.flow.toNat).least), (if (nth z1 p.flow.toNat).most < p.size then p.size else (nth z1 p.flow.toNat).most)⟩
def szAdd (n : Nat) (z : List Sz) (p : Pkt) : List Sz := if p.flow < 0 ∨ p.flow ≥ (n : Int) then z else szPut (szPre z p) p
def sizesL (n : Nat) (ps : List Pkt) : List Sz := ps.foldl (szAdd n) (List.replicate n ⟨0, 0⟩)
theorem szPre_len (z : List Sz) (p : Pkt) : (szPre z p).length = z.length := by unfold szPre; split <;> simp
theorem szPut_len (z : List Sz) (p : Pkt) : (szPut z p).length = z.length := by simp [szPut]
theorem szAdd_len (n : Nat) (z : List Sz) (p : Pkt) : (szAdd n z p).length = z.length := by unfold szAdd; split; rfl; rw [szPut_len, szPre_len]

theorem Sizes_C {R : Ro} {pa : Option Addr} {pc pl : Nat} {ps : List Pkt} (hp : RS R 3 encP pa ps) (hpl : ps.length = pl) {n : Nat} (hn : n ≤ 1000) (w0 : World) (E : List Ent) :
    K.Fn Try.prog 28 [.slice pa pl pc, .int .i64 (n : Int)] w0 R E (fun v R' E' => ∃ (a2 : Option Addr) (c2 : Nat), v = .slice a2 (sizesL n ps).length c2 ∧ R = R' ∧ (.sl 49 2 a2 c2 ((sizesL n ps).map encZ) :: E).Sublist E') := by
  subst hpl
  have hla := hp.len
  have hen : ((n : Int)).toNat = n := by omega
  refine Fn.enter (n := 64) Try.func28 rfl rfl (Nat.le_of_ble_eq_true rfl) rfl ?_
  refine W.seq ?_
  refine W.region _ ?_
  refine WG.run tab_ok 1 rfl ?_
  refine WG.nil ?_
  refine WE.nxt ?_
  refine W.seq ?_
  refine W.region _ ?_
  refine WG.run tab_ok 1 rfl ?_
  refine WL.ef rfl rfl (by decide) (Ef.makeSliceD (enc := encZ) ⟨0, 0⟩ tab_ok rfl rfl rfl rfl rfl rfl (by (try dsimp only) <;> omega) (by (try dsimp only) <;> omega) (by (try dsimp only) <;> omega) (by (try dsimp only) <;> omega) (by decide) rfl rfl (fun a10 => ?_))
  refine WG.run tab_ok 1 rfl ?_
  refine WG.nil ?_
  refine WE.nxt ?_
  refine W.seq ?_
  refine W.seq ?_
  refine W.region _ ?_
  refine WG.run tab_ok 3 rfl ?_
  refine WG.nil ?_
  refine WE.nxt ?_
  refine W.block ?_
  refine W.loopK (β := Nat × List Sz) (fun (i, z) => i ≤ ps.length ∧ z = (ps.take i).foldl (szAdd n) (List.replicate n (⟨0, 0⟩ : Sz)) ∧ z.length = n) (fun (i, z) => [(13, true, .int .i64 (i : Int))]) [1, 5, 11, 12] [_, _, _, _] [] _ rfl (fun (i, z) => [(0, .sl 49 2 (some ⟨a10, 0, none⟩) n (z.map encZ))]) (fun (i, z) => ps.length - i) ((0, (List.replicate n (⟨0, 0⟩ : Sz)))) (⟨Nat.zero_le _, rfl, by simp⟩) ⟨rfl, rfl, rfl, rfl, rfl, rfl⟩ (by (repeat (first | exact List.Sublist.refl _ | exact List.nil_sublist _ | apply List.Sublist.cons_cons | apply List.Sublist.cons)); done) ?_
  intro st hst
  obtain ⟨i, z⟩ := st
  dsimp only [zipE, setAll, List.cons_append, List.nil_append, List.set_cons_zero, List.set_cons_succ] at hst ⊢
  obtain ⟨hi, hz, hzl⟩ := hst
  refine W.seq ?_
  refine W.region _ ?_
  refine WG.run tab_ok 1 rfl ?_
  refine WG.nil ?_
  refine WE.nxt ?_
  refine W.seq ?_
  refine W.condD rfl (fun hc0 => ?_) (fun hc0 => ?_)
  · try dsimp only at hc0
    have hil : i < ps.length := by omega
    have hnx : szAdd n z (nth ps i) = (ps.take (i + 1)).foldl (szAdd n) (List.replicate n (⟨0, 0⟩ : Sz)) := by rw [take_nth hil, List.foldl_append, ← hz]; rfl
    have hnl : (szAdd n z (nth ps i)).length = n := by rw [szAdd_len]; exact hzl
    refine W.skip ?_
    refine WE.nxt ?_
    refine W.seq ?_
    refine W.block ?_
    refine W.seq ?_
    refine W.region _ ?_
    refine WG.y rfl rfl (by decide) (Yl.indexN tab_ok rfl rfl rfl rfl rfl rfl (fun _ => rfl) (by intro _; (try dsimp only) <;> omega) (by intro _; first | exact fun _ _ _ _ => rfl | exact RS.has (by assumption) | exact fun _ _ _ _ => (by assumption) | exact HasMem.ownD 0 rfl | exact HasMem.ownD 1 rfl | exact HasMem.ownD 2 rfl | exact HasMem.ownD 3 rfl)) ?_
    refine' WG.y rfl rfl (by decide) (Yl.load1 tab_ok rfl rfl rfl (fun _ => rfl) ?r1 rfl ?h1) ?_
    case r1 => (first | (apply RS.rdD; assumption; ((try dsimp only) <;> omega)) | exact Rd.slD 0 rfl (by (try dsimp only) <;> omega) | exact Rd.slD 1 rfl (by (try dsimp only) <;> omega) | exact Rd.slD 2 rfl (by (try dsimp only) <;> omega) | exact Rd.slD 3 rfl (by (try dsimp only) <;> omega))
    case h1 => rfl
    refine WL.ef rfl rfl (by decide) (Ef.alloc tab_ok rfl rfl (fun b7 => ?_))
    first | refine WL.efN rfl rfl (Ef.store0 0 tab_ok rfl rfl rfl rfl rfl rfl rfl rfl ?_) | refine WL.efN rfl rfl (Ef.store0 1 tab_ok rfl rfl rfl rfl rfl rfl rfl rfl ?_) | refine WL.efN rfl rfl (Ef.store0 2 tab_ok rfl rfl rfl rfl rfl rfl rfl rfl ?_) | refine WL.efN rfl rfl (Ef.store0 3 tab_ok rfl rfl rfl rfl rfl rfl rfl rfl ?_)
    refine WG.nil ?_
    refine WE.nxt ?_
    refine W.seq ?_
    refine W.seq ?_
    refine W.region _ ?_
    refine WG.run tab_ok 1 rfl ?_
    refine' WG.y rfl rfl (by decide) (Yl.load1 tab_ok rfl rfl rfl (fun _ => rfl) ?r2 rfl ?h2) ?_
    case r2 => apply Rd.add; (first | exact Rd.blk 0 rfl | exact Rd.blk 1 rfl | exact Rd.blk 2 rfl | exact Rd.blk 3 rfl)
    case h2 => rfl
    refine WG.run tab_ok 2 rfl ?_
    refine WG.y rfl rfl (by decide) (pureV_ok tab_ok rfl (by first | exact fun _ => rfl | exact fun h => h | (intro h; simp_all))) ?_
    refine' WG.y rfl rfl (by decide) (Yl.loadG tab_ok rfl rfl rfl (by first | exact fun _ => rfl | exact fun h => h | (intro h; simp_all)) ?r3 rfl ?h3 ?g3) ?_
    case r3 => apply Rd.addC; (first | exact Rd.blkC 0 rfl | exact Rd.blkC 1 rfl | exact Rd.blkC 2 rfl | exact Rd.blkC 3 rfl)
    case h3 => rfl
    case g3 => first | exact fun _ => trivial | (intro hg; (try simp only [decide_eq_true_eq, decide_eq_false_iff_not, beq_iff_eq, bne_iff_ne, beq_eq_false_iff_ne, bne_eq_false_iff_eq, ne_eq, Bool.or_eq_true, Bool.or_eq_false_iff, Bool.and_eq_true, Bool.and_eq_false_imp, Bool.not_eq_true, Bool.not_eq_true', Bool.not_eq_false', Classical.not_not, Int.not_lt, Int.not_le, gt_iff_lt, ge_iff_le] at hg); (try dsimp only); omega)
    refine WG.y rfl rfl (by decide) (pureV_ok tab_ok rfl (by first | exact fun _ => rfl | exact fun h => h | (intro h; simp_all))) ?_
    refine WG.y rfl rfl (by decide) (pureV_ok tab_ok rfl (by first | exact fun _ => rfl | exact fun h => h | (intro h; simp_all))) ?_
    refine WG.y rfl rfl (by decide) (Yl.por rfl rfl rfl (fun _ => rfl) (by intro h1 h2; simp_all <;> omega)) ?_
    refine WG.nil ?_
    refine WE.nxt ?_
    refine W.cond rfl (fun hc1 => ?_) (fun hc1 => ?_)
    · try simp only [decide_eq_true_eq, decide_eq_false_iff_not, beq_iff_eq, bne_iff_ne, beq_eq_false_iff_ne, bne_eq_false_iff_eq, ne_eq, Bool.or_eq_true, Bool.or_eq_false_iff, Bool.and_eq_true, Bool.and_eq_false_imp, Bool.not_eq_true, Bool.not_eq_true', Bool.not_eq_false', Classical.not_not, Int.not_lt, Int.not_le, gt_iff_lt, ge_iff_le] at hc1
      have hsame : szAdd n z (nth ps i) = z := if_pos hc1
      refine W.exit ?_
      refine WE.then_exit ?_
      refine WE.blk_exit ?_
      refine WE.nxt ?_
      refine W.region _ ?_
      refine WG.y rfl rfl (by decide) (Yl.add rfl rfl rfl (fun _ => rfl) (by intro _; constructor <;> (try dsimp only) <;> omega)) ?_
      refine WG.run tab_ok 1 rfl ?_
      refine WG.nil ?_
      refine WE.again ((i + 1, szAdd n z (nth ps i))) (⟨by dsimp only; omega, hnx, hnl⟩) (by (try dsimp only); omega) ⟨rfl, rfl, rfl, rfl, rfl, rfl⟩ (RLe.refl _) (by dsimp only [setAll, List.set_cons_zero, List.set_cons_succ]; first | (rw [hsame]; exact (by (repeat (first | exact List.Sublist.refl _ | exact List.nil_sublist _ | apply List.Sublist.cons_cons | apply List.Sublist.cons)); done)) | (rw [← hfin]; exact (by (repeat (first | exact List.Sublist.refl _ | exact List.nil_sublist _ | apply List.Sublist.cons_cons | apply List.Sublist.cons)); done)))
    · try simp only [decide_eq_true_eq, decide_eq_false_iff_not, beq_iff_eq, bne_iff_ne, beq_eq_false_iff_ne, bne_eq_false_iff_eq, ne_eq, Bool.or_eq_true, Bool.or_eq_false_iff, Bool.and_eq_true, Bool.and_eq_false_imp, Bool.not_eq_true, Bool.not_eq_true', Bool.not_eq_false', Classical.not_not, Int.not_lt, Int.not_le, gt_iff_lt, ge_iff_le] at hc1
      have hadd : szAdd n z (nth ps i) = szPut (szPre z (nth ps i)) (nth ps i) := if_neg (by omega)
      have hf0 : 0 ≤ (nth ps i).flow ∧ (nth ps i).flow < n := by omega
      have hfz : (nth ps i).flow.toNat < z.length := by omega
      refine W.skip ?_
      refine WE.nxt ?_
      refine W.seq ?_
      refine W.region _ ?_
      refine WG.run tab_ok 2 rfl ?_
      refine' WG.y rfl rfl (by decide) (Yl.load1 tab_ok rfl rfl rfl (fun _ => rfl) ?r4 rfl ?h4) ?_
      case r4 => apply Rd.add; (first | exact Rd.blk 0 rfl | exact Rd.blk 1 rfl | exact Rd.blk 2 rfl | exact Rd.blk 3 rfl)
      case h4 => rfl
      refine WG.y rfl rfl (by decide) (Yl.index tab_ok rfl rfl rfl rfl rfl rfl (fun _ => rfl) (by intro _; constructor <;> (try dsimp only) <;> omega) (by intro _; first | exact fun _ _ _ _ => rfl | exact RS.has (by assumption) | exact fun _ _ _ _ => (by assumption) | exact HasMem.ownD 0 rfl | exact HasMem.ownD 1 rfl | exact HasMem.ownD 2 rfl | exact HasMem.ownD 3 rfl)) ?_
      refine WG.run tab_ok 1 rfl ?_
      refine WG.nil ?_
      refine WE.nxt ?_
      refine W.seqCut (β := List Sz) (fun z1 => z1 = szPre z (nth ps i)) (fun z1 => [(1, true, .int .i64 (n : Int)), (5, true, .slice (some ⟨a10, 0, none⟩) n n), (7, true, .pointer (some ⟨b7, 0, none⟩)), (8, true, .pointer (some (eaddr (some ⟨a10, 0, none⟩) 2 (nth ps i).flow.toNat))), (11, true, .slice pa ps.length pc), (12, true, .int .i64 (ps.length : Int)), (13, true, .int .i64 (i : Int))]) (fun _ => R) (fun z1 => .blk b7 (encP (nth ps i)) :: .sl 49 2 (some ⟨a10, 0, none⟩) n (z1.map encZ) :: E) ?_ ?_
      ·
        intro z1 hst
        have hst : z1 = szPre z (nth ps i) := hst
        have hl1 : z1.length = n := by rw [hst, szPre_len]; exact hzl
        have hns : nth (z1.set (nth ps i).flow.toNat (⟨(if (nth ps i).size < (nth z1 (nth ps i).flow.toNat).least then (nth ps i).size else (nth z1 (nth ps i).flow.toNat).least), (nth z1 (nth ps i).flow.toNat).most⟩ : Sz)) (nth ps i).flow.toNat = (⟨(if (nth ps i).size < (nth z1 (nth ps i).flow.toNat).least then (nth ps i).size else (nth z1 (nth ps i).flow.toNat).least), (nth z1 (nth ps i).flow.toNat).most⟩ : Sz) := nth_set_self (by omega)
        have hfin : (z1.set (nth ps i).flow.toNat (⟨(if (nth ps i).size < (nth z1 (nth ps i).flow.toNat).least then (nth ps i).size else (nth z1 (nth ps i).flow.toNat).least), (nth z1 (nth ps i).flow.toNat).most⟩ : Sz)).set (nth ps i).flow.toNat (⟨(if (nth ps i).size < (nth z1 (nth ps i).flow.toNat).least then (nth ps i).size else (nth z1 (nth ps i).flow.toNat).least), (if (nth z1 (nth ps i).flow.toNat).most < (nth ps i).size then (nth ps i).size else (nth z1 (nth ps i).flow.toNat).most)⟩ : Sz) = szAdd n z (nth ps i) := by rw [hadd, ← hst, List.set_set]; rfl
        refine W.regionH _ (ES := [.blk b7 (encP (nth ps i))]) mixed ?_
        refine WA.take 0 rfl (by kernel_rfl) (by kernel_rfl) (by kernel_rfl) rfl rfl (by decide) (pureV_ok tab_ok rfl (fun _ => rfl)) (by (repeat (first | exact List.Sublist.refl _ | exact List.nil_sublist _ | apply List.Sublist.cons_cons | apply List.Sublist.cons)); done) (by first | exact RLe.refl _ | assumption) ?_
        refine WA.take 1 rfl (by kernel_rfl) (by kernel_rfl) (by kernel_rfl) rfl rfl (by decide) (pureV_ok tab_ok rfl (fun _ => rfl)) (by (repeat (first | exact List.Sublist.refl _ | exact List.nil_sublist _ | apply List.Sublist.cons_cons | apply List.Sublist.cons)); done) (by first | exact RLe.refl _ | assumption) ?_
        refine WA.take 2 rfl (by kernel_rfl) (by kernel_rfl) (by kernel_rfl) rfl rfl (by decide) (pureV_ok tab_ok rfl (fun _ => rfl)) (by (repeat (first | exact List.Sublist.refl _ | exact List.nil_sublist _ | apply List.Sublist.cons_cons | apply List.Sublist.cons)); done) (by first | exact RLe.refl _ | assumption) ?_
        refine WA.take 3 rfl (by kernel_rfl) (by kernel_rfl) (by kernel_rfl) rfl rfl (by decide) (pureV_ok tab_ok rfl (fun _ => rfl)) (by (repeat (first | exact List.Sublist.refl _ | exact List.nil_sublist _ | apply List.Sublist.cons_cons | apply List.Sublist.cons)); done) (by first | exact RLe.refl _ | assumption) ?_
        refine WA.take 4 rfl (by kernel_rfl) (by kernel_rfl) (by kernel_rfl) rfl rfl (by decide) (pureV_ok tab_ok rfl (fun _ => rfl)) (by (repeat (first | exact List.Sublist.refl _ | exact List.nil_sublist _ | apply List.Sublist.cons_cons | apply List.Sublist.cons)); done) (by first | exact RLe.refl _ | assumption) ?_
        refine WA.take 6 rfl (by kernel_rfl) (by kernel_rfl) (by kernel_rfl) rfl rfl (by decide) (pureV_ok tab_ok rfl (fun _ => rfl)) (by (repeat (first | exact List.Sublist.refl _ | exact List.nil_sublist _ | apply List.Sublist.cons_cons | apply List.Sublist.cons)); done) (by first | exact RLe.refl _ | assumption) ?_
        refine' WA.take 7 rfl (by kernel_rfl) (by kernel_rfl) (by kernel_rfl) rfl rfl (by decide) (Yl.load1 tab_ok rfl rfl rfl (fun _ => rfl) ?r5 rfl ?h5) (by (repeat (first | exact List.Sublist.refl _ | exact List.nil_sublist _ | apply List.Sublist.cons_cons | apply List.Sublist.cons)); done) (by first | exact RLe.refl _ | assumption) ?_
        case r5 => apply Rd.add; (first | exact Rd.blk 0 rfl | exact Rd.blk 1 rfl | exact Rd.blk 2 rfl | exact Rd.blk 3 rfl)
        case h5 => rfl
        refine WA.take 9 rfl (by kernel_rfl) (by kernel_rfl) (by kernel_rfl) rfl rfl (by decide) (pureV_ok tab_ok rfl (fun _ => rfl)) (by (repeat (first | exact List.Sublist.refl _ | exact List.nil_sublist _ | apply List.Sublist.cons_cons | apply List.Sublist.cons)); done) (by first | exact RLe.refl _ | assumption) ?_
        refine WA.take 10 rfl (by kernel_rfl) (by kernel_rfl) (by kernel_rfl) rfl rfl (by decide) (pureV_ok tab_ok rfl (fun _ => rfl)) (by (repeat (first | exact List.Sublist.refl _ | exact List.nil_sublist _ | apply List.Sublist.cons_cons | apply List.Sublist.cons)); done) (by first | exact RLe.refl _ | assumption) ?_
        refine WA.take 11 rfl (by kernel_rfl) (by kernel_rfl) (by kernel_rfl) rfl rfl (by decide) (pureV_ok tab_ok rfl (fun _ => rfl)) (by (repeat (first | exact List.Sublist.refl _ | exact List.nil_sublist _ | apply List.Sublist.cons_cons | apply List.Sublist.cons)); done) (by first | exact RLe.refl _ | assumption) ?_
        refine WA.take 13 rfl (by kernel_rfl) (by kernel_rfl) (by kernel_rfl) rfl rfl (by decide) (pureV_ok tab_ok rfl (fun _ => rfl)) (by (repeat (first | exact List.Sublist.refl _ | exact List.nil_sublist _ | apply List.Sublist.cons_cons | apply List.Sublist.cons)); done) (by first | exact RLe.refl _ | assumption) ?_
        refine' WA.take 14 rfl (by kernel_rfl) (by kernel_rfl) (by kernel_rfl) rfl rfl (by decide) (Yl.load1 tab_ok rfl rfl rfl (fun _ => rfl) ?r6 rfl ?h6) (by (repeat (first | exact List.Sublist.refl _ | exact List.nil_sublist _ | apply List.Sublist.cons_cons | apply List.Sublist.cons)); done) (by first | exact RLe.refl _ | assumption) ?_
        case r6 => apply Rd.add; (first | exact Rd.blk 0 rfl | exact Rd.blk 1 rfl | exact Rd.blk 2 rfl | exact Rd.blk 3 rfl)
        case h6 => rfl
        refine WA.br2 (i := 5) (j := 12) (by kernel_rfl) ?_ ?_
        ·
          refine' WS.yl rfl rfl rfl (by decide) (Yl.load1 tab_ok rfl rfl rfl (fun _ => rfl) ?r7 rfl ?h7) (by (repeat (first | exact List.Sublist.refl _ | exact List.nil_sublist _ | apply List.Sublist.cons_cons | apply List.Sublist.cons)); done) (RLe.refl _) ?_
          case r7 => apply Rd.add; exact Rd.slD 1 rfl (by omega)
          case h7 => rfl
          refine WA.take 8 rfl (by kernel_rfl) (by kernel_rfl) (by kernel_rfl) rfl rfl (by decide) (pureV_ok tab_ok rfl (fun _ => rfl)) (by (repeat (first | exact List.Sublist.refl _ | exact List.nil_sublist _ | apply List.Sublist.cons_cons | apply List.Sublist.cons)); done) (by first | exact RLe.refl _ | assumption) ?_
          refine' WA.yl 12 rfl (by kernel_rfl) rfl rfl (by decide) (Yl.load1 tab_ok rfl rfl rfl (fun _ => rfl) ?r8 rfl ?h8) (by (repeat (first | exact List.Sublist.refl _ | exact List.nil_sublist _ | apply List.Sublist.cons_cons | apply List.Sublist.cons)); done) (RLe.refl _) ?_
          case r8 => apply Rd.add; exact Rd.slD 1 rfl (by (try rw [List.length_set]); omega)
          case h8 => rfl
          refine WA.take 15 rfl (by kernel_rfl) (by kernel_rfl) (by kernel_rfl) rfl rfl (by decide) (pureV_ok tab_ok rfl (fun _ => rfl)) (by (repeat (first | exact List.Sublist.refl _ | exact List.nil_sublist _ | apply List.Sublist.cons_cons | apply List.Sublist.cons)); done) (by first | exact RLe.refl _ | assumption) ?_
          refine WA.take 16 rfl (by kernel_rfl) (by kernel_rfl) (by kernel_rfl) rfl rfl (by decide) (pureV_ok tab_ok rfl (fun _ => rfl)) (by (repeat (first | exact List.Sublist.refl _ | exact List.nil_sublist _ | apply List.Sublist.cons_cons | apply List.Sublist.cons)); done) (by first | exact RLe.refl _ | assumption) ?_
          refine WA.take 17 rfl (by kernel_rfl) (by kernel_rfl) (by kernel_rfl) rfl rfl (by decide) (pureV_ok tab_ok rfl (fun _ => rfl)) (by (repeat (first | exact List.Sublist.refl _ | exact List.nil_sublist _ | apply List.Sublist.cons_cons | apply List.Sublist.cons)); done) (by first | exact RLe.refl _ | assumption) ?_
          refine WA.effN 18 rfl (by kernel_rfl) rfl rfl (Ef.storeF (enc := encZ) (xs := z1) (⟨(if (nth ps i).size < (nth z1 (nth ps i).flow.toNat).least then (nth ps i).size else (nth z1 (nth ps i).flow.toNat).least), (nth z1 (nth ps i).flow.toNat).most⟩ : Sz) 1 tab_ok rfl rfl rfl rfl rfl (by omega) rfl rfl (by decide) rfl ?_)
          refine ⟨by first | exact RLe.refl _ | assumption, (by (repeat (first | exact List.Sublist.refl _ | exact List.nil_sublist _ | apply List.Sublist.cons_cons | apply List.Sublist.cons)); done), ?_⟩
          refine WA.take 19 rfl (by kernel_rfl) (by kernel_rfl) (by kernel_rfl) rfl rfl (by decide) (pureV_ok tab_ok rfl (fun _ => rfl)) (by (repeat (first | exact List.Sublist.refl _ | exact List.nil_sublist _ | apply List.Sublist.cons_cons | apply List.Sublist.cons)); done) (by first | exact RLe.refl _ | assumption) ?_
          refine WA.take 20 rfl (by kernel_rfl) (by kernel_rfl) (by kernel_rfl) rfl rfl (by decide) (pureV_ok tab_ok rfl (fun _ => rfl)) (by (repeat (first | exact List.Sublist.refl _ | exact List.nil_sublist _ | apply List.Sublist.cons_cons | apply List.Sublist.cons)); done) (by first | exact RLe.refl _ | assumption) ?_
          refine WA.effN 21 rfl (by kernel_rfl) rfl rfl (Ef.storeF (enc := encZ) (xs := z1.set (nth ps i).flow.toNat (⟨(if (nth ps i).size < (nth z1 (nth ps i).flow.toNat).least then (nth ps i).size else (nth z1 (nth ps i).flow.toNat).least), (nth z1 (nth ps i).flow.toNat).most⟩ : Sz)) (⟨(if (nth ps i).size < (nth z1 (nth ps i).flow.toNat).least then (nth ps i).size else (nth z1 (nth ps i).flow.toNat).least), (if (nth z1 (nth ps i).flow.toNat).most < (nth ps i).size then (nth ps i).size else (nth z1 (nth ps i).flow.toNat).most)⟩ : Sz) 1 tab_ok rfl rfl rfl rfl rfl (by rw [List.length_set]; omega) (by rw [hns]; rfl) rfl (by decide) rfl ?_)
          refine ⟨by first | exact RLe.refl _ | assumption, (by (repeat (first | exact List.Sublist.refl _ | exact List.nil_sublist _ | apply List.Sublist.cons_cons | apply List.Sublist.cons)); done), ?_⟩
          refine WA.done (by kernel_rfl) ?_
          refine WE.blk _ ?_
          refine WE.nxt ?_
          refine W.region _ ?_
          refine WG.y rfl rfl (by decide) (Yl.add rfl rfl rfl (fun _ => rfl) (by intro _; constructor <;> (try dsimp only) <;> omega)) ?_
          refine WG.run tab_ok 1 rfl ?_
          refine WG.nil ?_
          refine WE.again ((i + 1, szAdd n z (nth ps i))) (⟨by dsimp only; omega, hnx, hnl⟩) (by (try dsimp only); omega) ⟨rfl, rfl, rfl, rfl, rfl, rfl⟩ (RLe.refl _) (by dsimp only [setAll, List.set_cons_zero, List.set_cons_succ]; first | (rw [hsame]; exact (by (repeat (first | exact List.Sublist.refl _ | exact List.nil_sublist _ | apply List.Sublist.cons_cons | apply List.Sublist.cons)); done)) | (rw [← hfin]; exact (by (repeat (first | exact List.Sublist.refl _ | exact List.nil_sublist _ | apply List.Sublist.cons_cons | apply List.Sublist.cons)); done)))
        ·
          refine' WS.yl rfl rfl rfl (by decide) (Yl.load1 tab_ok rfl rfl rfl (fun _ => rfl) ?r9 rfl ?h9) (by (repeat (first | exact List.Sublist.refl _ | exact List.nil_sublist _ | apply List.Sublist.cons_cons | apply List.Sublist.cons)); done) (RLe.refl _) ?_
          case r9 => apply Rd.add; exact Rd.slD 1 rfl (by (try rw [List.length_set]); omega)
          case h9 => rfl
          refine WA.take 15 rfl (by kernel_rfl) (by kernel_rfl) (by kernel_rfl) rfl rfl (by decide) (pureV_ok tab_ok rfl (fun _ => rfl)) (by (repeat (first | exact List.Sublist.refl _ | exact List.nil_sublist _ | apply List.Sublist.cons_cons | apply List.Sublist.cons)); done) (by first | exact RLe.refl _ | assumption) ?_
          refine' WA.yl 5 rfl (by kernel_rfl) rfl rfl (by decide) (Yl.load1 tab_ok rfl rfl rfl (fun _ => rfl) ?r10 rfl ?h10) (by (repeat (first | exact List.Sublist.refl _ | exact List.nil_sublist _ | apply List.Sublist.cons_cons | apply List.Sublist.cons)); done) (RLe.refl _) ?_
          case r10 => apply Rd.add; exact Rd.slD 1 rfl (by omega)
          case h10 => rfl
          refine WA.take 8 rfl (by kernel_rfl) (by kernel_rfl) (by kernel_rfl) rfl rfl (by decide) (pureV_ok tab_ok rfl (fun _ => rfl)) (by (repeat (first | exact List.Sublist.refl _ | exact List.nil_sublist _ | apply List.Sublist.cons_cons | apply List.Sublist.cons)); done) (by first | exact RLe.refl _ | assumption) ?_
          refine WA.take 16 rfl (by kernel_rfl) (by kernel_rfl) (by kernel_rfl) rfl rfl (by decide) (pureV_ok tab_ok rfl (fun _ => rfl)) (by (repeat (first | exact List.Sublist.refl _ | exact List.nil_sublist _ | apply List.Sublist.cons_cons | apply List.Sublist.cons)); done) (by first | exact RLe.refl _ | assumption) ?_
          refine WA.take 17 rfl (by kernel_rfl) (by kernel_rfl) (by kernel_rfl) rfl rfl (by decide) (pureV_ok tab_ok rfl (fun _ => rfl)) (by (repeat (first | exact List.Sublist.refl _ | exact List.nil_sublist _ | apply List.Sublist.cons_cons | apply List.Sublist.cons)); done) (by first | exact RLe.refl _ | assumption) ?_
          refine WA.effN 18 rfl (by kernel_rfl) rfl rfl (Ef.storeF (enc := encZ) (xs := z1) (⟨(if (nth ps i).size < (nth z1 (nth ps i).flow.toNat).least then (nth ps i).size else (nth z1 (nth ps i).flow.toNat).least), (nth z1 (nth ps i).flow.toNat).most⟩ : Sz) 1 tab_ok rfl rfl rfl rfl rfl (by omega) rfl rfl (by decide) rfl ?_)
          refine ⟨by first | exact RLe.refl _ | assumption, (by (repeat (first | exact List.Sublist.refl _ | exact List.nil_sublist _ | apply List.Sublist.cons_cons | apply List.Sublist.cons)); done), ?_⟩
          refine WA.take 19 rfl (by kernel_rfl) (by kernel_rfl) (by kernel_rfl) rfl rfl (by decide) (pureV_ok tab_ok rfl (fun _ => rfl)) (by (repeat (first | exact List.Sublist.refl _ | exact List.nil_sublist _ | apply List.Sublist.cons_cons | apply List.Sublist.cons)); done) (by first | exact RLe.refl _ | assumption) ?_
          refine WA.take 20 rfl (by kernel_rfl) (by kernel_rfl) (by kernel_rfl) rfl rfl (by decide) (pureV_ok tab_ok rfl (fun _ => rfl)) (by (repeat (first | exact List.Sublist.refl _ | exact List.nil_sublist _ | apply List.Sublist.cons_cons | apply List.Sublist.cons)); done) (by first | exact RLe.refl _ | assumption) ?_
          refine WA.effN 21 rfl (by kernel_rfl) rfl rfl (Ef.storeF (enc := encZ) (xs := z1.set (nth ps i).flow.toNat (⟨(if (nth ps i).size < (nth z1 (nth ps i).flow.toNat).least then (nth ps i).size else (nth z1 (nth ps i).flow.toNat).least), (nth z1 (nth ps i).flow.toNat).most⟩ : Sz)) (⟨(if (nth ps i).size < (nth z1 (nth ps i).flow.toNat).least then (nth ps i).size else (nth z1 (nth ps i).flow.toNat).least), (if (nth z1 (nth ps i).flow.toNat).most < (nth ps i).size then (nth ps i).size else (nth z1 (nth ps i).flow.toNat).most)⟩ : Sz) 1 tab_ok rfl rfl rfl rfl rfl (by rw [List.length_set]; omega) (by rw [hns]; rfl) rfl (by decide) rfl ?_)
          refine ⟨by first | exact RLe.refl _ | assumption, (by (repeat (first | exact List.Sublist.refl _ | exact List.nil_sublist _ | apply List.Sublist.cons_cons | apply List.Sublist.cons)); done), ?_⟩
          refine WA.done (by kernel_rfl) ?_
          refine WE.blk _ ?_
          refine WE.nxt ?_
          refine W.region _ ?_
          refine WG.y rfl rfl (by decide) (Yl.add rfl rfl rfl (fun _ => rfl) (by intro _; constructor <;> (try dsimp only) <;> omega)) ?_
          refine WG.run tab_ok 1 rfl ?_
          refine WG.nil ?_
          refine WE.again ((i + 1, szAdd n z (nth ps i))) (⟨by dsimp only; omega, hnx, hnl⟩) (by (try dsimp only); omega) ⟨rfl, rfl, rfl, rfl, rfl, rfl⟩ (RLe.refl _) (by dsimp only [setAll, List.set_cons_zero, List.set_cons_succ]; first | (rw [hsame]; exact (by (repeat (first | exact List.Sublist.refl _ | exact List.nil_sublist _ | apply List.Sublist.cons_cons | apply List.Sublist.cons)); done)) | (rw [← hfin]; exact (by (repeat (first | exact List.Sublist.refl _ | exact List.nil_sublist _ | apply List.Sublist.cons_cons | apply List.Sublist.cons)); done)))
      ·
        refine W.seq ?_
        refine W.region _ ?_
        refine WG.run tab_ok 3 rfl ?_
        refine' WG.y rfl rfl (by decide) (Yl.load1 tab_ok rfl rfl rfl (fun _ => rfl) ?r11 rfl ?h11) ?_
        case r11 => apply Rd.add; exact Rd.slD 1 rfl (by omega)
        case h11 => rfl
        refine WG.run tab_ok 1 rfl ?_
        refine WG.nil ?_
        refine WE.nxt ?_
        refine W.condE rfl (fun hc2 => ?_) (fun hc2 => ?_)
        · try dsimp only at hc2
          refine W.region _ ?_
          refine WG.run tab_ok 2 rfl ?_
          refine' WG.y rfl rfl (by decide) (Yl.load1 tab_ok rfl rfl rfl (fun _ => rfl) ?r12 rfl ?h12) ?_
          case r12 => apply Rd.add; (first | exact Rd.blk 0 rfl | exact Rd.blk 1 rfl | exact Rd.blk 2 rfl | exact Rd.blk 3 rfl)
          case h12 => rfl
          refine WG.run tab_ok 1 rfl ?_
          refine' WG.y rfl rfl (by decide) (Yl.load1 tab_ok rfl rfl rfl (fun _ => rfl) ?r13 rfl ?h13) ?_
          case r13 => apply Rd.add; (first | exact Rd.blk 0 rfl | exact Rd.blk 1 rfl | exact Rd.blk 2 rfl | exact Rd.blk 3 rfl)
          case h13 => rfl
          -- build
          refine WG.y rfl rfl (by decide) (Yl.build (parts := [(0, .tmp 37), (1, .tmp 39)]) tab_ok rfl rfl rfl rfl (fun _ => rfl) rfl rfl) ?_
          refine WG.run tab_ok 1 rfl ?_
          refine WL.efN rfl rfl (Ef.storeD (enc := encZ) (xs := z) (⟨(nth ps i).size, (nth ps i).size⟩ : Sz) 1 tab_ok rfl rfl rfl rfl rfl (by omega) rfl rfl rfl rfl ?_)
          refine WG.nil ?_
          refine WE.cut (z.set (nth ps i).flow.toNat ⟨(nth ps i).size, (nth ps i).size⟩) (show _ = szPre z (nth ps i) from by unfold szPre; rw [if_pos hc2]) ⟨rfl, rfl, rfl, rfl, rfl, rfl, rfl, rfl⟩ (RLe.refl _) (by (repeat (first | exact List.Sublist.refl _ | exact List.nil_sublist _ | apply List.Sublist.cons_cons | apply List.Sublist.cons)); done)
        · try dsimp only at hc2
          refine W.skip ?_
          refine WE.cut z (show _ = szPre z (nth ps i) from by unfold szPre; rw [if_neg hc2]) ⟨rfl, rfl, rfl, rfl, rfl, rfl, rfl, rfl⟩ (RLe.refl _) (by (repeat (first | exact List.Sublist.refl _ | exact List.nil_sublist _ | apply List.Sublist.cons_cons | apply List.Sublist.cons)); done)
  · try dsimp only at hc0
    obtain rfl : i = ps.length := by omega
    rw [List.take_length] at hz
    have hz2 : z = sizesL n ps := hz
    subst hz2
    refine W.exit ?_
    refine WE.then_exit ?_
    refine WE.then_exit ?_
    refine WE.blk_exit ?_
    refine WE.nxt ?_
    refine W.seq ?_
    refine W.region _ ?_
    refine WG.run tab_ok 2 rfl ?_
    refine WG.nil ?_
    refine WE.nxt ?_
    refine W.ret ?_
    refine WE.retF tab_ok [_] rfl ⟨rfl, trivial⟩ (RLe.refl _) ?_
    exact ⟨some ⟨a10, 0, none⟩, n, by rw [hzl]; rfl, rfl, (by (repeat (first | exact List.Sublist.refl _ | exact List.nil_sublist _ | apply List.Sublist.cons_cons | apply List.Sublist.cons)); done)⟩

theorem Twisted_C {R : Ro} {b : Nat} {a : Option Addr} {cp : Nat} {xs : List Int} {c : Nat} {za : Option Addr} {zc zl : Nat} {z : List Sz} (w0 : World) (ha : RS R 1 encI a xs) (hzr : RS R 2 encZ za z) (hzl : z.length = zl) (hl : zl ≤ 1000) (hb : ∀ s ∈ z, -1000000 ≤ s.most ∧ s.most ≤ 1000000) : FnAt Try.prog 29 [.pointer (some ⟨b, 0, none⟩), .slice za zl zc] w0 R (srcE b a cp xs c)
    (fun v R' e' N => ∃ (a' : Option Addr) (c' cn : Nat) (qs : List Sz), v = .slice a' qs.length c' ∧ RS R' 2 encZ a' qs ∧ e' = srcE b a cp xs cn ∧ N = []) := by
  intro F
  subst hzl
  refine Fn.enter (n := 65) Try.func29 rfl rfl (Nat.le_of_ble_eq_true rfl) rfl ?_
  refine W.seq ?_
  refine W.region _ ?_
  refine WG.run tab_ok 1 rfl ?_
  refine WG.nil ?_
  refine WE.nxt ?_
  refine W.seq ?_
  refine W.region _ ?_
  refine WL.ef rfl rfl (by decide) (Ef.buildSliceD (enc := encZ) (parts := []) [] tab_ok rfl rfl rfl rfl rfl rfl rfl rfl (by decide) (by decide) (fun a7 => ?_))
  refine WG.run tab_ok 1 rfl ?_
  refine WL.ef rfl rfl (by decide) (Ef.cloneL (enc := encZ) 0 tab_ok rfl rfl rfl rfl rfl rfl rfl rfl rfl rfl hzr (fun _ _ => rfl) (by dsimp only; omega) (by omega) (fun a9 c9 ha9 => ?_))
  refine WG.run tab_ok 1 rfl ?_
  refine WG.nil ?_
  refine WE.nxt ?_
  refine W.seq ?_
  refine W.seq ?_
  refine W.region _ ?_
  refine WG.run tab_ok 3 rfl ?_
  refine WG.nil ?_
  refine WE.nxt ?_
  refine W.condE rfl (fun hc0 => ?_) (fun hc0 => ?_)
  · try dsimp only at hc0
    refine W.freeze (enc := encZ) (xs := z) 0 rfl ?_
    intro R1 hR1 hqs
    refine W.seq ?_
    refine W.region _ ?_
    refine WG.run tab_ok 2 rfl ?_
    refine WG.nil ?_
    refine WE.nxt ?_
    refine W.ret ?_
    refine WE.then_ret ?_
    refine WE.subE (E' := srcE b a cp xs (c) :: F) (by (repeat (first | exact List.Sublist.refl _ | exact List.nil_sublist _ | apply List.Sublist.cons_cons | apply List.Sublist.cons)); done) ?_
    refine WE.retF tab_ok [_] rfl ⟨rfl, trivial⟩ (hR1) ?_
    exact ⟨_, [], rfl, _, _, _, _, rfl, hqs, rfl, rfl⟩
  · try dsimp only at hc0
    have hm1 := mod_range (nth xs c) (show (1 : Int) ≤ z.length by omega)
    have hm2 := mod_range (nth xs (c + 1)) (show (1 : Int) ≤ 4 by decide)
    have hzi := hb _ (nth_mem (xs := z) (k := (mod (nth xs c) z.length).toNat) (by omega))
    refine W.skip ?_
    refine WE.nxt ?_
    refine W.seq ?_
    refine W.region _ ?_
    refine WG.run tab_ok 3 rfl ?_
    refine WL.callAt 1 en21 rfl rfl (by decide) (CallOp.mkT rfl rfl rfl rfl) rfl (N_C w0 ha (by constructor <;> omega) _) ?_
    rintro _ _ _ _ - ⟨rfl, rfl, rfl, rfl⟩
    refine WG.run tab_ok 1 rfl ?_
    refine WG.nil ?_
    refine WE.nxt ?_
    refine W.seq ?_
    refine W.seq ?_
    refine W.region _ ?_
    refine WG.run tab_ok 1 rfl ?_
    refine WL.callAt 1 en21 rfl rfl (by decide) (CallOp.mkT rfl rfl rfl rfl) rfl (N_C w0 ha (by constructor <;> omega) _) ?_
    rintro _ _ _ _ - ⟨rfl, rfl, rfl, rfl⟩
    refine WG.nil ?_
    refine WE.nxt ?_
    refine W.block ?_
    refine W.seq ?_
    refine W.region _ ?_
    refine WG.run tab_ok 2 rfl ?_
    refine WG.nil ?_
    refine WE.nxt ?_
    refine W.condE rfl (fun hc1 => ?_) (fun hc1 => ?_)
    · try dsimp only at hc1
      refine W.regionH _ (ES := []) mixed ?_
      refine WA.take 0 rfl (by kernel_rfl) (by kernel_rfl) (by kernel_rfl) rfl rfl (by decide) (pureV_ok tab_ok rfl (fun _ => rfl)) (by (repeat (first | exact List.Sublist.refl _ | exact List.nil_sublist _ | apply List.Sublist.cons_cons | apply List.Sublist.cons)); done) (by first | exact RLe.refl _ | assumption) ?_
      refine WA.take 1 rfl (by kernel_rfl) (by kernel_rfl) (by kernel_rfl) rfl rfl (by decide) (pureV_ok tab_ok rfl (fun _ => rfl)) (by (repeat (first | exact List.Sublist.refl _ | exact List.nil_sublist _ | apply List.Sublist.cons_cons | apply List.Sublist.cons)); done) (by first | exact RLe.refl _ | assumption) ?_
      refine WA.take 2 rfl (by kernel_rfl) (by kernel_rfl) (by kernel_rfl) rfl rfl (by decide) (pureV_ok tab_ok rfl (fun _ => rfl)) (by (repeat (first | exact List.Sublist.refl _ | exact List.nil_sublist _ | apply List.Sublist.cons_cons | apply List.Sublist.cons)); done) (by first | exact RLe.refl _ | assumption) ?_
      refine WA.take 3 rfl (by kernel_rfl) (by kernel_rfl) (by kernel_rfl) rfl rfl (by decide) (pureV_ok tab_ok rfl (fun _ => rfl)) (by (repeat (first | exact List.Sublist.refl _ | exact List.nil_sublist _ | apply List.Sublist.cons_cons | apply List.Sublist.cons)); done) (by first | exact RLe.refl _ | assumption) ?_
      refine WA.take 4 rfl (by kernel_rfl) (by kernel_rfl) (by kernel_rfl) rfl rfl (by decide) (pureV_ok tab_ok rfl (fun _ => rfl)) (by (repeat (first | exact List.Sublist.refl _ | exact List.nil_sublist _ | apply List.Sublist.cons_cons | apply List.Sublist.cons)); done) (by first | exact RLe.refl _ | assumption) ?_
      refine WA.take 5 rfl (by kernel_rfl) (by kernel_rfl) (by kernel_rfl) rfl rfl (by decide) (Yl.index tab_ok rfl rfl rfl rfl rfl rfl (fun _ => rfl) (by intro _; constructor <;> (try dsimp only) <;> omega) (by intro _; first | exact fun _ _ _ h => ha9 h | exact fun _ _ _ _ => rfl | exact RS.has (by assumption) | exact fun _ _ _ _ => (by assumption) | exact HasMem.ownD 0 rfl | exact HasMem.ownD 1 rfl | exact HasMem.ownD 2 rfl | exact HasMem.ownD 3 rfl | exact HasMem.ownD 4 rfl)) (by (repeat (first | exact List.Sublist.refl _ | exact List.nil_sublist _ | apply List.Sublist.cons_cons | apply List.Sublist.cons)); done) (by first | exact RLe.refl _ | assumption) ?_
      refine WA.take 6 rfl (by kernel_rfl) (by kernel_rfl) (by kernel_rfl) rfl rfl (by decide) (pureV_ok tab_ok rfl (fun _ => rfl)) (by (repeat (first | exact List.Sublist.refl _ | exact List.nil_sublist _ | apply List.Sublist.cons_cons | apply List.Sublist.cons)); done) (by first | exact RLe.refl _ | assumption) ?_
      refine WA.take 8 rfl (by kernel_rfl) (by kernel_rfl) (by kernel_rfl) rfl rfl (by decide) (pureV_ok tab_ok rfl (fun _ => rfl)) (by (repeat (first | exact List.Sublist.refl _ | exact List.nil_sublist _ | apply List.Sublist.cons_cons | apply List.Sublist.cons)); done) (by first | exact RLe.refl _ | assumption) ?_
      refine WA.take 9 rfl (by kernel_rfl) (by kernel_rfl) (by kernel_rfl) rfl rfl (by decide) (pureV_ok tab_ok rfl (fun _ => rfl)) (by (repeat (first | exact List.Sublist.refl _ | exact List.nil_sublist _ | apply List.Sublist.cons_cons | apply List.Sublist.cons)); done) (by first | exact RLe.refl _ | assumption) ?_
      refine WA.take 10 rfl (by kernel_rfl) (by kernel_rfl) (by kernel_rfl) rfl rfl (by decide) (Yl.index tab_ok rfl rfl rfl rfl rfl rfl (fun _ => rfl) (by intro _; constructor <;> (try dsimp only) <;> omega) (by intro _; first | exact fun _ _ _ h => ha9 h | exact fun _ _ _ _ => rfl | exact RS.has (by assumption) | exact fun _ _ _ _ => (by assumption) | exact HasMem.ownD 0 rfl | exact HasMem.ownD 1 rfl | exact HasMem.ownD 2 rfl | exact HasMem.ownD 3 rfl | exact HasMem.ownD 4 rfl)) (by (repeat (first | exact List.Sublist.refl _ | exact List.nil_sublist _ | apply List.Sublist.cons_cons | apply List.Sublist.cons)); done) (by first | exact RLe.refl _ | assumption) ?_
      refine WA.take 11 rfl (by kernel_rfl) (by kernel_rfl) (by kernel_rfl) rfl rfl (by decide) (pureV_ok tab_ok rfl (fun _ => rfl)) (by (repeat (first | exact List.Sublist.refl _ | exact List.nil_sublist _ | apply List.Sublist.cons_cons | apply List.Sublist.cons)); done) (by first | exact RLe.refl _ | assumption) ?_
      refine WA.br2 (i := 7) (j := 12) (by kernel_rfl) ?_ ?_
      ·
        refine' WS.yl rfl rfl rfl (by decide) (Yl.load1 tab_ok rfl rfl rfl (fun _ => rfl) ?r1 rfl ?h1) (by (repeat (first | exact List.Sublist.refl _ | exact List.nil_sublist _ | apply List.Sublist.cons_cons | apply List.Sublist.cons)); done) (RLe.refl _) ?_
        case r1 => apply Rd.add; exact Rd.slD 0 rfl (by omega)
        case h1 => rfl
        refine' WA.yl 12 rfl (by kernel_rfl) rfl rfl (by decide) (Yl.load1 tab_ok rfl rfl rfl (fun _ => rfl) ?r2 rfl ?h2) (by (repeat (first | exact List.Sublist.refl _ | exact List.nil_sublist _ | apply List.Sublist.cons_cons | apply List.Sublist.cons)); done) (RLe.refl _) ?_
        case r2 => apply Rd.add; exact Rd.slD 0 rfl (by omega)
        case h2 => rfl
        refine WA.take 13 rfl (by kernel_rfl) (by kernel_rfl) (by kernel_rfl) rfl rfl (by decide) (Yl.add rfl rfl rfl (fun _ => rfl) (by intro _; constructor <;> (try dsimp only) <;> omega)) (by (repeat (first | exact List.Sublist.refl _ | exact List.nil_sublist _ | apply List.Sublist.cons_cons | apply List.Sublist.cons)); done) (by first | exact RLe.refl _ | assumption) ?_
        refine WA.eff 14 rfl (by kernel_rfl) rfl rfl (by decide) (Ef.buildSliceD (enc := encI) (parts := [.const (.int .i64 (-1)), .const (.int .i64 0), .tmp 39, .tmp 45]) [_, _, _, _] tab_ok rfl rfl rfl rfl rfl rfl rfl rfl (by decide) (by decide) (fun a46 => ?_))
        refine ⟨by first | exact RLe.refl _ | assumption, (by (repeat (first | exact List.Sublist.refl _ | exact List.nil_sublist _ | apply List.Sublist.cons_cons | apply List.Sublist.cons)); done), ?_⟩
        refine WA.callAt 2 15 rfl (by kernel_rfl) en22 rfl rfl (by decide) (CallOp.mkT rfl rfl rfl rfl) rfl (PickM_C (j := 0) w0 [-1, 0, (nth z (mod (nth xs c) z.length).toNat).most, (nth z (mod (nth xs c) z.length).toNat).most + 1] rfl (by decide) (by decide) ha rfl) ?_
        rintro _ _ _ _ - ⟨rfl, rfl, rfl, rfl⟩
        refine ⟨RLe.refl _, (by (repeat (first | exact List.Sublist.refl _ | exact List.nil_sublist _ | apply List.Sublist.cons_cons | apply List.Sublist.cons)); done), ?_⟩
        refine WA.take 16 rfl (by kernel_rfl) (by kernel_rfl) (by kernel_rfl) rfl rfl (by decide) (Yl.index tab_ok rfl rfl rfl rfl rfl rfl (fun _ => rfl) (by intro _; constructor <;> (try dsimp only) <;> omega) (by intro _; first | exact fun _ _ _ h => ha9 h | exact fun _ _ _ _ => rfl | exact RS.has (by assumption) | exact fun _ _ _ _ => (by assumption) | exact HasMem.ownD 0 rfl | exact HasMem.ownD 1 rfl | exact HasMem.ownD 2 rfl | exact HasMem.ownD 3 rfl | exact HasMem.ownD 4 rfl)) (by (repeat (first | exact List.Sublist.refl _ | exact List.nil_sublist _ | apply List.Sublist.cons_cons | apply List.Sublist.cons)); done) (by first | exact RLe.refl _ | assumption) ?_
        refine WA.take 17 rfl (by kernel_rfl) (by kernel_rfl) (by kernel_rfl) rfl rfl (by decide) (pureV_ok tab_ok rfl (fun _ => rfl)) (by (repeat (first | exact List.Sublist.refl _ | exact List.nil_sublist _ | apply List.Sublist.cons_cons | apply List.Sublist.cons)); done) (by first | exact RLe.refl _ | assumption) ?_
        refine WA.effN 18 rfl (by kernel_rfl) rfl rfl (Ef.storeF (enc := encZ) (xs := z) (⟨(nth ([-1, 0, (nth z (mod (nth xs c) z.length).toNat).most, (nth z (mod (nth xs c) z.length).toNat).most + 1] : List Int) (mod (nth xs (c + 1 + 1)) ((4 : Nat) : Int)).toNat), (nth z (mod (nth xs c) z.length).toNat).most⟩ : Sz) 1 tab_ok rfl rfl rfl rfl rfl (by omega) rfl rfl (by decide) rfl ?_)
        refine ⟨by first | exact RLe.refl _ | assumption, (by (repeat (first | exact List.Sublist.refl _ | exact List.nil_sublist _ | apply List.Sublist.cons_cons | apply List.Sublist.cons)); done), ?_⟩
        refine WA.done (by kernel_rfl) ?_
        refine WE.freeze (enc := encZ) (xs := z.set (mod (nth xs c) z.length).toNat (⟨(nth ([-1, 0, (nth z (mod (nth xs c) z.length).toNat).most, (nth z (mod (nth xs c) z.length).toNat).most + 1] : List Int) (mod (nth xs (c + 1 + 1)) ((4 : Nat) : Int)).toNat), (nth z (mod (nth xs c) z.length).toNat).most⟩ : Sz)) 1 rfl ?_
        intro R1 hR1 hqs
        refine WE.blk _ ?_
        refine WE.nxt ?_
        refine W.seq ?_
        refine W.region _ ?_
        refine WG.run tab_ok 2 rfl ?_
        refine WG.nil ?_
        refine WE.nxt ?_
        refine W.ret ?_
        refine WE.subE (E' := srcE b a cp xs (c + 1 + 1 + 1) :: F) (by (repeat (first | exact List.Sublist.refl _ | exact List.nil_sublist _ | apply List.Sublist.cons_cons | apply List.Sublist.cons)); done) ?_
        refine WE.retF tab_ok [_] rfl ⟨rfl, trivial⟩ (hR1) ?_
        refine ⟨_, [], rfl, a9, c9, _, _, ?_, hqs, rfl, rfl⟩
        rw [List.length_set]; rfl
      ·
        refine' WS.yl rfl rfl rfl (by decide) (Yl.load1 tab_ok rfl rfl rfl (fun _ => rfl) ?r3 rfl ?h3) (by (repeat (first | exact List.Sublist.refl _ | exact List.nil_sublist _ | apply List.Sublist.cons_cons | apply List.Sublist.cons)); done) (RLe.refl _) ?_
        case r3 => apply Rd.add; exact Rd.slD 0 rfl (by omega)
        case h3 => rfl
        refine WA.take 13 rfl (by kernel_rfl) (by kernel_rfl) (by kernel_rfl) rfl rfl (by decide) (Yl.add rfl rfl rfl (fun _ => rfl) (by intro _; constructor <;> (try dsimp only) <;> omega)) (by (repeat (first | exact List.Sublist.refl _ | exact List.nil_sublist _ | apply List.Sublist.cons_cons | apply List.Sublist.cons)); done) (by first | exact RLe.refl _ | assumption) ?_
        refine' WA.yl 7 rfl (by kernel_rfl) rfl rfl (by decide) (Yl.load1 tab_ok rfl rfl rfl (fun _ => rfl) ?r4 rfl ?h4) (by (repeat (first | exact List.Sublist.refl _ | exact List.nil_sublist _ | apply List.Sublist.cons_cons | apply List.Sublist.cons)); done) (RLe.refl _) ?_
        case r4 => apply Rd.add; exact Rd.slD 0 rfl (by omega)
        case h4 => rfl
        refine WA.eff 14 rfl (by kernel_rfl) rfl rfl (by decide) (Ef.buildSliceD (enc := encI) (parts := [.const (.int .i64 (-1)), .const (.int .i64 0), .tmp 39, .tmp 45]) [_, _, _, _] tab_ok rfl rfl rfl rfl rfl rfl rfl rfl (by decide) (by decide) (fun a46 => ?_))
        refine ⟨by first | exact RLe.refl _ | assumption, (by (repeat (first | exact List.Sublist.refl _ | exact List.nil_sublist _ | apply List.Sublist.cons_cons | apply List.Sublist.cons)); done), ?_⟩
        refine WA.callAt 2 15 rfl (by kernel_rfl) en22 rfl rfl (by decide) (CallOp.mkT rfl rfl rfl rfl) rfl (PickM_C (j := 0) w0 [-1, 0, (nth z (mod (nth xs c) z.length).toNat).most, (nth z (mod (nth xs c) z.length).toNat).most + 1] rfl (by decide) (by decide) ha rfl) ?_
        rintro _ _ _ _ - ⟨rfl, rfl, rfl, rfl⟩
        refine ⟨RLe.refl _, (by (repeat (first | exact List.Sublist.refl _ | exact List.nil_sublist _ | apply List.Sublist.cons_cons | apply List.Sublist.cons)); done), ?_⟩
        refine WA.take 16 rfl (by kernel_rfl) (by kernel_rfl) (by kernel_rfl) rfl rfl (by decide) (Yl.index tab_ok rfl rfl rfl rfl rfl rfl (fun _ => rfl) (by intro _; constructor <;> (try dsimp only) <;> omega) (by intro _; first | exact fun _ _ _ h => ha9 h | exact fun _ _ _ _ => rfl | exact RS.has (by assumption) | exact fun _ _ _ _ => (by assumption) | exact HasMem.ownD 0 rfl | exact HasMem.ownD 1 rfl | exact HasMem.ownD 2 rfl | exact HasMem.ownD 3 rfl | exact HasMem.ownD 4 rfl)) (by (repeat (first | exact List.Sublist.refl _ | exact List.nil_sublist _ | apply List.Sublist.cons_cons | apply List.Sublist.cons)); done) (by first | exact RLe.refl _ | assumption) ?_
        refine WA.take 17 rfl (by kernel_rfl) (by kernel_rfl) (by kernel_rfl) rfl rfl (by decide) (pureV_ok tab_ok rfl (fun _ => rfl)) (by (repeat (first | exact List.Sublist.refl _ | exact List.nil_sublist _ | apply List.Sublist.cons_cons | apply List.Sublist.cons)); done) (by first | exact RLe.refl _ | assumption) ?_
        refine WA.effN 18 rfl (by kernel_rfl) rfl rfl (Ef.storeF (enc := encZ) (xs := z) (⟨(nth ([-1, 0, (nth z (mod (nth xs c) z.length).toNat).most, (nth z (mod (nth xs c) z.length).toNat).most + 1] : List Int) (mod (nth xs (c + 1 + 1)) ((4 : Nat) : Int)).toNat), (nth z (mod (nth xs c) z.length).toNat).most⟩ : Sz) 1 tab_ok rfl rfl rfl rfl rfl (by omega) rfl rfl (by decide) rfl ?_)
        refine ⟨by first | exact RLe.refl _ | assumption, (by (repeat (first | exact List.Sublist.refl _ | exact List.nil_sublist _ | apply List.Sublist.cons_cons | apply List.Sublist.cons)); done), ?_⟩
        refine WA.done (by kernel_rfl) ?_
        refine WE.freeze (enc := encZ) (xs := z.set (mod (nth xs c) z.length).toNat (⟨(nth ([-1, 0, (nth z (mod (nth xs c) z.length).toNat).most, (nth z (mod (nth xs c) z.length).toNat).most + 1] : List Int) (mod (nth xs (c + 1 + 1)) ((4 : Nat) : Int)).toNat), (nth z (mod (nth xs c) z.length).toNat).most⟩ : Sz)) 1 rfl ?_
        intro R1 hR1 hqs
        refine WE.blk _ ?_
        refine WE.nxt ?_
        refine W.seq ?_
        refine W.region _ ?_
        refine WG.run tab_ok 2 rfl ?_
        refine WG.nil ?_
        refine WE.nxt ?_
        refine W.ret ?_
        refine WE.subE (E' := srcE b a cp xs (c + 1 + 1 + 1) :: F) (by (repeat (first | exact List.Sublist.refl _ | exact List.nil_sublist _ | apply List.Sublist.cons_cons | apply List.Sublist.cons)); done) ?_
        refine WE.retF tab_ok [_] rfl ⟨rfl, trivial⟩ (hR1) ?_
        refine ⟨_, [], rfl, a9, c9, _, _, ?_, hqs, rfl, rfl⟩
        rw [List.length_set]; rfl
    · try dsimp only at hc1
      refine W.seq ?_
      refine W.region _ ?_
      refine WG.run tab_ok 2 rfl ?_
      refine WG.nil ?_
      refine WE.nxt ?_
      refine W.condE rfl (fun hc2 => ?_) (fun hc2 => ?_)
      · try dsimp only at hc2
        refine W.region _ ?_
        refine WG.run tab_ok 3 rfl ?_
        refine WL.ef rfl rfl (by decide) (Ef.buildSliceD (enc := encI) (parts := [.const (.int .i64 1500), .const (.int .i64 1501), .const (.int .i64 0), .const (.int .i64 (-1))]) [_, _, _, _] tab_ok rfl rfl rfl rfl rfl rfl rfl rfl (by decide) (by decide) (fun a55 => ?_))
        refine WL.callAt 2 en22 rfl rfl (by decide) (CallOp.mkT rfl rfl rfl rfl) rfl (PickM_C (j := 0) w0 [1500, 1501, 0, -1] rfl (by decide) (by decide) ha rfl) ?_
        rintro _ _ _ _ - ⟨rfl, rfl, rfl, rfl⟩
        refine WG.y rfl rfl (by decide) (Yl.index tab_ok rfl rfl rfl rfl rfl rfl (fun _ => rfl) (by intro _; constructor <;> (try dsimp only) <;> omega) (by intro _; first | exact fun _ _ _ h => ha9 h | exact fun _ _ _ _ => rfl | exact RS.has (by assumption) | exact fun _ _ _ _ => (by assumption) | exact HasMem.ownD 0 rfl | exact HasMem.ownD 1 rfl | exact HasMem.ownD 2 rfl | exact HasMem.ownD 3 rfl | exact HasMem.ownD 4 rfl)) ?_
        refine WG.run tab_ok 1 rfl ?_
        refine WL.efN rfl rfl (Ef.storeF (enc := encZ) (xs := z) (⟨(nth z (mod (nth xs c) z.length).toNat).least, (nth ([1500, 1501, 0, -1] : List Int) (mod (nth xs (c + 1 + 1)) ((4 : Nat) : Int)).toNat)⟩ : Sz) 1 tab_ok rfl rfl rfl rfl rfl (by omega) rfl rfl (by decide) rfl ?_)
        refine WL.freeze (enc := encZ) (xs := z.set (mod (nth xs c) z.length).toNat (⟨(nth z (mod (nth xs c) z.length).toNat).least, (nth ([1500, 1501, 0, -1] : List Int) (mod (nth xs (c + 1 + 1)) ((4 : Nat) : Int)).toNat)⟩ : Sz)) 1 rfl ?_
        intro R1 hR1 hqs
        refine WG.nil ?_
        refine WE.blk _ ?_
        refine WE.nxt ?_
        refine W.seq ?_
        refine W.region _ ?_
        refine WG.run tab_ok 2 rfl ?_
        refine WG.nil ?_
        refine WE.nxt ?_
        refine W.ret ?_
        refine WE.subE (E' := srcE b a cp xs (c + 1 + 1 + 1) :: F) (by (repeat (first | exact List.Sublist.refl _ | exact List.nil_sublist _ | apply List.Sublist.cons_cons | apply List.Sublist.cons)); done) ?_
        refine WE.retF tab_ok [_] rfl ⟨rfl, trivial⟩ (hR1) ?_
        refine ⟨_, [], rfl, a9, c9, _, _, ?_, hqs, rfl, rfl⟩
        rw [List.length_set]; rfl
      · try dsimp only at hc2
        refine W.seq ?_
        refine W.region _ ?_
        refine WG.run tab_ok 2 rfl ?_
        refine WG.nil ?_
        refine WE.nxt ?_
        refine W.condE rfl (fun hc3 => ?_) (fun hc3 => ?_)
        · try dsimp only at hc3
          refine W.region _ ?_
          refine WG.run tab_ok 2 rfl ?_
          refine WL.cap 0 rfl ?_
          intro hcap
          rw [List.length_map] at hcap
          refine WG.y rfl rfl (by decide) (Yl.sliceH tab_ok rfl rfl rfl rfl rfl (fun _ => rfl) (by intro _; omega) rfl) ?_
          refine WL.freeze (enc := encZ) (xs := z) 0 rfl ?_
          intro R1 hR1 hqs
          refine WG.run tab_ok 1 rfl ?_
          refine WG.nil ?_
          refine WE.blk _ ?_
          refine WE.nxt ?_
          refine W.seq ?_
          refine W.region _ ?_
          refine WG.run tab_ok 2 rfl ?_
          refine WG.nil ?_
          refine WE.nxt ?_
          refine W.ret ?_
          refine WE.subE (E' := srcE b a cp xs (c + 1 + 1) :: F) (by (repeat (first | exact List.Sublist.refl _ | exact List.nil_sublist _ | apply List.Sublist.cons_cons | apply List.Sublist.cons)); done) ?_
          refine WE.retF tab_ok [_] rfl ⟨rfl, trivial⟩ (hR1) ?_
          refine ⟨_, [], rfl, a9, c9, _, z.take (mod (nth xs c) z.length).toNat, ?_, hqs.take _, rfl, rfl⟩
          rw [List.length_take, Nat.min_eq_left (by omega)]; rfl
        · try dsimp only at hc3
          refine W.block ?_
          refine W.loop (β := List Sz × Option Addr × Nat × Nat) (fun (qs, aq, cq, cn) => qs.length ≤ 2000) (fun (qs, aq, cq, cn) => [(0, true, .pointer (some ⟨b, 0, none⟩)), (5, true, .slice aq qs.length cq)]) (fun _ => R) (fun (qs, aq, cq, cn) => .sl 49 2 aq cq (qs.map encZ) :: srcE b a cp xs cn :: F) (fun (qs, aq, cq, cn) => 2000 - qs.length) ((z, a9, c9, c + 1 + 1)) ((by dsimp only; omega)) ⟨rfl, rfl, rfl⟩ (RLe.refl _) (by (repeat (first | exact List.Sublist.refl _ | exact List.nil_sublist _ | apply List.Sublist.cons_cons | apply List.Sublist.cons)); done) ?_
          intro st hst
          obtain ⟨qs, aq, cq, cn⟩ := st
          dsimp only at hst ⊢
          have hm3 := mod_range (nth xs cn) (show (1 : Int) ≤ 2 by decide)
          refine W.seq ?_
          refine W.seq ?_
          refine W.region _ ?_
          refine WG.run tab_ok 3 rfl ?_
          refine WL.callAt 1 en21 rfl rfl (by decide) (CallOp.mkT rfl rfl rfl rfl) rfl (N_C w0 ha (by constructor <;> omega) _) ?_
          rintro _ _ _ _ - ⟨rfl, rfl, rfl, rfl⟩
          refine WG.y rfl rfl (by decide) (Yl.add rfl rfl rfl (fun _ => rfl) (by intro _; constructor <;> (try dsimp only) <;> omega)) ?_
          refine WG.run tab_ok 1 rfl ?_
          refine WG.nil ?_
          refine WE.nxt ?_
          refine W.condD rfl (fun hc4 => ?_) (fun hc4 => ?_)
          · try dsimp only at hc4
            refine W.skip ?_
            refine WE.nxt ?_
            refine W.block ?_
            refine W.region _ ?_
            refine WG.run tab_ok 1 rfl ?_
            -- build
            refine WG.y rfl rfl (by decide) (Yl.build (parts := [(0, .const (.int .i64 1)), (1, .const (.int .i64 9))]) tab_ok rfl rfl rfl rfl (fun _ => rfl) rfl rfl) ?_
            refine WL.ef rfl rfl (by decide) (Ef.buildSliceD (enc := encZ) (parts := [.tmp 27]) [⟨_, _⟩] tab_ok rfl rfl rfl rfl rfl rfl rfl rfl (by decide) (by decide) (fun a28 => ?_))
            first | refine WL.ef rfl rfl (by decide) (Ef.appendD 1 0 tab_ok rfl rfl rfl rfl rfl rfl rfl rfl rfl rfl rfl (fun _ _ => rfl) (by simp only [List.length_cons, List.length_nil]; omega) (by simp only [List.length_cons, List.length_nil]; omega) (fun a29 c29 ha29 => ?_)) | refine WL.ef rfl rfl (by decide) (Ef.appendD 2 0 tab_ok rfl rfl rfl rfl rfl rfl rfl rfl rfl rfl rfl (fun _ _ => rfl) (by simp only [List.length_cons, List.length_nil]; omega) (by simp only [List.length_cons, List.length_nil]; omega) (fun a29 c29 ha29 => ?_)) | refine WL.ef rfl rfl (by decide) (Ef.appendD 3 0 tab_ok rfl rfl rfl rfl rfl rfl rfl rfl rfl rfl rfl (fun _ _ => rfl) (by simp only [List.length_cons, List.length_nil]; omega) (by simp only [List.length_cons, List.length_nil]; omega) (fun a29 c29 ha29 => ?_)) | refine WL.ef rfl rfl (by decide) (Ef.appendD 4 0 tab_ok rfl rfl rfl rfl rfl rfl rfl rfl rfl rfl rfl (fun _ _ => rfl) (by simp only [List.length_cons, List.length_nil]; omega) (by simp only [List.length_cons, List.length_nil]; omega) (fun a29 c29 ha29 => ?_)) | refine WL.ef rfl rfl (by decide) (Ef.appendR 0 tab_ok rfl rfl rfl rfl rfl rfl rfl rfl rfl rfl (by assumption) (fun _ _ => rfl) (by (try dsimp only); omega) (by omega) (fun a29 c29 ha29 => ?_)) | refine WL.ef rfl rfl (by decide) (Ef.appendR 1 tab_ok rfl rfl rfl rfl rfl rfl rfl rfl rfl rfl (by assumption) (fun _ _ => rfl) (by (try dsimp only); omega) (by omega) (fun a29 c29 ha29 => ?_)) | refine WL.ef rfl rfl (by decide) (Ef.appendR 2 tab_ok rfl rfl rfl rfl rfl rfl rfl rfl rfl rfl (by assumption) (fun _ _ => rfl) (by (try dsimp only); omega) (by omega) (fun a29 c29 ha29 => ?_)) | refine WL.ef rfl rfl (by decide) (Ef.appendR 3 tab_ok rfl rfl rfl rfl rfl rfl rfl rfl rfl rfl (by assumption) (fun _ _ => rfl) (by (try dsimp only); omega) (by omega) (fun a29 c29 ha29 => ?_)) | refine WL.ef rfl rfl (by decide) (Ef.appendR 4 tab_ok rfl rfl rfl rfl rfl rfl rfl rfl rfl rfl (by assumption) (fun _ _ => rfl) (by (try dsimp only); omega) (by omega) (fun a29 c29 ha29 => ?_))
            refine WG.run tab_ok 1 rfl ?_
            refine WG.nil ?_
            refine WE.blk _ ?_
            refine WE.again ((qs ++ [(⟨1, 9⟩ : Sz)], a29, c29, cn + 1)) ((by dsimp only; simp only [List.length_append, List.length_cons, List.length_nil]; omega)) (by simp only [List.length_append, List.length_cons, List.length_nil]; omega) ⟨rfl, rfl, rfl⟩ (RLe.refl _) (by (repeat (first | exact List.Sublist.refl _ | exact List.nil_sublist _ | apply List.Sublist.cons_cons | apply List.Sublist.cons)); done)
          · try dsimp only at hc4
            refine W.freeze (enc := encZ) (xs := qs) 0 rfl ?_
            intro R1 hR1 hqs
            refine W.exit ?_
            refine WE.then_exit ?_
            refine WE.then_exit ?_
            refine WE.blk_exit ?_
            refine WE.blk _ ?_
            refine WE.nxt ?_
            refine W.seq ?_
            refine W.region _ ?_
            refine WG.run tab_ok 2 rfl ?_
            refine WG.nil ?_
            refine WE.nxt ?_
            refine W.ret ?_
            refine WE.subE (E' := srcE b a cp xs (cn + 1) :: F) (by (repeat (first | exact List.Sublist.refl _ | exact List.nil_sublist _ | apply List.Sublist.cons_cons | apply List.Sublist.cons)); done) ?_
            refine WE.retF tab_ok [_] rfl ⟨rfl, trivial⟩ (hR1) ?_
            exact ⟨_, [], rfl, _, _, _, _, rfl, hqs, rfl, rfl⟩

end Go.Proofs.Ytnaeefefggmomaa

/- Chapter 19: the curves. No condition. -/
set_option linter.unusedSimpArgs false
set_option linter.unusedVariables false
namespace Go.Proofs.Ytnaeefefggmomaa
open Go Go.RowKit Go.Proofs.Ytnaeefefggmomaa.K Go.Proofs.Ytnaeefefggmomaa.M

structure SlZ where
  a : Option Addr
  cap : Nat
  xs : List Sz
instance instSlZ : Inhabited SlZ := ⟨⟨none, 0, []⟩⟩
def encW (s : SlZ) : List Value := [.slice s.a s.xs.length s.cap]
theorem foldl_inv {α β : Type} {f : β → α → β} {I : β → Prop} : ∀ (l : List α) (b : β), I b → (∀ b a, a ∈ l → I b → I (f b a)) → I (l.foldl f b)
  | [], b, h, _ => h
  | x :: l, b, h, hs => foldl_inv l (f b x) (hs b x (by simp) h) (fun b a ha hb => hs b a (by simp [ha]) hb)
theorem sizes_ok {ps : List Pkt} {n : Nat} {M : Int} (hM : 0 ≤ M) (hs : ∀ p ∈ ps, 1 ≤ p.size ∧ p.size ≤ M) : (sizesL n ps).length = n ∧ ∀ s ∈ sizesL n ps, 0 ≤ s.least ∧ s.least ≤ s.most ∧ s.most ≤ M := by
  unfold sizesL
  refine foldl_inv (I := fun (z : List Sz) => z.length = n ∧ ∀ s ∈ z, 0 ≤ s.least ∧ s.least ≤ s.most ∧ s.most ≤ M) ps _ ⟨by simp, fun s h => ?_⟩ ?_
  · obtain rfl := List.eq_of_mem_replicate h
    exact ⟨by decide, by decide, hM⟩
  · intro z p hp ⟨h1, h2⟩
    have hps := hs p hp
    refine ⟨by rw [szAdd_len]; exact h1, ?_⟩
    unfold szAdd
    split
    · exact h2
    · rename_i hf
      have hfl : p.flow.toNat < z.length := by omega
      have h3 : ∀ s ∈ szPre z p, 0 ≤ s.least ∧ s.least ≤ s.most ∧ s.most ≤ M := by
        unfold szPre
        split
        · intro s h
          rcases List.mem_or_eq_of_mem_set h with h | rfl
          · exact h2 s h
          · dsimp only; omega
        · exact h2
      intro s h
      have h4 := h3 _ (nth_mem (xs := szPre z p) (k := p.flow.toNat) (by rw [szPre_len]; exact hfl))
      rcases List.mem_or_eq_of_mem_set h with h | rfl
      · exact h3 s h
      · dsimp only
        split <;> split <;> omega

end Go.Proofs.Ytnaeefefggmomaa

/- Time slots, plain: a class's curve is what it is served, and greater packets have a lesser one. No condition. -/
namespace Go.Proofs.Ytnaeefefggmomaa.M
open Go Go.Proofs.Ytnaeefefggmomaa.K

theorem FC.valid {F : Nat → Int} {S P : Nat} {I : Int} (h : FC F S P I) : validB ⟨fvals F (S + P), P, I⟩ = true := by
  have hP := h.hP
  have hn := h.hn
  have hI := h.hI
  rw [validB_iff]
  dsimp only
  rw [fvals_len]
  refine ⟨⟨by omega, by omega, by omega, by omega, by omega, by omega, by unfold MAXV; omega⟩, fun i hi => ?_, ?_⟩
  · rw [fvals_nth F hi]
    have a := h.nonneg i
    have b := h.hb i hi
    refine ⟨.inr ⟨a, by unfold MAXV; omega⟩, ?_⟩
    by_cases h0 : i = 0
    · exact .inl h0
    · right
      rw [fvals_nth F (by omega)]
      exact h.mono (show i - 1 ≤ i by omega)
  · rw [fvals_nth F (by omega), if_neg (h.fin (by omega)), Int.toNat_natCast, fvals_nth F (by omega)]
    have h1 := h.hg (S + P - P) (by omega)
    have h2 := h.mono (show S + P - 1 ≤ S + P - P + P by omega)
    omega
end Go.Proofs.Ytnaeefefggmomaa.M

/- The rules of the walks, over any program: a call that only reads the memory that is owned. No condition. -/
namespace Go.Proofs.Ytnaeefefggmomaa.K
open Go Go.RowKit

/-- a call that hands back this value and leaves this memory as it is -/
def FnE (P : Program) (f : FuncId) (args : List Value) (w0 : World) (R : Ro) (E : List Ent) (v : Value) : Prop :=
  ∀ w, Mem w0 w R E → Calls P f args.toArray w fun e w' => e = .returned v ∧ Mem w0 w' R E
section
variable {P : Program} {ops : List Oper} {Q : Exit → Act → World → Prop} {rest : List Oper} {n : Nat} {env : Env} {w0 : World} {R : Ro} {E : List Ent} {o : Oper} {pc q draw : Bool}
theorem Fn.toE {f : FuncId} {args : List Value} {v : Value} (h : Fn P f args w0 R E (fun v' _ E' => v' = v ∧ E' = E)) : FnE P f args w0 R E v := by
  intro w hm
  refine (h w hm).mono ?_
  rintro e w' ⟨v', R', E', rfl, hR, hm', rfl, rfl⟩
  exact ⟨rfl, hm'.sub hR (List.Sublist.refl _)⟩
theorem WG.callE {v : Value} {d : Nat} {f : FuncId} {vs : List Value} (hf : Enters P f) (hg : gpc ops env o = some pc) (hd : o.dst = some d) (hdn : d < n)
    (hc : CallOp env o.op q f vs) (hq : pc = true → q = true) (hv : pc = true → FnE P f vs w0 R E v)
    (h : WG draw P ops Q rest n ((d, pc, v) :: env) w0 R E) : WG draw P ops Q (o :: rest) n env w0 R E := by
  cases draw with
  | false =>
    intro a w hk hm
    refine wpList_step fun K hK => ?_
    rw [hk.wanted hg]
    have hput := hk.put hdn pc v
    cases pc with
    | true =>
      simp only [if_true, Oper.wp, run_call hk hc (hq rfl) hf, Oper.upon, hd]
      refine (hv rfl w hm).mono ?_
      rintro e w' ⟨rfl, hm'⟩
      exact hK _ _ (h _ _ (by simpa using hput) hm')
    | false =>
      simp only [Bool.false_eq_true, if_false, hd]
      exact hK _ _ (h _ _ (by simpa using hput) hm)
  | true =>
    intro a hk
    refine wpQuiet_step fun K hK => ?_
    rw [hk.wanted hg]
    have hput := hk.put hdn pc v
    cases pc with
    | true =>
      simp only [if_true]
      refine ⟨v, fun w hm => ?_, ?_⟩
      · unfold Oper.quietAt
        rw [run_call hk hc (hq rfl) hf]
        exact ⟨rfl, hv rfl w hm⟩
      · rw [hd]; exact hK _ (h _ (by simpa using hput))
    | false =>
      simp only [Bool.false_eq_true, if_false, hd]
      exact hK _ (h _ (by simpa using hput))
end
end Go.Proofs.Ytnaeefefggmomaa.K
namespace Go.Proofs.Ytnaeefefggmomaa.K
open Go Go.RowKit
section
variable {P : Program} {n : Nat} {env : Env} {w0 : World} {R : Ro} {E : List Ent} {o : Oper} {pc p q : Bool}
end
end Go.Proofs.Ytnaeefefggmomaa.K
namespace Go.Proofs.Ytnaeefefggmomaa.K
open Go Go.RowKit
section
variable {P : Program} {n : Nat} {env : Env} {w0 : World} {R : Ro} {E : List Ent} {o : Oper} {pc p q : Bool}
end
theorem RS.some {α : Type} {_i : Inhabited α} {R : Ro} {k : Nat} {enc : α → List Value} {a : Option Addr} {xs : List α} (h : RS (_i := _i) R k enc a xs) (hx : 0 < xs.length) : a.isNone = false := by
  rcases h.2.1 with h1 | ⟨b, off, cs, h1, _⟩
  · rw [List.map_eq_nil_iff] at h1; rw [h1] at hx; simp at hx
  · rw [h1]; rfl
end Go.Proofs.Ytnaeefefggmomaa.K

/- Chapter 21: the choice. No condition. -/
set_option linter.unusedSimpArgs false
set_option linter.unusedVariables false
namespace Go.Proofs.Ytnaeefefggmomaa
open Go Go.RowKit Go.Proofs.Ytnaeefefggmomaa.K Go.Proofs.Ytnaeefefggmomaa.M

theorem Ahead_V {R : Ro} {wa : Option Addr} {wc : Nat} {tb : List Int} (hwr : RS R 1 encI wa tb) {cls : Int} {t : Nat} (hl : tb.length ≤ 1000) (ht : t ≤ 1000000) : FnV Try.prog 125 [.slice wa tb.length wc, .int .i64 cls, .int .i64 (t : Int)] R (.tuple #[.int .i64 (aheadV tb cls t).1, .bool (aheadV tb cls t).2]) := by
  have hla := hwr.len
  refine Fn.toV (fun w0 E => ?_)
  refine Fn.enter (n := 31) Try.func125 rfl rfl (Nat.le_of_ble_eq_true rfl) rfl ?_
  refine W.seq ?_
  refine W.region _ ?_
  refine WG.run tab_ok 2 rfl ?_
  refine WG.nil ?_
  refine WE.nxt ?_
  refine W.seq ?_
  refine W.seq ?_
  refine W.region _ ?_
  refine WG.run tab_ok 3 rfl ?_
  refine WG.nil ?_
  refine WE.nxt ?_
  refine W.block ?_
  refine W.loopK (β := Nat) (fun k => k ≤ tb.length ∧ ∀ j, j < k → aheadP tb cls t j = false) (fun k => [(11, true, .int .i64 (k : Int))]) [0, 1, 2, 10] [_, _, _, _] [] _ rfl (fun k => []) (fun k => tb.length - k) (0) (⟨Nat.zero_le _, fun j hj => by omega⟩) ⟨rfl, rfl, rfl, rfl, rfl, rfl⟩ (by (repeat (first | exact List.Sublist.refl _ | exact List.nil_sublist _ | apply List.Sublist.cons_cons | apply List.Sublist.cons)); done) ?_
  intro k hst
  dsimp only [zipE, setAll, List.cons_append, List.nil_append, List.set_cons_zero, List.set_cons_succ] at hst ⊢
  obtain ⟨hk, hno⟩ := hst
  have hce : ((t : Int) + (k : Int)) % (tb.length : Int) = (((t + k) % tb.length : Nat) : Int) := rfl
  have hml : 0 < tb.length → (t + k) % tb.length < tb.length := fun h => Nat.mod_lt _ h
  refine W.seq ?_
  refine W.region _ ?_
  refine WG.run tab_ok 1 rfl ?_
  refine WG.nil ?_
  refine WE.nxt ?_
  refine W.seq ?_
  refine W.condD rfl (fun hc0 => ?_) (fun hc0 => ?_)
  · try dsimp only at hc0
    have hkl : k < tb.length := by omega
    have hml := hml (by omega)
    refine W.skip ?_
    refine WE.nxt ?_
    refine W.seq ?_
    refine W.block ?_
    refine W.seq ?_
    refine W.region _ ?_
    refine WG.run tab_ok 2 rfl ?_
    refine WG.nil ?_
    refine WE.nxt ?_
    refine W.seq ?_
    refine W.region _ ?_
    refine WG.run tab_ok 3 rfl ?_
    refine WG.y rfl rfl (by decide) (pureV_ok tab_ok rfl (by first | exact fun _ => rfl | exact fun h => h | (intro h; simp_all))) ?_
    refine WG.y rfl rfl (by decide) (pureV_ok tab_ok rfl (by first | exact fun _ => rfl | exact fun h => h | (intro h; simp_all))) ?_
    refine WG.y rfl rfl (by decide) (pureV_ok tab_ok rfl (by first | exact fun _ => rfl | exact fun h => h | (intro h; simp_all))) ?_
    refine WG.y rfl rfl (by decide) (Yl.add rfl rfl rfl (by first | exact fun _ => rfl | exact fun h => h | (intro h; simp_all)) (by intro hg; (try simp only [decide_eq_true_eq, decide_eq_false_iff_not, beq_iff_eq, bne_iff_ne, beq_eq_false_iff_ne, bne_eq_false_iff_eq, ne_eq, Bool.or_eq_true, Bool.or_eq_false_iff, Bool.and_eq_true, Bool.and_eq_false_imp, Bool.not_eq_true, Bool.not_eq_true', Bool.not_eq_false', Classical.not_not, Int.not_lt, Int.not_le, gt_iff_lt, ge_iff_le] at hg); constructor <;> (try dsimp only) <;> omega)) ?_
    refine WG.y rfl rfl (by decide) (pureV_ok tab_ok rfl (by first | exact fun _ => rfl | exact fun h => h | (intro h; simp_all))) ?_
    refine WG.y rfl rfl (by decide) (pureV_ok tab_ok rfl (by first | exact fun _ => rfl | exact fun h => h | (intro h; simp_all))) ?_
    refine WG.y rfl rfl (by decide) (Yl.rem rfl rfl rfl (by first | exact fun _ => rfl | exact fun h => h | (intro h; simp_all)) (by intro hg; (try simp only [decide_eq_true_eq, decide_eq_false_iff_not, beq_iff_eq, bne_iff_ne, beq_eq_false_iff_ne, bne_eq_false_iff_eq, ne_eq, Bool.or_eq_true, Bool.or_eq_false_iff, Bool.and_eq_true, Bool.and_eq_false_imp, Bool.not_eq_true, Bool.not_eq_true', Bool.not_eq_false', Classical.not_not, Int.not_lt, Int.not_le, gt_iff_lt, ge_iff_le] at hg); (try dsimp only) <;> omega) (by intro hg; (try simp only [decide_eq_true_eq, decide_eq_false_iff_not, beq_iff_eq, bne_iff_ne, beq_eq_false_iff_ne, bne_eq_false_iff_eq, ne_eq, Bool.or_eq_true, Bool.or_eq_false_iff, Bool.and_eq_true, Bool.and_eq_false_imp, Bool.not_eq_true, Bool.not_eq_true', Bool.not_eq_false', Classical.not_not, Int.not_lt, Int.not_le, gt_iff_lt, ge_iff_le] at hg); (try dsimp only) <;> omega)) ?_
    rw [hce]
    refine WG.y rfl rfl (by decide) (Yl.indexN tab_ok rfl rfl rfl rfl rfl rfl (by first | exact fun _ => rfl | exact fun h => h | (intro h; simp_all)) (by intro hg; (try simp only [decide_eq_true_eq, decide_eq_false_iff_not, beq_iff_eq, bne_iff_ne, beq_eq_false_iff_ne, bne_eq_false_iff_eq, ne_eq, Bool.or_eq_true, Bool.or_eq_false_iff, Bool.and_eq_true, Bool.and_eq_false_imp, Bool.not_eq_true, Bool.not_eq_true', Bool.not_eq_false', Classical.not_not, Int.not_lt, Int.not_le, gt_iff_lt, ge_iff_le] at hg); (try dsimp only) <;> omega) (by intro hg; (try simp only [decide_eq_true_eq, decide_eq_false_iff_not, beq_iff_eq, bne_iff_ne, beq_eq_false_iff_ne, bne_eq_false_iff_eq, ne_eq, Bool.or_eq_true, Bool.or_eq_false_iff, Bool.and_eq_true, Bool.and_eq_false_imp, Bool.not_eq_true, Bool.not_eq_true', Bool.not_eq_false', Classical.not_not, Int.not_lt, Int.not_le, gt_iff_lt, ge_iff_le] at hg); first | exact fun _ _ _ _ => rfl | exact RS.has (by assumption) | exact fun _ _ _ _ => (by assumption) | exact HasMem.ownD 0 rfl | exact HasMem.ownD 1 rfl)) ?_
    refine' WG.y rfl rfl (by decide) (Yl.loadG tab_ok rfl rfl rfl (by first | exact fun _ => rfl | exact fun h => h | (intro h; simp_all)) ?r1 rfl ?h1 ?g1) ?_
    case r1 => (first | (apply RS.rdC; assumption) | exact Rd.slC 0 rfl | exact Rd.slC 1 rfl)
    case h1 => rfl
    case g1 => first | exact fun _ => trivial | (intro hg; (try simp only [decide_eq_true_eq, decide_eq_false_iff_not, beq_iff_eq, bne_iff_ne, beq_eq_false_iff_ne, bne_eq_false_iff_eq, ne_eq, Bool.or_eq_true, Bool.or_eq_false_iff, Bool.and_eq_true, Bool.and_eq_false_imp, Bool.not_eq_true, Bool.not_eq_true', Bool.not_eq_false', Classical.not_not, Int.not_lt, Int.not_le, gt_iff_lt, ge_iff_le] at hg); (try dsimp only); omega)
    refine WG.y rfl rfl (by decide) (pureV_ok tab_ok rfl (by first | exact fun _ => rfl | exact fun h => h | (intro h; simp_all))) ?_
    refine WG.y rfl rfl (by decide) (pureV_ok tab_ok rfl (by first | exact fun _ => rfl | exact fun h => h | (intro h; simp_all))) ?_
    refine WG.y rfl rfl (by decide) (Yl.por rfl rfl rfl (fun _ => rfl) (by intro h1 h2; simp_all <;> omega)) ?_
    refine WG.nil ?_
    refine WE.nxt ?_
    refine W.cond rfl (fun hc1 => ?_) (fun hc1 => ?_)
    · try simp only [decide_eq_true_eq, decide_eq_false_iff_not, beq_iff_eq, bne_iff_ne, beq_eq_false_iff_ne, bne_eq_false_iff_eq, ne_eq, Bool.or_eq_true, Bool.or_eq_false_iff, Bool.and_eq_true, Bool.and_eq_false_imp, Bool.not_eq_true, Bool.not_eq_true', Bool.not_eq_false', Classical.not_not, Int.not_lt, Int.not_le, gt_iff_lt, ge_iff_le] at hc1
      have hP : aheadP tb cls t k = true := aheadP_iff.2 hc1
      have hav : aheadV tb cls t = ((k : Int), true) := by unfold aheadV; rw [aheadN_some hkl hP hno, if_neg (by omega)]
      refine W.seq ?_
      refine W.region _ ?_
      refine WG.run tab_ok 3 rfl ?_
      refine WG.nil ?_
      refine WE.nxt ?_
      refine W.ret ?_
      refine WE.blk_ret ?_
      refine WE.then_ret ?_
      refine WE.then_ret ?_
      refine WE.blk_ret ?_
      refine WE.then_ret ?_
      refine WE.subE (E' := E) (by (repeat (first | exact List.Sublist.refl _ | exact List.nil_sublist _ | apply List.Sublist.cons_cons | apply List.Sublist.cons)); done) ?_
      refine WE.retF tab_ok [_, _] rfl ⟨rfl, rfl, trivial⟩ (RLe.refl _) ?_
      exact ⟨by rw [hav]; rfl, rfl⟩
    · try simp only [decide_eq_true_eq, decide_eq_false_iff_not, beq_iff_eq, bne_iff_ne, beq_eq_false_iff_ne, bne_eq_false_iff_eq, ne_eq, Bool.or_eq_true, Bool.or_eq_false_iff, Bool.and_eq_true, Bool.and_eq_false_imp, Bool.not_eq_true, Bool.not_eq_true', Bool.not_eq_false', Classical.not_not, Int.not_lt, Int.not_le, gt_iff_lt, ge_iff_le] at hc1
      have hP : aheadP tb cls t k = false := by
        rw [← Bool.not_eq_true, aheadP_iff]
        intro h
        rcases h with h | h <;> simp_all <;> omega
      refine W.skip ?_
      refine WE.blk _ ?_
      refine WE.nxt ?_
      refine W.region _ ?_
      refine WG.y rfl rfl (by decide) (Yl.add rfl rfl rfl (fun _ => rfl) (by intro _; constructor <;> (try dsimp only) <;> omega)) ?_
      refine WG.run tab_ok 1 rfl ?_
      refine WG.nil ?_
      refine WE.again (k + 1) (⟨by omega, fun j hj => by
        by_cases e : j = k
        · subst e; exact hP
        · exact hno j (by omega)⟩) (by (try dsimp only); omega) ⟨rfl, rfl, rfl, rfl, rfl, rfl⟩ (RLe.refl _) (by (repeat (first | exact List.Sublist.refl _ | exact List.nil_sublist _ | apply List.Sublist.cons_cons | apply List.Sublist.cons)); done)
  · try dsimp only at hc0
    have hav : aheadV tb cls t = (0, false) := by unfold aheadV; rw [if_pos (aheadN_none (fun j hj => hno j (by omega)))]
    refine W.exit ?_
    refine WE.then_exit ?_
    refine WE.then_exit ?_
    refine WE.blk_exit ?_
    refine WE.nxt ?_
    refine W.seq ?_
    refine W.region _ ?_
    refine WG.run tab_ok 2 rfl ?_
    refine WG.nil ?_
    refine WE.nxt ?_
    refine W.ret ?_
    refine WE.subE (E' := E) (by (repeat (first | exact List.Sublist.refl _ | exact List.nil_sublist _ | apply List.Sublist.cons_cons | apply List.Sublist.cons)); done) ?_
    refine WE.retF tab_ok [_, _] rfl ⟨rfl, rfl, trivial⟩ (RLe.refl _) ?_
    exact ⟨by rw [hav]; rfl, rfl⟩

theorem AheadT_V {R : Ro} {wa : Option Addr} {wc : Nat} {tb : List Int} (hwr : RS R 1 encI wa tb) {cls : Int} {t : Nat} (hl : tb.length ≤ 1000) (ht : t ≤ 1000000) : FnV Try.prog 77 [.slice wa tb.length wc, .int .i64 cls, .int .i64 (t : Int)] R (.tuple #[.int .i64 (aheadV tb cls t).1, .bool (aheadV tb cls t).2]) := by
  have hla := hwr.len
  refine Fn.toV (fun w0 E => ?_)
  refine Fn.enter (n := 14) Try.func77 rfl rfl (Nat.le_of_ble_eq_true rfl) rfl ?_
  refine W.seq ?_
  refine W.region _ ?_
  refine WG.run tab_ok 2 rfl ?_
  refine WG.nil ?_
  refine WE.nxt ?_
  refine W.seq ?_
  refine W.region _ ?_
  refine WG.run tab_ok 3 rfl ?_
  refine WG.callV en125 rfl rfl (by decide) (CallOp.mk' rfl rfl rfl rfl) (fun _ => rfl) (fun hg => Ahead_V hwr hl ht) ?_
  refine WG.run tab_ok 4 rfl ?_
  refine WG.nil ?_
  refine WE.nxt ?_
  refine W.ret ?_
  refine WE.subE (E' := E) (by (repeat (first | exact List.Sublist.refl _ | exact List.nil_sublist _ | apply List.Sublist.cons_cons | apply List.Sublist.cons)); done) ?_
  refine WE.retF tab_ok [_, _] rfl ⟨rfl, rfl, trivial⟩ (RLe.refl _) ?_
  exact ⟨rfl, rfl⟩

theorem ValidT_V {R : Ro} {wa : Option Addr} {wc : Nat} {tb : List Int} (hwr : RS R 1 encI wa tb) {n : Int} : FnV Try.prog 69 [.slice wa tb.length wc, .int .i64 n] R (.bool (okT n tb)) := by
  have hla := hwr.len
  refine Fn.toV (fun w0 E => ?_)
  refine Fn.enter (n := 29) Try.func69 rfl rfl (Nat.le_of_ble_eq_true rfl) rfl ?_
  refine W.seq ?_
  refine W.region _ ?_
  refine WG.run tab_ok 1 rfl ?_
  refine WG.nil ?_
  refine WE.nxt ?_
  refine W.seq ?_
  refine W.seq ?_
  refine W.region _ ?_
  refine WG.run tab_ok 4 rfl ?_
  refine WG.y rfl rfl (by decide) (pureV_ok tab_ok rfl (by first | exact fun _ => rfl | exact fun h => h | (intro h; simp_all))) ?_
  refine WG.y rfl rfl (by decide) (pureV_ok tab_ok rfl (by first | exact fun _ => rfl | exact fun h => h | (intro h; simp_all))) ?_
  refine WG.y rfl rfl (by decide) (pureV_ok tab_ok rfl (by first | exact fun _ => rfl | exact fun h => h | (intro h; simp_all))) ?_
  refine WG.y rfl rfl (by decide) (Yl.por rfl rfl rfl (fun _ => rfl) (by intro h1 h2; simp_all <;> omega)) ?_
  refine WG.nil ?_
  refine WE.nxt ?_
  refine W.cond rfl (fun hc0 => ?_) (fun hc0 => ?_)
  · try simp only [decide_eq_true_eq, decide_eq_false_iff_not, beq_iff_eq, bne_iff_ne, beq_eq_false_iff_ne, bne_eq_false_iff_eq, ne_eq, Bool.or_eq_true, Bool.or_eq_false_iff, Bool.and_eq_true, Bool.and_eq_false_imp, Bool.not_eq_true, Bool.not_eq_true', Bool.not_eq_false', Classical.not_not, Int.not_lt, Int.not_le, gt_iff_lt, ge_iff_le] at hc0
    have hk : okT n tb = false := by
      rw [← Bool.not_eq_true, okT_iff]
      intro h
      omega
    refine W.seq ?_
    refine W.region _ ?_
    refine WG.run tab_ok 1 rfl ?_
    refine WG.nil ?_
    refine WE.nxt ?_
    refine W.ret ?_
    refine WE.then_ret ?_
    refine WE.subE (E' := E) (by (repeat (first | exact List.Sublist.refl _ | exact List.nil_sublist _ | apply List.Sublist.cons_cons | apply List.Sublist.cons)); done) ?_
    refine WE.retF tab_ok [_] rfl ⟨rfl, trivial⟩ (RLe.refl _) ?_
    exact ⟨by rw [hk]; rfl, rfl⟩
  · try simp only [decide_eq_true_eq, decide_eq_false_iff_not, beq_iff_eq, bne_iff_ne, beq_eq_false_iff_ne, bne_eq_false_iff_eq, ne_eq, Bool.or_eq_true, Bool.or_eq_false_iff, Bool.and_eq_true, Bool.and_eq_false_imp, Bool.not_eq_true, Bool.not_eq_true', Bool.not_eq_false', Classical.not_not, Int.not_lt, Int.not_le, gt_iff_lt, ge_iff_le] at hc0
    have hl1 : 1 ≤ tb.length ∧ tb.length ≤ 40 := by omega
    refine W.skip ?_
    refine WE.nxt ?_
    refine W.seq ?_
    refine W.seq ?_
    refine W.region _ ?_
    refine WG.run tab_ok 3 rfl ?_
    refine WG.nil ?_
    refine WE.nxt ?_
    refine W.block ?_
    refine W.loopK (β := Nat) (fun k => k ≤ tb.length ∧ ∀ j, j < k → -1 ≤ nth tb j ∧ nth tb j < n) (fun k => [(17, true, .int .i64 (k : Int))]) [1, 15, 16] [_, _, _] [] _ rfl (fun k => []) (fun k => tb.length - k) (0) (⟨Nat.zero_le _, fun j hj => by omega⟩) ⟨rfl, rfl, rfl, rfl, rfl⟩ (by (repeat (first | exact List.Sublist.refl _ | exact List.nil_sublist _ | apply List.Sublist.cons_cons | apply List.Sublist.cons)); done) ?_
    intro k hst
    dsimp only [zipE, setAll, List.cons_append, List.nil_append, List.set_cons_zero, List.set_cons_succ] at hst ⊢
    
    refine W.seq ?_
    refine W.region _ ?_
    refine WG.run tab_ok 1 rfl ?_
    refine WG.nil ?_
    refine WE.nxt ?_
    refine W.seq ?_
    refine W.condD rfl (fun hc1 => ?_) (fun hc1 => ?_)
    · try dsimp only at hc1
      have hkl : k < tb.length := by omega
      refine W.skip ?_
      refine WE.nxt ?_
      refine W.seq ?_
      refine W.block ?_
      refine W.seq ?_
      refine W.region _ ?_
      refine WG.y rfl rfl (by decide) (Yl.indexN tab_ok rfl rfl rfl rfl rfl rfl (fun _ => rfl) (by intro _; (try dsimp only) <;> omega) (by intro _; first | exact fun _ _ _ _ => rfl | exact RS.has (by assumption) | exact fun _ _ _ _ => (by assumption) | exact HasMem.ownD 0 rfl | exact HasMem.ownD 1 rfl)) ?_
      refine' WG.y rfl rfl (by decide) (Yl.load1 tab_ok rfl rfl rfl (fun _ => rfl) ?r1 rfl ?h1) ?_
      case r1 => (first | (apply RS.rdD; assumption; ((try dsimp only) <;> omega)) | exact Rd.slD 0 rfl (by (try dsimp only) <;> omega) | exact Rd.slD 1 rfl (by (try dsimp only) <;> omega))
      case h1 => rfl
      refine WG.run tab_ok 1 rfl ?_
      refine WG.nil ?_
      refine WE.nxt ?_
      refine W.seq ?_
      refine W.region _ ?_
      refine WG.run tab_ok 3 rfl ?_
      refine WG.y rfl rfl (by decide) (pureV_ok tab_ok rfl (by first | exact fun _ => rfl | exact fun h => h | (intro h; simp_all))) ?_
      refine WG.y rfl rfl (by decide) (pureV_ok tab_ok rfl (by first | exact fun _ => rfl | exact fun h => h | (intro h; simp_all))) ?_
      refine WG.y rfl rfl (by decide) (pureV_ok tab_ok rfl (by first | exact fun _ => rfl | exact fun h => h | (intro h; simp_all))) ?_
      refine WG.y rfl rfl (by decide) (Yl.por rfl rfl rfl (fun _ => rfl) (by intro h1 h2; simp_all <;> omega)) ?_
      refine WG.nil ?_
      refine WE.nxt ?_
      refine W.cond rfl (fun hc2 => ?_) (fun hc2 => ?_)
      · try simp only [decide_eq_true_eq, decide_eq_false_iff_not, beq_iff_eq, bne_iff_ne, beq_eq_false_iff_ne, bne_eq_false_iff_eq, ne_eq, Bool.or_eq_true, Bool.or_eq_false_iff, Bool.and_eq_true, Bool.and_eq_false_imp, Bool.not_eq_true, Bool.not_eq_true', Bool.not_eq_false', Classical.not_not, Int.not_lt, Int.not_le, gt_iff_lt, ge_iff_le] at hc2
        have hk : okT n tb = false := by
          rw [← Bool.not_eq_true, okT_iff]
          intro h
          have := h.2.2 _ (nth_mem hkl)
          omega
        refine W.seq ?_
        refine W.region _ ?_
        refine WG.run tab_ok 1 rfl ?_
        refine WG.nil ?_
        refine WE.nxt ?_
        refine W.ret ?_
        refine WE.blk_ret ?_
        refine WE.then_ret ?_
        refine WE.then_ret ?_
        refine WE.blk_ret ?_
        refine WE.then_ret ?_
        refine WE.subE (E' := E) (by (repeat (first | exact List.Sublist.refl _ | exact List.nil_sublist _ | apply List.Sublist.cons_cons | apply List.Sublist.cons)); done) ?_
        refine WE.retF tab_ok [_] rfl ⟨rfl, trivial⟩ (RLe.refl _) ?_
        exact ⟨by rw [hk]; rfl, rfl⟩
      · try simp only [decide_eq_true_eq, decide_eq_false_iff_not, beq_iff_eq, bne_iff_ne, beq_eq_false_iff_ne, bne_eq_false_iff_eq, ne_eq, Bool.or_eq_true, Bool.or_eq_false_iff, Bool.and_eq_true, Bool.and_eq_false_imp, Bool.not_eq_true, Bool.not_eq_true', Bool.not_eq_false', Classical.not_not, Int.not_lt, Int.not_le, gt_iff_lt, ge_iff_le] at hc2
        refine W.skip ?_
        refine WE.blk _ ?_
        refine WE.nxt ?_
        refine W.region _ ?_
        refine WG.y rfl rfl (by decide) (Yl.add rfl rfl rfl (fun _ => rfl) (by intro _; constructor <;> (try dsimp only) <;> omega)) ?_
        refine WG.run tab_ok 1 rfl ?_
        refine WG.nil ?_
        refine WE.again (k + 1) (⟨by omega, fun j hj => by
          by_cases e : j = k
          · subst e; omega
          · exact hst.2 j (by omega)⟩) (by (try dsimp only); omega) ⟨rfl, rfl, rfl, rfl, rfl⟩ (RLe.refl _) (by (repeat (first | exact List.Sublist.refl _ | exact List.nil_sublist _ | apply List.Sublist.cons_cons | apply List.Sublist.cons)); done)
    · try dsimp only at hc1
      have hk : okT n tb = true := okT_at hl1.1 hl1.2 (fun j hj => hst.2 j (by omega))
      refine W.exit ?_
      refine WE.then_exit ?_
      refine WE.then_exit ?_
      refine WE.blk_exit ?_
      refine WE.nxt ?_
      refine W.seq ?_
      refine W.region _ ?_
      refine WG.run tab_ok 1 rfl ?_
      refine WG.nil ?_
      refine WE.nxt ?_
      refine W.ret ?_
      refine WE.subE (E' := E) (by (repeat (first | exact List.Sublist.refl _ | exact List.nil_sublist _ | apply List.Sublist.cons_cons | apply List.Sublist.cons)); done) ?_
      refine WE.retF tab_ok [_] rfl ⟨rfl, trivial⟩ (RLe.refl _) ?_
      exact ⟨by rw [hk]; rfl, rfl⟩

theorem Right21_V {R : Ro} {wa : Option Addr} {wc : Nat} {tb : List Int} (hwr : RS R 1 encI wa tb) {n : Int} : FnV Try.prog 74 [.slice wa tb.length wc, .int .i64 n] R (.bool (okT n tb)) := by
  have hla := hwr.len
  refine Fn.toV (fun w0 E => ?_)
  refine Fn.enter (n := 33) Try.func74 rfl rfl (Nat.le_of_ble_eq_true rfl) rfl ?_
  refine W.seq ?_
  refine W.region _ ?_
  refine WG.run tab_ok 1 rfl ?_
  refine WG.nil ?_
  refine WE.nxt ?_
  refine W.seq ?_
  refine W.seq ?_
  refine W.region _ ?_
  refine WG.run tab_ok 4 rfl ?_
  refine WG.y rfl rfl (by decide) (pureV_ok tab_ok rfl (by first | exact fun _ => rfl | exact fun h => h | (intro h; simp_all))) ?_
  refine WG.y rfl rfl (by decide) (pureV_ok tab_ok rfl (by first | exact fun _ => rfl | exact fun h => h | (intro h; simp_all))) ?_
  refine WG.y rfl rfl (by decide) (pureV_ok tab_ok rfl (by first | exact fun _ => rfl | exact fun h => h | (intro h; simp_all))) ?_
  refine WG.y rfl rfl (by decide) (Yl.por rfl rfl rfl (fun _ => rfl) (by intro h1 h2; simp_all <;> omega)) ?_
  refine WG.nil ?_
  refine WE.nxt ?_
  refine W.cond rfl (fun hc0 => ?_) (fun hc0 => ?_)
  · try simp only [decide_eq_true_eq, decide_eq_false_iff_not, beq_iff_eq, bne_iff_ne, beq_eq_false_iff_ne, bne_eq_false_iff_eq, ne_eq, Bool.or_eq_true, Bool.or_eq_false_iff, Bool.and_eq_true, Bool.and_eq_false_imp, Bool.not_eq_true, Bool.not_eq_true', Bool.not_eq_false', Classical.not_not, Int.not_lt, Int.not_le, gt_iff_lt, ge_iff_le] at hc0
    have hk : okT n tb = false := by
      rw [← Bool.not_eq_true, okT_iff]
      intro h
      omega
    refine W.seq ?_
    refine W.region _ ?_
    refine WG.run tab_ok 1 rfl ?_
    refine WG.nil ?_
    refine WE.nxt ?_
    refine W.ret ?_
    refine WE.then_ret ?_
    refine WE.subE (E' := E) (by (repeat (first | exact List.Sublist.refl _ | exact List.nil_sublist _ | apply List.Sublist.cons_cons | apply List.Sublist.cons)); done) ?_
    refine WE.retF tab_ok [_] rfl ⟨rfl, trivial⟩ (RLe.refl _) ?_
    exact ⟨by rw [hk]; rfl, rfl⟩
  · try simp only [decide_eq_true_eq, decide_eq_false_iff_not, beq_iff_eq, bne_iff_ne, beq_eq_false_iff_ne, bne_eq_false_iff_eq, ne_eq, Bool.or_eq_true, Bool.or_eq_false_iff, Bool.and_eq_true, Bool.and_eq_false_imp, Bool.not_eq_true, Bool.not_eq_true', Bool.not_eq_false', Classical.not_not, Int.not_lt, Int.not_le, gt_iff_lt, ge_iff_le] at hc0
    have hl1 : 1 ≤ tb.length ∧ tb.length ≤ 40 := by omega
    refine W.skip ?_
    refine WE.nxt ?_
    refine W.seq ?_
    refine W.seq ?_
    refine W.region _ ?_
    refine WG.run tab_ok 1 rfl ?_
    refine WG.nil ?_
    refine WE.nxt ?_
    refine W.block ?_
    refine W.loopK (β := Nat) (fun k => k ≤ tb.length ∧ ∀ j, j < k → -1 ≤ nth tb j ∧ nth tb j < n) (fun k => [(5, true, .int .i64 (k : Int))]) [0, 1] [_, _] [] _ rfl (fun k => []) (fun k => tb.length - k) (0) (⟨Nat.zero_le _, fun j hj => by omega⟩) ⟨rfl, rfl, rfl, rfl⟩ (by (repeat (first | exact List.Sublist.refl _ | exact List.nil_sublist _ | apply List.Sublist.cons_cons | apply List.Sublist.cons)); done) ?_
    intro k hst
    dsimp only [zipE, setAll, List.cons_append, List.nil_append, List.set_cons_zero, List.set_cons_succ] at hst ⊢
    
    refine W.seq ?_
    refine W.seq ?_
    refine W.region _ ?_
    refine WG.run tab_ok 4 rfl ?_
    refine WG.nil ?_
    refine WE.nxt ?_
    refine W.condD rfl (fun hc1 => ?_) (fun hc1 => ?_)
    · try dsimp only at hc1
      have hkl : k < tb.length := by omega
      refine W.skip ?_
      refine WE.nxt ?_
      refine W.seq ?_
      refine W.block ?_
      refine W.seq ?_
      refine W.region _ ?_
      refine WG.run tab_ok 2 rfl ?_
      refine WG.y rfl rfl (by decide) (Yl.indexN tab_ok rfl rfl rfl rfl rfl rfl (fun _ => rfl) (by intro _; (try dsimp only) <;> omega) (by intro _; first | exact fun _ _ _ _ => rfl | exact RS.has (by assumption) | exact fun _ _ _ _ => (by assumption) | exact HasMem.ownD 0 rfl | exact HasMem.ownD 1 rfl)) ?_
      refine' WG.y rfl rfl (by decide) (Yl.load1 tab_ok rfl rfl rfl (fun _ => rfl) ?r1 rfl ?h1) ?_
      case r1 => (first | (apply RS.rdD; assumption; ((try dsimp only) <;> omega)) | exact Rd.slD 0 rfl (by (try dsimp only) <;> omega) | exact Rd.slD 1 rfl (by (try dsimp only) <;> omega))
      case h1 => rfl
      refine WG.run tab_ok 2 rfl ?_
      refine WG.y rfl rfl (by decide) (pureV_ok tab_ok rfl (by first | exact fun _ => rfl | exact fun h => h | (intro h; simp_all))) ?_
      refine WG.y rfl rfl (by decide) (pureV_ok tab_ok rfl (by first | exact fun _ => rfl | exact fun h => h | (intro h; simp_all))) ?_
      refine WG.y rfl rfl (by decide) (Yl.indexN tab_ok rfl rfl rfl rfl rfl rfl (by first | exact fun _ => rfl | exact fun h => h | (intro h; simp_all)) (by intro hg; (try simp only [decide_eq_true_eq, decide_eq_false_iff_not, beq_iff_eq, bne_iff_ne, beq_eq_false_iff_ne, bne_eq_false_iff_eq, ne_eq, Bool.or_eq_true, Bool.or_eq_false_iff, Bool.and_eq_true, Bool.and_eq_false_imp, Bool.not_eq_true, Bool.not_eq_true', Bool.not_eq_false', Classical.not_not, Int.not_lt, Int.not_le, gt_iff_lt, ge_iff_le] at hg); (try dsimp only) <;> omega) (by intro hg; (try simp only [decide_eq_true_eq, decide_eq_false_iff_not, beq_iff_eq, bne_iff_ne, beq_eq_false_iff_ne, bne_eq_false_iff_eq, ne_eq, Bool.or_eq_true, Bool.or_eq_false_iff, Bool.and_eq_true, Bool.and_eq_false_imp, Bool.not_eq_true, Bool.not_eq_true', Bool.not_eq_false', Classical.not_not, Int.not_lt, Int.not_le, gt_iff_lt, ge_iff_le] at hg); first | exact fun _ _ _ _ => rfl | exact RS.has (by assumption) | exact fun _ _ _ _ => (by assumption) | exact HasMem.ownD 0 rfl | exact HasMem.ownD 1 rfl)) ?_
      refine' WG.y rfl rfl (by decide) (Yl.loadG tab_ok rfl rfl rfl (by first | exact fun _ => rfl | exact fun h => h | (intro h; simp_all)) ?r2 rfl ?h2 ?g2) ?_
      case r2 => (first | (apply RS.rdC; assumption) | exact Rd.slC 0 rfl | exact Rd.slC 1 rfl)
      case h2 => rfl
      case g2 => first | exact fun _ => trivial | (intro hg; (try simp only [decide_eq_true_eq, decide_eq_false_iff_not, beq_iff_eq, bne_iff_ne, beq_eq_false_iff_ne, bne_eq_false_iff_eq, ne_eq, Bool.or_eq_true, Bool.or_eq_false_iff, Bool.and_eq_true, Bool.and_eq_false_imp, Bool.not_eq_true, Bool.not_eq_true', Bool.not_eq_false', Classical.not_not, Int.not_lt, Int.not_le, gt_iff_lt, ge_iff_le] at hg); (try dsimp only); omega)
      refine WG.y rfl rfl (by decide) (pureV_ok tab_ok rfl (by first | exact fun _ => rfl | exact fun h => h | (intro h; simp_all))) ?_
      refine WG.y rfl rfl (by decide) (pureV_ok tab_ok rfl (by first | exact fun _ => rfl | exact fun h => h | (intro h; simp_all))) ?_
      refine WG.y rfl rfl (by decide) (Yl.por rfl rfl rfl (fun _ => rfl) (by intro h1 h2; simp_all <;> omega)) ?_
      refine WG.nil ?_
      refine WE.nxt ?_
      refine W.cond rfl (fun hc2 => ?_) (fun hc2 => ?_)
      · try simp only [decide_eq_true_eq, decide_eq_false_iff_not, beq_iff_eq, bne_iff_ne, beq_eq_false_iff_ne, bne_eq_false_iff_eq, ne_eq, Bool.or_eq_true, Bool.or_eq_false_iff, Bool.and_eq_true, Bool.and_eq_false_imp, Bool.not_eq_true, Bool.not_eq_true', Bool.not_eq_false', Classical.not_not, Int.not_lt, Int.not_le, gt_iff_lt, ge_iff_le] at hc2
        have hk : okT n tb = false := by
          rw [← Bool.not_eq_true, okT_iff]
          intro h
          have := h.2.2 _ (nth_mem hkl)
          omega
        refine W.seq ?_
        refine W.region _ ?_
        refine WG.run tab_ok 1 rfl ?_
        refine WG.nil ?_
        refine WE.nxt ?_
        refine W.ret ?_
        refine WE.blk_ret ?_
        refine WE.then_ret ?_
        refine WE.then_ret ?_
        refine WE.blk_ret ?_
        refine WE.then_ret ?_
        refine WE.subE (E' := E) (by (repeat (first | exact List.Sublist.refl _ | exact List.nil_sublist _ | apply List.Sublist.cons_cons | apply List.Sublist.cons)); done) ?_
        refine WE.retF tab_ok [_] rfl ⟨rfl, trivial⟩ (RLe.refl _) ?_
        exact ⟨by rw [hk]; rfl, rfl⟩
      · try simp only [decide_eq_true_eq, decide_eq_false_iff_not, beq_iff_eq, bne_iff_ne, beq_eq_false_iff_ne, bne_eq_false_iff_eq, ne_eq, Bool.or_eq_true, Bool.or_eq_false_iff, Bool.and_eq_true, Bool.and_eq_false_imp, Bool.not_eq_true, Bool.not_eq_true', Bool.not_eq_false', Classical.not_not, Int.not_lt, Int.not_le, gt_iff_lt, ge_iff_le] at hc2
        refine W.skip ?_
        refine WE.blk _ ?_
        refine WE.nxt ?_
        refine W.region _ ?_
        refine WG.run tab_ok 1 rfl ?_
        refine WG.y rfl rfl (by decide) (Yl.add rfl rfl rfl (fun _ => rfl) (by intro _; constructor <;> (try dsimp only) <;> omega)) ?_
        refine WG.run tab_ok 1 rfl ?_
        refine WG.nil ?_
        refine WE.again (k + 1) (⟨by omega, fun j hj => by
          by_cases e : j = k
          · subst e; omega
          · exact hst.2 j (by omega)⟩) (by (try dsimp only); omega) ⟨rfl, rfl, rfl, rfl⟩ (RLe.refl _) (by (repeat (first | exact List.Sublist.refl _ | exact List.nil_sublist _ | apply List.Sublist.cons_cons | apply List.Sublist.cons)); done)
    · try dsimp only at hc1
      have hk : okT n tb = true := okT_at hl1.1 hl1.2 (fun j hj => hst.2 j (by omega))
      refine W.exit ?_
      refine WE.then_exit ?_
      refine WE.then_exit ?_
      refine WE.blk_exit ?_
      refine WE.nxt ?_
      refine W.seq ?_
      refine W.region _ ?_
      refine WG.run tab_ok 1 rfl ?_
      refine WG.nil ?_
      refine WE.nxt ?_
      refine W.ret ?_
      refine WE.subE (E' := E) (by (repeat (first | exact List.Sublist.refl _ | exact List.nil_sublist _ | apply List.Sublist.cons_cons | apply List.Sublist.cons)); done) ?_
      refine WE.retF tab_ok [_] rfl ⟨rfl, trivial⟩ (RLe.refl _) ?_
      exact ⟨by rw [hk]; rfl, rfl⟩

theorem MineT_V {R : Ro} {wa : Option Addr} {wc : Nat} {tb : List Int} (hwr : RS R 1 encI wa tb) {cls : Int} {t : Nat} (hn : 0 < tb.length) (hc : 0 ≤ cls) (ht : t ≤ 1000000) : FnV Try.prog 79 [.slice wa tb.length wc, .int .i64 cls, .int .i64 (t : Int)] R (.bool (mineT tb cls t)) := by
  have hla := hwr.len
  refine Fn.toV (fun w0 E => ?_)
  have hce : (t : Int) % (tb.length : Int) = ((t % tb.length : Nat) : Int) := rfl
  have hml := Nat.mod_lt t hn
  have hd : decide (cls ≥ 0) = true := decide_eq_true hc
  refine Fn.enter (n := 20) Try.func79 rfl rfl (Nat.le_of_ble_eq_true rfl) rfl ?_
  refine W.seq ?_
  refine W.region _ ?_
  refine WG.run tab_ok 1 rfl ?_
  refine WG.nil ?_
  refine WE.nxt ?_
  refine W.seq ?_
  refine W.region _ ?_
  refine WG.run tab_ok 3 rfl ?_
  refine WG.y rfl rfl (by decide) (pureV_ok tab_ok rfl (by first | exact fun _ => rfl | exact fun h => h | (intro h; simp_all))) ?_
  refine WG.y rfl rfl (by decide) (pureV_ok tab_ok rfl (by first | exact fun _ => rfl | exact fun h => h | (intro h; simp_all))) ?_
  refine WG.y rfl rfl (by decide) (pureV_ok tab_ok rfl (by first | exact fun _ => rfl | exact fun h => h | (intro h; simp_all))) ?_
  refine WG.y rfl rfl (by decide) (pureV_ok tab_ok rfl (by first | exact fun _ => rfl | exact fun h => h | (intro h; simp_all))) ?_
  refine WG.y rfl rfl (by decide) (Yl.rem rfl rfl rfl (by first | exact fun _ => rfl | exact fun h => h | (intro h; simp_all)) (by intro hg; (try simp only [decide_eq_true_eq, decide_eq_false_iff_not, beq_iff_eq, bne_iff_ne, beq_eq_false_iff_ne, bne_eq_false_iff_eq, ne_eq, Bool.or_eq_true, Bool.or_eq_false_iff, Bool.and_eq_true, Bool.and_eq_false_imp, Bool.not_eq_true, Bool.not_eq_true', Bool.not_eq_false', Classical.not_not, Int.not_lt, Int.not_le, gt_iff_lt, ge_iff_le] at hg); (try dsimp only) <;> omega) (by intro hg; (try simp only [decide_eq_true_eq, decide_eq_false_iff_not, beq_iff_eq, bne_iff_ne, beq_eq_false_iff_ne, bne_eq_false_iff_eq, ne_eq, Bool.or_eq_true, Bool.or_eq_false_iff, Bool.and_eq_true, Bool.and_eq_false_imp, Bool.not_eq_true, Bool.not_eq_true', Bool.not_eq_false', Classical.not_not, Int.not_lt, Int.not_le, gt_iff_lt, ge_iff_le] at hg); (try dsimp only) <;> omega)) ?_
  rw [hce]
  refine WG.y rfl rfl (by decide) (Yl.indexN tab_ok rfl rfl rfl rfl rfl rfl (by first | exact fun _ => rfl | exact fun h => h | (intro h; simp_all)) (by intro hg; (try simp only [decide_eq_true_eq, decide_eq_false_iff_not, beq_iff_eq, bne_iff_ne, beq_eq_false_iff_ne, bne_eq_false_iff_eq, ne_eq, Bool.or_eq_true, Bool.or_eq_false_iff, Bool.and_eq_true, Bool.and_eq_false_imp, Bool.not_eq_true, Bool.not_eq_true', Bool.not_eq_false', Classical.not_not, Int.not_lt, Int.not_le, gt_iff_lt, ge_iff_le] at hg); (try dsimp only) <;> omega) (by intro hg; (try simp only [decide_eq_true_eq, decide_eq_false_iff_not, beq_iff_eq, bne_iff_ne, beq_eq_false_iff_ne, bne_eq_false_iff_eq, ne_eq, Bool.or_eq_true, Bool.or_eq_false_iff, Bool.and_eq_true, Bool.and_eq_false_imp, Bool.not_eq_true, Bool.not_eq_true', Bool.not_eq_false', Classical.not_not, Int.not_lt, Int.not_le, gt_iff_lt, ge_iff_le] at hg); first | exact fun _ _ _ _ => rfl | exact RS.has (by assumption) | exact fun _ _ _ _ => (by assumption) | exact HasMem.ownD 0 rfl | exact HasMem.ownD 1 rfl)) ?_
  refine' WG.y rfl rfl (by decide) (Yl.loadG tab_ok rfl rfl rfl (by first | exact fun _ => rfl | exact fun h => h | (intro h; simp_all)) ?r1 rfl ?h1 ?g1) ?_
  case r1 => (first | (apply RS.rdC; assumption) | exact Rd.slC 0 rfl | exact Rd.slC 1 rfl)
  case h1 => rfl
  case g1 => first | exact fun _ => trivial | (intro hg; (try simp only [decide_eq_true_eq, decide_eq_false_iff_not, beq_iff_eq, bne_iff_ne, beq_eq_false_iff_ne, bne_eq_false_iff_eq, ne_eq, Bool.or_eq_true, Bool.or_eq_false_iff, Bool.and_eq_true, Bool.and_eq_false_imp, Bool.not_eq_true, Bool.not_eq_true', Bool.not_eq_false', Classical.not_not, Int.not_lt, Int.not_le, gt_iff_lt, ge_iff_le] at hg); (try dsimp only); omega)
  refine WG.y rfl rfl (by decide) (pureV_ok tab_ok rfl (by first | exact fun _ => rfl | exact fun h => h | (intro h; simp_all))) ?_
  refine WG.y rfl rfl (by decide) (pureV_ok tab_ok rfl (by first | exact fun _ => rfl | exact fun h => h | (intro h; simp_all))) ?_
  refine WG.y rfl rfl (by decide) (Yl.pand rfl rfl rfl (fun _ => rfl) (by intro h1 h2; simp_all <;> omega)) ?_
  refine WG.run tab_ok 1 rfl ?_
  refine WG.nil ?_
  refine WE.nxt ?_
  refine W.ret ?_
  refine WE.subE (E' := E) (by (repeat (first | exact List.Sublist.refl _ | exact List.nil_sublist _ | apply List.Sublist.cons_cons | apply List.Sublist.cons)); done) ?_
  refine WE.retF tab_ok [_] rfl ⟨rfl, trivial⟩ (RLe.refl _) ?_
  exact ⟨by show Value.bool (decide (cls ≥ 0) && _) = _; rw [hd]; rfl, rfl⟩

theorem SlotsMk_C {R : Ro} {wa : Option Addr} {wc n : Nat} {cap : Int} (w0 : World) (E : List Ent) : K.Fn Try.prog 73 [.int .i64 cap, .slice wa n wc] w0 R E (fun v R' E' => ∃ b2 b3 : Nat, v = .func (.func 124) #[] #[.pointer (some ⟨b3, 0, none⟩), .pointer (some ⟨b2, 0, none⟩)] ∧ R = R' ∧ E' = .blk b3 [.slice wa n wc] :: .blk b2 [.int .i64 cap] :: E) := by
  refine Fn.enter (n := 6) Try.func73 rfl rfl (Nat.le_of_ble_eq_true rfl) rfl ?_
  refine W.seq ?_
  refine W.region _ ?_
  refine WL.ef rfl rfl (by decide) (Ef.box rfl rfl (fun b2 => ?_))
  refine WL.ef rfl rfl (by decide) (Ef.box rfl rfl (fun b3 => ?_))
  refine WG.run tab_ok 1 rfl ?_
  refine WG.nil ?_
  refine WE.nxt ?_
  refine W.seq ?_
  refine W.region _ ?_
  refine WG.run tab_ok 2 rfl ?_
  refine WG.nil ?_
  refine WE.nxt ?_
  refine W.ret ?_
  refine WE.retF tab_ok [_] rfl ⟨rfl, trivial⟩ (RLe.refl _) ?_
  exact ⟨b2, b3, rfl, rfl, rfl⟩

theorem Size_C {R : Ro} {sb : Nat} {pa : Option Addr} {pc bg : Nat} {ps : List Pkt} {ms : MS} (w0 : World) (hp : RS R 3 encP pa ps) (i : Int) (h0 : 0 ≤ i) (h1 : i < ps.length) (F : List Ent) :
    K.Fn Try.prog 126 [.pointer (some ⟨sb, 0, none⟩), .int .i64 i] w0 R (stE sb pa ps.length pc bg ms :: F) (fun v R' E' => v = .int .i64 (szOf ps i) ∧ R = R' ∧ E' = stE sb pa ps.length pc bg ms :: F) := by
  have hla := hp.len
  refine Fn.enter (n := 13) Try.func126 rfl rfl (Nat.le_of_ble_eq_true rfl) rfl ?_
  refine W.seq ?_
  refine W.region _ ?_
  refine WG.run tab_ok 1 rfl ?_
  refine WG.nil ?_
  refine WE.nxt ?_
  refine W.seq ?_
  refine W.region _ ?_
  refine WG.run tab_ok 3 rfl ?_
  refine' WG.y rfl rfl (by decide) (Yl.load1 tab_ok rfl rfl rfl (fun _ => rfl) ?r1 rfl ?h1) ?_
  case r1 => apply Rd.add; (first | exact Rd.blk 0 rfl | exact Rd.blk 1 rfl | (apply RS.rdD; assumption; ((try dsimp only) <;> omega)) | exact Rd.slD 0 rfl (by (try dsimp only) <;> omega) | exact Rd.slD 1 rfl (by (try dsimp only) <;> omega))
  case h1 => rfl
  refine WG.run tab_ok 1 rfl ?_
  refine WG.y rfl rfl (by decide) (Yl.index tab_ok rfl rfl rfl rfl rfl rfl (fun _ => rfl) (by intro _; constructor <;> (try dsimp only) <;> omega) (by intro _; first | exact fun _ _ _ _ => rfl | exact RS.has (by assumption) | exact fun _ _ _ _ => (by assumption) | exact HasMem.ownD 0 rfl | exact HasMem.ownD 1 rfl)) ?_
  refine WG.run tab_ok 1 rfl ?_
  refine' WG.y rfl rfl (by decide) (Yl.load1 tab_ok rfl rfl rfl (fun _ => rfl) ?r2 rfl ?h2) ?_
  case r2 => apply Rd.add; (first | (apply RS.rdD; assumption; ((try dsimp only) <;> omega)) | exact Rd.slD 0 rfl (by (try dsimp only) <;> omega) | exact Rd.slD 1 rfl (by (try dsimp only) <;> omega))
  case h2 => rfl
  refine WG.run tab_ok 1 rfl ?_
  refine WG.nil ?_
  refine WE.nxt ?_
  refine W.ret ?_
  refine WE.retF tab_ok [_] rfl ⟨rfl, trivial⟩ (RLe.refl _) ?_
  exact ⟨rfl, rfl, rfl⟩

theorem Size_E {R : Ro} {sb : Nat} {pa : Option Addr} {pc bg : Nat} {ps : List Pkt} {ms : MS} (w0 : World) (hp : RS R 3 encP pa ps) (i : Int) (h0 : 0 ≤ i) (h1 : i < ps.length) (F : List Ent) :
    FnE Try.prog 126 [.pointer (some ⟨sb, 0, none⟩), .int .i64 i] w0 R (stE sb pa ps.length pc bg ms :: F) (.int .i64 (szOf ps i)) := by
  refine Fn.toE ?_
  intro w hm
  refine (Size_C w0 hp i h0 h1 F w hm).mono ?_
  rintro e w' ⟨v', R', E', rfl, hR, hm', rfl, rfl, rfl⟩
  exact ⟨_, _, _, rfl, hR, hm', rfl, rfl⟩

theorem Slot1_C {b2 b3 : Nat} {R : Ro} {sb : Nat} {pa : Option Addr} {pc bg : Nat} {ps : List Pkt} {ms : MS} (w0 : World) (hp : RS R 3 encP pa ps) (hb : ms.begun.length = ps.length) (hsort : ps.Pairwise fun a b => a.time ≤ b.time) {wa : Option Addr} {wc : Nat} {tb : List Int} {cap : Int} (hwr : RS R 1 encI wa tb) (h3 : R b3 = some [.slice wa tb.length wc]) (h2 : R b2 = some [.int .i64 cap]) (hn : 0 < tb.length) (hl : tb.length ≤ 1000) (hc : 1 ≤ cap ∧ cap ≤ 1000000) (hgd : goodB ps ms) (hnow : 0 ≤ ms.now ∧ ms.now ≤ 1000000) (hleft : 0 ≤ ms.left ∧ ms.left ≤ 1000000) (F : List Ent) :
    K.Fn Try.prog 124 [.pointer (some ⟨sb, 0, none⟩), .pointer (some ⟨b3, 0, none⟩), .pointer (some ⟨b2, 0, none⟩)] w0 R (stE sb pa ps.length pc bg ms :: .sl 4 1 (some ⟨bg, 0, none⟩) ps.length (ms.begun.map encB) :: F) (fun v R' E' => v = .int .i64 (slotCh ps cap tb ms ()).1 ∧ R = R' ∧ E' = stE sb pa ps.length pc bg { ms with before := (slotCh ps cap tb ms ()).2.1 } :: .sl 4 1 (some ⟨bg, 0, none⟩) ps.length (ms.begun.map encB) :: F) := by
  have hlw := hwr.len
  have hlp := hp.len
  have hnt : (ms.now.toNat : Int) = ms.now := by omega
  have hce : ms.now % (tb.length : Int) = ((ms.now.toNat % tb.length : Nat) : Int) := by rw [Int.natCast_emod, hnt]
  have hml := Nat.mod_lt ms.now.toNat hn
  have har := aheadN_range tb (slotT tb ms.now.toNat) ms.now.toNat
  have hab : 0 ≤ (aheadV tb (slotT tb ms.now.toNat) ms.now.toNat).1 ∧ (aheadV tb (slotT tb ms.now.toNat) ms.now.toNat).1 ≤ 1000 := by unfold aheadV; split <;> (dsimp only; omega)
  have hmb := mulB (a := (aheadV tb (slotT tb ms.now.toNat) ms.now.toNat).1) (b := cap) (A := 1000) (B := 1000000) (by omega) (by omega)
  have hme : ((aheadV tb (slotT tb ms.now.toNat) ms.now.toNat).1 - 1) * cap = (aheadV tb (slotT tb ms.now.toNat) ms.now.toNat).1 * cap - cap := by rw [Int.sub_mul, Int.one_mul]
  refine Fn.enter (n := 53) Try.func124 rfl rfl (Nat.le_of_ble_eq_true rfl) rfl ?_
  refine W.seq ?_
  refine W.region _ ?_
  refine WG.run tab_ok 1 rfl ?_
  refine WG.nil ?_
  refine WE.nxt ?_
  refine W.seq ?_
  refine W.regionQ _ mixed (by kernel_rfl) ?_
  refine' WG.y rfl rfl (by decide) (Yl.load1 tab_ok rfl rfl rfl (fun _ => rfl) ?r1 rfl ?h1) ?_
  case r1 => (first | exact Rd.ro (by assumption) | exact Rd.blk 0 rfl | exact Rd.blk 1 rfl | exact Rd.blk 2 rfl | exact Rd.blk 3 rfl | exact Rd.blk 4 rfl | (apply RS.rdD; assumption; ((try dsimp only) <;> omega)) | exact Rd.slD 0 rfl (by (try dsimp only) <;> omega) | exact Rd.slD 1 rfl (by (try dsimp only) <;> omega) | exact Rd.slD 2 rfl (by (try dsimp only) <;> omega) | exact Rd.slD 3 rfl (by (try dsimp only) <;> omega) | exact Rd.slD 4 rfl (by (try dsimp only) <;> omega))
  case h1 => rfl
  refine WG.run tab_ok 3 rfl ?_
  refine' WG.y rfl rfl (by decide) (Yl.load1 tab_ok rfl rfl rfl (fun _ => rfl) ?r2 rfl ?h2) ?_
  case r2 => apply Rd.add; (first | exact Rd.ro (by assumption) | exact Rd.blk 0 rfl | exact Rd.blk 1 rfl | exact Rd.blk 2 rfl | exact Rd.blk 3 rfl | exact Rd.blk 4 rfl | (apply RS.rdD; assumption; ((try dsimp only) <;> omega)) | exact Rd.slD 0 rfl (by (try dsimp only) <;> omega) | exact Rd.slD 1 rfl (by (try dsimp only) <;> omega) | exact Rd.slD 2 rfl (by (try dsimp only) <;> omega) | exact Rd.slD 3 rfl (by (try dsimp only) <;> omega) | exact Rd.slD 4 rfl (by (try dsimp only) <;> omega))
  case h2 => rfl
  refine' WG.y rfl rfl (by decide) (Yl.load1 tab_ok rfl rfl rfl (fun _ => rfl) ?r3 rfl ?h3) ?_
  case r3 => (first | exact Rd.ro (by assumption) | exact Rd.blk 0 rfl | exact Rd.blk 1 rfl | exact Rd.blk 2 rfl | exact Rd.blk 3 rfl | exact Rd.blk 4 rfl | (apply RS.rdD; assumption; ((try dsimp only) <;> omega)) | exact Rd.slD 0 rfl (by (try dsimp only) <;> omega) | exact Rd.slD 1 rfl (by (try dsimp only) <;> omega) | exact Rd.slD 2 rfl (by (try dsimp only) <;> omega) | exact Rd.slD 3 rfl (by (try dsimp only) <;> omega) | exact Rd.slD 4 rfl (by (try dsimp only) <;> omega))
  case h3 => rfl
  refine WG.run tab_ok 1 rfl ?_
  refine WG.y rfl rfl (by decide) (Yl.rem rfl rfl rfl (fun _ => rfl) (by intro _; (try dsimp only) <;> omega) (by intro _; (try dsimp only) <;> omega)) ?_
  rw [hce]
  refine WG.y rfl rfl (by decide) (Yl.indexN tab_ok rfl rfl rfl rfl rfl rfl (fun _ => rfl) (by intro _; (try dsimp only) <;> omega) (by intro _; first | exact fun _ _ _ _ => rfl | exact RS.has (by assumption) | exact fun _ _ _ _ => (by assumption) | exact HasMem.ownD 0 rfl | exact HasMem.ownD 1 rfl | exact HasMem.ownD 2 rfl | exact HasMem.ownD 3 rfl | exact HasMem.ownD 4 rfl)) ?_
  refine' WG.y rfl rfl (by decide) (Yl.load1 tab_ok rfl rfl rfl (fun _ => rfl) ?r4 rfl ?h4) ?_
  case r4 => (first | (apply RS.rdD; assumption; ((try dsimp only) <;> omega)) | exact Rd.slD 0 rfl (by (try dsimp only) <;> omega) | exact Rd.slD 1 rfl (by (try dsimp only) <;> omega) | exact Rd.slD 2 rfl (by (try dsimp only) <;> omega) | exact Rd.slD 3 rfl (by (try dsimp only) <;> omega) | exact Rd.slD 4 rfl (by (try dsimp only) <;> omega))
  case h4 => rfl
  refine WG.run tab_ok 1 rfl ?_
  refine WG.nil ?_
  refine WE.nxt ?_
  refine W.seq ?_
  rw [show nth tb (ms.now.toNat % tb.length) = slotT tb ms.now.toNat from rfl]
  refine W.seq ?_
  refine W.region _ ?_
  refine WG.run tab_ok 2 rfl ?_
  refine WG.nil ?_
  refine WE.nxt ?_
  refine W.condD rfl (fun hc0 => ?_) (fun hc0 => ?_)
  · try dsimp only at hc0
    have hch : slotCh ps cap tb ms () = (-1, ms.before, ()) := by unfold slotCh; rw [if_pos hc0]
    refine W.seq ?_
    refine W.region _ ?_
    refine WG.run tab_ok 1 rfl ?_
    refine WG.nil ?_
    refine WE.nxt ?_
    refine W.ret ?_
    refine WE.then_ret ?_
    refine WE.retF tab_ok [_] rfl ⟨rfl, trivial⟩ (RLe.refl _) ?_
    exact ⟨by rw [hch]; try rfl, rfl, by rw [hch]; try rfl⟩
  · try dsimp only at hc0
    refine W.skip ?_
    refine WE.nxt ?_
    refine W.seq ?_
    refine W.region _ ?_
    refine WG.run tab_ok 2 rfl ?_
    refine WL.call en94 rfl rfl (by decide) (CallOp.mkT rfl rfl rfl rfl) (Next_C (ms := ms) w0 hp hb hgd hsort _ _) ?_
    rintro _ _ _ - ⟨rfl, rfl, rfl⟩
    refine WG.run tab_ok 1 rfl ?_
    refine WG.nil ?_
    refine WE.nxt ?_
    refine W.seq ?_
    refine W.seq ?_
    refine W.region _ ?_
    refine WG.run tab_ok 2 rfl ?_
    refine WG.nil ?_
    refine WE.nxt ?_
    refine W.condD rfl (fun hc1 => ?_) (fun hc1 => ?_)
    · try dsimp only at hc1
      have hch : slotCh ps cap tb ms () = (-1, skipTo ms.begun ms.before, ()) := by unfold slotCh; rw [if_neg (by omega), if_pos hc1]
      refine W.seq ?_
      refine W.region _ ?_
      refine WG.run tab_ok 1 rfl ?_
      refine WG.nil ?_
      refine WE.nxt ?_
      refine W.ret ?_
      refine WE.then_ret ?_
      refine WE.retF tab_ok [_] rfl ⟨rfl, trivial⟩ (RLe.refl _) ?_
      exact ⟨by rw [hch]; try rfl, rfl, by rw [hch]; try rfl⟩
    · try dsimp only at hc1
      refine W.skip ?_
      refine WE.nxt ?_
      refine W.seq ?_
      refine W.seq ?_
      refine W.regionQ _ mixed (by kernel_rfl) ?_
      refine' WG.y rfl rfl (by decide) (Yl.load1 tab_ok rfl rfl rfl (fun _ => rfl) ?r5 rfl ?h5) ?_
      case r5 => (first | exact Rd.ro (by assumption) | exact Rd.blk 0 rfl | exact Rd.blk 1 rfl | exact Rd.blk 2 rfl | exact Rd.blk 3 rfl | exact Rd.blk 4 rfl | (apply RS.rdD; assumption; ((try dsimp only) <;> omega)) | exact Rd.slD 0 rfl (by (try dsimp only) <;> omega) | exact Rd.slD 1 rfl (by (try dsimp only) <;> omega) | exact Rd.slD 2 rfl (by (try dsimp only) <;> omega) | exact Rd.slD 3 rfl (by (try dsimp only) <;> omega) | exact Rd.slD 4 rfl (by (try dsimp only) <;> omega))
      case h5 => rfl
      refine WG.run tab_ok 4 rfl ?_
      refine' WG.y rfl rfl (by decide) (Yl.load1 tab_ok rfl rfl rfl (fun _ => rfl) ?r6 rfl ?h6) ?_
      case r6 => apply Rd.add; (first | exact Rd.ro (by assumption) | exact Rd.blk 0 rfl | exact Rd.blk 1 rfl | exact Rd.blk 2 rfl | exact Rd.blk 3 rfl | exact Rd.blk 4 rfl | (apply RS.rdD; assumption; ((try dsimp only) <;> omega)) | exact Rd.slD 0 rfl (by (try dsimp only) <;> omega) | exact Rd.slD 1 rfl (by (try dsimp only) <;> omega) | exact Rd.slD 2 rfl (by (try dsimp only) <;> omega) | exact Rd.slD 3 rfl (by (try dsimp only) <;> omega) | exact Rd.slD 4 rfl (by (try dsimp only) <;> omega))
      case h6 => rfl
      refine WG.callV en125 rfl rfl (by decide) (CallOp.mk' rfl rfl rfl rfl) (fun _ => rfl) (fun hg => by have h := Ahead_V (wc := wc) (cls := slotT tb ms.now.toNat) (t := ms.now.toNat) hwr (by omega) (by omega); rw [hnt] at h; exact h) ?_
      refine WG.run tab_ok 5 rfl ?_
      refine WG.nil ?_
      refine WE.nxt ?_
      refine W.seq ?_
      refine W.regionQ _ mixed (by kernel_rfl) ?_
      refine WG.run tab_ok 2 rfl ?_
      refine WG.y rfl rfl (by decide) (pureV_ok tab_ok rfl (by first | exact fun _ => rfl | exact fun h => h | (intro h; simp_all))) ?_
      refine WG.y rfl rfl (by decide) (pureV_ok tab_ok rfl (by first | exact fun _ => rfl | exact fun h => h | (intro h; simp_all))) ?_
      refine WG.callE en126 rfl rfl (by decide) (CallOp.mk' rfl rfl rfl rfl) (by first | exact fun _ => rfl | exact fun h => h | (intro h; simp_all)) (fun hg => Size_E w0 hp _ (by omega) (nextW_lt ps _ _).1 _) ?_
      refine WG.y rfl rfl (by decide) (pureV_ok tab_ok rfl (by first | exact fun _ => rfl | exact fun h => h | (intro h; simp_all))) ?_
      refine WG.y rfl rfl (by decide) (pureV_ok tab_ok rfl (by first | exact fun _ => rfl | exact fun h => h | (intro h; simp_all))) ?_
      refine WG.y rfl rfl (by decide) (pureV_ok tab_ok rfl (by first | exact fun _ => rfl | exact fun h => h | (intro h; simp_all))) ?_
      refine' WG.y rfl rfl (by decide) (Yl.loadG tab_ok rfl rfl rfl (by first | exact fun _ => rfl | exact fun h => h | (intro h; simp_all)) ?r7 rfl ?h7 ?g7) ?_
      case r7 => apply Rd.addC; (first | exact fun _ => Rd.ro (by assumption) | exact Rd.blkC 0 rfl | exact Rd.blkC 1 rfl | exact Rd.blkC 2 rfl | exact Rd.blkC 3 rfl | exact Rd.blkC 4 rfl | (apply RS.rdC; assumption) | exact Rd.slC 0 rfl | exact Rd.slC 1 rfl | exact Rd.slC 2 rfl | exact Rd.slC 3 rfl | exact Rd.slC 4 rfl)
      case h7 => rfl
      case g7 => first | exact fun _ => trivial | (intro hg; (try simp only [decide_eq_true_eq, decide_eq_false_iff_not, beq_iff_eq, bne_iff_ne, beq_eq_false_iff_ne, bne_eq_false_iff_eq, ne_eq, Bool.or_eq_true, Bool.or_eq_false_iff, Bool.and_eq_true, Bool.and_eq_false_imp, Bool.not_eq_true, Bool.not_eq_true', Bool.not_eq_false', Classical.not_not, Int.not_lt, Int.not_le, gt_iff_lt, ge_iff_le] at hg); (try dsimp only); omega)
      refine WG.y rfl rfl (by decide) (pureV_ok tab_ok rfl (by first | exact fun _ => rfl | exact fun h => h | (intro h; simp_all))) ?_
      refine WG.y rfl rfl (by decide) (Yl.sub rfl rfl rfl (by first | exact fun _ => rfl | exact fun h => h | (intro h; simp_all)) (by intro hg; (try simp only [decide_eq_true_eq, decide_eq_false_iff_not, beq_iff_eq, bne_iff_ne, beq_eq_false_iff_ne, bne_eq_false_iff_eq, ne_eq, Bool.or_eq_true, Bool.or_eq_false_iff, Bool.and_eq_true, Bool.and_eq_false_imp, Bool.not_eq_true, Bool.not_eq_true', Bool.not_eq_false', Classical.not_not, Int.not_lt, Int.not_le, gt_iff_lt, ge_iff_le] at hg); constructor <;> (try dsimp only) <;> omega)) ?_
      refine' WG.y rfl rfl (by decide) (Yl.loadG tab_ok rfl rfl rfl (by first | exact fun _ => rfl | exact fun h => h | (intro h; simp_all)) ?r8 rfl ?h8 ?g8) ?_
      case r8 => exact fun _ => Rd.ro h2
      case h8 => rfl
      case g8 => first | exact fun _ => trivial | (intro hg; (try simp only [decide_eq_true_eq, decide_eq_false_iff_not, beq_iff_eq, bne_iff_ne, beq_eq_false_iff_ne, bne_eq_false_iff_eq, ne_eq, Bool.or_eq_true, Bool.or_eq_false_iff, Bool.and_eq_true, Bool.and_eq_false_imp, Bool.not_eq_true, Bool.not_eq_true', Bool.not_eq_false', Classical.not_not, Int.not_lt, Int.not_le, gt_iff_lt, ge_iff_le] at hg); (try dsimp only); omega)
      refine WG.y rfl rfl (by decide) (Yl.mul rfl rfl rfl (by first | exact fun _ => rfl | exact fun h => h | (intro h; simp_all)) (by intro hg; (try simp only [decide_eq_true_eq, decide_eq_false_iff_not, beq_iff_eq, bne_iff_ne, beq_eq_false_iff_ne, bne_eq_false_iff_eq, ne_eq, Bool.or_eq_true, Bool.or_eq_false_iff, Bool.and_eq_true, Bool.and_eq_false_imp, Bool.not_eq_true, Bool.not_eq_true', Bool.not_eq_false', Classical.not_not, Int.not_lt, Int.not_le, gt_iff_lt, ge_iff_le] at hg); constructor <;> (try dsimp only) <;> omega)) ?_
      refine WG.y rfl rfl (by decide) (Yl.add rfl rfl rfl (by first | exact fun _ => rfl | exact fun h => h | (intro h; simp_all)) (by intro hg; (try simp only [decide_eq_true_eq, decide_eq_false_iff_not, beq_iff_eq, bne_iff_ne, beq_eq_false_iff_ne, bne_eq_false_iff_eq, ne_eq, Bool.or_eq_true, Bool.or_eq_false_iff, Bool.and_eq_true, Bool.and_eq_false_imp, Bool.not_eq_true, Bool.not_eq_true', Bool.not_eq_false', Classical.not_not, Int.not_lt, Int.not_le, gt_iff_lt, ge_iff_le] at hg); constructor <;> (try dsimp only) <;> omega)) ?_
      refine WG.y rfl rfl (by decide) (pureV_ok tab_ok rfl (by first | exact fun _ => rfl | exact fun h => h | (intro h; simp_all))) ?_
      refine WG.y rfl rfl (by decide) (Yl.pand rfl rfl rfl (fun _ => rfl) (by intro h1 h2; simp_all <;> omega)) ?_
      refine WG.nil ?_
      refine WE.nxt ?_
      refine W.cond rfl (fun hc2 => ?_) (fun hc2 => ?_)
      · try simp only [decide_eq_true_eq, decide_eq_false_iff_not, beq_iff_eq, bne_iff_ne, beq_eq_false_iff_ne, bne_eq_false_iff_eq, ne_eq, Bool.or_eq_true, Bool.or_eq_false_iff, Bool.and_eq_true, Bool.and_eq_false_imp, Bool.not_eq_true, Bool.not_eq_true', Bool.not_eq_false', Classical.not_not, Int.not_lt, Int.not_le, gt_iff_lt, ge_iff_le] at hc2
        have hch : slotCh ps cap tb ms () = (-1, skipTo ms.begun ms.before, ()) := by rw [slotCh_if hc0 hc1, if_pos hc2]
        refine W.seq ?_
        refine W.region _ ?_
        refine WG.run tab_ok 1 rfl ?_
        refine WG.nil ?_
        refine WE.nxt ?_
        refine W.ret ?_
        refine WE.then_ret ?_
        refine WE.retF tab_ok [_] rfl ⟨rfl, trivial⟩ (RLe.refl _) ?_
        exact ⟨by rw [hch]; try rfl, rfl, by rw [hch]; try rfl⟩
      · try simp only [decide_eq_true_eq, decide_eq_false_iff_not, beq_iff_eq, bne_iff_ne, beq_eq_false_iff_ne, bne_eq_false_iff_eq, ne_eq, Bool.or_eq_true, Bool.or_eq_false_iff, Bool.and_eq_true, Bool.and_eq_false_imp, Bool.not_eq_true, Bool.not_eq_true', Bool.not_eq_false', Classical.not_not, Int.not_lt, Int.not_le, gt_iff_lt, ge_iff_le] at hc2
        have hch : slotCh ps cap tb ms () = (nextW ps ms (slotT tb ms.now.toNat), skipTo ms.begun ms.before, ()) := by rw [slotCh_if hc0 hc1, if_neg (fun h => by have := hc2 h.1; omega)]
        refine W.skip ?_
        refine WE.nxt ?_
        refine W.seq ?_
        refine W.region _ ?_
        refine WG.run tab_ok 2 rfl ?_
        refine WG.nil ?_
        refine WE.nxt ?_
        refine W.ret ?_
        refine WE.retF tab_ok [_] rfl ⟨rfl, trivial⟩ (RLe.refl _) ?_
        exact ⟨by rw [hch]; try rfl, rfl, by rw [hch]; try rfl⟩

end Go.Proofs.Ytnaeefefggmomaa

/- Chapter 21: rooms, checks and runs. No condition. -/
set_option linter.unusedSimpArgs false
set_option linter.unusedVariables false
namespace Go.Proofs.Ytnaeefefggmomaa
open Go Go.RowKit Go.Proofs.Ytnaeefefggmomaa.K Go.Proofs.Ytnaeefefggmomaa.M

theorem RoomT_V {R : Ro} {wa : Option Addr} {wc : Nat} {tb : List Int} (hwr : RS R 1 encI wa tb) {cap cls t : Int} : FnV Try.prog 26 [.int .i64 cap, .slice wa tb.length wc, .int .i64 cls, .int .i64 t] R (.int .i64 (roomT cap tb cls t)) := by
  have hla := hwr.len
  refine Fn.toV (fun w0 E => ?_)
  refine Fn.enter (n := 47) Try.func26 rfl rfl (Nat.le_of_ble_eq_true rfl) rfl ?_
  refine W.seq ?_
  refine W.region _ ?_
  refine WG.run tab_ok 1 rfl ?_
  refine WG.nil ?_
  refine WE.nxt ?_
  refine W.seq ?_
  refine W.seq ?_
  refine W.region _ ?_
  refine WG.run tab_ok 3 rfl ?_
  refine WG.y rfl rfl (by decide) (pureV_ok tab_ok rfl (by first | exact fun _ => rfl | exact fun h => h | (intro h; simp_all))) ?_
  refine WG.y rfl rfl (by decide) (pureV_ok tab_ok rfl (by first | exact fun _ => rfl | exact fun h => h | (intro h; simp_all))) ?_
  refine WG.y rfl rfl (by decide) (Yl.por rfl rfl rfl (fun _ => rfl) (by intro h1 h2; simp_all <;> omega)) ?_
  refine WG.run tab_ok 1 rfl ?_
  refine WG.y rfl rfl (by decide) (pureV_ok tab_ok rfl (by first | exact fun _ => rfl | exact fun h => h | (intro h; simp_all))) ?_
  refine WG.y rfl rfl (by decide) (pureV_ok tab_ok rfl (by first | exact fun _ => rfl | exact fun h => h | (intro h; simp_all))) ?_
  refine WG.y rfl rfl (by decide) (pureV_ok tab_ok rfl (by first | exact fun _ => rfl | exact fun h => h | (intro h; simp_all))) ?_
  refine WG.y rfl rfl (by decide) (Yl.por rfl rfl rfl (fun _ => rfl) (by intro h1 h2; simp_all <;> omega)) ?_
  refine WG.run tab_ok 1 rfl ?_
  refine WG.y rfl rfl (by decide) (pureV_ok tab_ok rfl (by first | exact fun _ => rfl | exact fun h => h | (intro h; simp_all))) ?_
  refine WG.y rfl rfl (by decide) (pureV_ok tab_ok rfl (by first | exact fun _ => rfl | exact fun h => h | (intro h; simp_all))) ?_
  refine WG.y rfl rfl (by decide) (pureV_ok tab_ok rfl (by first | exact fun _ => rfl | exact fun h => h | (intro h; simp_all))) ?_
  refine WG.y rfl rfl (by decide) (Yl.por rfl rfl rfl (fun _ => rfl) (by intro h1 h2; simp_all <;> omega)) ?_
  refine WG.run tab_ok 1 rfl ?_
  refine WG.y rfl rfl (by decide) (pureV_ok tab_ok rfl (by first | exact fun _ => rfl | exact fun h => h | (intro h; simp_all))) ?_
  refine WG.y rfl rfl (by decide) (pureV_ok tab_ok rfl (by first | exact fun _ => rfl | exact fun h => h | (intro h; simp_all))) ?_
  refine WG.y rfl rfl (by decide) (Yl.por rfl rfl rfl (fun _ => rfl) (by intro h1 h2; simp_all <;> omega)) ?_
  refine WG.run tab_ok 1 rfl ?_
  refine WG.y rfl rfl (by decide) (pureV_ok tab_ok rfl (by first | exact fun _ => rfl | exact fun h => h | (intro h; simp_all))) ?_
  refine WG.y rfl rfl (by decide) (pureV_ok tab_ok rfl (by first | exact fun _ => rfl | exact fun h => h | (intro h; simp_all))) ?_
  refine WG.y rfl rfl (by decide) (Yl.por rfl rfl rfl (fun _ => rfl) (by intro h1 h2; simp_all <;> omega)) ?_
  refine WG.nil ?_
  refine WE.nxt ?_
  refine W.cond rfl (fun hc0 => ?_) (fun hc0 => ?_)
  · try simp only [decide_eq_true_eq, decide_eq_false_iff_not, beq_iff_eq, bne_iff_ne, beq_eq_false_iff_ne, bne_eq_false_iff_eq, ne_eq, Bool.or_eq_true, Bool.or_eq_false_iff, Bool.and_eq_true, Bool.and_eq_false_imp, Bool.not_eq_true, Bool.not_eq_true', Bool.not_eq_false', Classical.not_not, Int.not_lt, Int.not_le, gt_iff_lt, ge_iff_le] at hc0
    have hr : roomT cap tb cls t = 0 := if_pos (by omega)
    refine W.seq ?_
    refine W.region _ ?_
    refine WG.run tab_ok 1 rfl ?_
    refine WG.nil ?_
    refine WE.nxt ?_
    refine W.ret ?_
    refine WE.then_ret ?_
    refine WE.subE (E' := E) (by (repeat (first | exact List.Sublist.refl _ | exact List.nil_sublist _ | apply List.Sublist.cons_cons | apply List.Sublist.cons)); done) ?_
    refine WE.retF tab_ok [_] rfl ⟨rfl, trivial⟩ (RLe.refl _) ?_
    exact ⟨by rw [hr]; rfl, rfl⟩
  · try simp only [decide_eq_true_eq, decide_eq_false_iff_not, beq_iff_eq, bne_iff_ne, beq_eq_false_iff_ne, bne_eq_false_iff_eq, ne_eq, Bool.or_eq_true, Bool.or_eq_false_iff, Bool.and_eq_true, Bool.and_eq_false_imp, Bool.not_eq_true, Bool.not_eq_true', Bool.not_eq_false', Classical.not_not, Int.not_lt, Int.not_le, gt_iff_lt, ge_iff_le] at hc0
    obtain ⟨nt, rfl⟩ := Int.eq_ofNat_of_zero_le (show 0 ≤ t by omega)
    have hr : roomT cap tb cls nt = if (aheadV tb cls nt).2 = false then 1073741824 else (aheadV tb cls nt).1 * cap := by unfold roomT; rw [if_neg (by omega), Int.toNat_natCast]
    have har := aheadN_range tb cls nt
    have hab : 0 ≤ (aheadV tb cls nt).1 ∧ (aheadV tb cls nt).1 ≤ 1000 := by unfold aheadV; split <;> (dsimp only; omega)
    have hmb := mulB (a := (aheadV tb cls nt).1) (b := cap) (A := 1000) (B := 4000) (by omega) (by omega)
    refine W.skip ?_
    refine WE.nxt ?_
    refine W.seq ?_
    refine W.region _ ?_
    refine WG.run tab_ok 3 rfl ?_
    refine WG.callV en77 rfl rfl (by decide) (CallOp.mk' rfl rfl rfl rfl) (fun _ => rfl) (fun hg => AheadT_V hwr (by omega) (by omega)) ?_
    refine WG.run tab_ok 5 rfl ?_
    refine WG.nil ?_
    refine WE.nxt ?_
    refine W.seq ?_
    refine W.seq ?_
    refine W.region _ ?_
    refine WG.run tab_ok 2 rfl ?_
    refine WG.nil ?_
    refine WE.nxt ?_
    refine W.cond rfl (fun hc1 => ?_) (fun hc1 => ?_)
    · try simp only [decide_eq_true_eq, decide_eq_false_iff_not, beq_iff_eq, bne_iff_ne, beq_eq_false_iff_ne, bne_eq_false_iff_eq, ne_eq, Bool.or_eq_true, Bool.or_eq_false_iff, Bool.and_eq_true, Bool.and_eq_false_imp, Bool.not_eq_true, Bool.not_eq_true', Bool.not_eq_false', Classical.not_not, Int.not_lt, Int.not_le, gt_iff_lt, ge_iff_le] at hc1
      rw [if_pos hc1] at hr
      refine W.seq ?_
      refine W.region _ ?_
      refine WG.run tab_ok 1 rfl ?_
      refine WG.nil ?_
      refine WE.nxt ?_
      refine W.ret ?_
      refine WE.then_ret ?_
      refine WE.subE (E' := E) (by (repeat (first | exact List.Sublist.refl _ | exact List.nil_sublist _ | apply List.Sublist.cons_cons | apply List.Sublist.cons)); done) ?_
      refine WE.retF tab_ok [_] rfl ⟨rfl, trivial⟩ (RLe.refl _) ?_
      exact ⟨by rw [hr]; rfl, rfl⟩
    · try simp only [decide_eq_true_eq, decide_eq_false_iff_not, beq_iff_eq, bne_iff_ne, beq_eq_false_iff_ne, bne_eq_false_iff_eq, ne_eq, Bool.or_eq_true, Bool.or_eq_false_iff, Bool.and_eq_true, Bool.and_eq_false_imp, Bool.not_eq_true, Bool.not_eq_true', Bool.not_eq_false', Classical.not_not, Int.not_lt, Int.not_le, gt_iff_lt, ge_iff_le] at hc1
      rw [if_neg (by simp [hc1])] at hr
      refine W.skip ?_
      refine WE.nxt ?_
      refine W.seq ?_
      refine W.region _ ?_
      refine WG.run tab_ok 2 rfl ?_
      refine WG.y rfl rfl (by decide) (Yl.mul rfl rfl rfl (fun _ => rfl) (by intro _; constructor <;> (try dsimp only) <;> omega)) ?_
      refine WG.run tab_ok 1 rfl ?_
      refine WG.nil ?_
      refine WE.nxt ?_
      refine W.ret ?_
      refine WE.subE (E' := E) (by (repeat (first | exact List.Sublist.refl _ | exact List.nil_sublist _ | apply List.Sublist.cons_cons | apply List.Sublist.cons)); done) ?_
      refine WE.retF tab_ok [_] rfl ⟨rfl, trivial⟩ (RLe.refl _) ?_
      exact ⟨by rw [hr]; rfl, rfl⟩

theorem CheckT_V {R : Ro} {wa : Option Addr} {wc : Nat} {tb : List Int} (hwr : RS R 1 encI wa tb) {za : Option Addr} {zc : Nat} {z : List Sz} (hzr : RS R 2 encZ za z) {cap cls : Int} : FnV Try.prog 33 [.int .i64 cap, .int .i64 cls, .slice wa tb.length wc, .slice za z.length zc] R (.int .i64 (chkT cap cls tb z)) := by
  have hla := hwr.len
  have hlz := hzr.len
  refine Fn.toV (fun w0 E => ?_)
  have h18 := chk18_vals cap cls z
  refine Fn.enter (n := 22) Try.func33 rfl rfl (Nat.le_of_ble_eq_true rfl) rfl ?_
  refine W.seq ?_
  refine W.region _ ?_
  refine WG.run tab_ok 1 rfl ?_
  refine WG.nil ?_
  refine WE.nxt ?_
  refine W.seq ?_
  refine W.seq ?_
  refine W.region _ ?_
  refine WG.run tab_ok 3 rfl ?_
  refine WG.callV en50 rfl rfl (by decide) (CallOp.mk' rfl rfl rfl rfl) (fun _ => rfl) (fun hg => CheckP_V hzr) ?_
  refine WG.run tab_ok 1 rfl ?_
  refine WG.nil ?_
  refine WE.nxt ?_
  refine W.seq ?_
  refine W.region _ ?_
  refine WG.run tab_ok 2 rfl ?_
  refine WG.nil ?_
  refine WE.nxt ?_
  refine W.condN rfl (fun hc0 => ?_) (fun hc0 => ?_)
  · try dsimp only at hc0
    have e : chkT cap cls tb z = 2 := if_pos hc0
    rw [show chk18 cap cls z = 2 by omega]
    refine W.seq ?_
    refine W.region _ ?_
    refine WG.run tab_ok 2 rfl ?_
    refine WG.nil ?_
    refine WE.nxt ?_
    refine W.ret ?_
    refine WE.then_ret ?_
    refine WE.subE (E' := E) (by (repeat (first | exact List.Sublist.refl _ | exact List.nil_sublist _ | apply List.Sublist.cons_cons | apply List.Sublist.cons)); done) ?_
    refine WE.retF tab_ok [_] rfl ⟨rfl, trivial⟩ (RLe.refl _) ?_
    exact ⟨by rw [e]; rfl, rfl⟩
  · try dsimp only at hc0
    refine W.skip ?_
    refine WE.nxt ?_
    refine W.seq ?_
    refine W.seq ?_
    refine W.region _ ?_
    refine WG.run tab_ok 3 rfl ?_
    refine WG.callV en69 rfl rfl (by decide) (CallOp.mk' rfl rfl rfl rfl) (fun _ => rfl) (fun hg => ValidT_V hwr) ?_
    refine WG.run tab_ok 1 rfl ?_
    refine WG.nil ?_
    refine WE.nxt ?_
    refine W.cond rfl (fun hc1 => ?_) (fun hc1 => ?_)
    · try simp only [decide_eq_true_eq, decide_eq_false_iff_not, beq_iff_eq, bne_iff_ne, beq_eq_false_iff_ne, bne_eq_false_iff_eq, ne_eq, Bool.or_eq_true, Bool.or_eq_false_iff, Bool.and_eq_true, Bool.and_eq_false_imp, Bool.not_eq_true, Bool.not_eq_true', Bool.not_eq_false', Classical.not_not, Int.not_lt, Int.not_le, gt_iff_lt, ge_iff_le] at hc1
      have e : chkT cap cls tb z = 2 := by unfold chkT; rw [if_neg (fun h => h hc0), if_pos hc1]
      refine W.seq ?_
      refine W.region _ ?_
      refine WG.run tab_ok 1 rfl ?_
      refine WG.nil ?_
      refine WE.nxt ?_
      refine W.ret ?_
      refine WE.then_ret ?_
      refine WE.subE (E' := E) (by (repeat (first | exact List.Sublist.refl _ | exact List.nil_sublist _ | apply List.Sublist.cons_cons | apply List.Sublist.cons)); done) ?_
      refine WE.retF tab_ok [_] rfl ⟨rfl, trivial⟩ (RLe.refl _) ?_
      exact ⟨by rw [e]; rfl, rfl⟩
    · try simp only [decide_eq_true_eq, decide_eq_false_iff_not, beq_iff_eq, bne_iff_ne, beq_eq_false_iff_ne, bne_eq_false_iff_eq, ne_eq, Bool.or_eq_true, Bool.or_eq_false_iff, Bool.and_eq_true, Bool.and_eq_false_imp, Bool.not_eq_true, Bool.not_eq_true', Bool.not_eq_false', Classical.not_not, Int.not_lt, Int.not_le, gt_iff_lt, ge_iff_le] at hc1
      have e : chkT cap cls tb z = 0 := by unfold chkT; rw [if_neg (fun h => h hc0), if_neg (by simp [hc1])]
      refine W.skip ?_
      refine WE.nxt ?_
      refine W.seq ?_
      refine W.region _ ?_
      refine WG.run tab_ok 1 rfl ?_
      refine WG.nil ?_
      refine WE.nxt ?_
      refine W.ret ?_
      refine WE.subE (E' := E) (by (repeat (first | exact List.Sublist.refl _ | exact List.nil_sublist _ | apply List.Sublist.cons_cons | apply List.Sublist.cons)); done) ?_
      refine WE.retF tab_ok [_] rfl ⟨rfl, trivial⟩ (RLe.refl _) ?_
      exact ⟨by rw [e]; rfl, rfl⟩

theorem Check21_V {R : Ro} {wa : Option Addr} {wc : Nat} {tb : List Int} (hwr : RS R 1 encI wa tb) {za : Option Addr} {zc : Nat} {z : List Sz} (hzr : RS R 2 encZ za z) {cap cls : Int} : FnV Try.prog 34 [.int .i64 cap, .int .i64 cls, .slice wa tb.length wc, .slice za z.length zc] R (.int .i64 (chkT cap cls tb z)) := by
  have hla := hwr.len
  have hlz := hzr.len
  refine Fn.toV (fun w0 E => ?_)
  have h18 := chk18_vals cap cls z
  refine Fn.enter (n := 21) Try.func34 rfl rfl (Nat.le_of_ble_eq_true rfl) rfl ?_
  refine W.seq ?_
  refine W.region _ ?_
  refine WG.run tab_ok 1 rfl ?_
  refine WG.nil ?_
  refine WE.nxt ?_
  refine W.seq ?_
  refine W.seq ?_
  refine W.region _ ?_
  refine WG.run tab_ok 3 rfl ?_
  refine WG.callV en51 rfl rfl (by decide) (CallOp.mk' rfl rfl rfl rfl) (fun _ => rfl) (fun hg => Check18_V hzr) ?_
  refine WG.run tab_ok 2 rfl ?_
  refine WG.y rfl rfl (by decide) (pureV_ok tab_ok rfl (by first | exact fun _ => rfl | exact fun h => h | (intro h; simp_all))) ?_
  refine WG.y rfl rfl (by decide) (pureV_ok tab_ok rfl (by first | exact fun _ => rfl | exact fun h => h | (intro h; simp_all))) ?_
  refine WG.y rfl rfl (by decide) (pureV_ok tab_ok rfl (by first | exact fun _ => rfl | exact fun h => h | (intro h; simp_all))) ?_
  refine WG.callV en74 rfl rfl (by decide) (CallOp.mk' rfl rfl rfl rfl) (by first | exact fun _ => rfl | exact fun h => h | (intro h; simp_all)) (fun hg => Right21_V hwr) ?_
  refine WG.y rfl rfl (by decide) (pureV_ok tab_ok rfl (by first | exact fun _ => rfl | exact fun h => h | (intro h; simp_all))) ?_
  refine WG.y rfl rfl (by decide) (Yl.por rfl rfl rfl (fun _ => rfl) (by intro h1 h2; simp_all <;> omega)) ?_
  refine WG.nil ?_
  refine WE.nxt ?_
  refine W.cond rfl (fun hc0 => ?_) (fun hc0 => ?_)
  · try simp only [decide_eq_true_eq, decide_eq_false_iff_not, beq_iff_eq, bne_iff_ne, beq_eq_false_iff_ne, bne_eq_false_iff_eq, ne_eq, Bool.or_eq_true, Bool.or_eq_false_iff, Bool.and_eq_true, Bool.and_eq_false_imp, Bool.not_eq_true, Bool.not_eq_true', Bool.not_eq_false', Classical.not_not, Int.not_lt, Int.not_le, gt_iff_lt, ge_iff_le] at hc0
    have e : chkT cap cls tb z = 2 := by
      unfold chkT
      rcases hc0 with h | h
      · rw [if_pos h]
      · by_cases h2 : chk18 cap cls z ≠ 0
        · rw [if_pos h2]
        · rw [if_neg h2, if_pos h]
    refine W.seq ?_
    refine W.region _ ?_
    refine WG.run tab_ok 1 rfl ?_
    refine WG.nil ?_
    refine WE.nxt ?_
    refine W.ret ?_
    refine WE.then_ret ?_
    refine WE.subE (E' := E) (by (repeat (first | exact List.Sublist.refl _ | exact List.nil_sublist _ | apply List.Sublist.cons_cons | apply List.Sublist.cons)); done) ?_
    refine WE.retF tab_ok [_] rfl ⟨rfl, trivial⟩ (RLe.refl _) ?_
    exact ⟨by rw [e]; rfl, rfl⟩
  · try simp only [decide_eq_true_eq, decide_eq_false_iff_not, beq_iff_eq, bne_iff_ne, beq_eq_false_iff_ne, bne_eq_false_iff_eq, ne_eq, Bool.or_eq_true, Bool.or_eq_false_iff, Bool.and_eq_true, Bool.and_eq_false_imp, Bool.not_eq_true, Bool.not_eq_true', Bool.not_eq_false', Classical.not_not, Int.not_lt, Int.not_le, gt_iff_lt, ge_iff_le] at hc0
    have e : chkT cap cls tb z = 0 := by unfold chkT; rw [if_neg (fun h => h hc0.1), if_neg (by simp [hc0.2])]
    refine W.skip ?_
    refine WE.nxt ?_
    refine W.seq ?_
    refine W.region _ ?_
    refine WG.run tab_ok 1 rfl ?_
    refine WG.nil ?_
    refine WE.nxt ?_
    refine W.ret ?_
    refine WE.subE (E' := E) (by (repeat (first | exact List.Sublist.refl _ | exact List.nil_sublist _ | apply List.Sublist.cons_cons | apply List.Sublist.cons)); done) ?_
    refine WE.retF tab_ok [_] rfl ⟨rfl, trivial⟩ (RLe.refl _) ?_
    exact ⟨by rw [e]; rfl, rfl⟩

theorem Slots_ok {R : Ro} {pa wa : Option Addr} {pc wc : Nat} {ps : List Pkt} {tb : List Int} (hp : RS R 3 encP pa ps) (hwr : RS R 1 encI wa tb) {cap : Int} {ticks nc : Nat} (hnc : classesT tb = nc) (w0 : World) (hok0 : srunE cap ticks tb ps = 0) (E : List Ent) :
    K.Fn Try.prog 23 [.int .i64 cap, .slice wa tb.length wc, .slice pa ps.length pc, .int .i64 ticks] w0 R E
      (fun v R' E' => ∃ (rows : List Sl) (gd go : Nat) (s : M.RS Unit), s = mrun ps (slotCh ps cap tb) cap nc ticks () ∧ v = .tuple #[.agg #[.slice (some ⟨gd, 0, none⟩) ps.length ps.length, .slice (some ⟨go, 0, none⟩) nc nc], .int .i64 0] ∧ rows.map Sl.xs = s.sent ∧ (∀ r ∈ rows, r.a.isSome = true) ∧ Inv ps nc (fun ms _ => goodB ps ms) (ticks + 1) (ticks * cap) s ∧
        (.sl 3 1 (some ⟨gd, 0, none⟩) ps.length (s.done.map encI) :: .sl 23 1 (some ⟨go, 0, none⟩) nc (rows.map encS) :: (rows.map (rowE 3) ++ E)).Sublist E') := by
  obtain ⟨hv0, hl0⟩ := srunE_ok hok0
  rw [hnc] at hl0
  obtain ⟨hok, hvv, hck, c1, c2, c3, c4, c5, c6, hs, hf⟩ := lrunE_ok hl0
  have hokt := okT_iff.1 hv0
  have hlw := hwr.len
  have hla := hp.len
  have hb := (okT_iff.1 hv0).2.2
  have hcb := fun k => clsN_bound (tb := tb) (B := 6) (by omega) (fun c hc => by have := hb c hc; omega) k
  refine Fn.enter (n := 55) Try.func23 rfl rfl (Nat.le_of_ble_eq_true rfl) rfl ?_
  refine W.seq ?_
  refine W.region _ ?_
  refine WL.ef rfl rfl (by decide) (Ef.alloc tab_ok rfl rfl (fun b8 => ?_))
  refine WG.run tab_ok 1 rfl ?_
  refine WG.nil ?_
  refine WE.nxt ?_
  refine W.seq ?_
  refine W.region _ ?_
  refine WG.run tab_ok 2 rfl ?_
  refine WG.nil ?_
  refine WE.nxt ?_
  refine W.seq ?_
  refine W.seq ?_
  refine W.region _ ?_
  refine WG.run tab_ok 1 rfl ?_
  refine WG.callV en69 rfl rfl (by decide) (CallOp.mk' rfl rfl rfl rfl) (fun _ => rfl) (fun hg => hv0 ▸ ValidT_V hwr) ?_
  refine WG.run tab_ok 1 rfl ?_
  refine WG.nil ?_
  refine WE.nxt ?_
  refine W.cond rfl (fun hc0 => ?_) (fun hc0 => ?_)
  · try simp only [decide_eq_true_eq, decide_eq_false_iff_not, beq_iff_eq, bne_iff_ne, beq_eq_false_iff_ne, bne_eq_false_iff_eq, ne_eq, Bool.or_eq_true, Bool.or_eq_false_iff, Bool.and_eq_true, Bool.and_eq_false_imp, Bool.not_eq_true, Bool.not_eq_true', Bool.not_eq_false', Classical.not_not, Int.not_lt, Int.not_le, gt_iff_lt, ge_iff_le] at hc0
    simp at hc0
  · try simp only [decide_eq_true_eq, decide_eq_false_iff_not, beq_iff_eq, bne_iff_ne, beq_eq_false_iff_ne, bne_eq_false_iff_eq, ne_eq, Bool.or_eq_true, Bool.or_eq_false_iff, Bool.and_eq_true, Bool.and_eq_false_imp, Bool.not_eq_true, Bool.not_eq_true', Bool.not_eq_false', Classical.not_not, Int.not_lt, Int.not_le, gt_iff_lt, ge_iff_le] at hc0
    refine W.skip ?_
    refine WE.nxt ?_
    refine W.seq ?_
    refine W.region _ ?_
    refine WG.run tab_ok 1 rfl ?_
    refine WG.nil ?_
    refine WE.nxt ?_
    refine W.seq ?_
    refine W.seq ?_
    refine W.region _ ?_
    refine WG.run tab_ok 3 rfl ?_
    refine WG.nil ?_
    refine WE.nxt ?_
    refine W.block ?_
    refine W.loopK (β := Nat) (fun k => k ≤ tb.length) (fun k => [(11, true, .int .i64 (clsN tb k)), (23, true, .int .i64 (k : Int))]) [0, 2, 3, 8, 10, 21, 22] [_, _, _, _, _, _, _] [] _ rfl (fun k => []) (fun k => tb.length - k) (0) (Nat.zero_le _) ⟨rfl, rfl, rfl, rfl, rfl, rfl, rfl, rfl, rfl, rfl⟩ (by (repeat (first | exact List.Sublist.refl _ | exact List.nil_sublist _ | apply List.Sublist.cons_cons | apply List.Sublist.cons)); done) ?_
    intro k hst
    dsimp only [zipE, setAll, List.cons_append, List.nil_append, List.set_cons_zero, List.set_cons_succ] at hst ⊢
    have hcbk := hcb k
    refine W.seq ?_
    refine W.region _ ?_
    refine WG.run tab_ok 1 rfl ?_
    refine WG.nil ?_
    refine WE.nxt ?_
    refine W.seq ?_
    refine W.condD rfl (fun hc1 => ?_) (fun hc1 => ?_)
    · try dsimp only at hc1
      have hkl : k < tb.length := by omega
      have hsc := clsN_succ hkl
      have hnb := hb _ (nth_mem hkl)
      refine W.skip ?_
      refine WE.nxt ?_
      refine W.seq ?_
      refine W.block ?_
      refine W.seq ?_
      refine W.region _ ?_
      refine WG.y rfl rfl (by decide) (Yl.indexN tab_ok rfl rfl rfl rfl rfl rfl (fun _ => rfl) (by intro _; (try dsimp only) <;> omega) (by intro _; first | exact fun _ _ _ _ => rfl | exact RS.has (by assumption) | exact fun _ _ _ _ => (by assumption) | exact HasMem.ownD 0 rfl | exact HasMem.ownD 1 rfl | exact HasMem.ownD 2 rfl | exact HasMem.ownD 3 rfl | exact HasMem.ownD 4 rfl | exact HasMem.ownD 5 rfl)) ?_
      refine' WG.y rfl rfl (by decide) (Yl.load1 tab_ok rfl rfl rfl (fun _ => rfl) ?r1 rfl ?h1) ?_
      case r1 => (first | (apply RS.rdD; assumption; ((try dsimp only) <;> omega)) | exact Rd.slD 0 rfl (by (try dsimp only) <;> omega) | exact Rd.slD 1 rfl (by (try dsimp only) <;> omega) | exact Rd.slD 2 rfl (by (try dsimp only) <;> omega) | exact Rd.slD 3 rfl (by (try dsimp only) <;> omega) | exact Rd.slD 4 rfl (by (try dsimp only) <;> omega) | exact Rd.slD 5 rfl (by (try dsimp only) <;> omega))
      case h1 => rfl
      refine WG.run tab_ok 1 rfl ?_
      refine WG.nil ?_
      refine WE.nxt ?_
      refine W.region _ ?_
      refine WG.run tab_ok 2 rfl ?_
      refine WG.y rfl rfl (by decide) (Yl.add rfl rfl rfl (fun _ => rfl) (by intro _; constructor <;> (try dsimp only) <;> omega)) ?_
      refine WG.run tab_ok 2 rfl ?_
      refine WG.nil ?_
      refine WE.blk _ ?_
      refine WE.nxt ?_
      refine W.region _ ?_
      refine WG.y rfl rfl (by decide) (Yl.add rfl rfl rfl (fun _ => rfl) (by intro _; constructor <;> (try dsimp only) <;> omega)) ?_
      refine WG.run tab_ok 1 rfl ?_
      refine WG.nil ?_
      refine WE.again (k + 1) (by omega) (by (try dsimp only); omega) ⟨vint (by rw [hsc]; split <;> omega), rfl, rfl, rfl, rfl, rfl, rfl, rfl, rfl, rfl⟩ (RLe.refl _) (by (repeat (first | exact List.Sublist.refl _ | exact List.nil_sublist _ | apply List.Sublist.cons_cons | apply List.Sublist.cons)); done)
    · try dsimp only at hc1
      obtain rfl : k = tb.length := by omega
      rw [clsN_all tb]
      rw [hnc]
      refine W.exit ?_
      refine WE.then_exit ?_
      refine WE.then_exit ?_
      refine WE.blk_exit ?_
      refine WE.nxt ?_
      refine W.seq ?_
      refine W.seq ?_
      refine W.region _ ?_
      refine WG.run tab_ok 1 rfl ?_
      refine WG.callV en70 rfl rfl (by decide) (CallOp.mk' rfl rfl rfl rfl) (fun _ => rfl) (fun hg => hvv ▸ Validate_V hp) ?_
      refine WG.run tab_ok 1 rfl ?_
      refine WG.nil ?_
      refine WE.nxt ?_
      refine W.seq ?_
      refine W.region _ ?_
      refine WG.run tab_ok 2 rfl ?_
      refine WG.nil ?_
      refine WE.nxt ?_
      refine W.condN rfl (fun hc2 => ?_) (fun hc2 => ?_)
      · try dsimp only at hc2
        exact absurd rfl hc2
      · try dsimp only at hc2
        refine W.skip ?_
        refine WE.nxt ?_
        refine W.seq ?_
        refine W.seq ?_
        refine W.region _ ?_
        refine WG.run tab_ok 4 rfl ?_
        refine WG.callV en71 rfl rfl (by decide) (CallOp.mk' rfl rfl rfl rfl) (fun _ => rfl) (fun hg => hck ▸ Check_V hp) ?_
        refine WG.run tab_ok 1 rfl ?_
        refine WG.nil ?_
        refine WE.nxt ?_
        refine W.seq ?_
        refine W.region _ ?_
        refine WG.run tab_ok 2 rfl ?_
        refine WG.nil ?_
        refine WE.nxt ?_
        refine W.condN rfl (fun hc3 => ?_) (fun hc3 => ?_)
        · try dsimp only at hc3
          exact absurd rfl hc3
        · try dsimp only at hc3
          refine W.skip ?_
          refine WE.nxt ?_
          refine W.seq ?_
          refine W.region _ ?_
          refine WG.run tab_ok 6 rfl ?_
          refine WL.call en73 rfl rfl (by decide) (CallOp.mkT rfl rfl rfl rfl) (SlotsMk_C w0 _) ?_
          rintro _ _ _ - ⟨b2, b3, rfl, rfl, rfl⟩
          refine WL.freezeBlk 0 rfl ?_
          intro R1 hR1 h3
          refine WL.freezeBlk 0 rfl ?_
          intro R2 hR2 h2
          have h3 := hR2 _ _ h3
          have hp := hp.mono (hR1.trans hR2)
          have hwr := hwr.mono (hR1.trans hR2)
          have hrun := fun F => MRun_C (pc := pc) (g := 124) (first := #[]) (capd := #[.pointer (some ⟨b3, 0, none⟩), .pointer (some ⟨b2, 0, none⟩)]) (ch := slotCh ps cap tb) (good := fun ms _ => goodB ps ms) (classes := nc) (cap := cap) (ticks := ticks) (X := fun _ => []) (sg := ()) w0 hp (slot_fair hok.sorted).toGood ⟨by have := hok.len; omega, fun p hp => by have := hs p hp; have := hf p hp; omega⟩ (slot_start _) (by omega) (by omega) (by omega) en124 (fun sb bg ms sg F hgd hbl l1 l2 n1 n2 => Slot1_C w0 hp hbl hok.sorted hwr h3 h2 (by omega) (by omega) (by omega) hgd (by omega) (by omega) F) F
          simp only [List.nil_append] at hrun
          refine WL.call en72 rfl rfl (by decide) (CallOp.mkT rfl rfl rfl rfl) (hrun _) ?_
          rintro _ _ E2 - ⟨rows, gd, go, s, hsr, rfl, rfl, h1, h2, h3, hsub⟩
          refine WL.subE hsub ?_
          refine WL.perm (List.perm_middle (l₁ := _ :: _ :: rows.map (rowE 3))) ?_
          first | refine WL.efN rfl rfl (Ef.store0 0 tab_ok rfl rfl rfl rfl rfl rfl rfl rfl ?_) | refine WL.efN rfl rfl (Ef.store0 1 tab_ok rfl rfl rfl rfl rfl rfl rfl rfl ?_) | refine WL.efN rfl rfl (Ef.store0 2 tab_ok rfl rfl rfl rfl rfl rfl rfl rfl ?_) | refine WL.efN rfl rfl (Ef.store0 3 tab_ok rfl rfl rfl rfl rfl rfl rfl rfl ?_) | refine WL.efN rfl rfl (Ef.store0 4 tab_ok rfl rfl rfl rfl rfl rfl rfl rfl ?_) | refine WL.efN rfl rfl (Ef.store0 5 tab_ok rfl rfl rfl rfl rfl rfl rfl rfl ?_)
          refine WG.run tab_ok 1 rfl ?_
          refine WG.nil ?_
          refine WE.nxt ?_
          refine W.ret ?_
          refine WE.retF tab_ok [_, _] rfl ⟨⟨_, _, _, rfl, rfl, rfl, ((by first | exact Rd.blk 0 rfl | exact Rd.blk 1 rfl | exact Rd.blk 2 rfl | exact Rd.blk 3 rfl | exact Rd.blk 4 rfl | exact Rd.blk 5 rfl)), rfl⟩, rfl, trivial⟩ (hR1.trans hR2) ?_
          exact ⟨rows, gd, go, s, hsr, rfl, h1, h2, h3, (by (repeat (first | exact List.Sublist.refl _ | exact List.nil_sublist _ | apply List.Sublist.cons_cons | apply List.Sublist.cons)); done)⟩

end Go.Proofs.Ytnaeefefggmomaa

/- append to a slice that is read only and full, and s[:n:n]. No condition. -/
namespace Go.Proofs.Ytnaeefefggmomaa.K
open Go Go.RowKit

section
variable {P : Program} {T : Tab} {n : Nat} {env : Env} {w0 : World} {R : Ro} {E : List Ent} {o : Oper} {K : Value → Ro → List Ent → Prop} {p q pc : Bool}
theorem Yl.sliceHM {t e : TypeId} {x h u : Operand} {a : Option Addr} {m cap : Nat} {i j : Int} {r : Bool} {d : TD} (hT : TabOk P T) (ho : o.op = .slice t x none (some h) (some u)) (hd : T.at t = some d) (hk : d.k = .slice e)
    (hx : ev env x = some (p, .slice a m cap)) (hh : ev env h = some (q, .int .i64 i)) (hu : ev env u = some (r, .int .i64 j)) (hpq : pc = true → (p && (q && r)) = true) (hi : pc = true → 0 ≤ i ∧ i ≤ j ∧ j ≤ cap) {d2 : TD} (hd2 : T.at e = some d2) : Yl P n env w0 R E o pc (.slice a i.toNat j.toNat) := by
  intro ac w hkn hm hpc
  obtain ⟨h1, h2⟩ := and_both (hpq hpc)
  obtain ⟨h2, h3⟩ := and_both h2
  have hi := hi hpc
  have ha : a.map (·.add 0) = a := by cases a <;> simp [Addr.add]
  unfold execOp
  simp [ho, hkn.ev hx h1, hkn.ev hh h2, hkn.ev hu h3, Instr.sliceAt, Instr.slice, Instr.sliceBounds, Instr.sliceBound, asIntOf, underlying, hT.slice hd hk, hi, run_sizeOf hT hd2, ha, show 0 ≤ j by omega, show i ≤ j by omega]
  intro h; omega
theorem Ef.appendF {α : Type} [_i : Inhabited α] {enc : α → List Value} {t e : TypeId} {x y : Operand} {k m0 m c : Nat} {a b : Option Addr} {xs ys : List α} {d d2 : TD} (hT : TabOk P T) (ho : o.op = .call { callee := .builtin .append, args := #[x, y], argTypes := #[t, t] }) (hd : T.at t = some d) (hk : d.k = .slice e) (hd2 : T.at e = some d2)
    (hx : ev env x = some (true, .slice a m0 m0)) (hm0 : m0 = xs.length) (hxs : RS (_i := _i) R k enc a xs) (hx0 : 0 < xs.length) (hks : d2.size = k) (hzl : d2.zero.length = k) (hk0 : 0 < k)
    (hy : ev env y = some (true, .slice b m c)) (hm : m = ys.length) (hys : RS (_i := _i) R k enc b ys) (hy0 : 0 < ys.length)
    (hbytes : (xs.length + ys.length) * d2.bytes ≤ 140737488355328) (hmax : xs.length + ys.length ≤ 9223372036854775807)
    (hK : ∀ (g cap' : Nat), K (.slice (some ⟨g, 0, none⟩) (xs ++ ys).length cap') R (.sl e k (some ⟨g, 0, none⟩) cap' ((xs ++ ys).map enc) :: E)) : Ef P n env w0 R E o K := by
  subst hm hm0
  intro ac w hkn hmm
  obtain ⟨inf, z, hi, hz, hzc, hsz, hby⟩ := hT.info hd2
  have hzs : z.cells.size = k := by rw [← hzl, ← hzc, Array.length_toList]
  have hxl := flatten_len hxs.1
  have hyl := flatten_len hys.1
  rw [List.length_map] at hxl hyl
  have hns : ∀ r ∈ (xs ++ ys).map enc, r.length = k := fun r hr => by
    rw [List.map_append] at hr
    rcases List.mem_append.1 hr with h | h
    · exact hxs.1 r h
    · exact hys.1 r h
  have hnz : ∀ {l : List α}, 0 < l.length → (l.map enc).flatten.length = l.length * k → (l.map enc).flatten ≠ [] := fun hl he h => by
    rw [h] at he
    have := Nat.mul_pos hl hk0
    simp at he; omega
  rcases RSl.all (E := E) hxs with h | ⟨ax, rfl, hrx⟩
  · exact absurd h (hnz hx0 hxl)
  rcases RSl.all (E := E) hys with h | ⟨ay, rfl, hry⟩
  · exact absurd h (hnz hy0 hyl)
  have hr := run_append_grow (P := P) w t o.type e inf z (hT.slice hd hk) hi hz ax xs.length xs.length (xs.map enc).flatten (by rw [hxl, hsz, hks]) (hrx w0 w hmm) ay ys.length c (ys.map enc).flatten (by rw [hyl, hsz, hks]) (hry w0 w hmm) (by omega) (by omega) (by rw [hby]; exact growslice_fits (by omega) hbytes)
  have hcm := grownCap_le_maxLen w (xs.length + ys.length) xs.length e (by simp only [maxLen]; omega)
  have hge := grownCap_ge w (xs.length + ys.length) xs.length e
  have hnew : Mem w0 (w.drew.alloc (.cells ((xs.map enc).flatten.toArray ++ (ys.map enc).flatten.toArray ++ Builtin.zeroCells z.cells (grownCap w (xs.length + ys.length) xs.length e - (xs.length + ys.length))) e)) R (.sl e k (some ⟨w.heap.size, 0, none⟩) (grownCap w (xs.length + ys.length) xs.length e) ((xs ++ ys).map enc) :: E) := by
    refine hmm.new ⟨rfl, rfl, rfl, by simp, fun j hj _ => heap_alloc_old w.drew _ hj⟩ (ok_sl hns hk0 hmm.below.size (heap_alloc_new w.drew _) (by simpa using hge) hcm ?_ ?_) (fun b hb => by simp [Ent.block] at hb; omega)
    · simp only [Array.size_append, List.size_toArray, size_zeroCells, hzs, hxl, hyl, ← Nat.add_mul]
      congr 1; omega
    · simp only [Array.toList_append, List.append_assoc, List.flatten_append, List.length_append, List.map_append, List.length_map]
      rw [← List.append_assoc]
      exact List.take_left' (by rw [List.length_append, hxl, hyl, Nat.add_mul])
  have hKK := hK w.heap.size (grownCap w (xs.length + ys.length) xs.length e)
  rw [List.length_append] at hKK
  refine ⟨_, _, R, _, .inl ?_, hnew, hKK⟩
  unfold execOp
  simp only [ho, resolve, invoke, builtin, Sem.run_bind, Sem.run_pure, Result.andThen_ok, List.map_toArray, List.map_cons, List.map_nil, hkn.ev hx rfl, hkn.ev hy rfl, hr]
end
end Go.Proofs.Ytnaeefefggmomaa.K

/- Chapter 21: the curve, its parts. No condition. -/
set_option linter.unusedSimpArgs false
set_option linter.unusedVariables false
namespace Go.Proofs.Ytnaeefefggmomaa
open Go Go.RowKit Go.Proofs.Ytnaeefefggmomaa.K Go.Proofs.Ytnaeefefggmomaa.M

theorem CurveTL_V {R : Ro} {b4 b12 : Nat} {cap lost : Int} {t : Nat} (h4 : R b4 = some [.int .i64 cap]) (h12 : R b12 = some [.int .i64 lost]) (hc : 0 ≤ cap ∧ cap ≤ 4000) (hl : 0 ≤ lost ∧ lost ≤ 1500) (ht : t ≤ 10000) : FnV Try.prog 80 [.int .i64 (t : Int), .pointer (some ⟨b4, 0, none⟩), .pointer (some ⟨b12, 0, none⟩)] R (.int .i64 (lineF cap lost t)) := by
  refine Fn.toV (fun w0 E => ?_)
  have hm := mulB (a := cap) (b := (t : Int)) (A := 4000) (B := 10000) (by omega) (by omega)
  have hv : (if (0 : Int) < cap * t - lost then cap * t - lost else 0) = lineF cap lost t := by unfold lineF; split <;> omega
  refine Fn.enter (n := 11) Try.func80 rfl rfl (Nat.le_of_ble_eq_true rfl) rfl ?_
  refine W.seq ?_
  refine W.region _ ?_
  refine WG.run tab_ok 1 rfl ?_
  refine WG.nil ?_
  refine WE.nxt ?_
  refine W.seq ?_
  refine W.region _ ?_
  refine' WG.y rfl rfl (by decide) (Yl.load1 tab_ok rfl rfl rfl (fun _ => rfl) ?r1 rfl ?h1) ?_
  case r1 => exact Rd.ro h4
  case h1 => rfl
  refine WG.run tab_ok 1 rfl ?_
  refine WG.y rfl rfl (by decide) (Yl.mul rfl rfl rfl (fun _ => rfl) (by intro _; constructor <;> (try dsimp only) <;> omega)) ?_
  refine' WG.y rfl rfl (by decide) (Yl.load1 tab_ok rfl rfl rfl (fun _ => rfl) ?r2 rfl ?h2) ?_
  case r2 => exact Rd.ro h12
  case h2 => rfl
  refine WG.y rfl rfl (by decide) (Yl.sub rfl rfl rfl (fun _ => rfl) (by intro _; constructor <;> (try dsimp only) <;> omega)) ?_
  refine WG.run tab_ok 2 rfl ?_
  refine WG.nil ?_
  refine WE.nxt ?_
  refine W.ret ?_
  refine WE.subE (E' := E) (by (repeat (first | exact List.Sublist.refl _ | exact List.nil_sublist _ | apply List.Sublist.cons_cons | apply List.Sublist.cons)); done) ?_
  refine WE.retF tab_ok [_] rfl ⟨rfl, trivial⟩ (RLe.refl _) ?_
  exact ⟨by rw [← hv]; rfl, rfl⟩

theorem CurveTG_V {R : Ro} {b19 : Nat} {a : Option Addr} {c : Nat} {xs : List Int} {t : Nat} (h19 : R b19 = some [.slice a xs.length c]) (hx : RS R 1 encI a xs) (ht : t < xs.length) : FnV Try.prog 82 [.int .i64 (t : Int), .pointer (some ⟨b19, 0, none⟩)] R (.int .i64 (nth xs t)) := by
  refine Fn.toV (fun w0 E => ?_)
  have hla := hx.len
  refine Fn.enter (n := 8) Try.func82 rfl rfl (Nat.le_of_ble_eq_true rfl) rfl ?_
  refine W.seq ?_
  refine W.region _ ?_
  refine WG.run tab_ok 1 rfl ?_
  refine WG.nil ?_
  refine WE.nxt ?_
  refine W.seq ?_
  refine W.region _ ?_
  refine' WG.y rfl rfl (by decide) (Yl.load1 tab_ok rfl rfl rfl (fun _ => rfl) ?r1 rfl ?h1) ?_
  case r1 => exact Rd.ro h19
  case h1 => rfl
  refine WG.run tab_ok 1 rfl ?_
  refine WG.y rfl rfl (by decide) (Yl.indexN tab_ok rfl rfl rfl rfl rfl rfl (fun _ => rfl) (by intro _; (try dsimp only) <;> omega) (by intro _; first | exact fun _ _ _ _ => rfl | exact RS.has (by assumption) | exact fun _ _ _ _ => (by assumption) | exact HasMem.ownD 0 rfl | exact HasMem.ownD 1 rfl)) ?_
  refine' WG.y rfl rfl (by decide) (Yl.load1 tab_ok rfl rfl rfl (fun _ => rfl) ?r2 rfl ?h2) ?_
  case r2 => (first | (apply RS.rdD; assumption; ((try dsimp only) <;> omega)) | exact Rd.slD 0 rfl (by (try dsimp only) <;> omega) | exact Rd.slD 1 rfl (by (try dsimp only) <;> omega))
  case h2 => rfl
  refine WG.run tab_ok 1 rfl ?_
  refine WG.nil ?_
  refine WE.nxt ?_
  refine W.ret ?_
  refine WE.subE (E' := E) (by (repeat (first | exact List.Sublist.refl _ | exact List.nil_sublist _ | apply List.Sublist.cons_cons | apply List.Sublist.cons)); done) ?_
  refine WE.retF tab_ok [_] rfl ⟨rfl, trivial⟩ (RLe.refl _) ?_
  exact ⟨rfl, rfl⟩

end Go.Proofs.Ytnaeefefggmomaa

/- Chapter 21: the curve. No condition. -/
set_option linter.unusedSimpArgs false
set_option linter.unusedVariables false
namespace Go.Proofs.Ytnaeefefggmomaa
open Go Go.RowKit Go.Proofs.Ytnaeefefggmomaa.K Go.Proofs.Ytnaeefefggmomaa.M

set_option maxHeartbeats 1000000 in
theorem CurveT_C {R : Ro} {wa za : Option Addr} {wc zc : Nat} {tb : List Int} {z : List Sz} (hwr : RS R 1 encI wa tb) (hzr : RS R 2 encZ za z) {cap cls : Int} (hwc : tb.length ≤ wc) (w0 : World) (E : List Ent) : K.Fn Try.prog 30 [.int .i64 cap, .int .i64 cls, .slice wa tb.length wc, .slice za z.length zc] w0 R E (fun r R' E' => ∃ (f : Option Addr) (fc : Nat), r = cvV f fc (slotC cap cls tb z) ∧ RS R' 1 encI f (slotC cap cls tb z).1.vals ∧ E.Sublist E') := by
  have hla := hzr.len
  have hlw := hwr.len
  refine Fn.enter (n := 168) Try.func30 rfl rfl (Nat.le_of_ble_eq_true rfl) rfl ?_
  refine W.seq ?_
  refine W.region _ ?_
  refine WL.ef rfl rfl (by decide) (Ef.box rfl rfl (fun b4 => ?_))
  refine WL.ef rfl rfl (by decide) (Ef.alloc tab_ok rfl rfl (fun b8 => ?_))
  refine WG.run tab_ok 1 rfl ?_
  refine WG.nil ?_
  refine WE.nxt ?_
  refine W.seq ?_
  refine W.seq ?_
  refine W.region _ ?_
  refine' WG.y rfl rfl (by decide) (Yl.load1 tab_ok rfl rfl rfl (fun _ => rfl) ?r1 rfl ?h1) ?_
  case r1 => (first | exact Rd.ro (by assumption) | exact Rd.blk 0 rfl | exact Rd.blk 1 rfl | exact Rd.blk 2 rfl | exact Rd.blk 3 rfl | exact Rd.blk 4 rfl | exact Rd.blk 5 rfl | exact Rd.blk 6 rfl | exact Rd.blk 7 rfl)
  case h1 => rfl
  refine WG.run tab_ok 3 rfl ?_
  refine WG.callV en33 rfl rfl (by decide) (CallOp.mk' rfl rfl rfl rfl) (fun _ => rfl) (fun hg => CheckT_V hwr hzr) ?_
  refine WG.run tab_ok 1 rfl ?_
  refine WG.nil ?_
  refine WE.nxt ?_
  refine W.seq ?_
  refine W.region _ ?_
  refine WG.run tab_ok 2 rfl ?_
  refine WG.nil ?_
  refine WE.nxt ?_
  refine W.condN rfl (fun hc0 => ?_) (fun hc0 => ?_)
  · try dsimp only at hc0
    have hd : slotC cap cls tb z = (zcv, chkT cap cls tb z) := if_pos hc0
    refine W.seq ?_
    refine W.region _ ?_
    -- build
    refine WG.y rfl rfl (by decide) (Yl.build (parts := []) tab_ok rfl rfl rfl rfl (fun _ => rfl) rfl rfl) ?_
    refine WG.run tab_ok 1 rfl ?_
    first | refine WL.efN rfl rfl (Ef.store0 0 tab_ok rfl rfl rfl rfl rfl rfl rfl rfl ?_) | refine WL.efN rfl rfl (Ef.store0 1 tab_ok rfl rfl rfl rfl rfl rfl rfl rfl ?_) | refine WL.efN rfl rfl (Ef.store0 2 tab_ok rfl rfl rfl rfl rfl rfl rfl rfl ?_) | refine WL.efN rfl rfl (Ef.store0 3 tab_ok rfl rfl rfl rfl rfl rfl rfl rfl ?_) | refine WL.efN rfl rfl (Ef.store0 4 tab_ok rfl rfl rfl rfl rfl rfl rfl rfl ?_) | refine WL.efN rfl rfl (Ef.store0 5 tab_ok rfl rfl rfl rfl rfl rfl rfl rfl ?_) | refine WL.efN rfl rfl (Ef.store0 6 tab_ok rfl rfl rfl rfl rfl rfl rfl rfl ?_) | refine WL.efN rfl rfl (Ef.store0 7 tab_ok rfl rfl rfl rfl rfl rfl rfl rfl ?_)
    refine WG.run tab_ok 1 rfl ?_
    refine WG.nil ?_
    refine WE.nxt ?_
    refine W.ret ?_
    refine WE.then_ret ?_
    refine WE.retF tab_ok [_, _] rfl ⟨⟨_, _, _, rfl, rfl, rfl, ((by first | exact Rd.blk 0 rfl | exact Rd.blk 1 rfl | exact Rd.blk 2 rfl | exact Rd.blk 3 rfl | exact Rd.blk 4 rfl | exact Rd.blk 5 rfl | exact Rd.blk 6 rfl | exact Rd.blk 7 rfl)), rfl⟩, rfl, trivial⟩ ((by first | exact RLe.refl _ | exact hRa.trans (hRb.trans hR4) | exact hR1.trans (hR2.trans (hRc.trans hR4)))) ?_
    exact ⟨none, 0, by rw [hd]; rfl, by rw [hd]; exact rs_nil, (by (repeat (first | exact List.Sublist.refl _ | exact List.nil_sublist _ | apply List.Sublist.cons_cons | apply List.Sublist.cons)); done)⟩
  · try dsimp only at hc0
    obtain ⟨c1, c2, k1, k2, zl, ⟨t1, t2, htb⟩, hz⟩ := chkT_ok hc0
    have hck : cls.toNat < z.length := by omega
    have hzk := hz _ (nth_mem hck)
    refine W.skip ?_
    refine WE.nxt ?_
    refine W.seq ?_
    refine W.regionH _ (ES := []) mixed ?_
    refine WA.take 0 rfl (by kernel_rfl) (by kernel_rfl) (by kernel_rfl) rfl rfl (by decide) (pureV_ok tab_ok rfl (fun _ => rfl)) (by (repeat (first | exact List.Sublist.refl _ | exact List.nil_sublist _ | apply List.Sublist.cons_cons | apply List.Sublist.cons)); done) (by first | exact RLe.refl _ | assumption) ?_
    refine WA.take 1 rfl (by kernel_rfl) (by kernel_rfl) (by kernel_rfl) rfl rfl (by decide) (pureV_ok tab_ok rfl (fun _ => rfl)) (by (repeat (first | exact List.Sublist.refl _ | exact List.nil_sublist _ | apply List.Sublist.cons_cons | apply List.Sublist.cons)); done) (by first | exact RLe.refl _ | assumption) ?_
    refine WA.take 2 rfl (by kernel_rfl) (by kernel_rfl) (by kernel_rfl) rfl rfl (by decide) (pureV_ok tab_ok rfl (fun _ => rfl)) (by (repeat (first | exact List.Sublist.refl _ | exact List.nil_sublist _ | apply List.Sublist.cons_cons | apply List.Sublist.cons)); done) (by first | exact RLe.refl _ | assumption) ?_
    refine WA.take 3 rfl (by kernel_rfl) (by kernel_rfl) (by kernel_rfl) rfl rfl (by decide) (Yl.index tab_ok rfl rfl rfl rfl rfl rfl (fun _ => rfl) (by intro _; constructor <;> (try dsimp only) <;> omega) (by intro _; first | exact fun _ _ _ _ => rfl | exact RS.has (by assumption) | exact fun _ _ _ _ => (by assumption) | exact HasMem.ownD 0 rfl | exact HasMem.ownD 1 rfl | exact HasMem.ownD 2 rfl | exact HasMem.ownD 3 rfl | exact HasMem.ownD 4 rfl | exact HasMem.ownD 5 rfl | exact HasMem.ownD 6 rfl | exact HasMem.ownD 7 rfl)) (by (repeat (first | exact List.Sublist.refl _ | exact List.nil_sublist _ | apply List.Sublist.cons_cons | apply List.Sublist.cons)); done) (by first | exact RLe.refl _ | assumption) ?_
    refine WA.take 4 rfl (by kernel_rfl) (by kernel_rfl) (by kernel_rfl) rfl rfl (by decide) (pureV_ok tab_ok rfl (fun _ => rfl)) (by (repeat (first | exact List.Sublist.refl _ | exact List.nil_sublist _ | apply List.Sublist.cons_cons | apply List.Sublist.cons)); done) (by first | exact RLe.refl _ | assumption) ?_
    refine' WA.take 5 rfl (by kernel_rfl) (by kernel_rfl) (by kernel_rfl) rfl rfl (by decide) (Yl.load1 tab_ok rfl rfl rfl (fun _ => rfl) ?r2 rfl ?h2) (by (repeat (first | exact List.Sublist.refl _ | exact List.nil_sublist _ | apply List.Sublist.cons_cons | apply List.Sublist.cons)); done) (by first | exact RLe.refl _ | assumption) ?_
    case r2 => apply Rd.add; (first | (apply RS.rdD; assumption; ((try dsimp only) <;> omega)) | exact Rd.slD 0 rfl (by (try dsimp only) <;> omega) | exact Rd.slD 1 rfl (by (try dsimp only) <;> omega) | exact Rd.slD 2 rfl (by (try dsimp only) <;> omega) | exact Rd.slD 3 rfl (by (try dsimp only) <;> omega) | exact Rd.slD 4 rfl (by (try dsimp only) <;> omega) | exact Rd.slD 5 rfl (by (try dsimp only) <;> omega) | exact Rd.slD 6 rfl (by (try dsimp only) <;> omega) | exact Rd.slD 7 rfl (by (try dsimp only) <;> omega))
    case h2 => rfl
    refine WA.take 6 rfl (by kernel_rfl) (by kernel_rfl) (by kernel_rfl) rfl rfl (by decide) (Yl.sub rfl rfl rfl (fun _ => rfl) (by intro _; constructor <;> (try dsimp only) <;> omega)) (by (repeat (first | exact List.Sublist.refl _ | exact List.nil_sublist _ | apply List.Sublist.cons_cons | apply List.Sublist.cons)); done) (by first | exact RLe.refl _ | assumption) ?_
    refine WA.take 7 rfl (by kernel_rfl) (by kernel_rfl) (by kernel_rfl) rfl rfl (by decide) (pureV_ok tab_ok rfl (fun _ => rfl)) (by (repeat (first | exact List.Sublist.refl _ | exact List.nil_sublist _ | apply List.Sublist.cons_cons | apply List.Sublist.cons)); done) (by first | exact RLe.refl _ | assumption) ?_
    refine WA.eff 8 rfl (by kernel_rfl) rfl rfl (by decide) (Ef.alloc tab_ok rfl rfl (fun b12 => ?_))
    refine ⟨by first | exact RLe.refl _ | assumption, (by (repeat (first | exact List.Sublist.refl _ | exact List.nil_sublist _ | apply List.Sublist.cons_cons | apply List.Sublist.cons)); done), ?_⟩
    refine WA.take 9 rfl (by kernel_rfl) (by kernel_rfl) (by kernel_rfl) rfl rfl (by decide) (pureV_ok tab_ok rfl (fun _ => rfl)) (by (repeat (first | exact List.Sublist.refl _ | exact List.nil_sublist _ | apply List.Sublist.cons_cons | apply List.Sublist.cons)); done) (by first | exact RLe.refl _ | assumption) ?_
    first | refine WA.effN 10 rfl (by kernel_rfl) rfl rfl (Ef.store0 0 tab_ok rfl rfl rfl rfl rfl rfl rfl rfl ?_) | refine WA.effN 10 rfl (by kernel_rfl) rfl rfl (Ef.store0 1 tab_ok rfl rfl rfl rfl rfl rfl rfl rfl ?_) | refine WA.effN 10 rfl (by kernel_rfl) rfl rfl (Ef.store0 2 tab_ok rfl rfl rfl rfl rfl rfl rfl rfl ?_) | refine WA.effN 10 rfl (by kernel_rfl) rfl rfl (Ef.store0 3 tab_ok rfl rfl rfl rfl rfl rfl rfl rfl ?_) | refine WA.effN 10 rfl (by kernel_rfl) rfl rfl (Ef.store0 4 tab_ok rfl rfl rfl rfl rfl rfl rfl rfl ?_) | refine WA.effN 10 rfl (by kernel_rfl) rfl rfl (Ef.store0 5 tab_ok rfl rfl rfl rfl rfl rfl rfl rfl ?_) | refine WA.effN 10 rfl (by kernel_rfl) rfl rfl (Ef.store0 6 tab_ok rfl rfl rfl rfl rfl rfl rfl rfl ?_) | refine WA.effN 10 rfl (by kernel_rfl) rfl rfl (Ef.store0 7 tab_ok rfl rfl rfl rfl rfl rfl rfl rfl ?_)
    refine ⟨by first | exact RLe.refl _ | assumption, (by (repeat (first | exact List.Sublist.refl _ | exact List.nil_sublist _ | apply List.Sublist.cons_cons | apply List.Sublist.cons)); done), ?_⟩
    refine WA.done (by kernel_rfl) ?_
    refine WE.nxt ?_
    have hlo : (if (0 : Int) < (nth z cls.toNat).most - 1 then (nth z cls.toNat).most - 1 else 0) = max 0 ((nth z cls.toNat).most - 1) := by split <;> omega
    rw [hlo]
    generalize hlos : max 0 ((nth z cls.toNat).most - 1) = lost
    have hlb : 0 ≤ lost ∧ lost ≤ 1500 := by omega
    refine W.seq ?_
    refine W.region _ ?_
    refine WG.run tab_ok 1 rfl ?_
    refine WG.nil ?_
    refine WE.nxt ?_
    refine W.seq ?_
    refine W.seq ?_
    refine W.region _ ?_
    refine WG.run tab_ok 3 rfl ?_
    refine WG.nil ?_
    refine WE.nxt ?_
    refine W.block ?_
    refine W.loopK (β := Nat) (fun k => k ≤ tb.length) (fun k => [(13, true, .bool (someN tb cls k)), (45, true, .int .i64 (k : Int))]) [1, 3, 4, 8, 11, 12, 44] [_, _, _, _, _, _, _] [] _ rfl (fun k => []) (fun k => tb.length - k) (0) (Nat.zero_le _) ⟨rfl, rfl, rfl, rfl, rfl, rfl, rfl, rfl, rfl, rfl⟩ (by (repeat (first | exact List.Sublist.refl _ | exact List.nil_sublist _ | apply List.Sublist.cons_cons | apply List.Sublist.cons)); done) ?_
    intro k hst
    dsimp only [zipE, setAll, List.cons_append, List.nil_append, List.set_cons_zero, List.set_cons_succ] at hst ⊢
    
    refine W.seq ?_
    refine W.region _ ?_
    refine WG.run tab_ok 1 rfl ?_
    refine WG.nil ?_
    refine WE.nxt ?_
    refine W.seq ?_
    refine W.condD rfl (fun hc1 => ?_) (fun hc1 => ?_)
    · try dsimp only at hc1
      have hkl : k < tb.length := by omega
      refine W.skip ?_
      refine WE.nxt ?_
      refine W.seq ?_
      refine W.block ?_
      refine W.seq ?_
      refine W.region _ ?_
      refine WG.run tab_ok 2 rfl ?_
      refine WG.nil ?_
      refine WE.nxt ?_
      refine W.region _ ?_
      refine WG.run tab_ok 2 rfl ?_
      refine WG.y rfl rfl (by decide) (pureV_ok tab_ok rfl (by first | exact fun _ => rfl | exact fun h => h | (intro h; simp_all))) ?_
      refine WG.y rfl rfl (by decide) (pureV_ok tab_ok rfl (by first | exact fun _ => rfl | exact fun h => h | (intro h; simp_all))) ?_
      refine WG.y rfl rfl (by decide) (pureV_ok tab_ok rfl (by first | exact fun _ => rfl | exact fun h => h | (intro h; simp_all))) ?_
      refine WG.callV en79 rfl rfl (by decide) (CallOp.mk' rfl rfl rfl rfl) (by first | exact fun _ => rfl | exact fun h => h | (intro h; simp_all)) (fun hg => MineT_V hwr (by omega) k1 (by omega)) ?_
      refine WG.y rfl rfl (by decide) (Yl.por rfl rfl rfl (fun _ => rfl) (by intro h1 h2; simp_all <;> omega)) ?_
      refine WG.run tab_ok 1 rfl ?_
      refine WG.nil ?_
      refine WE.blk _ ?_
      refine WE.nxt ?_
      refine W.region _ ?_
      refine WG.y rfl rfl (by decide) (Yl.add rfl rfl rfl (fun _ => rfl) (by intro _; constructor <;> (try dsimp only) <;> omega)) ?_
      refine WG.run tab_ok 1 rfl ?_
      refine WG.nil ?_
      refine WE.again (k + 1) (by omega) (by (try dsimp only); omega) ⟨rfl, rfl, rfl, rfl, rfl, rfl, rfl, rfl, rfl, rfl⟩ (RLe.refl _) (by (repeat (first | exact List.Sublist.refl _ | exact List.nil_sublist _ | apply List.Sublist.cons_cons | apply List.Sublist.cons)); done)
    · try dsimp only at hc1
      obtain rfl : k = tb.length := by omega
      rw [someN_all]
      refine W.exit ?_
      refine WE.then_exit ?_
      refine WE.then_exit ?_
      refine WE.blk_exit ?_
      refine WE.nxt ?_
      refine W.seq ?_
      refine W.seq ?_
      refine W.region _ ?_
      refine WG.run tab_ok 3 rfl ?_
      refine WG.y rfl rfl (by decide) (pureV_ok tab_ok rfl (by first | exact fun _ => rfl | exact fun h => h | (intro h; simp_all))) ?_
      refine WG.y rfl rfl (by decide) (pureV_ok tab_ok rfl (by first | exact fun _ => rfl | exact fun h => h | (intro h; simp_all))) ?_
      refine WG.y rfl rfl (by decide) (Yl.index tab_ok rfl rfl rfl rfl rfl rfl (by first | exact fun _ => rfl | exact fun h => h | (intro h; simp_all)) (by intro hg; (try simp only [decide_eq_true_eq, decide_eq_false_iff_not, beq_iff_eq, bne_iff_ne, beq_eq_false_iff_ne, bne_eq_false_iff_eq, ne_eq, Bool.or_eq_true, Bool.or_eq_false_iff, Bool.and_eq_true, Bool.and_eq_false_imp, Bool.not_eq_true, Bool.not_eq_true', Bool.not_eq_false', Classical.not_not, Int.not_lt, Int.not_le, gt_iff_lt, ge_iff_le] at hg); constructor <;> (try dsimp only) <;> omega) (by intro hg; (try simp only [decide_eq_true_eq, decide_eq_false_iff_not, beq_iff_eq, bne_iff_ne, beq_eq_false_iff_ne, bne_eq_false_iff_eq, ne_eq, Bool.or_eq_true, Bool.or_eq_false_iff, Bool.and_eq_true, Bool.and_eq_false_imp, Bool.not_eq_true, Bool.not_eq_true', Bool.not_eq_false', Classical.not_not, Int.not_lt, Int.not_le, gt_iff_lt, ge_iff_le] at hg); first | exact fun _ _ _ _ => rfl | exact RS.has (by assumption) | exact fun _ _ _ _ => (by assumption) | exact HasMem.ownD 0 rfl | exact HasMem.ownD 1 rfl | exact HasMem.ownD 2 rfl | exact HasMem.ownD 3 rfl | exact HasMem.ownD 4 rfl | exact HasMem.ownD 5 rfl | exact HasMem.ownD 6 rfl | exact HasMem.ownD 7 rfl)) ?_
      refine WG.y rfl rfl (by decide) (pureV_ok tab_ok rfl (by first | exact fun _ => rfl | exact fun h => h | (intro h; simp_all))) ?_
      refine' WG.y rfl rfl (by decide) (Yl.loadG tab_ok rfl rfl rfl (by first | exact fun _ => rfl | exact fun h => h | (intro h; simp_all)) ?r3 rfl ?h3 ?g3) ?_
      case r3 => apply Rd.addC; (first | (apply RS.rdC; assumption) | exact Rd.slC 0 rfl | exact Rd.slC 1 rfl | exact Rd.slC 2 rfl | exact Rd.slC 3 rfl | exact Rd.slC 4 rfl | exact Rd.slC 5 rfl | exact Rd.slC 6 rfl | exact Rd.slC 7 rfl)
      case h3 => rfl
      case g3 => first | exact fun _ => trivial | (intro hg; (try simp only [decide_eq_true_eq, decide_eq_false_iff_not, beq_iff_eq, bne_iff_ne, beq_eq_false_iff_ne, bne_eq_false_iff_eq, ne_eq, Bool.or_eq_true, Bool.or_eq_false_iff, Bool.and_eq_true, Bool.and_eq_false_imp, Bool.not_eq_true, Bool.not_eq_true', Bool.not_eq_false', Classical.not_not, Int.not_lt, Int.not_le, gt_iff_lt, ge_iff_le] at hg); (try dsimp only); omega)
      refine WG.y rfl rfl (by decide) (pureV_ok tab_ok rfl (by first | exact fun _ => rfl | exact fun h => h | (intro h; simp_all))) ?_
      refine WG.y rfl rfl (by decide) (Yl.por rfl rfl rfl (fun _ => rfl) (by intro h1 h2; simp_all <;> omega)) ?_
      refine WG.nil ?_
      refine WE.nxt ?_
      refine W.cond rfl (fun hc2 => ?_) (fun hc2 => ?_)
      · try simp only [decide_eq_true_eq, decide_eq_false_iff_not, beq_iff_eq, bne_iff_ne, beq_eq_false_iff_ne, bne_eq_false_iff_eq, ne_eq, Bool.or_eq_true, Bool.or_eq_false_iff, Bool.and_eq_true, Bool.and_eq_false_imp, Bool.not_eq_true, Bool.not_eq_true', Bool.not_eq_false', Classical.not_not, Int.not_lt, Int.not_le, gt_iff_lt, ge_iff_le] at hc2
        have hd : slotC cap cls tb z = (zcv, 5) := by unfold slotC; rw [if_neg (fun h => h hc0), if_pos hc2]
        refine W.seq ?_
        refine W.region _ ?_
        -- build
        refine WG.y rfl rfl (by decide) (Yl.build (parts := []) tab_ok rfl rfl rfl rfl (fun _ => rfl) rfl rfl) ?_
        first | refine WL.efN rfl rfl (Ef.store0 0 tab_ok rfl rfl rfl rfl rfl rfl rfl rfl ?_) | refine WL.efN rfl rfl (Ef.store0 1 tab_ok rfl rfl rfl rfl rfl rfl rfl rfl ?_) | refine WL.efN rfl rfl (Ef.store0 2 tab_ok rfl rfl rfl rfl rfl rfl rfl rfl ?_) | refine WL.efN rfl rfl (Ef.store0 3 tab_ok rfl rfl rfl rfl rfl rfl rfl rfl ?_) | refine WL.efN rfl rfl (Ef.store0 4 tab_ok rfl rfl rfl rfl rfl rfl rfl rfl ?_) | refine WL.efN rfl rfl (Ef.store0 5 tab_ok rfl rfl rfl rfl rfl rfl rfl rfl ?_) | refine WL.efN rfl rfl (Ef.store0 6 tab_ok rfl rfl rfl rfl rfl rfl rfl rfl ?_) | refine WL.efN rfl rfl (Ef.store0 7 tab_ok rfl rfl rfl rfl rfl rfl rfl rfl ?_)
        refine WG.run tab_ok 1 rfl ?_
        refine WG.nil ?_
        refine WE.nxt ?_
        refine W.ret ?_
        refine WE.then_ret ?_
        refine WE.retF tab_ok [_, _] rfl ⟨⟨_, _, _, rfl, rfl, rfl, ((by first | exact Rd.blk 0 rfl | exact Rd.blk 1 rfl | exact Rd.blk 2 rfl | exact Rd.blk 3 rfl | exact Rd.blk 4 rfl | exact Rd.blk 5 rfl | exact Rd.blk 6 rfl | exact Rd.blk 7 rfl)), rfl⟩, rfl, trivial⟩ ((by first | exact RLe.refl _ | exact hRa.trans (hRb.trans hR4) | exact hR1.trans (hR2.trans (hRc.trans hR4)))) ?_
        exact ⟨none, 0, by rw [hd]; rfl, by rw [hd]; exact rs_nil, (by (repeat (first | exact List.Sublist.refl _ | exact List.nil_sublist _ | apply List.Sublist.cons_cons | apply List.Sublist.cons)); done)⟩
      · try simp only [decide_eq_true_eq, decide_eq_false_iff_not, beq_iff_eq, bne_iff_ne, beq_eq_false_iff_ne, bne_eq_false_iff_eq, ne_eq, Bool.or_eq_true, Bool.or_eq_false_iff, Bool.and_eq_true, Bool.and_eq_false_imp, Bool.not_eq_true, Bool.not_eq_true', Bool.not_eq_false', Classical.not_not, Int.not_lt, Int.not_le, gt_iff_lt, ge_iff_le] at hc2
        have hc2n : ¬ (someT cls tb = false ∨ (nth z cls.toNat).most < 1) := by
          rintro (h | h)
          · simp_all
          · omega
        have hmo : 1 ≤ (nth z cls.toNat).most := by omega
        have hlm : (nth z cls.toNat).most - 1 = lost := by omega
        refine W.skip ?_
        refine WE.nxt ?_
        refine W.seq ?_
        refine W.seq ?_
        refine W.region _ ?_
        refine WG.run tab_ok 2 rfl ?_
        refine WG.callV en77 rfl rfl (by decide) (CallOp.mk' rfl rfl rfl rfl) (fun _ => rfl) (fun hg => AheadT_V (t := 0) hwr (by omega) (by omega)) ?_
        refine WG.run tab_ok 5 rfl ?_
        refine WG.nil ?_
        refine WE.nxt ?_
        refine W.seq ?_
        refine W.region _ ?_
        refine WG.run tab_ok 2 rfl ?_
        refine WG.nil ?_
        refine WE.nxt ?_
        refine W.cond rfl (fun hc3 => ?_) (fun hc3 => ?_)
        · try simp only [decide_eq_true_eq, decide_eq_false_iff_not, beq_iff_eq, bne_iff_ne, beq_eq_false_iff_ne, bne_eq_false_iff_eq, ne_eq, Bool.or_eq_true, Bool.or_eq_false_iff, Bool.and_eq_true, Bool.and_eq_false_imp, Bool.not_eq_true, Bool.not_eq_true', Bool.not_eq_false', Classical.not_not, Int.not_lt, Int.not_le, gt_iff_lt, ge_iff_le] at hc3
          have hall := (aheadV_all k1).1 hc3
          have hd : slotC cap cls tb z = mbuild (lineF cap lost) (lost / cap + 1).toNat 1 cap := by rw [line_build ⟨by omega, by omega⟩ ⟨by omega, by omega⟩]; unfold slotC; rw [if_neg (fun h => h hc0), if_neg hc2n, if_pos hall, hlm]
          obtain ⟨q1, q2, q3⟩ := lost_quo (cap := cap) (lost := lost) (by omega) (by omega)
          have hFb : ∀ t : Nat, t ≤ 10000 → 0 ≤ lineF cap lost t ∧ lineF cap lost t ≤ 40000000 := fun t ht => by
            have h1 := lineF_bound (cap := cap) (lost := lost) (by omega) (by omega) t
            have h2 := mulB (a := cap) (b := (t : Int)) (A := 4000) (B := 10000) (by omega) (by omega)
            omega
          refine W.freezeBlk 0 rfl ?_
          intro Ra hRa h12
          refine W.freezeBlk 1 rfl ?_
          intro Rb hRb h4
          have h12 := hRb _ _ h12
          
          refine W.seq ?_
          refine W.region _ ?_
          refine WG.run tab_ok 2 rfl ?_
          refine WG.nil ?_
          refine WE.nxt ?_
          refine W.seq ?_
          refine W.regionH _ (ES := []) mixed ?_
          refine WA.take 0 rfl (by kernel_rfl) (by kernel_rfl) (by kernel_rfl) rfl rfl (by decide) (pureV_ok tab_ok rfl (fun _ => rfl)) (by (repeat (first | exact List.Sublist.refl _ | exact List.nil_sublist _ | apply List.Sublist.cons_cons | apply List.Sublist.cons)); done) (by first | exact RLe.refl _ | assumption) ?_
          refine' WA.take 1 rfl (by kernel_rfl) (by kernel_rfl) (by kernel_rfl) rfl rfl (by decide) (Yl.load1 tab_ok rfl rfl rfl (fun _ => rfl) ?r4 rfl ?h4) (by (repeat (first | exact List.Sublist.refl _ | exact List.nil_sublist _ | apply List.Sublist.cons_cons | apply List.Sublist.cons)); done) (by first | exact RLe.refl _ | assumption) ?_
          case r4 => (first | exact Rd.ro (by assumption) | exact Rd.blk 0 rfl | exact Rd.blk 1 rfl | exact Rd.blk 2 rfl | exact Rd.blk 3 rfl | exact Rd.blk 4 rfl | exact Rd.blk 5 rfl | exact Rd.blk 6 rfl | exact Rd.blk 7 rfl)
          case h4 => rfl
          refine' WA.take 2 rfl (by kernel_rfl) (by kernel_rfl) (by kernel_rfl) rfl rfl (by decide) (Yl.load1 tab_ok rfl rfl rfl (fun _ => rfl) ?r5 rfl ?h5) (by (repeat (first | exact List.Sublist.refl _ | exact List.nil_sublist _ | apply List.Sublist.cons_cons | apply List.Sublist.cons)); done) (by first | exact RLe.refl _ | assumption) ?_
          case r5 => (first | exact Rd.ro (by assumption) | exact Rd.blk 0 rfl | exact Rd.blk 1 rfl | exact Rd.blk 2 rfl | exact Rd.blk 3 rfl | exact Rd.blk 4 rfl | exact Rd.blk 5 rfl | exact Rd.blk 6 rfl | exact Rd.blk 7 rfl)
          case h5 => rfl
          refine WA.take 3 rfl (by kernel_rfl) (by kernel_rfl) (by kernel_rfl) rfl rfl (by decide) (Yl.quo rfl rfl rfl (fun _ => rfl) (by intro _; constructor <;> (try dsimp only) <;> omega) (by intro _; omega)) (by (repeat (first | exact List.Sublist.refl _ | exact List.nil_sublist _ | apply List.Sublist.cons_cons | apply List.Sublist.cons)); done) (by first | exact RLe.refl _ | assumption) ?_
          refine WA.take 4 rfl (by kernel_rfl) (by kernel_rfl) (by kernel_rfl) rfl rfl (by decide) (Yl.add rfl rfl rfl (fun _ => rfl) (by intro _; constructor <;> (try dsimp only) <;> omega)) (by (repeat (first | exact List.Sublist.refl _ | exact List.nil_sublist _ | apply List.Sublist.cons_cons | apply List.Sublist.cons)); done) (by first | exact RLe.refl _ | assumption) ?_
          refine' WA.take 5 rfl (by kernel_rfl) (by kernel_rfl) (by kernel_rfl) rfl rfl (by decide) (Yl.load1 tab_ok rfl rfl rfl (fun _ => rfl) ?r6 rfl ?h6) (by (repeat (first | exact List.Sublist.refl _ | exact List.nil_sublist _ | apply List.Sublist.cons_cons | apply List.Sublist.cons)); done) (by first | exact RLe.refl _ | assumption) ?_
          case r6 => (first | exact Rd.ro (by assumption) | exact Rd.blk 0 rfl | exact Rd.blk 1 rfl | exact Rd.blk 2 rfl | exact Rd.blk 3 rfl | exact Rd.blk 4 rfl | exact Rd.blk 5 rfl | exact Rd.blk 6 rfl | exact Rd.blk 7 rfl)
          case h6 => rfl
          refine WA.callG 6 rfl (by kernel_rfl) en81 rfl (by first | rfl | decide) rfl (by decide) (CallOp.mkT rfl rfl rfl rfl) (by
            rw [← Int.toNat_of_nonneg (show 0 ≤ lost / cap + 1 by omega)]
            exact Build_C (S := (lost / cap + 1).toNat) (P := 1) (I := cap) (F := lineF cap lost) (g := 80) (fi := #[]) (ca := #[.pointer (some ⟨b4, 0, none⟩), .pointer (some ⟨b12, 0, none⟩)]) en80 (by omega) (by omega) (by omega) (fun t ht => .inr (by have := hFb t (by omega); omega)) (fun t ht => CurveTL_V h4 h12 (by omega) (by omega) (by omega)) w0 _) ?_
          rintro _ R4 E4 hR4 ⟨f, fc, rfl, hf, hsub⟩
          refine ⟨hR4, List.nil_sublist _, ?_⟩
          refine WA.subE hsub ?_
          rw [← hd] at hf ⊢
          unfold cvV
          refine WA.take 7 rfl (by kernel_rfl) (by kernel_rfl) (by kernel_rfl) rfl rfl (by decide) (pureV_ok tab_ok rfl (fun _ => rfl)) (by (repeat (first | exact List.Sublist.refl _ | exact List.nil_sublist _ | apply List.Sublist.cons_cons | apply List.Sublist.cons)); done) (by first | exact RLe.refl _ | assumption) ?_
          refine WA.take 8 rfl (by kernel_rfl) (by kernel_rfl) (by kernel_rfl) rfl rfl (by decide) (pureV_ok tab_ok rfl (fun _ => rfl)) (by (repeat (first | exact List.Sublist.refl _ | exact List.nil_sublist _ | apply List.Sublist.cons_cons | apply List.Sublist.cons)); done) (by first | exact RLe.refl _ | assumption) ?_
          first | refine WA.effN 9 rfl (by kernel_rfl) rfl rfl (Ef.store0 0 tab_ok rfl rfl rfl rfl rfl rfl rfl rfl ?_) | refine WA.effN 9 rfl (by kernel_rfl) rfl rfl (Ef.store0 1 tab_ok rfl rfl rfl rfl rfl rfl rfl rfl ?_) | refine WA.effN 9 rfl (by kernel_rfl) rfl rfl (Ef.store0 2 tab_ok rfl rfl rfl rfl rfl rfl rfl rfl ?_) | refine WA.effN 9 rfl (by kernel_rfl) rfl rfl (Ef.store0 3 tab_ok rfl rfl rfl rfl rfl rfl rfl rfl ?_) | refine WA.effN 9 rfl (by kernel_rfl) rfl rfl (Ef.store0 4 tab_ok rfl rfl rfl rfl rfl rfl rfl rfl ?_) | refine WA.effN 9 rfl (by kernel_rfl) rfl rfl (Ef.store0 5 tab_ok rfl rfl rfl rfl rfl rfl rfl rfl ?_) | refine WA.effN 9 rfl (by kernel_rfl) rfl rfl (Ef.store0 6 tab_ok rfl rfl rfl rfl rfl rfl rfl rfl ?_) | refine WA.effN 9 rfl (by kernel_rfl) rfl rfl (Ef.store0 7 tab_ok rfl rfl rfl rfl rfl rfl rfl rfl ?_)
          refine ⟨by first | exact RLe.refl _ | assumption, (by (repeat (first | exact List.Sublist.refl _ | exact List.nil_sublist _ | apply List.Sublist.cons_cons | apply List.Sublist.cons)); done), ?_⟩
          refine WA.take 10 rfl (by kernel_rfl) (by kernel_rfl) (by kernel_rfl) rfl rfl (by decide) (pureV_ok tab_ok rfl (fun _ => rfl)) (by (repeat (first | exact List.Sublist.refl _ | exact List.nil_sublist _ | apply List.Sublist.cons_cons | apply List.Sublist.cons)); done) (by first | exact RLe.refl _ | assumption) ?_
          refine WA.done (by kernel_rfl) ?_
          refine WE.nxt ?_
          refine W.ret ?_
          refine WE.then_ret ?_
          refine WE.retF tab_ok [_, _] rfl ⟨⟨_, _, _, rfl, rfl, rfl, ((by first | exact Rd.blk 0 rfl | exact Rd.blk 1 rfl | exact Rd.blk 2 rfl | exact Rd.blk 3 rfl | exact Rd.blk 4 rfl | exact Rd.blk 5 rfl | exact Rd.blk 6 rfl | exact Rd.blk 7 rfl)), rfl⟩, rfl, trivial⟩ ((by first | exact RLe.refl _ | exact hRa.trans (hRb.trans hR4) | exact hR1.trans (hR2.trans (hRc.trans hR4)))) ?_
          exact ⟨f, fc, rfl, hf, (by (repeat (first | exact List.Sublist.refl _ | exact List.nil_sublist _ | apply List.Sublist.cons_cons | apply List.Sublist.cons)); done)⟩
        · try simp only [decide_eq_true_eq, decide_eq_false_iff_not, beq_iff_eq, bne_iff_ne, beq_eq_false_iff_ne, bne_eq_false_iff_eq, ne_eq, Bool.or_eq_true, Bool.or_eq_false_iff, Bool.and_eq_true, Bool.and_eq_false_imp, Bool.not_eq_true, Bool.not_eq_true', Bool.not_eq_false', Classical.not_not, Int.not_lt, Int.not_le, gt_iff_lt, ge_iff_le] at hc3
          have hna : ¬ allT cls tb = true := fun h => by rw [(aheadV_all k1).2 h] at hc3; simp at hc3
          refine W.skip ?_
          refine WE.nxt ?_
          refine W.seq ?_
          refine W.region _ ?_
          refine WG.run tab_ok 3 rfl ?_
          refine WG.nil ?_
          refine WE.nxt ?_
          refine W.seq ?_
          refine W.region _ ?_
          refine WG.run tab_ok 1 rfl ?_
          refine WG.y rfl rfl (by decide) (Yl.mul rfl rfl rfl (fun _ => rfl) (by intro _; constructor <;> (try dsimp only) <;> omega)) ?_
          refine WL.ef rfl rfl (by decide) (Ef.makeSliceD (enc := encI) 0 tab_ok rfl rfl rfl rfl rfl rfl (by (try dsimp only) <;> omega) (by (try dsimp only) <;> omega) (by (try dsimp only) <;> omega) (by (try dsimp only) <;> omega) (by decide) rfl rfl (fun a89 => ?_))
          refine WL.ef rfl rfl (by decide) (Ef.alloc tab_ok rfl rfl (fun b19 => ?_))
          first | refine WL.efN rfl rfl (Ef.store0 0 tab_ok rfl rfl rfl rfl rfl rfl rfl rfl ?_) | refine WL.efN rfl rfl (Ef.store0 1 tab_ok rfl rfl rfl rfl rfl rfl rfl rfl ?_) | refine WL.efN rfl rfl (Ef.store0 2 tab_ok rfl rfl rfl rfl rfl rfl rfl rfl ?_) | refine WL.efN rfl rfl (Ef.store0 3 tab_ok rfl rfl rfl rfl rfl rfl rfl rfl ?_) | refine WL.efN rfl rfl (Ef.store0 4 tab_ok rfl rfl rfl rfl rfl rfl rfl rfl ?_) | refine WL.efN rfl rfl (Ef.store0 5 tab_ok rfl rfl rfl rfl rfl rfl rfl rfl ?_) | refine WL.efN rfl rfl (Ef.store0 6 tab_ok rfl rfl rfl rfl rfl rfl rfl rfl ?_) | refine WL.efN rfl rfl (Ef.store0 7 tab_ok rfl rfl rfl rfl rfl rfl rfl rfl ?_)
          refine WG.nil ?_
          refine WE.nxt ?_
          refine W.seq ?_
          have e3 : (3 * (tb.length : Int)).toNat = 3 * tb.length := by omega
          rw [e3, ← fillL_zero]
          refine W.seq ?_
          refine W.region _ ?_
          refine' WG.y rfl rfl (by decide) (Yl.load1 tab_ok rfl rfl rfl (fun _ => rfl) ?r7 rfl ?h7) ?_
          case r7 => (first | exact Rd.ro (by assumption) | exact Rd.blk 0 rfl | exact Rd.blk 1 rfl | exact Rd.blk 2 rfl | exact Rd.blk 3 rfl | exact Rd.blk 4 rfl | exact Rd.blk 5 rfl | exact Rd.blk 6 rfl | exact Rd.blk 7 rfl)
          case h7 => rfl
          refine WG.run tab_ok 2 rfl ?_
          refine WG.nil ?_
          refine WE.nxt ?_
          refine W.block ?_
          refine W.loopK (β := Nat) (fun k => k ≤ 3 * tb.length) (fun k => [(92, true, .int .i64 (k : Int))]) [1, 4, 8, 11, 12, 18, 19, 91] [_, _, _, _, _, _, _, _] [] _ rfl (fun k => [(1, .sl 3 1 (some ⟨a89, 0, none⟩) (3 * tb.length) ((fillL (3 * tb.length) k).map encI))]) (fun k => 3 * tb.length - k) (0) (Nat.zero_le _) ⟨rfl, rfl, rfl, rfl, rfl, rfl, rfl, rfl, rfl, rfl⟩ (by (repeat (first | exact List.Sublist.refl _ | exact List.nil_sublist _ | apply List.Sublist.cons_cons | apply List.Sublist.cons)); done) ?_
          intro k hst
          dsimp only [zipE, setAll, List.cons_append, List.nil_append, List.set_cons_zero, List.set_cons_succ] at hst ⊢
          
          refine W.seq ?_
          refine W.region _ ?_
          refine WG.run tab_ok 1 rfl ?_
          refine WG.nil ?_
          refine WE.nxt ?_
          refine W.seq ?_
          refine W.condD rfl (fun hc4 => ?_) (fun hc4 => ?_)
          · try dsimp only at hc4
            have hkm : k < 3 * tb.length := by omega
            have hlf := fillL_len (3 * tb.length) k
            refine W.skip ?_
            refine WE.nxt ?_
            refine W.seq ?_
            refine W.block ?_
            refine W.seq ?_
            refine W.region _ ?_
            refine WG.run tab_ok 2 rfl ?_
            refine WG.nil ?_
            refine WE.nxt ?_
            refine W.region _ ?_
            refine' WG.y rfl rfl (by decide) (Yl.load1 tab_ok rfl rfl rfl (fun _ => rfl) ?r8 rfl ?h8) ?_
            case r8 => (first | exact Rd.ro (by assumption) | exact Rd.blk 0 rfl | exact Rd.blk 1 rfl | exact Rd.blk 2 rfl | exact Rd.blk 3 rfl | exact Rd.blk 4 rfl | exact Rd.blk 5 rfl | exact Rd.blk 6 rfl | exact Rd.blk 7 rfl)
            case h8 => rfl
            refine WG.run tab_ok 1 rfl ?_
            refine WG.y rfl rfl (by decide) (Yl.indexN tab_ok rfl rfl rfl rfl rfl rfl (fun _ => rfl) (by intro _; (try dsimp only) <;> omega) (by intro _; first | exact fun _ _ _ _ => rfl | exact RS.has (by assumption) | exact fun _ _ _ _ => (by assumption) | exact HasMem.ownD 0 rfl | exact HasMem.ownD 1 rfl | exact HasMem.ownD 2 rfl | exact HasMem.ownD 3 rfl | exact HasMem.ownD 4 rfl | exact HasMem.ownD 5 rfl | exact HasMem.ownD 6 rfl | exact HasMem.ownD 7 rfl)) ?_
            first | refine WL.efN rfl rfl (Ef.storeD _ 0 tab_ok rfl rfl rfl rfl rfl (by (try dsimp only) <;> omega) rfl rfl rfl rfl ?_) | refine WL.efN rfl rfl (Ef.storeD _ 1 tab_ok rfl rfl rfl rfl rfl (by (try dsimp only) <;> omega) rfl rfl rfl rfl ?_) | refine WL.efN rfl rfl (Ef.storeD _ 2 tab_ok rfl rfl rfl rfl rfl (by (try dsimp only) <;> omega) rfl rfl rfl rfl ?_) | refine WL.efN rfl rfl (Ef.storeD _ 3 tab_ok rfl rfl rfl rfl rfl (by (try dsimp only) <;> omega) rfl rfl rfl rfl ?_) | refine WL.efN rfl rfl (Ef.storeD _ 4 tab_ok rfl rfl rfl rfl rfl (by (try dsimp only) <;> omega) rfl rfl rfl rfl ?_) | refine WL.efN rfl rfl (Ef.storeD _ 5 tab_ok rfl rfl rfl rfl rfl (by (try dsimp only) <;> omega) rfl rfl rfl rfl ?_) | refine WL.efN rfl rfl (Ef.storeD _ 6 tab_ok rfl rfl rfl rfl rfl (by (try dsimp only) <;> omega) rfl rfl rfl rfl ?_) | refine WL.efN rfl rfl (Ef.storeD _ 7 tab_ok rfl rfl rfl rfl rfl (by (try dsimp only) <;> omega) rfl rfl rfl rfl ?_)
            refine WG.nil ?_
            refine WE.blk _ ?_
            refine WE.nxt ?_
            refine W.region _ ?_
            refine WG.y rfl rfl (by decide) (Yl.add rfl rfl rfl (fun _ => rfl) (by intro _; constructor <;> (try dsimp only) <;> omega)) ?_
            refine WG.run tab_ok 1 rfl ?_
            refine WG.nil ?_
            refine WE.again (k + 1) (by omega) (by (try dsimp only); omega) ⟨rfl, rfl, rfl, rfl, rfl, rfl, rfl, rfl, rfl, rfl⟩ (RLe.refl _) (by dsimp only [setAll, List.set_cons_zero, List.set_cons_succ]; rw [← fillL_set hkm]; exact List.Sublist.refl _)
          · try dsimp only at hc4
            obtain rfl : k = 3 * tb.length := by omega
            refine W.exit ?_
            refine WE.then_exit ?_
            refine WE.then_exit ?_
            refine WE.blk_exit ?_
            refine WE.nxt ?_
            refine W.seq ?_
            refine W.region _ ?_
            refine WG.run tab_ok 3 rfl ?_
            refine WG.y rfl rfl (by decide) (Yl.sliceHM tab_ok rfl rfl rfl rfl rfl rfl (fun _ => rfl) (by intro _; omega) rfl) ?_
            refine WG.run tab_ok 1 rfl ?_
            refine WL.ef rfl rfl (by decide) (Ef.appendF (enc := encI) tab_ok rfl rfl rfl rfl rfl (Int.toNat_natCast _) hwr (by omega) rfl rfl (by decide) rfl rfl hwr (by omega) (by (try dsimp only); omega) (by omega) (fun a104 c104 => ?_))
            refine WG.run tab_ok 1 rfl ?_
            refine WL.ef rfl rfl (by decide) (Ef.appendR (enc := encI) 0 tab_ok rfl rfl rfl rfl rfl rfl rfl rfl rfl rfl hwr (fun _ _ => rfl) (by simp only [List.length_append]; omega) (by simp only [List.length_append]; omega) (fun a106 c106 ha106 => ?_))
            refine WG.run tab_ok 1 rfl ?_
            refine WL.ef rfl rfl (by decide) (Ef.appendR (enc := encI) 0 tab_ok rfl rfl rfl rfl rfl rfl rfl rfl rfl rfl hwr (fun _ _ => rfl) (by simp only [List.length_append]; omega) (by simp only [List.length_append]; omega) (fun a108 c108 ha108 => ?_))
            refine WG.run tab_ok 1 rfl ?_
            refine WG.nil ?_
            refine WE.nxt ?_
            refine W.seq ?_
            rw [show tb ++ tb ++ tb ++ tb = longT tb from rfl, fillL_all (fun a j => cntS cap lost (mineT tb cls) a j)]
            refine W.freeze (enc := encI) (xs := longT tb) 0 rfl ?_
            intro R1 hR1 hlg
            have hwr := hwr.mono hR1
            have hll := longT_len tb
            refine W.seq ?_
            refine W.region _ ?_
            refine WG.run tab_ok 3 rfl ?_
            refine WG.nil ?_
            refine WE.nxt ?_
            refine W.block ?_
            refine W.loopK (β := Nat) (fun f => f ≤ tb.length) (fun f => [(111, true, .int .i64 (f : Int))]) [1, 4, 8, 12, 18, 19, 21, 110] [_, _, _, _, _, _, _, _] [] _ rfl (fun f => [(1, .sl 3 1 (some ⟨a89, 0, none⟩) (3 * tb.length) ((tickL (fun a j => cntS cap lost (mineT tb cls) a j) (3 * tb.length) f 0).map encI))]) (fun f => tb.length - f) (0) (Nat.zero_le _) ⟨rfl, rfl, rfl, rfl, rfl, rfl, rfl, rfl, rfl, rfl⟩ (by (repeat (first | exact List.Sublist.refl _ | exact List.nil_sublist _ | apply List.Sublist.cons_cons | apply List.Sublist.cons)); done) ?_
            intro f hst
            dsimp only [zipE, setAll, List.cons_append, List.nil_append, List.set_cons_zero, List.set_cons_succ] at hst ⊢
            
            refine W.seq ?_
            refine W.region _ ?_
            refine WG.run tab_ok 1 rfl ?_
            refine WG.nil ?_
            refine WE.nxt ?_
            refine W.seq ?_
            refine W.condD rfl (fun hc5 => ?_) (fun hc5 => ?_)
            · try dsimp only at hc5
              have hfl : f < tb.length := by omega
              refine W.skip ?_
              refine WE.nxt ?_
              refine W.seq ?_
              refine W.block ?_
              refine W.seq ?_
              refine W.region _ ?_
              refine WG.run tab_ok 2 rfl ?_
              refine WG.nil ?_
              refine WE.nxt ?_
              refine W.seq ?_
              refine W.region _ ?_
              refine WG.run tab_ok 2 rfl ?_
              refine WG.nil ?_
              refine WE.nxt ?_
              refine W.seq ?_
              refine W.region _ ?_
              refine' WG.y rfl rfl (by decide) (Yl.load1 tab_ok rfl rfl rfl (fun _ => rfl) ?r9 rfl ?h9) ?_
              case r9 => (first | exact Rd.ro (by assumption) | exact Rd.blk 0 rfl | exact Rd.blk 1 rfl | exact Rd.blk 2 rfl | exact Rd.blk 3 rfl | exact Rd.blk 4 rfl | exact Rd.blk 5 rfl | exact Rd.blk 6 rfl | exact Rd.blk 7 rfl)
              case h9 => rfl
              refine WG.run tab_ok 2 rfl ?_
              refine WG.nil ?_
              refine WE.nxt ?_
              refine W.block ?_
              refine W.loopK (β := Nat) (fun k => k ≤ 3 * tb.length) (fun k => [(23, true, .int .i64 (slotS cap lost (mineT tb cls) f k).1), (24, true, .int .i64 (slotS cap lost (mineT tb cls) f k).2), (116, true, .int .i64 (k : Int))]) [1, 4, 8, 12, 18, 19, 21, 22, 110, 111, 115] [_, _, _, _, _, _, _, _, _, _, _] [] _ rfl (fun k => [(1, .sl 3 1 (some ⟨a89, 0, none⟩) (3 * tb.length) ((tickL (fun a j => cntS cap lost (mineT tb cls) a j) (3 * tb.length) f k).map encI))]) (fun k => 3 * tb.length - k) (0) (Nat.zero_le _) ⟨rfl, rfl, rfl, rfl, rfl, rfl, rfl, rfl, rfl, rfl, rfl, rfl, rfl, rfl, rfl⟩ (by (repeat (first | exact List.Sublist.refl _ | exact List.nil_sublist _ | apply List.Sublist.cons_cons | apply List.Sublist.cons)); done) ?_
              intro k hst
              dsimp only [zipE, setAll, List.cons_append, List.nil_append, List.set_cons_zero, List.set_cons_succ] at hst ⊢
              
              refine W.seq ?_
              refine W.region _ ?_
              refine WG.run tab_ok 1 rfl ?_
              refine WG.nil ?_
              refine WE.nxt ?_
              refine W.seq ?_
              refine W.condD rfl (fun hc6 => ?_) (fun hc6 => ?_)
              · try dsimp only at hc6
                have hkm : k < 3 * tb.length := by omega
                obtain ⟨s1, s2, s3⟩ := slotS_nonneg (cap := cap) (lost := lost) (mine := mineT tb cls) (a := f) (by omega) k
                rw [show max 0 (-lost) = 0 by omega, Int.zero_mul] at s3
                have s4 := mulB (a := cap) (b := (k : Int)) (A := 4000) (B := 120) (by omega) (by omega)
                have htk := tickL_bound (C := (fun a j => cntS cap lost (mineT tb cls) a j)) (m := 3 * tb.length) (f := f) (k := k) (fun a j => (cntS_bound (by omega) (by omega) j).1) hkm
                have hlt := tickL_len (fun a j => cntS cap lost (mineT tb cls) a j) (3 * tb.length) f k
                have hfk : (f : Int) + (k : Int) = ((f + k : Nat) : Int) := rfl
                refine W.skip ?_
                refine WE.nxt ?_
                refine W.seq ?_
                refine W.block ?_
                refine W.seq ?_
                refine W.region _ ?_
                refine WG.run tab_ok 2 rfl ?_
                refine WG.nil ?_
                refine WE.nxt ?_
                refine W.seq ?_
                refine W.regionH _ (ES := [.blk b19 [.slice (some ⟨a89, 0, none⟩) (3 * tb.length) (3 * tb.length)], .blk b12 [.int .i64 lost]]) mixed ?_
                refine' WA.take 0 rfl (by kernel_rfl) (by kernel_rfl) (by kernel_rfl) rfl rfl (by decide) (Yl.load1 tab_ok rfl rfl rfl (fun _ => rfl) ?r10 rfl ?h10) (by (repeat (first | exact List.Sublist.refl _ | exact List.nil_sublist _ | apply List.Sublist.cons_cons | apply List.Sublist.cons)); done) (by first | exact RLe.refl _ | assumption) ?_
                case r10 => (first | exact Rd.ro (by assumption) | exact Rd.blk 0 rfl | exact Rd.blk 1 rfl | exact Rd.blk 2 rfl | exact Rd.blk 3 rfl | exact Rd.blk 4 rfl | exact Rd.blk 5 rfl | exact Rd.blk 6 rfl | exact Rd.blk 7 rfl)
                case h10 => rfl
                refine WA.take 1 rfl (by kernel_rfl) (by kernel_rfl) (by kernel_rfl) rfl rfl (by decide) (pureV_ok tab_ok rfl (fun _ => rfl)) (by (repeat (first | exact List.Sublist.refl _ | exact List.nil_sublist _ | apply List.Sublist.cons_cons | apply List.Sublist.cons)); done) (by first | exact RLe.refl _ | assumption) ?_
                refine' WA.take 2 rfl (by kernel_rfl) (by kernel_rfl) (by kernel_rfl) rfl rfl (by decide) (Yl.load1 tab_ok rfl rfl rfl (fun _ => rfl) ?r11 rfl ?h11) (by (repeat (first | exact List.Sublist.refl _ | exact List.nil_sublist _ | apply List.Sublist.cons_cons | apply List.Sublist.cons)); done) (by first | exact RLe.refl _ | assumption) ?_
                case r11 => (first | exact Rd.ro (by assumption) | exact Rd.blk 0 rfl | exact Rd.blk 1 rfl | exact Rd.blk 2 rfl | exact Rd.blk 3 rfl | exact Rd.blk 4 rfl | exact Rd.blk 5 rfl | exact Rd.blk 6 rfl | exact Rd.blk 7 rfl)
                case h11 => rfl
                refine WA.take 3 rfl (by kernel_rfl) (by kernel_rfl) (by kernel_rfl) rfl rfl (by decide) (pureV_ok tab_ok rfl (fun _ => rfl)) (by (repeat (first | exact List.Sublist.refl _ | exact List.nil_sublist _ | apply List.Sublist.cons_cons | apply List.Sublist.cons)); done) (by first | exact RLe.refl _ | assumption) ?_
                refine WA.take 4 rfl (by kernel_rfl) (by kernel_rfl) (by kernel_rfl) rfl rfl (by decide) (Yl.indexN tab_ok rfl rfl rfl rfl rfl rfl (fun _ => rfl) (by intro _; (try dsimp only) <;> omega) (by intro _; first | exact fun _ _ _ _ => rfl | exact RS.has (by assumption) | exact fun _ _ _ _ => (by assumption) | exact HasMem.ownD 0 rfl | exact HasMem.ownD 1 rfl | exact HasMem.ownD 2 rfl | exact HasMem.ownD 3 rfl | exact HasMem.ownD 4 rfl | exact HasMem.ownD 5 rfl | exact HasMem.ownD 6 rfl | exact HasMem.ownD 7 rfl)) (by (repeat (first | exact List.Sublist.refl _ | exact List.nil_sublist _ | apply List.Sublist.cons_cons | apply List.Sublist.cons)); done) (by first | exact RLe.refl _ | assumption) ?_
                refine WA.take 6 rfl (by kernel_rfl) (by kernel_rfl) (by kernel_rfl) rfl rfl (by decide) (pureV_ok tab_ok rfl (fun _ => rfl)) (by (repeat (first | exact List.Sublist.refl _ | exact List.nil_sublist _ | apply List.Sublist.cons_cons | apply List.Sublist.cons)); done) (by first | exact RLe.refl _ | assumption) ?_
                refine WA.take 7 rfl (by kernel_rfl) (by kernel_rfl) (by kernel_rfl) rfl rfl (by decide) (pureV_ok tab_ok rfl (fun _ => rfl)) (by (repeat (first | exact List.Sublist.refl _ | exact List.nil_sublist _ | apply List.Sublist.cons_cons | apply List.Sublist.cons)); done) (by first | exact RLe.refl _ | assumption) ?_
                refine' WA.take 8 rfl (by kernel_rfl) (by kernel_rfl) (by kernel_rfl) rfl rfl (by decide) (Yl.load1 tab_ok rfl rfl rfl (fun _ => rfl) ?r12 rfl ?h12) (by (repeat (first | exact List.Sublist.refl _ | exact List.nil_sublist _ | apply List.Sublist.cons_cons | apply List.Sublist.cons)); done) (by first | exact RLe.refl _ | assumption) ?_
                case r12 => (first | exact Rd.ro (by assumption) | exact Rd.blk 0 rfl | exact Rd.blk 1 rfl | exact Rd.blk 2 rfl | exact Rd.blk 3 rfl | exact Rd.blk 4 rfl | exact Rd.blk 5 rfl | exact Rd.blk 6 rfl | exact Rd.blk 7 rfl)
                case h12 => rfl
                refine WA.take 9 rfl (by kernel_rfl) (by kernel_rfl) (by kernel_rfl) rfl rfl (by decide) (Yl.sub rfl rfl rfl (fun _ => rfl) (by intro _; constructor <;> (try dsimp only) <;> omega)) (by (repeat (first | exact List.Sublist.refl _ | exact List.nil_sublist _ | apply List.Sublist.cons_cons | apply List.Sublist.cons)); done) (by first | exact RLe.refl _ | assumption) ?_
                refine WA.take 10 rfl (by kernel_rfl) (by kernel_rfl) (by kernel_rfl) rfl rfl (by decide) (pureV_ok tab_ok rfl (fun _ => rfl)) (by (repeat (first | exact List.Sublist.refl _ | exact List.nil_sublist _ | apply List.Sublist.cons_cons | apply List.Sublist.cons)); done) (by first | exact RLe.refl _ | assumption) ?_
                refine WA.take 11 rfl (by kernel_rfl) (by kernel_rfl) (by kernel_rfl) rfl rfl (by decide) (Yl.add rfl rfl rfl (fun _ => rfl) (by intro _; constructor <;> (try dsimp only) <;> omega)) (by (repeat (first | exact List.Sublist.refl _ | exact List.nil_sublist _ | apply List.Sublist.cons_cons | apply List.Sublist.cons)); done) (by first | exact RLe.refl _ | assumption) ?_
                refine' WA.yl 5 rfl (by kernel_rfl) rfl rfl (by decide) (Yl.load1 tab_ok rfl rfl rfl (fun _ => rfl) ?r13 rfl ?h13) (by (repeat (first | exact List.Sublist.refl _ | exact List.nil_sublist _ | apply List.Sublist.cons_cons | apply List.Sublist.cons)); done) (RLe.refl _) ?_
                case r13 => (first | (apply RS.rdD; assumption; ((try dsimp only) <;> omega)) | exact Rd.slD 0 rfl (by (try dsimp only) <;> omega) | exact Rd.slD 1 rfl (by (try dsimp only) <;> omega) | exact Rd.slD 2 rfl (by (try dsimp only) <;> omega) | exact Rd.slD 3 rfl (by (try dsimp only) <;> omega) | exact Rd.slD 4 rfl (by (try dsimp only) <;> omega) | exact Rd.slD 5 rfl (by (try dsimp only) <;> omega) | exact Rd.slD 6 rfl (by (try dsimp only) <;> omega) | exact Rd.slD 7 rfl (by (try dsimp only) <;> omega))
                case h13 => rfl
                refine WA.take 12 rfl (by kernel_rfl) (by kernel_rfl) (by kernel_rfl) rfl rfl (by decide) (pureV_ok tab_ok rfl (fun _ => rfl)) (by (repeat (first | exact List.Sublist.refl _ | exact List.nil_sublist _ | apply List.Sublist.cons_cons | apply List.Sublist.cons)); done) (by first | exact RLe.refl _ | assumption) ?_
                refine WA.take 13 rfl (by kernel_rfl) (by kernel_rfl) (by kernel_rfl) rfl rfl (by decide) (Yl.indexN tab_ok rfl rfl rfl rfl rfl rfl (fun _ => rfl) (by intro _; (try dsimp only) <;> omega) (by intro _; first | exact fun _ _ _ _ => rfl | exact RS.has (by assumption) | exact fun _ _ _ _ => (by assumption) | exact HasMem.ownD 0 rfl | exact HasMem.ownD 1 rfl | exact HasMem.ownD 2 rfl | exact HasMem.ownD 3 rfl | exact HasMem.ownD 4 rfl | exact HasMem.ownD 5 rfl | exact HasMem.ownD 6 rfl | exact HasMem.ownD 7 rfl)) (by (repeat (first | exact List.Sublist.refl _ | exact List.nil_sublist _ | apply List.Sublist.cons_cons | apply List.Sublist.cons)); done) (by first | exact RLe.refl _ | assumption) ?_
                first | refine WA.effN 14 rfl (by kernel_rfl) rfl rfl (Ef.storeD _ 0 tab_ok rfl rfl rfl rfl rfl (by (try dsimp only) <;> omega) rfl rfl rfl rfl ?_) | refine WA.effN 14 rfl (by kernel_rfl) rfl rfl (Ef.storeD _ 1 tab_ok rfl rfl rfl rfl rfl (by (try dsimp only) <;> omega) rfl rfl rfl rfl ?_) | refine WA.effN 14 rfl (by kernel_rfl) rfl rfl (Ef.storeD _ 2 tab_ok rfl rfl rfl rfl rfl (by (try dsimp only) <;> omega) rfl rfl rfl rfl ?_) | refine WA.effN 14 rfl (by kernel_rfl) rfl rfl (Ef.storeD _ 3 tab_ok rfl rfl rfl rfl rfl (by (try dsimp only) <;> omega) rfl rfl rfl rfl ?_) | refine WA.effN 14 rfl (by kernel_rfl) rfl rfl (Ef.storeD _ 4 tab_ok rfl rfl rfl rfl rfl (by (try dsimp only) <;> omega) rfl rfl rfl rfl ?_) | refine WA.effN 14 rfl (by kernel_rfl) rfl rfl (Ef.storeD _ 5 tab_ok rfl rfl rfl rfl rfl (by (try dsimp only) <;> omega) rfl rfl rfl rfl ?_) | refine WA.effN 14 rfl (by kernel_rfl) rfl rfl (Ef.storeD _ 6 tab_ok rfl rfl rfl rfl rfl (by (try dsimp only) <;> omega) rfl rfl rfl rfl ?_) | refine WA.effN 14 rfl (by kernel_rfl) rfl rfl (Ef.storeD _ 7 tab_ok rfl rfl rfl rfl rfl (by (try dsimp only) <;> omega) rfl rfl rfl rfl ?_)
                refine ⟨by first | exact RLe.refl _ | assumption, (by (repeat (first | exact List.Sublist.refl _ | exact List.nil_sublist _ | apply List.Sublist.cons_cons | apply List.Sublist.cons)); done), ?_⟩
                refine WA.done (by kernel_rfl) ?_
                refine WE.nxt ?_
                refine W.seq ?_
                refine W.seq ?_
                refine W.region _ ?_
                refine WG.run tab_ok 3 rfl ?_
                refine WG.y rfl rfl (by decide) (Yl.add rfl rfl rfl (fun _ => rfl) (by intro _; constructor <;> (try dsimp only) <;> omega)) ?_
                rw [hfk]
                refine WG.y rfl rfl (by decide) (Yl.indexN tab_ok rfl rfl rfl rfl rfl rfl (fun _ => rfl) (by intro _; (try dsimp only) <;> omega) (by intro _; first | exact fun _ _ _ _ => rfl | exact RS.has (by assumption) | exact fun _ _ _ _ => (by assumption) | exact HasMem.ownD 0 rfl | exact HasMem.ownD 1 rfl | exact HasMem.ownD 2 rfl | exact HasMem.ownD 3 rfl | exact HasMem.ownD 4 rfl | exact HasMem.ownD 5 rfl | exact HasMem.ownD 6 rfl | exact HasMem.ownD 7 rfl)) ?_
                refine' WG.y rfl rfl (by decide) (Yl.load1 tab_ok rfl rfl rfl (fun _ => rfl) ?r14 rfl ?h14) ?_
                case r14 => (first | (apply RS.rdD; assumption; ((try dsimp only) <;> omega)) | exact Rd.slD 0 rfl (by (try dsimp only) <;> omega) | exact Rd.slD 1 rfl (by (try dsimp only) <;> omega) | exact Rd.slD 2 rfl (by (try dsimp only) <;> omega) | exact Rd.slD 3 rfl (by (try dsimp only) <;> omega) | exact Rd.slD 4 rfl (by (try dsimp only) <;> omega) | exact Rd.slD 5 rfl (by (try dsimp only) <;> omega) | exact Rd.slD 6 rfl (by (try dsimp only) <;> omega) | exact Rd.slD 7 rfl (by (try dsimp only) <;> omega))
                case h14 => rfl
                refine WG.run tab_ok 2 rfl ?_
                refine WG.nil ?_
                refine WE.nxt ?_
                refine W.condE rfl (fun hc7 => ?_) (fun hc7 => ?_)
                · try dsimp only at hc7
                  rw [longT_nth (by omega)] at hc7
                  have hm : mineT tb cls (f + k) = true := by unfold mineT; rw [hc7]; simp
                  have hS : slotS cap lost (mineT tb cls) f (k + 1) = ((slotS cap lost (mineT tb cls) f k).1, (slotS cap lost (mineT tb cls) f k).2 + cap) := by rw [slotS, if_pos hm]
                  refine W.seq ?_
                  refine W.region _ ?_
                  refine WG.run tab_ok 1 rfl ?_
                  refine' WG.y rfl rfl (by decide) (Yl.load1 tab_ok rfl rfl rfl (fun _ => rfl) ?r15 rfl ?h15) ?_
                  case r15 => (first | exact Rd.ro (by assumption) | exact Rd.blk 0 rfl | exact Rd.blk 1 rfl | exact Rd.blk 2 rfl | exact Rd.blk 3 rfl | exact Rd.blk 4 rfl | exact Rd.blk 5 rfl | exact Rd.blk 6 rfl | exact Rd.blk 7 rfl)
                  case h15 => rfl
                  refine WG.y rfl rfl (by decide) (Yl.add rfl rfl rfl (fun _ => rfl) (by intro _; constructor <;> (try dsimp only) <;> omega)) ?_
                  refine WG.run tab_ok 1 rfl ?_
                  refine WG.nil ?_
                  refine WE.nxt ?_
                  refine W.exit ?_
                  refine WE.then_exit ?_
                  refine WE.blk_exit ?_
                  refine WE.nxt ?_
                  refine W.region _ ?_
                  refine WG.y rfl rfl (by decide) (Yl.add rfl rfl rfl (fun _ => rfl) (by intro _; constructor <;> (try dsimp only) <;> omega)) ?_
                  refine WG.run tab_ok 1 rfl ?_
                  refine WG.nil ?_
                  refine WE.again (k + 1) (by omega) (by (try dsimp only); omega) ⟨vint (by rw [hS] <;> (dsimp only; (repeat' split) <;> omega)), vint (by rw [hS] <;> (dsimp only; (repeat' split) <;> omega)), rfl, rfl, rfl, rfl, rfl, rfl, rfl, rfl, rfl, rfl, rfl, rfl, rfl⟩ (RLe.refl _) (by dsimp only [setAll, List.set_cons_zero, List.set_cons_succ]; rw [tickL_set (C := (fun a j => cntS cap lost (mineT tb cls) a j)) hkm] <;> first | exact List.Sublist.refl _ | (dsimp only [cntS]; (repeat' split) <;> omega))
                · try dsimp only at hc7
                  rw [longT_nth (by omega)] at hc7
                  have hm : ¬ mineT tb cls (f + k) = true := by unfold mineT; simpa using hc7
                  have hS : slotS cap lost (mineT tb cls) f (k + 1) = ((slotS cap lost (mineT tb cls) f k).1 + max 0 ((slotS cap lost (mineT tb cls) f k).2 - lost), 0) := by rw [slotS, if_neg hm]
                  refine W.skip ?_
                  refine WE.nxt ?_
                  refine W.region _ ?_
                  refine WG.run tab_ok 2 rfl ?_
                  refine' WG.y rfl rfl (by decide) (Yl.load1 tab_ok rfl rfl rfl (fun _ => rfl) ?r16 rfl ?h16) ?_
                  case r16 => (first | exact Rd.ro (by assumption) | exact Rd.blk 0 rfl | exact Rd.blk 1 rfl | exact Rd.blk 2 rfl | exact Rd.blk 3 rfl | exact Rd.blk 4 rfl | exact Rd.blk 5 rfl | exact Rd.blk 6 rfl | exact Rd.blk 7 rfl)
                  case h16 => rfl
                  refine WG.y rfl rfl (by decide) (Yl.sub rfl rfl rfl (fun _ => rfl) (by intro _; constructor <;> (try dsimp only) <;> omega)) ?_
                  refine WG.run tab_ok 1 rfl ?_
                  refine WG.y rfl rfl (by decide) (Yl.add rfl rfl rfl (fun _ => rfl) (by intro _; constructor <;> (try dsimp only) <;> omega)) ?_
                  refine WG.run tab_ok 2 rfl ?_
                  refine WG.nil ?_
                  refine WE.blk _ ?_
                  refine WE.nxt ?_
                  refine W.region _ ?_
                  refine WG.y rfl rfl (by decide) (Yl.add rfl rfl rfl (fun _ => rfl) (by intro _; constructor <;> (try dsimp only) <;> omega)) ?_
                  refine WG.run tab_ok 1 rfl ?_
                  refine WG.nil ?_
                  refine WE.again (k + 1) (by omega) (by (try dsimp only); omega) ⟨vint (by rw [hS] <;> (dsimp only; (repeat' split) <;> omega)), vint (by rw [hS] <;> (dsimp only; (repeat' split) <;> omega)), rfl, rfl, rfl, rfl, rfl, rfl, rfl, rfl, rfl, rfl, rfl, rfl, rfl⟩ (RLe.refl _) (by dsimp only [setAll, List.set_cons_zero, List.set_cons_succ]; rw [tickL_set (C := (fun a j => cntS cap lost (mineT tb cls) a j)) hkm] <;> first | exact List.Sublist.refl _ | (dsimp only [cntS]; (repeat' split) <;> omega))
              · try dsimp only at hc6
                obtain rfl : k = 3 * tb.length := by omega
                rw [tickL_next]
                refine W.exit ?_
                refine WE.then_exit ?_
                refine WE.then_exit ?_
                refine WE.blk_exit ?_
                refine WE.blk _ ?_
                refine WE.nxt ?_
                refine W.region _ ?_
                refine WG.y rfl rfl (by decide) (Yl.add rfl rfl rfl (fun _ => rfl) (by intro _; constructor <;> (try dsimp only) <;> omega)) ?_
                refine WG.run tab_ok 1 rfl ?_
                refine WG.nil ?_
                refine WE.again (f + 1) (by omega) (by (try dsimp only); omega) ⟨rfl, rfl, rfl, rfl, rfl, rfl, rfl, rfl, rfl, rfl⟩ (RLe.refl _) (by (repeat (first | exact List.Sublist.refl _ | exact List.nil_sublist _ | apply List.Sublist.cons_cons | apply List.Sublist.cons)); done)
            · try dsimp only at hc5
              obtain rfl : f = tb.length := by omega
              refine W.exit ?_
              refine WE.then_exit ?_
              refine WE.then_exit ?_
              refine WE.blk_exit ?_
              refine WE.nxt ?_
              obtain ⟨b, _, hbm⟩ := allT_not hna
              obtain ⟨g1, g2, g3, g4⟩ := slot_build (cap := cap) (lost := lost) (mine := mineT tb cls) (n := tb.length) (by omega) (by omega) (fun i => mineT_per i) (by omega) hbm
              have hd : slotC cap cls tb z = mbuild (slotF cap lost (mineT tb cls) tb.length) tb.length tb.length ((slotF cap lost (mineT tb cls) tb.length) (2 * tb.length) - (slotF cap lost (mineT tb cls) tb.length) tb.length) := by rw [g4]; unfold slotC; rw [if_neg (fun h => h hc0), if_neg hc2n, if_neg hna, hlm]
              have hFb : ∀ t : Nat, t ≤ 10000 → 0 ≤ (slotF cap lost (mineT tb cls) tb.length) t ∧ (slotF cap lost (mineT tb cls) tb.length) t ≤ 40000000 := fun t ht => by
                have h1 := slotF_bound (cap := cap) (lost := lost) (mine := mineT tb cls) (n := tb.length) (by omega) (by omega) (by omega) t
                have h2 := mulB (a := cap) (b := (t : Int)) (A := 4000) (B := 10000) (by omega) (by omega)
                omega
              rw [tickL_end (C := (fun a j => cntS cap lost (mineT tb cls) a j)) (m := 3 * tb.length) (n := tb.length) (by omega) (fun j hj => by
                have h1 := (cntS_bound (cap := cap) (lost := lost) (mine := mineT tb cls) (a := 0) (by omega) (by omega) j).2
                have h2 := mulB (a := cap) (b := (j : Int)) (A := 4000) (B := 10000) (by omega) (by omega)
                omega)]
              refine W.freeze (enc := encI) (xs := fvals (slotF cap lost (mineT tb cls) tb.length) (3 * tb.length)) 1 rfl ?_
              intro R2 hR2 hls
              refine W.freezeBlk 0 rfl ?_
              intro Rc hRc h19
              have hls := hls.mono hRc
              have hfl3 := fvals_len (slotF cap lost (mineT tb cls) tb.length) (3 * tb.length)
              have h19' := h19
              rw [← hfl3] at h19'
              have eI : nth (fvals (slotF cap lost (mineT tb cls) tb.length) (3 * tb.length)) (2 * (tb.length : Int)).toNat - nth (fvals (slotF cap lost (mineT tb cls) tb.length) (3 * tb.length)) tb.length = (slotF cap lost (mineT tb cls) tb.length) (2 * tb.length) - (slotF cap lost (mineT tb cls) tb.length) tb.length := by
                rw [show (2 * (tb.length : Int)).toNat = 2 * tb.length by omega, fvals_nth _ (by omega), fvals_nth _ (by omega)]
              have hI1 := hFb (2 * tb.length) (by omega)
              have hI2 := hFb tb.length (by omega)
              have hF : ∀ t : Nat, t < tb.length + tb.length → FnV Try.prog 82 ((#[] : Array Value).toList ++ [.int .i64 (t : Int)] ++ (#[.pointer (some ⟨b19, 0, none⟩)] : Array Value).toList) Rc (.int .i64 ((slotF cap lost (mineT tb cls) tb.length) t)) := fun t ht => by
                have h := CurveTG_V h19' hls (t := t) (by omega)
                rw [fvals_nth _ (by omega)] at h
                exact h
              refine W.seq ?_
              refine W.regionH _ (ES := []) mixed ?_
              refine WA.take 0 rfl (by kernel_rfl) (by kernel_rfl) (by kernel_rfl) rfl rfl (by decide) (Yl.makeFunc (fi := []) (ca := [.tmp 19]) rfl rfl rfl (fun _ => rfl)) (by (repeat (first | exact List.Sublist.refl _ | exact List.nil_sublist _ | apply List.Sublist.cons_cons | apply List.Sublist.cons)); done) (by first | exact RLe.refl _ | assumption) ?_
              refine WA.take 1 rfl (by kernel_rfl) (by kernel_rfl) (by kernel_rfl) rfl rfl (by decide) (pureV_ok tab_ok rfl (fun _ => rfl)) (by (repeat (first | exact List.Sublist.refl _ | exact List.nil_sublist _ | apply List.Sublist.cons_cons | apply List.Sublist.cons)); done) (by first | exact RLe.refl _ | assumption) ?_
              refine WA.take 2 rfl (by kernel_rfl) (by kernel_rfl) (by kernel_rfl) rfl rfl (by decide) (pureV_ok tab_ok rfl (fun _ => rfl)) (by (repeat (first | exact List.Sublist.refl _ | exact List.nil_sublist _ | apply List.Sublist.cons_cons | apply List.Sublist.cons)); done) (by first | exact RLe.refl _ | assumption) ?_
              refine' WA.take 3 rfl (by kernel_rfl) (by kernel_rfl) (by kernel_rfl) rfl rfl (by decide) (Yl.load1 tab_ok rfl rfl rfl (fun _ => rfl) ?r17 rfl ?h17) (by (repeat (first | exact List.Sublist.refl _ | exact List.nil_sublist _ | apply List.Sublist.cons_cons | apply List.Sublist.cons)); done) (by first | exact RLe.refl _ | assumption) ?_
              case r17 => (first | exact Rd.ro (by assumption) | exact Rd.blk 0 rfl | exact Rd.blk 1 rfl | exact Rd.blk 2 rfl | exact Rd.blk 3 rfl | exact Rd.blk 4 rfl | exact Rd.blk 5 rfl | exact Rd.blk 6 rfl | exact Rd.blk 7 rfl)
              case h17 => rfl
              refine WA.take 4 rfl (by kernel_rfl) (by kernel_rfl) (by kernel_rfl) rfl rfl (by decide) (pureV_ok tab_ok rfl (fun _ => rfl)) (by (repeat (first | exact List.Sublist.refl _ | exact List.nil_sublist _ | apply List.Sublist.cons_cons | apply List.Sublist.cons)); done) (by first | exact RLe.refl _ | assumption) ?_
              refine WA.take 5 rfl (by kernel_rfl) (by kernel_rfl) (by kernel_rfl) rfl rfl (by decide) (Yl.mul rfl rfl rfl (fun _ => rfl) (by intro _; constructor <;> (try dsimp only) <;> omega)) (by (repeat (first | exact List.Sublist.refl _ | exact List.nil_sublist _ | apply List.Sublist.cons_cons | apply List.Sublist.cons)); done) (by first | exact RLe.refl _ | assumption) ?_
              refine WA.take 6 rfl (by kernel_rfl) (by kernel_rfl) (by kernel_rfl) rfl rfl (by decide) (Yl.index tab_ok rfl rfl rfl rfl rfl rfl (fun _ => rfl) (by intro _; constructor <;> (try dsimp only) <;> omega) (by intro _; first | exact fun _ _ _ _ => rfl | exact RS.has (by assumption) | exact fun _ _ _ _ => (by assumption) | exact HasMem.ownD 0 rfl | exact HasMem.ownD 1 rfl | exact HasMem.ownD 2 rfl | exact HasMem.ownD 3 rfl | exact HasMem.ownD 4 rfl | exact HasMem.ownD 5 rfl | exact HasMem.ownD 6 rfl | exact HasMem.ownD 7 rfl)) (by (repeat (first | exact List.Sublist.refl _ | exact List.nil_sublist _ | apply List.Sublist.cons_cons | apply List.Sublist.cons)); done) (by first | exact RLe.refl _ | assumption) ?_
              refine' WA.take 7 rfl (by kernel_rfl) (by kernel_rfl) (by kernel_rfl) rfl rfl (by decide) (Yl.load1 tab_ok rfl rfl rfl (fun _ => rfl) ?r18 rfl ?h18) (by (repeat (first | exact List.Sublist.refl _ | exact List.nil_sublist _ | apply List.Sublist.cons_cons | apply List.Sublist.cons)); done) (by first | exact RLe.refl _ | assumption) ?_
              case r18 => (first | (apply RS.rdD; assumption; ((try dsimp only) <;> omega)) | exact Rd.slD 0 rfl (by (try dsimp only) <;> omega) | exact Rd.slD 1 rfl (by (try dsimp only) <;> omega) | exact Rd.slD 2 rfl (by (try dsimp only) <;> omega) | exact Rd.slD 3 rfl (by (try dsimp only) <;> omega) | exact Rd.slD 4 rfl (by (try dsimp only) <;> omega) | exact Rd.slD 5 rfl (by (try dsimp only) <;> omega) | exact Rd.slD 6 rfl (by (try dsimp only) <;> omega) | exact Rd.slD 7 rfl (by (try dsimp only) <;> omega))
              case h18 => rfl
              refine' WA.take 8 rfl (by kernel_rfl) (by kernel_rfl) (by kernel_rfl) rfl rfl (by decide) (Yl.load1 tab_ok rfl rfl rfl (fun _ => rfl) ?r19 rfl ?h19) (by (repeat (first | exact List.Sublist.refl _ | exact List.nil_sublist _ | apply List.Sublist.cons_cons | apply List.Sublist.cons)); done) (by first | exact RLe.refl _ | assumption) ?_
              case r19 => (first | exact Rd.ro (by assumption) | exact Rd.blk 0 rfl | exact Rd.blk 1 rfl | exact Rd.blk 2 rfl | exact Rd.blk 3 rfl | exact Rd.blk 4 rfl | exact Rd.blk 5 rfl | exact Rd.blk 6 rfl | exact Rd.blk 7 rfl)
              case h19 => rfl
              refine WA.take 9 rfl (by kernel_rfl) (by kernel_rfl) (by kernel_rfl) rfl rfl (by decide) (pureV_ok tab_ok rfl (fun _ => rfl)) (by (repeat (first | exact List.Sublist.refl _ | exact List.nil_sublist _ | apply List.Sublist.cons_cons | apply List.Sublist.cons)); done) (by first | exact RLe.refl _ | assumption) ?_
              refine WA.take 10 rfl (by kernel_rfl) (by kernel_rfl) (by kernel_rfl) rfl rfl (by decide) (Yl.indexN tab_ok rfl rfl rfl rfl rfl rfl (fun _ => rfl) (by intro _; (try dsimp only) <;> omega) (by intro _; first | exact fun _ _ _ _ => rfl | exact RS.has (by assumption) | exact fun _ _ _ _ => (by assumption) | exact HasMem.ownD 0 rfl | exact HasMem.ownD 1 rfl | exact HasMem.ownD 2 rfl | exact HasMem.ownD 3 rfl | exact HasMem.ownD 4 rfl | exact HasMem.ownD 5 rfl | exact HasMem.ownD 6 rfl | exact HasMem.ownD 7 rfl)) (by (repeat (first | exact List.Sublist.refl _ | exact List.nil_sublist _ | apply List.Sublist.cons_cons | apply List.Sublist.cons)); done) (by first | exact RLe.refl _ | assumption) ?_
              refine' WA.take 11 rfl (by kernel_rfl) (by kernel_rfl) (by kernel_rfl) rfl rfl (by decide) (Yl.load1 tab_ok rfl rfl rfl (fun _ => rfl) ?r20 rfl ?h20) (by (repeat (first | exact List.Sublist.refl _ | exact List.nil_sublist _ | apply List.Sublist.cons_cons | apply List.Sublist.cons)); done) (by first | exact RLe.refl _ | assumption) ?_
              case r20 => (first | (apply RS.rdD; assumption; ((try dsimp only) <;> omega)) | exact Rd.slD 0 rfl (by (try dsimp only) <;> omega) | exact Rd.slD 1 rfl (by (try dsimp only) <;> omega) | exact Rd.slD 2 rfl (by (try dsimp only) <;> omega) | exact Rd.slD 3 rfl (by (try dsimp only) <;> omega) | exact Rd.slD 4 rfl (by (try dsimp only) <;> omega) | exact Rd.slD 5 rfl (by (try dsimp only) <;> omega) | exact Rd.slD 6 rfl (by (try dsimp only) <;> omega) | exact Rd.slD 7 rfl (by (try dsimp only) <;> omega))
              case h20 => rfl
              refine WA.take 12 rfl (by kernel_rfl) (by kernel_rfl) (by kernel_rfl) rfl rfl (by decide) (Yl.sub rfl rfl rfl (fun _ => rfl) (by intro _; constructor <;> (try dsimp only) <;> omega)) (by (repeat (first | exact List.Sublist.refl _ | exact List.nil_sublist _ | apply List.Sublist.cons_cons | apply List.Sublist.cons)); done) (by first | exact RLe.refl _ | assumption) ?_
              refine WA.callG 13 rfl (by kernel_rfl) en81 rfl (by first | rfl | decide) rfl (by decide) (CallOp.mkT rfl rfl rfl rfl) (by
                rw [eI]
                exact Build_C (S := tb.length) (P := tb.length) (I := (slotF cap lost (mineT tb cls) tb.length) (2 * tb.length) - (slotF cap lost (mineT tb cls) tb.length) tb.length) (F := (slotF cap lost (mineT tb cls) tb.length)) (g := 82) (fi := #[]) (ca := #[.pointer (some ⟨b19, 0, none⟩)]) en82 (by omega) (by omega) ⟨g3, by omega⟩ (fun t ht => .inr (by have := hFb t (by omega); omega)) hF w0 _) ?_
              rintro _ R4 E4 hR4 ⟨f, fc, rfl, hf, hsub⟩
              refine ⟨hR4, List.nil_sublist _, ?_⟩
              refine WA.subE hsub ?_
              rw [← hd] at hf ⊢
              unfold cvV
              refine WA.take 14 rfl (by kernel_rfl) (by kernel_rfl) (by kernel_rfl) rfl rfl (by decide) (pureV_ok tab_ok rfl (fun _ => rfl)) (by (repeat (first | exact List.Sublist.refl _ | exact List.nil_sublist _ | apply List.Sublist.cons_cons | apply List.Sublist.cons)); done) (by first | exact RLe.refl _ | assumption) ?_
              refine WA.take 15 rfl (by kernel_rfl) (by kernel_rfl) (by kernel_rfl) rfl rfl (by decide) (pureV_ok tab_ok rfl (fun _ => rfl)) (by (repeat (first | exact List.Sublist.refl _ | exact List.nil_sublist _ | apply List.Sublist.cons_cons | apply List.Sublist.cons)); done) (by first | exact RLe.refl _ | assumption) ?_
              first | refine WA.effN 16 rfl (by kernel_rfl) rfl rfl (Ef.store0 0 tab_ok rfl rfl rfl rfl rfl rfl rfl rfl ?_) | refine WA.effN 16 rfl (by kernel_rfl) rfl rfl (Ef.store0 1 tab_ok rfl rfl rfl rfl rfl rfl rfl rfl ?_) | refine WA.effN 16 rfl (by kernel_rfl) rfl rfl (Ef.store0 2 tab_ok rfl rfl rfl rfl rfl rfl rfl rfl ?_) | refine WA.effN 16 rfl (by kernel_rfl) rfl rfl (Ef.store0 3 tab_ok rfl rfl rfl rfl rfl rfl rfl rfl ?_) | refine WA.effN 16 rfl (by kernel_rfl) rfl rfl (Ef.store0 4 tab_ok rfl rfl rfl rfl rfl rfl rfl rfl ?_) | refine WA.effN 16 rfl (by kernel_rfl) rfl rfl (Ef.store0 5 tab_ok rfl rfl rfl rfl rfl rfl rfl rfl ?_) | refine WA.effN 16 rfl (by kernel_rfl) rfl rfl (Ef.store0 6 tab_ok rfl rfl rfl rfl rfl rfl rfl rfl ?_) | refine WA.effN 16 rfl (by kernel_rfl) rfl rfl (Ef.store0 7 tab_ok rfl rfl rfl rfl rfl rfl rfl rfl ?_)
              refine ⟨by first | exact RLe.refl _ | assumption, (by (repeat (first | exact List.Sublist.refl _ | exact List.nil_sublist _ | apply List.Sublist.cons_cons | apply List.Sublist.cons)); done), ?_⟩
              refine WA.take 17 rfl (by kernel_rfl) (by kernel_rfl) (by kernel_rfl) rfl rfl (by decide) (pureV_ok tab_ok rfl (fun _ => rfl)) (by (repeat (first | exact List.Sublist.refl _ | exact List.nil_sublist _ | apply List.Sublist.cons_cons | apply List.Sublist.cons)); done) (by first | exact RLe.refl _ | assumption) ?_
              refine WA.done (by kernel_rfl) ?_
              refine WE.nxt ?_
              refine W.ret ?_
              refine WE.retF tab_ok [_, _] rfl ⟨⟨_, _, _, rfl, rfl, rfl, ((by first | exact Rd.blk 0 rfl | exact Rd.blk 1 rfl | exact Rd.blk 2 rfl | exact Rd.blk 3 rfl | exact Rd.blk 4 rfl | exact Rd.blk 5 rfl | exact Rd.blk 6 rfl | exact Rd.blk 7 rfl)), rfl⟩, rfl, trivial⟩ ((by first | exact RLe.refl _ | exact hRa.trans (hRb.trans hR4) | exact hR1.trans (hR2.trans (hRc.trans hR4)))) ?_
              exact ⟨f, fc, rfl, hf, (by (repeat (first | exact List.Sublist.refl _ | exact List.nil_sublist _ | apply List.Sublist.cons_cons | apply List.Sublist.cons)); done)⟩

end Go.Proofs.Ytnaeefefggmomaa

/- Chapter 21: what its laws use. No condition. -/
set_option linter.unusedSimpArgs false
set_option linter.unusedVariables false
namespace Go.Proofs.Ytnaeefefggmomaa
open Go Go.RowKit Go.Proofs.Ytnaeefefggmomaa.K Go.Proofs.Ytnaeefefggmomaa.M

theorem slots_awake : slotC 10 0 [0, 0, 1] [⟨1, 5⟩, ⟨1, 5⟩] = (⟨[0, 0, 6, 12], 3, 16⟩, 0) := by kernel_rfl
theorem slots_done : (mrun ([⟨0, 0, 15⟩, ⟨1, 0, 15⟩] : List Pkt) (slotCh [⟨0, 0, 15⟩, ⟨1, 0, 15⟩] 10 [0, 0, 1]) 10 2 30 ()).done = [1, -1] := by kernel_rfl

theorem Awake21_C {R : Ro} (w0 : World) (E : List Ent) : K.Fn Try.prog 15 [] w0 R E (fun v R' E' => v = .bool true ∧ E.Sublist E') := by
  refine Fn.enter (n := 62) Try.func15 rfl rfl (Nat.le_of_ble_eq_true rfl) rfl ?_
  refine W.seq ?_
  refine W.region _ ?_
  refine WG.run tab_ok 1 rfl ?_
  refine WG.nil ?_
  refine WE.nxt ?_
  refine W.seq ?_
  refine W.region _ ?_
  refine WL.ef rfl rfl (by decide) (Ef.buildSliceD (enc := encI) (parts := [.const (.int .i64 0), .const (.int .i64 0), .const (.int .i64 1)]) [_, _, _] tab_ok rfl rfl rfl rfl rfl rfl rfl rfl (by decide) (by decide) (fun a6 => ?_))
  refine WL.freeze (enc := encI) (xs := ([0, 0, 1] : List Int)) 0 rfl ?_
  intro R1 hR1 hw1
  -- build
  refine WG.y rfl rfl (by decide) (Yl.build (parts := [(2, .const (.int .i64 15))]) tab_ok rfl rfl rfl rfl (fun _ => rfl) rfl rfl) ?_
  -- build
  refine WG.y rfl rfl (by decide) (Yl.build (parts := [(0, .const (.int .i64 1)), (2, .const (.int .i64 15))]) tab_ok rfl rfl rfl rfl (fun _ => rfl) rfl rfl) ?_
  refine WL.ef rfl rfl (by decide) (Ef.buildSliceD (enc := encP) (parts := [.tmp 7, .tmp 8]) [⟨_, _, _⟩, ⟨_, _, _⟩] tab_ok rfl rfl rfl rfl rfl rfl rfl rfl (by decide) (by decide) (fun a9 => ?_))
  refine WL.freeze (enc := encP) (xs := ([⟨0, 0, 15⟩, ⟨1, 0, 15⟩] : List Pkt)) 0 rfl ?_
  intro R2 hR2 hp
  have hw1 := hw1.mono hR2
  refine WL.call en23 rfl rfl (by decide) (CallOp.mkT rfl rfl rfl rfl) (Slots_ok (ps := ([⟨0, 0, 15⟩, ⟨1, 0, 15⟩] : List Pkt)) (tb := ([0, 0, 1] : List Int)) (cap := 10) (ticks := 30) (nc := 2) hp hw1 (by decide) w0 (by decide) _) ?_
  rintro _ R3 E2 hR3 ⟨rows, gd, go, s, hs, rfl, h1, h2, h3, hsub⟩
  refine WL.subE hsub ?_
  refine WL.freeze (enc := encI) (xs := s.done) 0 rfl ?_
  intro Rq hRq hdn
  have hdone : s.done = [1, -1] := by rw [hs]; exact slots_done
  rw [hdone] at hdn
  refine WL.subE (List.Sublist.cons _ (List.sublist_append_right _ _)) ?_
  refine WG.run tab_ok 3 rfl ?_
  refine WL.ef rfl rfl (by decide) (Ef.alloc tab_ok rfl rfl (fun b1 => ?_))
  first | refine WL.efN rfl rfl (Ef.store0 0 tab_ok rfl rfl rfl rfl rfl rfl rfl rfl ?_) | refine WL.efN rfl rfl (Ef.store0 1 tab_ok rfl rfl rfl rfl rfl rfl rfl rfl ?_) | refine WL.efN rfl rfl (Ef.store0 2 tab_ok rfl rfl rfl rfl rfl rfl rfl rfl ?_) | refine WL.efN rfl rfl (Ef.store0 3 tab_ok rfl rfl rfl rfl rfl rfl rfl rfl ?_) | refine WL.efN rfl rfl (Ef.store0 4 tab_ok rfl rfl rfl rfl rfl rfl rfl rfl ?_) | refine WL.efN rfl rfl (Ef.store0 5 tab_ok rfl rfl rfl rfl rfl rfl rfl rfl ?_)
  refine WG.run tab_ok 1 rfl ?_
  refine WG.nil ?_
  refine WE.nxt ?_
  refine W.seq ?_
  refine W.region _ ?_
  refine WL.ef rfl rfl (by decide) (Ef.buildSliceD (enc := encI) (parts := [.const (.int .i64 0), .const (.int .i64 0), .const (.int .i64 1)]) [_, _, _] tab_ok rfl rfl rfl rfl rfl rfl rfl rfl (by decide) (by decide) (fun a14 => ?_))
  refine WL.freeze (enc := encI) (xs := ([0, 0, 1] : List Int)) 0 rfl ?_
  intro R4 hR4 hw2
  -- build
  refine WG.y rfl rfl (by decide) (Yl.build (parts := [(0, .const (.int .i64 1)), (1, .const (.int .i64 5))]) tab_ok rfl rfl rfl rfl (fun _ => rfl) rfl rfl) ?_
  -- build
  refine WG.y rfl rfl (by decide) (Yl.build (parts := [(0, .const (.int .i64 1)), (1, .const (.int .i64 5))]) tab_ok rfl rfl rfl rfl (fun _ => rfl) rfl rfl) ?_
  refine WL.ef rfl rfl (by decide) (Ef.buildSliceD (enc := encZ) (parts := [.tmp 15, .tmp 16]) [⟨_, _⟩, ⟨_, _⟩] tab_ok rfl rfl rfl rfl rfl rfl rfl rfl (by decide) (by decide) (fun a17 => ?_))
  refine WL.freeze (enc := encZ) (xs := ([⟨1, 5⟩, ⟨1, 5⟩] : List Sz)) 0 rfl ?_
  intro R5 hR5 hzz
  have hw2 := hw2.mono hR5
  refine WL.call en30 rfl rfl (by decide) (CallOp.mkT rfl rfl rfl rfl) (CurveT_C (tb := ([0, 0, 1] : List Int)) (z := ([⟨1, 5⟩, ⟨1, 5⟩] : List Sz)) (cap := 10) (cls := 0) hw2 hzz (by decide) w0 _) ?_
  rintro _ R6 E3 hR6 ⟨f, fc, rfl, hf, hsub2⟩
  rw [slots_awake] at hf ⊢
  refine WL.subE hsub2 ?_
  unfold cvV
  have hdn := hdn.mono (hR4.trans (hR5.trans hR6))
  refine WG.run tab_ok 3 rfl ?_
  refine WL.ef rfl rfl (by decide) (Ef.alloc tab_ok rfl rfl (fun b3 => ?_))
  first | refine WL.efN rfl rfl (Ef.store0 0 tab_ok rfl rfl rfl rfl rfl rfl rfl rfl ?_) | refine WL.efN rfl rfl (Ef.store0 1 tab_ok rfl rfl rfl rfl rfl rfl rfl rfl ?_) | refine WL.efN rfl rfl (Ef.store0 2 tab_ok rfl rfl rfl rfl rfl rfl rfl rfl ?_) | refine WL.efN rfl rfl (Ef.store0 3 tab_ok rfl rfl rfl rfl rfl rfl rfl rfl ?_) | refine WL.efN rfl rfl (Ef.store0 4 tab_ok rfl rfl rfl rfl rfl rfl rfl rfl ?_) | refine WL.efN rfl rfl (Ef.store0 5 tab_ok rfl rfl rfl rfl rfl rfl rfl rfl ?_)
  refine WG.run tab_ok 1 rfl ?_
  refine WG.nil ?_
  refine WE.nxt ?_
  refine W.seq ?_
  refine W.region _ ?_
  refine WG.run tab_ok 3 rfl ?_
  refine WL.guardT rfl (by rfl) ?_
  refine WG.y rfl rfl (by decide) (pureV_ok tab_ok rfl (fun _ => rfl)) ?_
  refine WL.guardT rfl (by rfl) ?_
  refine' WG.y rfl rfl (by decide) (Yl.load1 tab_ok rfl rfl rfl (fun _ => rfl) ?r1 rfl ?h1) ?_
  case r1 => apply Rd.add; (first | exact Rd.blk 0 rfl | exact Rd.blk 1 rfl | exact Rd.blk 2 rfl | exact Rd.blk 3 rfl | exact Rd.blk 4 rfl | exact Rd.blk 5 rfl)
  case h1 => rfl
  refine WL.guardT rfl (by rfl) ?_
  refine WL.ef rfl rfl (by decide) (Ef.buildSliceD (enc := encI) (parts := [.const (.int .i64 1), .const (.int .i64 (-1))]) [_, _] tab_ok rfl rfl rfl rfl rfl rfl rfl rfl (by decide) (by decide) (fun a26 => ?_))
  refine WL.freeze (enc := encI) (xs := ([1, -1] : List Int)) 0 rfl ?_
  intro R7 hR7 hl1
  have hdn := hdn.mono hR7
  have hf := hf.mono hR7
  refine WL.guardT rfl (by rfl) ?_
  refine WG.callV (v := .bool true) en37 rfl rfl (by decide) (CallOp.mk' rfl rfl rfl rfl) (fun _ => rfl) (fun hg => by
    have h := Ints_V (ca := 2) (cb := 2) hdn hl1
    exact h) ?_
  refine WG.y rfl rfl (by decide) (Yl.pand rfl rfl rfl (fun _ => rfl) (by intro h1 h2; simp_all <;> omega)) ?_
  refine WG.run tab_ok 1 rfl ?_
  refine WL.guardT rfl (by rfl) ?_
  refine WL.ef rfl rfl (by decide) (Ef.buildSliceD (enc := encI) (parts := [.const (.int .i64 0), .const (.int .i64 0), .const (.int .i64 1)]) [_, _, _] tab_ok rfl rfl rfl rfl rfl rfl rfl rfl (by decide) (by decide) (fun a30 => ?_))
  refine WL.freeze (enc := encI) (xs := ([0, 0, 1] : List Int)) 0 rfl ?_
  intro R8 hR8 hl2
  have hf := hf.mono hR8
  refine WL.guardT rfl (by rfl) ?_
  refine WG.callV (v := .int .i64 10) en26 rfl rfl (by decide) (CallOp.mk' rfl rfl rfl rfl) (fun _ => rfl) (fun hg => by
    have h := RoomT_V (wc := 3) (cap := 10) (cls := 1) (t := 2) hl2
    exact h) ?_
  refine WL.guardT rfl (by rfl) ?_
  refine WG.y rfl rfl (by decide) (pureV_ok tab_ok rfl (fun _ => rfl)) ?_
  refine WG.y rfl rfl (by decide) (Yl.pand rfl rfl rfl (fun _ => rfl) (by intro h1 h2; simp_all <;> omega)) ?_
  refine WG.run tab_ok 1 rfl ?_
  refine WL.guardT rfl (by rfl) ?_
  refine WG.y rfl rfl (by decide) (pureV_ok tab_ok rfl (fun _ => rfl)) ?_
  refine WL.guardT rfl (by rfl) ?_
  refine WG.y rfl rfl (by decide) (pureV_ok tab_ok rfl (fun _ => rfl)) ?_
  refine WG.y rfl rfl (by decide) (Yl.pand rfl rfl rfl (fun _ => rfl) (by intro h1 h2; simp_all <;> omega)) ?_
  refine WG.run tab_ok 1 rfl ?_
  refine WL.guardT rfl (by rfl) ?_
  refine' WG.y rfl rfl (by decide) (Yl.load1 tab_ok rfl rfl rfl (fun _ => rfl) ?r2 rfl ?h2) ?_
  case r2 => (first | exact Rd.blk 0 rfl | exact Rd.blk 1 rfl | exact Rd.blk 2 rfl | exact Rd.blk 3 rfl | exact Rd.blk 4 rfl | exact Rd.blk 5 rfl)
  case h2 => rfl
  refine WL.guardT rfl (by rfl) ?_
  refine WG.callV (v := .bool true) en66 rfl rfl (by decide) (CallOp.mk' rfl rfl rfl rfl) (fun _ => rfl) (fun hg => by
    have h := Valid_V (per := 3) (inc := 16) (c := fc) hf (by constructor <;> decide) (by constructor <;> decide) (by decide)
    exact h) ?_
  refine WG.y rfl rfl (by decide) (Yl.pand rfl rfl rfl (fun _ => rfl) (by intro h1 h2; simp_all <;> omega)) ?_
  refine WG.run tab_ok 1 rfl ?_
  refine WL.guardT rfl (by rfl) ?_
  refine' WG.y rfl rfl (by decide) (Yl.load1 tab_ok rfl rfl rfl (fun _ => rfl) ?r3 rfl ?h3) ?_
  case r3 => (first | exact Rd.blk 0 rfl | exact Rd.blk 1 rfl | exact Rd.blk 2 rfl | exact Rd.blk 3 rfl | exact Rd.blk 4 rfl | exact Rd.blk 5 rfl)
  case h3 => rfl
  refine WL.guardT rfl (by rfl) ?_
  refine WG.callV (v := .int .i64 0) en39 rfl rfl (by decide) (CallOp.mk' rfl rfl rfl rfl) (fun _ => rfl) (fun hg => by
    have h := At_V (t := 1) (per := 3) (inc := 16) (c := fc) hf (by constructor <;> decide) ⟨by constructor <;> decide, by decide⟩ (by decide) (by decide)
    exact h) ?_
  refine WL.guardT rfl (by rfl) ?_
  refine WG.y rfl rfl (by decide) (pureV_ok tab_ok rfl (fun _ => rfl)) ?_
  refine WG.y rfl rfl (by decide) (Yl.pand rfl rfl rfl (fun _ => rfl) (by intro h1 h2; simp_all <;> omega)) ?_
  refine WG.run tab_ok 1 rfl ?_
  refine WL.guardT rfl (by rfl) ?_
  refine' WG.y rfl rfl (by decide) (Yl.load1 tab_ok rfl rfl rfl (fun _ => rfl) ?r4 rfl ?h4) ?_
  case r4 => (first | exact Rd.blk 0 rfl | exact Rd.blk 1 rfl | exact Rd.blk 2 rfl | exact Rd.blk 3 rfl | exact Rd.blk 4 rfl | exact Rd.blk 5 rfl)
  case h4 => rfl
  refine WL.guardT rfl (by rfl) ?_
  refine WG.callV (v := .int .i64 6) en39 rfl rfl (by decide) (CallOp.mk' rfl rfl rfl rfl) (fun _ => rfl) (fun hg => by
    have h := At_V (t := 2) (per := 3) (inc := 16) (c := fc) hf (by constructor <;> decide) ⟨by constructor <;> decide, by decide⟩ (by decide) (by decide)
    exact h) ?_
  refine WL.guardT rfl (by rfl) ?_
  refine WG.y rfl rfl (by decide) (pureV_ok tab_ok rfl (fun _ => rfl)) ?_
  refine WG.y rfl rfl (by decide) (Yl.pand rfl rfl rfl (fun _ => rfl) (by intro h1 h2; simp_all <;> omega)) ?_
  refine WG.run tab_ok 1 rfl ?_
  refine WL.guardT rfl (by rfl) ?_
  refine' WG.y rfl rfl (by decide) (Yl.load1 tab_ok rfl rfl rfl (fun _ => rfl) ?r5 rfl ?h5) ?_
  case r5 => (first | exact Rd.blk 0 rfl | exact Rd.blk 1 rfl | exact Rd.blk 2 rfl | exact Rd.blk 3 rfl | exact Rd.blk 4 rfl | exact Rd.blk 5 rfl)
  case h5 => rfl
  refine WL.guardT rfl (by rfl) ?_
  refine WG.callV (v := .int .i64 16) en39 rfl rfl (by decide) (CallOp.mk' rfl rfl rfl rfl) (fun _ => rfl) (fun hg => by
    have h := At_V (t := 4) (per := 3) (inc := 16) (c := fc) hf (by constructor <;> decide) ⟨by constructor <;> decide, by decide⟩ (by decide) (by decide)
    exact h) ?_
  refine WL.guardT rfl (by rfl) ?_
  refine WG.y rfl rfl (by decide) (pureV_ok tab_ok rfl (fun _ => rfl)) ?_
  refine WG.y rfl rfl (by decide) (Yl.pand rfl rfl rfl (fun _ => rfl) (by intro h1 h2; simp_all <;> omega)) ?_
  refine WG.run tab_ok 1 rfl ?_
  refine WL.guardT rfl (by rfl) ?_
  refine' WG.y rfl rfl (by decide) (Yl.load1 tab_ok rfl rfl rfl (fun _ => rfl) ?r6 rfl ?h6) ?_
  case r6 => (first | exact Rd.blk 0 rfl | exact Rd.blk 1 rfl | exact Rd.blk 2 rfl | exact Rd.blk 3 rfl | exact Rd.blk 4 rfl | exact Rd.blk 5 rfl)
  case h6 => rfl
  refine WL.guardT rfl (by rfl) ?_
  refine WG.callV (v := .int .i64 28) en39 rfl rfl (by decide) (CallOp.mk' rfl rfl rfl rfl) (fun _ => rfl) (fun hg => by
    have h := At_V (t := 6) (per := 3) (inc := 16) (c := fc) hf (by constructor <;> decide) ⟨by constructor <;> decide, by decide⟩ (by decide) (by decide)
    exact h) ?_
  refine WL.guardT rfl (by rfl) ?_
  refine WG.y rfl rfl (by decide) (pureV_ok tab_ok rfl (fun _ => rfl)) ?_
  refine WG.y rfl rfl (by decide) (Yl.pand rfl rfl rfl (fun _ => rfl) (by intro h1 h2; simp_all <;> omega)) ?_
  refine WG.run tab_ok 1 rfl ?_
  refine WG.nil ?_
  refine WE.nxt ?_
  refine W.ret ?_
  refine WE.retF tab_ok [_] rfl ⟨rfl, trivial⟩ (hR1.trans (hR2.trans (hR3.trans (hRq.trans (hR4.trans (hR5.trans (hR6.trans (hR7.trans hR8)))))))) ?_
  exact ⟨rfl, (by (repeat (first | exact List.Sublist.refl _ | exact List.nil_sublist _ | apply List.Sublist.cons_cons | apply List.Sublist.cons)); done)⟩

def tabN (xs : List Int) (c : Nat) : Nat := (1 + mod (nth xs c) 7).toNat
def tabF (xs : List Int) (c : Nat) : Nat → Int := fun i => nth ([0, 0, 0, 1, 1, 2, -1] : List Int) (mod (nth xs (c + 1 + i)) ((7 : Nat) : Int)).toNat
theorem tabN_range (xs : List Int) (c : Nat) : 1 ≤ tabN xs c ∧ tabN xs c ≤ 7 := by
  have := mod_range (nth xs c) (show (1 : Int) ≤ 7 by decide)
  unfold tabN; omega
theorem Table21_C {R : Ro} {b : Nat} {a : Option Addr} {cp : Nat} {xs : List Int} {c : Nat} (w0 : World) (ha : RS R 1 encI a xs) : FnAt Try.prog 18 [.pointer (some ⟨b, 0, none⟩)] w0 R (srcE b a cp xs c)
    (fun v R' e' N => ∃ a2 : Nat, v = .slice (some ⟨a2, 0, none⟩) (tabN xs c) (tabN xs c) ∧ R = R' ∧ e' = srcE b a cp xs (c + 1 + tabN xs c) ∧ N = [.sl 3 1 (some ⟨a2, 0, none⟩) (tabN xs c) ((fvals (tabF xs c) (tabN xs c)).map encI)]) := by
  intro F
  have hm7 := mod_range (nth xs c) (show (1 : Int) ≤ 7 by decide)
  have hnr := tabN_range xs c
  have hen : 1 + mod (nth xs c) 7 = (tabN xs c : Int) := by unfold tabN; omega
  refine Fn.enter (n := 22) Try.func18 rfl rfl (Nat.le_of_ble_eq_true rfl) rfl ?_
  refine W.seq ?_
  refine W.region _ ?_
  refine WG.run tab_ok 1 rfl ?_
  refine WG.nil ?_
  refine WE.nxt ?_
  refine W.seq ?_
  refine W.region _ ?_
  refine WG.run tab_ok 1 rfl ?_
  refine WL.callAt 0 en21 rfl rfl (by decide) (CallOp.mkT rfl rfl rfl rfl) rfl (N_C w0 ha (by constructor <;> omega) _) ?_
  rintro _ _ _ _ - ⟨rfl, rfl, rfl, rfl⟩
  refine WG.y rfl rfl (by decide) (Yl.add rfl rfl rfl (fun _ => rfl) (by intro _; constructor <;> (try dsimp only) <;> omega)) ?_
  refine WL.ef rfl rfl (by decide) (Ef.makeSliceD (enc := encI) 0 tab_ok rfl rfl rfl rfl rfl rfl (by (try dsimp only) <;> omega) (by (try dsimp only) <;> omega) (by (try dsimp only) <;> omega) (by (try dsimp only) <;> omega) (by decide) rfl rfl (fun a8 => ?_))
  refine WG.run tab_ok 1 rfl ?_
  refine WG.nil ?_
  refine WE.nxt ?_
  refine W.seq ?_
  refine W.seq ?_
  refine W.region _ ?_
  refine WG.run tab_ok 3 rfl ?_
  refine WG.nil ?_
  refine WE.nxt ?_
  refine W.block ?_
  refine W.loopK (β := Nat) (fun i => i ≤ tabN xs c) (fun i => [(11, true, .int .i64 (i : Int))]) [0, 3, 10] [_, _, _] [] _ rfl (fun i => [(0, .sl 3 1 (some ⟨a8, 0, none⟩) (tabN xs c) ((partV (tabF xs c) i (tabN xs c)).map encI)), (1, srcE b a cp xs (c + 1 + i))]) (fun i => tabN xs c - i) (0) (Nat.zero_le _) ⟨rfl, rfl, rfl, rfl, rfl⟩ (by dsimp only [setAll, List.set_cons_zero, List.set_cons_succ]; rw [partV_zero]; exact (by (repeat (first | exact List.Sublist.refl _ | exact List.nil_sublist _ | apply List.Sublist.cons_cons | apply List.Sublist.cons)); done)) ?_
  intro i hst
  dsimp only [zipE, setAll, List.cons_append, List.nil_append, List.set_cons_zero, List.set_cons_succ] at hst ⊢
  have hpl := partV_len (tabF xs c) (t := i) (n := tabN xs c) hst
  refine W.seq ?_
  refine W.region _ ?_
  refine WG.run tab_ok 1 rfl ?_
  refine WG.nil ?_
  refine WE.nxt ?_
  refine W.seq ?_
  refine W.condD rfl (fun hc0 => ?_) (fun hc0 => ?_)
  · try dsimp only at hc0
    have hil : i < tabN xs c := by omega
    have hset := partV_set (tabF xs c) hil
    refine W.skip ?_
    refine WE.nxt ?_
    refine W.seq ?_
    refine W.block ?_
    refine W.seq ?_
    refine W.region _ ?_
    refine WG.run tab_ok 2 rfl ?_
    refine WG.nil ?_
    refine WE.nxt ?_
    refine W.region _ ?_
    refine WG.run tab_ok 3 rfl ?_
    refine WL.ef rfl rfl (by decide) (Ef.buildSliceD (enc := encI) (parts := [.const (.int .i64 0), .const (.int .i64 0), .const (.int .i64 0), .const (.int .i64 1), .const (.int .i64 1), .const (.int .i64 2), .const (.int .i64 (-1))]) [_, _, _, _, _, _, _] tab_ok rfl rfl rfl rfl rfl rfl rfl rfl (by decide) (by decide) (fun a17 => ?_))
    refine WL.callAt 2 en22 rfl rfl (by decide) (CallOp.mkT rfl rfl rfl rfl) rfl (PickM_C (j := 0) w0 ([0, 0, 0, 1, 1, 2, -1] : List Int) rfl (by decide) (by decide) ha rfl) ?_
    rintro _ _ _ _ - ⟨rfl, rfl, rfl, rfl⟩
    refine WG.y rfl rfl (by decide) (Yl.indexN tab_ok rfl rfl rfl rfl rfl rfl (fun _ => rfl) (by intro _; (try dsimp only) <;> omega) (by intro _; first | exact fun _ _ _ _ => rfl | exact RS.has (by assumption) | exact fun _ _ _ _ => (by assumption) | exact HasMem.ownD 0 rfl | exact HasMem.ownD 1 rfl | exact HasMem.ownD 2 rfl | exact HasMem.ownD 3 rfl)) ?_
    first | refine WL.efN rfl rfl (Ef.storeD _ 0 tab_ok rfl rfl rfl rfl rfl (by (try dsimp only) <;> omega) rfl rfl rfl rfl ?_) | refine WL.efN rfl rfl (Ef.storeD _ 1 tab_ok rfl rfl rfl rfl rfl (by (try dsimp only) <;> omega) rfl rfl rfl rfl ?_) | refine WL.efN rfl rfl (Ef.storeD _ 2 tab_ok rfl rfl rfl rfl rfl (by (try dsimp only) <;> omega) rfl rfl rfl rfl ?_) | refine WL.efN rfl rfl (Ef.storeD _ 3 tab_ok rfl rfl rfl rfl rfl (by (try dsimp only) <;> omega) rfl rfl rfl rfl ?_)
    refine WG.nil ?_
    refine WE.blk _ ?_
    refine WE.nxt ?_
    refine W.region _ ?_
    refine WG.y rfl rfl (by decide) (Yl.add rfl rfl rfl (fun _ => rfl) (by intro _; constructor <;> (try dsimp only) <;> omega)) ?_
    refine WG.run tab_ok 1 rfl ?_
    refine WG.nil ?_
    refine WE.again (i + 1) (by omega) (by (try dsimp only); omega) ⟨rfl, rfl, rfl, rfl, rfl⟩ (RLe.refl _) (by dsimp only [setAll, List.set_cons_zero, List.set_cons_succ]; rw [← hset]; exact (by (repeat (first | exact List.Sublist.refl _ | exact List.nil_sublist _ | apply List.Sublist.cons_cons | apply List.Sublist.cons)); done))
  · try dsimp only at hc0
    obtain rfl : i = tabN xs c := by omega
    rw [partV_all]
    refine W.exit ?_
    refine WE.then_exit ?_
    refine WE.then_exit ?_
    refine WE.blk_exit ?_
    refine WE.nxt ?_
    refine W.seq ?_
    refine W.region _ ?_
    refine WG.run tab_ok 2 rfl ?_
    refine WG.nil ?_
    refine WE.nxt ?_
    refine W.ret ?_
    refine WE.retF tab_ok [_] rfl ⟨rfl, trivial⟩ (RLe.refl _) ?_
    exact ⟨_, [_], rfl, a8, rfl, rfl, rfl, rfl⟩

end Go.Proofs.Ytnaeefefggmomaa

/- Time slots, plain: what the law of greater packets wants. No condition. -/
namespace Go.Proofs.Ytnaeefefggmomaa.M
open Go Go.Proofs.Ytnaeefefggmomaa.K

end Go.Proofs.Ytnaeefefggmomaa.M

/- Reference 04: a curve that is never above another. No condition. -/
set_option linter.unusedSimpArgs false
set_option linter.unusedVariables false
namespace Go.Proofs.Ytnaeefefggmomaa
open Go Go.RowKit Go.Proofs.Ytnaeefefggmomaa.K Go.Proofs.Ytnaeefefggmomaa.M

end Go.Proofs.Ytnaeefefggmomaa

/- Chapter 21: greater packets have a lesser curve. No condition. -/
set_option linter.unusedSimpArgs false
set_option linter.unusedVariables false
namespace Go.Proofs.Ytnaeefefggmomaa
open Go Go.RowKit Go.Proofs.Ytnaeefefggmomaa.K Go.Proofs.Ytnaeefefggmomaa.M

end Go.Proofs.Ytnaeefefggmomaa
