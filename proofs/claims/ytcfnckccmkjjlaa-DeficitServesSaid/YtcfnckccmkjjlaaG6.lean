/- Rules and walks, joined from 16 texts: the first of them says: Sizes of a trace. No condition. -/
import Derived.Test.YtcfnckccmkjjlaaG5
import Derived.WalkSpells
/- Sizes of a trace. No condition. -/
set_option linter.unusedSimpArgs false
set_option linter.unusedVariables false
namespace Go.Proofs.Ytcfnckccmkjjlaa
open Go Go.RowKit Go.Proofs.Ytcfnckccmkjjlaa.K Go.Proofs.Ytcfnckccmkjjlaa.M

def szPre (z : List Sz) (p : Pkt) : List Sz := if (nth z p.flow.toNat).most = 0 then z.set p.flow.toNat ⟨p.size, p.size⟩ else z
def szPut (z1 : List Sz) (p : Pkt) : List Sz := z1.set p.flow.toNat ⟨(if p.size < (nth z1 p.flow.toNat).least then p.size else (nth z1 p.flow.toNat).least), (if (nth z1 p.flow.toNat).most < p.size then p.size else (nth z1 p.flow.toNat).most)⟩
def szAdd (n : Nat) (z : List Sz) (p : Pkt) : List Sz := if p.flow < 0 ∨ p.flow ≥ (n : Int) then z else szPut (szPre z p) p
def sizesL (n : Nat) (ps : List Pkt) : List Sz := ps.foldl (szAdd n) (List.replicate n ⟨0, 0⟩)
theorem szPre_len (z : List Sz) (p : Pkt) : (szPre z p).length = z.length := by unfold szPre; split <;> simp
theorem szPut_len (z : List Sz) (p : Pkt) : (szPut z p).length = z.length := by simp [szPut]
theorem szAdd_len (n : Nat) (z : List Sz) (p : Pkt) : (szAdd n z p).length = z.length := by unfold szAdd; split; rfl; rw [szPut_len, szPre_len]

theorem Sizes_C {R : Ro} {pa : Option Addr} {pc pl : Nat} {ps : List Pkt} (hp : RS R 3 encP pa ps) (hpl : ps.length = pl) {n : Nat} (hn : n ≤ 1000) (w0 : World) (E : List Ent) :
    K.Fn Try.prog 26 [.slice pa pl pc, .int .i64 (n : Int)] w0 R E (fun v R' E' => ∃ (a2 : Option Addr) (c2 : Nat), v = .slice a2 (sizesL n ps).length c2 ∧ R = R' ∧ (.sl 48 2 a2 c2 ((sizesL n ps).map encZ) :: E).Sublist E') := by
  subst hpl
  have hla := hp.len
  have hen : ((n : Int)).toNat = n := by omega
  refine Fn.enter (n := 64) Try.func26 rfl rfl (Nat.le_of_ble_eq_true rfl) rfl ?_
  refine W.seq ?_
  refine W.region _ ?_
  refine WG.run tab_ok 1 rfl ?_
  refine WG.nil ?_
  refine WE.nxt ?_
  refine W.seq ?_
  refine W.region _ ?_
  refine WG.run tab_ok 1 rfl ?_
  refine WL.ef rfl rfl (by decide) (Ef.makeSliceD (enc := encZ) ⟨0, 0⟩ tab_ok rfl rfl rfl rfl rfl rfl (by (try dsimp only) <;> omega) (by (try dsimp only) <;> omega) (by (try dsimp only) <;> omega) (by (try dsimp only) <;> omega) (by decide) rfl rfl (fun a10 => ?_))
  refine WG.run tab_ok 1 rfl ?_
  refine WG.nil ?_
  refine WE.nxt ?_
  refine W.seq ?_
  refine W.seq ?_
  refine W.region _ ?_
  refine WG.run tab_ok 3 rfl ?_
  refine WG.nil ?_
  refine WE.nxt ?_
  refine W.block ?_
  refine W.loopK (β := Nat × List Sz) (fun (i, z) => i ≤ ps.length ∧ z = (ps.take i).foldl (szAdd n) (List.replicate n (⟨0, 0⟩ : Sz)) ∧ z.length = n) (fun (i, z) => [(13, true, .int .i64 (i : Int))]) [1, 5, 11, 12] [_, _, _, _] [] _ rfl (fun (i, z) => [(0, .sl 48 2 (some ⟨a10, 0, none⟩) n (z.map encZ))]) (fun (i, z) => ps.length - i) ((0, (List.replicate n (⟨0, 0⟩ : Sz)))) (⟨Nat.zero_le _, rfl, by simp⟩) ⟨rfl, rfl, rfl, rfl, rfl, rfl⟩ (by (repeat (first | exact List.Sublist.refl _ | exact List.nil_sublist _ | apply List.Sublist.cons_cons | apply List.Sublist.cons)); done) ?_
  intro st hst
  obtain ⟨i, z⟩ := st
  dsimp only [zipE, setAll, List.cons_append, List.nil_append, List.set_cons_zero, List.set_cons_succ] at hst ⊢
  obtain ⟨hi, hz, hzl⟩ := hst
  refine W.seq ?_
  refine W.region _ ?_
  refine WG.run tab_ok 1 rfl ?_
  refine WG.nil ?_
  refine WE.nxt ?_
  refine W.seq ?_
  refine W.condD rfl (fun hc0 => ?_) (fun hc0 => ?_)
  · try dsimp only at hc0
    have hil : i < ps.length := by omega
    have hnx : szAdd n z (nth ps i) = (ps.take (i + 1)).foldl (szAdd n) (List.replicate n (⟨0, 0⟩ : Sz)) := by rw [take_nth hil, List.foldl_append, ← hz]; rfl
    have hnl : (szAdd n z (nth ps i)).length = n := by rw [szAdd_len]; exact hzl
    refine W.skip ?_
    refine WE.nxt ?_
    refine W.seq ?_
    refine W.block ?_
    refine W.seq ?_
    refine W.region _ ?_
    refine WG.y rfl rfl (by decide) (Yl.indexN tab_ok rfl rfl rfl rfl rfl rfl (fun _ => rfl) (by intro _; (try dsimp only) <;> omega) (by intro _; first | exact fun _ _ _ _ => rfl | exact RS.has (by assumption) | exact fun _ _ _ _ => (by assumption) | exact HasMem.ownD 0 rfl | exact HasMem.ownD 1 rfl | exact HasMem.ownD 2 rfl | exact HasMem.ownD 3 rfl)) ?_
    refine' WG.y rfl rfl (by decide) (Yl.load1 tab_ok rfl rfl rfl (fun _ => rfl) ?r1 rfl ?h1) ?_
    case r1 => (first | (apply RS.rdD; assumption; ((try dsimp only) <;> omega)) | exact Rd.slD 0 rfl (by (try dsimp only) <;> omega) | exact Rd.slD 1 rfl (by (try dsimp only) <;> omega) | exact Rd.slD 2 rfl (by (try dsimp only) <;> omega) | exact Rd.slD 3 rfl (by (try dsimp only) <;> omega))
    case h1 => rfl
    refine WL.ef rfl rfl (by decide) (Ef.alloc tab_ok rfl rfl (fun b7 => ?_))
    first | refine WL.efN rfl rfl (Ef.store0 0 tab_ok rfl rfl rfl rfl rfl rfl rfl rfl ?_) | refine WL.efN rfl rfl (Ef.store0 1 tab_ok rfl rfl rfl rfl rfl rfl rfl rfl ?_) | refine WL.efN rfl rfl (Ef.store0 2 tab_ok rfl rfl rfl rfl rfl rfl rfl rfl ?_) | refine WL.efN rfl rfl (Ef.store0 3 tab_ok rfl rfl rfl rfl rfl rfl rfl rfl ?_)
    refine WG.nil ?_
    refine WE.nxt ?_
    refine W.seq ?_
    refine W.seq ?_
    refine W.region _ ?_
    refine WG.run tab_ok 1 rfl ?_
    refine' WG.y rfl rfl (by decide) (Yl.load1 tab_ok rfl rfl rfl (fun _ => rfl) ?r2 rfl ?h2) ?_
    case r2 => apply Rd.add; (first | exact Rd.blk 0 rfl | exact Rd.blk 1 rfl | exact Rd.blk 2 rfl | exact Rd.blk 3 rfl)
    case h2 => rfl
    refine WG.run tab_ok 2 rfl ?_
    refine WG.y rfl rfl (by decide) (pureV_ok tab_ok rfl (by first | exact fun _ => rfl | exact fun h => h | (intro h; simp_all))) ?_
    refine' WG.y rfl rfl (by decide) (Yl.loadG tab_ok rfl rfl rfl (by first | exact fun _ => rfl | exact fun h => h | (intro h; simp_all)) ?r3 rfl ?h3 ?g3) ?_
    case r3 => apply Rd.addC; (first | exact Rd.blkC 0 rfl | exact Rd.blkC 1 rfl | exact Rd.blkC 2 rfl | exact Rd.blkC 3 rfl)
    case h3 => rfl
    case g3 => first | exact fun _ => trivial | (intro hg; (try simp only [decide_eq_true_eq, decide_eq_false_iff_not, beq_iff_eq, bne_iff_ne, beq_eq_false_iff_ne, bne_eq_false_iff_eq, ne_eq, Bool.or_eq_true, Bool.or_eq_false_iff, Bool.and_eq_true, Bool.and_eq_false_imp, Bool.not_eq_true, Bool.not_eq_true', Bool.not_eq_false', Classical.not_not, Int.not_lt, Int.not_le, gt_iff_lt, ge_iff_le] at hg); (try dsimp only); omega)
    refine WG.y rfl rfl (by decide) (pureV_ok tab_ok rfl (by first | exact fun _ => rfl | exact fun h => h | (intro h; simp_all))) ?_
    refine WG.y rfl rfl (by decide) (pureV_ok tab_ok rfl (by first | exact fun _ => rfl | exact fun h => h | (intro h; simp_all))) ?_
    refine WG.y rfl rfl (by decide) (Yl.por rfl rfl rfl (fun _ => rfl) (by intro h1 h2; simp_all <;> omega)) ?_
    refine WG.nil ?_
    refine WE.nxt ?_
    refine W.cond rfl (fun hc1 => ?_) (fun hc1 => ?_)
    · try simp only [decide_eq_true_eq, decide_eq_false_iff_not, beq_iff_eq, bne_iff_ne, beq_eq_false_iff_ne, bne_eq_false_iff_eq, ne_eq, Bool.or_eq_true, Bool.or_eq_false_iff, Bool.and_eq_true, Bool.and_eq_false_imp, Bool.not_eq_true, Bool.not_eq_true', Bool.not_eq_false', Classical.not_not, Int.not_lt, Int.not_le, gt_iff_lt, ge_iff_le] at hc1
      have hsame : szAdd n z (nth ps i) = z := if_pos hc1
      refine W.exit ?_
      refine WE.then_exit ?_
      refine WE.blk_exit ?_
      refine WE.nxt ?_
      refine W.region _ ?_
      refine WG.y rfl rfl (by decide) (Yl.add rfl rfl rfl (fun _ => rfl) (by intro _; constructor <;> (try dsimp only) <;> omega)) ?_
      refine WG.run tab_ok 1 rfl ?_
      refine WG.nil ?_
      refine WE.again ((i + 1, szAdd n z (nth ps i))) (⟨by dsimp only; omega, hnx, hnl⟩) (by (try dsimp only); omega) ⟨rfl, rfl, rfl, rfl, rfl, rfl⟩ (RLe.refl _) (by dsimp only [setAll, List.set_cons_zero, List.set_cons_succ]; first | (rw [hsame]; exact (by (repeat (first | exact List.Sublist.refl _ | exact List.nil_sublist _ | apply List.Sublist.cons_cons | apply List.Sublist.cons)); done)) | (rw [← hfin]; exact (by (repeat (first | exact List.Sublist.refl _ | exact List.nil_sublist _ | apply List.Sublist.cons_cons | apply List.Sublist.cons)); done)))
    · try simp only [decide_eq_true_eq, decide_eq_false_iff_not, beq_iff_eq, bne_iff_ne, beq_eq_false_iff_ne, bne_eq_false_iff_eq, ne_eq, Bool.or_eq_true, Bool.or_eq_false_iff, Bool.and_eq_true, Bool.and_eq_false_imp, Bool.not_eq_true, Bool.not_eq_true', Bool.not_eq_false', Classical.not_not, Int.not_lt, Int.not_le, gt_iff_lt, ge_iff_le] at hc1
      have hadd : szAdd n z (nth ps i) = szPut (szPre z (nth ps i)) (nth ps i) := if_neg (by omega)
      have hf0 : 0 ≤ (nth ps i).flow ∧ (nth ps i).flow < n := by omega
      have hfz : (nth ps i).flow.toNat < z.length := by omega
      refine W.skip ?_
      refine WE.nxt ?_
      refine W.seq ?_
      refine W.region _ ?_
      refine WG.run tab_ok 2 rfl ?_
      refine' WG.y rfl rfl (by decide) (Yl.load1 tab_ok rfl rfl rfl (fun _ => rfl) ?r4 rfl ?h4) ?_
      case r4 => apply Rd.add; (first | exact Rd.blk 0 rfl | exact Rd.blk 1 rfl | exact Rd.blk 2 rfl | exact Rd.blk 3 rfl)
      case h4 => rfl
      refine WG.y rfl rfl (by decide) (Yl.index tab_ok rfl rfl rfl rfl rfl rfl (fun _ => rfl) (by intro _; constructor <;> (try dsimp only) <;> omega) (by intro _; first | exact fun _ _ _ _ => rfl | exact RS.has (by assumption) | exact fun _ _ _ _ => (by assumption) | exact HasMem.ownD 0 rfl | exact HasMem.ownD 1 rfl | exact HasMem.ownD 2 rfl | exact HasMem.ownD 3 rfl)) ?_
      refine WG.run tab_ok 1 rfl ?_
      refine WG.nil ?_
      refine WE.nxt ?_
      refine W.seqCut (β := List Sz) (fun z1 => z1 = szPre z (nth ps i)) (fun z1 => [(1, true, .int .i64 (n : Int)), (5, true, .slice (some ⟨a10, 0, none⟩) n n), (7, true, .pointer (some ⟨b7, 0, none⟩)), (8, true, .pointer (some (eaddr (some ⟨a10, 0, none⟩) 2 (nth ps i).flow.toNat))), (11, true, .slice pa ps.length pc), (12, true, .int .i64 (ps.length : Int)), (13, true, .int .i64 (i : Int))]) (fun _ => R) (fun z1 => .blk b7 (encP (nth ps i)) :: .sl 48 2 (some ⟨a10, 0, none⟩) n (z1.map encZ) :: E) ?_ ?_
      ·
        intro z1 hst
        have hst : z1 = szPre z (nth ps i) := hst
        have hl1 : z1.length = n := by rw [hst, szPre_len]; exact hzl
        have hns : nth (z1.set (nth ps i).flow.toNat (⟨(if (nth ps i).size < (nth z1 (nth ps i).flow.toNat).least then (nth ps i).size else (nth z1 (nth ps i).flow.toNat).least), (nth z1 (nth ps i).flow.toNat).most⟩ : Sz)) (nth ps i).flow.toNat = (⟨(if (nth ps i).size < (nth z1 (nth ps i).flow.toNat).least then (nth ps i).size else (nth z1 (nth ps i).flow.toNat).least), (nth z1 (nth ps i).flow.toNat).most⟩ : Sz) := nth_set_self (by omega)
        have hfin : (z1.set (nth ps i).flow.toNat (⟨(if (nth ps i).size < (nth z1 (nth ps i).flow.toNat).least then (nth ps i).size else (nth z1 (nth ps i).flow.toNat).least), (nth z1 (nth ps i).flow.toNat).most⟩ : Sz)).set (nth ps i).flow.toNat (⟨(if (nth ps i).size < (nth z1 (nth ps i).flow.toNat).least then (nth ps i).size else (nth z1 (nth ps i).flow.toNat).least), (if (nth z1 (nth ps i).flow.toNat).most < (nth ps i).size then (nth ps i).size else (nth z1 (nth ps i).flow.toNat).most)⟩ : Sz) = szAdd n z (nth ps i) := by rw [hadd, ← hst, List.set_set]; rfl
        refine W.regionH _ (ES := [.blk b7 (encP (nth ps i))]) mixed ?_
        refine WA.take 0 rfl (by kernel_rfl) (by kernel_rfl) (by kernel_rfl) rfl rfl (by decide) (pureV_ok tab_ok rfl (fun _ => rfl)) (by (repeat (first | exact List.Sublist.refl _ | exact List.nil_sublist _ | apply List.Sublist.cons_cons | apply List.Sublist.cons)); done) (by first | exact RLe.refl _ | assumption) ?_
        refine WA.take 1 rfl (by kernel_rfl) (by kernel_rfl) (by kernel_rfl) rfl rfl (by decide) (pureV_ok tab_ok rfl (fun _ => rfl)) (by (repeat (first | exact List.Sublist.refl _ | exact List.nil_sublist _ | apply List.Sublist.cons_cons | apply List.Sublist.cons)); done) (by first | exact RLe.refl _ | assumption) ?_
        refine WA.take 2 rfl (by kernel_rfl) (by kernel_rfl) (by kernel_rfl) rfl rfl (by decide) (pureV_ok tab_ok rfl (fun _ => rfl)) (by (repeat (first | exact List.Sublist.refl _ | exact List.nil_sublist _ | apply List.Sublist.cons_cons | apply List.Sublist.cons)); done) (by first | exact RLe.refl _ | assumption) ?_
        refine WA.take 3 rfl (by kernel_rfl) (by kernel_rfl) (by kernel_rfl) rfl rfl (by decide) (pureV_ok tab_ok rfl (fun _ => rfl)) (by (repeat (first | exact List.Sublist.refl _ | exact List.nil_sublist _ | apply List.Sublist.cons_cons | apply List.Sublist.cons)); done) (by first | exact RLe.refl _ | assumption) ?_
        refine WA.take 4 rfl (by kernel_rfl) (by kernel_rfl) (by kernel_rfl) rfl rfl (by decide) (pureV_ok tab_ok rfl (fun _ => rfl)) (by (repeat (first | exact List.Sublist.refl _ | exact List.nil_sublist _ | apply List.Sublist.cons_cons | apply List.Sublist.cons)); done) (by first | exact RLe.refl _ | assumption) ?_
        refine WA.take 6 rfl (by kernel_rfl) (by kernel_rfl) (by kernel_rfl) rfl rfl (by decide) (pureV_ok tab_ok rfl (fun _ => rfl)) (by (repeat (first | exact List.Sublist.refl _ | exact List.nil_sublist _ | apply List.Sublist.cons_cons | apply List.Sublist.cons)); done) (by first | exact RLe.refl _ | assumption) ?_
        refine' WA.take 7 rfl (by kernel_rfl) (by kernel_rfl) (by kernel_rfl) rfl rfl (by decide) (Yl.load1 tab_ok rfl rfl rfl (fun _ => rfl) ?r5 rfl ?h5) (by (repeat (first | exact List.Sublist.refl _ | exact List.nil_sublist _ | apply List.Sublist.cons_cons | apply List.Sublist.cons)); done) (by first | exact RLe.refl _ | assumption) ?_
        case r5 => apply Rd.add; (first | exact Rd.blk 0 rfl | exact Rd.blk 1 rfl | exact Rd.blk 2 rfl | exact Rd.blk 3 rfl)
        case h5 => rfl
        refine WA.take 9 rfl (by kernel_rfl) (by kernel_rfl) (by kernel_rfl) rfl rfl (by decide) (pureV_ok tab_ok rfl (fun _ => rfl)) (by (repeat (first | exact List.Sublist.refl _ | exact List.nil_sublist _ | apply List.Sublist.cons_cons | apply List.Sublist.cons)); done) (by first | exact RLe.refl _ | assumption) ?_
        refine WA.take 10 rfl (by kernel_rfl) (by kernel_rfl) (by kernel_rfl) rfl rfl (by decide) (pureV_ok tab_ok rfl (fun _ => rfl)) (by (repeat (first | exact List.Sublist.refl _ | exact List.nil_sublist _ | apply List.Sublist.cons_cons | apply List.Sublist.cons)); done) (by first | exact RLe.refl _ | assumption) ?_
        refine WA.take 11 rfl (by kernel_rfl) (by kernel_rfl) (by kernel_rfl) rfl rfl (by decide) (pureV_ok tab_ok rfl (fun _ => rfl)) (by (repeat (first | exact List.Sublist.refl _ | exact List.nil_sublist _ | apply List.Sublist.cons_cons | apply List.Sublist.cons)); done) (by first | exact RLe.refl _ | assumption) ?_
        refine WA.take 13 rfl (by kernel_rfl) (by kernel_rfl) (by kernel_rfl) rfl rfl (by decide) (pureV_ok tab_ok rfl (fun _ => rfl)) (by (repeat (first | exact List.Sublist.refl _ | exact List.nil_sublist _ | apply List.Sublist.cons_cons | apply List.Sublist.cons)); done) (by first | exact RLe.refl _ | assumption) ?_
        refine' WA.take 14 rfl (by kernel_rfl) (by kernel_rfl) (by kernel_rfl) rfl rfl (by decide) (Yl.load1 tab_ok rfl rfl rfl (fun _ => rfl) ?r6 rfl ?h6) (by (repeat (first | exact List.Sublist.refl _ | exact List.nil_sublist _ | apply List.Sublist.cons_cons | apply List.Sublist.cons)); done) (by first | exact RLe.refl _ | assumption) ?_
        case r6 => apply Rd.add; (first | exact Rd.blk 0 rfl | exact Rd.blk 1 rfl | exact Rd.blk 2 rfl | exact Rd.blk 3 rfl)
        case h6 => rfl
        refine WA.br2 (i := 5) (j := 12) (by kernel_rfl) ?_ ?_
        ·
          refine' WS.yl rfl rfl rfl (by decide) (Yl.load1 tab_ok rfl rfl rfl (fun _ => rfl) ?r7 rfl ?h7) (by (repeat (first | exact List.Sublist.refl _ | exact List.nil_sublist _ | apply List.Sublist.cons_cons | apply List.Sublist.cons)); done) (RLe.refl _) ?_
          case r7 => apply Rd.add; exact Rd.slD 1 rfl (by omega)
          case h7 => rfl
          refine WA.take 8 rfl (by kernel_rfl) (by kernel_rfl) (by kernel_rfl) rfl rfl (by decide) (pureV_ok tab_ok rfl (fun _ => rfl)) (by (repeat (first | exact List.Sublist.refl _ | exact List.nil_sublist _ | apply List.Sublist.cons_cons | apply List.Sublist.cons)); done) (by first | exact RLe.refl _ | assumption) ?_
          refine' WA.yl 12 rfl (by kernel_rfl) rfl rfl (by decide) (Yl.load1 tab_ok rfl rfl rfl (fun _ => rfl) ?r8 rfl ?h8) (by (repeat (first | exact List.Sublist.refl _ | exact List.nil_sublist _ | apply List.Sublist.cons_cons | apply List.Sublist.cons)); done) (RLe.refl _) ?_
          case r8 => apply Rd.add; exact Rd.slD 1 rfl (by (try rw [List.length_set]); omega)
          case h8 => rfl
          refine WA.take 15 rfl (by kernel_rfl) (by kernel_rfl) (by kernel_rfl) rfl rfl (by decide) (pureV_ok tab_ok rfl (fun _ => rfl)) (by (repeat (first | exact List.Sublist.refl _ | exact List.nil_sublist _ | apply List.Sublist.cons_cons | apply List.Sublist.cons)); done) (by first | exact RLe.refl _ | assumption) ?_
          refine WA.take 16 rfl (by kernel_rfl) (by kernel_rfl) (by kernel_rfl) rfl rfl (by decide) (pureV_ok tab_ok rfl (fun _ => rfl)) (by (repeat (first | exact List.Sublist.refl _ | exact List.nil_sublist _ | apply List.Sublist.cons_cons | apply List.Sublist.cons)); done) (by first | exact RLe.refl _ | assumption) ?_
          refine WA.take 17 rfl (by kernel_rfl) (by kernel_rfl) (by kernel_rfl) rfl rfl (by decide) (pureV_ok tab_ok rfl (fun _ => rfl)) (by (repeat (first | exact List.Sublist.refl _ | exact List.nil_sublist _ | apply List.Sublist.cons_cons | apply List.Sublist.cons)); done) (by first | exact RLe.refl _ | assumption) ?_
          refine WA.effN 18 rfl (by kernel_rfl) rfl rfl (Ef.storeF (enc := encZ) (xs := z1) (⟨(if (nth ps i).size < (nth z1 (nth ps i).flow.toNat).least then (nth ps i).size else (nth z1 (nth ps i).flow.toNat).least), (nth z1 (nth ps i).flow.toNat).most⟩ : Sz) 1 tab_ok rfl rfl rfl rfl rfl (by omega) rfl rfl (by decide) rfl ?_)
          refine ⟨by first | exact RLe.refl _ | assumption, (by (repeat (first | exact List.Sublist.refl _ | exact List.nil_sublist _ | apply List.Sublist.cons_cons | apply List.Sublist.cons)); done), ?_⟩
          refine WA.take 19 rfl (by kernel_rfl) (by kernel_rfl) (by kernel_rfl) rfl rfl (by decide) (pureV_ok tab_ok rfl (fun _ => rfl)) (by (repeat (first | exact List.Sublist.refl _ | exact List.nil_sublist _ | apply List.Sublist.cons_cons | apply List.Sublist.cons)); done) (by first | exact RLe.refl _ | assumption) ?_
          refine WA.take 20 rfl (by kernel_rfl) (by kernel_rfl) (by kernel_rfl) rfl rfl (by decide) (pureV_ok tab_ok rfl (fun _ => rfl)) (by (repeat (first | exact List.Sublist.refl _ | exact List.nil_sublist _ | apply List.Sublist.cons_cons | apply List.Sublist.cons)); done) (by first | exact RLe.refl _ | assumption) ?_
          refine WA.effN 21 rfl (by kernel_rfl) rfl rfl (Ef.storeF (enc := encZ) (xs := z1.set (nth ps i).flow.toNat (⟨(if (nth ps i).size < (nth z1 (nth ps i).flow.toNat).least then (nth ps i).size else (nth z1 (nth ps i).flow.toNat).least), (nth z1 (nth ps i).flow.toNat).most⟩ : Sz)) (⟨(if (nth ps i).size < (nth z1 (nth ps i).flow.toNat).least then (nth ps i).size else (nth z1 (nth ps i).flow.toNat).least), (if (nth z1 (nth ps i).flow.toNat).most < (nth ps i).size then (nth ps i).size else (nth z1 (nth ps i).flow.toNat).most)⟩ : Sz) 1 tab_ok rfl rfl rfl rfl rfl (by rw [List.length_set]; omega) (by rw [hns]; rfl) rfl (by decide) rfl ?_)
          refine ⟨by first | exact RLe.refl _ | assumption, (by (repeat (first | exact List.Sublist.refl _ | exact List.nil_sublist _ | apply List.Sublist.cons_cons | apply List.Sublist.cons)); done), ?_⟩
          refine WA.done (by kernel_rfl) ?_
          refine WE.blk _ ?_
          refine WE.nxt ?_
          refine W.region _ ?_
          refine WG.y rfl rfl (by decide) (Yl.add rfl rfl rfl (fun _ => rfl) (by intro _; constructor <;> (try dsimp only) <;> omega)) ?_
          refine WG.run tab_ok 1 rfl ?_
          refine WG.nil ?_
          refine WE.again ((i + 1, szAdd n z (nth ps i))) (⟨by dsimp only; omega, hnx, hnl⟩) (by (try dsimp only); omega) ⟨rfl, rfl, rfl, rfl, rfl, rfl⟩ (RLe.refl _) (by dsimp only [setAll, List.set_cons_zero, List.set_cons_succ]; first | (rw [hsame]; exact (by (repeat (first | exact List.Sublist.refl _ | exact List.nil_sublist _ | apply List.Sublist.cons_cons | apply List.Sublist.cons)); done)) | (rw [← hfin]; exact (by (repeat (first | exact List.Sublist.refl _ | exact List.nil_sublist _ | apply List.Sublist.cons_cons | apply List.Sublist.cons)); done)))
        ·
          refine' WS.yl rfl rfl rfl (by decide) (Yl.load1 tab_ok rfl rfl rfl (fun _ => rfl) ?r9 rfl ?h9) (by (repeat (first | exact List.Sublist.refl _ | exact List.nil_sublist _ | apply List.Sublist.cons_cons | apply List.Sublist.cons)); done) (RLe.refl _) ?_
          case r9 => apply Rd.add; exact Rd.slD 1 rfl (by (try rw [List.length_set]); omega)
          case h9 => rfl
          refine WA.take 15 rfl (by kernel_rfl) (by kernel_rfl) (by kernel_rfl) rfl rfl (by decide) (pureV_ok tab_ok rfl (fun _ => rfl)) (by (repeat (first | exact List.Sublist.refl _ | exact List.nil_sublist _ | apply List.Sublist.cons_cons | apply List.Sublist.cons)); done) (by first | exact RLe.refl _ | assumption) ?_
          refine' WA.yl 5 rfl (by kernel_rfl) rfl rfl (by decide) (Yl.load1 tab_ok rfl rfl rfl (fun _ => rfl) ?r10 rfl ?h10) (by (repeat (first | exact List.Sublist.refl _ | exact List.nil_sublist _ | apply List.Sublist.cons_cons | apply List.Sublist.cons)); done) (RLe.refl _) ?_
          case r10 => apply Rd.add; exact Rd.slD 1 rfl (by omega)
          case h10 => rfl
          refine WA.take 8 rfl (by kernel_rfl) (by kernel_rfl) (by kernel_rfl) rfl rfl (by decide) (pureV_ok tab_ok rfl (fun _ => rfl)) (by (repeat (first | exact List.Sublist.refl _ | exact List.nil_sublist _ | apply List.Sublist.cons_cons | apply List.Sublist.cons)); done) (by first | exact RLe.refl _ | assumption) ?_
          refine WA.take 16 rfl (by kernel_rfl) (by kernel_rfl) (by kernel_rfl) rfl rfl (by decide) (pureV_ok tab_ok rfl (fun _ => rfl)) (by (repeat (first | exact List.Sublist.refl _ | exact List.nil_sublist _ | apply List.Sublist.cons_cons | apply List.Sublist.cons)); done) (by first | exact RLe.refl _ | assumption) ?_
          refine WA.take 17 rfl (by kernel_rfl) (by kernel_rfl) (by kernel_rfl) rfl rfl (by decide) (pureV_ok tab_ok rfl (fun _ => rfl)) (by (repeat (first | exact List.Sublist.refl _ | exact List.nil_sublist _ | apply List.Sublist.cons_cons | apply List.Sublist.cons)); done) (by first | exact RLe.refl _ | assumption) ?_
          refine WA.effN 18 rfl (by kernel_rfl) rfl rfl (Ef.storeF (enc := encZ) (xs := z1) (⟨(if (nth ps i).size < (nth z1 (nth ps i).flow.toNat).least then (nth ps i).size else (nth z1 (nth ps i).flow.toNat).least), (nth z1 (nth ps i).flow.toNat).most⟩ : Sz) 1 tab_ok rfl rfl rfl rfl rfl (by omega) rfl rfl (by decide) rfl ?_)
          refine ⟨by first | exact RLe.refl _ | assumption, (by (repeat (first | exact List.Sublist.refl _ | exact List.nil_sublist _ | apply List.Sublist.cons_cons | apply List.Sublist.cons)); done), ?_⟩
          refine WA.take 19 rfl (by kernel_rfl) (by kernel_rfl) (by kernel_rfl) rfl rfl (by decide) (pureV_ok tab_ok rfl (fun _ => rfl)) (by (repeat (first | exact List.Sublist.refl _ | exact List.nil_sublist _ | apply List.Sublist.cons_cons | apply List.Sublist.cons)); done) (by first | exact RLe.refl _ | assumption) ?_
          refine WA.take 20 rfl (by kernel_rfl) (by kernel_rfl) (by kernel_rfl) rfl rfl (by decide) (pureV_ok tab_ok rfl (fun _ => rfl)) (by (repeat (first | exact List.Sublist.refl _ | exact List.nil_sublist _ | apply List.Sublist.cons_cons | apply List.Sublist.cons)); done) (by first | exact RLe.refl _ | assumption) ?_
          refine WA.effN 21 rfl (by kernel_rfl) rfl rfl (Ef.storeF (enc := encZ) (xs := z1.set (nth ps i).flow.toNat (⟨(if (nth ps i).size < (nth z1 (nth ps i).flow.toNat).least then (nth ps i).size else (nth z1 (nth ps i).flow.toNat).least), (nth z1 (nth ps i).flow.toNat).most⟩ : Sz)) (⟨(if (nth ps i).size < (nth z1 (nth ps i).flow.toNat).least then (nth ps i).size else (nth z1 (nth ps i).flow.toNat).least), (if (nth z1 (nth ps i).flow.toNat).most < (nth ps i).size then (nth ps i).size else (nth z1 (nth ps i).flow.toNat).most)⟩ : Sz) 1 tab_ok rfl rfl rfl rfl rfl (by rw [List.length_set]; omega) (by rw [hns]; rfl) rfl (by decide) rfl ?_)
          refine ⟨by first | exact RLe.refl _ | assumption, (by (repeat (first | exact List.Sublist.refl _ | exact List.nil_sublist _ | apply List.Sublist.cons_cons | apply List.Sublist.cons)); done), ?_⟩
          refine WA.done (by kernel_rfl) ?_
          refine WE.blk _ ?_
          refine WE.nxt ?_
          refine W.region _ ?_
          refine WG.y rfl rfl (by decide) (Yl.add rfl rfl rfl (fun _ => rfl) (by intro _; constructor <;> (try dsimp only) <;> omega)) ?_
          refine WG.run tab_ok 1 rfl ?_
          refine WG.nil ?_
          refine WE.again ((i + 1, szAdd n z (nth ps i))) (⟨by dsimp only; omega, hnx, hnl⟩) (by (try dsimp only); omega) ⟨rfl, rfl, rfl, rfl, rfl, rfl⟩ (RLe.refl _) (by dsimp only [setAll, List.set_cons_zero, List.set_cons_succ]; first | (rw [hsame]; exact (by (repeat (first | exact List.Sublist.refl _ | exact List.nil_sublist _ | apply List.Sublist.cons_cons | apply List.Sublist.cons)); done)) | (rw [← hfin]; exact (by (repeat (first | exact List.Sublist.refl _ | exact List.nil_sublist _ | apply List.Sublist.cons_cons | apply List.Sublist.cons)); done)))
      ·
        refine W.seq ?_
        refine W.region _ ?_
        refine WG.run tab_ok 3 rfl ?_
        refine' WG.y rfl rfl (by decide) (Yl.load1 tab_ok rfl rfl rfl (fun _ => rfl) ?r11 rfl ?h11) ?_
        case r11 => apply Rd.add; exact Rd.slD 1 rfl (by omega)
        case h11 => rfl
        refine WG.run tab_ok 1 rfl ?_
        refine WG.nil ?_
        refine WE.nxt ?_
        refine W.condE rfl (fun hc2 => ?_) (fun hc2 => ?_)
        · try dsimp only at hc2
          refine W.region _ ?_
          refine WG.run tab_ok 2 rfl ?_
          refine' WG.y rfl rfl (by decide) (Yl.load1 tab_ok rfl rfl rfl (fun _ => rfl) ?r12 rfl ?h12) ?_
          case r12 => apply Rd.add; (first | exact Rd.blk 0 rfl | exact Rd.blk 1 rfl | exact Rd.blk 2 rfl | exact Rd.blk 3 rfl)
          case h12 => rfl
          refine WG.run tab_ok 1 rfl ?_
          refine' WG.y rfl rfl (by decide) (Yl.load1 tab_ok rfl rfl rfl (fun _ => rfl) ?r13 rfl ?h13) ?_
          case r13 => apply Rd.add; (first | exact Rd.blk 0 rfl | exact Rd.blk 1 rfl | exact Rd.blk 2 rfl | exact Rd.blk 3 rfl)
          case h13 => rfl
          -- build
          refine WG.y rfl rfl (by decide) (Yl.build (parts := [(0, .tmp 37), (1, .tmp 39)]) tab_ok rfl rfl rfl rfl (fun _ => rfl) rfl rfl) ?_
          refine WG.run tab_ok 1 rfl ?_
          refine WL.efN rfl rfl (Ef.storeD (enc := encZ) (xs := z) (⟨(nth ps i).size, (nth ps i).size⟩ : Sz) 1 tab_ok rfl rfl rfl rfl rfl (by omega) rfl rfl rfl rfl ?_)
          refine WG.nil ?_
          refine WE.cut (z.set (nth ps i).flow.toNat ⟨(nth ps i).size, (nth ps i).size⟩) (show _ = szPre z (nth ps i) from by unfold szPre; rw [if_pos hc2]) ⟨rfl, rfl, rfl, rfl, rfl, rfl, rfl, rfl⟩ (RLe.refl _) (by (repeat (first | exact List.Sublist.refl _ | exact List.nil_sublist _ | apply List.Sublist.cons_cons | apply List.Sublist.cons)); done)
        · try dsimp only at hc2
          refine W.skip ?_
          refine WE.cut z (show _ = szPre z (nth ps i) from by unfold szPre; rw [if_neg hc2]) ⟨rfl, rfl, rfl, rfl, rfl, rfl, rfl, rfl⟩ (RLe.refl _) (by (repeat (first | exact List.Sublist.refl _ | exact List.nil_sublist _ | apply List.Sublist.cons_cons | apply List.Sublist.cons)); done)
  · try dsimp only at hc0
    obtain rfl : i = ps.length := by omega
    rw [List.take_length] at hz
    have hz2 : z = sizesL n ps := hz
    subst hz2
    refine W.exit ?_
    refine WE.then_exit ?_
    refine WE.then_exit ?_
    refine WE.blk_exit ?_
    refine WE.nxt ?_
    refine W.seq ?_
    refine W.region _ ?_
    refine WG.run tab_ok 2 rfl ?_
    refine WG.nil ?_
    refine WE.nxt ?_
    refine W.ret ?_
    refine WE.retF tab_ok [_] rfl ⟨rfl, trivial⟩ (RLe.refl _) ?_
    exact ⟨some ⟨a10, 0, none⟩, n, by rw [hzl]; rfl, rfl, (by (repeat (first | exact List.Sublist.refl _ | exact List.nil_sublist _ | apply List.Sublist.cons_cons | apply List.Sublist.cons)); done)⟩

end Go.Proofs.Ytcfnckccmkjjlaa

/- Chapter 19: the curves. No condition. -/
set_option linter.unusedSimpArgs false
set_option linter.unusedVariables false
namespace Go.Proofs.Ytcfnckccmkjjlaa
open Go Go.RowKit Go.Proofs.Ytcfnckccmkjjlaa.K Go.Proofs.Ytcfnckccmkjjlaa.M

structure SlZ where
  a : Option Addr
  cap : Nat
  xs : List Sz
instance instSlZ : Inhabited SlZ := ⟨⟨none, 0, []⟩⟩
def encW (s : SlZ) : List Value := [.slice s.a s.xs.length s.cap]
theorem foldl_inv {α β : Type} {f : β → α → β} {I : β → Prop} : ∀ (l : List α) (b : β), I b → (∀ b a, a ∈ l → I b → I (f b a)) → I (l.foldl f b)
  | [], b, h, _ => h
  | x :: l, b, h, hs => foldl_inv l (f b x) (hs b x (by simp) h) (fun b a ha hb => hs b a (by simp [ha]) hb)
theorem sizes_ok {ps : List Pkt} {n : Nat} {M : Int} (hM : 0 ≤ M) (hs : ∀ p ∈ ps, 1 ≤ p.size ∧ p.size ≤ M) : (sizesL n ps).length = n ∧ ∀ s ∈ sizesL n ps, 0 ≤ s.least ∧ s.least ≤ s.most ∧ s.most ≤ M := by
  unfold sizesL
  refine foldl_inv (I := fun (z : List Sz) => z.length = n ∧ ∀ s ∈ z, 0 ≤ s.least ∧ s.least ≤ s.most ∧ s.most ≤ M) ps _ ⟨by simp, fun s h => ?_⟩ ?_
  · obtain rfl := List.eq_of_mem_replicate h
    exact ⟨by decide, by decide, hM⟩
  · intro z p hp ⟨h1, h2⟩
    have hps := hs p hp
    refine ⟨by rw [szAdd_len]; exact h1, ?_⟩
    unfold szAdd
    split
    · exact h2
    · rename_i hf
      have hfl : p.flow.toNat < z.length := by omega
      have h3 : ∀ s ∈ szPre z p, 0 ≤ s.least ∧ s.least ≤ s.most ∧ s.most ≤ M := by
        unfold szPre
        split
        · intro s h
          rcases List.mem_or_eq_of_mem_set h with h | rfl
          · exact h2 s h
          · dsimp only; omega
        · exact h2
      intro s h
      have h4 := h3 _ (nth_mem (xs := szPre z p) (k := p.flow.toNat) (by rw [szPre_len]; exact hfl))
      rcases List.mem_or_eq_of_mem_set h with h | rfl
      · exact h3 s h
      · dsimp only
        split <;> split <;> omega

end Go.Proofs.Ytcfnckccmkjjlaa

/- Sizes of the packets of a class. No condition. -/
set_option linter.unusedSimpArgs false
set_option linter.unusedVariables false
namespace Go.Proofs.Ytcfnckccmkjjlaa
open Go Go.RowKit Go.Proofs.Ytcfnckccmkjjlaa.K Go.Proofs.Ytcfnckccmkjjlaa.M

def okZ (z : List Sz) (q : Pkt) : Prop := 0 < (nth z q.flow.toNat).most ∧ (nth z q.flow.toNat).least ≤ q.size ∧ q.size ≤ (nth z q.flow.toNat).most
theorem szAdd_ok {n : Nat} {z : List Sz} {p q : Pkt} (hz : z.length = n) (hp : 1 ≤ p.size ∧ 0 ≤ p.flow ∧ p.flow < n) (h : q = p ∨ okZ z q) : okZ (szAdd n z p) q := by
  have hfl : p.flow.toNat < z.length := by omega
  have e : szAdd n z p = szPut (szPre z p) p := if_neg (by omega)
  rw [e]
  have hl : (szPre z p).length = z.length := szPre_len z p
  unfold szPut okZ
  by_cases hf : p.flow.toNat = q.flow.toNat
  · rw [← hf, nth_set_self (by omega)]
    dsimp only
    rcases h with rfl | h
    · split <;> split <;> omega
    · unfold okZ at h
      rw [← hf] at h
      have : nth (szPre z p) p.flow.toNat = nth z p.flow.toNat := by unfold szPre; rw [if_neg (by omega)]
      rw [this]
      split <;> split <;> omega
  · rw [nth_set_ne hf]
    have h := h.resolve_left (fun e => hf (by rw [e]))
    have : nth (szPre z p) q.flow.toNat = nth z q.flow.toNat := by
      unfold szPre
      split
      · rw [nth_set_ne hf]
      · rfl
    rw [this]; exact h
theorem sizes_fold {n : Nat} : ∀ (l : List Pkt) (z : List Sz) (Q : Pkt → Prop), z.length = n → (∀ q, Q q → okZ z q) → (∀ p ∈ l, 1 ≤ p.size ∧ 0 ≤ p.flow ∧ p.flow < n) → ∀ q, Q q ∨ q ∈ l → okZ (l.foldl (szAdd n) z) q
  | [], z, Q, hz, hQ, _, q, h => by
    rcases h with h | h
    · exact hQ q h
    · simp at h
  | p :: l, z, Q, hz, hQ, hl, q, h => by
    have hp := hl p (by simp)
    refine sizes_fold l (szAdd n z p) (fun q => q = p ∨ Q q) (by rw [szAdd_len]; exact hz) (fun q h => szAdd_ok hz hp (h.imp id (hQ q))) (fun p h => hl p (by simp [h])) q ?_
    rcases h with h | h
    · exact .inl (.inr h)
    · rcases List.mem_cons.1 h with h | h
      · exact .inl (.inl h)
      · exact .inr h
theorem sizes_of {ps : List Pkt} {n : Nat} (h : ∀ p ∈ ps, 1 ≤ p.size ∧ 0 ≤ p.flow ∧ p.flow < n) : SzOf ps (sizesL n ps) := fun i hi => by
  have := sizes_fold ps (List.replicate n ⟨0, 0⟩) (fun _ => False) (by simp) (fun _ h => h.elim) h (nth ps i) (.inr (nth_mem hi))
  exact this.2

end Go.Proofs.Ytcfnckccmkjjlaa

/- Chapter 19: shares. No condition. -/
set_option linter.unusedSimpArgs false
set_option linter.unusedVariables false
namespace Go.Proofs.Ytcfnckccmkjjlaa
open Go Go.RowKit Go.Proofs.Ytcfnckccmkjjlaa.K Go.Proofs.Ytcfnckccmkjjlaa.M

theorem chkW_zero {hi cap cls : Int} {w : List Int} {z : List Sz} (h1 : 1 ≤ cap ∧ cap ≤ 4000) (h2 : 0 ≤ cls ∧ cls < z.length) (h3 : z.length ≤ 6) (h4 : w.length = z.length) (h5 : ∀ x ∈ w, 1 ≤ x ∧ x ≤ hi) (h6 : ∀ s ∈ z, 0 ≤ s.least ∧ s.least ≤ s.most ∧ s.most ≤ 1500) : chkW hi cap cls w z = 0 := by
  have a : zOk z = true := zOk_iff.2 h6
  have b : okW hi w = true := okW_iff.2 h5
  have e : chk18 cap cls z = 0 := if_neg (by rintro (h|h|h|h|h|h|h) <;> first | omega | (rw [a] at h; cases h))
  unfold chkW
  rw [if_neg (fun h => h e), if_neg (by rintro (h | h); exact h h4; rw [b] at h; cases h)]
end Go.Proofs.Ytcfnckccmkjjlaa

/- The rules of the walks, over any program: a call that only reads the memory that is owned. No condition. -/
namespace Go.Proofs.Ytcfnckccmkjjlaa.K
open Go Go.RowKit

/-- a call that hands back this value and leaves this memory as it is -/
def FnE (P : Program) (f : FuncId) (args : List Value) (w0 : World) (R : Ro) (E : List Ent) (v : Value) : Prop :=
  ∀ w, Mem w0 w R E → Calls P f args.toArray w fun e w' => e = .returned v ∧ Mem w0 w' R E
section
variable {P : Program} {ops : List Oper} {Q : Exit → Act → World → Prop} {rest : List Oper} {n : Nat} {env : Env} {w0 : World} {R : Ro} {E : List Ent} {o : Oper} {pc q draw : Bool}
theorem Fn.toE {f : FuncId} {args : List Value} {v : Value} (h : Fn P f args w0 R E (fun v' _ E' => v' = v ∧ E' = E)) : FnE P f args w0 R E v := by
  intro w hm
  refine (h w hm).mono ?_
  rintro e w' ⟨v', R', E', rfl, hR, hm', rfl, rfl⟩
  exact ⟨rfl, hm'.sub hR (List.Sublist.refl _)⟩
theorem WG.callE {v : Value} {d : Nat} {f : FuncId} {vs : List Value} (hf : Enters P f) (hg : gpc ops env o = some pc) (hd : o.dst = some d) (hdn : d < n)
    (hc : CallOp env o.op q f vs) (hq : pc = true → q = true) (hv : pc = true → FnE P f vs w0 R E v)
    (h : WG draw P ops Q rest n ((d, pc, v) :: env) w0 R E) : WG draw P ops Q (o :: rest) n env w0 R E := by
  cases draw with
  | false =>
    intro a w hk hm
    refine wpList_step fun K hK => ?_
    rw [hk.wanted hg]
    have hput := hk.put hdn pc v
    cases pc with
    | true =>
      simp only [if_true, Oper.wp, run_call hk hc (hq rfl) hf, Oper.upon, hd]
      refine (hv rfl w hm).mono ?_
      rintro e w' ⟨rfl, hm'⟩
      exact hK _ _ (h _ _ (by simpa using hput) hm')
    | false =>
      simp only [Bool.false_eq_true, if_false, hd]
      exact hK _ _ (h _ _ (by simpa using hput) hm)
  | true =>
    intro a hk
    refine wpQuiet_step fun K hK => ?_
    rw [hk.wanted hg]
    have hput := hk.put hdn pc v
    cases pc with
    | true =>
      simp only [if_true]
      refine ⟨v, fun w hm => ?_, ?_⟩
      · unfold Oper.quietAt
        rw [run_call hk hc (hq rfl) hf]
        exact ⟨rfl, hv rfl w hm⟩
      · rw [hd]; exact hK _ (h _ (by simpa using hput))
    | false =>
      simp only [Bool.false_eq_true, if_false, hd]
      exact hK _ (h _ (by simpa using hput))
end
end Go.Proofs.Ytcfnckccmkjjlaa.K
namespace Go.Proofs.Ytcfnckccmkjjlaa.K
open Go Go.RowKit
section
variable {P : Program} {n : Nat} {env : Env} {w0 : World} {R : Ro} {E : List Ent} {o : Oper} {pc p q : Bool}
/-- the quotient as Go has it -/
theorem Yl.tquo {t t' x y} {a b : Int} (ho : o.op = .binOp .quo t x y t') (hx : ev env x = some (p, .int .i64 a)) (hy : ev env y = some (q, .int .i64 b))
    (hpq : pc = true → (p && q) = true) (h0 : pc = true → -4611686018427387904 ≤ a ∧ a ≤ 4611686018427387904) (hb : pc = true → 0 < b) : Yl P n env w0 R E o pc (.int .i64 (a.tdiv b)) := by
  intro ac w hk hm hp
  obtain ⟨h1, h2⟩ := and_both (hpq hp)
  have hb := hb hp
  have h0 := h0 hp
  have e2 : (a.tdiv b).natAbs ≤ a.natAbs := by rw [Int.natAbs_tdiv]; exact Nat.div_le_self _ _
  have e4 := i64_wrap (x := a.tdiv b) ⟨by omega, by omega⟩
  have hb0 : b ≠ 0 := by omega
  unfold execOp
  simp [ho, hk.ev hx h1, hk.ev hy h2, eqGuard, binOp, Op.intDiv, hb0, e4]
end
end Go.Proofs.Ytcfnckccmkjjlaa.K
namespace Go.Proofs.Ytcfnckccmkjjlaa.K
open Go Go.RowKit
section
variable {P : Program} {n : Nat} {env : Env} {w0 : World} {R : Ro} {E : List Ent} {o : Oper} {pc p q : Bool}
/-- a slice against nil -/
theorem Yl.eqNilS {t t' e : TypeId} {x y : Operand} {a : Option Addr} {m c m' c' : Nat} (hu : P.underlying t = some (.slice e)) (ho : o.op = .binOp .eql t x y t') (hx : ev env x = some (p, .slice a m c)) (hy : ev env y = some (q, .slice none m' c'))
    (hpq : pc = true → (p && q) = true) : Yl P n env w0 R E o pc (.bool a.isNone) := by
  intro ac w hk hm hp
  obtain ⟨h1, h2⟩ := and_both (hpq hp)
  have e1 : (binOp .eql t (.slice a m c) (.slice none m' c')).run P w = .ok (.bool a.isNone) w := by
    simp only [binOp]
    simp [Op.equal, Op.maxDepth, Lib.run_equalIn_slice_nil w 9999 t e a m c m' c' hu]
  unfold execOp
  simp [ho, hk.ev hx h1, hk.ev hy h2, eqGuard, e1]
end
theorem RS.some {α : Type} {_i : Inhabited α} {R : Ro} {k : Nat} {enc : α → List Value} {a : Option Addr} {xs : List α} (h : RS (_i := _i) R k enc a xs) (hx : 0 < xs.length) : a.isNone = false := by
  rcases h.2.1 with h1 | ⟨b, off, cs, h1, _⟩
  · rw [List.map_eq_nil_iff] at h1; rw [h1] at hx; simp at hx
  · rw [h1]; rfl
end Go.Proofs.Ytcfnckccmkjjlaa.K

/- Chapter 20: the choice of deficit round robin. No condition. -/
set_option linter.unusedSimpArgs false
set_option linter.unusedVariables false
namespace Go.Proofs.Ytcfnckccmkjjlaa
open Go Go.RowKit Go.Proofs.Ytcfnckccmkjjlaa.K Go.Proofs.Ytcfnckccmkjjlaa.M

theorem Weighed20_V {R : Ro} {a : Option Addr} {c : Nat} {w : List Int} (ha : RS R 1 encI a w) : FnV Try.prog 90 [.slice a w.length c] R (.bool (okW 6000 w)) := by
  have hla := ha.len
  refine Fn.toV (fun w0 E => ?_)
  refine Fn.enter (n := 18) Try.func90 rfl rfl (Nat.le_of_ble_eq_true rfl) rfl ?_
  refine W.seq ?_
  refine W.region _ ?_
  refine WG.run tab_ok 1 rfl ?_
  refine WG.nil ?_
  refine WE.nxt ?_
  refine W.seq ?_
  refine W.seq ?_
  refine W.region _ ?_
  refine WG.run tab_ok 3 rfl ?_
  refine WG.nil ?_
  refine WE.nxt ?_
  refine W.block ?_
  refine W.loopK (β := Nat) (fun k => k ≤ w.length ∧ ∀ j, j < k → 1 ≤ nth w j ∧ nth w j ≤ 6000) (fun k => [(7, true, .int .i64 (k : Int))]) [5, 6] [_, _] [] _ rfl (fun k => []) (fun k => w.length - k) (0) (⟨Nat.zero_le _, fun j hj => by omega⟩) ⟨rfl, rfl, rfl, rfl⟩ (by (repeat (first | exact List.Sublist.refl _ | exact List.nil_sublist _ | apply List.Sublist.cons_cons | apply List.Sublist.cons)); done) ?_
  intro k hst
  dsimp only [zipE, setAll, List.cons_append, List.nil_append, List.set_cons_zero, List.set_cons_succ] at hst ⊢
  
  refine W.seq ?_
  refine W.region _ ?_
  refine WG.run tab_ok 1 rfl ?_
  refine WG.nil ?_
  refine WE.nxt ?_
  refine W.seq ?_
  refine W.condD rfl (fun hc0 => ?_) (fun hc0 => ?_)
  · try dsimp only at hc0
    refine W.skip ?_
    refine WE.nxt ?_
    refine W.seq ?_
    refine W.block ?_
    refine W.seq ?_
    refine W.region _ ?_
    refine WG.y rfl rfl (by decide) (Yl.indexN tab_ok rfl rfl rfl rfl rfl rfl (fun _ => rfl) (by intro _; (try dsimp only) <;> omega) (by intro _; first | exact fun _ _ _ _ => rfl | exact RS.has (by assumption) | exact fun _ _ _ _ => (by assumption) | exact HasMem.ownD 0 rfl | exact HasMem.ownD 1 rfl)) ?_
    refine' WG.y rfl rfl (by decide) (Yl.load1 tab_ok rfl rfl rfl (fun _ => rfl) ?r1 rfl ?h1) ?_
    case r1 => (first | (apply RS.rdD; assumption; ((try dsimp only) <;> omega)) | exact Rd.slD 0 rfl (by (try dsimp only) <;> omega) | exact Rd.slD 1 rfl (by (try dsimp only) <;> omega))
    case h1 => rfl
    refine WG.run tab_ok 1 rfl ?_
    refine WG.nil ?_
    refine WE.nxt ?_
    refine W.seq ?_
    refine W.region _ ?_
    refine WG.run tab_ok 3 rfl ?_
    refine WG.y rfl rfl (by decide) (pureV_ok tab_ok rfl (by first | exact fun _ => rfl | exact fun h => h | (intro h; simp_all))) ?_
    refine WG.y rfl rfl (by decide) (pureV_ok tab_ok rfl (by first | exact fun _ => rfl | exact fun h => h | (intro h; simp_all))) ?_
    refine WG.y rfl rfl (by decide) (Yl.por rfl rfl rfl (fun _ => rfl) (by intro h1 h2; simp_all <;> omega)) ?_
    refine WG.nil ?_
    refine WE.nxt ?_
    refine W.cond rfl (fun hc1 => ?_) (fun hc1 => ?_)
    · try simp only [decide_eq_true_eq, decide_eq_false_iff_not, beq_iff_eq, bne_iff_ne, beq_eq_false_iff_ne, bne_eq_false_iff_eq, ne_eq, Bool.or_eq_true, Bool.or_eq_false_iff, Bool.and_eq_true, Bool.and_eq_false_imp, Bool.not_eq_true, Bool.not_eq_true', Bool.not_eq_false', Classical.not_not, Int.not_lt, Int.not_le, gt_iff_lt, ge_iff_le] at hc1
      have hkl : k < w.length := by omega
      refine W.seq ?_
      refine W.region _ ?_
      refine WG.run tab_ok 1 rfl ?_
      refine WG.nil ?_
      refine WE.nxt ?_
      refine W.ret ?_
      refine WE.blk_ret ?_
      refine WE.then_ret ?_
      refine WE.then_ret ?_
      refine WE.blk_ret ?_
      refine WE.then_ret ?_
      refine WE.subE (E' := E) (by (repeat (first | exact List.Sublist.refl _ | exact List.nil_sublist _ | apply List.Sublist.cons_cons | apply List.Sublist.cons)); done) ?_
      refine WE.retF tab_ok [_] rfl ⟨rfl, trivial⟩ (RLe.refl _) ?_
      refine ⟨congrArg Value.bool ?_, rfl⟩
      symm
      rw [← Bool.not_eq_true]
      intro h
      have := okW_iff.1 h _ (nth_mem hkl)
      omega
    · try simp only [decide_eq_true_eq, decide_eq_false_iff_not, beq_iff_eq, bne_iff_ne, beq_eq_false_iff_ne, bne_eq_false_iff_eq, ne_eq, Bool.or_eq_true, Bool.or_eq_false_iff, Bool.and_eq_true, Bool.and_eq_false_imp, Bool.not_eq_true, Bool.not_eq_true', Bool.not_eq_false', Classical.not_not, Int.not_lt, Int.not_le, gt_iff_lt, ge_iff_le] at hc1
      refine W.skip ?_
      refine WE.blk _ ?_
      refine WE.nxt ?_
      refine W.region _ ?_
      refine WG.y rfl rfl (by decide) (Yl.add rfl rfl rfl (fun _ => rfl) (by intro _; constructor <;> (try dsimp only) <;> omega)) ?_
      refine WG.run tab_ok 1 rfl ?_
      refine WG.nil ?_
      refine WE.again (k + 1) (⟨by omega, fun j hj => by
        by_cases e : j = k
        · subst e; omega
        · exact hst.2 j (by omega)⟩) (by (try dsimp only); omega) ⟨rfl, rfl, rfl, rfl⟩ (RLe.refl _) (by (repeat (first | exact List.Sublist.refl _ | exact List.nil_sublist _ | apply List.Sublist.cons_cons | apply List.Sublist.cons)); done)
  · try dsimp only at hc0
    refine W.exit ?_
    refine WE.then_exit ?_
    refine WE.then_exit ?_
    refine WE.blk_exit ?_
    refine WE.nxt ?_
    refine W.seq ?_
    refine W.region _ ?_
    refine WG.run tab_ok 1 rfl ?_
    refine WG.nil ?_
    refine WE.nxt ?_
    refine W.ret ?_
    refine WE.subE (E' := E) (by (repeat (first | exact List.Sublist.refl _ | exact List.nil_sublist _ | apply List.Sublist.cons_cons | apply List.Sublist.cons)); done) ?_
    refine WE.retF tab_ok [_] rfl ⟨rfl, trivial⟩ (RLe.refl _) ?_
    refine ⟨congrArg Value.bool ?_, rfl⟩
    symm
    exact okW_iff.2 (all_of_nth (fun j hj => hst.2 j (by omega)))

theorem Size_C {R : Ro} {sb : Nat} {pa : Option Addr} {pc bg : Nat} {ps : List Pkt} {ms : MS} (w0 : World) (hp : RS R 3 encP pa ps) (i : Int) (h0 : 0 ≤ i) (h1 : i < ps.length) (F : List Ent) :
    K.Fn Try.prog 118 [.pointer (some ⟨sb, 0, none⟩), .int .i64 i] w0 R (stE sb pa ps.length pc bg ms :: F) (fun v R' E' => v = .int .i64 (szOf ps i) ∧ R = R' ∧ E' = stE sb pa ps.length pc bg ms :: F) := by
  have hla := hp.len
  refine Fn.enter (n := 13) Try.func118 rfl rfl (Nat.le_of_ble_eq_true rfl) rfl ?_
  refine W.seq ?_
  refine W.region _ ?_
  refine WG.run tab_ok 1 rfl ?_
  refine WG.nil ?_
  refine WE.nxt ?_
  refine W.seq ?_
  refine W.region _ ?_
  refine WG.run tab_ok 3 rfl ?_
  refine' WG.y rfl rfl (by decide) (Yl.load1 tab_ok rfl rfl rfl (fun _ => rfl) ?r1 rfl ?h1) ?_
  case r1 => apply Rd.add; (first | exact Rd.blk 0 rfl | exact Rd.blk 1 rfl | (apply RS.rdD; assumption; ((try dsimp only) <;> omega)) | exact Rd.slD 0 rfl (by (try dsimp only) <;> omega) | exact Rd.slD 1 rfl (by (try dsimp only) <;> omega))
  case h1 => rfl
  refine WG.run tab_ok 1 rfl ?_
  refine WG.y rfl rfl (by decide) (Yl.index tab_ok rfl rfl rfl rfl rfl rfl (fun _ => rfl) (by intro _; constructor <;> (try dsimp only) <;> omega) (by intro _; first | exact fun _ _ _ _ => rfl | exact RS.has (by assumption) | exact fun _ _ _ _ => (by assumption) | exact HasMem.ownD 0 rfl | exact HasMem.ownD 1 rfl)) ?_
  refine WG.run tab_ok 1 rfl ?_
  refine' WG.y rfl rfl (by decide) (Yl.load1 tab_ok rfl rfl rfl (fun _ => rfl) ?r2 rfl ?h2) ?_
  case r2 => apply Rd.add; (first | (apply RS.rdD; assumption; ((try dsimp only) <;> omega)) | exact Rd.slD 0 rfl (by (try dsimp only) <;> omega) | exact Rd.slD 1 rfl (by (try dsimp only) <;> omega))
  case h2 => rfl
  refine WG.run tab_ok 1 rfl ?_
  refine WG.nil ?_
  refine WE.nxt ?_
  refine W.ret ?_
  refine WE.retF tab_ok [_] rfl ⟨rfl, trivial⟩ (RLe.refl _) ?_
  exact ⟨rfl, rfl, rfl⟩

theorem Size_E {R : Ro} {sb : Nat} {pa : Option Addr} {pc bg : Nat} {ps : List Pkt} {ms : MS} (w0 : World) (hp : RS R 3 encP pa ps) (i : Int) (h0 : 0 ≤ i) (h1 : i < ps.length) (F : List Ent) :
    FnE Try.prog 118 [.pointer (some ⟨sb, 0, none⟩), .int .i64 i] w0 R (stE sb pa ps.length pc bg ms :: F) (.int .i64 (szOf ps i)) := by
  refine Fn.toE ?_
  intro w hm
  refine (Size_C w0 hp i h0 h1 F w hm).mono ?_
  rintro e w' ⟨v', R', E', rfl, hR, hm', rfl, rfl, rfl⟩
  exact ⟨_, _, _, rfl, hR, hm', rfl, rfl⟩

theorem ChooseD_C {bv bd : Nat} {R : Ro} {sb : Nat} {pa : Option Addr} {pc bg : Nat} {ps : List Pkt} {ms : MS} (w0 : World) (hp : RS R 3 encP pa ps) (hb : ms.begun.length = ps.length) (hsort : ps.Pairwise fun a b => a.time ≤ b.time) {wa : Option Addr} {wc : Nat} {w : List Int} (hwr : RS R 1 encI wa w) (hw : ∀ x ∈ w, 1 ≤ x ∧ x ≤ 6000) (hn : 0 < w.length) (hsz : ∀ p ∈ ps, 1 ≤ p.size ∧ p.size ≤ 1500) (hfl : ∀ p ∈ ps, 0 ≤ p.flow ∧ p.flow < w.length) {s : Nat × Bool × List Int} (hg : goodDf ps w.length ms s) (F : List Ent) :
    K.Fn Try.prog 91 [.pointer (some ⟨bv, 0, none⟩), .pointer (some ⟨sb, 0, none⟩)] w0 R (stE sb pa ps.length pc bg ms :: .sl 4 1 (some ⟨bg, 0, none⟩) ps.length (ms.begun.map encB) :: ([.blk bv [.slice wa w.length wc, .slice (some ⟨bd, 0, none⟩) w.length w.length, .int .i64 (s.1 : Int), .bool s.2.1], .sl 3 1 (some ⟨bd, 0, none⟩) w.length ((s.2.2).map encI)] ++ F)) (fun v R' E' => v = .int .i64 (defCh ps w ms s).1 ∧ R = R' ∧ E' = stE sb pa ps.length pc bg { ms with before := (defCh ps w ms s).2.1 } :: .sl 4 1 (some ⟨bg, 0, none⟩) ps.length (ms.begun.map encB) :: ([.blk bv [.slice wa w.length wc, .slice (some ⟨bd, 0, none⟩) w.length w.length, .int .i64 ((defCh ps w ms s).2.2.1 : Int), .bool (defCh ps w ms s).2.2.2.1], .sl 3 1 (some ⟨bd, 0, none⟩) w.length (((defCh ps w ms s).2.2.2.2).map encI)] ++ F)) := by
  have hlw := hwr.len
  have hlp := hp.len
  obtain ⟨hgd, hgc⟩ := hg
  have hg1 : goodB ps { ms with before := skipTo ms.begun ms.before } := goodB_skip hgd hb
  have hszn : ∀ c : Nat, 0 ≤ nextW ps ms c → 1 ≤ szOf ps (nextW ps ms c) ∧ szOf ps (nextW ps ms c) ≤ 1500 := fun c h => szOf_next hsz c h
  have hsk0 : skipTo ms.begun (skipTo ms.begun ms.before) = skipTo ms.begun ms.before := by
    by_cases h : skipTo ms.begun ms.before < ms.begun.length
    · exact skipTo_false h (skipTo_stop' h)
    · exact skipTo_end (by omega)
  refine Fn.enter (n := 111) Try.func91 rfl rfl (Nat.le_of_ble_eq_true rfl) rfl ?_
  refine W.seq ?_
  refine W.region _ ?_
  refine WG.run tab_ok 1 rfl ?_
  refine WG.nil ?_
  refine WE.nxt ?_
  refine W.seq ?_
  refine W.seq ?_
  refine W.region _ ?_
  refine WG.run tab_ok 1 rfl ?_
  refine WL.call en65 rfl rfl (by decide) (CallOp.mkT rfl rfl rfl rfl) (First_C w0 hp hb hgd.1 _) ?_
  rintro _ _ _ - ⟨rfl, rfl, rfl⟩
  refine WG.run tab_ok 1 rfl ?_
  refine WG.nil ?_
  refine WE.nxt ?_
  refine W.condD rfl (fun hc0 => ?_) (fun hc0 => ?_)
  · try dsimp only at hc0
    have hch : defCh ps w ms s = (-1, skipTo ms.begun ms.before, s) := by unfold defCh; rw [if_pos hc0]
    refine W.seq ?_
    refine W.region _ ?_
    refine WG.run tab_ok 1 rfl ?_
    refine WG.nil ?_
    refine WE.nxt ?_
    refine W.ret ?_
    refine WE.then_ret ?_
    refine WE.retF tab_ok [_] rfl ⟨rfl, trivial⟩ (RLe.refl _) ?_
    exact ⟨by rw [hch]; rfl, rfl, by rw [hch]; try rfl⟩
  · try dsimp only at hc0
    have hsoon := def_soon hfl ⟨hgd, hgc⟩ hb hc0
    have hch : defCh ps w ms s = ((defGo (nextW ps ms) (szOf ps) w (defF w.length) s.1 s.2.1 s.2.2).1, skipTo ms.begun ms.before, (defGo (nextW ps ms) (szOf ps) w (defF w.length) s.1 s.2.1 s.2.2).2) := by unfold defCh; rw [if_neg hc0]
    refine W.skip ?_
    refine WE.nxt ?_
    refine W.block ?_
    refine W.loopK (β := Nat × Nat × Bool × List Int) (fun (k, c, b, d) => defGo (nextW ps ms) (szOf ps) w k c b d = defGo (nextW ps ms) (szOf ps) w (defF w.length) s.1 s.2.1 s.2.2 ∧ DSoon (nextW ps ms) w.length k c b d ∧ DOk w.length c b d) (fun (k, c, b, d) => []) [0, 1] [_, _] [] _ rfl (fun (k, c, b, d) => [(2, .blk bv [.slice wa w.length wc, .slice (some ⟨bd, 0, none⟩) w.length w.length, .int .i64 (c : Int), .bool b]), (3, .sl 3 1 (some ⟨bd, 0, none⟩) w.length ((d).map encI))]) (fun (k, c, b, d) => k) ((defF w.length, s.1, s.2.1, s.2.2)) (⟨rfl, hsoon, hgc⟩) ⟨rfl, rfl, rfl⟩ (by (repeat (first | exact List.Sublist.refl _ | exact List.nil_sublist _ | apply List.Sublist.cons_cons | apply List.Sublist.cons)); done) ?_
    intro zz hst
    obtain ⟨k, c, b, d⟩ := zz
    dsimp only [zipE, setAll, List.cons_append, List.nil_append, List.set_cons_zero, List.set_cons_succ] at hst ⊢
    obtain ⟨h1, h2, h3⟩ := hst
    have hdl := h3.2.1
    have hcw := h3.1
    refine W.block ?_
    refine W.seq ?_
    refine W.region _ ?_
    refine WG.run tab_ok 4 rfl ?_
    refine' WG.y rfl rfl (by decide) (Yl.load1 tab_ok rfl rfl rfl (fun _ => rfl) ?r1 rfl ?h1) ?_
    case r1 => apply Rd.add; (first | exact Rd.blk 0 rfl | exact Rd.blk 1 rfl | exact Rd.blk 2 rfl | exact Rd.blk 3 rfl | exact Rd.blk 4 rfl | (apply RS.rdD; assumption; ((try dsimp only) <;> omega)) | exact Rd.slD 0 rfl (by (try dsimp only) <;> omega) | exact Rd.slD 1 rfl (by (try dsimp only) <;> omega) | exact Rd.slD 2 rfl (by (try dsimp only) <;> omega) | exact Rd.slD 3 rfl (by (try dsimp only) <;> omega) | exact Rd.slD 4 rfl (by (try dsimp only) <;> omega))
    case h1 => rfl
    refine WL.call en66 rfl rfl (by decide) (CallOp.mkT rfl rfl rfl rfl) (Next_C (ms := { ms with before := skipTo ms.begun ms.before }) w0 hp hb hg1 hsort _ _) ?_
    rintro _ _ _ - ⟨rfl, rfl, rfl⟩
    dsimp only
    rw [hsk0]
    refine WG.run tab_ok 1 rfl ?_
    refine WG.nil ?_
    refine WE.nxt ?_
    refine W.seqCut (β := Bool × List Int) (fun (b1, d1) => d1 = grant (nextW ps ms) w c b d ∧ b1 = (if 0 ≤ nextW ps ms c then true else b)) (fun (b1, d1) => [(0, true, .pointer (some ⟨bv, 0, none⟩)), (1, true, .pointer (some ⟨sb, 0, none⟩)), (5, true, .int .i64 (nextW ps ms c))]) (fun _ => R) (fun (b1, d1) => stE sb pa ps.length pc bg { ms with before := skipTo ms.begun ms.before } :: .sl 4 1 (some ⟨bg, 0, none⟩) ps.length (ms.begun.map encB) :: .blk bv [.slice wa w.length wc, .slice (some ⟨bd, 0, none⟩) w.length w.length, .int .i64 (c : Int), .bool b1] :: .sl 3 1 (some ⟨bd, 0, none⟩) w.length ((d1).map encI) :: F) ?_ ?_
    ·
      intro st hst
      obtain ⟨b1, d1⟩ := st
      obtain ⟨hd1, hb1⟩ := hst
      dsimp only at hd1 hb1 ⊢
      have hgb := h3.grant (nx := nextW ps ms) hw
      have hgl : (grant (nextW ps ms) w c b d).length = w.length := by rw [grant_len]; exact hdl
      subst hd1
      refine W.seq ?_
      refine W.seq ?_
      refine W.regionQ _ mixed (by kernel_rfl) ?_
      refine WG.run tab_ok 3 rfl ?_
      refine WG.y rfl rfl (by decide) (pureV_ok tab_ok rfl (by first | exact fun _ => rfl | exact fun h => h | (intro h; simp_all))) ?_
      refine WG.y rfl rfl (by decide) (pureV_ok tab_ok rfl (by first | exact fun _ => rfl | exact fun h => h | (intro h; simp_all))) ?_
      refine WG.callE en118 rfl rfl (by decide) (CallOp.mk' rfl rfl rfl rfl) (by first | exact fun _ => rfl | exact fun h => h | (intro h; simp_all)) (fun hg => Size_E w0 hp _ (by simpa using hg) (nextW_lt ps _ _).1 _) ?_
      refine WG.y rfl rfl (by decide) (pureV_ok tab_ok rfl (by first | exact fun _ => rfl | exact fun h => h | (intro h; simp_all))) ?_
      refine WG.y rfl rfl (by decide) (pureV_ok tab_ok rfl (by first | exact fun _ => rfl | exact fun h => h | (intro h; simp_all))) ?_
      refine WG.y rfl rfl (by decide) (pureV_ok tab_ok rfl (by first | exact fun _ => rfl | exact fun h => h | (intro h; simp_all))) ?_
      refine' WG.y rfl rfl (by decide) (Yl.loadG tab_ok rfl rfl rfl (by first | exact fun _ => rfl | exact fun h => h | (intro h; simp_all)) ?r2 rfl ?h2 ?g2) ?_
      case r2 => apply Rd.addC; (first | exact Rd.blkC 0 rfl | exact Rd.blkC 1 rfl | exact Rd.blkC 2 rfl | exact Rd.blkC 3 rfl | exact Rd.blkC 4 rfl | (apply RS.rdC; assumption) | exact Rd.slC 0 rfl | exact Rd.slC 1 rfl | exact Rd.slC 2 rfl | exact Rd.slC 3 rfl | exact Rd.slC 4 rfl)
      case h2 => rfl
      case g2 => first | exact fun _ => trivial | (intro hg; (try simp only [decide_eq_true_eq, decide_eq_false_iff_not, beq_iff_eq, bne_iff_ne, beq_eq_false_iff_ne, bne_eq_false_iff_eq, ne_eq, Bool.or_eq_true, Bool.or_eq_false_iff, Bool.and_eq_true, Bool.and_eq_false_imp, Bool.not_eq_true, Bool.not_eq_true', Bool.not_eq_false', Classical.not_not, Int.not_lt, Int.not_le, gt_iff_lt, ge_iff_le] at hg); (try dsimp only); omega)
      refine WG.y rfl rfl (by decide) (pureV_ok tab_ok rfl (by first | exact fun _ => rfl | exact fun h => h | (intro h; simp_all))) ?_
      refine WG.y rfl rfl (by decide) (pureV_ok tab_ok rfl (by first | exact fun _ => rfl | exact fun h => h | (intro h; simp_all))) ?_
      refine WG.y rfl rfl (by decide) (pureV_ok tab_ok rfl (by first | exact fun _ => rfl | exact fun h => h | (intro h; simp_all))) ?_
      refine' WG.y rfl rfl (by decide) (Yl.loadG tab_ok rfl rfl rfl (by first | exact fun _ => rfl | exact fun h => h | (intro h; simp_all)) ?r3 rfl ?h3 ?g3) ?_
      case r3 => apply Rd.addC; (first | exact Rd.blkC 0 rfl | exact Rd.blkC 1 rfl | exact Rd.blkC 2 rfl | exact Rd.blkC 3 rfl | exact Rd.blkC 4 rfl | (apply RS.rdC; assumption) | exact Rd.slC 0 rfl | exact Rd.slC 1 rfl | exact Rd.slC 2 rfl | exact Rd.slC 3 rfl | exact Rd.slC 4 rfl)
      case h3 => rfl
      case g3 => first | exact fun _ => trivial | (intro hg; (try simp only [decide_eq_true_eq, decide_eq_false_iff_not, beq_iff_eq, bne_iff_ne, beq_eq_false_iff_ne, bne_eq_false_iff_eq, ne_eq, Bool.or_eq_true, Bool.or_eq_false_iff, Bool.and_eq_true, Bool.and_eq_false_imp, Bool.not_eq_true, Bool.not_eq_true', Bool.not_eq_false', Classical.not_not, Int.not_lt, Int.not_le, gt_iff_lt, ge_iff_le] at hg); (try dsimp only); omega)
      refine WG.y rfl rfl (by decide) (Yl.indexN tab_ok rfl rfl rfl rfl rfl rfl (by first | exact fun _ => rfl | exact fun h => h | (intro h; simp_all)) (by intro hg; (try simp only [decide_eq_true_eq, decide_eq_false_iff_not, beq_iff_eq, bne_iff_ne, beq_eq_false_iff_ne, bne_eq_false_iff_eq, ne_eq, Bool.or_eq_true, Bool.or_eq_false_iff, Bool.and_eq_true, Bool.and_eq_false_imp, Bool.not_eq_true, Bool.not_eq_true', Bool.not_eq_false', Classical.not_not, Int.not_lt, Int.not_le, gt_iff_lt, ge_iff_le] at hg); (try dsimp only) <;> omega) (by intro hg; (try simp only [decide_eq_true_eq, decide_eq_false_iff_not, beq_iff_eq, bne_iff_ne, beq_eq_false_iff_ne, bne_eq_false_iff_eq, ne_eq, Bool.or_eq_true, Bool.or_eq_false_iff, Bool.and_eq_true, Bool.and_eq_false_imp, Bool.not_eq_true, Bool.not_eq_true', Bool.not_eq_false', Classical.not_not, Int.not_lt, Int.not_le, gt_iff_lt, ge_iff_le] at hg); first | exact fun _ _ _ _ => rfl | exact RS.has (by assumption) | exact fun _ _ _ _ => (by assumption) | exact HasMem.ownD 0 rfl | exact HasMem.ownD 1 rfl | exact HasMem.ownD 2 rfl | exact HasMem.ownD 3 rfl | exact HasMem.ownD 4 rfl)) ?_
      refine' WG.y rfl rfl (by decide) (Yl.loadG tab_ok rfl rfl rfl (by first | exact fun _ => rfl | exact fun h => h | (intro h; simp_all)) ?r4 rfl ?h4 ?g4) ?_
      case r4 => (first | (apply RS.rdC; assumption) | exact Rd.slC 0 rfl | exact Rd.slC 1 rfl | exact Rd.slC 2 rfl | exact Rd.slC 3 rfl | exact Rd.slC 4 rfl)
      case h4 => rfl
      case g4 => first | exact fun _ => trivial | (intro hg; (try simp only [decide_eq_true_eq, decide_eq_false_iff_not, beq_iff_eq, bne_iff_ne, beq_eq_false_iff_ne, bne_eq_false_iff_eq, ne_eq, Bool.or_eq_true, Bool.or_eq_false_iff, Bool.and_eq_true, Bool.and_eq_false_imp, Bool.not_eq_true, Bool.not_eq_true', Bool.not_eq_false', Classical.not_not, Int.not_lt, Int.not_le, gt_iff_lt, ge_iff_le] at hg); (try dsimp only); omega)
      refine WG.y rfl rfl (by decide) (pureV_ok tab_ok rfl (by first | exact fun _ => rfl | exact fun h => h | (intro h; simp_all))) ?_
      refine WG.y rfl rfl (by decide) (Yl.pand rfl rfl rfl (fun _ => rfl) (by intro h1 h2; simp_all <;> omega)) ?_
      refine WG.nil ?_
      refine WE.nxt ?_
      refine W.cond rfl (fun hc1 => ?_) (fun hc1 => ?_)
      · try simp only [decide_eq_true_eq, decide_eq_false_iff_not, beq_iff_eq, bne_iff_ne, beq_eq_false_iff_ne, bne_eq_false_iff_eq, ne_eq, Bool.or_eq_true, Bool.or_eq_false_iff, Bool.and_eq_true, Bool.and_eq_false_imp, Bool.not_eq_true, Bool.not_eq_true', Bool.not_eq_false', Classical.not_not, Int.not_lt, Int.not_le, gt_iff_lt, ge_iff_le] at hc1
        have hy : 0 ≤ nextW ps ms c ∧ szOf ps (nextW ps ms c) ≤ nth (grant (nextW ps ms) w c b d) c := hc1
        have hgo : defGo (nextW ps ms) (szOf ps) w (defF w.length) s.1 s.2.1 s.2.2 = (nextW ps ms c, (c, true, (grant (nextW ps ms) w c b d).set c (nth (grant (nextW ps ms) w c b d) c - szOf ps (nextW ps ms c)))) := by
          rw [← h1]
          obtain ⟨k, rfl⟩ : ∃ m, k = m + 1 := ⟨k - 1, by obtain ⟨j, _, _, hj⟩ := h2; omega⟩
          rw [defGo, if_pos hy]
        have hszc := hszn c hy.1
        have hgc := hgb c h3.1
        rw [hgo] at hch
        obtain rfl : b1 = true := by rw [hb1, if_pos hy.1]
        refine W.seq ?_
        refine W.regionH _ (ES := [.blk bv [.slice wa w.length wc, .slice (some ⟨bd, 0, none⟩) w.length w.length, .int .i64 (c : Int), .bool true]]) mixed ?_
        refine WA.take 0 rfl (by kernel_rfl) (by kernel_rfl) (by kernel_rfl) rfl rfl (by decide) (pureV_ok tab_ok rfl (fun _ => rfl)) (by (repeat (first | exact List.Sublist.refl _ | exact List.nil_sublist _ | apply List.Sublist.cons_cons | apply List.Sublist.cons)); done) (by first | exact RLe.refl _ | assumption) ?_
        refine WA.take 1 rfl (by kernel_rfl) (by kernel_rfl) (by kernel_rfl) rfl rfl (by decide) (pureV_ok tab_ok rfl (fun _ => rfl)) (by (repeat (first | exact List.Sublist.refl _ | exact List.nil_sublist _ | apply List.Sublist.cons_cons | apply List.Sublist.cons)); done) (by first | exact RLe.refl _ | assumption) ?_
        refine WA.take 2 rfl (by kernel_rfl) (by kernel_rfl) (by kernel_rfl) rfl rfl (by decide) (pureV_ok tab_ok rfl (fun _ => rfl)) (by (repeat (first | exact List.Sublist.refl _ | exact List.nil_sublist _ | apply List.Sublist.cons_cons | apply List.Sublist.cons)); done) (by first | exact RLe.refl _ | assumption) ?_
        refine' WA.take 3 rfl (by kernel_rfl) (by kernel_rfl) (by kernel_rfl) rfl rfl (by decide) (Yl.load1 tab_ok rfl rfl rfl (fun _ => rfl) ?r5 rfl ?h5) (by (repeat (first | exact List.Sublist.refl _ | exact List.nil_sublist _ | apply List.Sublist.cons_cons | apply List.Sublist.cons)); done) (by first | exact RLe.refl _ | assumption) ?_
        case r5 => apply Rd.add; (first | exact Rd.blk 0 rfl | exact Rd.blk 1 rfl | exact Rd.blk 2 rfl | exact Rd.blk 3 rfl | exact Rd.blk 4 rfl | (apply RS.rdD; assumption; ((try dsimp only) <;> omega)) | exact Rd.slD 0 rfl (by (try dsimp only) <;> omega) | exact Rd.slD 1 rfl (by (try dsimp only) <;> omega) | exact Rd.slD 2 rfl (by (try dsimp only) <;> omega) | exact Rd.slD 3 rfl (by (try dsimp only) <;> omega) | exact Rd.slD 4 rfl (by (try dsimp only) <;> omega))
        case h5 => rfl
        refine WA.take 4 rfl (by kernel_rfl) (by kernel_rfl) (by kernel_rfl) rfl rfl (by decide) (pureV_ok tab_ok rfl (fun _ => rfl)) (by (repeat (first | exact List.Sublist.refl _ | exact List.nil_sublist _ | apply List.Sublist.cons_cons | apply List.Sublist.cons)); done) (by first | exact RLe.refl _ | assumption) ?_
        refine WA.take 5 rfl (by kernel_rfl) (by kernel_rfl) (by kernel_rfl) rfl rfl (by decide) (pureV_ok tab_ok rfl (fun _ => rfl)) (by (repeat (first | exact List.Sublist.refl _ | exact List.nil_sublist _ | apply List.Sublist.cons_cons | apply List.Sublist.cons)); done) (by first | exact RLe.refl _ | assumption) ?_
        refine WA.take 6 rfl (by kernel_rfl) (by kernel_rfl) (by kernel_rfl) rfl rfl (by decide) (pureV_ok tab_ok rfl (fun _ => rfl)) (by (repeat (first | exact List.Sublist.refl _ | exact List.nil_sublist _ | apply List.Sublist.cons_cons | apply List.Sublist.cons)); done) (by first | exact RLe.refl _ | assumption) ?_
        refine' WA.take 7 rfl (by kernel_rfl) (by kernel_rfl) (by kernel_rfl) rfl rfl (by decide) (Yl.load1 tab_ok rfl rfl rfl (fun _ => rfl) ?r6 rfl ?h6) (by (repeat (first | exact List.Sublist.refl _ | exact List.nil_sublist _ | apply List.Sublist.cons_cons | apply List.Sublist.cons)); done) (by first | exact RLe.refl _ | assumption) ?_
        case r6 => apply Rd.add; (first | exact Rd.blk 0 rfl | exact Rd.blk 1 rfl | exact Rd.blk 2 rfl | exact Rd.blk 3 rfl | exact Rd.blk 4 rfl | (apply RS.rdD; assumption; ((try dsimp only) <;> omega)) | exact Rd.slD 0 rfl (by (try dsimp only) <;> omega) | exact Rd.slD 1 rfl (by (try dsimp only) <;> omega) | exact Rd.slD 2 rfl (by (try dsimp only) <;> omega) | exact Rd.slD 3 rfl (by (try dsimp only) <;> omega) | exact Rd.slD 4 rfl (by (try dsimp only) <;> omega))
        case h6 => rfl
        refine WA.take 8 rfl (by kernel_rfl) (by kernel_rfl) (by kernel_rfl) rfl rfl (by decide) (Yl.indexN tab_ok rfl rfl rfl rfl rfl rfl (fun _ => rfl) (by intro _; (try dsimp only) <;> omega) (by intro _; first | exact fun _ _ _ _ => rfl | exact RS.has (by assumption) | exact fun _ _ _ _ => (by assumption) | exact HasMem.ownD 0 rfl | exact HasMem.ownD 1 rfl | exact HasMem.ownD 2 rfl | exact HasMem.ownD 3 rfl | exact HasMem.ownD 4 rfl)) (by (repeat (first | exact List.Sublist.refl _ | exact List.nil_sublist _ | apply List.Sublist.cons_cons | apply List.Sublist.cons)); done) (by first | exact RLe.refl _ | assumption) ?_
        refine WA.take 10 rfl (by kernel_rfl) (by kernel_rfl) (by kernel_rfl) rfl rfl (by decide) (pureV_ok tab_ok rfl (fun _ => rfl)) (by (repeat (first | exact List.Sublist.refl _ | exact List.nil_sublist _ | apply List.Sublist.cons_cons | apply List.Sublist.cons)); done) (by first | exact RLe.refl _ | assumption) ?_
        refine WA.take 11 rfl (by kernel_rfl) (by kernel_rfl) (by kernel_rfl) rfl rfl (by decide) (pureV_ok tab_ok rfl (fun _ => rfl)) (by (repeat (first | exact List.Sublist.refl _ | exact List.nil_sublist _ | apply List.Sublist.cons_cons | apply List.Sublist.cons)); done) (by first | exact RLe.refl _ | assumption) ?_
        refine WA.br2 (i := 9) (j := 12) (by kernel_rfl) ?_ ?_
        ·
          refine' WS.yl rfl rfl rfl (by decide) (Yl.load1 tab_ok rfl rfl rfl (fun _ => rfl) ?r7 rfl ?h7) (by (repeat (first | exact List.Sublist.refl _ | exact List.nil_sublist _ | apply List.Sublist.cons_cons | apply List.Sublist.cons)); done) (RLe.refl _) ?_
          case r7 => (first | (apply RS.rdD; assumption; ((try dsimp only) <;> omega)) | exact Rd.slD 0 rfl (by (try dsimp only) <;> omega) | exact Rd.slD 1 rfl (by (try dsimp only) <;> omega) | exact Rd.slD 2 rfl (by (try dsimp only) <;> omega) | exact Rd.slD 3 rfl (by (try dsimp only) <;> omega) | exact Rd.slD 4 rfl (by (try dsimp only) <;> omega))
          case h7 => rfl
          refine WA.callG 12 rfl (by kernel_rfl) en118 rfl (by first | rfl | decide) rfl (by decide) (CallOp.mkT rfl rfl rfl rfl) (Size_C w0 hp _ hy.1 (nextW_lt ps _ _).1 _) ?_
          rintro _ _ _ - ⟨rfl, rfl, rfl⟩
          refine ⟨RLe.refl _, (by (repeat (first | exact List.Sublist.refl _ | exact List.nil_sublist _ | apply List.Sublist.cons_cons | apply List.Sublist.cons)); done), ?_⟩
          refine WA.take 13 rfl (by kernel_rfl) (by kernel_rfl) (by kernel_rfl) rfl rfl (by decide) (Yl.sub rfl rfl rfl (fun _ => rfl) (by intro _; constructor <;> (try dsimp only) <;> omega)) (by (repeat (first | exact List.Sublist.refl _ | exact List.nil_sublist _ | apply List.Sublist.cons_cons | apply List.Sublist.cons)); done) (by first | exact RLe.refl _ | assumption) ?_
          refine WA.take 14 rfl (by kernel_rfl) (by kernel_rfl) (by kernel_rfl) rfl rfl (by decide) (Yl.indexN tab_ok rfl rfl rfl rfl rfl rfl (fun _ => rfl) (by intro _; (try dsimp only) <;> omega) (by intro _; first | exact fun _ _ _ _ => rfl | exact RS.has (by assumption) | exact fun _ _ _ _ => (by assumption) | exact HasMem.ownD 0 rfl | exact HasMem.ownD 1 rfl | exact HasMem.ownD 2 rfl | exact HasMem.ownD 3 rfl | exact HasMem.ownD 4 rfl)) (by (repeat (first | exact List.Sublist.refl _ | exact List.nil_sublist _ | apply List.Sublist.cons_cons | apply List.Sublist.cons)); done) (by first | exact RLe.refl _ | assumption) ?_
          first | refine WA.effN 15 rfl (by kernel_rfl) rfl rfl (Ef.storeD _ 0 tab_ok rfl rfl rfl rfl rfl (by (try dsimp only) <;> omega) rfl rfl rfl rfl ?_) | refine WA.effN 15 rfl (by kernel_rfl) rfl rfl (Ef.storeD _ 1 tab_ok rfl rfl rfl rfl rfl (by (try dsimp only) <;> omega) rfl rfl rfl rfl ?_) | refine WA.effN 15 rfl (by kernel_rfl) rfl rfl (Ef.storeD _ 2 tab_ok rfl rfl rfl rfl rfl (by (try dsimp only) <;> omega) rfl rfl rfl rfl ?_) | refine WA.effN 15 rfl (by kernel_rfl) rfl rfl (Ef.storeD _ 3 tab_ok rfl rfl rfl rfl rfl (by (try dsimp only) <;> omega) rfl rfl rfl rfl ?_) | refine WA.effN 15 rfl (by kernel_rfl) rfl rfl (Ef.storeD _ 4 tab_ok rfl rfl rfl rfl rfl (by (try dsimp only) <;> omega) rfl rfl rfl rfl ?_)
          refine ⟨by first | exact RLe.refl _ | assumption, (by (repeat (first | exact List.Sublist.refl _ | exact List.nil_sublist _ | apply List.Sublist.cons_cons | apply List.Sublist.cons)); done), ?_⟩
          refine WA.done (by kernel_rfl) ?_
          refine WE.nxt ?_
          refine W.seq ?_
          refine W.region _ ?_
          refine WG.run tab_ok 2 rfl ?_
          refine WG.nil ?_
          refine WE.nxt ?_
          refine W.ret ?_
          refine WE.then_ret ?_
          refine WE.blk_ret ?_
          refine WE.then_ret ?_
          refine WE.blk_ret ?_
          refine WE.retF tab_ok [_] rfl ⟨rfl, trivial⟩ (RLe.refl _) ?_
          exact ⟨by rw [hch]; rfl, rfl, by rw [hch]; try rfl⟩
        ·
          refine WS.callG rfl en118 rfl (by first | rfl | decide) rfl (by decide) (CallOp.mkT rfl rfl rfl rfl) (Size_C w0 hp _ hy.1 (nextW_lt ps _ _).1 _) ?_
          rintro _ _ _ - ⟨rfl, rfl, rfl⟩
          refine ⟨RLe.refl _, (by (repeat (first | exact List.Sublist.refl _ | exact List.nil_sublist _ | apply List.Sublist.cons_cons | apply List.Sublist.cons)); done), ?_⟩
          refine' WA.yl 9 rfl (by kernel_rfl) rfl rfl (by decide) (Yl.load1 tab_ok rfl rfl rfl (fun _ => rfl) ?r8 rfl ?h8) (by (repeat (first | exact List.Sublist.refl _ | exact List.nil_sublist _ | apply List.Sublist.cons_cons | apply List.Sublist.cons)); done) (RLe.refl _) ?_
          case r8 => (first | (apply RS.rdD; assumption; ((try dsimp only) <;> omega)) | exact Rd.slD 0 rfl (by (try dsimp only) <;> omega) | exact Rd.slD 1 rfl (by (try dsimp only) <;> omega) | exact Rd.slD 2 rfl (by (try dsimp only) <;> omega) | exact Rd.slD 3 rfl (by (try dsimp only) <;> omega) | exact Rd.slD 4 rfl (by (try dsimp only) <;> omega))
          case h8 => rfl
          refine WA.take 13 rfl (by kernel_rfl) (by kernel_rfl) (by kernel_rfl) rfl rfl (by decide) (Yl.sub rfl rfl rfl (fun _ => rfl) (by intro _; constructor <;> (try dsimp only) <;> omega)) (by (repeat (first | exact List.Sublist.refl _ | exact List.nil_sublist _ | apply List.Sublist.cons_cons | apply List.Sublist.cons)); done) (by first | exact RLe.refl _ | assumption) ?_
          refine WA.take 14 rfl (by kernel_rfl) (by kernel_rfl) (by kernel_rfl) rfl rfl (by decide) (Yl.indexN tab_ok rfl rfl rfl rfl rfl rfl (fun _ => rfl) (by intro _; (try dsimp only) <;> omega) (by intro _; first | exact fun _ _ _ _ => rfl | exact RS.has (by assumption) | exact fun _ _ _ _ => (by assumption) | exact HasMem.ownD 0 rfl | exact HasMem.ownD 1 rfl | exact HasMem.ownD 2 rfl | exact HasMem.ownD 3 rfl | exact HasMem.ownD 4 rfl)) (by (repeat (first | exact List.Sublist.refl _ | exact List.nil_sublist _ | apply List.Sublist.cons_cons | apply List.Sublist.cons)); done) (by first | exact RLe.refl _ | assumption) ?_
          first | refine WA.effN 15 rfl (by kernel_rfl) rfl rfl (Ef.storeD _ 0 tab_ok rfl rfl rfl rfl rfl (by (try dsimp only) <;> omega) rfl rfl rfl rfl ?_) | refine WA.effN 15 rfl (by kernel_rfl) rfl rfl (Ef.storeD _ 1 tab_ok rfl rfl rfl rfl rfl (by (try dsimp only) <;> omega) rfl rfl rfl rfl ?_) | refine WA.effN 15 rfl (by kernel_rfl) rfl rfl (Ef.storeD _ 2 tab_ok rfl rfl rfl rfl rfl (by (try dsimp only) <;> omega) rfl rfl rfl rfl ?_) | refine WA.effN 15 rfl (by kernel_rfl) rfl rfl (Ef.storeD _ 3 tab_ok rfl rfl rfl rfl rfl (by (try dsimp only) <;> omega) rfl rfl rfl rfl ?_) | refine WA.effN 15 rfl (by kernel_rfl) rfl rfl (Ef.storeD _ 4 tab_ok rfl rfl rfl rfl rfl (by (try dsimp only) <;> omega) rfl rfl rfl rfl ?_)
          refine ⟨by first | exact RLe.refl _ | assumption, (by (repeat (first | exact List.Sublist.refl _ | exact List.nil_sublist _ | apply List.Sublist.cons_cons | apply List.Sublist.cons)); done), ?_⟩
          refine WA.done (by kernel_rfl) ?_
          refine WE.nxt ?_
          refine W.seq ?_
          refine W.region _ ?_
          refine WG.run tab_ok 2 rfl ?_
          refine WG.nil ?_
          refine WE.nxt ?_
          refine W.ret ?_
          refine WE.then_ret ?_
          refine WE.blk_ret ?_
          refine WE.then_ret ?_
          refine WE.blk_ret ?_
          refine WE.retF tab_ok [_] rfl ⟨rfl, trivial⟩ (RLe.refl _) ?_
          exact ⟨by rw [hch]; rfl, rfl, by rw [hch]; try rfl⟩
      · try simp only [decide_eq_true_eq, decide_eq_false_iff_not, beq_iff_eq, bne_iff_ne, beq_eq_false_iff_ne, bne_eq_false_iff_eq, ne_eq, Bool.or_eq_true, Bool.or_eq_false_iff, Bool.and_eq_true, Bool.and_eq_false_imp, Bool.not_eq_true, Bool.not_eq_true', Bool.not_eq_false', Classical.not_not, Int.not_lt, Int.not_le, gt_iff_lt, ge_iff_le] at hc1
        have hno : ¬ (0 ≤ nextW ps ms c ∧ szOf ps (nextW ps ms c) ≤ nth (grant (nextW ps ms) w c b d) c) := by
          rintro ⟨x1, x2⟩
          have := hc1 x1
          omega
        obtain ⟨k, rfl⟩ : ∃ m, k = m + 1 := ⟨k - 1, by obtain ⟨j, _, _, hj⟩ := h2; omega⟩
        rw [defGo, if_neg hno] at h1
        have h4 := h2.step (sz := szOf ps) hw (fun h => (hszn c h).2) h3 hno
        have h5 := h3.next (sz := szOf ps) hw (fun h => (hszn c h).2) hno
        have hce : ((c : Int) + 1) % (w.length : Int) = (((c + 1) % w.length : Nat) : Int) := rfl
        refine W.skip ?_
        refine WE.nxt ?_
        refine W.seq ?_
        refine W.seq ?_
        refine W.region _ ?_
        refine WG.run tab_ok 2 rfl ?_
        refine WG.nil ?_
        refine WE.nxt ?_
        refine W.condD rfl (fun hc2 => ?_) (fun hc2 => ?_)
        · try dsimp only at hc2
          have e0 : drop0 (nextW ps ms) c (grant (nextW ps ms) w c b d) = (grant (nextW ps ms) w c b d).set c 0 := if_pos (by omega)
          rw [e0] at h1 h4 h5
          refine W.regionH _ (ES := [.blk bv [.slice wa w.length wc, .slice (some ⟨bd, 0, none⟩) w.length w.length, .int .i64 (c : Int), .bool b1]]) mixed ?_
          refine WA.take 0 rfl (by kernel_rfl) (by kernel_rfl) (by kernel_rfl) rfl rfl (by decide) (pureV_ok tab_ok rfl (fun _ => rfl)) (by (repeat (first | exact List.Sublist.refl _ | exact List.nil_sublist _ | apply List.Sublist.cons_cons | apply List.Sublist.cons)); done) (by first | exact RLe.refl _ | assumption) ?_
          refine WA.take 1 rfl (by kernel_rfl) (by kernel_rfl) (by kernel_rfl) rfl rfl (by decide) (pureV_ok tab_ok rfl (fun _ => rfl)) (by (repeat (first | exact List.Sublist.refl _ | exact List.nil_sublist _ | apply List.Sublist.cons_cons | apply List.Sublist.cons)); done) (by first | exact RLe.refl _ | assumption) ?_
          refine WA.take 2 rfl (by kernel_rfl) (by kernel_rfl) (by kernel_rfl) rfl rfl (by decide) (pureV_ok tab_ok rfl (fun _ => rfl)) (by (repeat (first | exact List.Sublist.refl _ | exact List.nil_sublist _ | apply List.Sublist.cons_cons | apply List.Sublist.cons)); done) (by first | exact RLe.refl _ | assumption) ?_
          refine' WA.take 3 rfl (by kernel_rfl) (by kernel_rfl) (by kernel_rfl) rfl rfl (by decide) (Yl.load1 tab_ok rfl rfl rfl (fun _ => rfl) ?r9 rfl ?h9) (by (repeat (first | exact List.Sublist.refl _ | exact List.nil_sublist _ | apply List.Sublist.cons_cons | apply List.Sublist.cons)); done) (by first | exact RLe.refl _ | assumption) ?_
          case r9 => apply Rd.add; (first | exact Rd.blk 0 rfl | exact Rd.blk 1 rfl | exact Rd.blk 2 rfl | exact Rd.blk 3 rfl | exact Rd.blk 4 rfl | (apply RS.rdD; assumption; ((try dsimp only) <;> omega)) | exact Rd.slD 0 rfl (by (try dsimp only) <;> omega) | exact Rd.slD 1 rfl (by (try dsimp only) <;> omega) | exact Rd.slD 2 rfl (by (try dsimp only) <;> omega) | exact Rd.slD 3 rfl (by (try dsimp only) <;> omega) | exact Rd.slD 4 rfl (by (try dsimp only) <;> omega))
          case h9 => rfl
          refine WA.take 4 rfl (by kernel_rfl) (by kernel_rfl) (by kernel_rfl) rfl rfl (by decide) (pureV_ok tab_ok rfl (fun _ => rfl)) (by (repeat (first | exact List.Sublist.refl _ | exact List.nil_sublist _ | apply List.Sublist.cons_cons | apply List.Sublist.cons)); done) (by first | exact RLe.refl _ | assumption) ?_
          refine WA.take 5 rfl (by kernel_rfl) (by kernel_rfl) (by kernel_rfl) rfl rfl (by decide) (pureV_ok tab_ok rfl (fun _ => rfl)) (by (repeat (first | exact List.Sublist.refl _ | exact List.nil_sublist _ | apply List.Sublist.cons_cons | apply List.Sublist.cons)); done) (by first | exact RLe.refl _ | assumption) ?_
          refine WA.take 6 rfl (by kernel_rfl) (by kernel_rfl) (by kernel_rfl) rfl rfl (by decide) (pureV_ok tab_ok rfl (fun _ => rfl)) (by (repeat (first | exact List.Sublist.refl _ | exact List.nil_sublist _ | apply List.Sublist.cons_cons | apply List.Sublist.cons)); done) (by first | exact RLe.refl _ | assumption) ?_
          refine' WA.take 7 rfl (by kernel_rfl) (by kernel_rfl) (by kernel_rfl) rfl rfl (by decide) (Yl.load1 tab_ok rfl rfl rfl (fun _ => rfl) ?r10 rfl ?h10) (by (repeat (first | exact List.Sublist.refl _ | exact List.nil_sublist _ | apply List.Sublist.cons_cons | apply List.Sublist.cons)); done) (by first | exact RLe.refl _ | assumption) ?_
          case r10 => apply Rd.add; (first | exact Rd.blk 0 rfl | exact Rd.blk 1 rfl | exact Rd.blk 2 rfl | exact Rd.blk 3 rfl | exact Rd.blk 4 rfl | (apply RS.rdD; assumption; ((try dsimp only) <;> omega)) | exact Rd.slD 0 rfl (by (try dsimp only) <;> omega) | exact Rd.slD 1 rfl (by (try dsimp only) <;> omega) | exact Rd.slD 2 rfl (by (try dsimp only) <;> omega) | exact Rd.slD 3 rfl (by (try dsimp only) <;> omega) | exact Rd.slD 4 rfl (by (try dsimp only) <;> omega))
          case h10 => rfl
          refine WA.take 8 rfl (by kernel_rfl) (by kernel_rfl) (by kernel_rfl) rfl rfl (by decide) (Yl.indexN tab_ok rfl rfl rfl rfl rfl rfl (fun _ => rfl) (by intro _; (try dsimp only) <;> omega) (by intro _; first | exact fun _ _ _ _ => rfl | exact RS.has (by assumption) | exact fun _ _ _ _ => (by assumption) | exact HasMem.ownD 0 rfl | exact HasMem.ownD 1 rfl | exact HasMem.ownD 2 rfl | exact HasMem.ownD 3 rfl | exact HasMem.ownD 4 rfl)) (by (repeat (first | exact List.Sublist.refl _ | exact List.nil_sublist _ | apply List.Sublist.cons_cons | apply List.Sublist.cons)); done) (by first | exact RLe.refl _ | assumption) ?_
          first | refine WA.effN 9 rfl (by kernel_rfl) rfl rfl (Ef.storeD _ 0 tab_ok rfl rfl rfl rfl rfl (by (try dsimp only) <;> omega) rfl rfl rfl rfl ?_) | refine WA.effN 9 rfl (by kernel_rfl) rfl rfl (Ef.storeD _ 1 tab_ok rfl rfl rfl rfl rfl (by (try dsimp only) <;> omega) rfl rfl rfl rfl ?_) | refine WA.effN 9 rfl (by kernel_rfl) rfl rfl (Ef.storeD _ 2 tab_ok rfl rfl rfl rfl rfl (by (try dsimp only) <;> omega) rfl rfl rfl rfl ?_) | refine WA.effN 9 rfl (by kernel_rfl) rfl rfl (Ef.storeD _ 3 tab_ok rfl rfl rfl rfl rfl (by (try dsimp only) <;> omega) rfl rfl rfl rfl ?_) | refine WA.effN 9 rfl (by kernel_rfl) rfl rfl (Ef.storeD _ 4 tab_ok rfl rfl rfl rfl rfl (by (try dsimp only) <;> omega) rfl rfl rfl rfl ?_)
          refine ⟨by first | exact RLe.refl _ | assumption, (by (repeat (first | exact List.Sublist.refl _ | exact List.nil_sublist _ | apply List.Sublist.cons_cons | apply List.Sublist.cons)); done), ?_⟩
          refine WA.done (by kernel_rfl) ?_
          refine WE.nxt ?_
          refine W.regionH _ (ES := []) mixed ?_
          refine WA.take 0 rfl (by kernel_rfl) (by kernel_rfl) (by kernel_rfl) rfl rfl (by decide) (pureV_ok tab_ok rfl (fun _ => rfl)) (by (repeat (first | exact List.Sublist.refl _ | exact List.nil_sublist _ | apply List.Sublist.cons_cons | apply List.Sublist.cons)); done) (by first | exact RLe.refl _ | assumption) ?_
          refine WA.take 1 rfl (by kernel_rfl) (by kernel_rfl) (by kernel_rfl) rfl rfl (by decide) (pureV_ok tab_ok rfl (fun _ => rfl)) (by (repeat (first | exact List.Sublist.refl _ | exact List.nil_sublist _ | apply List.Sublist.cons_cons | apply List.Sublist.cons)); done) (by first | exact RLe.refl _ | assumption) ?_
          refine WA.take 2 rfl (by kernel_rfl) (by kernel_rfl) (by kernel_rfl) rfl rfl (by decide) (pureV_ok tab_ok rfl (fun _ => rfl)) (by (repeat (first | exact List.Sublist.refl _ | exact List.nil_sublist _ | apply List.Sublist.cons_cons | apply List.Sublist.cons)); done) (by first | exact RLe.refl _ | assumption) ?_
          refine WA.take 3 rfl (by kernel_rfl) (by kernel_rfl) (by kernel_rfl) rfl rfl (by decide) (pureV_ok tab_ok rfl (fun _ => rfl)) (by (repeat (first | exact List.Sublist.refl _ | exact List.nil_sublist _ | apply List.Sublist.cons_cons | apply List.Sublist.cons)); done) (by first | exact RLe.refl _ | assumption) ?_
          refine WA.take 4 rfl (by kernel_rfl) (by kernel_rfl) (by kernel_rfl) rfl rfl (by decide) (pureV_ok tab_ok rfl (fun _ => rfl)) (by (repeat (first | exact List.Sublist.refl _ | exact List.nil_sublist _ | apply List.Sublist.cons_cons | apply List.Sublist.cons)); done) (by first | exact RLe.refl _ | assumption) ?_
          refine WA.take 7 rfl (by kernel_rfl) (by kernel_rfl) (by kernel_rfl) rfl rfl (by decide) (pureV_ok tab_ok rfl (fun _ => rfl)) (by (repeat (first | exact List.Sublist.refl _ | exact List.nil_sublist _ | apply List.Sublist.cons_cons | apply List.Sublist.cons)); done) (by first | exact RLe.refl _ | assumption) ?_
          refine WA.take 8 rfl (by kernel_rfl) (by kernel_rfl) (by kernel_rfl) rfl rfl (by decide) (pureV_ok tab_ok rfl (fun _ => rfl)) (by (repeat (first | exact List.Sublist.refl _ | exact List.nil_sublist _ | apply List.Sublist.cons_cons | apply List.Sublist.cons)); done) (by first | exact RLe.refl _ | assumption) ?_
          refine WA.take 9 rfl (by kernel_rfl) (by kernel_rfl) (by kernel_rfl) rfl rfl (by decide) (pureV_ok tab_ok rfl (fun _ => rfl)) (by (repeat (first | exact List.Sublist.refl _ | exact List.nil_sublist _ | apply List.Sublist.cons_cons | apply List.Sublist.cons)); done) (by first | exact RLe.refl _ | assumption) ?_
          refine WA.br2 (i := 5) (j := 10) (by kernel_rfl) ?_ ?_
          ·
            refine' WS.yl rfl rfl rfl (by decide) (Yl.load1 tab_ok rfl rfl rfl (fun _ => rfl) ?r11 rfl ?h11) (by (repeat (first | exact List.Sublist.refl _ | exact List.nil_sublist _ | apply List.Sublist.cons_cons | apply List.Sublist.cons)); done) (RLe.refl _) ?_
            case r11 => apply Rd.add; (first | exact Rd.blk 0 rfl | exact Rd.blk 1 rfl | exact Rd.blk 2 rfl | exact Rd.blk 3 rfl | exact Rd.blk 4 rfl | (apply RS.rdD; assumption; ((try dsimp only) <;> omega)) | exact Rd.slD 0 rfl (by (try dsimp only) <;> omega) | exact Rd.slD 1 rfl (by (try dsimp only) <;> omega) | exact Rd.slD 2 rfl (by (try dsimp only) <;> omega) | exact Rd.slD 3 rfl (by (try dsimp only) <;> omega) | exact Rd.slD 4 rfl (by (try dsimp only) <;> omega))
            case h11 => rfl
            refine WA.take 6 rfl (by kernel_rfl) (by kernel_rfl) (by kernel_rfl) rfl rfl (by decide) (Yl.add rfl rfl rfl (fun _ => rfl) (by intro _; constructor <;> (try dsimp only) <;> omega)) (by (repeat (first | exact List.Sublist.refl _ | exact List.nil_sublist _ | apply List.Sublist.cons_cons | apply List.Sublist.cons)); done) (by first | exact RLe.refl _ | assumption) ?_
            refine' WA.yl 10 rfl (by kernel_rfl) rfl rfl (by decide) (Yl.load1 tab_ok rfl rfl rfl (fun _ => rfl) ?r12 rfl ?h12) (by (repeat (first | exact List.Sublist.refl _ | exact List.nil_sublist _ | apply List.Sublist.cons_cons | apply List.Sublist.cons)); done) (RLe.refl _) ?_
            case r12 => apply Rd.add; (first | exact Rd.blk 0 rfl | exact Rd.blk 1 rfl | exact Rd.blk 2 rfl | exact Rd.blk 3 rfl | exact Rd.blk 4 rfl | (apply RS.rdD; assumption; ((try dsimp only) <;> omega)) | exact Rd.slD 0 rfl (by (try dsimp only) <;> omega) | exact Rd.slD 1 rfl (by (try dsimp only) <;> omega) | exact Rd.slD 2 rfl (by (try dsimp only) <;> omega) | exact Rd.slD 3 rfl (by (try dsimp only) <;> omega) | exact Rd.slD 4 rfl (by (try dsimp only) <;> omega))
            case h12 => rfl
            refine WA.take 11 rfl (by kernel_rfl) (by kernel_rfl) (by kernel_rfl) rfl rfl (by decide) (pureV_ok tab_ok rfl (fun _ => rfl)) (by (repeat (first | exact List.Sublist.refl _ | exact List.nil_sublist _ | apply List.Sublist.cons_cons | apply List.Sublist.cons)); done) (by first | exact RLe.refl _ | assumption) ?_
            refine WA.take 12 rfl (by kernel_rfl) (by kernel_rfl) (by kernel_rfl) rfl rfl (by decide) (Yl.rem rfl rfl rfl (fun _ => rfl) (by intro _; (try dsimp only) <;> omega) (by intro _; (try dsimp only) <;> omega)) (by (repeat (first | exact List.Sublist.refl _ | exact List.nil_sublist _ | apply List.Sublist.cons_cons | apply List.Sublist.cons)); done) (by first | exact RLe.refl _ | assumption) ?_
            refine WA.take 13 rfl (by kernel_rfl) (by kernel_rfl) (by kernel_rfl) rfl rfl (by decide) (pureV_ok tab_ok rfl (fun _ => rfl)) (by (repeat (first | exact List.Sublist.refl _ | exact List.nil_sublist _ | apply List.Sublist.cons_cons | apply List.Sublist.cons)); done) (by first | exact RLe.refl _ | assumption) ?_
            refine WA.take 14 rfl (by kernel_rfl) (by kernel_rfl) (by kernel_rfl) rfl rfl (by decide) (pureV_ok tab_ok rfl (fun _ => rfl)) (by (repeat (first | exact List.Sublist.refl _ | exact List.nil_sublist _ | apply List.Sublist.cons_cons | apply List.Sublist.cons)); done) (by first | exact RLe.refl _ | assumption) ?_
            first | refine WA.effN 15 rfl (by kernel_rfl) rfl rfl (Ef.store 0 tab_ok rfl rfl rfl rfl rfl rfl rfl rfl ?_) | refine WA.effN 15 rfl (by kernel_rfl) rfl rfl (Ef.store 1 tab_ok rfl rfl rfl rfl rfl rfl rfl rfl ?_) | refine WA.effN 15 rfl (by kernel_rfl) rfl rfl (Ef.store 2 tab_ok rfl rfl rfl rfl rfl rfl rfl rfl ?_) | refine WA.effN 15 rfl (by kernel_rfl) rfl rfl (Ef.store 3 tab_ok rfl rfl rfl rfl rfl rfl rfl rfl ?_) | refine WA.effN 15 rfl (by kernel_rfl) rfl rfl (Ef.store 4 tab_ok rfl rfl rfl rfl rfl rfl rfl rfl ?_)
            refine ⟨by first | exact RLe.refl _ | assumption, (by (repeat (first | exact List.Sublist.refl _ | exact List.nil_sublist _ | apply List.Sublist.cons_cons | apply List.Sublist.cons)); done), ?_⟩
            refine WA.take 16 rfl (by kernel_rfl) (by kernel_rfl) (by kernel_rfl) rfl rfl (by decide) (pureV_ok tab_ok rfl (fun _ => rfl)) (by (repeat (first | exact List.Sublist.refl _ | exact List.nil_sublist _ | apply List.Sublist.cons_cons | apply List.Sublist.cons)); done) (by first | exact RLe.refl _ | assumption) ?_
            refine WA.take 17 rfl (by kernel_rfl) (by kernel_rfl) (by kernel_rfl) rfl rfl (by decide) (pureV_ok tab_ok rfl (fun _ => rfl)) (by (repeat (first | exact List.Sublist.refl _ | exact List.nil_sublist _ | apply List.Sublist.cons_cons | apply List.Sublist.cons)); done) (by first | exact RLe.refl _ | assumption) ?_
            first | refine WA.effN 18 rfl (by kernel_rfl) rfl rfl (Ef.store 0 tab_ok rfl rfl rfl rfl rfl rfl rfl rfl ?_) | refine WA.effN 18 rfl (by kernel_rfl) rfl rfl (Ef.store 1 tab_ok rfl rfl rfl rfl rfl rfl rfl rfl ?_) | refine WA.effN 18 rfl (by kernel_rfl) rfl rfl (Ef.store 2 tab_ok rfl rfl rfl rfl rfl rfl rfl rfl ?_) | refine WA.effN 18 rfl (by kernel_rfl) rfl rfl (Ef.store 3 tab_ok rfl rfl rfl rfl rfl rfl rfl rfl ?_) | refine WA.effN 18 rfl (by kernel_rfl) rfl rfl (Ef.store 4 tab_ok rfl rfl rfl rfl rfl rfl rfl rfl ?_)
            refine ⟨by first | exact RLe.refl _ | assumption, (by (repeat (first | exact List.Sublist.refl _ | exact List.nil_sublist _ | apply List.Sublist.cons_cons | apply List.Sublist.cons)); done), ?_⟩
            refine WA.done (by kernel_rfl) ?_
            refine WE.blk _ ?_
            refine WE.again ((k, (c + 1) % w.length, false, (grant (nextW ps ms) w c b d).set c 0)) (⟨h1, h4, h5⟩) (by dsimp only; omega) ⟨rfl, rfl, rfl⟩ (RLe.refl _) (by (repeat (first | exact List.Sublist.refl _ | exact List.nil_sublist _ | apply List.Sublist.cons_cons | apply List.Sublist.cons)); done)
          ·
            refine' WS.yl rfl rfl rfl (by decide) (Yl.load1 tab_ok rfl rfl rfl (fun _ => rfl) ?r13 rfl ?h13) (by (repeat (first | exact List.Sublist.refl _ | exact List.nil_sublist _ | apply List.Sublist.cons_cons | apply List.Sublist.cons)); done) (RLe.refl _) ?_
            case r13 => apply Rd.add; (first | exact Rd.blk 0 rfl | exact Rd.blk 1 rfl | exact Rd.blk 2 rfl | exact Rd.blk 3 rfl | exact Rd.blk 4 rfl | (apply RS.rdD; assumption; ((try dsimp only) <;> omega)) | exact Rd.slD 0 rfl (by (try dsimp only) <;> omega) | exact Rd.slD 1 rfl (by (try dsimp only) <;> omega) | exact Rd.slD 2 rfl (by (try dsimp only) <;> omega) | exact Rd.slD 3 rfl (by (try dsimp only) <;> omega) | exact Rd.slD 4 rfl (by (try dsimp only) <;> omega))
            case h13 => rfl
            refine WA.take 11 rfl (by kernel_rfl) (by kernel_rfl) (by kernel_rfl) rfl rfl (by decide) (pureV_ok tab_ok rfl (fun _ => rfl)) (by (repeat (first | exact List.Sublist.refl _ | exact List.nil_sublist _ | apply List.Sublist.cons_cons | apply List.Sublist.cons)); done) (by first | exact RLe.refl _ | assumption) ?_
            refine' WA.yl 5 rfl (by kernel_rfl) rfl rfl (by decide) (Yl.load1 tab_ok rfl rfl rfl (fun _ => rfl) ?r14 rfl ?h14) (by (repeat (first | exact List.Sublist.refl _ | exact List.nil_sublist _ | apply List.Sublist.cons_cons | apply List.Sublist.cons)); done) (RLe.refl _) ?_
            case r14 => apply Rd.add; (first | exact Rd.blk 0 rfl | exact Rd.blk 1 rfl | exact Rd.blk 2 rfl | exact Rd.blk 3 rfl | exact Rd.blk 4 rfl | (apply RS.rdD; assumption; ((try dsimp only) <;> omega)) | exact Rd.slD 0 rfl (by (try dsimp only) <;> omega) | exact Rd.slD 1 rfl (by (try dsimp only) <;> omega) | exact Rd.slD 2 rfl (by (try dsimp only) <;> omega) | exact Rd.slD 3 rfl (by (try dsimp only) <;> omega) | exact Rd.slD 4 rfl (by (try dsimp only) <;> omega))
            case h14 => rfl
            refine WA.take 6 rfl (by kernel_rfl) (by kernel_rfl) (by kernel_rfl) rfl rfl (by decide) (Yl.add rfl rfl rfl (fun _ => rfl) (by intro _; constructor <;> (try dsimp only) <;> omega)) (by (repeat (first | exact List.Sublist.refl _ | exact List.nil_sublist _ | apply List.Sublist.cons_cons | apply List.Sublist.cons)); done) (by first | exact RLe.refl _ | assumption) ?_
            refine WA.take 12 rfl (by kernel_rfl) (by kernel_rfl) (by kernel_rfl) rfl rfl (by decide) (Yl.rem rfl rfl rfl (fun _ => rfl) (by intro _; (try dsimp only) <;> omega) (by intro _; (try dsimp only) <;> omega)) (by (repeat (first | exact List.Sublist.refl _ | exact List.nil_sublist _ | apply List.Sublist.cons_cons | apply List.Sublist.cons)); done) (by first | exact RLe.refl _ | assumption) ?_
            refine WA.take 13 rfl (by kernel_rfl) (by kernel_rfl) (by kernel_rfl) rfl rfl (by decide) (pureV_ok tab_ok rfl (fun _ => rfl)) (by (repeat (first | exact List.Sublist.refl _ | exact List.nil_sublist _ | apply List.Sublist.cons_cons | apply List.Sublist.cons)); done) (by first | exact RLe.refl _ | assumption) ?_
            refine WA.take 14 rfl (by kernel_rfl) (by kernel_rfl) (by kernel_rfl) rfl rfl (by decide) (pureV_ok tab_ok rfl (fun _ => rfl)) (by (repeat (first | exact List.Sublist.refl _ | exact List.nil_sublist _ | apply List.Sublist.cons_cons | apply List.Sublist.cons)); done) (by first | exact RLe.refl _ | assumption) ?_
            first | refine WA.effN 15 rfl (by kernel_rfl) rfl rfl (Ef.store 0 tab_ok rfl rfl rfl rfl rfl rfl rfl rfl ?_) | refine WA.effN 15 rfl (by kernel_rfl) rfl rfl (Ef.store 1 tab_ok rfl rfl rfl rfl rfl rfl rfl rfl ?_) | refine WA.effN 15 rfl (by kernel_rfl) rfl rfl (Ef.store 2 tab_ok rfl rfl rfl rfl rfl rfl rfl rfl ?_) | refine WA.effN 15 rfl (by kernel_rfl) rfl rfl (Ef.store 3 tab_ok rfl rfl rfl rfl rfl rfl rfl rfl ?_) | refine WA.effN 15 rfl (by kernel_rfl) rfl rfl (Ef.store 4 tab_ok rfl rfl rfl rfl rfl rfl rfl rfl ?_)
            refine ⟨by first | exact RLe.refl _ | assumption, (by (repeat (first | exact List.Sublist.refl _ | exact List.nil_sublist _ | apply List.Sublist.cons_cons | apply List.Sublist.cons)); done), ?_⟩
            refine WA.take 16 rfl (by kernel_rfl) (by kernel_rfl) (by kernel_rfl) rfl rfl (by decide) (pureV_ok tab_ok rfl (fun _ => rfl)) (by (repeat (first | exact List.Sublist.refl _ | exact List.nil_sublist _ | apply List.Sublist.cons_cons | apply List.Sublist.cons)); done) (by first | exact RLe.refl _ | assumption) ?_
            refine WA.take 17 rfl (by kernel_rfl) (by kernel_rfl) (by kernel_rfl) rfl rfl (by decide) (pureV_ok tab_ok rfl (fun _ => rfl)) (by (repeat (first | exact List.Sublist.refl _ | exact List.nil_sublist _ | apply List.Sublist.cons_cons | apply List.Sublist.cons)); done) (by first | exact RLe.refl _ | assumption) ?_
            first | refine WA.effN 18 rfl (by kernel_rfl) rfl rfl (Ef.store 0 tab_ok rfl rfl rfl rfl rfl rfl rfl rfl ?_) | refine WA.effN 18 rfl (by kernel_rfl) rfl rfl (Ef.store 1 tab_ok rfl rfl rfl rfl rfl rfl rfl rfl ?_) | refine WA.effN 18 rfl (by kernel_rfl) rfl rfl (Ef.store 2 tab_ok rfl rfl rfl rfl rfl rfl rfl rfl ?_) | refine WA.effN 18 rfl (by kernel_rfl) rfl rfl (Ef.store 3 tab_ok rfl rfl rfl rfl rfl rfl rfl rfl ?_) | refine WA.effN 18 rfl (by kernel_rfl) rfl rfl (Ef.store 4 tab_ok rfl rfl rfl rfl rfl rfl rfl rfl ?_)
            refine ⟨by first | exact RLe.refl _ | assumption, (by (repeat (first | exact List.Sublist.refl _ | exact List.nil_sublist _ | apply List.Sublist.cons_cons | apply List.Sublist.cons)); done), ?_⟩
            refine WA.done (by kernel_rfl) ?_
            refine WE.blk _ ?_
            refine WE.again ((k, (c + 1) % w.length, false, (grant (nextW ps ms) w c b d).set c 0)) (⟨h1, h4, h5⟩) (by dsimp only; omega) ⟨rfl, rfl, rfl⟩ (RLe.refl _) (by (repeat (first | exact List.Sublist.refl _ | exact List.nil_sublist _ | apply List.Sublist.cons_cons | apply List.Sublist.cons)); done)
        · try dsimp only at hc2
          have e0 : drop0 (nextW ps ms) c (grant (nextW ps ms) w c b d) = grant (nextW ps ms) w c b d := if_neg (by omega)
          rw [e0] at h1 h4 h5
          refine W.skip ?_
          refine WE.nxt ?_
          refine W.regionH _ (ES := []) mixed ?_
          refine WA.take 0 rfl (by kernel_rfl) (by kernel_rfl) (by kernel_rfl) rfl rfl (by decide) (pureV_ok tab_ok rfl (fun _ => rfl)) (by (repeat (first | exact List.Sublist.refl _ | exact List.nil_sublist _ | apply List.Sublist.cons_cons | apply List.Sublist.cons)); done) (by first | exact RLe.refl _ | assumption) ?_
          refine WA.take 1 rfl (by kernel_rfl) (by kernel_rfl) (by kernel_rfl) rfl rfl (by decide) (pureV_ok tab_ok rfl (fun _ => rfl)) (by (repeat (first | exact List.Sublist.refl _ | exact List.nil_sublist _ | apply List.Sublist.cons_cons | apply List.Sublist.cons)); done) (by first | exact RLe.refl _ | assumption) ?_
          refine WA.take 2 rfl (by kernel_rfl) (by kernel_rfl) (by kernel_rfl) rfl rfl (by decide) (pureV_ok tab_ok rfl (fun _ => rfl)) (by (repeat (first | exact List.Sublist.refl _ | exact List.nil_sublist _ | apply List.Sublist.cons_cons | apply List.Sublist.cons)); done) (by first | exact RLe.refl _ | assumption) ?_
          refine WA.take 3 rfl (by kernel_rfl) (by kernel_rfl) (by kernel_rfl) rfl rfl (by decide) (pureV_ok tab_ok rfl (fun _ => rfl)) (by (repeat (first | exact List.Sublist.refl _ | exact List.nil_sublist _ | apply List.Sublist.cons_cons | apply List.Sublist.cons)); done) (by first | exact RLe.refl _ | assumption) ?_
          refine WA.take 4 rfl (by kernel_rfl) (by kernel_rfl) (by kernel_rfl) rfl rfl (by decide) (pureV_ok tab_ok rfl (fun _ => rfl)) (by (repeat (first | exact List.Sublist.refl _ | exact List.nil_sublist _ | apply List.Sublist.cons_cons | apply List.Sublist.cons)); done) (by first | exact RLe.refl _ | assumption) ?_
          refine WA.take 7 rfl (by kernel_rfl) (by kernel_rfl) (by kernel_rfl) rfl rfl (by decide) (pureV_ok tab_ok rfl (fun _ => rfl)) (by (repeat (first | exact List.Sublist.refl _ | exact List.nil_sublist _ | apply List.Sublist.cons_cons | apply List.Sublist.cons)); done) (by first | exact RLe.refl _ | assumption) ?_
          refine WA.take 8 rfl (by kernel_rfl) (by kernel_rfl) (by kernel_rfl) rfl rfl (by decide) (pureV_ok tab_ok rfl (fun _ => rfl)) (by (repeat (first | exact List.Sublist.refl _ | exact List.nil_sublist _ | apply List.Sublist.cons_cons | apply List.Sublist.cons)); done) (by first | exact RLe.refl _ | assumption) ?_
          refine WA.take 9 rfl (by kernel_rfl) (by kernel_rfl) (by kernel_rfl) rfl rfl (by decide) (pureV_ok tab_ok rfl (fun _ => rfl)) (by (repeat (first | exact List.Sublist.refl _ | exact List.nil_sublist _ | apply List.Sublist.cons_cons | apply List.Sublist.cons)); done) (by first | exact RLe.refl _ | assumption) ?_
          refine WA.br2 (i := 5) (j := 10) (by kernel_rfl) ?_ ?_
          ·
            refine' WS.yl rfl rfl rfl (by decide) (Yl.load1 tab_ok rfl rfl rfl (fun _ => rfl) ?r15 rfl ?h15) (by (repeat (first | exact List.Sublist.refl _ | exact List.nil_sublist _ | apply List.Sublist.cons_cons | apply List.Sublist.cons)); done) (RLe.refl _) ?_
            case r15 => apply Rd.add; (first | exact Rd.blk 0 rfl | exact Rd.blk 1 rfl | exact Rd.blk 2 rfl | exact Rd.blk 3 rfl | exact Rd.blk 4 rfl | (apply RS.rdD; assumption; ((try dsimp only) <;> omega)) | exact Rd.slD 0 rfl (by (try dsimp only) <;> omega) | exact Rd.slD 1 rfl (by (try dsimp only) <;> omega) | exact Rd.slD 2 rfl (by (try dsimp only) <;> omega) | exact Rd.slD 3 rfl (by (try dsimp only) <;> omega) | exact Rd.slD 4 rfl (by (try dsimp only) <;> omega))
            case h15 => rfl
            refine WA.take 6 rfl (by kernel_rfl) (by kernel_rfl) (by kernel_rfl) rfl rfl (by decide) (Yl.add rfl rfl rfl (fun _ => rfl) (by intro _; constructor <;> (try dsimp only) <;> omega)) (by (repeat (first | exact List.Sublist.refl _ | exact List.nil_sublist _ | apply List.Sublist.cons_cons | apply List.Sublist.cons)); done) (by first | exact RLe.refl _ | assumption) ?_
            refine' WA.yl 10 rfl (by kernel_rfl) rfl rfl (by decide) (Yl.load1 tab_ok rfl rfl rfl (fun _ => rfl) ?r16 rfl ?h16) (by (repeat (first | exact List.Sublist.refl _ | exact List.nil_sublist _ | apply List.Sublist.cons_cons | apply List.Sublist.cons)); done) (RLe.refl _) ?_
            case r16 => apply Rd.add; (first | exact Rd.blk 0 rfl | exact Rd.blk 1 rfl | exact Rd.blk 2 rfl | exact Rd.blk 3 rfl | exact Rd.blk 4 rfl | (apply RS.rdD; assumption; ((try dsimp only) <;> omega)) | exact Rd.slD 0 rfl (by (try dsimp only) <;> omega) | exact Rd.slD 1 rfl (by (try dsimp only) <;> omega) | exact Rd.slD 2 rfl (by (try dsimp only) <;> omega) | exact Rd.slD 3 rfl (by (try dsimp only) <;> omega) | exact Rd.slD 4 rfl (by (try dsimp only) <;> omega))
            case h16 => rfl
            refine WA.take 11 rfl (by kernel_rfl) (by kernel_rfl) (by kernel_rfl) rfl rfl (by decide) (pureV_ok tab_ok rfl (fun _ => rfl)) (by (repeat (first | exact List.Sublist.refl _ | exact List.nil_sublist _ | apply List.Sublist.cons_cons | apply List.Sublist.cons)); done) (by first | exact RLe.refl _ | assumption) ?_
            refine WA.take 12 rfl (by kernel_rfl) (by kernel_rfl) (by kernel_rfl) rfl rfl (by decide) (Yl.rem rfl rfl rfl (fun _ => rfl) (by intro _; (try dsimp only) <;> omega) (by intro _; (try dsimp only) <;> omega)) (by (repeat (first | exact List.Sublist.refl _ | exact List.nil_sublist _ | apply List.Sublist.cons_cons | apply List.Sublist.cons)); done) (by first | exact RLe.refl _ | assumption) ?_
            refine WA.take 13 rfl (by kernel_rfl) (by kernel_rfl) (by kernel_rfl) rfl rfl (by decide) (pureV_ok tab_ok rfl (fun _ => rfl)) (by (repeat (first | exact List.Sublist.refl _ | exact List.nil_sublist _ | apply List.Sublist.cons_cons | apply List.Sublist.cons)); done) (by first | exact RLe.refl _ | assumption) ?_
            refine WA.take 14 rfl (by kernel_rfl) (by kernel_rfl) (by kernel_rfl) rfl rfl (by decide) (pureV_ok tab_ok rfl (fun _ => rfl)) (by (repeat (first | exact List.Sublist.refl _ | exact List.nil_sublist _ | apply List.Sublist.cons_cons | apply List.Sublist.cons)); done) (by first | exact RLe.refl _ | assumption) ?_
            first | refine WA.effN 15 rfl (by kernel_rfl) rfl rfl (Ef.store 0 tab_ok rfl rfl rfl rfl rfl rfl rfl rfl ?_) | refine WA.effN 15 rfl (by kernel_rfl) rfl rfl (Ef.store 1 tab_ok rfl rfl rfl rfl rfl rfl rfl rfl ?_) | refine WA.effN 15 rfl (by kernel_rfl) rfl rfl (Ef.store 2 tab_ok rfl rfl rfl rfl rfl rfl rfl rfl ?_) | refine WA.effN 15 rfl (by kernel_rfl) rfl rfl (Ef.store 3 tab_ok rfl rfl rfl rfl rfl rfl rfl rfl ?_) | refine WA.effN 15 rfl (by kernel_rfl) rfl rfl (Ef.store 4 tab_ok rfl rfl rfl rfl rfl rfl rfl rfl ?_)
            refine ⟨by first | exact RLe.refl _ | assumption, (by (repeat (first | exact List.Sublist.refl _ | exact List.nil_sublist _ | apply List.Sublist.cons_cons | apply List.Sublist.cons)); done), ?_⟩
            refine WA.take 16 rfl (by kernel_rfl) (by kernel_rfl) (by kernel_rfl) rfl rfl (by decide) (pureV_ok tab_ok rfl (fun _ => rfl)) (by (repeat (first | exact List.Sublist.refl _ | exact List.nil_sublist _ | apply List.Sublist.cons_cons | apply List.Sublist.cons)); done) (by first | exact RLe.refl _ | assumption) ?_
            refine WA.take 17 rfl (by kernel_rfl) (by kernel_rfl) (by kernel_rfl) rfl rfl (by decide) (pureV_ok tab_ok rfl (fun _ => rfl)) (by (repeat (first | exact List.Sublist.refl _ | exact List.nil_sublist _ | apply List.Sublist.cons_cons | apply List.Sublist.cons)); done) (by first | exact RLe.refl _ | assumption) ?_
            first | refine WA.effN 18 rfl (by kernel_rfl) rfl rfl (Ef.store 0 tab_ok rfl rfl rfl rfl rfl rfl rfl rfl ?_) | refine WA.effN 18 rfl (by kernel_rfl) rfl rfl (Ef.store 1 tab_ok rfl rfl rfl rfl rfl rfl rfl rfl ?_) | refine WA.effN 18 rfl (by kernel_rfl) rfl rfl (Ef.store 2 tab_ok rfl rfl rfl rfl rfl rfl rfl rfl ?_) | refine WA.effN 18 rfl (by kernel_rfl) rfl rfl (Ef.store 3 tab_ok rfl rfl rfl rfl rfl rfl rfl rfl ?_) | refine WA.effN 18 rfl (by kernel_rfl) rfl rfl (Ef.store 4 tab_ok rfl rfl rfl rfl rfl rfl rfl rfl ?_)
            refine ⟨by first | exact RLe.refl _ | assumption, (by (repeat (first | exact List.Sublist.refl _ | exact List.nil_sublist _ | apply List.Sublist.cons_cons | apply List.Sublist.cons)); done), ?_⟩
            refine WA.done (by kernel_rfl) ?_
            refine WE.blk _ ?_
            refine WE.again ((k, (c + 1) % w.length, false, grant (nextW ps ms) w c b d)) (⟨h1, h4, h5⟩) (by dsimp only; omega) ⟨rfl, rfl, rfl⟩ (RLe.refl _) (by (repeat (first | exact List.Sublist.refl _ | exact List.nil_sublist _ | apply List.Sublist.cons_cons | apply List.Sublist.cons)); done)
          ·
            refine' WS.yl rfl rfl rfl (by decide) (Yl.load1 tab_ok rfl rfl rfl (fun _ => rfl) ?r17 rfl ?h17) (by (repeat (first | exact List.Sublist.refl _ | exact List.nil_sublist _ | apply List.Sublist.cons_cons | apply List.Sublist.cons)); done) (RLe.refl _) ?_
            case r17 => apply Rd.add; (first | exact Rd.blk 0 rfl | exact Rd.blk 1 rfl | exact Rd.blk 2 rfl | exact Rd.blk 3 rfl | exact Rd.blk 4 rfl | (apply RS.rdD; assumption; ((try dsimp only) <;> omega)) | exact Rd.slD 0 rfl (by (try dsimp only) <;> omega) | exact Rd.slD 1 rfl (by (try dsimp only) <;> omega) | exact Rd.slD 2 rfl (by (try dsimp only) <;> omega) | exact Rd.slD 3 rfl (by (try dsimp only) <;> omega) | exact Rd.slD 4 rfl (by (try dsimp only) <;> omega))
            case h17 => rfl
            refine WA.take 11 rfl (by kernel_rfl) (by kernel_rfl) (by kernel_rfl) rfl rfl (by decide) (pureV_ok tab_ok rfl (fun _ => rfl)) (by (repeat (first | exact List.Sublist.refl _ | exact List.nil_sublist _ | apply List.Sublist.cons_cons | apply List.Sublist.cons)); done) (by first | exact RLe.refl _ | assumption) ?_
            refine' WA.yl 5 rfl (by kernel_rfl) rfl rfl (by decide) (Yl.load1 tab_ok rfl rfl rfl (fun _ => rfl) ?r18 rfl ?h18) (by (repeat (first | exact List.Sublist.refl _ | exact List.nil_sublist _ | apply List.Sublist.cons_cons | apply List.Sublist.cons)); done) (RLe.refl _) ?_
            case r18 => apply Rd.add; (first | exact Rd.blk 0 rfl | exact Rd.blk 1 rfl | exact Rd.blk 2 rfl | exact Rd.blk 3 rfl | exact Rd.blk 4 rfl | (apply RS.rdD; assumption; ((try dsimp only) <;> omega)) | exact Rd.slD 0 rfl (by (try dsimp only) <;> omega) | exact Rd.slD 1 rfl (by (try dsimp only) <;> omega) | exact Rd.slD 2 rfl (by (try dsimp only) <;> omega) | exact Rd.slD 3 rfl (by (try dsimp only) <;> omega) | exact Rd.slD 4 rfl (by (try dsimp only) <;> omega))
            case h18 => rfl
            refine WA.take 6 rfl (by kernel_rfl) (by kernel_rfl) (by kernel_rfl) rfl rfl (by decide) (Yl.add rfl rfl rfl (fun _ => rfl) (by intro _; constructor <;> (try dsimp only) <;> omega)) (by (repeat (first | exact List.Sublist.refl _ | exact List.nil_sublist _ | apply List.Sublist.cons_cons | apply List.Sublist.cons)); done) (by first | exact RLe.refl _ | assumption) ?_
            refine WA.take 12 rfl (by kernel_rfl) (by kernel_rfl) (by kernel_rfl) rfl rfl (by decide) (Yl.rem rfl rfl rfl (fun _ => rfl) (by intro _; (try dsimp only) <;> omega) (by intro _; (try dsimp only) <;> omega)) (by (repeat (first | exact List.Sublist.refl _ | exact List.nil_sublist _ | apply List.Sublist.cons_cons | apply List.Sublist.cons)); done) (by first | exact RLe.refl _ | assumption) ?_
            refine WA.take 13 rfl (by kernel_rfl) (by kernel_rfl) (by kernel_rfl) rfl rfl (by decide) (pureV_ok tab_ok rfl (fun _ => rfl)) (by (repeat (first | exact List.Sublist.refl _ | exact List.nil_sublist _ | apply List.Sublist.cons_cons | apply List.Sublist.cons)); done) (by first | exact RLe.refl _ | assumption) ?_
            refine WA.take 14 rfl (by kernel_rfl) (by kernel_rfl) (by kernel_rfl) rfl rfl (by decide) (pureV_ok tab_ok rfl (fun _ => rfl)) (by (repeat (first | exact List.Sublist.refl _ | exact List.nil_sublist _ | apply List.Sublist.cons_cons | apply List.Sublist.cons)); done) (by first | exact RLe.refl _ | assumption) ?_
            first | refine WA.effN 15 rfl (by kernel_rfl) rfl rfl (Ef.store 0 tab_ok rfl rfl rfl rfl rfl rfl rfl rfl ?_) | refine WA.effN 15 rfl (by kernel_rfl) rfl rfl (Ef.store 1 tab_ok rfl rfl rfl rfl rfl rfl rfl rfl ?_) | refine WA.effN 15 rfl (by kernel_rfl) rfl rfl (Ef.store 2 tab_ok rfl rfl rfl rfl rfl rfl rfl rfl ?_) | refine WA.effN 15 rfl (by kernel_rfl) rfl rfl (Ef.store 3 tab_ok rfl rfl rfl rfl rfl rfl rfl rfl ?_) | refine WA.effN 15 rfl (by kernel_rfl) rfl rfl (Ef.store 4 tab_ok rfl rfl rfl rfl rfl rfl rfl rfl ?_)
            refine ⟨by first | exact RLe.refl _ | assumption, (by (repeat (first | exact List.Sublist.refl _ | exact List.nil_sublist _ | apply List.Sublist.cons_cons | apply List.Sublist.cons)); done), ?_⟩
            refine WA.take 16 rfl (by kernel_rfl) (by kernel_rfl) (by kernel_rfl) rfl rfl (by decide) (pureV_ok tab_ok rfl (fun _ => rfl)) (by (repeat (first | exact List.Sublist.refl _ | exact List.nil_sublist _ | apply List.Sublist.cons_cons | apply List.Sublist.cons)); done) (by first | exact RLe.refl _ | assumption) ?_
            refine WA.take 17 rfl (by kernel_rfl) (by kernel_rfl) (by kernel_rfl) rfl rfl (by decide) (pureV_ok tab_ok rfl (fun _ => rfl)) (by (repeat (first | exact List.Sublist.refl _ | exact List.nil_sublist _ | apply List.Sublist.cons_cons | apply List.Sublist.cons)); done) (by first | exact RLe.refl _ | assumption) ?_
            first | refine WA.effN 18 rfl (by kernel_rfl) rfl rfl (Ef.store 0 tab_ok rfl rfl rfl rfl rfl rfl rfl rfl ?_) | refine WA.effN 18 rfl (by kernel_rfl) rfl rfl (Ef.store 1 tab_ok rfl rfl rfl rfl rfl rfl rfl rfl ?_) | refine WA.effN 18 rfl (by kernel_rfl) rfl rfl (Ef.store 2 tab_ok rfl rfl rfl rfl rfl rfl rfl rfl ?_) | refine WA.effN 18 rfl (by kernel_rfl) rfl rfl (Ef.store 3 tab_ok rfl rfl rfl rfl rfl rfl rfl rfl ?_) | refine WA.effN 18 rfl (by kernel_rfl) rfl rfl (Ef.store 4 tab_ok rfl rfl rfl rfl rfl rfl rfl rfl ?_)
            refine ⟨by first | exact RLe.refl _ | assumption, (by (repeat (first | exact List.Sublist.refl _ | exact List.nil_sublist _ | apply List.Sublist.cons_cons | apply List.Sublist.cons)); done), ?_⟩
            refine WA.done (by kernel_rfl) ?_
            refine WE.blk _ ?_
            refine WE.again ((k, (c + 1) % w.length, false, grant (nextW ps ms) w c b d)) (⟨h1, h4, h5⟩) (by dsimp only; omega) ⟨rfl, rfl, rfl⟩ (RLe.refl _) (by (repeat (first | exact List.Sublist.refl _ | exact List.nil_sublist _ | apply List.Sublist.cons_cons | apply List.Sublist.cons)); done)
    ·
      refine W.seq ?_
      refine W.region _ ?_
      refine WG.run tab_ok 3 rfl ?_
      refine WG.y rfl rfl (by decide) (pureV_ok tab_ok rfl (by first | exact fun _ => rfl | exact fun h => h | (intro h; simp_all))) ?_
      refine WG.y rfl rfl (by decide) (pureV_ok tab_ok rfl (by first | exact fun _ => rfl | exact fun h => h | (intro h; simp_all))) ?_
      refine WG.y rfl rfl (by decide) (pureV_ok tab_ok rfl (by first | exact fun _ => rfl | exact fun h => h | (intro h; simp_all))) ?_
      refine' WG.y rfl rfl (by decide) (Yl.loadG tab_ok rfl rfl rfl (by first | exact fun _ => rfl | exact fun h => h | (intro h; simp_all)) ?r19 rfl ?h19 ?g19) ?_
      case r19 => apply Rd.addC; (first | exact Rd.blkC 0 rfl | exact Rd.blkC 1 rfl | exact Rd.blkC 2 rfl | exact Rd.blkC 3 rfl | exact Rd.blkC 4 rfl | (apply RS.rdC; assumption) | exact Rd.slC 0 rfl | exact Rd.slC 1 rfl | exact Rd.slC 2 rfl | exact Rd.slC 3 rfl | exact Rd.slC 4 rfl)
      case h19 => rfl
      case g19 => first | exact fun _ => trivial | (intro hg; (try simp only [decide_eq_true_eq, decide_eq_false_iff_not, beq_iff_eq, bne_iff_ne, beq_eq_false_iff_ne, bne_eq_false_iff_eq, ne_eq, Bool.or_eq_true, Bool.or_eq_false_iff, Bool.and_eq_true, Bool.and_eq_false_imp, Bool.not_eq_true, Bool.not_eq_true', Bool.not_eq_false', Classical.not_not, Int.not_lt, Int.not_le, gt_iff_lt, ge_iff_le] at hg); (try dsimp only); omega)
      refine WG.y rfl rfl (by decide) (pureV_ok tab_ok rfl (by first | exact fun _ => rfl | exact fun h => h | (intro h; simp_all))) ?_
      refine WG.y rfl rfl (by decide) (Yl.pand rfl rfl rfl (fun _ => rfl) (by intro h1 h2; simp_all <;> omega)) ?_
      refine WG.nil ?_
      refine WE.nxt ?_
      refine W.cond rfl (fun hc3 => ?_) (fun hc3 => ?_)
      · try simp only [decide_eq_true_eq, decide_eq_false_iff_not, beq_iff_eq, bne_iff_ne, beq_eq_false_iff_ne, bne_eq_false_iff_eq, ne_eq, Bool.or_eq_true, Bool.or_eq_false_iff, Bool.and_eq_true, Bool.and_eq_false_imp, Bool.not_eq_true, Bool.not_eq_true', Bool.not_eq_false', Classical.not_not, Int.not_lt, Int.not_le, gt_iff_lt, ge_iff_le] at hc3
        have eg : grant (nextW ps ms) w c b d = d.set c (nth d c + nth w c) := if_pos hc3
        have hwc := hw _ (nth_mem h3.1)
        have hdc := h3.2.2 c h3.1
        refine W.seq ?_
        refine W.region _ ?_
        refine WG.run tab_ok 3 rfl ?_
        first | refine WL.efN rfl rfl (Ef.store 0 tab_ok rfl rfl rfl rfl rfl rfl rfl rfl ?_) | refine WL.efN rfl rfl (Ef.store 1 tab_ok rfl rfl rfl rfl rfl rfl rfl rfl ?_) | refine WL.efN rfl rfl (Ef.store 2 tab_ok rfl rfl rfl rfl rfl rfl rfl rfl ?_) | refine WL.efN rfl rfl (Ef.store 3 tab_ok rfl rfl rfl rfl rfl rfl rfl rfl ?_) | refine WL.efN rfl rfl (Ef.store 4 tab_ok rfl rfl rfl rfl rfl rfl rfl rfl ?_)
        refine WG.nil ?_
        refine WE.nxt ?_
        refine W.regionH _ (ES := [.blk bv [.slice wa w.length wc, .slice (some ⟨bd, 0, none⟩) w.length w.length, .int .i64 (c : Int), .bool true]]) mixed ?_
        refine WA.take 0 rfl (by kernel_rfl) (by kernel_rfl) (by kernel_rfl) rfl rfl (by decide) (pureV_ok tab_ok rfl (fun _ => rfl)) (by (repeat (first | exact List.Sublist.refl _ | exact List.nil_sublist _ | apply List.Sublist.cons_cons | apply List.Sublist.cons)); done) (by first | exact RLe.refl _ | assumption) ?_
        refine WA.take 1 rfl (by kernel_rfl) (by kernel_rfl) (by kernel_rfl) rfl rfl (by decide) (pureV_ok tab_ok rfl (fun _ => rfl)) (by (repeat (first | exact List.Sublist.refl _ | exact List.nil_sublist _ | apply List.Sublist.cons_cons | apply List.Sublist.cons)); done) (by first | exact RLe.refl _ | assumption) ?_
        refine WA.take 2 rfl (by kernel_rfl) (by kernel_rfl) (by kernel_rfl) rfl rfl (by decide) (pureV_ok tab_ok rfl (fun _ => rfl)) (by (repeat (first | exact List.Sublist.refl _ | exact List.nil_sublist _ | apply List.Sublist.cons_cons | apply List.Sublist.cons)); done) (by first | exact RLe.refl _ | assumption) ?_
        refine' WA.take 3 rfl (by kernel_rfl) (by kernel_rfl) (by kernel_rfl) rfl rfl (by decide) (Yl.load1 tab_ok rfl rfl rfl (fun _ => rfl) ?r20 rfl ?h20) (by (repeat (first | exact List.Sublist.refl _ | exact List.nil_sublist _ | apply List.Sublist.cons_cons | apply List.Sublist.cons)); done) (by first | exact RLe.refl _ | assumption) ?_
        case r20 => apply Rd.add; (first | exact Rd.blk 0 rfl | exact Rd.blk 1 rfl | exact Rd.blk 2 rfl | exact Rd.blk 3 rfl | exact Rd.blk 4 rfl | (apply RS.rdD; assumption; ((try dsimp only) <;> omega)) | exact Rd.slD 0 rfl (by (try dsimp only) <;> omega) | exact Rd.slD 1 rfl (by (try dsimp only) <;> omega) | exact Rd.slD 2 rfl (by (try dsimp only) <;> omega) | exact Rd.slD 3 rfl (by (try dsimp only) <;> omega) | exact Rd.slD 4 rfl (by (try dsimp only) <;> omega))
        case h20 => rfl
        refine WA.take 4 rfl (by kernel_rfl) (by kernel_rfl) (by kernel_rfl) rfl rfl (by decide) (pureV_ok tab_ok rfl (fun _ => rfl)) (by (repeat (first | exact List.Sublist.refl _ | exact List.nil_sublist _ | apply List.Sublist.cons_cons | apply List.Sublist.cons)); done) (by first | exact RLe.refl _ | assumption) ?_
        refine WA.take 5 rfl (by kernel_rfl) (by kernel_rfl) (by kernel_rfl) rfl rfl (by decide) (pureV_ok tab_ok rfl (fun _ => rfl)) (by (repeat (first | exact List.Sublist.refl _ | exact List.nil_sublist _ | apply List.Sublist.cons_cons | apply List.Sublist.cons)); done) (by first | exact RLe.refl _ | assumption) ?_
        refine WA.take 6 rfl (by kernel_rfl) (by kernel_rfl) (by kernel_rfl) rfl rfl (by decide) (pureV_ok tab_ok rfl (fun _ => rfl)) (by (repeat (first | exact List.Sublist.refl _ | exact List.nil_sublist _ | apply List.Sublist.cons_cons | apply List.Sublist.cons)); done) (by first | exact RLe.refl _ | assumption) ?_
        refine' WA.take 7 rfl (by kernel_rfl) (by kernel_rfl) (by kernel_rfl) rfl rfl (by decide) (Yl.load1 tab_ok rfl rfl rfl (fun _ => rfl) ?r21 rfl ?h21) (by (repeat (first | exact List.Sublist.refl _ | exact List.nil_sublist _ | apply List.Sublist.cons_cons | apply List.Sublist.cons)); done) (by first | exact RLe.refl _ | assumption) ?_
        case r21 => apply Rd.add; (first | exact Rd.blk 0 rfl | exact Rd.blk 1 rfl | exact Rd.blk 2 rfl | exact Rd.blk 3 rfl | exact Rd.blk 4 rfl | (apply RS.rdD; assumption; ((try dsimp only) <;> omega)) | exact Rd.slD 0 rfl (by (try dsimp only) <;> omega) | exact Rd.slD 1 rfl (by (try dsimp only) <;> omega) | exact Rd.slD 2 rfl (by (try dsimp only) <;> omega) | exact Rd.slD 3 rfl (by (try dsimp only) <;> omega) | exact Rd.slD 4 rfl (by (try dsimp only) <;> omega))
        case h21 => rfl
        refine WA.take 8 rfl (by kernel_rfl) (by kernel_rfl) (by kernel_rfl) rfl rfl (by decide) (Yl.indexN tab_ok rfl rfl rfl rfl rfl rfl (fun _ => rfl) (by intro _; (try dsimp only) <;> omega) (by intro _; first | exact fun _ _ _ _ => rfl | exact RS.has (by assumption) | exact fun _ _ _ _ => (by assumption) | exact HasMem.ownD 0 rfl | exact HasMem.ownD 1 rfl | exact HasMem.ownD 2 rfl | exact HasMem.ownD 3 rfl | exact HasMem.ownD 4 rfl)) (by (repeat (first | exact List.Sublist.refl _ | exact List.nil_sublist _ | apply List.Sublist.cons_cons | apply List.Sublist.cons)); done) (by first | exact RLe.refl _ | assumption) ?_
        refine WA.take 10 rfl (by kernel_rfl) (by kernel_rfl) (by kernel_rfl) rfl rfl (by decide) (pureV_ok tab_ok rfl (fun _ => rfl)) (by (repeat (first | exact List.Sublist.refl _ | exact List.nil_sublist _ | apply List.Sublist.cons_cons | apply List.Sublist.cons)); done) (by first | exact RLe.refl _ | assumption) ?_
        refine WA.take 11 rfl (by kernel_rfl) (by kernel_rfl) (by kernel_rfl) rfl rfl (by decide) (pureV_ok tab_ok rfl (fun _ => rfl)) (by (repeat (first | exact List.Sublist.refl _ | exact List.nil_sublist _ | apply List.Sublist.cons_cons | apply List.Sublist.cons)); done) (by first | exact RLe.refl _ | assumption) ?_
        refine WA.take 12 rfl (by kernel_rfl) (by kernel_rfl) (by kernel_rfl) rfl rfl (by decide) (pureV_ok tab_ok rfl (fun _ => rfl)) (by (repeat (first | exact List.Sublist.refl _ | exact List.nil_sublist _ | apply List.Sublist.cons_cons | apply List.Sublist.cons)); done) (by first | exact RLe.refl _ | assumption) ?_
        refine' WA.take 13 rfl (by kernel_rfl) (by kernel_rfl) (by kernel_rfl) rfl rfl (by decide) (Yl.load1 tab_ok rfl rfl rfl (fun _ => rfl) ?r22 rfl ?h22) (by (repeat (first | exact List.Sublist.refl _ | exact List.nil_sublist _ | apply List.Sublist.cons_cons | apply List.Sublist.cons)); done) (by first | exact RLe.refl _ | assumption) ?_
        case r22 => apply Rd.add; (first | exact Rd.blk 0 rfl | exact Rd.blk 1 rfl | exact Rd.blk 2 rfl | exact Rd.blk 3 rfl | exact Rd.blk 4 rfl | (apply RS.rdD; assumption; ((try dsimp only) <;> omega)) | exact Rd.slD 0 rfl (by (try dsimp only) <;> omega) | exact Rd.slD 1 rfl (by (try dsimp only) <;> omega) | exact Rd.slD 2 rfl (by (try dsimp only) <;> omega) | exact Rd.slD 3 rfl (by (try dsimp only) <;> omega) | exact Rd.slD 4 rfl (by (try dsimp only) <;> omega))
        case h22 => rfl
        refine WA.take 14 rfl (by kernel_rfl) (by kernel_rfl) (by kernel_rfl) rfl rfl (by decide) (pureV_ok tab_ok rfl (fun _ => rfl)) (by (repeat (first | exact List.Sublist.refl _ | exact List.nil_sublist _ | apply List.Sublist.cons_cons | apply List.Sublist.cons)); done) (by first | exact RLe.refl _ | assumption) ?_
        refine WA.take 15 rfl (by kernel_rfl) (by kernel_rfl) (by kernel_rfl) rfl rfl (by decide) (pureV_ok tab_ok rfl (fun _ => rfl)) (by (repeat (first | exact List.Sublist.refl _ | exact List.nil_sublist _ | apply List.Sublist.cons_cons | apply List.Sublist.cons)); done) (by first | exact RLe.refl _ | assumption) ?_
        refine WA.take 16 rfl (by kernel_rfl) (by kernel_rfl) (by kernel_rfl) rfl rfl (by decide) (pureV_ok tab_ok rfl (fun _ => rfl)) (by (repeat (first | exact List.Sublist.refl _ | exact List.nil_sublist _ | apply List.Sublist.cons_cons | apply List.Sublist.cons)); done) (by first | exact RLe.refl _ | assumption) ?_
        refine' WA.take 17 rfl (by kernel_rfl) (by kernel_rfl) (by kernel_rfl) rfl rfl (by decide) (Yl.load1 tab_ok rfl rfl rfl (fun _ => rfl) ?r23 rfl ?h23) (by (repeat (first | exact List.Sublist.refl _ | exact List.nil_sublist _ | apply List.Sublist.cons_cons | apply List.Sublist.cons)); done) (by first | exact RLe.refl _ | assumption) ?_
        case r23 => apply Rd.add; (first | exact Rd.blk 0 rfl | exact Rd.blk 1 rfl | exact Rd.blk 2 rfl | exact Rd.blk 3 rfl | exact Rd.blk 4 rfl | (apply RS.rdD; assumption; ((try dsimp only) <;> omega)) | exact Rd.slD 0 rfl (by (try dsimp only) <;> omega) | exact Rd.slD 1 rfl (by (try dsimp only) <;> omega) | exact Rd.slD 2 rfl (by (try dsimp only) <;> omega) | exact Rd.slD 3 rfl (by (try dsimp only) <;> omega) | exact Rd.slD 4 rfl (by (try dsimp only) <;> omega))
        case h23 => rfl
        refine WA.take 18 rfl (by kernel_rfl) (by kernel_rfl) (by kernel_rfl) rfl rfl (by decide) (Yl.indexN tab_ok rfl rfl rfl rfl rfl rfl (fun _ => rfl) (by intro _; (try dsimp only) <;> omega) (by intro _; first | exact fun _ _ _ _ => rfl | exact RS.has (by assumption) | exact fun _ _ _ _ => (by assumption) | exact HasMem.ownD 0 rfl | exact HasMem.ownD 1 rfl | exact HasMem.ownD 2 rfl | exact HasMem.ownD 3 rfl | exact HasMem.ownD 4 rfl)) (by (repeat (first | exact List.Sublist.refl _ | exact List.nil_sublist _ | apply List.Sublist.cons_cons | apply List.Sublist.cons)); done) (by first | exact RLe.refl _ | assumption) ?_
        refine' WA.take 19 rfl (by kernel_rfl) (by kernel_rfl) (by kernel_rfl) rfl rfl (by decide) (Yl.load1 tab_ok rfl rfl rfl (fun _ => rfl) ?r24 rfl ?h24) (by (repeat (first | exact List.Sublist.refl _ | exact List.nil_sublist _ | apply List.Sublist.cons_cons | apply List.Sublist.cons)); done) (by first | exact RLe.refl _ | assumption) ?_
        case r24 => (first | (apply RS.rdD; assumption; ((try dsimp only) <;> omega)) | exact Rd.slD 0 rfl (by (try dsimp only) <;> omega) | exact Rd.slD 1 rfl (by (try dsimp only) <;> omega) | exact Rd.slD 2 rfl (by (try dsimp only) <;> omega) | exact Rd.slD 3 rfl (by (try dsimp only) <;> omega) | exact Rd.slD 4 rfl (by (try dsimp only) <;> omega))
        case h24 => rfl
        refine' WA.yl 9 rfl (by kernel_rfl) rfl rfl (by decide) (Yl.load1 tab_ok rfl rfl rfl (fun _ => rfl) ?r25 rfl ?h25) (by (repeat (first | exact List.Sublist.refl _ | exact List.nil_sublist _ | apply List.Sublist.cons_cons | apply List.Sublist.cons)); done) (RLe.refl _) ?_
        case r25 => (first | (apply RS.rdD; assumption; ((try dsimp only) <;> omega)) | exact Rd.slD 0 rfl (by (try dsimp only) <;> omega) | exact Rd.slD 1 rfl (by (try dsimp only) <;> omega) | exact Rd.slD 2 rfl (by (try dsimp only) <;> omega) | exact Rd.slD 3 rfl (by (try dsimp only) <;> omega) | exact Rd.slD 4 rfl (by (try dsimp only) <;> omega))
        case h25 => rfl
        refine WA.take 20 rfl (by kernel_rfl) (by kernel_rfl) (by kernel_rfl) rfl rfl (by decide) (Yl.add rfl rfl rfl (fun _ => rfl) (by intro _; constructor <;> (try dsimp only) <;> omega)) (by (repeat (first | exact List.Sublist.refl _ | exact List.nil_sublist _ | apply List.Sublist.cons_cons | apply List.Sublist.cons)); done) (by first | exact RLe.refl _ | assumption) ?_
        refine WA.take 21 rfl (by kernel_rfl) (by kernel_rfl) (by kernel_rfl) rfl rfl (by decide) (Yl.indexN tab_ok rfl rfl rfl rfl rfl rfl (fun _ => rfl) (by intro _; (try dsimp only) <;> omega) (by intro _; first | exact fun _ _ _ _ => rfl | exact RS.has (by assumption) | exact fun _ _ _ _ => (by assumption) | exact HasMem.ownD 0 rfl | exact HasMem.ownD 1 rfl | exact HasMem.ownD 2 rfl | exact HasMem.ownD 3 rfl | exact HasMem.ownD 4 rfl)) (by (repeat (first | exact List.Sublist.refl _ | exact List.nil_sublist _ | apply List.Sublist.cons_cons | apply List.Sublist.cons)); done) (by first | exact RLe.refl _ | assumption) ?_
        first | refine WA.effN 22 rfl (by kernel_rfl) rfl rfl (Ef.storeD _ 0 tab_ok rfl rfl rfl rfl rfl (by (try dsimp only) <;> omega) rfl rfl rfl rfl ?_) | refine WA.effN 22 rfl (by kernel_rfl) rfl rfl (Ef.storeD _ 1 tab_ok rfl rfl rfl rfl rfl (by (try dsimp only) <;> omega) rfl rfl rfl rfl ?_) | refine WA.effN 22 rfl (by kernel_rfl) rfl rfl (Ef.storeD _ 2 tab_ok rfl rfl rfl rfl rfl (by (try dsimp only) <;> omega) rfl rfl rfl rfl ?_) | refine WA.effN 22 rfl (by kernel_rfl) rfl rfl (Ef.storeD _ 3 tab_ok rfl rfl rfl rfl rfl (by (try dsimp only) <;> omega) rfl rfl rfl rfl ?_) | refine WA.effN 22 rfl (by kernel_rfl) rfl rfl (Ef.storeD _ 4 tab_ok rfl rfl rfl rfl rfl (by (try dsimp only) <;> omega) rfl rfl rfl rfl ?_)
        refine ⟨by first | exact RLe.refl _ | assumption, (by (repeat (first | exact List.Sublist.refl _ | exact List.nil_sublist _ | apply List.Sublist.cons_cons | apply List.Sublist.cons)); done), ?_⟩
        refine WA.done (by kernel_rfl) ?_
        refine WE.cut (true, d.set c (nth d c + nth w c)) ⟨by rw [eg], (if_pos (show 0 ≤ nextW ps ms c from hc3.1)).symm⟩ ⟨rfl, rfl, rfl, rfl⟩ (RLe.refl _) (by (repeat (first | exact List.Sublist.refl _ | exact List.nil_sublist _ | apply List.Sublist.cons_cons | apply List.Sublist.cons)); done)
      · try simp only [decide_eq_true_eq, decide_eq_false_iff_not, beq_iff_eq, bne_iff_ne, beq_eq_false_iff_ne, bne_eq_false_iff_eq, ne_eq, Bool.or_eq_true, Bool.or_eq_false_iff, Bool.and_eq_true, Bool.and_eq_false_imp, Bool.not_eq_true, Bool.not_eq_true', Bool.not_eq_false', Classical.not_not, Int.not_lt, Int.not_le, gt_iff_lt, ge_iff_le] at hc3
        have eg : grant (nextW ps ms) w c b d = d := if_neg (by rintro ⟨x1, x2⟩; have := hc3 x1; simp_all)
        refine W.skip ?_
        refine WE.cut (b, d) ⟨by rw [eg], by split; have := hc3 (by assumption); simp_all; rfl⟩ ⟨rfl, rfl, rfl, rfl⟩ (RLe.refl _) (by (repeat (first | exact List.Sublist.refl _ | exact List.nil_sublist _ | apply List.Sublist.cons_cons | apply List.Sublist.cons)); done)

end Go.Proofs.Ytcfnckccmkjjlaa

/- Chapter 20: runs of deficit round robin. No condition. -/
set_option linter.unusedSimpArgs false
set_option linter.unusedVariables false
namespace Go.Proofs.Ytcfnckccmkjjlaa
open Go Go.RowKit Go.Proofs.Ytcfnckccmkjjlaa.K Go.Proofs.Ytcfnckccmkjjlaa.M

theorem Def_ok {R : Ro} {pa wa : Option Addr} {pc wc : Nat} {ps : List Pkt} {w : List Int} (hp : RS R 3 encP pa ps) (hwr : RS R 1 encI wa w) {cap : Int} {ticks : Nat} (w0 : World) (hok0 : wrunE 6000 cap ticks w ps = 0) (E : List Ent) :
    K.Fn Try.prog 44 [.int .i64 cap, .slice wa w.length wc, .slice pa ps.length pc, .int .i64 ticks] w0 R E
      (fun v R' E' => ∃ (rows : List Sl) (gd go : Nat) (s : M.RS (Nat × Bool × List Int)), s = mrun ps (defCh ps w) cap w.length ticks (def0 w.length) ∧ v = .tuple #[.agg #[.slice (some ⟨gd, 0, none⟩) ps.length ps.length, .slice (some ⟨go, 0, none⟩) w.length w.length], .int .i64 0] ∧ R = R' ∧ rows.map Sl.xs = s.sent ∧ (∀ r ∈ rows, r.a.isSome = true) ∧ Inv ps w.length (goodDf ps w.length) (ticks + 1) (ticks * cap) s ∧
        (.sl 3 1 (some ⟨gd, 0, none⟩) ps.length (s.done.map encI) :: .sl 23 1 (some ⟨go, 0, none⟩) w.length (rows.map encS) :: (rows.map (rowE 3) ++ E)).Sublist E') := by
  obtain ⟨hl0, hkw⟩ := wrunE_ok hok0
  have hw := okW_iff.1 hkw
  obtain ⟨hok, hvv, hck, c1, c2, c3, c4, c5, c6, hs, hf⟩ := lrunE_ok hl0
  have hlw := hwr.len
  have hla := hp.len
  refine Fn.enter (n := 47) Try.func44 rfl rfl (Nat.le_of_ble_eq_true rfl) rfl ?_
  refine W.seq ?_
  refine W.region _ ?_
  refine WL.ef rfl rfl (by decide) (Ef.alloc tab_ok rfl rfl (fun b8 => ?_))
  refine WG.run tab_ok 1 rfl ?_
  refine WG.nil ?_
  refine WE.nxt ?_
  refine W.seq ?_
  refine W.seq ?_
  refine W.region _ ?_
  refine WG.run tab_ok 1 rfl ?_
  refine WG.callV en60 rfl rfl (by decide) (CallOp.mk' rfl rfl rfl rfl) (fun _ => rfl) (fun hg => hvv ▸ Validate_V hp) ?_
  refine WG.run tab_ok 1 rfl ?_
  refine WG.nil ?_
  refine WE.nxt ?_
  refine W.seq ?_
  refine W.region _ ?_
  refine WG.run tab_ok 2 rfl ?_
  refine WG.nil ?_
  refine WE.nxt ?_
  refine W.condN rfl (fun hc0 => ?_) (fun hc0 => ?_)
  · try dsimp only at hc0
    exact absurd rfl hc0
  · try dsimp only at hc0
    refine W.skip ?_
    refine WE.nxt ?_
    refine W.seq ?_
    refine W.seq ?_
    refine W.region _ ?_
    refine WG.run tab_ok 5 rfl ?_
    refine WG.callV en61 rfl rfl (by decide) (CallOp.mk' rfl rfl rfl rfl) (fun _ => rfl) (fun hg => hck ▸ Check_V hp) ?_
    refine WG.run tab_ok 1 rfl ?_
    refine WG.nil ?_
    refine WE.nxt ?_
    refine W.seq ?_
    refine W.region _ ?_
    refine WG.run tab_ok 2 rfl ?_
    refine WG.nil ?_
    refine WE.nxt ?_
    refine W.condN rfl (fun hc1 => ?_) (fun hc1 => ?_)
    · try dsimp only at hc1
      exact absurd rfl hc1
    · try dsimp only at hc1
      refine W.skip ?_
      refine WE.nxt ?_
      refine W.seq ?_
      refine W.seq ?_
      refine W.region _ ?_
      refine WG.run tab_ok 1 rfl ?_
      refine WG.callV en90 rfl rfl (by decide) (CallOp.mk' rfl rfl rfl rfl) (fun _ => rfl) (fun hg => hkw ▸ Weighed20_V hwr) ?_
      refine WG.run tab_ok 1 rfl ?_
      refine WG.nil ?_
      refine WE.nxt ?_
      refine W.cond rfl (fun hc2 => ?_) (fun hc2 => ?_)
      · try simp only [decide_eq_true_eq, decide_eq_false_iff_not, beq_iff_eq, bne_iff_ne, beq_eq_false_iff_ne, bne_eq_false_iff_eq, ne_eq, Bool.or_eq_true, Bool.or_eq_false_iff, Bool.and_eq_true, Bool.and_eq_false_imp, Bool.not_eq_true, Bool.not_eq_true', Bool.not_eq_false', Classical.not_not, Int.not_lt, Int.not_le, gt_iff_lt, ge_iff_le] at hc2
        simp at hc2
      · try simp only [decide_eq_true_eq, decide_eq_false_iff_not, beq_iff_eq, bne_iff_ne, beq_eq_false_iff_ne, bne_eq_false_iff_eq, ne_eq, Bool.or_eq_true, Bool.or_eq_false_iff, Bool.and_eq_true, Bool.and_eq_false_imp, Bool.not_eq_true, Bool.not_eq_true', Bool.not_eq_false', Classical.not_not, Int.not_lt, Int.not_le, gt_iff_lt, ge_iff_le] at hc2
        refine W.skip ?_
        refine WE.nxt ?_
        refine W.seq ?_
        refine W.region _ ?_
        refine WG.run tab_ok 3 rfl ?_
        refine WL.ef rfl rfl (by decide) (Ef.makeSliceD (enc := encI) 0 tab_ok rfl rfl rfl rfl rfl rfl (by (try dsimp only) <;> omega) (by (try dsimp only) <;> omega) (by (try dsimp only) <;> omega) (by (try dsimp only) <;> omega) (by decide) rfl rfl (fun a36 => ?_))
        -- build
        refine WG.y rfl rfl (by decide) (Yl.build (parts := [(0, .tmp 33), (1, .tmp 36)]) tab_ok rfl rfl rfl rfl (fun _ => rfl) rfl rfl) ?_
        refine WL.ef rfl rfl (by decide) (Ef.box rfl rfl (fun b38 => ?_))
        refine WG.run tab_ok 1 rfl ?_
        refine WG.nil ?_
        refine WE.nxt ?_
        refine W.seq ?_
        refine W.region _ ?_
        refine WG.run tab_ok 7 rfl ?_
        refine WL.call en63 rfl rfl (by decide) (CallOp.mkT rfl rfl rfl rfl) (MRun_C (pc := pc) (g := 91) (first := #[.pointer (some ⟨b38, 0, none⟩)]) (capd := #[]) (ch := defCh ps w) (good := goodDf ps w.length) (X := fun s => [.blk b38 [.slice wa w.length wc, .slice (some ⟨a36, 0, none⟩) w.length w.length, .int .i64 (s.1 : Int), .bool s.2.1], .sl 3 1 (some ⟨a36, 0, none⟩) w.length ((s.2.2).map encI)]) (sg := def0 w.length) w0 hp (def_fair hw (fun p hp => by have := hok.at hp; omega) hf hok.sorted).toGood ⟨by have := hok.len; omega, fun p hp => by have := hs p hp; have := hf p hp; omega⟩ (def_start (by omega) _) (by omega) (by omega) (by omega) en91 (fun sb bg ms sg F hgd hbl _ _ _ _ => ChooseD_C w0 hp hbl hok.sorted hwr hw (by omega) (fun p hp => by have := hok.at hp; omega) hf hgd F) _) ?_
        rintro _ _ E2 - ⟨rows, gd, go, s, hsr, rfl, rfl, h1, h2, h3, hsub⟩
        refine WL.subE hsub ?_
        refine WL.subE (E' := .sl 3 1 (some ⟨gd, 0, none⟩) ps.length (s.done.map encI) :: .sl 23 1 (some ⟨go, 0, none⟩) w.length (rows.map encS) :: (rows.map (rowE 3) ++ (.blk b8 [.slice none 0 0, .slice none 0 0] :: E))) (List.Sublist.cons_cons _ (List.Sublist.cons_cons _ (List.Sublist.append (List.Sublist.refl _) (by (repeat (first | exact List.Sublist.refl _ | exact List.nil_sublist _ | apply List.Sublist.cons_cons | apply List.Sublist.cons)); done)))) ?_
        refine WL.perm (List.perm_middle (l₁ := _ :: _ :: rows.map (rowE 3))) ?_
        first | refine WL.efN rfl rfl (Ef.store0 0 tab_ok rfl rfl rfl rfl rfl rfl rfl rfl ?_) | refine WL.efN rfl rfl (Ef.store0 1 tab_ok rfl rfl rfl rfl rfl rfl rfl rfl ?_) | refine WL.efN rfl rfl (Ef.store0 2 tab_ok rfl rfl rfl rfl rfl rfl rfl rfl ?_) | refine WL.efN rfl rfl (Ef.store0 3 tab_ok rfl rfl rfl rfl rfl rfl rfl rfl ?_) | refine WL.efN rfl rfl (Ef.store0 4 tab_ok rfl rfl rfl rfl rfl rfl rfl rfl ?_) | refine WL.efN rfl rfl (Ef.store0 5 tab_ok rfl rfl rfl rfl rfl rfl rfl rfl ?_)
        refine WG.run tab_ok 1 rfl ?_
        refine WG.nil ?_
        refine WE.nxt ?_
        refine W.ret ?_
        refine WE.retF tab_ok [_, _] rfl ⟨⟨_, _, _, rfl, rfl, rfl, ((by first | exact Rd.blk 0 rfl | exact Rd.blk 1 rfl | exact Rd.blk 2 rfl | exact Rd.blk 3 rfl | exact Rd.blk 4 rfl | exact Rd.blk 5 rfl)), rfl⟩, rfl, trivial⟩ (RLe.refl _) ?_
        exact ⟨rows, gd, go, s, hsr, rfl, rfl, h1, h2, h3, (by (repeat (first | exact List.Sublist.refl _ | exact List.nil_sublist _ | apply List.Sublist.cons_cons | apply List.Sublist.cons)); done)⟩

end Go.Proofs.Ytcfnckccmkjjlaa

/- Chapter 20: choices of the reference. No condition. -/
set_option linter.unusedSimpArgs false
set_option linter.unusedVariables false
namespace Go.Proofs.Ytcfnckccmkjjlaa
open Go Go.RowKit Go.Proofs.Ytcfnckccmkjjlaa.K Go.Proofs.Ytcfnckccmkjjlaa.M

end Go.Proofs.Ytcfnckccmkjjlaa

/- Chapter 20: runs of deficit round robin, the reference. No condition. -/
set_option linter.unusedSimpArgs false
set_option linter.unusedVariables false
namespace Go.Proofs.Ytcfnckccmkjjlaa
open Go Go.RowKit Go.Proofs.Ytcfnckccmkjjlaa.K Go.Proofs.Ytcfnckccmkjjlaa.M

end Go.Proofs.Ytcfnckccmkjjlaa

/- Chapter 20: checks, what others send, the curve. No condition. -/
set_option linter.unusedSimpArgs false
set_option linter.unusedVariables false
namespace Go.Proofs.Ytcfnckccmkjjlaa
open Go Go.RowKit Go.Proofs.Ytcfnckccmkjjlaa.K Go.Proofs.Ytcfnckccmkjjlaa.M

theorem CheckDef_V {R : Ro} {wa za : Option Addr} {wc zc : Nat} {w : List Int} {z : List Sz} (hwr : RS R 1 encI wa w) (hzr : RS R 2 encZ za z) {cap cls : Int} : FnV Try.prog 48 [.int .i64 cap, .int .i64 cls, .slice wa w.length wc, .slice za z.length zc] R (.int .i64 (chkW 6000 cap cls w z)) := by
  have hla := hzr.len
  have hlw := hwr.len
  refine Fn.toV (fun w0 E => ?_)
  have h18 := chk18_vals cap cls z
  refine Fn.enter (n := 27) Try.func48 rfl rfl (Nat.le_of_ble_eq_true rfl) rfl ?_
  refine W.seq ?_
  refine W.region _ ?_
  refine WG.run tab_ok 1 rfl ?_
  refine WG.nil ?_
  refine WE.nxt ?_
  refine W.seq ?_
  refine W.seq ?_
  refine W.region _ ?_
  refine WG.run tab_ok 3 rfl ?_
  refine WG.callV en85 rfl rfl (by decide) (CallOp.mk' rfl rfl rfl rfl) (fun _ => rfl) (fun hg => CheckP_V hzr) ?_
  refine WG.run tab_ok 1 rfl ?_
  refine WG.nil ?_
  refine WE.nxt ?_
  refine W.seq ?_
  refine W.region _ ?_
  refine WG.run tab_ok 2 rfl ?_
  refine WG.nil ?_
  refine WE.nxt ?_
  refine W.condN rfl (fun hc0 => ?_) (fun hc0 => ?_)
  · try dsimp only at hc0
    have e : chkW 6000 cap cls w z = 2 := if_pos hc0
    refine W.seq ?_
    refine W.region _ ?_
    refine WG.run tab_ok 2 rfl ?_
    refine WG.nil ?_
    refine WE.nxt ?_
    refine W.ret ?_
    refine WE.then_ret ?_
    refine WE.subE (E' := E) (by (repeat (first | exact List.Sublist.refl _ | exact List.nil_sublist _ | apply List.Sublist.cons_cons | apply List.Sublist.cons)); done) ?_
    refine WE.retF tab_ok [_] rfl ⟨rfl, trivial⟩ (RLe.refl _) ?_
    exact ⟨by rw [e, show chk18 cap cls z = 2 by omega]; rfl, rfl⟩
  · try dsimp only at hc0
    refine W.skip ?_
    refine WE.nxt ?_
    refine W.seq ?_
    refine W.seq ?_
    refine W.region _ ?_
    refine WG.run tab_ok 6 rfl ?_
    refine WG.y rfl rfl (by decide) (pureV_ok tab_ok rfl (by first | exact fun _ => rfl | exact fun h => h | (intro h; simp_all))) ?_
    refine WG.callV en90 rfl rfl (by decide) (CallOp.mk' rfl rfl rfl rfl) (by first | exact fun _ => rfl | exact fun h => h | (intro h; simp_all)) (fun hg => Weighed20_V hwr) ?_
    refine WG.y rfl rfl (by decide) (pureV_ok tab_ok rfl (by first | exact fun _ => rfl | exact fun h => h | (intro h; simp_all))) ?_
    refine WG.y rfl rfl (by decide) (Yl.por rfl rfl rfl (fun _ => rfl) (by intro h1 h2; simp_all <;> omega)) ?_
    refine WG.nil ?_
    refine WE.nxt ?_
    refine W.cond rfl (fun hc1 => ?_) (fun hc1 => ?_)
    · try simp only [decide_eq_true_eq, decide_eq_false_iff_not, beq_iff_eq, bne_iff_ne, beq_eq_false_iff_ne, bne_eq_false_iff_eq, ne_eq, Bool.or_eq_true, Bool.or_eq_false_iff, Bool.and_eq_true, Bool.and_eq_false_imp, Bool.not_eq_true, Bool.not_eq_true', Bool.not_eq_false', Classical.not_not, Int.not_lt, Int.not_le, gt_iff_lt, ge_iff_le] at hc1
      have e : chkW 6000 cap cls w z = 2 := by unfold chkW; rw [if_neg (fun h => h hc0), if_pos (by rcases hc1 with h | h; exact .inl (by omega); exact .inr h)]
      refine W.seq ?_
      refine W.region _ ?_
      refine WG.run tab_ok 1 rfl ?_
      refine WG.nil ?_
      refine WE.nxt ?_
      refine W.ret ?_
      refine WE.then_ret ?_
      refine WE.subE (E' := E) (by (repeat (first | exact List.Sublist.refl _ | exact List.nil_sublist _ | apply List.Sublist.cons_cons | apply List.Sublist.cons)); done) ?_
      refine WE.retF tab_ok [_] rfl ⟨rfl, trivial⟩ (RLe.refl _) ?_
      exact ⟨by rw [e]; rfl, rfl⟩
    · try simp only [decide_eq_true_eq, decide_eq_false_iff_not, beq_iff_eq, bne_iff_ne, beq_eq_false_iff_ne, bne_eq_false_iff_eq, ne_eq, Bool.or_eq_true, Bool.or_eq_false_iff, Bool.and_eq_true, Bool.and_eq_false_imp, Bool.not_eq_true, Bool.not_eq_true', Bool.not_eq_false', Classical.not_not, Int.not_lt, Int.not_le, gt_iff_lt, ge_iff_le] at hc1
      have e : chkW 6000 cap cls w z = 0 := by unfold chkW; rw [if_neg (fun h => h hc0), if_neg (by rintro (h | h) <;> first | omega | (simp_all; done))]
      refine W.skip ?_
      refine WE.nxt ?_
      refine W.seq ?_
      refine W.region _ ?_
      refine WG.run tab_ok 1 rfl ?_
      refine WG.nil ?_
      refine WE.nxt ?_
      refine W.ret ?_
      refine WE.subE (E' := E) (by (repeat (first | exact List.Sublist.refl _ | exact List.nil_sublist _ | apply List.Sublist.cons_cons | apply List.Sublist.cons)); done) ?_
      refine WE.retF tab_ok [_] rfl ⟨rfl, trivial⟩ (RLe.refl _) ?_
      exact ⟨by rw [e]; rfl, rfl⟩

theorem Others20p_V {R : Ro} {wa za : Option Addr} {wc zc : Nat} {w : List Int} {z : List Sz} (hwr : RS R 1 encI wa w) (hzr : RS R 2 encZ za z) {cls : Int} (hw : ∀ x ∈ w, 1 ≤ x ∧ x ≤ 6000) (hz : ∀ s ∈ z, 0 ≤ s.least ∧ s.least ≤ s.most ∧ s.most ≤ 1500) (hwz : w.length = z.length) (hwl : z.length ≤ 6) : FnV Try.prog 95 [.int .i64 cls, .slice wa w.length wc, .slice za z.length zc] R (.tuple #[.int .i64 (xSum cls w z w.length), .int .i64 (zSum cls z w.length)]) := by
  have hla := hzr.len
  have hlw := hwr.len
  refine Fn.toV (fun w0 E => ?_)
  refine Fn.enter (n := 42) Try.func95 rfl rfl (Nat.le_of_ble_eq_true rfl) rfl ?_
  refine W.seq ?_
  refine W.region _ ?_
  refine WG.run tab_ok 2 rfl ?_
  refine WG.nil ?_
  refine WE.nxt ?_
  refine W.seq ?_
  refine W.seq ?_
  refine W.region _ ?_
  refine WG.run tab_ok 3 rfl ?_
  refine WG.nil ?_
  refine WE.nxt ?_
  refine W.block ?_
  refine W.loopK (β := Nat × Int × Int) (fun (i, x, y) => i ≤ w.length ∧ x = xSum cls w z i ∧ y = zSum cls z i) (fun (i, x, y) => [(6, true, .int .i64 x), (7, true, .int .i64 y), (12, true, .int .i64 (i : Int))]) [0, 2, 10, 11] [_, _, _, _] [] _ rfl (fun (i, x, y) => []) (fun (i, x, y) => w.length - i) ((0, 0, 0)) (⟨Nat.zero_le _, rfl, rfl⟩) ⟨rfl, rfl, rfl, rfl, rfl, rfl, rfl, rfl⟩ (by (repeat (first | exact List.Sublist.refl _ | exact List.nil_sublist _ | apply List.Sublist.cons_cons | apply List.Sublist.cons)); done) ?_
  intro st hst
  obtain ⟨i, x, y⟩ := st
  dsimp only [zipE, setAll, List.cons_append, List.nil_append, List.set_cons_zero, List.set_cons_succ] at hst ⊢
  obtain ⟨hi, rfl, rfl⟩ := hst
  have hxb := xSum_bound (k := cls) (z := z) hw i (by omega)
  have hyb := zSum_bound (k := cls) hz i (by omega)
  refine W.seq ?_
  refine W.region _ ?_
  refine WG.run tab_ok 1 rfl ?_
  refine WG.nil ?_
  refine WE.nxt ?_
  refine W.seq ?_
  refine W.condD rfl (fun hc0 => ?_) (fun hc0 => ?_)
  · try dsimp only at hc0
    have hil : i < w.length := by omega
    have hwi := hw _ (nth_mem hil)
    have hzi := hz _ (nth_mem (xs := z) (k := i) (by omega))
    refine W.skip ?_
    refine WE.nxt ?_
    refine W.seq ?_
    refine W.block ?_
    refine W.seq ?_
    refine W.region _ ?_
    refine WG.run tab_ok 1 rfl ?_
    refine WG.y rfl rfl (by decide) (Yl.indexN tab_ok rfl rfl rfl rfl rfl rfl (fun _ => rfl) (by intro _; (try dsimp only) <;> omega) (by intro _; first | exact fun _ _ _ _ => rfl | exact RS.has (by assumption) | exact fun _ _ _ _ => (by assumption) | exact HasMem.ownD 0 rfl)) ?_
    refine' WG.y rfl rfl (by decide) (Yl.load1 tab_ok rfl rfl rfl (fun _ => rfl) ?r1 rfl ?h1) ?_
    case r1 => (first | (apply RS.rdD; assumption; ((try dsimp only) <;> omega)) | exact Rd.slD 0 rfl (by (try dsimp only) <;> omega))
    case h1 => rfl
    refine WG.run tab_ok 2 rfl ?_
    refine WG.nil ?_
    refine WE.nxt ?_
    refine W.seq ?_
    refine W.region _ ?_
    refine WG.run tab_ok 4 rfl ?_
    refine WG.y rfl rfl (by decide) (pureV_ok tab_ok rfl (by first | exact fun _ => rfl | exact fun h => h | (intro h; simp_all))) ?_
    refine WG.y rfl rfl (by decide) (pureV_ok tab_ok rfl (by first | exact fun _ => rfl | exact fun h => h | (intro h; simp_all))) ?_
    refine WG.y rfl rfl (by decide) (Yl.indexN tab_ok rfl rfl rfl rfl rfl rfl (by first | exact fun _ => rfl | exact fun h => h | (intro h; simp_all)) (by intro hg; (try simp only [decide_eq_true_eq, decide_eq_false_iff_not, beq_iff_eq, bne_iff_ne, beq_eq_false_iff_ne, bne_eq_false_iff_eq, ne_eq, Bool.or_eq_true, Bool.or_eq_false_iff, Bool.and_eq_true, Bool.and_eq_false_imp, Bool.not_eq_true, Bool.not_eq_true', Bool.not_eq_false', Classical.not_not, Int.not_lt, Int.not_le, gt_iff_lt, ge_iff_le] at hg); (try dsimp only) <;> omega) (by intro hg; (try simp only [decide_eq_true_eq, decide_eq_false_iff_not, beq_iff_eq, bne_iff_ne, beq_eq_false_iff_ne, bne_eq_false_iff_eq, ne_eq, Bool.or_eq_true, Bool.or_eq_false_iff, Bool.and_eq_true, Bool.and_eq_false_imp, Bool.not_eq_true, Bool.not_eq_true', Bool.not_eq_false', Classical.not_not, Int.not_lt, Int.not_le, gt_iff_lt, ge_iff_le] at hg); first | exact fun _ _ _ _ => rfl | exact RS.has (by assumption) | exact fun _ _ _ _ => (by assumption) | exact HasMem.ownD 0 rfl)) ?_
    refine WG.y rfl rfl (by decide) (pureV_ok tab_ok rfl (by first | exact fun _ => rfl | exact fun h => h | (intro h; simp_all))) ?_
    refine' WG.y rfl rfl (by decide) (Yl.loadG tab_ok rfl rfl rfl (by first | exact fun _ => rfl | exact fun h => h | (intro h; simp_all)) ?r2 rfl ?h2 ?g2) ?_
    case r2 => apply Rd.addC; (first | (apply RS.rdC; assumption) | exact Rd.slC 0 rfl)
    case h2 => rfl
    case g2 => first | exact fun _ => trivial | (intro hg; (try simp only [decide_eq_true_eq, decide_eq_false_iff_not, beq_iff_eq, bne_iff_ne, beq_eq_false_iff_ne, bne_eq_false_iff_eq, ne_eq, Bool.or_eq_true, Bool.or_eq_false_iff, Bool.and_eq_true, Bool.and_eq_false_imp, Bool.not_eq_true, Bool.not_eq_true', Bool.not_eq_false', Classical.not_not, Int.not_lt, Int.not_le, gt_iff_lt, ge_iff_le] at hg); (try dsimp only); omega)
    refine WG.y rfl rfl (by decide) (pureV_ok tab_ok rfl (by first | exact fun _ => rfl | exact fun h => h | (intro h; simp_all))) ?_
    refine WG.y rfl rfl (by decide) (Yl.pand rfl rfl rfl (fun _ => rfl) (by intro h1 h2; simp_all <;> omega)) ?_
    refine WG.nil ?_
    refine WE.nxt ?_
    refine W.cond rfl (fun hc1 => ?_) (fun hc1 => ?_)
    · try simp only [decide_eq_true_eq, decide_eq_false_iff_not, beq_iff_eq, bne_iff_ne, beq_eq_false_iff_ne, bne_eq_false_iff_eq, ne_eq, Bool.or_eq_true, Bool.or_eq_false_iff, Bool.and_eq_true, Bool.and_eq_false_imp, Bool.not_eq_true, Bool.not_eq_true', Bool.not_eq_false', Classical.not_not, Int.not_lt, Int.not_le, gt_iff_lt, ge_iff_le] at hc1
      have hx1 : xSum cls w z (i + 1) = xSum cls w z i + nth w i := by simp only [xSum]; rw [if_pos hc1]
      have hy1 : zSum cls z (i + 1) = zSum cls z i + ((nth z i).most - 1) := by simp only [zSum]; rw [if_pos hc1]
      refine W.seq ?_
      refine W.region _ ?_
      refine WG.run tab_ok 2 rfl ?_
      refine WG.y rfl rfl (by decide) (Yl.add rfl rfl rfl (fun _ => rfl) (by intro _; constructor <;> (try dsimp only) <;> omega)) ?_
      refine WG.run tab_ok 1 rfl ?_
      refine WG.nil ?_
      refine WE.nxt ?_
      refine W.region _ ?_
      refine WG.run tab_ok 3 rfl ?_
      refine WG.y rfl rfl (by decide) (Yl.indexN tab_ok rfl rfl rfl rfl rfl rfl (fun _ => rfl) (by intro _; (try dsimp only) <;> omega) (by intro _; first | exact fun _ _ _ _ => rfl | exact RS.has (by assumption) | exact fun _ _ _ _ => (by assumption) | exact HasMem.ownD 0 rfl)) ?_
      refine WG.run tab_ok 1 rfl ?_
      refine' WG.y rfl rfl (by decide) (Yl.load1 tab_ok rfl rfl rfl (fun _ => rfl) ?r3 rfl ?h3) ?_
      case r3 => apply Rd.add; (first | (apply RS.rdD; assumption; ((try dsimp only) <;> omega)) | exact Rd.slD 0 rfl (by (try dsimp only) <;> omega))
      case h3 => rfl
      refine WG.y rfl rfl (by decide) (Yl.sub rfl rfl rfl (fun _ => rfl) (by intro _; constructor <;> (try dsimp only) <;> omega)) ?_
      refine WG.y rfl rfl (by decide) (Yl.add rfl rfl rfl (fun _ => rfl) (by intro _; constructor <;> (try dsimp only) <;> omega)) ?_
      refine WG.run tab_ok 1 rfl ?_
      refine WG.nil ?_
      refine WE.blk _ ?_
      refine WE.nxt ?_
      refine W.region _ ?_
      refine WG.y rfl rfl (by decide) (Yl.add rfl rfl rfl (fun _ => rfl) (by intro _; constructor <;> (try dsimp only) <;> omega)) ?_
      refine WG.run tab_ok 1 rfl ?_
      refine WG.nil ?_
      refine WE.again ((i + 1, xSum cls w z i + nth w i, zSum cls z i + ((nth z i).most - 1))) (⟨by dsimp only; omega, by dsimp only; rw [hx1], by dsimp only; rw [hy1]; try omega⟩) (by (try dsimp only); omega) ⟨rfl, rfl, rfl, rfl, rfl, rfl, rfl, rfl⟩ (RLe.refl _) (by (repeat (first | exact List.Sublist.refl _ | exact List.nil_sublist _ | apply List.Sublist.cons_cons | apply List.Sublist.cons)); done)
    · try simp only [decide_eq_true_eq, decide_eq_false_iff_not, beq_iff_eq, bne_iff_ne, beq_eq_false_iff_ne, bne_eq_false_iff_eq, ne_eq, Bool.or_eq_true, Bool.or_eq_false_iff, Bool.and_eq_true, Bool.and_eq_false_imp, Bool.not_eq_true, Bool.not_eq_true', Bool.not_eq_false', Classical.not_not, Int.not_lt, Int.not_le, gt_iff_lt, ge_iff_le] at hc1
      have hno : ¬ ((i : Int) ≠ cls ∧ 1 ≤ (nth z i).most) := by rintro ⟨a1, a2⟩; have := hc1 a1; omega
      have hx1 : xSum cls w z (i + 1) = xSum cls w z i := by simp only [xSum]; rw [if_neg hno]; omega
      have hy1 : zSum cls z (i + 1) = zSum cls z i := by simp only [zSum]; rw [if_neg hno]; omega
      refine W.skip ?_
      refine WE.blk _ ?_
      refine WE.nxt ?_
      refine W.region _ ?_
      refine WG.y rfl rfl (by decide) (Yl.add rfl rfl rfl (fun _ => rfl) (by intro _; constructor <;> (try dsimp only) <;> omega)) ?_
      refine WG.run tab_ok 1 rfl ?_
      refine WG.nil ?_
      refine WE.again ((i + 1, xSum cls w z i, zSum cls z i)) (⟨by dsimp only; omega, by dsimp only; rw [hx1], by dsimp only; rw [hy1]⟩) (by (try dsimp only); omega) ⟨rfl, rfl, rfl, rfl, rfl, rfl, rfl, rfl⟩ (RLe.refl _) (by (repeat (first | exact List.Sublist.refl _ | exact List.nil_sublist _ | apply List.Sublist.cons_cons | apply List.Sublist.cons)); done)
  · try dsimp only at hc0
    obtain rfl : i = w.length := by omega
    refine W.exit ?_
    refine WE.then_exit ?_
    refine WE.then_exit ?_
    refine WE.blk_exit ?_
    refine WE.nxt ?_
    refine W.seq ?_
    refine W.region _ ?_
    refine WG.run tab_ok 4 rfl ?_
    refine WG.nil ?_
    refine WE.nxt ?_
    refine W.ret ?_
    refine WE.subE (E' := E) (by (repeat (first | exact List.Sublist.refl _ | exact List.nil_sublist _ | apply List.Sublist.cons_cons | apply List.Sublist.cons)); done) ?_
    refine WE.retF tab_ok [_, _] rfl ⟨rfl, rfl, trivial⟩ (RLe.refl _) ?_
    exact ⟨rfl, rfl⟩

theorem CurveDA_V {R : Ro} {b1 b2 b3 b4 : Nat} {s q l z y : Int} (h1 : R b1 = some [.int .i64 s]) (h2 : R b2 = some [.int .i64 q]) (h3 : R b3 = some [.int .i64 l]) (h4 : R b4 = some [.int .i64 z]) (hq : 1 ≤ q ∧ q ≤ s) (hs : s ≤ 480000) (hl : 1 ≤ l ∧ l ≤ 1500) (hz : 0 ≤ z ∧ z ≤ 9000) (hy : -1 ≤ y ∧ y ≤ 100000000) (hy2 : 0 ≤ y + l - 1) : FnV Try.prog 96 [.int .i64 y, .pointer (some ⟨b1, 0, none⟩), .pointer (some ⟨b2, 0, none⟩), .pointer (some ⟨b3, 0, none⟩), .pointer (some ⟨b4, 0, none⟩)] R (.int .i64 (allD s q l z y)) := by
  refine Fn.toV (fun w0 E => ?_)
  have hq0 : 0 ≤ (y + l - 1) / q := Int.ediv_nonneg (by omega) (by omega)
  have hq1 : (y + l - 1) / q ≤ y + l - 1 := Int.ediv_le_self _ (by omega)
  have hp1 := mulB (a := s - q) (b := (y + l - 1) / q + 1) (A := 480000) (B := 100010001) (by omega) (by omega)
  refine Fn.enter (n := 22) Try.func96 rfl rfl (Nat.le_of_ble_eq_true rfl) rfl ?_
  refine W.seq ?_
  refine W.region _ ?_
  refine WG.run tab_ok 1 rfl ?_
  refine WG.nil ?_
  refine WE.nxt ?_
  refine W.seq ?_
  refine W.regionQ _ mixed (by kernel_rfl) ?_
  refine WG.run tab_ok 1 rfl ?_
  refine' WG.y rfl rfl (by decide) (Yl.load1 tab_ok rfl rfl rfl (fun _ => rfl) ?r1 rfl ?h1) ?_
  case r1 => (first | exact Rd.ro (by assumption) | exact Rd.blk 0 rfl | (apply RS.rdD; assumption; ((try dsimp only) <;> omega)) | exact Rd.slD 0 rfl (by (try dsimp only) <;> omega))
  case h1 => rfl
  refine' WG.y rfl rfl (by decide) (Yl.load1 tab_ok rfl rfl rfl (fun _ => rfl) ?r2 rfl ?h2) ?_
  case r2 => (first | exact Rd.ro (by assumption) | exact Rd.blk 0 rfl | (apply RS.rdD; assumption; ((try dsimp only) <;> omega)) | exact Rd.slD 0 rfl (by (try dsimp only) <;> omega))
  case h2 => rfl
  refine WG.y rfl rfl (by decide) (Yl.sub rfl rfl rfl (fun _ => rfl) (by intro _; constructor <;> (try dsimp only) <;> omega)) ?_
  refine WG.run tab_ok 1 rfl ?_
  refine' WG.y rfl rfl (by decide) (Yl.load1 tab_ok rfl rfl rfl (fun _ => rfl) ?r3 rfl ?h3) ?_
  case r3 => (first | exact Rd.ro (by assumption) | exact Rd.blk 0 rfl | (apply RS.rdD; assumption; ((try dsimp only) <;> omega)) | exact Rd.slD 0 rfl (by (try dsimp only) <;> omega))
  case h3 => rfl
  refine WG.y rfl rfl (by decide) (Yl.add rfl rfl rfl (fun _ => rfl) (by intro _; constructor <;> (try dsimp only) <;> omega)) ?_
  refine WG.y rfl rfl (by decide) (Yl.sub rfl rfl rfl (fun _ => rfl) (by intro _; constructor <;> (try dsimp only) <;> omega)) ?_
  refine' WG.y rfl rfl (by decide) (Yl.load1 tab_ok rfl rfl rfl (fun _ => rfl) ?r4 rfl ?h4) ?_
  case r4 => (first | exact Rd.ro (by assumption) | exact Rd.blk 0 rfl | (apply RS.rdD; assumption; ((try dsimp only) <;> omega)) | exact Rd.slD 0 rfl (by (try dsimp only) <;> omega))
  case h4 => rfl
  refine WG.y rfl rfl (by decide) (Yl.quo rfl rfl rfl (fun _ => rfl) (by intro _; constructor <;> (try dsimp only) <;> omega) (by intro _; omega)) ?_
  refine WG.y rfl rfl (by decide) (Yl.add rfl rfl rfl (fun _ => rfl) (by intro _; constructor <;> (try dsimp only) <;> omega)) ?_
  refine WG.y rfl rfl (by decide) (Yl.mul rfl rfl rfl (fun _ => rfl) (by intro _; constructor <;> (try dsimp only) <;> omega)) ?_
  refine WG.y rfl rfl (by decide) (Yl.add rfl rfl rfl (fun _ => rfl) (by intro _; constructor <;> (try dsimp only) <;> omega)) ?_
  refine' WG.y rfl rfl (by decide) (Yl.load1 tab_ok rfl rfl rfl (fun _ => rfl) ?r5 rfl ?h5) ?_
  case r5 => (first | exact Rd.ro (by assumption) | exact Rd.blk 0 rfl | (apply RS.rdD; assumption; ((try dsimp only) <;> omega)) | exact Rd.slD 0 rfl (by (try dsimp only) <;> omega))
  case h5 => rfl
  refine WG.y rfl rfl (by decide) (Yl.add rfl rfl rfl (fun _ => rfl) (by intro _; constructor <;> (try dsimp only) <;> omega)) ?_
  refine WG.run tab_ok 1 rfl ?_
  refine WG.nil ?_
  refine WE.nxt ?_
  refine W.ret ?_
  refine WE.subE (E' := E) (by (repeat (first | exact List.Sublist.refl _ | exact List.nil_sublist _ | apply List.Sublist.cons_cons | apply List.Sublist.cons)); done) ?_
  refine WE.retF tab_ok [_] rfl ⟨rfl, trivial⟩ (RLe.refl _) ?_
  exact ⟨rfl, rfl⟩

theorem CurveDH_V {R : Ro} {b1 b2 b3 b4 b5 b6 b7 : Nat} {cap s q l z : Int} {t y : Nat} (h1 : R b1 = some [.int .i64 s]) (h2 : R b2 = some [.int .i64 q]) (h3 : R b3 = some [.int .i64 l]) (h4 : R b4 = some [.int .i64 z]) (h5 : R b5 = some [.func (.func 96) #[] #[.pointer (some ⟨b1, 0, none⟩), .pointer (some ⟨b2, 0, none⟩), .pointer (some ⟨b3, 0, none⟩), .pointer (some ⟨b4, 0, none⟩)]]) (h6 : R b6 = some [.int .i64 cap]) (h7 : R b7 = some [.int .i64 (t : Int)]) (hc : 0 ≤ cap ∧ cap ≤ 4000) (hq : 1 ≤ q ∧ q ≤ s) (hs : s ≤ 480000) (hl : 1 ≤ l ∧ l ≤ 1500) (hz : 0 ≤ z ∧ z ≤ 9000) (ht : t ≤ 1000) (hy : y ≤ 100000000) : FnV Try.prog 98 [.int .i64 (y : Int), .pointer (some ⟨b5, 0, none⟩), .pointer (some ⟨b6, 0, none⟩), .pointer (some ⟨b7, 0, none⟩)] R (.bool (defH cap s q l z t y)) := by
  refine Fn.toV (fun w0 E => ?_)
  have hp2 := mulB (a := cap) (b := (t : Int)) (A := 4000) (B := 1000) (by omega) (by omega)
  refine Fn.enter (n := 13) Try.func98 rfl rfl (Nat.le_of_ble_eq_true rfl) rfl ?_
  refine W.seq ?_
  refine W.region _ ?_
  refine WG.run tab_ok 1 rfl ?_
  refine WG.nil ?_
  refine WE.nxt ?_
  refine W.seq ?_
  refine W.regionQ _ mixed (by kernel_rfl) ?_
  refine' WG.y rfl rfl (by decide) (Yl.load1 tab_ok rfl rfl rfl (fun _ => rfl) ?r1 rfl ?h1) ?_
  case r1 => (first | exact Rd.ro (by assumption) | exact Rd.blk 0 rfl | (apply RS.rdD; assumption; ((try dsimp only) <;> omega)) | exact Rd.slD 0 rfl (by (try dsimp only) <;> omega))
  case h1 => rfl
  refine WG.run tab_ok 1 rfl ?_
  refine WG.callV (v := .int .i64 (allD s q l z (y : Int))) en96 rfl rfl (by decide) (CallOp.mk' rfl rfl rfl rfl) (fun _ => rfl) (fun hg => CurveDA_V h1 h2 h3 h4 hq hs hl hz ⟨by omega, by omega⟩ (by omega)) ?_
  refine' WG.y rfl rfl (by decide) (Yl.load1 tab_ok rfl rfl rfl (fun _ => rfl) ?r2 rfl ?h2) ?_
  case r2 => (first | exact Rd.ro (by assumption) | exact Rd.blk 0 rfl | (apply RS.rdD; assumption; ((try dsimp only) <;> omega)) | exact Rd.slD 0 rfl (by (try dsimp only) <;> omega))
  case h2 => rfl
  refine' WG.y rfl rfl (by decide) (Yl.load1 tab_ok rfl rfl rfl (fun _ => rfl) ?r3 rfl ?h3) ?_
  case r3 => (first | exact Rd.ro (by assumption) | exact Rd.blk 0 rfl | (apply RS.rdD; assumption; ((try dsimp only) <;> omega)) | exact Rd.slD 0 rfl (by (try dsimp only) <;> omega))
  case h3 => rfl
  refine WG.y rfl rfl (by decide) (Yl.mul rfl rfl rfl (fun _ => rfl) (by intro _; constructor <;> (try dsimp only) <;> omega)) ?_
  refine WG.run tab_ok 2 rfl ?_
  refine WG.nil ?_
  refine WE.nxt ?_
  refine W.ret ?_
  refine WE.subE (E' := E) (by (repeat (first | exact List.Sublist.refl _ | exact List.nil_sublist _ | apply List.Sublist.cons_cons | apply List.Sublist.cons)); done) ?_
  refine WE.retF tab_ok [_] rfl ⟨rfl, trivial⟩ (RLe.refl _) ?_
  exact ⟨rfl, rfl⟩

theorem CurveDG_V {R : Ro} {e1 e2 e3 e4 e5 e6 : Nat} {cap s q l z : Int} {t : Nat} (h1 : R e1 = some [.int .i64 s]) (h2 : R e2 = some [.int .i64 q]) (h3 : R e3 = some [.int .i64 l]) (h4 : R e4 = some [.int .i64 z]) (h5 : R e5 = some [.func (.func 96) #[] #[.pointer (some ⟨e1, 0, none⟩), .pointer (some ⟨e2, 0, none⟩), .pointer (some ⟨e3, 0, none⟩), .pointer (some ⟨e4, 0, none⟩)]]) (h6 : R e6 = some [.int .i64 cap]) (hc : 0 ≤ cap ∧ cap ≤ 4000) (hq : 1 ≤ q ∧ q ≤ s) (hs : s ≤ 480000) (hl : 1 ≤ l ∧ l ≤ 1500) (hz : 0 ≤ z ∧ z ≤ 9000) (ht : t ≤ 1000) : FnV Try.prog 97 [.int .i64 (t : Int), .pointer (some ⟨e5, 0, none⟩), .pointer (some ⟨e6, 0, none⟩)] R (.int .i64 (defFn cap s q l z t)) := by
  refine Fn.toVS (fun w0 E => ?_)
  have hp2 := mulB (a := cap) (b := (t : Int)) (A := 4000) (B := 1000) (by omega) (by omega)
  refine Fn.enter (n := 7) Try.func97 rfl rfl (Nat.le_of_ble_eq_true rfl) rfl ?_
  refine W.seq ?_
  refine W.region _ ?_
  refine WL.ef rfl rfl (by decide) (Ef.box rfl rfl (fun b3 => ?_))
  refine WG.run tab_ok 1 rfl ?_
  refine WL.freezeBlk 0 rfl ?_
  intro R1 hR1 hb7
  have h1 := hR1 _ _ h1
  have h2 := hR1 _ _ h2
  have h3 := hR1 _ _ h3
  have h4 := hR1 _ _ h4
  have h5 := hR1 _ _ h5
  have h6 := hR1 _ _ h6
  generalize hbd : (cap * (t : Int)).toNat = bd
  have hbd4 : bd ≤ 4000000 := by omega
  have hHb : defH cap s q l z t bd = true := by rw [← hbd]; exact defH_bound (by omega) hq.2 hl.1 hz.1 t hc.1
  have hF : ∀ y : Nat, y ≤ 2 * bd + 1 → FnV Try.prog 98 ((#[] : Array Value).toList ++ [.int .i64 (y : Int)] ++ (#[.pointer (some ⟨e5, 0, none⟩), .pointer (some ⟨e6, 0, none⟩), .pointer (some ⟨b3, 0, none⟩)] : Array Value).toList) R1 (.bool (defH cap s q l z t y)) := fun y hy => CurveDH_V h1 h2 h3 h4 h5 h6 hb7 hc hq hs hl hz ht (by omega)
  refine WG.nil ?_
  refine WE.nxt ?_
  refine W.seq ?_
  refine W.region _ ?_
  refine WG.run tab_ok 1 rfl ?_
  refine WG.callV en78 rfl rfl (by decide) (CallOp.mk' rfl rfl rfl rfl) (fun _ => rfl) (fun hg => FirstH_V (H := defH cap s q l z t) (b := bd) en98 (by omega) hHb (fun y y' h hy => defH_mono (by omega) hq.2 h hy) hF) ?_
  refine WG.run tab_ok 1 rfl ?_
  refine WG.nil ?_
  refine WE.nxt ?_
  refine W.ret ?_
  refine WE.retF tab_ok [_] rfl ⟨rfl, trivial⟩ (hR1) ?_
  exact ⟨by subst hbd; rfl, (by (repeat (first | exact List.Sublist.refl _ | exact List.nil_sublist _ | apply List.Sublist.cons_cons | apply List.Sublist.cons)); done)⟩

end Go.Proofs.Ytcfnckccmkjjlaa

/- Chapter 20: the curve. No condition. -/
set_option linter.unusedSimpArgs false
set_option linter.unusedVariables false
namespace Go.Proofs.Ytcfnckccmkjjlaa
open Go Go.RowKit Go.Proofs.Ytcfnckccmkjjlaa.K Go.Proofs.Ytcfnckccmkjjlaa.M

theorem CurveDef_C {R : Ro} {wa za : Option Addr} {wc zc : Nat} {w : List Int} {z : List Sz} (hwr : RS R 1 encI wa w) (hzr : RS R 2 encZ za z) {cap cls : Int} (w0 : World) (E : List Ent) : K.Fn Try.prog 46 [.int .i64 cap, .int .i64 cls, .slice wa w.length wc, .slice za z.length zc] w0 R E (fun r R' E' => ∃ (f : Option Addr) (fc : Nat), r = cvV f fc (defC cap cls w z) ∧ RS R' 1 encI f (defC cap cls w z).1.vals ∧ E.Sublist E') := by
  have hla := hzr.len
  have hlw := hwr.len
  refine Fn.enter (n := 97) Try.func46 rfl rfl (Nat.le_of_ble_eq_true rfl) rfl ?_
  refine W.seq ?_
  refine W.region _ ?_
  refine WL.ef rfl rfl (by decide) (Ef.box rfl rfl (fun b4 => ?_))
  refine WL.ef rfl rfl (by decide) (Ef.alloc tab_ok rfl rfl (fun b8 => ?_))
  refine WG.run tab_ok 1 rfl ?_
  refine WG.nil ?_
  refine WE.nxt ?_
  refine W.seq ?_
  refine W.seq ?_
  refine W.region _ ?_
  refine' WG.y rfl rfl (by decide) (Yl.load1 tab_ok rfl rfl rfl (fun _ => rfl) ?r1 rfl ?h1) ?_
  case r1 => (first | exact Rd.ro (by assumption) | exact Rd.blk 0 rfl | exact Rd.blk 1 rfl | exact Rd.blk 2 rfl | exact Rd.blk 3 rfl | exact Rd.blk 4 rfl | exact Rd.blk 5 rfl | exact Rd.blk 6 rfl)
  case h1 => rfl
  refine WG.run tab_ok 3 rfl ?_
  refine WG.callV en48 rfl rfl (by decide) (CallOp.mk' rfl rfl rfl rfl) (fun _ => rfl) (fun hg => CheckDef_V hwr hzr) ?_
  refine WG.run tab_ok 1 rfl ?_
  refine WG.nil ?_
  refine WE.nxt ?_
  refine W.seq ?_
  refine W.region _ ?_
  refine WG.run tab_ok 2 rfl ?_
  refine WG.nil ?_
  refine WE.nxt ?_
  refine W.condN rfl (fun hc0 => ?_) (fun hc0 => ?_)
  · try dsimp only at hc0
    have hdef : defC cap cls w z = (zcv, chkW 6000 cap cls w z) := if_pos hc0
    refine W.seq ?_
    refine W.region _ ?_
    -- build
    refine WG.y rfl rfl (by decide) (Yl.build (parts := []) tab_ok rfl rfl rfl rfl (fun _ => rfl) rfl rfl) ?_
    refine WG.run tab_ok 1 rfl ?_
    first | refine WL.efN rfl rfl (Ef.store0 0 tab_ok rfl rfl rfl rfl rfl rfl rfl rfl ?_) | refine WL.efN rfl rfl (Ef.store0 1 tab_ok rfl rfl rfl rfl rfl rfl rfl rfl ?_) | refine WL.efN rfl rfl (Ef.store0 2 tab_ok rfl rfl rfl rfl rfl rfl rfl rfl ?_) | refine WL.efN rfl rfl (Ef.store0 3 tab_ok rfl rfl rfl rfl rfl rfl rfl rfl ?_) | refine WL.efN rfl rfl (Ef.store0 4 tab_ok rfl rfl rfl rfl rfl rfl rfl rfl ?_) | refine WL.efN rfl rfl (Ef.store0 5 tab_ok rfl rfl rfl rfl rfl rfl rfl rfl ?_) | refine WL.efN rfl rfl (Ef.store0 6 tab_ok rfl rfl rfl rfl rfl rfl rfl rfl ?_)
    refine WG.run tab_ok 1 rfl ?_
    refine WG.nil ?_
    refine WE.nxt ?_
    refine W.ret ?_
    refine WE.then_ret ?_
    refine WE.retF tab_ok [_, _] rfl ⟨⟨_, _, _, rfl, rfl, rfl, ((by first | exact Rd.blk 0 rfl | exact Rd.blk 1 rfl | exact Rd.blk 2 rfl | exact Rd.blk 3 rfl | exact Rd.blk 4 rfl | exact Rd.blk 5 rfl | exact Rd.blk 6 rfl)), rfl⟩, rfl, trivial⟩ ((by first | exact hRa.trans (hRb.trans (hRc.trans (hRu.trans (hRe.trans (hRf.trans hR4))))) | exact RLe.refl _ | exact hRa.trans (hRb.trans (hRc.trans (hRu.trans (hRe.trans hRf)))))) ?_
    exact ⟨none, 0, by rw [hdef]; rfl, by rw [hdef]; exact rs_nil, (by (repeat (first | exact List.Sublist.refl _ | exact List.nil_sublist _ | apply List.Sublist.cons_cons | apply List.Sublist.cons)); done)⟩
  · try dsimp only at hc0
    obtain ⟨_, _, hk1, hk2, _, hk4, _⟩ := chkW_ok hc0
    refine W.skip ?_
    refine WE.nxt ?_
    refine W.seq ?_
    refine W.seq ?_
    refine W.region _ ?_
    refine WG.run tab_ok 2 rfl ?_
    refine WG.y rfl rfl (by decide) (Yl.index tab_ok rfl rfl rfl rfl rfl rfl (fun _ => rfl) (by intro _; constructor <;> (try dsimp only) <;> omega) (by intro _; first | exact fun _ _ _ _ => rfl | exact RS.has (by assumption) | exact fun _ _ _ _ => (by assumption) | exact HasMem.ownD 0 rfl | exact HasMem.ownD 1 rfl | exact HasMem.ownD 2 rfl | exact HasMem.ownD 3 rfl | exact HasMem.ownD 4 rfl | exact HasMem.ownD 5 rfl | exact HasMem.ownD 6 rfl)) ?_
    refine WG.run tab_ok 1 rfl ?_
    refine' WG.y rfl rfl (by decide) (Yl.load1 tab_ok rfl rfl rfl (fun _ => rfl) ?r2 rfl ?h2) ?_
    case r2 => apply Rd.add; (first | (apply RS.rdD; assumption; ((try dsimp only) <;> omega)) | exact Rd.slD 0 rfl (by (try dsimp only) <;> omega) | exact Rd.slD 1 rfl (by (try dsimp only) <;> omega) | exact Rd.slD 2 rfl (by (try dsimp only) <;> omega) | exact Rd.slD 3 rfl (by (try dsimp only) <;> omega) | exact Rd.slD 4 rfl (by (try dsimp only) <;> omega) | exact Rd.slD 5 rfl (by (try dsimp only) <;> omega) | exact Rd.slD 6 rfl (by (try dsimp only) <;> omega))
    case h2 => rfl
    refine WG.run tab_ok 1 rfl ?_
    refine WG.nil ?_
    refine WE.nxt ?_
    refine W.condD rfl (fun hc1 => ?_) (fun hc1 => ?_)
    · try dsimp only at hc1
      have hdef : defC cap cls w z = (zcv, 5) := by unfold defC; rw [if_neg (fun h => h hc0), if_pos hc1]
      refine W.seq ?_
      refine W.region _ ?_
      -- build
      refine WG.y rfl rfl (by decide) (Yl.build (parts := []) tab_ok rfl rfl rfl rfl (fun _ => rfl) rfl rfl) ?_
      first | refine WL.efN rfl rfl (Ef.store0 0 tab_ok rfl rfl rfl rfl rfl rfl rfl rfl ?_) | refine WL.efN rfl rfl (Ef.store0 1 tab_ok rfl rfl rfl rfl rfl rfl rfl rfl ?_) | refine WL.efN rfl rfl (Ef.store0 2 tab_ok rfl rfl rfl rfl rfl rfl rfl rfl ?_) | refine WL.efN rfl rfl (Ef.store0 3 tab_ok rfl rfl rfl rfl rfl rfl rfl rfl ?_) | refine WL.efN rfl rfl (Ef.store0 4 tab_ok rfl rfl rfl rfl rfl rfl rfl rfl ?_) | refine WL.efN rfl rfl (Ef.store0 5 tab_ok rfl rfl rfl rfl rfl rfl rfl rfl ?_) | refine WL.efN rfl rfl (Ef.store0 6 tab_ok rfl rfl rfl rfl rfl rfl rfl rfl ?_)
      refine WG.run tab_ok 1 rfl ?_
      refine WG.nil ?_
      refine WE.nxt ?_
      refine W.ret ?_
      refine WE.then_ret ?_
      refine WE.retF tab_ok [_, _] rfl ⟨⟨_, _, _, rfl, rfl, rfl, ((by first | exact Rd.blk 0 rfl | exact Rd.blk 1 rfl | exact Rd.blk 2 rfl | exact Rd.blk 3 rfl | exact Rd.blk 4 rfl | exact Rd.blk 5 rfl | exact Rd.blk 6 rfl)), rfl⟩, rfl, trivial⟩ ((by first | exact hRa.trans (hRb.trans (hRc.trans (hRu.trans (hRe.trans (hRf.trans hR4))))) | exact RLe.refl _ | exact hRa.trans (hRb.trans (hRc.trans (hRu.trans (hRe.trans hRf)))))) ?_
      exact ⟨none, 0, by rw [hdef]; rfl, by rw [hdef]; exact rs_nil, (by (repeat (first | exact List.Sublist.refl _ | exact List.nil_sublist _ | apply List.Sublist.cons_cons | apply List.Sublist.cons)); done)⟩
    · try dsimp only at hc1
      obtain ⟨cn, kn, m, q, l, x, y, rfl, rfl, c1, k1, zl, hwl, hw, hz, hq, hl, q1, l1, hx, hy, x1, y1, hm, m1, hcase⟩ := def_cases hc0 (by omega)
      refine W.skip ?_
      refine WE.nxt ?_
      refine W.seqCut (β := Nat × Nat × Int × Int) (fun (b11, b12, q', l') => q = q' ∧ l = l') (fun (b11, b12, q', l') => [(1, true, .int .i64 (kn : Int)), (2, true, .slice wa w.length wc), (3, true, .slice za z.length zc), (4, true, .pointer (some ⟨b4, 0, none⟩)), (8, true, .pointer (some ⟨b8, 0, none⟩)), (11, true, .pointer (some ⟨b11, 0, none⟩)), (12, true, .pointer (some ⟨b12, 0, none⟩))]) (fun _ => R) (fun (b11, b12, q', l') => .blk b11 [.int .i64 q'] :: .blk b12 [.int .i64 l'] :: .blk b8 [.slice none 0 0, .int .i64 0, .int .i64 0] :: .blk b4 [.int .i64 (cn : Int)] :: E) ?_ ?_
      ·
        intro st hst
        obtain ⟨b11, b12, q', l'⟩ := st
        obtain ⟨rfl, rfl⟩ := hst
        dsimp only
        refine W.seq ?_
        refine W.region _ ?_
        refine WG.run tab_ok 3 rfl ?_
        refine WG.callV (v := .tuple #[.int .i64 x, .int .i64 y]) en95 rfl rfl (by decide) (CallOp.mk' rfl rfl rfl rfl) (fun _ => rfl) (fun hg => by rw [hx, hy]; exact Others20p_V hwr hzr hw hz hwl (by omega)) ?_
        refine WG.run tab_ok 3 rfl ?_
        refine WL.ef rfl rfl (by decide) (Ef.alloc tab_ok rfl rfl (fun b14 => ?_))
        refine WG.run tab_ok 1 rfl ?_
        first | refine WL.efN rfl rfl (Ef.store0 0 tab_ok rfl rfl rfl rfl rfl rfl rfl rfl ?_) | refine WL.efN rfl rfl (Ef.store0 1 tab_ok rfl rfl rfl rfl rfl rfl rfl rfl ?_) | refine WL.efN rfl rfl (Ef.store0 2 tab_ok rfl rfl rfl rfl rfl rfl rfl rfl ?_) | refine WL.efN rfl rfl (Ef.store0 3 tab_ok rfl rfl rfl rfl rfl rfl rfl rfl ?_) | refine WL.efN rfl rfl (Ef.store0 4 tab_ok rfl rfl rfl rfl rfl rfl rfl rfl ?_) | refine WL.efN rfl rfl (Ef.store0 5 tab_ok rfl rfl rfl rfl rfl rfl rfl rfl ?_) | refine WL.efN rfl rfl (Ef.store0 6 tab_ok rfl rfl rfl rfl rfl rfl rfl rfl ?_)
        refine WG.nil ?_
        refine WE.nxt ?_
        refine W.seq ?_
        refine W.region _ ?_
        refine' WG.y rfl rfl (by decide) (Yl.load1 tab_ok rfl rfl rfl (fun _ => rfl) ?r3 rfl ?h3) ?_
        case r3 => (first | exact Rd.ro (by assumption) | exact Rd.blk 0 rfl | exact Rd.blk 1 rfl | exact Rd.blk 2 rfl | exact Rd.blk 3 rfl | exact Rd.blk 4 rfl | exact Rd.blk 5 rfl | exact Rd.blk 6 rfl | (apply RS.rdD; assumption; ((try dsimp only) <;> omega)) | exact Rd.slD 0 rfl (by (try dsimp only) <;> omega) | exact Rd.slD 1 rfl (by (try dsimp only) <;> omega) | exact Rd.slD 2 rfl (by (try dsimp only) <;> omega) | exact Rd.slD 3 rfl (by (try dsimp only) <;> omega) | exact Rd.slD 4 rfl (by (try dsimp only) <;> omega) | exact Rd.slD 5 rfl (by (try dsimp only) <;> omega) | exact Rd.slD 6 rfl (by (try dsimp only) <;> omega))
        case h3 => rfl
        refine WG.run tab_ok 1 rfl ?_
        refine WG.y rfl rfl (by decide) (Yl.add rfl rfl rfl (fun _ => rfl) (by intro _; constructor <;> (try dsimp only) <;> omega)) ?_
        refine' WG.y rfl rfl (by decide) (Yl.load1 tab_ok rfl rfl rfl (fun _ => rfl) ?r4 rfl ?h4) ?_
        case r4 => (first | exact Rd.ro (by assumption) | exact Rd.blk 0 rfl | exact Rd.blk 1 rfl | exact Rd.blk 2 rfl | exact Rd.blk 3 rfl | exact Rd.blk 4 rfl | exact Rd.blk 5 rfl | exact Rd.blk 6 rfl)
        case h4 => rfl
        refine WG.callV (v := rvR (shortN m cn) cn) en76 rfl rfl (by decide) (CallOp.mk' rfl rfl rfl rfl) (fun _ => rfl) (fun hg => by rw [← hm]; exact Rounds_V (by omega) (by omega)) ?_
        refine WG.run tab_ok 4 rfl ?_
        refine WL.ef rfl rfl (by decide) (Ef.alloc tab_ok rfl rfl (fun b15 => ?_))
        first | refine WL.efN rfl rfl (Ef.store0 0 tab_ok rfl rfl rfl rfl rfl rfl rfl rfl ?_) | refine WL.efN rfl rfl (Ef.store0 1 tab_ok rfl rfl rfl rfl rfl rfl rfl rfl ?_) | refine WL.efN rfl rfl (Ef.store0 2 tab_ok rfl rfl rfl rfl rfl rfl rfl rfl ?_) | refine WL.efN rfl rfl (Ef.store0 3 tab_ok rfl rfl rfl rfl rfl rfl rfl rfl ?_) | refine WL.efN rfl rfl (Ef.store0 4 tab_ok rfl rfl rfl rfl rfl rfl rfl rfl ?_) | refine WL.efN rfl rfl (Ef.store0 5 tab_ok rfl rfl rfl rfl rfl rfl rfl rfl ?_) | refine WL.efN rfl rfl (Ef.store0 6 tab_ok rfl rfl rfl rfl rfl rfl rfl rfl ?_)
        refine WG.run tab_ok 2 rfl ?_
        refine WG.nil ?_
        refine WE.nxt ?_
        refine W.seq ?_
        refine W.seq ?_
        refine W.region _ ?_
        refine WG.run tab_ok 2 rfl ?_
        refine WG.nil ?_
        refine WE.nxt ?_
        refine W.cond rfl (fun hc2 => ?_) (fun hc2 => ?_)
        · try simp only [decide_eq_true_eq, decide_eq_false_iff_not, beq_iff_eq, bne_iff_ne, beq_eq_false_iff_ne, bne_eq_false_iff_eq, ne_eq, Bool.or_eq_true, Bool.or_eq_false_iff, Bool.and_eq_true, Bool.and_eq_false_imp, Bool.not_eq_true, Bool.not_eq_true', Bool.not_eq_false', Classical.not_not, Int.not_lt, Int.not_le, gt_iff_lt, ge_iff_le] at hc2
          have hdef : defC cn kn w z = (zcv, 3) := by
            rcases hcase with ⟨_, h⟩ | ⟨s, p, mm, hro, _⟩
            · exact h
            · rw [hro.hs] at hc2; omega
          refine W.seq ?_
          refine W.region _ ?_
          -- build
          refine WG.y rfl rfl (by decide) (Yl.build (parts := []) tab_ok rfl rfl rfl rfl (fun _ => rfl) rfl rfl) ?_
          first | refine WL.efN rfl rfl (Ef.store0 0 tab_ok rfl rfl rfl rfl rfl rfl rfl rfl ?_) | refine WL.efN rfl rfl (Ef.store0 1 tab_ok rfl rfl rfl rfl rfl rfl rfl rfl ?_) | refine WL.efN rfl rfl (Ef.store0 2 tab_ok rfl rfl rfl rfl rfl rfl rfl rfl ?_) | refine WL.efN rfl rfl (Ef.store0 3 tab_ok rfl rfl rfl rfl rfl rfl rfl rfl ?_) | refine WL.efN rfl rfl (Ef.store0 4 tab_ok rfl rfl rfl rfl rfl rfl rfl rfl ?_) | refine WL.efN rfl rfl (Ef.store0 5 tab_ok rfl rfl rfl rfl rfl rfl rfl rfl ?_) | refine WL.efN rfl rfl (Ef.store0 6 tab_ok rfl rfl rfl rfl rfl rfl rfl rfl ?_)
          refine WG.run tab_ok 1 rfl ?_
          refine WG.nil ?_
          refine WE.nxt ?_
          refine W.ret ?_
          refine WE.then_ret ?_
          refine WE.retF tab_ok [_, _] rfl ⟨⟨_, _, _, rfl, rfl, rfl, ((by first | exact Rd.blk 0 rfl | exact Rd.blk 1 rfl | exact Rd.blk 2 rfl | exact Rd.blk 3 rfl | exact Rd.blk 4 rfl | exact Rd.blk 5 rfl | exact Rd.blk 6 rfl)), rfl⟩, rfl, trivial⟩ ((by first | exact hRa.trans (hRb.trans (hRc.trans (hRu.trans (hRe.trans (hRf.trans hR4))))) | exact RLe.refl _ | exact hRa.trans (hRb.trans (hRc.trans (hRu.trans (hRe.trans hRf)))))) ?_
          exact ⟨none, 0, by rw [hdef]; rfl, by rw [hdef]; exact rs_nil, (by (repeat (first | exact List.Sublist.refl _ | exact List.nil_sublist _ | apply List.Sublist.cons_cons | apply List.Sublist.cons)); done)⟩
        · try simp only [decide_eq_true_eq, decide_eq_false_iff_not, beq_iff_eq, bne_iff_ne, beq_eq_false_iff_ne, bne_eq_false_iff_eq, ne_eq, Bool.or_eq_true, Bool.or_eq_false_iff, Bool.and_eq_true, Bool.and_eq_false_imp, Bool.not_eq_true, Bool.not_eq_true', Bool.not_eq_false', Classical.not_not, Int.not_lt, Int.not_le, gt_iff_lt, ge_iff_le] at hc2
          refine W.skip ?_
          refine WE.nxt ?_
          obtain ⟨s, p, mm, hro, hdef⟩ : ∃ s p mm, DefOk cn kn w z cn kn m s p mm q l x y ∧ defC cn kn w z = if 400 < fromD cn s q l y then (zcv, 3) else madeR ⟨fvals (defFn cn s q l y) ((fromD cn s q l y).toNat + p), p, (cn : Int) * p / s * q⟩ := by
            rcases hcase with ⟨h, _⟩ | h
            · exact absurd h hc2
            · exact h
          have hsn := hro.hs
          have hne : ¬ ((s : Int) = -1) := by omega
          have hs1 := hro.s1
          have hsx := hro.sx
          have hp1 := hro.p1
          have hsb : (s : Int) ≤ 480000 := by omega
          obtain ⟨hst0, hst1, hst2⟩ := start_bound (cap := (cn : Int)) (s := (s : Int)) (q := q) (l := l) (z := y) (by omega) (by omega) (by omega) (by omega) (by omega)
          have hFb : ∀ t : Nat, t ≤ 1000 → 0 ≤ defFn cn s q l y t ∧ defFn cn s q l y t ≤ 4000000 := fun t ht => by
            have h1 := defFn_bound (cap := (cn : Int)) (s := (s : Int)) (q := q) (l := l) (z := y) (by omega) (by omega) (by omega) (by omega) (by omega) t
            have h2 := mulB (a := (cn : Int)) (b := (t : Int)) (A := 4000) (B := 1000) (by omega) (by omega)
            omega
          have hinc : 0 ≤ (cn : Int) * p / s * q ∧ (cn : Int) * p / s * q ≤ 24000000 := by
            rw [hro.hinc]
            have := hro.mm1
            have := mulB (a := (mm : Int)) (b := q) (A := 4000) (B := 6000) (by omega) (by omega)
            omega
          have hcp := mulB (a := (cn : Int)) (b := (p : Int)) (A := 4000) (B := 120) (by omega) (by omega)
          have hcq : 0 ≤ (cn : Int) * p / s := Int.ediv_nonneg (by omega) (by omega)
          have hcq2 : (cn : Int) * p / s ≤ (cn : Int) * p := Int.ediv_le_self _ (by omega)
          rw [hsn, if_neg hne, if_neg hne, Int.toNat_natCast, ← hro.hp]
          refine W.seq ?_
          refine W.region _ ?_
          refine WG.y rfl rfl (by decide) (Yl.makeFunc (fi := []) (ca := [.tmp 15, .tmp 11, .tmp 12, .tmp 14]) rfl rfl rfl (fun _ => rfl)) ?_
          refine WL.ef rfl rfl (by decide) (Ef.alloc tab_ok rfl rfl (fun b18 => ?_))
          first | refine WL.efN rfl rfl (Ef.store0 0 tab_ok rfl rfl rfl rfl rfl rfl rfl rfl ?_) | refine WL.efN rfl rfl (Ef.store0 1 tab_ok rfl rfl rfl rfl rfl rfl rfl rfl ?_) | refine WL.efN rfl rfl (Ef.store0 2 tab_ok rfl rfl rfl rfl rfl rfl rfl rfl ?_) | refine WL.efN rfl rfl (Ef.store0 3 tab_ok rfl rfl rfl rfl rfl rfl rfl rfl ?_) | refine WL.efN rfl rfl (Ef.store0 4 tab_ok rfl rfl rfl rfl rfl rfl rfl rfl ?_) | refine WL.efN rfl rfl (Ef.store0 5 tab_ok rfl rfl rfl rfl rfl rfl rfl rfl ?_) | refine WL.efN rfl rfl (Ef.store0 6 tab_ok rfl rfl rfl rfl rfl rfl rfl rfl ?_)
          refine WG.nil ?_
          refine WE.nxt ?_
          refine W.freezeBlk 0 rfl ?_
          intro Ra hRa hb18
          refine W.freezeBlk 0 rfl ?_
          intro Rb hRb hb15
          have hb18 := hRb _ _ hb18
          refine W.freezeBlk 0 rfl ?_
          intro Rc hRc hb14
          have hb18 := hRc _ _ hb18
          have hb15 := hRc _ _ hb15
          refine W.freezeBlk 0 rfl ?_
          intro Ru hRu hb11
          have hb18 := hRu _ _ hb18
          have hb15 := hRu _ _ hb15
          have hb14 := hRu _ _ hb14
          refine W.freezeBlk 0 rfl ?_
          intro Re hRe hb12
          have hb18 := hRe _ _ hb18
          have hb15 := hRe _ _ hb15
          have hb14 := hRe _ _ hb14
          have hb11 := hRe _ _ hb11
          refine W.freezeBlk 1 rfl ?_
          intro Rf hRf hb4
          have hb18 := hRf _ _ hb18
          have hb15 := hRf _ _ hb15
          have hb14 := hRf _ _ hb14
          have hb11 := hRf _ _ hb11
          have hb12 := hRf _ _ hb12
          have hF : ∀ t : Nat, t ≤ 1000 → FnV Try.prog 97 ((#[] : Array Value).toList ++ [.int .i64 (t : Int)] ++ (#[.pointer (some ⟨b18, 0, none⟩), .pointer (some ⟨b4, 0, none⟩)] : Array Value).toList) Rf (.int .i64 (defFn cn s q l y t)) := fun t ht => CurveDG_V hb15 hb11 hb12 hb14 hb18 hb4 (by omega) (by omega) hsb l1 y1 ht
          refine W.seq ?_
          refine W.region _ ?_
          refine WG.run tab_ok 1 rfl ?_
          refine WG.nil ?_
          refine WE.nxt ?_
          refine W.seqCut (β := Int) (fun st0 => st0 = startD cn s q l y) (fun st0 => [(4, true, .pointer (some ⟨b4, 0, none⟩)), (8, true, .pointer (some ⟨b8, 0, none⟩)), (11, true, .pointer (some ⟨b11, 0, none⟩)), (15, true, .pointer (some ⟨b15, 0, none⟩)), (16, true, .int .i64 (p : Int)), (18, true, .pointer (some ⟨b18, 0, none⟩)), (19, true, .int .i64 st0)]) (fun _ => Rf) (fun _ => .blk b8 [.slice none 0 0, .int .i64 0, .int .i64 0] :: E) ?_ ?_
          ·
            intro st0 hst
            obtain ⟨S, hS⟩ := Int.eq_ofNat_of_zero_le (show 0 ≤ st0 by omega)
            subst hS
            refine W.seq ?_
            refine W.seq ?_
            refine W.region _ ?_
            refine WG.run tab_ok 2 rfl ?_
            refine WG.nil ?_
            refine WE.nxt ?_
            refine W.condD rfl (fun hc3 => ?_) (fun hc3 => ?_)
            · try dsimp only at hc3
              have hdef : defC cn kn w z = (zcv, 3) := by rw [hdef, if_pos (by omega)]
              refine W.seq ?_
              refine W.region _ ?_
              -- build
              refine WG.y rfl rfl (by decide) (Yl.build (parts := []) tab_ok rfl rfl rfl rfl (fun _ => rfl) rfl rfl) ?_
              first | refine WL.efN rfl rfl (Ef.store0 0 tab_ok rfl rfl rfl rfl rfl rfl rfl rfl ?_) | refine WL.efN rfl rfl (Ef.store0 1 tab_ok rfl rfl rfl rfl rfl rfl rfl rfl ?_) | refine WL.efN rfl rfl (Ef.store0 2 tab_ok rfl rfl rfl rfl rfl rfl rfl rfl ?_) | refine WL.efN rfl rfl (Ef.store0 3 tab_ok rfl rfl rfl rfl rfl rfl rfl rfl ?_) | refine WL.efN rfl rfl (Ef.store0 4 tab_ok rfl rfl rfl rfl rfl rfl rfl rfl ?_) | refine WL.efN rfl rfl (Ef.store0 5 tab_ok rfl rfl rfl rfl rfl rfl rfl rfl ?_) | refine WL.efN rfl rfl (Ef.store0 6 tab_ok rfl rfl rfl rfl rfl rfl rfl rfl ?_)
              refine WG.run tab_ok 1 rfl ?_
              refine WG.nil ?_
              refine WE.nxt ?_
              refine W.ret ?_
              refine WE.then_ret ?_
              refine WE.retF tab_ok [_, _] rfl ⟨⟨_, _, _, rfl, rfl, rfl, ((by first | exact Rd.blk 0 rfl | exact Rd.blk 1 rfl | exact Rd.blk 2 rfl | exact Rd.blk 3 rfl | exact Rd.blk 4 rfl | exact Rd.blk 5 rfl | exact Rd.blk 6 rfl)), rfl⟩, rfl, trivial⟩ ((by first | exact hRa.trans (hRb.trans (hRc.trans (hRu.trans (hRe.trans (hRf.trans hR4))))) | exact RLe.refl _ | exact hRa.trans (hRb.trans (hRc.trans (hRu.trans (hRe.trans hRf)))))) ?_
              exact ⟨none, 0, by rw [hdef]; rfl, by rw [hdef]; exact rs_nil, (by (repeat (first | exact List.Sublist.refl _ | exact List.nil_sublist _ | apply List.Sublist.cons_cons | apply List.Sublist.cons)); done)⟩
            · try dsimp only at hc3
              have hF : ∀ t : Nat, t < S + p → FnV Try.prog 97 ((#[] : Array Value).toList ++ [.int .i64 (t : Int)] ++ (#[.pointer (some ⟨b18, 0, none⟩), .pointer (some ⟨b4, 0, none⟩)] : Array Value).toList) Rf (.int .i64 (defFn cn s q l y t)) := fun t ht => hF t (by omega)
              refine W.skip ?_
              refine WE.nxt ?_
              refine W.seq ?_
              refine W.region _ ?_
              refine WG.run tab_ok 2 rfl ?_
              refine WG.nil ?_
              refine WE.nxt ?_
              refine W.seq ?_
              refine W.regionH _ (ES := []) mixed ?_
              refine WA.take 0 rfl (by kernel_rfl) (by kernel_rfl) (by kernel_rfl) rfl rfl (by decide) (pureV_ok tab_ok rfl (fun _ => rfl)) (by (repeat (first | exact List.Sublist.refl _ | exact List.nil_sublist _ | apply List.Sublist.cons_cons | apply List.Sublist.cons)); done) (by first | exact RLe.refl _ | assumption) ?_
              refine WA.take 1 rfl (by kernel_rfl) (by kernel_rfl) (by kernel_rfl) rfl rfl (by decide) (pureV_ok tab_ok rfl (fun _ => rfl)) (by (repeat (first | exact List.Sublist.refl _ | exact List.nil_sublist _ | apply List.Sublist.cons_cons | apply List.Sublist.cons)); done) (by first | exact RLe.refl _ | assumption) ?_
              refine WA.take 2 rfl (by kernel_rfl) (by kernel_rfl) (by kernel_rfl) rfl rfl (by decide) (pureV_ok tab_ok rfl (fun _ => rfl)) (by (repeat (first | exact List.Sublist.refl _ | exact List.nil_sublist _ | apply List.Sublist.cons_cons | apply List.Sublist.cons)); done) (by first | exact RLe.refl _ | assumption) ?_
              refine' WA.take 3 rfl (by kernel_rfl) (by kernel_rfl) (by kernel_rfl) rfl rfl (by decide) (Yl.load1 tab_ok rfl rfl rfl (fun _ => rfl) ?r5 rfl ?h5) (by (repeat (first | exact List.Sublist.refl _ | exact List.nil_sublist _ | apply List.Sublist.cons_cons | apply List.Sublist.cons)); done) (by first | exact RLe.refl _ | assumption) ?_
              case r5 => (first | exact Rd.ro (by assumption) | exact Rd.blk 0 rfl | exact Rd.blk 1 rfl | exact Rd.blk 2 rfl | exact Rd.blk 3 rfl | exact Rd.blk 4 rfl | exact Rd.blk 5 rfl | exact Rd.blk 6 rfl)
              case h5 => rfl
              refine WA.take 4 rfl (by kernel_rfl) (by kernel_rfl) (by kernel_rfl) rfl rfl (by decide) (pureV_ok tab_ok rfl (fun _ => rfl)) (by (repeat (first | exact List.Sublist.refl _ | exact List.nil_sublist _ | apply List.Sublist.cons_cons | apply List.Sublist.cons)); done) (by first | exact RLe.refl _ | assumption) ?_
              refine WA.take 5 rfl (by kernel_rfl) (by kernel_rfl) (by kernel_rfl) rfl rfl (by decide) (Yl.mul rfl rfl rfl (fun _ => rfl) (by intro _; constructor <;> (try dsimp only) <;> omega)) (by (repeat (first | exact List.Sublist.refl _ | exact List.nil_sublist _ | apply List.Sublist.cons_cons | apply List.Sublist.cons)); done) (by first | exact RLe.refl _ | assumption) ?_
              refine' WA.take 6 rfl (by kernel_rfl) (by kernel_rfl) (by kernel_rfl) rfl rfl (by decide) (Yl.load1 tab_ok rfl rfl rfl (fun _ => rfl) ?r6 rfl ?h6) (by (repeat (first | exact List.Sublist.refl _ | exact List.nil_sublist _ | apply List.Sublist.cons_cons | apply List.Sublist.cons)); done) (by first | exact RLe.refl _ | assumption) ?_
              case r6 => (first | exact Rd.ro (by assumption) | exact Rd.blk 0 rfl | exact Rd.blk 1 rfl | exact Rd.blk 2 rfl | exact Rd.blk 3 rfl | exact Rd.blk 4 rfl | exact Rd.blk 5 rfl | exact Rd.blk 6 rfl)
              case h6 => rfl
              refine WA.take 7 rfl (by kernel_rfl) (by kernel_rfl) (by kernel_rfl) rfl rfl (by decide) (Yl.quo rfl rfl rfl (fun _ => rfl) (by intro _; constructor <;> (try dsimp only) <;> omega) (by intro _; omega)) (by (repeat (first | exact List.Sublist.refl _ | exact List.nil_sublist _ | apply List.Sublist.cons_cons | apply List.Sublist.cons)); done) (by first | exact RLe.refl _ | assumption) ?_
              refine' WA.take 8 rfl (by kernel_rfl) (by kernel_rfl) (by kernel_rfl) rfl rfl (by decide) (Yl.load1 tab_ok rfl rfl rfl (fun _ => rfl) ?r7 rfl ?h7) (by (repeat (first | exact List.Sublist.refl _ | exact List.nil_sublist _ | apply List.Sublist.cons_cons | apply List.Sublist.cons)); done) (by first | exact RLe.refl _ | assumption) ?_
              case r7 => (first | exact Rd.ro (by assumption) | exact Rd.blk 0 rfl | exact Rd.blk 1 rfl | exact Rd.blk 2 rfl | exact Rd.blk 3 rfl | exact Rd.blk 4 rfl | exact Rd.blk 5 rfl | exact Rd.blk 6 rfl | (apply RS.rdD; assumption; ((try dsimp only) <;> omega)) | exact Rd.slD 0 rfl (by (try dsimp only) <;> omega) | exact Rd.slD 1 rfl (by (try dsimp only) <;> omega) | exact Rd.slD 2 rfl (by (try dsimp only) <;> omega) | exact Rd.slD 3 rfl (by (try dsimp only) <;> omega) | exact Rd.slD 4 rfl (by (try dsimp only) <;> omega) | exact Rd.slD 5 rfl (by (try dsimp only) <;> omega) | exact Rd.slD 6 rfl (by (try dsimp only) <;> omega))
              case h7 => rfl
              refine WA.take 9 rfl (by kernel_rfl) (by kernel_rfl) (by kernel_rfl) rfl rfl (by decide) (Yl.mul rfl rfl rfl (fun _ => rfl) (by intro _; constructor <;> (try dsimp only) <;> omega)) (by (repeat (first | exact List.Sublist.refl _ | exact List.nil_sublist _ | apply List.Sublist.cons_cons | apply List.Sublist.cons)); done) (by first | exact RLe.refl _ | assumption) ?_
              refine WA.callG 10 rfl (by kernel_rfl) en80 rfl (by first | rfl | decide) rfl (by decide) (CallOp.mkT rfl rfl rfl rfl) (Build_C (S := S) (P := p) (F := (defFn (cn : Int) (s : Int) q l y)) en97 (by omega) (by omega) (by omega) (fun t ht => .inr (by have := hFb t (by omega); omega)) hF w0 _) ?_
              rintro _ R4 E4 hR4 ⟨f, fc, rfl, hf, hsub⟩
              refine ⟨hR4, List.nil_sublist _, ?_⟩
              refine WA.subE hsub ?_
              have hbm : mbuild (defFn cn s q l y) S p ((cn : Int) * p / s * q) = defC cn kn w z := by
                rw [hdef, hro.hinc, show S = (startD (cn : Int) (s : Int) q l y).toNat by omega]
                exact def_build (by omega) (by omega) (by omega) (by omega) (by omega) (by omega) hro.hmm (by omega)
              rw [hbm] at hf ⊢
              unfold cvV
              refine WA.take 11 rfl (by kernel_rfl) (by kernel_rfl) (by kernel_rfl) rfl rfl (by decide) (pureV_ok tab_ok rfl (fun _ => rfl)) (by (repeat (first | exact List.Sublist.refl _ | exact List.nil_sublist _ | apply List.Sublist.cons_cons | apply List.Sublist.cons)); done) (by first | exact RLe.refl _ | assumption) ?_
              refine WA.take 12 rfl (by kernel_rfl) (by kernel_rfl) (by kernel_rfl) rfl rfl (by decide) (pureV_ok tab_ok rfl (fun _ => rfl)) (by (repeat (first | exact List.Sublist.refl _ | exact List.nil_sublist _ | apply List.Sublist.cons_cons | apply List.Sublist.cons)); done) (by first | exact RLe.refl _ | assumption) ?_
              first | refine WA.effN 13 rfl (by kernel_rfl) rfl rfl (Ef.store0 0 tab_ok rfl rfl rfl rfl rfl rfl rfl rfl ?_) | refine WA.effN 13 rfl (by kernel_rfl) rfl rfl (Ef.store0 1 tab_ok rfl rfl rfl rfl rfl rfl rfl rfl ?_) | refine WA.effN 13 rfl (by kernel_rfl) rfl rfl (Ef.store0 2 tab_ok rfl rfl rfl rfl rfl rfl rfl rfl ?_) | refine WA.effN 13 rfl (by kernel_rfl) rfl rfl (Ef.store0 3 tab_ok rfl rfl rfl rfl rfl rfl rfl rfl ?_) | refine WA.effN 13 rfl (by kernel_rfl) rfl rfl (Ef.store0 4 tab_ok rfl rfl rfl rfl rfl rfl rfl rfl ?_) | refine WA.effN 13 rfl (by kernel_rfl) rfl rfl (Ef.store0 5 tab_ok rfl rfl rfl rfl rfl rfl rfl rfl ?_) | refine WA.effN 13 rfl (by kernel_rfl) rfl rfl (Ef.store0 6 tab_ok rfl rfl rfl rfl rfl rfl rfl rfl ?_)
              refine ⟨by first | exact RLe.refl _ | assumption, (by (repeat (first | exact List.Sublist.refl _ | exact List.nil_sublist _ | apply List.Sublist.cons_cons | apply List.Sublist.cons)); done), ?_⟩
              refine WA.take 14 rfl (by kernel_rfl) (by kernel_rfl) (by kernel_rfl) rfl rfl (by decide) (pureV_ok tab_ok rfl (fun _ => rfl)) (by (repeat (first | exact List.Sublist.refl _ | exact List.nil_sublist _ | apply List.Sublist.cons_cons | apply List.Sublist.cons)); done) (by first | exact RLe.refl _ | assumption) ?_
              refine WA.done (by kernel_rfl) ?_
              refine WE.nxt ?_
              refine W.ret ?_
              refine WE.retF tab_ok [_, _] rfl ⟨⟨_, _, _, rfl, rfl, rfl, ((by first | exact Rd.blk 0 rfl | exact Rd.blk 1 rfl | exact Rd.blk 2 rfl | exact Rd.blk 3 rfl | exact Rd.blk 4 rfl | exact Rd.blk 5 rfl | exact Rd.blk 6 rfl)), rfl⟩, rfl, trivial⟩ ((by first | exact hRa.trans (hRb.trans (hRc.trans (hRu.trans (hRe.trans (hRf.trans hR4))))) | exact RLe.refl _ | exact hRa.trans (hRb.trans (hRc.trans (hRu.trans (hRe.trans hRf)))))) ?_
              exact ⟨f, fc, rfl, hf, (by (repeat (first | exact List.Sublist.refl _ | exact List.nil_sublist _ | apply List.Sublist.cons_cons | apply List.Sublist.cons)); done)⟩
          ·
            refine W.seq ?_
            refine W.region _ ?_
            refine' WG.y rfl rfl (by decide) (Yl.load1 tab_ok rfl rfl rfl (fun _ => rfl) ?r8 rfl ?h8) ?_
            case r8 => (first | exact Rd.ro (by assumption) | exact Rd.blk 0 rfl | exact Rd.blk 1 rfl | exact Rd.blk 2 rfl | exact Rd.blk 3 rfl | exact Rd.blk 4 rfl | exact Rd.blk 5 rfl | exact Rd.blk 6 rfl | (apply RS.rdD; assumption; ((try dsimp only) <;> omega)) | exact Rd.slD 0 rfl (by (try dsimp only) <;> omega) | exact Rd.slD 1 rfl (by (try dsimp only) <;> omega) | exact Rd.slD 2 rfl (by (try dsimp only) <;> omega) | exact Rd.slD 3 rfl (by (try dsimp only) <;> omega) | exact Rd.slD 4 rfl (by (try dsimp only) <;> omega) | exact Rd.slD 5 rfl (by (try dsimp only) <;> omega) | exact Rd.slD 6 rfl (by (try dsimp only) <;> omega))
            case h8 => rfl
            refine WG.run tab_ok 1 rfl ?_
            refine WG.nil ?_
            refine WE.nxt ?_
            refine W.condD rfl (fun hc4 => ?_) (fun hc4 => ?_)
            · try dsimp only at hc4
              have e19 : (allD s q l y (-1)).tdiv cn + 1 = startD cn s q l y := (if_pos hc4).symm
              have hA1 := allD_ge (s := (s : Int)) (q := q) (l := l) (z := y) (y := -1) (by omega) (by omega) (by omega) (by omega)
              have hA2 : allD s q l y (-1) ≤ 2000000000 := by
                unfold allD
                have hq0 : 0 ≤ (-1 + l - 1) / q := Int.ediv_nonneg (by omega) (by omega)
                have hq1 : (-1 + l - 1) / q ≤ -1 + l - 1 := Int.ediv_le_self _ (by omega)
                have := mulB (a := (s : Int) - q) (b := (-1 + l - 1) / q + 1) (A := 480000) (B := 1501) (by omega) (by omega)
                omega
              have hA3 : ((allD s q l y (-1)).tdiv cn).natAbs ≤ (allD s q l y (-1)).natAbs := by rw [Int.natAbs_tdiv]; exact Nat.div_le_self _ _
              refine W.regionQ _ mixed (by kernel_rfl) ?_
              refine' WG.y rfl rfl (by decide) (Yl.load1 tab_ok rfl rfl rfl (fun _ => rfl) ?r9 rfl ?h9) ?_
              case r9 => (first | exact Rd.ro (by assumption) | exact Rd.blk 0 rfl | exact Rd.blk 1 rfl | exact Rd.blk 2 rfl | exact Rd.blk 3 rfl | exact Rd.blk 4 rfl | exact Rd.blk 5 rfl | exact Rd.blk 6 rfl)
              case h9 => rfl
              refine WG.callV (v := .int .i64 (allD s q l y (-1))) en96 rfl rfl (by decide) (CallOp.mk' rfl rfl rfl rfl) (fun _ => rfl) (fun hg => CurveDA_V hb15 hb11 hb12 hb14 (by omega) hsb l1 y1 ⟨by omega, by omega⟩ (by omega)) ?_
              refine' WG.y rfl rfl (by decide) (Yl.load1 tab_ok rfl rfl rfl (fun _ => rfl) ?r10 rfl ?h10) ?_
              case r10 => (first | exact Rd.ro (by assumption) | exact Rd.blk 0 rfl | exact Rd.blk 1 rfl | exact Rd.blk 2 rfl | exact Rd.blk 3 rfl | exact Rd.blk 4 rfl | exact Rd.blk 5 rfl | exact Rd.blk 6 rfl)
              case h10 => rfl
              refine WG.y rfl rfl (by decide) (Yl.tquo rfl rfl rfl (fun _ => rfl) (by intro _; constructor <;> (try dsimp only) <;> omega) (by intro _; omega)) ?_
              refine WG.y rfl rfl (by decide) (Yl.add rfl rfl rfl (fun _ => rfl) (by intro _; constructor <;> (try dsimp only) <;> omega)) ?_
              refine WG.run tab_ok 1 rfl ?_
              refine WG.nil ?_
              refine WE.cut _ e19 ⟨rfl, rfl, rfl, rfl, rfl, rfl, rfl, rfl⟩ (RLe.refl _) (by (repeat (first | exact List.Sublist.refl _ | exact List.nil_sublist _ | apply List.Sublist.cons_cons | apply List.Sublist.cons)); done)
            · try dsimp only at hc4
              refine W.seq ?_
              refine W.region _ ?_
              refine' WG.y rfl rfl (by decide) (Yl.load1 tab_ok rfl rfl rfl (fun _ => rfl) ?r11 rfl ?h11) ?_
              case r11 => (first | exact Rd.ro (by assumption) | exact Rd.blk 0 rfl | exact Rd.blk 1 rfl | exact Rd.blk 2 rfl | exact Rd.blk 3 rfl | exact Rd.blk 4 rfl | exact Rd.blk 5 rfl | exact Rd.blk 6 rfl)
              case h11 => rfl
              refine WG.run tab_ok 1 rfl ?_
              refine WG.nil ?_
              refine WE.nxt ?_
              refine W.condD rfl (fun hc5 => ?_) (fun hc5 => ?_)
              · try dsimp only at hc5
                have e19 : (y - 1) / cn + 1 = startD cn s q l y := by unfold startD; rw [if_neg (by omega), if_pos hc5]
                have hA3 : (y - 1) / (cn : Int) ≤ y - 1 := Int.ediv_le_self _ (by omega)
                have hA4 : 0 ≤ (y - 1) / (cn : Int) := Int.ediv_nonneg (by omega) (by omega)
                refine W.region _ ?_
                refine' WG.y rfl rfl (by decide) (Yl.load1 tab_ok rfl rfl rfl (fun _ => rfl) ?r12 rfl ?h12) ?_
                case r12 => (first | exact Rd.ro (by assumption) | exact Rd.blk 0 rfl | exact Rd.blk 1 rfl | exact Rd.blk 2 rfl | exact Rd.blk 3 rfl | exact Rd.blk 4 rfl | exact Rd.blk 5 rfl | exact Rd.blk 6 rfl)
                case h12 => rfl
                refine WG.y rfl rfl (by decide) (Yl.sub rfl rfl rfl (fun _ => rfl) (by intro _; constructor <;> (try dsimp only) <;> omega)) ?_
                refine' WG.y rfl rfl (by decide) (Yl.load1 tab_ok rfl rfl rfl (fun _ => rfl) ?r13 rfl ?h13) ?_
                case r13 => (first | exact Rd.ro (by assumption) | exact Rd.blk 0 rfl | exact Rd.blk 1 rfl | exact Rd.blk 2 rfl | exact Rd.blk 3 rfl | exact Rd.blk 4 rfl | exact Rd.blk 5 rfl | exact Rd.blk 6 rfl)
                case h13 => rfl
                refine WG.y rfl rfl (by decide) (Yl.quo rfl rfl rfl (fun _ => rfl) (by intro _; constructor <;> (try dsimp only) <;> omega) (by intro _; omega)) ?_
                refine WG.y rfl rfl (by decide) (Yl.add rfl rfl rfl (fun _ => rfl) (by intro _; constructor <;> (try dsimp only) <;> omega)) ?_
                refine WG.run tab_ok 1 rfl ?_
                refine WG.nil ?_
                refine WE.cut _ e19 ⟨rfl, rfl, rfl, rfl, rfl, rfl, rfl, rfl⟩ (RLe.refl _) (by (repeat (first | exact List.Sublist.refl _ | exact List.nil_sublist _ | apply List.Sublist.cons_cons | apply List.Sublist.cons)); done)
              · try dsimp only at hc5
                have e19 : 0 = startD cn s q l y := by unfold startD; rw [if_neg (by omega), if_neg (by omega)]
                refine W.skip ?_
                refine WE.cut (0 : Int) e19 ⟨rfl, rfl, rfl, rfl, rfl, rfl, rfl, rfl⟩ (RLe.refl _) (by (repeat (first | exact List.Sublist.refl _ | exact List.nil_sublist _ | apply List.Sublist.cons_cons | apply List.Sublist.cons)); done)
      ·
        refine W.regionH _ (ES := [.blk b8 [.slice none 0 0, .int .i64 0, .int .i64 0]]) mixed ?_
        refine WA.take 0 rfl (by kernel_rfl) (by kernel_rfl) (by kernel_rfl) rfl rfl (by decide) (pureV_ok tab_ok rfl (fun _ => rfl)) (by (repeat (first | exact List.Sublist.refl _ | exact List.nil_sublist _ | apply List.Sublist.cons_cons | apply List.Sublist.cons)); done) (by first | exact RLe.refl _ | assumption) ?_
        refine WA.take 1 rfl (by kernel_rfl) (by kernel_rfl) (by kernel_rfl) rfl rfl (by decide) (pureV_ok tab_ok rfl (fun _ => rfl)) (by (repeat (first | exact List.Sublist.refl _ | exact List.nil_sublist _ | apply List.Sublist.cons_cons | apply List.Sublist.cons)); done) (by first | exact RLe.refl _ | assumption) ?_
        refine WA.take 2 rfl (by kernel_rfl) (by kernel_rfl) (by kernel_rfl) rfl rfl (by decide) (Yl.index tab_ok rfl rfl rfl rfl rfl rfl (fun _ => rfl) (by intro _; constructor <;> (try dsimp only) <;> omega) (by intro _; first | exact fun _ _ _ _ => rfl | exact RS.has (by assumption) | exact fun _ _ _ _ => (by assumption) | exact HasMem.ownD 0 rfl | exact HasMem.ownD 1 rfl | exact HasMem.ownD 2 rfl | exact HasMem.ownD 3 rfl | exact HasMem.ownD 4 rfl | exact HasMem.ownD 5 rfl | exact HasMem.ownD 6 rfl)) (by (repeat (first | exact List.Sublist.refl _ | exact List.nil_sublist _ | apply List.Sublist.cons_cons | apply List.Sublist.cons)); done) (by first | exact RLe.refl _ | assumption) ?_
        refine' WA.take 3 rfl (by kernel_rfl) (by kernel_rfl) (by kernel_rfl) rfl rfl (by decide) (Yl.load1 tab_ok rfl rfl rfl (fun _ => rfl) ?r14 rfl ?h14) (by (repeat (first | exact List.Sublist.refl _ | exact List.nil_sublist _ | apply List.Sublist.cons_cons | apply List.Sublist.cons)); done) (by first | exact RLe.refl _ | assumption) ?_
        case r14 => (first | (apply RS.rdD; assumption; ((try dsimp only) <;> omega)) | exact Rd.slD 0 rfl (by (try dsimp only) <;> omega) | exact Rd.slD 1 rfl (by (try dsimp only) <;> omega) | exact Rd.slD 2 rfl (by (try dsimp only) <;> omega) | exact Rd.slD 3 rfl (by (try dsimp only) <;> omega) | exact Rd.slD 4 rfl (by (try dsimp only) <;> omega) | exact Rd.slD 5 rfl (by (try dsimp only) <;> omega) | exact Rd.slD 6 rfl (by (try dsimp only) <;> omega))
        case h14 => rfl
        refine WA.take 4 rfl (by kernel_rfl) (by kernel_rfl) (by kernel_rfl) rfl rfl (by decide) (pureV_ok tab_ok rfl (fun _ => rfl)) (by (repeat (first | exact List.Sublist.refl _ | exact List.nil_sublist _ | apply List.Sublist.cons_cons | apply List.Sublist.cons)); done) (by first | exact RLe.refl _ | assumption) ?_
        refine WA.take 5 rfl (by kernel_rfl) (by kernel_rfl) (by kernel_rfl) rfl rfl (by decide) (pureV_ok tab_ok rfl (fun _ => rfl)) (by (repeat (first | exact List.Sublist.refl _ | exact List.nil_sublist _ | apply List.Sublist.cons_cons | apply List.Sublist.cons)); done) (by first | exact RLe.refl _ | assumption) ?_
        refine WA.take 6 rfl (by kernel_rfl) (by kernel_rfl) (by kernel_rfl) rfl rfl (by decide) (Yl.index tab_ok rfl rfl rfl rfl rfl rfl (fun _ => rfl) (by intro _; constructor <;> (try dsimp only) <;> omega) (by intro _; first | exact fun _ _ _ _ => rfl | exact RS.has (by assumption) | exact fun _ _ _ _ => (by assumption) | exact HasMem.ownD 0 rfl | exact HasMem.ownD 1 rfl | exact HasMem.ownD 2 rfl | exact HasMem.ownD 3 rfl | exact HasMem.ownD 4 rfl | exact HasMem.ownD 5 rfl | exact HasMem.ownD 6 rfl)) (by (repeat (first | exact List.Sublist.refl _ | exact List.nil_sublist _ | apply List.Sublist.cons_cons | apply List.Sublist.cons)); done) (by first | exact RLe.refl _ | assumption) ?_
        refine WA.take 7 rfl (by kernel_rfl) (by kernel_rfl) (by kernel_rfl) rfl rfl (by decide) (pureV_ok tab_ok rfl (fun _ => rfl)) (by (repeat (first | exact List.Sublist.refl _ | exact List.nil_sublist _ | apply List.Sublist.cons_cons | apply List.Sublist.cons)); done) (by first | exact RLe.refl _ | assumption) ?_
        refine' WA.take 8 rfl (by kernel_rfl) (by kernel_rfl) (by kernel_rfl) rfl rfl (by decide) (Yl.load1 tab_ok rfl rfl rfl (fun _ => rfl) ?r15 rfl ?h15) (by (repeat (first | exact List.Sublist.refl _ | exact List.nil_sublist _ | apply List.Sublist.cons_cons | apply List.Sublist.cons)); done) (by first | exact RLe.refl _ | assumption) ?_
        case r15 => apply Rd.add; (first | (apply RS.rdD; assumption; ((try dsimp only) <;> omega)) | exact Rd.slD 0 rfl (by (try dsimp only) <;> omega) | exact Rd.slD 1 rfl (by (try dsimp only) <;> omega) | exact Rd.slD 2 rfl (by (try dsimp only) <;> omega) | exact Rd.slD 3 rfl (by (try dsimp only) <;> omega) | exact Rd.slD 4 rfl (by (try dsimp only) <;> omega) | exact Rd.slD 5 rfl (by (try dsimp only) <;> omega) | exact Rd.slD 6 rfl (by (try dsimp only) <;> omega))
        case h15 => rfl
        refine WA.br2 (i := 9) (j := 10) (by kernel_rfl) ?_ ?_
        ·
          refine WS.eff rfl rfl rfl (by decide) (Ef.alloc tab_ok rfl rfl (fun b11 => ?_))
          refine ⟨RLe.refl _, (by (repeat (first | exact List.Sublist.refl _ | exact List.nil_sublist _ | apply List.Sublist.cons_cons | apply List.Sublist.cons)); done), ?_⟩
          refine WA.eff 10 rfl (by kernel_rfl) rfl rfl (by decide) (Ef.alloc tab_ok rfl rfl (fun b12 => ?_))
          refine ⟨by first | exact RLe.refl _ | assumption, (by (repeat (first | exact List.Sublist.refl _ | exact List.nil_sublist _ | apply List.Sublist.cons_cons | apply List.Sublist.cons)); done), ?_⟩
          first | refine WA.effN 11 rfl (by kernel_rfl) rfl rfl (Ef.store0 0 tab_ok rfl rfl rfl rfl rfl rfl rfl rfl ?_) | refine WA.effN 11 rfl (by kernel_rfl) rfl rfl (Ef.store0 1 tab_ok rfl rfl rfl rfl rfl rfl rfl rfl ?_) | refine WA.effN 11 rfl (by kernel_rfl) rfl rfl (Ef.store0 2 tab_ok rfl rfl rfl rfl rfl rfl rfl rfl ?_) | refine WA.effN 11 rfl (by kernel_rfl) rfl rfl (Ef.store0 3 tab_ok rfl rfl rfl rfl rfl rfl rfl rfl ?_) | refine WA.effN 11 rfl (by kernel_rfl) rfl rfl (Ef.store0 4 tab_ok rfl rfl rfl rfl rfl rfl rfl rfl ?_) | refine WA.effN 11 rfl (by kernel_rfl) rfl rfl (Ef.store0 5 tab_ok rfl rfl rfl rfl rfl rfl rfl rfl ?_) | refine WA.effN 11 rfl (by kernel_rfl) rfl rfl (Ef.store0 6 tab_ok rfl rfl rfl rfl rfl rfl rfl rfl ?_)
          refine ⟨by first | exact RLe.refl _ | assumption, (by (repeat (first | exact List.Sublist.refl _ | exact List.nil_sublist _ | apply List.Sublist.cons_cons | apply List.Sublist.cons)); done), ?_⟩
          first | refine WA.effN 12 rfl (by kernel_rfl) rfl rfl (Ef.store0 0 tab_ok rfl rfl rfl rfl rfl rfl rfl rfl ?_) | refine WA.effN 12 rfl (by kernel_rfl) rfl rfl (Ef.store0 1 tab_ok rfl rfl rfl rfl rfl rfl rfl rfl ?_) | refine WA.effN 12 rfl (by kernel_rfl) rfl rfl (Ef.store0 2 tab_ok rfl rfl rfl rfl rfl rfl rfl rfl ?_) | refine WA.effN 12 rfl (by kernel_rfl) rfl rfl (Ef.store0 3 tab_ok rfl rfl rfl rfl rfl rfl rfl rfl ?_) | refine WA.effN 12 rfl (by kernel_rfl) rfl rfl (Ef.store0 4 tab_ok rfl rfl rfl rfl rfl rfl rfl rfl ?_) | refine WA.effN 12 rfl (by kernel_rfl) rfl rfl (Ef.store0 5 tab_ok rfl rfl rfl rfl rfl rfl rfl rfl ?_) | refine WA.effN 12 rfl (by kernel_rfl) rfl rfl (Ef.store0 6 tab_ok rfl rfl rfl rfl rfl rfl rfl rfl ?_)
          refine ⟨by first | exact RLe.refl _ | assumption, (by (repeat (first | exact List.Sublist.refl _ | exact List.nil_sublist _ | apply List.Sublist.cons_cons | apply List.Sublist.cons)); done), ?_⟩
          refine WA.done (by kernel_rfl) ?_
          refine WE.cutP (b11, b12, nth w kn, (nth z kn).most) ⟨hq, hl⟩ ⟨rfl, rfl, rfl, rfl, rfl, rfl, rfl, rfl⟩ (RLe.refl _) (by dsimp only; first | exact List.Perm.refl _ | exact List.Perm.swap _ _ _)
        ·
          refine WS.eff rfl rfl rfl (by decide) (Ef.alloc tab_ok rfl rfl (fun b12 => ?_))
          refine ⟨RLe.refl _, (by (repeat (first | exact List.Sublist.refl _ | exact List.nil_sublist _ | apply List.Sublist.cons_cons | apply List.Sublist.cons)); done), ?_⟩
          refine WA.eff 9 rfl (by kernel_rfl) rfl rfl (by decide) (Ef.alloc tab_ok rfl rfl (fun b11 => ?_))
          refine ⟨by first | exact RLe.refl _ | assumption, (by (repeat (first | exact List.Sublist.refl _ | exact List.nil_sublist _ | apply List.Sublist.cons_cons | apply List.Sublist.cons)); done), ?_⟩
          first | refine WA.effN 11 rfl (by kernel_rfl) rfl rfl (Ef.store0 0 tab_ok rfl rfl rfl rfl rfl rfl rfl rfl ?_) | refine WA.effN 11 rfl (by kernel_rfl) rfl rfl (Ef.store0 1 tab_ok rfl rfl rfl rfl rfl rfl rfl rfl ?_) | refine WA.effN 11 rfl (by kernel_rfl) rfl rfl (Ef.store0 2 tab_ok rfl rfl rfl rfl rfl rfl rfl rfl ?_) | refine WA.effN 11 rfl (by kernel_rfl) rfl rfl (Ef.store0 3 tab_ok rfl rfl rfl rfl rfl rfl rfl rfl ?_) | refine WA.effN 11 rfl (by kernel_rfl) rfl rfl (Ef.store0 4 tab_ok rfl rfl rfl rfl rfl rfl rfl rfl ?_) | refine WA.effN 11 rfl (by kernel_rfl) rfl rfl (Ef.store0 5 tab_ok rfl rfl rfl rfl rfl rfl rfl rfl ?_) | refine WA.effN 11 rfl (by kernel_rfl) rfl rfl (Ef.store0 6 tab_ok rfl rfl rfl rfl rfl rfl rfl rfl ?_)
          refine ⟨by first | exact RLe.refl _ | assumption, (by (repeat (first | exact List.Sublist.refl _ | exact List.nil_sublist _ | apply List.Sublist.cons_cons | apply List.Sublist.cons)); done), ?_⟩
          first | refine WA.effN 12 rfl (by kernel_rfl) rfl rfl (Ef.store0 0 tab_ok rfl rfl rfl rfl rfl rfl rfl rfl ?_) | refine WA.effN 12 rfl (by kernel_rfl) rfl rfl (Ef.store0 1 tab_ok rfl rfl rfl rfl rfl rfl rfl rfl ?_) | refine WA.effN 12 rfl (by kernel_rfl) rfl rfl (Ef.store0 2 tab_ok rfl rfl rfl rfl rfl rfl rfl rfl ?_) | refine WA.effN 12 rfl (by kernel_rfl) rfl rfl (Ef.store0 3 tab_ok rfl rfl rfl rfl rfl rfl rfl rfl ?_) | refine WA.effN 12 rfl (by kernel_rfl) rfl rfl (Ef.store0 4 tab_ok rfl rfl rfl rfl rfl rfl rfl rfl ?_) | refine WA.effN 12 rfl (by kernel_rfl) rfl rfl (Ef.store0 5 tab_ok rfl rfl rfl rfl rfl rfl rfl rfl ?_) | refine WA.effN 12 rfl (by kernel_rfl) rfl rfl (Ef.store0 6 tab_ok rfl rfl rfl rfl rfl rfl rfl rfl ?_)
          refine ⟨by first | exact RLe.refl _ | assumption, (by (repeat (first | exact List.Sublist.refl _ | exact List.nil_sublist _ | apply List.Sublist.cons_cons | apply List.Sublist.cons)); done), ?_⟩
          refine WA.done (by kernel_rfl) ?_
          refine WE.cutP (b11, b12, nth w kn, (nth z kn).most) ⟨hq, hl⟩ ⟨rfl, rfl, rfl, rfl, rfl, rfl, rfl, rfl⟩ (RLe.refl _) (by dsimp only; first | exact List.Perm.refl _ | exact List.Perm.swap _ _ _)

end Go.Proofs.Ytcfnckccmkjjlaa

/- Chapter 20: what its laws use. No condition. -/
set_option linter.unusedSimpArgs false
set_option linter.unusedVariables false
namespace Go.Proofs.Ytcfnckccmkjjlaa
open Go Go.RowKit Go.Proofs.Ytcfnckccmkjjlaa.K Go.Proofs.Ytcfnckccmkjjlaa.M

theorem def_awake : defC 10 0 [10, 10] [⟨10, 10⟩, ⟨10, 10⟩] = (⟨[0, 0, 1, 1], 2, 10⟩, 0) := by kernel_rfl

theorem Weights20_C {R : Ro} {b : Nat} {a : Option Addr} {cp : Nat} {xs : List Int} {c : Nat} (w0 : World) {n : Nat} (ha : RS R 1 encI a xs) (hn : n ≤ 1000) : FnAt Try.prog 42 [.pointer (some ⟨b, 0, none⟩), .int .i64 (n : Int)] w0 R (srcE b a cp xs c)
    (fun v R' e' N => ∃ (a2 : Option Addr) (c2 : Nat), v = .slice a2 (fvals (wgtF 50 xs c) n).length c2 ∧ R = R' ∧ e' = srcE b a cp xs (c + n) ∧ N = [.sl 3 1 a2 c2 ((fvals (wgtF 50 xs c) n).map encI)]) := by
  intro F
  have hen : ((n : Int)).toNat = n := by omega
  refine Fn.enter (n := 22) Try.func42 rfl rfl (Nat.le_of_ble_eq_true rfl) rfl ?_
  refine W.seq ?_
  refine W.region _ ?_
  refine WG.run tab_ok 1 rfl ?_
  refine WG.nil ?_
  refine WE.nxt ?_
  refine W.seq ?_
  refine W.region _ ?_
  refine WG.run tab_ok 1 rfl ?_
  refine WL.ef rfl rfl (by decide) (Ef.makeSliceD (enc := encI) 0 tab_ok rfl rfl rfl rfl rfl rfl (by (try dsimp only) <;> omega) (by (try dsimp only) <;> omega) (by (try dsimp only) <;> omega) (by (try dsimp only) <;> omega) (by decide) rfl rfl (fun a8 => ?_))
  refine WG.run tab_ok 1 rfl ?_
  refine WG.nil ?_
  refine WE.nxt ?_
  refine W.seq ?_
  refine W.seq ?_
  refine W.region _ ?_
  refine WG.run tab_ok 3 rfl ?_
  refine WG.nil ?_
  refine WE.nxt ?_
  refine W.block ?_
  refine W.loopK (β := Nat) (fun i => i ≤ n) (fun i => [(11, true, .int .i64 (i : Int))]) [0, 5, 10] [_, _, _] [] _ rfl (fun i => [(0, .sl 3 1 (some ⟨a8, 0, none⟩) n ((partV (wgtF 50 xs c) i n).map encI)), (1, srcE b a cp xs (c + i))]) (fun i => n - i) (0) (Nat.zero_le _) ⟨rfl, rfl, rfl, rfl, rfl⟩ (by dsimp only [setAll, List.set_cons_zero, List.set_cons_succ]; rw [partV_zero]; exact (by (repeat (first | exact List.Sublist.refl _ | exact List.nil_sublist _ | apply List.Sublist.cons_cons | apply List.Sublist.cons)); done)) ?_
  intro i hst
  dsimp only [zipE, setAll, List.cons_append, List.nil_append, List.set_cons_zero, List.set_cons_succ] at hst ⊢
  have hpl := partV_len (wgtF 50 xs c) (t := i) (n := n) hst
  refine W.seq ?_
  refine W.region _ ?_
  refine WG.run tab_ok 1 rfl ?_
  refine WG.nil ?_
  refine WE.nxt ?_
  refine W.seq ?_
  refine W.condD rfl (fun hc0 => ?_) (fun hc0 => ?_)
  · try dsimp only at hc0
    have hil : i < n := by omega
    have hset := partV_set (wgtF 50 xs c) hil
    have hm := mod_range (nth xs (c + i)) (show (1 : Int) ≤ 50 by decide)
    refine W.skip ?_
    refine WE.nxt ?_
    refine W.seq ?_
    refine W.block ?_
    refine W.seq ?_
    refine W.region _ ?_
    refine WG.run tab_ok 2 rfl ?_
    refine WG.nil ?_
    refine WE.nxt ?_
    refine W.region _ ?_
    refine WG.run tab_ok 3 rfl ?_
    refine WL.callAt 1 en21 rfl rfl (by decide) (CallOp.mkT rfl rfl rfl rfl) rfl (N_C w0 ha (by constructor <;> omega) _) ?_
    rintro _ _ _ _ - ⟨rfl, rfl, rfl, rfl⟩
    refine WG.y rfl rfl (by decide) (Yl.add rfl rfl rfl (fun _ => rfl) (by intro _; constructor <;> (try dsimp only) <;> omega)) ?_
    refine WG.y rfl rfl (by decide) (Yl.indexN tab_ok rfl rfl rfl rfl rfl rfl (fun _ => rfl) (by intro _; (try dsimp only) <;> omega) (by intro _; first | exact fun _ _ _ _ => rfl | exact RS.has (by assumption) | exact fun _ _ _ _ => (by assumption) | exact HasMem.ownD 0 rfl | exact HasMem.ownD 1 rfl | exact HasMem.ownD 2 rfl)) ?_
    first | refine WL.efN rfl rfl (Ef.storeD _ 0 tab_ok rfl rfl rfl rfl rfl (by (try dsimp only) <;> omega) rfl rfl rfl rfl ?_) | refine WL.efN rfl rfl (Ef.storeD _ 1 tab_ok rfl rfl rfl rfl rfl (by (try dsimp only) <;> omega) rfl rfl rfl rfl ?_) | refine WL.efN rfl rfl (Ef.storeD _ 2 tab_ok rfl rfl rfl rfl rfl (by (try dsimp only) <;> omega) rfl rfl rfl rfl ?_)
    refine WG.nil ?_
    refine WE.blk _ ?_
    refine WE.nxt ?_
    refine W.region _ ?_
    refine WG.y rfl rfl (by decide) (Yl.add rfl rfl rfl (fun _ => rfl) (by intro _; constructor <;> (try dsimp only) <;> omega)) ?_
    refine WG.run tab_ok 1 rfl ?_
    refine WG.nil ?_
    refine WE.again (i + 1) (by omega) (by (try dsimp only); omega) ⟨rfl, rfl, rfl, rfl, rfl⟩ (RLe.refl _) (by dsimp only [setAll, List.set_cons_zero, List.set_cons_succ]; rw [← hset]; exact (by (repeat (first | exact List.Sublist.refl _ | exact List.nil_sublist _ | apply List.Sublist.cons_cons | apply List.Sublist.cons)); done))
  · try dsimp only at hc0
    obtain rfl : i = n := by omega
    rw [partV_all]
    refine W.exit ?_
    refine WE.then_exit ?_
    refine WE.then_exit ?_
    refine WE.blk_exit ?_
    refine WE.nxt ?_
    refine W.seq ?_
    refine W.region _ ?_
    refine WG.run tab_ok 2 rfl ?_
    refine WG.nil ?_
    refine WE.nxt ?_
    refine W.ret ?_
    refine WE.retF tab_ok [_] rfl ⟨rfl, trivial⟩ (RLe.refl _) ?_
    exact ⟨_, [_], rfl, some ⟨a8, 0, none⟩, i, by rw [fvals_len]; rfl, rfl, rfl, rfl⟩

theorem Awake20_C {R : Ro} (w0 : World) (E : List Ent) : K.Fn Try.prog 41 [] w0 R E (fun v R' E' => v = .bool true ∧ E.Sublist E') := by
  refine Fn.enter (n := 63) Try.func41 rfl rfl (Nat.le_of_ble_eq_true rfl) rfl ?_
  refine W.seq ?_
  refine W.region _ ?_
  refine WG.run tab_ok 1 rfl ?_
  refine WG.nil ?_
  refine WE.nxt ?_
  refine W.seq ?_
  refine W.region _ ?_
  -- build
  refine WG.y rfl rfl (by decide) (Yl.build (parts := [(2, .const (.int .i64 6))]) tab_ok rfl rfl rfl rfl (fun _ => rfl) rfl rfl) ?_
  -- build
  refine WG.y rfl rfl (by decide) (Yl.build (parts := [(2, .const (.int .i64 6))]) tab_ok rfl rfl rfl rfl (fun _ => rfl) rfl rfl) ?_
  -- build
  refine WG.y rfl rfl (by decide) (Yl.build (parts := [(2, .const (.int .i64 6))]) tab_ok rfl rfl rfl rfl (fun _ => rfl) rfl rfl) ?_
  -- build
  refine WG.y rfl rfl (by decide) (Yl.build (parts := [(0, .const (.int .i64 1)), (2, .const (.int .i64 6))]) tab_ok rfl rfl rfl rfl (fun _ => rfl) rfl rfl) ?_
  -- build
  refine WG.y rfl rfl (by decide) (Yl.build (parts := [(0, .const (.int .i64 1)), (2, .const (.int .i64 6))]) tab_ok rfl rfl rfl rfl (fun _ => rfl) rfl rfl) ?_
  -- build
  refine WG.y rfl rfl (by decide) (Yl.build (parts := [(0, .const (.int .i64 1)), (2, .const (.int .i64 6))]) tab_ok rfl rfl rfl rfl (fun _ => rfl) rfl rfl) ?_
  refine WL.ef rfl rfl (by decide) (Ef.buildSliceD (enc := encP) (parts := [.tmp 6, .tmp 7, .tmp 8, .tmp 9, .tmp 10, .tmp 11]) [⟨_, _, _⟩, ⟨_, _, _⟩, ⟨_, _, _⟩, ⟨_, _, _⟩, ⟨_, _, _⟩, ⟨_, _, _⟩] tab_ok rfl rfl rfl rfl rfl rfl rfl rfl (by decide) (by decide) (fun a12 => ?_))
  refine WG.run tab_ok 1 rfl ?_
  refine WG.nil ?_
  refine WE.nxt ?_
  refine W.freeze (enc := encP) (xs := ([⟨0, 0, 6⟩, ⟨0, 0, 6⟩, ⟨0, 0, 6⟩, ⟨1, 0, 6⟩, ⟨1, 0, 6⟩, ⟨1, 0, 6⟩] : List Pkt)) 0 rfl ?_
  intro R1 hR1 hp
  refine W.seq ?_
  refine W.region _ ?_
  refine WL.ef rfl rfl (by decide) (Ef.buildSliceD (enc := encI) (parts := [.const (.int .i64 10), .const (.int .i64 10)]) [_, _] tab_ok rfl rfl rfl rfl rfl rfl rfl rfl (by decide) (by decide) (fun a14 => ?_))
  refine WL.freeze (enc := encI) (xs := ([10, 10] : List Int)) 0 rfl ?_
  intro R2 hR2 hw1
  have hp := hp.mono hR2
  refine WG.run tab_ok 1 rfl ?_
  refine WL.call en44 rfl rfl (by decide) (CallOp.mkT rfl rfl rfl rfl) (Def_ok (ps := ([⟨0, 0, 6⟩, ⟨0, 0, 6⟩, ⟨0, 0, 6⟩, ⟨1, 0, 6⟩, ⟨1, 0, 6⟩, ⟨1, 0, 6⟩] : List Pkt)) (w := ([10, 10] : List Int)) (cap := 6) (ticks := 6) hp hw1 w0 (by decide) _) ?_
  rintro _ _ E2 - ⟨rows, gd, go, s, hs, rfl, rfl, h1, h2, h3, hsub⟩
  refine WL.subE hsub ?_
  refine WL.freeze (enc := encI) (xs := s.done) 0 rfl ?_
  intro R3 hR3 hdn
  have hdone : s.done = [0, 2, 3, 1, 4, 5] := by rw [hs]; decide
  rw [hdone] at hdn
  refine WL.subE (List.Sublist.cons _ (List.sublist_append_right _ _)) ?_
  refine WG.run tab_ok 3 rfl ?_
  refine WL.ef rfl rfl (by decide) (Ef.alloc tab_ok rfl rfl (fun b2 => ?_))
  first | refine WL.efN rfl rfl (Ef.store0 0 tab_ok rfl rfl rfl rfl rfl rfl rfl rfl ?_) | refine WL.efN rfl rfl (Ef.store0 1 tab_ok rfl rfl rfl rfl rfl rfl rfl rfl ?_) | refine WL.efN rfl rfl (Ef.store0 2 tab_ok rfl rfl rfl rfl rfl rfl rfl rfl ?_) | refine WL.efN rfl rfl (Ef.store0 3 tab_ok rfl rfl rfl rfl rfl rfl rfl rfl ?_) | refine WL.efN rfl rfl (Ef.store0 4 tab_ok rfl rfl rfl rfl rfl rfl rfl rfl ?_) | refine WL.efN rfl rfl (Ef.store0 5 tab_ok rfl rfl rfl rfl rfl rfl rfl rfl ?_)
  refine WG.run tab_ok 1 rfl ?_
  refine WG.nil ?_
  refine WE.nxt ?_
  refine W.seq ?_
  refine W.region _ ?_
  refine WL.ef rfl rfl (by decide) (Ef.buildSliceD (enc := encI) (parts := [.const (.int .i64 10), .const (.int .i64 10)]) [_, _] tab_ok rfl rfl rfl rfl rfl rfl rfl rfl (by decide) (by decide) (fun a20 => ?_))
  refine WL.freeze (enc := encI) (xs := ([10, 10] : List Int)) 0 rfl ?_
  intro R4 hR4 hw2
  -- build
  refine WG.y rfl rfl (by decide) (Yl.build (parts := [(0, .const (.int .i64 10)), (1, .const (.int .i64 10))]) tab_ok rfl rfl rfl rfl (fun _ => rfl) rfl rfl) ?_
  -- build
  refine WG.y rfl rfl (by decide) (Yl.build (parts := [(0, .const (.int .i64 10)), (1, .const (.int .i64 10))]) tab_ok rfl rfl rfl rfl (fun _ => rfl) rfl rfl) ?_
  refine WL.ef rfl rfl (by decide) (Ef.buildSliceD (enc := encZ) (parts := [.tmp 21, .tmp 22]) [⟨_, _⟩, ⟨_, _⟩] tab_ok rfl rfl rfl rfl rfl rfl rfl rfl (by decide) (by decide) (fun a23 => ?_))
  refine WL.freeze (enc := encZ) (xs := ([⟨10, 10⟩, ⟨10, 10⟩] : List Sz)) 0 rfl ?_
  intro R5 hR5 hzz
  have hw2 := hw2.mono hR5
  refine WL.call en46 rfl rfl (by decide) (CallOp.mkT rfl rfl rfl rfl) (CurveDef_C (w := ([10, 10] : List Int)) (z := ([⟨10, 10⟩, ⟨10, 10⟩] : List Sz)) (cap := 10) (cls := 0) hw2 hzz w0 _) ?_
  rintro _ R6 E3 hR6 ⟨f, fc, rfl, hf, hsub2⟩
  rw [def_awake] at hf ⊢
  refine WL.subE hsub2 ?_
  unfold cvV
  have hdn := hdn.mono (hR4.trans (hR5.trans hR6))
  refine WG.run tab_ok 3 rfl ?_
  refine WL.ef rfl rfl (by decide) (Ef.alloc tab_ok rfl rfl (fun b4 => ?_))
  first | refine WL.efN rfl rfl (Ef.store0 0 tab_ok rfl rfl rfl rfl rfl rfl rfl rfl ?_) | refine WL.efN rfl rfl (Ef.store0 1 tab_ok rfl rfl rfl rfl rfl rfl rfl rfl ?_) | refine WL.efN rfl rfl (Ef.store0 2 tab_ok rfl rfl rfl rfl rfl rfl rfl rfl ?_) | refine WL.efN rfl rfl (Ef.store0 3 tab_ok rfl rfl rfl rfl rfl rfl rfl rfl ?_) | refine WL.efN rfl rfl (Ef.store0 4 tab_ok rfl rfl rfl rfl rfl rfl rfl rfl ?_) | refine WL.efN rfl rfl (Ef.store0 5 tab_ok rfl rfl rfl rfl rfl rfl rfl rfl ?_)
  refine WG.run tab_ok 1 rfl ?_
  refine WG.nil ?_
  refine WE.nxt ?_
  refine W.seq ?_
  refine W.region _ ?_
  refine WG.run tab_ok 3 rfl ?_
  refine WL.guardT rfl (by rfl) ?_
  refine WG.y rfl rfl (by decide) (pureV_ok tab_ok rfl (fun _ => rfl)) ?_
  refine WL.guardT rfl (by rfl) ?_
  refine' WG.y rfl rfl (by decide) (Yl.load1 tab_ok rfl rfl rfl (fun _ => rfl) ?r1 rfl ?h1) ?_
  case r1 => apply Rd.add; (first | exact Rd.blk 0 rfl | exact Rd.blk 1 rfl | exact Rd.blk 2 rfl | exact Rd.blk 3 rfl | exact Rd.blk 4 rfl | exact Rd.blk 5 rfl)
  case h1 => rfl
  refine WL.guardT rfl (by rfl) ?_
  refine WL.ef rfl rfl (by decide) (Ef.buildSliceD (enc := encI) (parts := [.const (.int .i64 0), .const (.int .i64 2), .const (.int .i64 3), .const (.int .i64 1), .const (.int .i64 4), .const (.int .i64 5)]) [_, _, _, _, _, _] tab_ok rfl rfl rfl rfl rfl rfl rfl rfl (by decide) (by decide) (fun a32 => ?_))
  refine WL.freeze (enc := encI) (xs := [0, 2, 3, 1, 4, 5]) 0 rfl ?_
  intro R7 hR7 hl1
  have hdn := hdn.mono hR7
  have hf := hf.mono hR7
  refine WL.guardT rfl (by rfl) ?_
  refine WG.callV (v := .bool true) en40 rfl rfl (by decide) (CallOp.mk' rfl rfl rfl rfl) (fun _ => rfl) (fun hg => by
    have h := Ints_V (ca := 6) (cb := 6) hdn hl1
    exact h) ?_
  refine WG.y rfl rfl (by decide) (Yl.pand rfl rfl rfl (fun _ => rfl) (by intro h1 h2; simp_all <;> omega)) ?_
  refine WG.run tab_ok 1 rfl ?_
  refine WL.guardT rfl (by rfl) ?_
  refine WG.y rfl rfl (by decide) (pureV_ok tab_ok rfl (fun _ => rfl)) ?_
  refine WL.guardT rfl (by rfl) ?_
  refine WG.y rfl rfl (by decide) (pureV_ok tab_ok rfl (fun _ => rfl)) ?_
  refine WG.y rfl rfl (by decide) (Yl.pand rfl rfl rfl (fun _ => rfl) (by intro h1 h2; simp_all <;> omega)) ?_
  refine WG.run tab_ok 1 rfl ?_
  refine WL.guardT rfl (by rfl) ?_
  refine' WG.y rfl rfl (by decide) (Yl.load1 tab_ok rfl rfl rfl (fun _ => rfl) ?r2 rfl ?h2) ?_
  case r2 => (first | exact Rd.blk 0 rfl | exact Rd.blk 1 rfl | exact Rd.blk 2 rfl | exact Rd.blk 3 rfl | exact Rd.blk 4 rfl | exact Rd.blk 5 rfl)
  case h2 => rfl
  refine WL.guardT rfl (by rfl) ?_
  refine WG.callV (v := .bool true) en56 rfl rfl (by decide) (CallOp.mk' rfl rfl rfl rfl) (fun _ => rfl) (fun hg => by
    have h := Valid_V (per := 2) (inc := 10) (c := fc) hf (by constructor <;> decide) (by constructor <;> decide) (by decide)
    exact h) ?_
  refine WG.y rfl rfl (by decide) (Yl.pand rfl rfl rfl (fun _ => rfl) (by intro h1 h2; simp_all <;> omega)) ?_
  refine WG.run tab_ok 1 rfl ?_
  refine WL.guardT rfl (by rfl) ?_
  refine' WG.y rfl rfl (by decide) (Yl.load1 tab_ok rfl rfl rfl (fun _ => rfl) ?r3 rfl ?h3) ?_
  case r3 => (first | exact Rd.blk 0 rfl | exact Rd.blk 1 rfl | exact Rd.blk 2 rfl | exact Rd.blk 3 rfl | exact Rd.blk 4 rfl | exact Rd.blk 5 rfl)
  case h3 => rfl
  refine WL.guardT rfl (by rfl) ?_
  refine WG.callV (v := .int .i64 0) en57 rfl rfl (by decide) (CallOp.mk' rfl rfl rfl rfl) (fun _ => rfl) (fun hg => by
    have h := At_V (t := 1) (per := 2) (inc := 10) (c := fc) hf (by constructor <;> decide) ⟨by constructor <;> decide, by decide⟩ (by decide) (by decide)
    exact h) ?_
  refine WL.guardT rfl (by rfl) ?_
  refine WG.y rfl rfl (by decide) (pureV_ok tab_ok rfl (fun _ => rfl)) ?_
  refine WG.y rfl rfl (by decide) (Yl.pand rfl rfl rfl (fun _ => rfl) (by intro h1 h2; simp_all <;> omega)) ?_
  refine WG.run tab_ok 1 rfl ?_
  refine WL.guardT rfl (by rfl) ?_
  refine' WG.y rfl rfl (by decide) (Yl.load1 tab_ok rfl rfl rfl (fun _ => rfl) ?r4 rfl ?h4) ?_
  case r4 => (first | exact Rd.blk 0 rfl | exact Rd.blk 1 rfl | exact Rd.blk 2 rfl | exact Rd.blk 3 rfl | exact Rd.blk 4 rfl | exact Rd.blk 5 rfl)
  case h4 => rfl
  refine WL.guardT rfl (by rfl) ?_
  refine WG.callV (v := .int .i64 1) en57 rfl rfl (by decide) (CallOp.mk' rfl rfl rfl rfl) (fun _ => rfl) (fun hg => by
    have h := At_V (t := 3) (per := 2) (inc := 10) (c := fc) hf (by constructor <;> decide) ⟨by constructor <;> decide, by decide⟩ (by decide) (by decide)
    exact h) ?_
  refine WL.guardT rfl (by rfl) ?_
  refine WG.y rfl rfl (by decide) (pureV_ok tab_ok rfl (fun _ => rfl)) ?_
  refine WG.y rfl rfl (by decide) (Yl.pand rfl rfl rfl (fun _ => rfl) (by intro h1 h2; simp_all <;> omega)) ?_
  refine WG.run tab_ok 1 rfl ?_
  refine WL.guardT rfl (by rfl) ?_
  refine' WG.y rfl rfl (by decide) (Yl.load1 tab_ok rfl rfl rfl (fun _ => rfl) ?r5 rfl ?h5) ?_
  case r5 => (first | exact Rd.blk 0 rfl | exact Rd.blk 1 rfl | exact Rd.blk 2 rfl | exact Rd.blk 3 rfl | exact Rd.blk 4 rfl | exact Rd.blk 5 rfl)
  case h5 => rfl
  refine WL.guardT rfl (by rfl) ?_
  refine WG.callV (v := .int .i64 11) en57 rfl rfl (by decide) (CallOp.mk' rfl rfl rfl rfl) (fun _ => rfl) (fun hg => by
    have h := At_V (t := 5) (per := 2) (inc := 10) (c := fc) hf (by constructor <;> decide) ⟨by constructor <;> decide, by decide⟩ (by decide) (by decide)
    exact h) ?_
  refine WL.guardT rfl (by rfl) ?_
  refine WG.y rfl rfl (by decide) (pureV_ok tab_ok rfl (fun _ => rfl)) ?_
  refine WG.y rfl rfl (by decide) (Yl.pand rfl rfl rfl (fun _ => rfl) (by intro h1 h2; simp_all <;> omega)) ?_
  refine WG.run tab_ok 1 rfl ?_
  refine WL.guardT rfl (by rfl) ?_
  refine' WG.y rfl rfl (by decide) (Yl.load1 tab_ok rfl rfl rfl (fun _ => rfl) ?r6 rfl ?h6) ?_
  case r6 => (first | exact Rd.blk 0 rfl | exact Rd.blk 1 rfl | exact Rd.blk 2 rfl | exact Rd.blk 3 rfl | exact Rd.blk 4 rfl | exact Rd.blk 5 rfl)
  case h6 => rfl
  refine WL.guardT rfl (by rfl) ?_
  refine WG.callV (v := .int .i64 21) en57 rfl rfl (by decide) (CallOp.mk' rfl rfl rfl rfl) (fun _ => rfl) (fun hg => by
    have h := At_V (t := 6) (per := 2) (inc := 10) (c := fc) hf (by constructor <;> decide) ⟨by constructor <;> decide, by decide⟩ (by decide) (by decide)
    exact h) ?_
  refine WL.guardT rfl (by rfl) ?_
  refine WG.y rfl rfl (by decide) (pureV_ok tab_ok rfl (fun _ => rfl)) ?_
  refine WG.y rfl rfl (by decide) (Yl.pand rfl rfl rfl (fun _ => rfl) (by intro h1 h2; simp_all <;> omega)) ?_
  refine WG.run tab_ok 1 rfl ?_
  refine WG.nil ?_
  refine WE.nxt ?_
  refine W.ret ?_
  refine WE.retF tab_ok [_] rfl ⟨rfl, trivial⟩ (hR1.trans (hR2.trans (hR3.trans (hR4.trans (hR5.trans (hR6.trans hR7)))))) ?_
  exact ⟨rfl, (by (repeat (first | exact List.Sublist.refl _ | exact List.nil_sublist _ | apply List.Sublist.cons_cons | apply List.Sublist.cons)); done)⟩

end Go.Proofs.Ytcfnckccmkjjlaa

/- Chapter 20: never idle. No condition. -/
set_option linter.unusedSimpArgs false
set_option linter.unusedVariables false
namespace Go.Proofs.Ytcfnckccmkjjlaa
open Go Go.RowKit Go.Proofs.Ytcfnckccmkjjlaa.K Go.Proofs.Ytcfnckccmkjjlaa.M

theorem Def_len {R : Ro} {pa wa : Option Addr} {pc wc l wl : Nat} {ps : List Pkt} {w : List Int} (hp : RS R 3 encP pa ps) (hwr : RS R 1 encI wa w) (hl : ps.length = l) (hwl : w.length = wl) {cap : Int} {ticks : Nat} (w0 : World) (hok0 : wrunE 6000 cap ticks w ps = 0) (E : List Ent) :
    K.Fn Try.prog 44 [.int .i64 cap, .slice wa wl wc, .slice pa l pc, .int .i64 ticks] w0 R E
      (fun v R' E' => ∃ (rows : List Sl) (gd go : Nat) (s : M.RS (Nat × Bool × List Int)), s = mrun ps (defCh ps w) cap wl ticks (def0 wl) ∧ v = .tuple #[.agg #[.slice (some ⟨gd, 0, none⟩) l l, .slice (some ⟨go, 0, none⟩) wl wl], .int .i64 0] ∧ R = R' ∧ rows.map Sl.xs = s.sent ∧ (∀ r ∈ rows, r.a.isSome = true) ∧ Inv ps wl (goodDf ps w.length) (ticks + 1) (ticks * cap) s ∧
        (.sl 3 1 (some ⟨gd, 0, none⟩) l (s.done.map encI) :: .sl 23 1 (some ⟨go, 0, none⟩) wl (rows.map encS) :: (rows.map (rowE 3) ++ E)).Sublist E') := by
  subst hl; subst hwl; exact Def_ok hp hwr w0 hok0 E

end Go.Proofs.Ytcfnckccmkjjlaa

/- Deficit round robin, plain: greater quanta and packets of others leave less. No condition. -/
namespace Go.Proofs.Ytcfnckccmkjjlaa.M
open Go Go.Proofs.Ytcfnckccmkjjlaa.K

end Go.Proofs.Ytcfnckccmkjjlaa.M

/- Reference 04: a curve that is never above another. No condition. -/
set_option linter.unusedSimpArgs false
set_option linter.unusedVariables false
namespace Go.Proofs.Ytcfnckccmkjjlaa
open Go Go.RowKit Go.Proofs.Ytcfnckccmkjjlaa.K Go.Proofs.Ytcfnckccmkjjlaa.M

end Go.Proofs.Ytcfnckccmkjjlaa

/- Chapter 20: greater quanta leave less. No condition. -/
set_option linter.unusedSimpArgs false
set_option linter.unusedVariables false
namespace Go.Proofs.Ytcfnckccmkjjlaa
open Go Go.RowKit Go.Proofs.Ytcfnckccmkjjlaa.K Go.Proofs.Ytcfnckccmkjjlaa.M

theorem CurveDef_len {R : Ro} {wa za : Option Addr} {wc zc wl zl : Nat} {w : List Int} {z : List Sz} (hwr : RS R 1 encI wa w) (hzr : RS R 2 encZ za z) (hwl : w.length = wl) (hzl : z.length = zl) {cap cls : Int} (w0 : World) (E : List Ent) : K.Fn Try.prog 46 [.int .i64 cap, .int .i64 cls, .slice wa wl wc, .slice za zl zc] w0 R E (fun r R' E' => ∃ (f : Option Addr) (fc : Nat), r = cvV f fc (defC cap cls w z) ∧ RS R' 1 encI f (defC cap cls w z).1.vals ∧ E.Sublist E') := by
  subst hwl; subst hzl; exact CurveDef_C hwr hzr w0 E
end Go.Proofs.Ytcfnckccmkjjlaa
