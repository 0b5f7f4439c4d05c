/- JournalMany: for every input the law returns true, and the input reads afterwards as it read before; the listed variables of the library start as its text lays them. -/
import Derived.Test.YtjacpnojnoompaaDoorG1
import Derived.Test.YtjacpnojnoompaaDoorRows
import Derived.ProofKit
import Derived.SizedLaws
import Derived.Maps.OwnSet
import Derived.WideKeyElems2
import Derived.Carry
import Derived.Deep.Slices
import Derived.OpenShut
import Derived.Handed
import Derived.HandedShaped
import Derived.LaidMore
import Derived.LaidHandle
import Derived.LaidLaws
import Derived.MakeChecks
import Derived.Stop.LaidErr
import Derived.Lib.LaidTab
import Derived.Shelf.Vars
import Derived.Test.YtjacpnojnoompaaDoorTie
import Derived.Test.YtjacpnojnoompaaDoorCards
import Derived.SevenTiedAt
import Derived.Stop.Joined
import Derived.Lay
/- The journal: lines. No condition. -/
set_option linter.unusedSimpArgs false
set_option linter.unusedVariables false
namespace Go.Proofs.YtjacpnojnoompaaDoor
open Go Go.RowKit Go.Proofs.YtjacpnojnoompaaDoor.K Go.Proofs.YtjacpnojnoompaaDoor.M

set_option maxHeartbeats 1000000 in
theorem JLine_V {R : Ro} {k : Int} {x : List UInt8} (hkr : InR k) (hxl : x.length ≤ 1000000) : FnV Tryd.prog 29 [.int .i64 k, .string (str x)] R (.tuple #[.string (str (lineF k x).1), .int .i64 (lineF k x).2]) := by
  refine FnV.ofOwn (fun w0 hR => ?_)
  have hsz := str_size x
  have hsr := sumF_range x
  refine Fn.enter (n := 61) Tryd.func29 rfl rfl (Nat.le_of_ble_eq_true rfl) rfl ?_
  refine W.seq ?_
  refine W.region _ ?_
  refine WG.run tab_ok 2 rfl ?_
  refine WG.nil ?_
  refine WE.nxt ?_
  refine W.seq ?_
  refine W.seq ?_
  refine W.region _ ?_
  refine WG.run tab_ok 3 rfl ?_
  refine WG.y rfl rfl (by decide) (pureV_ok tab_ok rfl (by first | exact fun _ => rfl | exact fun h => h | (intro h; simp_all))) ?_
  refine WG.y rfl rfl (by decide) (pureV_ok tab_ok rfl (by first | exact fun _ => rfl | exact fun h => h | (intro h; simp_all))) ?_
  refine WG.y rfl rfl (by decide) (Yl.por rfl rfl rfl (fun _ => rfl) (by intro h1 h2; simp_all <;> omega)) ?_
  refine WG.nil ?_
  refine WE.nxt ?_
  refine W.cond rfl (fun hc0 => ?_) (fun hc0 => ?_)
  · try simp only [decide_eq_true_eq, decide_eq_false_iff_not, beq_iff_eq, bne_iff_ne, beq_eq_false_iff_ne, bne_eq_false_iff_eq, ne_eq, Bool.or_eq_true, Bool.or_eq_false_iff, Bool.and_eq_true, Bool.and_eq_false_imp, Bool.not_eq_true, Bool.not_eq_true', Bool.not_eq_false', Classical.not_not, Int.not_lt, Int.not_le, gt_iff_lt, ge_iff_le] at hc0
    have hk : k < 1 ∨ 60 < k := by omega
    refine W.seq ?_
    refine W.region _ ?_
    refine WG.run tab_ok 2 rfl ?_
    refine WG.nil ?_
    refine WE.nxt ?_
    refine W.ret ?_
    refine WE.then_ret ?_
    refine WE.retF tab_ok [_, _] rfl ⟨rfl, rfl, trivial⟩ (RLe.refl _) ?_
    exact by unfold lineF; rw [if_pos hk]; rfl
  · try simp only [decide_eq_true_eq, decide_eq_false_iff_not, beq_iff_eq, bne_iff_ne, beq_eq_false_iff_ne, bne_eq_false_iff_eq, ne_eq, Bool.or_eq_true, Bool.or_eq_false_iff, Bool.and_eq_true, Bool.and_eq_false_imp, Bool.not_eq_true, Bool.not_eq_true', Bool.not_eq_false', Classical.not_not, Int.not_lt, Int.not_le, gt_iff_lt, ge_iff_le] at hc0
    obtain ⟨u, rfl⟩ := Int.eq_ofNat_of_zero_le (show 0 ≤ k by omega)
    have hk : ¬ ((u : Int) < 1 ∨ 60 < (u : Int)) := by omega
    have hdu := decDigits_le u
    have hdx := decDigits_le x.length
    refine W.skip ?_
    refine WE.nxt ?_
    refine W.seq ?_
    refine W.seq ?_
    refine W.region _ ?_
    refine WG.run tab_ok 1 rfl ?_
    refine WG.y rfl rfl (by decide) (Yl.eqS rfl rfl rfl (fun _ => rfl)) ?_
    refine WG.nil ?_
    refine WE.nxt ?_
    refine W.cond rfl (fun hc1 => ?_) (fun hc1 => ?_)
    · try simp only [decide_eq_true_eq, decide_eq_false_iff_not, beq_iff_eq, bne_iff_ne, beq_eq_false_iff_ne, bne_eq_false_iff_eq, ne_eq, Bool.or_eq_true, Bool.or_eq_false_iff, Bool.and_eq_true, Bool.and_eq_false_imp, Bool.not_eq_true, Bool.not_eq_true', Bool.not_eq_false', Classical.not_not, Int.not_lt, Int.not_le, gt_iff_lt, ge_iff_le] at hc1
      have hx0 : x = [] := str_inj (by simpa [str] using hc1)
      refine W.seq ?_
      refine W.region _ ?_
      refine WG.run tab_ok 2 rfl ?_
      refine WG.nil ?_
      refine WE.nxt ?_
      refine W.ret ?_
      refine WE.then_ret ?_
      refine WE.retF tab_ok [_, _] rfl ⟨rfl, rfl, trivial⟩ (RLe.refl _) ?_
      exact by unfold lineF; rw [if_neg hk, if_pos hx0]; rfl
    · try simp only [decide_eq_true_eq, decide_eq_false_iff_not, beq_iff_eq, bne_iff_ne, beq_eq_false_iff_ne, bne_eq_false_iff_eq, ne_eq, Bool.or_eq_true, Bool.or_eq_false_iff, Bool.and_eq_true, Bool.and_eq_false_imp, Bool.not_eq_true, Bool.not_eq_true', Bool.not_eq_false', Classical.not_not, Int.not_lt, Int.not_le, gt_iff_lt, ge_iff_le] at hc1
      have hx0 : ¬ x = [] := fun h => by subst h; simp [str] at hc1
      refine W.skip ?_
      refine WE.nxt ?_
      refine W.seq ?_
      refine W.seq ?_
      refine W.region _ ?_
      refine WG.run tab_ok 1 rfl ?_
      refine WG.nil ?_
      refine WE.nxt ?_
      refine W.block ?_
      refine W.loopK (β := Nat) (fun i => i ≤ x.length ∧ ∀ j, j < i → 32 ≤ byteAt x j ∧ byteAt x j ≤ 126) (fun i => [(6, true, .int .i64 (i : Int))]) [0, 1] [_, _] [] _ rfl (fun i => []) (fun i => x.length - i) (0) (⟨Nat.zero_le _, fun j hj => by omega⟩) ⟨rfl, rfl, rfl, rfl⟩ (by (repeat (first | exact List.Sublist.refl _ | exact List.nil_sublist _ | apply List.Sublist.cons_cons | apply List.Sublist.cons)); done) ?_
      intro i hst
      dsimp only [zipE, setAll, List.cons_append, List.nil_append, List.set_cons_zero, List.set_cons_succ] at hst ⊢
      obtain ⟨hi, hok⟩ := hst
      refine W.seq ?_
      refine W.seq ?_
      refine W.region _ ?_
      refine WG.run tab_ok 4 rfl ?_
      refine WG.nil ?_
      refine WE.nxt ?_
      refine W.condD rfl (fun hc2 => ?_) (fun hc2 => ?_)
      · try dsimp only at hc2
        have hil : i < x.length := by omega
        have hbt : byteAt x ((i : Int)).toNat = byteAt x i := rfl
        have hbr := byteAt_range x i
        refine W.skip ?_
        refine WE.nxt ?_
        refine W.seq ?_
        refine W.block ?_
        refine W.seq ?_
        refine W.region _ ?_
        refine WG.run tab_ok 2 rfl ?_
        refine WG.y rfl rfl (by decide) (Yl.sidx tab_ok rfl rfl rfl rfl rfl (fun _ => rfl) (by intro _; constructor <;> (try dsimp only) <;> omega)) ?_
        refine WG.run tab_ok 2 rfl ?_
        refine WG.y rfl rfl (by decide) (pureV_ok tab_ok rfl (by first | exact fun _ => rfl | exact fun h => h | (intro h; simp_all))) ?_
        refine WG.y rfl rfl (by decide) (pureV_ok tab_ok rfl (by first | exact fun _ => rfl | exact fun h => h | (intro h; simp_all))) ?_
        refine WG.y rfl rfl (by decide) (Yl.sidx tab_ok rfl rfl rfl rfl rfl (by first | exact fun _ => rfl | exact fun h => h | (intro h; simp_all)) (by intro hg; (try simp only [decide_eq_true_eq, decide_eq_false_iff_not, beq_iff_eq, bne_iff_ne, beq_eq_false_iff_ne, bne_eq_false_iff_eq, ne_eq, Bool.or_eq_true, Bool.or_eq_false_iff, Bool.and_eq_true, Bool.and_eq_false_imp, Bool.not_eq_true, Bool.not_eq_true', Bool.not_eq_false', Classical.not_not, Int.not_lt, Int.not_le, gt_iff_lt, ge_iff_le] at hg); constructor <;> (try dsimp only) <;> omega)) ?_
        refine WG.y rfl rfl (by decide) (pureV_ok tab_ok rfl (by first | exact fun _ => rfl | exact fun h => h | (intro h; simp_all))) ?_
        refine WG.y rfl rfl (by decide) (Yl.por rfl rfl rfl (fun _ => rfl) (by intro h1 h2; simp_all <;> omega)) ?_
        refine WG.nil ?_
        refine WE.nxt ?_
        refine W.cond rfl (fun hc3 => ?_) (fun hc3 => ?_)
        · try simp only [decide_eq_true_eq, decide_eq_false_iff_not, beq_iff_eq, bne_iff_ne, beq_eq_false_iff_ne, bne_eq_false_iff_eq, ne_eq, Bool.or_eq_true, Bool.or_eq_false_iff, Bool.and_eq_true, Bool.and_eq_false_imp, Bool.not_eq_true, Bool.not_eq_true', Bool.not_eq_false', Classical.not_not, Int.not_lt, Int.not_le, gt_iff_lt, ge_iff_le] at hc3
          have hbad : badB x = true := badB_at hil (by omega)
          refine W.seq ?_
          refine W.region _ ?_
          refine WG.run tab_ok 2 rfl ?_
          refine WG.nil ?_
          refine WE.nxt ?_
          refine W.ret ?_
          refine WE.blk_ret ?_
          refine WE.then_ret ?_
          refine WE.then_ret ?_
          refine WE.blk_ret ?_
          refine WE.then_ret ?_
          refine WE.retF tab_ok [_, _] rfl ⟨rfl, rfl, trivial⟩ (RLe.refl _) ?_
          exact by unfold lineF; rw [if_neg hk, if_neg hx0, if_pos hbad]; rfl
        · try simp only [decide_eq_true_eq, decide_eq_false_iff_not, beq_iff_eq, bne_iff_ne, beq_eq_false_iff_ne, bne_eq_false_iff_eq, ne_eq, Bool.or_eq_true, Bool.or_eq_false_iff, Bool.and_eq_true, Bool.and_eq_false_imp, Bool.not_eq_true, Bool.not_eq_true', Bool.not_eq_false', Classical.not_not, Int.not_lt, Int.not_le, gt_iff_lt, ge_iff_le] at hc3
          have hok1 : 32 ≤ byteAt x i ∧ byteAt x i ≤ 126 := by omega
          refine W.skip ?_
          refine WE.blk _ ?_
          refine WE.nxt ?_
          refine W.region _ ?_
          refine WG.run tab_ok 1 rfl ?_
          refine WG.y rfl rfl (by decide) (Yl.add rfl rfl rfl (fun _ => rfl) (by intro _; constructor <;> (try dsimp only) <;> omega)) ?_
          refine WG.run tab_ok 1 rfl ?_
          refine WG.nil ?_
          refine WE.again (i + 1) (⟨by omega, fun j hj => by
            by_cases e : j = i
            · subst e; exact hok1
            · exact hok j (by omega)⟩) (by (try dsimp only); omega) ⟨rfl, rfl, rfl, rfl⟩ (RLe.refl _) (by (repeat (first | exact List.Sublist.refl _ | exact List.nil_sublist _ | apply List.Sublist.cons_cons | apply List.Sublist.cons)); done)
      · try dsimp only at hc2
        obtain rfl : i = x.length := by omega
        have hgood : badB x = false := badB_none hok
        refine W.exit ?_
        refine WE.then_exit ?_
        refine WE.then_exit ?_
        refine WE.blk_exit ?_
        refine WE.nxt ?_
        refine W.seq ?_
        refine W.seq ?_
        refine W.region _ ?_
        refine WG.run tab_ok 3 rfl ?_
        refine WG.nil ?_
        refine WE.nxt ?_
        refine W.condD rfl (fun hc4 => ?_) (fun hc4 => ?_)
        · try dsimp only at hc4
          refine W.seq ?_
          refine W.region _ ?_
          refine WG.run tab_ok 2 rfl ?_
          refine WG.nil ?_
          refine WE.nxt ?_
          refine W.ret ?_
          refine WE.then_ret ?_
          refine WE.retF tab_ok [_, _] rfl ⟨rfl, rfl, trivial⟩ (RLe.refl _) ?_
          exact by unfold lineF; rw [if_neg hk, if_neg hx0, if_neg (by rw [hgood]; decide), if_pos (by omega)]; rfl
        · try dsimp only at hc4
          refine W.skip ?_
          refine WE.nxt ?_
          refine W.seq ?_
          refine W.region _ ?_
          refine WL.ef rfl rfl (by decide) (Ef.allocObj tab_ok rfl rfl (fun b7 => ?_))
          refine WL.nilE 5 1 (by decide) ?_
          refine WG.nil ?_
          refine WE.nxt ?_
          refine W.seq ?_
          refine W.region _ ?_
          refine WG.run tab_ok 1 rfl ?_
          refine WL.call en62 rfl rfl (by decide) (CallOp.mkT rfl rfl rfl rfl) (JDec_C w0 u (by omega) (b := b7) (l := ([] : List UInt8)) (.inl rfl) (by simp only [List.length_append, List.length_cons, List.length_nil]; omega)) ?_
          rintro _ _ _ - ⟨a0, k0, rfl, rfl, rfl⟩
          refine WG.nil ?_
          refine WE.nxt ?_
          refine W.seq ?_
          refine W.region _ ?_
          refine WL.call en63 rfl rfl (by decide) (CallOp.mkT rfl rfl rfl rfl) (WriteByte_C (l := ([] ++ Lib.decDigits u)) (b := b7) (.inr rfl) (by simp only [List.length_append, List.length_cons, List.length_nil, List.length_map, List.length_range]; omega) (32) w0) ?_
          rintro _ _ _ - ⟨a1, k1, rfl, rfl, rfl⟩
          refine WG.nil ?_
          refine WE.nxt ?_
          refine W.seq ?_
          refine W.region _ ?_
          refine WG.run tab_ok 2 rfl ?_
          refine WL.call en62 rfl rfl (by decide) (CallOp.mkT rfl rfl rfl rfl) (JDec_C w0 x.length (by omega) (b := b7) (l := ([] ++ Lib.decDigits u ++ [32])) (.inr rfl) (by simp only [List.length_append, List.length_cons, List.length_nil]; omega)) ?_
          rintro _ _ _ - ⟨a2, k2, rfl, rfl, rfl⟩
          refine WG.nil ?_
          refine WE.nxt ?_
          refine W.seq ?_
          refine W.region _ ?_
          refine WL.call en63 rfl rfl (by decide) (CallOp.mkT rfl rfl rfl rfl) (WriteByte_C (l := ([] ++ Lib.decDigits u ++ [32] ++ Lib.decDigits x.length)) (b := b7) (.inr rfl) (by simp only [List.length_append, List.length_cons, List.length_nil, List.length_map, List.length_range]; omega) (32) w0) ?_
          rintro _ _ _ - ⟨a3, k3, rfl, rfl, rfl⟩
          refine WG.nil ?_
          refine WE.nxt ?_
          refine W.seq ?_
          refine W.seq ?_
          refine W.region _ ?_
          refine WG.run tab_ok 1 rfl ?_
          refine WG.callV en24 rfl rfl (by decide) (CallOp.mk' rfl rfl rfl rfl) (fun _ => rfl) (fun hg => JSum_V (l := x) hxl) ?_
          refine WG.run tab_ok 2 rfl ?_
          refine WG.nil ?_
          refine WE.nxt ?_
          refine W.block ?_
          refine W.loopK (β := Nat × List UInt8 × Option Addr × Nat) (fun (j, m, aj, kj) => j ≤ 8 ∧ m = ([] ++ Lib.decDigits u ++ [32] ++ Lib.decDigits x.length ++ [32] ++ ((List.range j).map fun (i : Nat) => hexD (sumF x / 2 ^ ((28 : Int) - 4 * (i : Int)).toNat)))) (fun (j, m, aj, kj) => [(9, true, .int .i64 (28 - 4 * (j : Int)))]) [1, 7, 8] [_, _, _] [] _ rfl (fun (j, m, aj, kj) => [(0, .sl 5 1 aj kj (m.map encY)), (1, .obj b7 (.cells #[.pointer (some ⟨b7, 0, none⟩), .slice aj m.length kj] 79 (0, 0)))]) (fun (j, m, aj, kj) => 8 - j) ((0, ([] ++ Lib.decDigits u ++ [32] ++ Lib.decDigits x.length ++ [32]), a3, k3)) (⟨by show (0 : Nat) ≤ 8; decide, by simp⟩) ⟨rfl, rfl, rfl, rfl, rfl⟩ (by (repeat (first | exact List.Sublist.refl _ | exact List.nil_sublist _ | apply List.Sublist.cons_cons | apply List.Sublist.cons)); done) ?_
          intro zz hst
          obtain ⟨j, m, aj, kj⟩ := zz
          dsimp only [zipE, setAll, List.cons_append, List.nil_append, List.set_cons_zero, List.set_cons_succ] at hst ⊢
          obtain ⟨hj8, hm⟩ := hst
          refine W.seq ?_
          refine W.seq ?_
          refine W.region _ ?_
          refine WG.run tab_ok 2 rfl ?_
          refine WG.nil ?_
          refine WE.nxt ?_
          refine W.condD rfl (fun hc5 => ?_) (fun hc5 => ?_)
          · try dsimp only at hc5
            have hj7 : j ≤ 7 := by omega
            have hmlen : m.length ≤ 5000 := by rw [hm]; simp only [List.length_append, List.length_cons, List.length_nil, List.length_map, List.length_range]; omega
            refine W.skip ?_
            refine WE.nxt ?_
            refine W.seq ?_
            refine W.block ?_
            refine W.region _ ?_
            refine WG.run tab_ok 2 rfl ?_
            refine WG.y rfl rfl (by decide) (Yl.shrN rfl rfl rfl (fun _ => rfl) (by intro _; omega)) ?_
            refine WG.y rfl rfl (by decide) (Yl.and15 rfl rfl rfl (fun _ => rfl)) ?_
            refine WG.y rfl rfl (by decide) (Yl.sidx tab_ok rfl rfl rfl rfl rfl (fun _ => rfl) (by intro _; (simp only [List.length_cons, List.length_nil]; omega))) ?_
            refine WL.call en63 rfl rfl (by decide) (CallOp.mkT rfl rfl rfl rfl) (WriteByte_C (l := m) (b := b7) (.inr rfl) (by omega) (hexD (sumF x / 2 ^ ((28 : Int) - 4 * (j : Int)).toNat)) w0) ?_
            rintro _ _ _ - ⟨a5, k5, rfl, rfl, rfl⟩
            refine WG.nil ?_
            refine WE.blk _ ?_
            refine WE.nxt ?_
            refine W.region _ ?_
            refine WG.run tab_ok 1 rfl ?_
            refine WG.y rfl rfl (by decide) (Yl.sub rfl rfl rfl (fun _ => rfl) (by intro _; constructor <;> (try dsimp only) <;> omega)) ?_
            refine WG.run tab_ok 1 rfl ?_
            refine WG.nil ?_
            rw [show (28 : Int) - 4 * (j : Int) - 4 = 28 - 4 * ((j + 1 : Nat) : Int) by omega]
            refine WE.again ((j + 1, m ++ [hexD (sumF x / 2 ^ ((28 : Int) - 4 * (j : Int)).toNat)], a5, k5)) (⟨by dsimp only; omega, by dsimp only; rw [hm, List.range_succ, List.map_append, ← List.append_assoc]; rfl⟩) (by (try dsimp only); omega) ⟨rfl, rfl, rfl, rfl, rfl⟩ (RLe.refl _) (by (repeat (first | exact List.Sublist.refl _ | exact List.nil_sublist _ | apply List.Sublist.cons_cons | apply List.Sublist.cons)); done)
          · try dsimp only at hc5
            obtain rfl : j = 8 := by omega
            subst hm
            refine W.exit ?_
            refine WE.then_exit ?_
            refine WE.then_exit ?_
            refine WE.blk_exit ?_
            refine WE.nxt ?_
            have hhex : ((List.range 8).map fun (i : Nat) => hexD (sumF x / 2 ^ ((28 : Int) - 4 * (i : Int)).toNat)) = hexF (sumF x) 8 := by
              simp [List.range, List.range.loop, hexF]
            refine W.seq ?_
            refine W.region _ ?_
            refine WL.call en63 rfl rfl (by decide) (CallOp.mkT rfl rfl rfl rfl) (WriteByte_C (l := (Lib.decDigits u ++ [32] ++ Lib.decDigits x.length ++ [32] ++ ((List.range 8).map fun (i : Nat) => hexD (sumF x / 2 ^ ((28 : Int) - 4 * (i : Int)).toNat)))) (b := b7) (.inr rfl) (by simp only [List.length_append, List.length_cons, List.length_nil, List.length_map, List.length_range]; omega) (32) w0) ?_
            rintro _ _ _ - ⟨a6, k6, rfl, rfl, rfl⟩
            refine WG.nil ?_
            refine WE.nxt ?_
            refine W.seq ?_
            refine W.region _ ?_
            refine WG.run tab_ok 1 rfl ?_
            refine WL.call en64 rfl rfl (by decide) (CallOp.mkT rfl rfl rfl rfl) (WriteString_C (l := (Lib.decDigits u ++ [32] ++ Lib.decDigits x.length ++ [32] ++ ((List.range 8).map fun (i : Nat) => hexD (sumF x / 2 ^ ((28 : Int) - 4 * (i : Int)).toNat)) ++ [32])) (b := b7) (.inr rfl) (by simp only [List.length_append, List.length_cons, List.length_nil, List.length_map, List.length_range]; omega) x hxl w0) ?_
            rintro _ _ _ - ⟨a7, k7, rfl, rfl, rfl⟩
            refine WG.nil ?_
            refine WE.nxt ?_
            refine W.seq ?_
            refine W.region _ ?_
            refine WL.call en63 rfl rfl (by decide) (CallOp.mkT rfl rfl rfl rfl) (WriteByte_C (l := (Lib.decDigits u ++ [32] ++ Lib.decDigits x.length ++ [32] ++ ((List.range 8).map fun (i : Nat) => hexD (sumF x / 2 ^ ((28 : Int) - 4 * (i : Int)).toNat)) ++ [32] ++ x)) (b := b7) (.inr rfl) (by simp only [List.length_append, List.length_cons, List.length_nil, List.length_map, List.length_range]; omega) (10) w0) ?_
            rintro _ _ _ - ⟨a8, k8, rfl, rfl, rfl⟩
            refine WG.nil ?_
            refine WE.nxt ?_
            refine W.seq ?_
            refine W.region _ ?_
            refine WL.call en65 rfl rfl (by decide) (CallOp.mkT rfl rfl rfl rfl) (BString_C (l := (Lib.decDigits u ++ [32] ++ Lib.decDigits x.length ++ [32] ++ ((List.range 8).map fun (i : Nat) => hexD (sumF x / 2 ^ ((28 : Int) - 4 * (i : Int)).toNat)) ++ [32] ++ x ++ [10])) (b := b7) (.inr rfl) w0 hR) ?_
            rintro _ _ _ - ⟨rfl, rfl, rfl⟩
            refine WG.run tab_ok 2 rfl ?_
            refine WG.nil ?_
            refine WE.nxt ?_
            refine W.ret ?_
            refine WE.retF tab_ok [_, _] rfl ⟨rfl, rfl, trivial⟩ (RLe.refl _) ?_
            exact by unfold lineF; rw [if_neg hk, if_neg hx0, if_neg (by rw [hgood]; decide), if_neg (by omega), ← hhex]; rfl

end Go.Proofs.YtjacpnojnoompaaDoor

/- The journal: it is read. No condition. -/
set_option linter.unusedSimpArgs false
set_option linter.unusedVariables false
namespace Go.Proofs.YtjacpnojnoompaaDoor
open Go Go.RowKit Go.Proofs.YtjacpnojnoompaaDoor.K Go.Proofs.YtjacpnojnoompaaDoor.M

structure GlobJ (R : Ro) : Prop where
  m : ∃ (m : Int) (rest : List Value), R 0 = some (.int .i64 m :: rest)
def encT (l : List UInt8) : List Value := [.string (str l)]
theorem encT_flat : ∀ ys : List (List UInt8), (ys.map encT).flatten = ys.map fun l => Value.string (str l)
  | [] => rfl
  | c :: ys => by simp [encT, encT_flat ys]
theorem JCut_V {R : Ro} (hG : GlobJ R) {s : List UInt8} (hs : s.length ≤ 4000000000) : FnV Tryd.prog 57 [.string (str s), .string ⟨#[10]⟩] R (.tuple #[.string (str (Lib.cut s [10]).1), .string (str (Lib.cut s [10]).2.1), .bool (Lib.cut s [10]).2.2]) := by
  obtain ⟨m, rest, hm0⟩ := hG.m
  refine FnV.of (fun w0 E w hm => ?_)
  have h := sd_strings_Cut (str s) ⟨#[10]⟩ m w (by rw [str_size]; omega) (hm.cell hm0)
  have e1 : (str s).data.toList = s := by simp [str]
  rw [e1] at h
  refine h.mono ?_
  rintro e w' ⟨rfl, n, rfl⟩
  exact ⟨rfl, below_drewN w n⟩
theorem SplitN_C {R : Ro} (hG : GlobJ R) {s : List UInt8} (hs : s.length ≤ 1000000) (w0 : World) {E : List Ent} : K.Fn Tryd.prog 58 [.string (str s), .string ⟨#[32]⟩, .int .i64 4] w0 R E (fun v R' E' => ∃ (a : Option Addr) (cp : Nat), v = .slice a (Lib.splitN s [32] 4).length cp ∧ R = R' ∧ E' = .sl 9 1 a cp ((Lib.splitN s [32] 4).map encT) :: E) := by
  obtain ⟨m, rest, hm0⟩ := hG.m
  intro w hm
  have h := sd_strings_SplitN (str s) ⟨#[32]⟩ 4 m w (by rw [str_size]; omega) (hm.cell hm0) (by decide) (by decide) (by decide)
  have e1 : (str s).data.toList = s := by simp [str]
  have e2 : Lib.splitB ⟨#[32]⟩ 0 (min 4 ((str s).size + 1) - 1) (str s) = (Lib.splitN s [32] 4).map str := by
    have h1 := Lib.splitB_data ⟨#[32]⟩ 0 (min 4 ((str s).size + 1) - 1) (str s)
    rw [e1, str_size] at h1
    have h2 : Lib.splitN s [32] 4 = (Lib.splitB ⟨#[32]⟩ 0 (min 4 (s.length + 1) - 1) (str s)).map (·.data.toList) := by rw [h1]; rfl
    rw [h2, List.map_map, str_size]
    have h3 : (str ∘ fun x : ByteArray => x.data.toList) = id := by funext x; exact (str_of x).symm
    rw [h3, List.map_id]
  have hle := Lib.splitB_length_le ⟨#[32]⟩ 0 (min 4 ((str s).size + 1) - 1) (str s)
  rw [e2, List.length_map] at h hle
  have hN : (Lib.splitN s [32] 4).length ≤ min 4 ((str s).size + 1) := by omega
  refine h.mono ?_
  rintro e w' ⟨rfl, rfl⟩
  refine ⟨_, R, _, rfl, RLe.refl _, hm.new (World.grownBy_alloc w _ none) (ok_sl (cur := Lib.cellsOf ((Lib.splitN s [32] 4).map str) (min 4 ((str s).size + 1))) (fun r hr => by obtain ⟨c, _, rfl⟩ := List.mem_map.1 hr; rfl) (by decide) hm.below.size (heap_alloc_new w _) (by rw [List.length_map]; exact hN) (by have : min 4 ((str s).size + 1) ≤ 4 := Nat.min_le_left _ _; exact Nat.le_trans this (by decide)) (by rw [Lib.cellsOf_size (by rw [List.length_map]; exact hN)]; omega) ?_) (fun b hb => by simp [Ent.block] at hb; omega), _, _, rfl, rfl, rfl⟩
  rw [encT_flat]
  unfold Lib.cellsOf
  rw [List.toList_toArray, List.map_map]
  exact List.take_left' (by simp)

set_option maxHeartbeats 1000000 in
theorem JRead_C {R : Ro} (hG : GlobJ R) {j : List UInt8} (hj : j.length ≤ 1000000) (w0 : World) {E : List Ent} : K.Fn Tryd.prog 16 [.string (str j)] w0 R E (fun v R' E' => ∃ (a : Option Addr) (cp : Nat), v = .tuple #[.slice a (readJ j).1.length cp, .int .i64 ((readJ j).2 : Int)] ∧ R = R' ∧ E' = .sl 9 1 a cp ((readJ j).1.map encT) :: E) := by
  have hsz := str_size j
  refine Fn.enter (n := 65) Tryd.func16 rfl rfl (Nat.le_of_ble_eq_true rfl) rfl ?_
  refine W.seq ?_
  refine W.region _ ?_
  refine WG.run tab_ok 2 rfl ?_
  refine WG.nil ?_
  refine WE.nxt ?_
  refine W.seq ?_
  refine W.seq ?_
  refine W.region _ ?_
  refine WG.run tab_ok 1 rfl ?_
  refine WL.nilE 9 1 (by decide) ?_
  refine WG.run tab_ok 2 rfl ?_
  refine WG.nil ?_
  refine WE.nxt ?_
  refine W.condD rfl (fun hc0 => ?_) (fun hc0 => ?_)
  · try dsimp only at hc0
    have hbig : 8000 < j.length := by omega
    refine W.seq ?_
    refine W.region _ ?_
    refine WG.run tab_ok 2 rfl ?_
    refine WG.nil ?_
    refine WE.nxt ?_
    refine W.ret ?_
    refine WE.then_ret ?_
    refine WE.subE (E' := (.sl 9 1 none 0 (([] : List (List UInt8)).map encT) :: E)) (by (repeat (first | exact List.Sublist.refl _ | exact List.nil_sublist _ | apply List.Sublist.cons_cons | apply List.Sublist.cons)); done) ?_
    refine WE.retF tab_ok [_, _] rfl ⟨rfl, rfl, trivial⟩ (RLe.refl _) ?_
    exact ⟨none, 0, by unfold readJ; rw [if_pos hbig]; rfl, rfl, by unfold readJ; rw [if_pos hbig]⟩
  · try dsimp only at hc0
    have hjl : ¬ 8000 < j.length := by omega
    refine W.skip ?_
    refine WE.nxt ?_
    refine W.seq ?_
    refine W.region _ ?_
    refine WG.run tab_ok 2 rfl ?_
    refine WG.nil ?_
    refine WE.nxt ?_
    refine W.block ?_
    refine W.loopK (β := Nat × List (List UInt8) × Nat × Option Addr × Nat) (fun (g, xs, tk, a1, c1) => g + xs.length = 61 ∧ xs.length ≤ 60 ∧ tk ≤ j.length ∧ readGo g j xs tk = readGo 61 j [] 0) (fun (g, xs, tk, a1, c1) => [(2, true, .slice a1 xs.length c1), (3, true, .int .i64 (tk : Int)), (4, true, .string (str (j.drop tk)))]) [0] [_] [] _ rfl (fun (g, xs, tk, a1, c1) => [(0, .sl 9 1 a1 c1 (xs.map encT))]) (fun (g, xs, tk, a1, c1) => g) ((61, [], 0, none, 0)) (⟨rfl, by decide, Nat.zero_le _, rfl⟩) ⟨rfl, rfl, rfl, rfl, rfl⟩ (by (repeat (first | exact List.Sublist.refl _ | exact List.nil_sublist _ | apply List.Sublist.cons_cons | apply List.Sublist.cons)); done) ?_
    intro zz hst
    obtain ⟨g, xs, tk, a1, c1⟩ := zz
    dsimp only [zipE, setAll, List.cons_append, List.nil_append, List.set_cons_zero, List.set_cons_succ] at hst ⊢
    obtain ⟨hg61, hx60, htk, hgo⟩ := hst
    refine W.seq ?_
    refine W.block ?_
    refine W.seq ?_
    refine W.region _ ?_
    refine WG.run tab_ok 1 rfl ?_
    refine WG.callV en57 rfl rfl (by decide) (CallOp.mk' rfl rfl rfl rfl) (fun _ => rfl) (fun hg => JCut_V hG (s := j.drop tk) (by rw [List.length_drop]; omega)) ?_
    refine WG.run tab_ok 7 rfl ?_
    refine WG.nil ?_
    refine WE.nxt ?_
    refine W.seq ?_
    refine W.region _ ?_
    refine WG.run tab_ok 1 rfl ?_
    have hcl := cut_le (j.drop tk) [10]
    rw [List.length_drop] at hcl
    refine WL.call en58 rfl rfl (by decide) (CallOp.mkT rfl rfl rfl rfl) (SplitN_C hG (s := (Lib.cut (j.drop tk) [10]).1) (by omega) w0) ?_
    rintro _ _ _ - ⟨a2, c2, rfl, rfl, rfl⟩
    refine WG.run tab_ok 1 rfl ?_
    refine WG.nil ?_
    refine WE.nxt ?_
    refine W.seq ?_
    refine W.seq ?_
    refine W.region _ ?_
    refine WG.run tab_ok 3 rfl ?_
    refine WG.y rfl rfl (by decide) (pureV_ok tab_ok rfl (by first | exact fun _ => rfl | exact fun h => h | (intro h; simp_all))) ?_
    refine WG.y rfl rfl (by decide) (pureV_ok tab_ok rfl (by first | exact fun _ => rfl | exact fun h => h | (intro h; simp_all))) ?_
    refine WG.y rfl rfl (by decide) (pureV_ok tab_ok rfl (by first | exact fun _ => rfl | exact fun h => h | (intro h; simp_all))) ?_
    refine WG.y rfl rfl (by decide) (Yl.por rfl rfl rfl (fun _ => rfl) (by intro h1 h2; simp_all <;> omega)) ?_
    refine WG.nil ?_
    refine WE.nxt ?_
    refine W.cond rfl (fun hc1 => ?_) (fun hc1 => ?_)
    · try simp only [decide_eq_true_eq, decide_eq_false_iff_not, beq_iff_eq, bne_iff_ne, beq_eq_false_iff_ne, bne_eq_false_iff_eq, ne_eq, Bool.or_eq_true, Bool.or_eq_false_iff, Bool.and_eq_true, Bool.and_eq_false_imp, Bool.not_eq_true, Bool.not_eq_true', Bool.not_eq_false', Classical.not_not, Int.not_lt, Int.not_le, gt_iff_lt, ge_iff_le] at hc1
      have hst0 : stepF ((xs.length : Int) + 1) (j.drop tk) = none := by
        unfold stepF
        rw [if_pos (by rcases hc1 with h | h; exact .inl h; exact .inr (by omega))]
      refine W.seq ?_
      refine W.region _ ?_
      refine WG.run tab_ok 4 rfl ?_
      refine WG.nil ?_
      refine WE.nxt ?_
      refine W.ret ?_
      refine WE.then_ret ?_
      refine WE.blk_ret ?_
      refine WE.then_ret ?_
      refine WE.then_ret ?_
      refine WE.blk_ret ?_
      refine WE.subE (E' := (.sl 9 1 a1 c1 (xs.map encT) :: E)) (by (repeat (first | exact List.Sublist.refl _ | exact List.nil_sublist _ | apply List.Sublist.cons_cons | apply List.Sublist.cons)); done) ?_
      refine WE.retF tab_ok [_, _] rfl ⟨rfl, rfl, trivial⟩ (RLe.refl _) ?_
      have hre : readJ j = (xs, tk) := by
        obtain ⟨g, rfl⟩ : ∃ g1, g = g1 + 1 := ⟨g - 1, by omega⟩
        unfold readGo at hgo
        rw [hst0] at hgo
        unfold readJ
        rw [if_neg hjl]
        exact hgo.symm
      exact ⟨a1, c1, by rw [hre]; rfl, rfl, by rw [hre]⟩
    · try simp only [decide_eq_true_eq, decide_eq_false_iff_not, beq_iff_eq, bne_iff_ne, beq_eq_false_iff_ne, bne_eq_false_iff_eq, ne_eq, Bool.or_eq_true, Bool.or_eq_false_iff, Bool.and_eq_true, Bool.and_eq_false_imp, Bool.not_eq_true, Bool.not_eq_true', Bool.not_eq_false', Classical.not_not, Int.not_lt, Int.not_le, gt_iff_lt, ge_iff_le] at hc1
      have hsA : ¬ ((Lib.cut (j.drop tk) [10]).2.2 = false ∨ (Lib.splitN (Lib.cut (j.drop tk) [10]).1 [32] 4).length < 4) := by
        rintro (h | h)
        · rw [hc1.1] at h; cases h
        · have := hc1.2; omega
      have h4 : 4 ≤ (Lib.splitN (Lib.cut (j.drop tk) [10]).1 [32] 4).length := by have := hc1.2; omega
      refine W.skip ?_
      refine WE.nxt ?_
      refine W.seq ?_
      refine W.region _ ?_
      refine WG.run tab_ok 2 rfl ?_
      refine WG.y rfl rfl (by decide) (Yl.add rfl rfl rfl (fun _ => rfl) (by intro _; constructor <;> (try dsimp only) <;> omega)) ?_
      refine WG.run tab_ok 1 rfl ?_
      refine WG.y rfl rfl (by decide) (Yl.indexN tab_ok rfl rfl rfl rfl rfl rfl (fun _ => rfl) (by intro _; (try dsimp only) <;> omega) (by intro _; first | exact fun _ _ _ _ => rfl | exact RS.has (by assumption) | exact fun _ _ _ _ => (by assumption) | exact HasMem.ownD 0 rfl | exact HasMem.ownD 1 rfl | exact HasMem.ownD 2 rfl)) ?_
      refine' WG.y rfl rfl (by decide) (Yl.load1 tab_ok rfl rfl rfl (fun _ => rfl) ?r1 rfl ?h1) ?_
      case r1 => (first | (apply RS.rdD; assumption; ((try dsimp only) <;> omega)) | exact Rd.slD 0 rfl (by (try dsimp only) <;> omega) | exact Rd.slD 1 rfl (by (try dsimp only) <;> omega) | exact Rd.slD 2 rfl (by (try dsimp only) <;> omega))
      case h1 => rfl
      refine WG.callV en29 rfl rfl (by decide) (CallOp.mk' rfl rfl rfl rfl) (fun _ => rfl) (fun hg => JLine_V (k := (xs.length : Int) + 1) (x := nth (Lib.splitN (Lib.cut (j.drop tk) [10]).1 [32] 4) 3) (by constructor <;> omega) (by have := splitN_le (nth_mem (xs := (Lib.splitN (Lib.cut (j.drop tk) [10]).1 [32] 4)) (k := 3) (by omega)); omega)) ?_
      refine WG.run tab_ok 5 rfl ?_
      refine WG.nil ?_
      refine WE.nxt ?_
      refine W.seq ?_
      refine W.seq ?_
      refine W.region _ ?_
      refine WG.run tab_ok 3 rfl ?_
      refine WG.y rfl rfl (by decide) (pureV_ok tab_ok rfl (by first | exact fun _ => rfl | exact fun h => h | (intro h; simp_all))) ?_
      refine WG.y rfl rfl (by decide) (pureV_ok tab_ok rfl (by first | exact fun _ => rfl | exact fun h => h | (intro h; simp_all))) ?_
      refine WG.y rfl rfl (by decide) (Yl.catS rfl rfl rfl (by first | exact fun _ => rfl | exact fun h => h | (intro h; simp_all)) (by intro hg; (try simp only [decide_eq_true_eq, decide_eq_false_iff_not, beq_iff_eq, bne_iff_ne, beq_eq_false_iff_ne, bne_eq_false_iff_eq, ne_eq, Bool.or_eq_true, Bool.or_eq_false_iff, Bool.and_eq_true, Bool.and_eq_false_imp, Bool.not_eq_true, Bool.not_eq_true', Bool.not_eq_false', Classical.not_not, Int.not_lt, Int.not_le, gt_iff_lt, ge_iff_le] at hg); (simp only [List.length_cons, List.length_nil]; omega))) ?_
      refine WG.y rfl rfl (by decide) (Yl.neS rfl rfl rfl (by first | exact fun _ => rfl | exact fun h => h | (intro h; simp_all))) ?_
      refine WG.y rfl rfl (by decide) (Yl.por rfl rfl rfl (fun _ => rfl) (by intro h1 h2; simp_all <;> omega)) ?_
      refine WG.nil ?_
      refine WE.nxt ?_
      refine W.cond rfl (fun hc2 => ?_) (fun hc2 => ?_)
      · try simp only [decide_eq_true_eq, decide_eq_false_iff_not, beq_iff_eq, bne_iff_ne, beq_eq_false_iff_ne, bne_eq_false_iff_eq, ne_eq, Bool.or_eq_true, Bool.or_eq_false_iff, Bool.and_eq_true, Bool.and_eq_false_imp, Bool.not_eq_true, Bool.not_eq_true', Bool.not_eq_false', Classical.not_not, Int.not_lt, Int.not_le, gt_iff_lt, ge_iff_le] at hc2
        have hst0 : stepF ((xs.length : Int) + 1) (j.drop tk) = none := by
          unfold stepF
          rw [if_neg hsA, if_pos (by rcases hc2 with h | h; exact .inl h; exact .inr (fun e => h (by rw [e])))]
        refine W.seq ?_
        refine W.region _ ?_
        refine WG.run tab_ok 4 rfl ?_
        refine WG.nil ?_
        refine WE.nxt ?_
        refine W.ret ?_
        refine WE.then_ret ?_
        refine WE.blk_ret ?_
        refine WE.then_ret ?_
        refine WE.then_ret ?_
        refine WE.blk_ret ?_
        refine WE.subE (E' := (.sl 9 1 a1 c1 (xs.map encT) :: E)) (by (repeat (first | exact List.Sublist.refl _ | exact List.nil_sublist _ | apply List.Sublist.cons_cons | apply List.Sublist.cons)); done) ?_
        refine WE.retF tab_ok [_, _] rfl ⟨rfl, rfl, trivial⟩ (RLe.refl _) ?_
        have hre : readJ j = (xs, tk) := by
          obtain ⟨g, rfl⟩ : ∃ g1, g = g1 + 1 := ⟨g - 1, by omega⟩
          unfold readGo at hgo
          rw [hst0] at hgo
          unfold readJ
          rw [if_neg hjl]
          exact hgo.symm
        exact ⟨a1, c1, by rw [hre]; rfl, rfl, by rw [hre]⟩
      · try simp only [decide_eq_true_eq, decide_eq_false_iff_not, beq_iff_eq, bne_iff_ne, beq_eq_false_iff_ne, bne_eq_false_iff_eq, ne_eq, Bool.or_eq_true, Bool.or_eq_false_iff, Bool.and_eq_true, Bool.and_eq_false_imp, Bool.not_eq_true, Bool.not_eq_true', Bool.not_eq_false', Classical.not_not, Int.not_lt, Int.not_le, gt_iff_lt, ge_iff_le] at hc2
        have hst1 : stepF ((xs.length : Int) + 1) (j.drop tk) = some ((nth (Lib.splitN (Lib.cut (j.drop tk) [10]).1 [32] 4) 3), (lineF ((xs.length : Int) + 1) (nth (Lib.splitN (Lib.cut (j.drop tk) [10]).1 [32] 4) 3)).1.length) := by
          unfold stepF
          rw [if_neg hsA, if_neg (by rintro (h | h); exact h hc2.1; exact h (str_inj hc2.2))]
        have hsl := stepF_le hst1
        rw [List.length_drop] at hsl
        have hls := str_size (lineF ((xs.length : Int) + 1) (nth (Lib.splitN (Lib.cut (j.drop tk) [10]).1 [32] 4) 3)).1
        dsimp only at hsl
        refine W.skip ?_
        refine WE.nxt ?_
        refine W.region _ ?_
        refine WG.run tab_ok 2 rfl ?_
        refine WG.y rfl rfl (by decide) (Yl.indexN tab_ok rfl rfl rfl rfl rfl rfl (fun _ => rfl) (by intro _; (try dsimp only) <;> omega) (by intro _; first | exact fun _ _ _ _ => rfl | exact RS.has (by assumption) | exact fun _ _ _ _ => (by assumption) | exact HasMem.ownD 0 rfl | exact HasMem.ownD 1 rfl | exact HasMem.ownD 2 rfl)) ?_
        refine' WG.y rfl rfl (by decide) (Yl.load1 tab_ok rfl rfl rfl (fun _ => rfl) ?r2 rfl ?h2) ?_
        case r2 => (first | (apply RS.rdD; assumption; ((try dsimp only) <;> omega)) | exact Rd.slD 0 rfl (by (try dsimp only) <;> omega) | exact Rd.slD 1 rfl (by (try dsimp only) <;> omega) | exact Rd.slD 2 rfl (by (try dsimp only) <;> omega))
        case h2 => rfl
        refine WL.ef rfl rfl (by decide) (Ef.buildSliceD (enc := encT) (parts := [.tmp 58]) [_] tab_ok rfl rfl rfl rfl rfl rfl rfl rfl (by decide) (by decide) (fun a59 => ?_))
        first | refine WL.ef rfl rfl (by decide) (Ef.appendD 1 0 tab_ok rfl rfl rfl rfl rfl rfl rfl rfl rfl rfl rfl (fun _ _ => rfl) (by simp only [List.length_cons, List.length_nil]; omega) (by simp only [List.length_cons, List.length_nil]; omega) (fun a60 c60 ha60 => ?_)) | refine WL.ef rfl rfl (by decide) (Ef.appendD 2 0 tab_ok rfl rfl rfl rfl rfl rfl rfl rfl rfl rfl rfl (fun _ _ => rfl) (by simp only [List.length_cons, List.length_nil]; omega) (by simp only [List.length_cons, List.length_nil]; omega) (fun a60 c60 ha60 => ?_)) | refine WL.ef rfl rfl (by decide) (Ef.appendR 0 tab_ok rfl rfl rfl rfl rfl rfl rfl rfl rfl rfl (by assumption) (fun _ _ => rfl) (by (try dsimp only); omega) (by omega) (fun a60 c60 ha60 => ?_)) | refine WL.ef rfl rfl (by decide) (Ef.appendR 1 tab_ok rfl rfl rfl rfl rfl rfl rfl rfl rfl rfl (by assumption) (fun _ _ => rfl) (by (try dsimp only); omega) (by omega) (fun a60 c60 ha60 => ?_)) | refine WL.ef rfl rfl (by decide) (Ef.appendR 2 tab_ok rfl rfl rfl rfl rfl rfl rfl rfl rfl rfl (by assumption) (fun _ _ => rfl) (by (try dsimp only); omega) (by omega) (fun a60 c60 ha60 => ?_))
        refine WG.run tab_ok 3 rfl ?_
        refine WG.y rfl rfl (by decide) (Yl.add rfl rfl rfl (fun _ => rfl) (by intro _; constructor <;> (try dsimp only) <;> omega)) ?_
        refine WG.run tab_ok 2 rfl ?_
        refine WG.nil ?_
        refine WE.blk _ ?_
        refine WE.nxt ?_
        refine W.region _ ?_
        refine WG.run tab_ok 2 rfl ?_
        refine WG.y rfl rfl (by decide) (Yl.sliceSL tab_ok rfl rfl rfl rfl rfl (fun _ => rfl) (by intro _; omega)) ?_
        refine WG.run tab_ok 1 rfl ?_
        refine WG.nil ?_
        rw [hls, ← Int.natCast_add]
        refine WE.again ((g - 1, xs ++ [(nth (Lib.splitN (Lib.cut (j.drop tk) [10]).1 [32] 4) 3)], tk + (lineF ((xs.length : Int) + 1) (nth (Lib.splitN (Lib.cut (j.drop tk) [10]).1 [32] 4) 3)).1.length, a60, c60)) (⟨by dsimp only; simp only [List.length_append, List.length_cons, List.length_nil]; omega, by dsimp only; simp only [List.length_append, List.length_cons, List.length_nil]; omega, by dsimp only; omega, by obtain ⟨g, rfl⟩ : ∃ g1, g = g1 + 1 := ⟨g - 1, by omega⟩; unfold readGo at hgo; rw [hst1] at hgo; exact hgo⟩) (by (try dsimp only); omega) ⟨rfl, rfl, rfl, rfl, rfl⟩ (RLe.refl _) (by (repeat (first | exact List.Sublist.refl _ | exact List.nil_sublist _ | apply List.Sublist.cons_cons | apply List.Sublist.cons)); done)

end Go.Proofs.YtjacpnojnoompaaDoor

/- The journal: texts are added. No condition. -/
set_option linter.unusedSimpArgs false
set_option linter.unusedVariables false
namespace Go.Proofs.YtjacpnojnoompaaDoor
open Go Go.RowKit Go.Proofs.YtjacpnojnoompaaDoor.K Go.Proofs.YtjacpnojnoompaaDoor.M

theorem JValid_V {R : Ro} (hG : GlobJ R) {j : List UInt8} (hj : j.length ≤ 1000000) : FnV Tryd.prog 22 [.string (str j)] R (.bool (validJ j)) := by
  refine FnV.ofOwn (fun w0 hR => ?_)
  have hsz := str_size j
  have hrl := readJ_le j
  refine Fn.enter (n := 19) Tryd.func22 rfl rfl (Nat.le_of_ble_eq_true rfl) rfl ?_
  refine W.seq ?_
  refine W.region _ ?_
  refine WG.run tab_ok 1 rfl ?_
  refine WG.nil ?_
  refine WE.nxt ?_
  refine W.seq ?_
  refine W.region _ ?_
  refine WG.run tab_ok 1 rfl ?_
  refine WL.call en16 rfl rfl (by decide) (CallOp.mkT rfl rfl rfl rfl) (JRead_C hG hj w0) ?_
  rintro _ _ _ - ⟨a2, c2, rfl, rfl, rfl⟩
  refine WG.run tab_ok 5 rfl ?_
  refine WG.nil ?_
  refine WE.nxt ?_
  refine W.seq ?_
  refine W.region _ ?_
  refine WG.run tab_ok 4 rfl ?_
  refine WG.y rfl rfl (by decide) (pureV_ok tab_ok rfl (by first | exact fun _ => rfl | exact fun h => h | (intro h; simp_all))) ?_
  refine WG.y rfl rfl (by decide) (pureV_ok tab_ok rfl (by first | exact fun _ => rfl | exact fun h => h | (intro h; simp_all))) ?_
  refine WG.y rfl rfl (by decide) (pureV_ok tab_ok rfl (by first | exact fun _ => rfl | exact fun h => h | (intro h; simp_all))) ?_
  refine WG.y rfl rfl (by decide) (pureV_ok tab_ok rfl (by first | exact fun _ => rfl | exact fun h => h | (intro h; simp_all))) ?_
  refine WG.y rfl rfl (by decide) (Yl.pand rfl rfl rfl (fun _ => rfl) (by intro h1 h2; simp_all <;> omega)) ?_
  refine WG.run tab_ok 1 rfl ?_
  refine WG.nil ?_
  refine WE.nxt ?_
  refine W.ret ?_
  refine WE.retF tab_ok [_] rfl ⟨rfl, trivial⟩ (RLe.refl _) ?_
  exact congrArg Value.bool (by unfold validJ; rw [Bool.eq_iff_iff]; simp [hsz]; omega)

theorem JAppend_V {R : Ro} (hG : GlobJ R) {j t : List UInt8} (hj : j.length ≤ 1000000) (ht : t.length ≤ 1000000) : FnV Tryd.prog 18 [.string (str j), .string (str t)] R (.tuple #[.string (str (appendJ j t).1), .int .i64 (appendJ j t).2]) := by
  refine FnV.ofOwn (fun w0 hR => ?_)
  have hsz := str_size j
  have hls := str_size (lineF ((readJ j).1.length + 1) t).1
  have hlt : (List.take (((readJ j).2 : Int)).toNat j).length ≤ j.length := by rw [List.length_take]; omega
  have hrl := readJ_le j
  have hll := lineF_len (k := ((readJ j).1.length : Int) + 1) ht
  refine Fn.enter (n := 47) Tryd.func18 rfl rfl (Nat.le_of_ble_eq_true rfl) rfl ?_
  refine W.seq ?_
  refine W.region _ ?_
  refine WG.run tab_ok 2 rfl ?_
  refine WG.nil ?_
  refine WE.nxt ?_
  refine W.seq ?_
  refine W.seq ?_
  refine W.region _ ?_
  refine WG.run tab_ok 1 rfl ?_
  refine WG.callV en29 rfl rfl (by decide) (CallOp.mk' rfl rfl rfl rfl) (fun _ => rfl) (fun hg => JLine_V (k := 1) (x := t) (by constructor <;> decide) ht) ?_
  refine WG.run tab_ok 5 rfl ?_
  refine WG.nil ?_
  refine WE.nxt ?_
  refine W.seq ?_
  refine W.region _ ?_
  refine WG.run tab_ok 2 rfl ?_
  refine WG.nil ?_
  refine WE.nxt ?_
  refine W.condN rfl (fun hc0 => ?_) (fun hc0 => ?_)
  · try dsimp only at hc0
    have he : (lineF 1 t).2 ≠ 0 := by simpa using hc0
    refine W.seq ?_
    refine W.region _ ?_
    refine WG.run tab_ok 3 rfl ?_
    refine WG.nil ?_
    refine WE.nxt ?_
    refine W.ret ?_
    refine WE.then_ret ?_
    refine WE.retF tab_ok [_, _] rfl ⟨rfl, rfl, trivial⟩ (RLe.refl _) ?_
    exact by unfold appendJ; rw [if_pos he]; rfl
  · try dsimp only at hc0
    have he : ¬ (lineF 1 t).2 ≠ 0 := by simpa using hc0
    refine W.skip ?_
    refine WE.nxt ?_
    refine W.seq ?_
    refine W.region _ ?_
    refine WG.run tab_ok 1 rfl ?_
    refine WL.call en16 rfl rfl (by decide) (CallOp.mkT rfl rfl rfl rfl) (JRead_C hG hj w0) ?_
    rintro _ _ _ - ⟨a2, c2, rfl, rfl, rfl⟩
    refine WG.run tab_ok 5 rfl ?_
    refine WG.nil ?_
    refine WE.nxt ?_
    refine W.seq ?_
    refine W.region _ ?_
    refine WG.run tab_ok 2 rfl ?_
    refine WG.y rfl rfl (by decide) (Yl.add rfl rfl rfl (fun _ => rfl) (by intro _; constructor <;> (try dsimp only) <;> omega)) ?_
    refine WG.run tab_ok 1 rfl ?_
    refine WG.callV en29 rfl rfl (by decide) (CallOp.mk' rfl rfl rfl rfl) (fun _ => rfl) (fun hg => JLine_V (k := ((readJ j).1.length : Int) + 1) (x := t) (by constructor <;> omega) ht) ?_
    refine WG.run tab_ok 5 rfl ?_
    refine WG.nil ?_
    refine WE.nxt ?_
    refine W.seq ?_
    refine W.seq ?_
    refine W.region _ ?_
    refine WG.run tab_ok 3 rfl ?_
    refine WG.y rfl rfl (by decide) (pureV_ok tab_ok rfl (by first | exact fun _ => rfl | exact fun h => h | (intro h; simp_all))) ?_
    refine WG.y rfl rfl (by decide) (pureV_ok tab_ok rfl (by first | exact fun _ => rfl | exact fun h => h | (intro h; simp_all))) ?_
    refine WG.y rfl rfl (by decide) (pureV_ok tab_ok rfl (by first | exact fun _ => rfl | exact fun h => h | (intro h; simp_all))) ?_
    refine WG.y rfl rfl (by decide) (Yl.add rfl rfl rfl (by first | exact fun _ => rfl | exact fun h => h | (intro h; simp_all)) (by intro hg; (try simp only [decide_eq_true_eq, decide_eq_false_iff_not, beq_iff_eq, bne_iff_ne, beq_eq_false_iff_ne, bne_eq_false_iff_eq, ne_eq, Bool.or_eq_true, Bool.or_eq_false_iff, Bool.and_eq_true, Bool.and_eq_false_imp, Bool.not_eq_true, Bool.not_eq_true', Bool.not_eq_false', Classical.not_not, Int.not_lt, Int.not_le, gt_iff_lt, ge_iff_le] at hg); constructor <;> (try dsimp only) <;> omega)) ?_
    refine WG.y rfl rfl (by decide) (pureV_ok tab_ok rfl (by first | exact fun _ => rfl | exact fun h => h | (intro h; simp_all))) ?_
    refine WG.y rfl rfl (by decide) (Yl.por rfl rfl rfl (fun _ => rfl) (by intro h1 h2; simp_all <;> omega)) ?_
    refine WG.nil ?_
    refine WE.nxt ?_
    refine W.cond rfl (fun hc1 => ?_) (fun hc1 => ?_)
    · try simp only [decide_eq_true_eq, decide_eq_false_iff_not, beq_iff_eq, bne_iff_ne, beq_eq_false_iff_ne, bne_eq_false_iff_eq, ne_eq, Bool.or_eq_true, Bool.or_eq_false_iff, Bool.and_eq_true, Bool.and_eq_false_imp, Bool.not_eq_true, Bool.not_eq_true', Bool.not_eq_false', Classical.not_not, Int.not_lt, Int.not_le, gt_iff_lt, ge_iff_le] at hc1
      refine W.seq ?_
      refine W.region _ ?_
      refine WG.run tab_ok 2 rfl ?_
      refine WG.nil ?_
      refine WE.nxt ?_
      refine W.ret ?_
      refine WE.then_ret ?_
      refine WE.retF tab_ok [_, _] rfl ⟨rfl, rfl, trivial⟩ (RLe.refl _) ?_
      exact by unfold appendJ; rw [if_neg he, if_pos (by rcases hc1 with h | h; exact .inl h; exact .inr (by omega))]; rfl
    · try simp only [decide_eq_true_eq, decide_eq_false_iff_not, beq_iff_eq, bne_iff_ne, beq_eq_false_iff_ne, bne_eq_false_iff_eq, ne_eq, Bool.or_eq_true, Bool.or_eq_false_iff, Bool.and_eq_true, Bool.and_eq_false_imp, Bool.not_eq_true, Bool.not_eq_true', Bool.not_eq_false', Classical.not_not, Int.not_lt, Int.not_le, gt_iff_lt, ge_iff_le] at hc1
      refine W.skip ?_
      refine WE.nxt ?_
      refine W.seq ?_
      refine W.region _ ?_
      refine WG.run tab_ok 2 rfl ?_
      refine WG.y rfl rfl (by decide) (Yl.sliceSH tab_ok rfl rfl rfl rfl rfl (fun _ => rfl) (by intro _; omega)) ?_
      refine WG.run tab_ok 1 rfl ?_
      refine WG.y rfl rfl (by decide) (Yl.catS rfl rfl rfl (fun _ => rfl) (by intro _; omega)) ?_
      refine WG.run tab_ok 2 rfl ?_
      refine WG.nil ?_
      refine WE.nxt ?_
      refine W.ret ?_
      refine WE.retF tab_ok [_, _] rfl ⟨rfl, rfl, trivial⟩ (RLe.refl _) ?_
      exact by unfold appendJ; rw [if_neg he, if_neg (by rintro (h | h); exact h hc1.1; have := hc1.2; omega)]; rfl

end Go.Proofs.YtjacpnojnoompaaDoor

/- The journal: the example of the chapter. No condition. -/
set_option linter.unusedSimpArgs false
set_option linter.unusedVariables false
namespace Go.Proofs.YtjacpnojnoompaaDoor
open Go Go.RowKit Go.Proofs.YtjacpnojnoompaaDoor.K Go.Proofs.YtjacpnojnoompaaDoor.M

theorem dec_one {u : Nat} (h : u < 10) : Lib.decDigits u = [UInt8.ofNat (48 + u)] := by rw [Lib.decDigits, dif_pos h]
theorem sane_line1 : lineF 1 [97, 98, 99] = ([49, 32, 51, 32, 48, 50, 52, 100, 48, 49, 50, 55, 32, 97, 98, 99, 10], 0) := by
  unfold lineF
  rw [if_neg (by decide), if_neg (by decide), if_neg (by decide), if_neg (by decide), dec_one (by decide), dec_one (by decide), show hexF (sumF [97, 98, 99]) 8 = [48, 50, 52, 100, 48, 49, 50, 55] from by decide]
  rfl
theorem sane_line2 : lineF 2 [120] = ([50, 32, 49, 32, 48, 48, 55, 57, 48, 48, 55, 57, 32, 120, 10], 0) := by
  unfold lineF
  rw [if_neg (by decide), if_neg (by decide), if_neg (by decide), if_neg (by decide), dec_one (by decide), dec_one (by decide), show hexF (sumF [120]) 8 = [48, 48, 55, 57, 48, 48, 55, 57] from by decide]
  rfl
theorem sane_b : linesF 1 [[97, 98, 99], [120]] = [49, 32, 51, 32, 48, 50, 52, 100, 48, 49, 50, 55, 32, 97, 98, 99, 10, 50, 32, 49, 32, 48, 48, 55, 57, 48, 48, 55, 57, 32, 120, 10] := by
  simp only [linesF]
  rw [sane_line1, show (1 : Int) + 1 = 2 from rfl, sane_line2]
  rfl
theorem sane_a : linesF 1 [[97, 98, 99]] = [49, 32, 51, 32, 48, 50, 52, 100, 48, 49, 50, 55, 32, 97, 98, 99, 10] := by
  simp only [linesF]
  rw [sane_line1]
  rfl
theorem sane_ok1 : OkL 1 [[97, 98, 99]] := ⟨by rw [sane_line1], trivial⟩
theorem sane_ok2 : OkL 1 [[97, 98, 99], [120]] := ⟨by rw [sane_line1], by rw [show (1 : Int) + 1 = 2 from rfl, sane_line2], trivial⟩
theorem sane_app1 : appendJ [] [97, 98, 99] = ([49, 32, 51, 32, 48, 50, 52, 100, 48, 49, 50, 55, 32, 97, 98, 99, 10], 0) := by
  have h := (appendJ_lines (ys := []) (t := [97, 98, 99]) (r := []) trivial (stepF_nil _) (by decide) (by rw [sane_line1]) (by decide) (by show 0 + (lineF 1 [97, 98, 99]).1.length ≤ 8000; rw [sane_line1]; decide)).1
  rw [List.nil_append, sane_a] at h
  exact h
theorem sane_app2 : appendJ [49, 32, 51, 32, 48, 50, 52, 100, 48, 49, 50, 55, 32, 97, 98, 99, 10] [120] = ([49, 32, 51, 32, 48, 50, 52, 100, 48, 49, 50, 55, 32, 97, 98, 99, 10, 50, 32, 49, 32, 48, 48, 55, 57, 48, 48, 55, 57, 32, 120, 10], 0) := by
  have h := (appendJ_lines (ys := [[97, 98, 99]]) (t := [120]) (r := []) sane_ok1 (stepF_nil _) (by rw [sane_a]; decide) (lineF_any (k := 2) (by rw [sane_line2]) (by decide)) (by decide) (by rw [sane_a]; show _ + (lineF 2 [120]).1.length ≤ 8000; rw [sane_line2]; decide)).1
  rw [List.append_nil, sane_a, show [[97, 98, 99]] ++ [[120]] = ([[97, 98, 99], [120]] : List (List UInt8)) from rfl, sane_b] at h
  exact h
theorem sane_read : readJ [49, 32, 51, 32, 48, 50, 52, 100, 48, 49, 50, 55, 32, 97, 98, 99, 10, 50, 32, 49, 32, 48, 48, 55, 57, 48, 48, 55, 57, 32, 120, 10] = ([[97, 98, 99], [120]], 32) := by
  have h := readJ_lines0 sane_ok2 (by rw [sane_b]; decide)
  rw [sane_b] at h
  exact h
theorem sane_valid : validJ [49, 32, 51, 32, 48, 50, 52, 100, 48, 49, 50, 55, 32, 97, 98, 99, 10, 50, 32, 49, 32, 48, 48, 55, 57, 48, 48, 55, 57, 32, 120, 10] = true := by
  unfold validJ
  rw [sane_read]
  decide

theorem JSane_V {R : Ro} (hG : GlobJ R) : FnV Tryd.prog 13 [] R (.bool true) := by
  refine FnV.ofOwn (fun w0 hR => ?_)
  refine Fn.enter (n := 71) Tryd.func13 rfl rfl (Nat.le_of_ble_eq_true rfl) rfl ?_
  refine W.seq ?_
  refine W.region _ ?_
  refine WG.run tab_ok 1 rfl ?_
  refine WG.nil ?_
  refine WE.nxt ?_
  refine W.seq ?_
  refine W.region _ ?_
  refine WG.callV (v := .tuple #[.string ⟨#[49, 32, 51, 32, 48, 50, 52, 100, 48, 49, 50, 55, 32, 97, 98, 99, 10]⟩, .int .i64 0]) en29 rfl rfl (by decide) (CallOp.mk' rfl rfl rfl rfl) (fun _ => rfl) (fun hg => by
    have h := JLine_V (R := R) (k := 1) (x := [97, 98, 99]) (by constructor <;> decide) (by decide)
    rw [sane_line1] at h
    exact h) ?_
  refine WG.run tab_ok 5 rfl ?_
  refine WG.nil ?_
  refine WE.nxt ?_
  refine W.seq ?_
  refine W.region _ ?_
  refine WG.callV (v := .tuple #[.string ⟨#[49, 32, 51, 32, 48, 50, 52, 100, 48, 49, 50, 55, 32, 97, 98, 99, 10]⟩, .int .i64 0]) en18 rfl rfl (by decide) (CallOp.mk' rfl rfl rfl rfl) (fun _ => rfl) (fun hg => by
    have h := JAppend_V (R := R) hG (j := []) (t := [97, 98, 99]) (by decide) (by decide)
    rw [sane_app1] at h
    exact h) ?_
  refine WG.run tab_ok 5 rfl ?_
  refine WG.nil ?_
  refine WE.nxt ?_
  refine W.seq ?_
  refine W.region _ ?_
  refine WG.run tab_ok 1 rfl ?_
  refine WG.callV (v := .tuple #[.string ⟨#[49, 32, 51, 32, 48, 50, 52, 100, 48, 49, 50, 55, 32, 97, 98, 99, 10, 50, 32, 49, 32, 48, 48, 55, 57, 48, 48, 55, 57, 32, 120, 10]⟩, .int .i64 0]) en18 rfl rfl (by decide) (CallOp.mk' rfl rfl rfl rfl) (fun _ => rfl) (fun hg => by
    have h := JAppend_V (R := R) hG (j := [49, 32, 51, 32, 48, 50, 52, 100, 48, 49, 50, 55, 32, 97, 98, 99, 10]) (t := [120]) (by decide) (by decide)
    rw [sane_app2] at h
    exact h) ?_
  refine WG.run tab_ok 5 rfl ?_
  refine WG.nil ?_
  refine WE.nxt ?_
  refine W.seq ?_
  refine W.region _ ?_
  refine WG.run tab_ok 1 rfl ?_
  refine WL.call en16 rfl rfl (by decide) (CallOp.mkT rfl rfl rfl rfl) (JRead_C hG (j := [49, 32, 51, 32, 48, 50, 52, 100, 48, 49, 50, 55, 32, 97, 98, 99, 10, 50, 32, 49, 32, 48, 48, 55, 57, 48, 48, 55, 57, 32, 120, 10]) (by decide) w0) ?_
  rintro _ _ _ - ⟨a2, c2, rfl, rfl, rfl⟩
  rw [sane_read]
  refine WG.run tab_ok 5 rfl ?_
  refine WG.nil ?_
  refine WE.nxt ?_
  refine W.seq ?_
  refine W.region _ ?_
  refine WG.callV (v := .int .i64 38600999) en24 rfl rfl (by decide) (CallOp.mk' rfl rfl rfl rfl) (fun _ => rfl) (fun hg => by
    have h := JSum_V (R := R) (l := [97, 98, 99]) (by decide)
    rw [show sumF [97, 98, 99] = 38600999 from by decide] at h
    exact h) ?_
  refine WG.run tab_ok 2 rfl ?_
  refine WL.guardT rfl (by first | rfl | decide | simp) ?_
  refine WG.y rfl rfl (by decide) (pureV_ok tab_ok rfl (fun _ => rfl)) ?_
  refine WL.guardT rfl (by first | rfl | decide | simp) ?_
  refine WG.y rfl rfl (by decide) (pureV_ok tab_ok rfl (fun _ => rfl)) ?_
  refine WG.y rfl rfl (by decide) (Yl.pand rfl rfl rfl (fun _ => rfl) (by intro h1 h2; simp_all <;> omega)) ?_
  refine WG.run tab_ok 1 rfl ?_
  refine WL.guardT rfl (by first | rfl | decide | simp) ?_
  refine WG.y rfl rfl (by decide) (pureV_ok tab_ok rfl (fun _ => rfl)) ?_
  refine WL.guardT rfl (by first | rfl | decide | simp) ?_
  refine WG.y rfl rfl (by decide) (Yl.eqS rfl rfl rfl (fun _ => rfl)) ?_
  refine WG.y rfl rfl (by decide) (Yl.pand rfl rfl rfl (fun _ => rfl) (by intro h1 h2; simp_all <;> omega)) ?_
  refine WG.run tab_ok 1 rfl ?_
  refine WL.guardT rfl (by first | rfl | decide | simp) ?_
  refine WG.y rfl rfl (by decide) (pureV_ok tab_ok rfl (fun _ => rfl)) ?_
  refine WL.guardT rfl (by first | rfl | decide | simp) ?_
  refine WG.y rfl rfl (by decide) (pureV_ok tab_ok rfl (fun _ => rfl)) ?_
  refine WG.y rfl rfl (by decide) (Yl.pand rfl rfl rfl (fun _ => rfl) (by intro h1 h2; simp_all <;> omega)) ?_
  refine WG.run tab_ok 1 rfl ?_
  refine WL.guardT rfl (by first | rfl | decide | simp) ?_
  refine WG.y rfl rfl (by decide) (pureV_ok tab_ok rfl (fun _ => rfl)) ?_
  refine WL.guardT rfl (by first | rfl | decide | simp) ?_
  refine WG.y rfl rfl (by decide) (pureV_ok tab_ok rfl (fun _ => rfl)) ?_
  refine WL.guardT rfl (by first | rfl | decide | simp) ?_
  refine WG.y rfl rfl (by decide) (Yl.eqS rfl rfl rfl (fun _ => rfl)) ?_
  refine WG.y rfl rfl (by decide) (Yl.pand rfl rfl rfl (fun _ => rfl) (by intro h1 h2; simp_all <;> omega)) ?_
  refine WG.run tab_ok 1 rfl ?_
  refine WL.guardT rfl (by first | rfl | decide | simp) ?_
  refine WG.y rfl rfl (by decide) (pureV_ok tab_ok rfl (fun _ => rfl)) ?_
  refine WL.guardT rfl (by first | rfl | decide | simp) ?_
  refine WG.y rfl rfl (by decide) (pureV_ok tab_ok rfl (fun _ => rfl)) ?_
  refine WG.y rfl rfl (by decide) (Yl.pand rfl rfl rfl (fun _ => rfl) (by intro h1 h2; simp_all <;> omega)) ?_
  refine WG.run tab_ok 1 rfl ?_
  refine WL.guardT rfl (by first | rfl | decide | simp) ?_
  refine WG.y rfl rfl (by decide) (pureV_ok tab_ok rfl (fun _ => rfl)) ?_
  refine WL.guardT rfl (by first | rfl | decide | simp) ?_
  refine WG.y rfl rfl (by decide) (pureV_ok tab_ok rfl (fun _ => rfl)) ?_
  refine WL.guardT rfl (by first | rfl | decide | simp) ?_
  refine WG.y rfl rfl (by decide) (pureV_ok tab_ok rfl (fun _ => rfl)) ?_
  refine WG.y rfl rfl (by decide) (Yl.pand rfl rfl rfl (fun _ => rfl) (by intro h1 h2; simp_all <;> omega)) ?_
  refine WG.run tab_ok 1 rfl ?_
  refine WL.guardT rfl (by first | rfl | decide | simp) ?_
  refine WG.y rfl rfl (by decide) (pureV_ok tab_ok rfl (fun _ => rfl)) ?_
  refine WL.guardT rfl (by first | rfl | decide | simp) ?_
  refine WG.y rfl rfl (by decide) (Yl.indexN tab_ok rfl rfl rfl rfl rfl rfl (fun _ => rfl) (by intro _; (simp only [List.length_cons, List.length_nil]; omega)) (by intro _; first | exact fun _ _ _ _ => rfl | exact RS.has (by assumption) | exact fun _ _ _ _ => (by assumption) | exact HasMem.ownD 0 rfl)) ?_
  refine WL.guardT rfl (by first | rfl | decide | simp) ?_
  refine' WG.y rfl rfl (by decide) (Yl.load1 tab_ok rfl rfl rfl (fun _ => rfl) ?r1 rfl ?h1) ?_
  case r1 => exact Rd.slD 0 rfl (by simp)
  case h1 => rfl
  refine WL.guardT rfl (by first | rfl | decide | simp) ?_
  refine WG.y rfl rfl (by decide) (Yl.eqS rfl rfl rfl (fun _ => rfl)) ?_
  refine WG.y rfl rfl (by decide) (Yl.pand rfl rfl rfl (fun _ => rfl) (by intro h1 h2; simp_all <;> omega)) ?_
  refine WG.run tab_ok 1 rfl ?_
  refine WL.guardT rfl (by first | rfl | decide | simp) ?_
  refine WG.y rfl rfl (by decide) (pureV_ok tab_ok rfl (fun _ => rfl)) ?_
  refine WL.guardT rfl (by first | rfl | decide | simp) ?_
  refine WG.y rfl rfl (by decide) (pureV_ok tab_ok rfl (fun _ => rfl)) ?_
  refine WL.guardT rfl (by first | rfl | decide | simp) ?_
  refine WG.y rfl rfl (by decide) (pureV_ok tab_ok rfl (fun _ => rfl)) ?_
  refine WL.guardT rfl (by first | rfl | decide | simp) ?_
  refine WG.y rfl rfl (by decide) (pureV_ok tab_ok rfl (fun _ => rfl)) ?_
  refine WG.y rfl rfl (by decide) (Yl.pand rfl rfl rfl (fun _ => rfl) (by intro h1 h2; simp_all <;> omega)) ?_
  refine WG.run tab_ok 1 rfl ?_
  refine WL.guardT rfl (by first | rfl | decide | simp) ?_
  refine WG.y rfl rfl (by decide) (pureV_ok tab_ok rfl (fun _ => rfl)) ?_
  refine WL.guardT rfl (by first | rfl | decide | simp) ?_
  refine WG.callV (v := .bool true) en22 rfl rfl (by decide) (CallOp.mk' rfl rfl rfl rfl) (fun _ => rfl) (fun hg => by
    have h := JValid_V (R := R) hG (j := [49, 32, 51, 32, 48, 50, 52, 100, 48, 49, 50, 55, 32, 97, 98, 99, 10, 50, 32, 49, 32, 48, 48, 55, 57, 48, 48, 55, 57, 32, 120, 10]) (by decide)
    rw [sane_valid] at h
    exact h) ?_
  refine WG.y rfl rfl (by decide) (Yl.pand rfl rfl rfl (fun _ => rfl) (by intro h1 h2; simp_all <;> omega)) ?_
  refine WG.run tab_ok 1 rfl ?_
  refine WG.nil ?_
  refine WE.nxt ?_
  refine W.ret ?_
  refine WE.retF tab_ok [_] rfl ⟨rfl, trivial⟩ (RLe.refl _) ?_
  exact by first | rfl | simp

end Go.Proofs.YtjacpnojnoompaaDoor

/- The journal: as many lines as fit. No condition. -/
set_option linter.unusedSimpArgs false
set_option linter.unusedVariables false
namespace Go.Proofs.YtjacpnojnoompaaDoor
open Go Go.RowKit Go.Proofs.YtjacpnojnoompaaDoor.K Go.Proofs.YtjacpnojnoompaaDoor.M

theorem many_good : (lineF 1 [116]).2 = 0 := by
  unfold lineF
  rw [if_neg (by decide), if_neg (by decide), if_neg (by decide), if_neg (by decide)]
theorem many_ok : ∀ (i : Nat) (k : Int), 1 ≤ k → k + i ≤ 61 → OkL k (List.replicate i [116])
  | 0, _, _, _ => trivial
  | i + 1, k, h, h2 => ⟨lineF_any many_good (by omega), many_ok i (k + 1) (by omega) (by omega)⟩
theorem many_line (k : Int) : (lineF k [116]).1.length ≤ 100 := by
  by_cases h : (lineF k [116]).2 = 0
  · obtain ⟨h1, h2, h3, h4, h5⟩ := lineF_ok h
    have d1 := decDigits_small (k := k.toNat) (by omega)
    have d2 := decDigits_small (k := ([116] : List UInt8).length) (by decide)
    rw [h5]
    simp only [List.length_append, List.length_cons, List.length_nil, hexF_length] at d2 ⊢
    omega
  · unfold lineF at h ⊢
    split
    · exact Nat.zero_le _
    · rename_i h1
      rw [if_neg h1, if_neg (by decide), if_neg (by decide), if_neg (by decide)] at h
      exact absurd rfl h
theorem many_len {i : Nat} (h : i ≤ 60) (k : Int) : (linesF k (List.replicate i [116])).length ≤ 6000 := by
  have := linesF_len (List.replicate i [116]) 100 k (fun y hy k => by rw [List.eq_of_mem_replicate hy]; exact many_line k)
  rw [List.length_replicate] at this
  omega
def manyF (i : Nat) : List UInt8 := linesF 1 (List.replicate (min i 60) [116])
def manyE (i : Nat) : Int := if i ≤ 60 then 0 else 3
theorem many_append {i : Nat} (h : i ≤ 60) : (if i < 60 then (manyF (i + 1), (0 : Int)) else ([], 3)) = appendJ (manyF i) [116] := by
  unfold manyF
  by_cases h2 : i < 60
  · rw [if_pos h2, show min i 60 = i by omega, show min (i + 1) 60 = i + 1 by omega]
    have l1 := many_len h 1
    have l2 := many_line ((i : Int) + 1)
    have e := (appendJ_lines (ys := List.replicate i [116]) (t := [116]) (r := []) (many_ok i 1 (by decide) (by omega)) (stepF_nil _) (by rw [List.append_nil]; omega) many_good (by rw [List.length_replicate]; exact h2) (by rw [List.length_replicate]; omega)).1
    rw [List.append_nil] at e
    rw [e, List.replicate_succ']
  · obtain rfl : i = 60 := by omega
    rw [if_neg h2]
    exact (appendJ_full (many_ok 60 1 (by decide) (by decide)) (by have := many_len (i := 60) (by decide) 1; omega) many_good (by rw [List.length_replicate])).symm
theorem manyF_len (i : Nat) : (manyF i).length ≤ 6000 := many_len (Nat.min_le_right i 60) 1
theorem many_read (i : Nat) : (readJ (manyF i)).1.length = min i 60 := by
  unfold manyF
  rw [readJ_lines0 (many_ok _ 1 (by decide) (by have := Nat.min_le_right i 60; omega)) (by have := many_len (Nat.min_le_right i 60) 1; omega), List.length_replicate]

set_option maxHeartbeats 1000000 in
theorem JournalMany_F {R : Ro} (hG : GlobJ R) {u : Int} (hu : 0 ≤ u ∧ u ≤ 255) (w0 : World) : K.Fn Tryd.prog 4 [.int .u8 u] w0 R [] (fun v R' E' => v = .bool true) := by
  
  refine Fn.enter (n := 59) Tryd.func4 rfl rfl (Nat.le_of_ble_eq_true rfl) rfl ?_
  refine W.seq ?_
  refine W.region _ ?_
  refine WG.run tab_ok 1 rfl ?_
  refine WG.nil ?_
  refine WE.nxt ?_
  refine W.seq ?_
  refine W.region _ ?_
  refine WG.run tab_ok 1 rfl ?_
  refine WG.y rfl rfl (by decide) (Yl.remK rfl rfl rfl (fun _ => rfl) (by intro _; (try dsimp only) <;> omega) (by intro _; (try dsimp only) <;> omega)) ?_
  refine WG.y rfl rfl (by decide) (Yl.convId tab_ok rfl rfl rfl rfl rfl rfl (fun _ => rfl) (by intro _; (try dsimp only); first | exact u64_id ⟨by omega, by omega⟩ | exact i64_wrap ⟨by omega, by omega⟩ | exact u8_id ⟨by omega, by omega⟩)) ?_
  refine WG.y rfl rfl (by decide) (Yl.add rfl rfl rfl (fun _ => rfl) (by intro _; constructor <;> (try dsimp only) <;> omega)) ?_
  refine WG.run tab_ok 1 rfl ?_
  refine WG.nil ?_
  refine WE.nxt ?_
  refine W.seq ?_
  refine W.region _ ?_
  refine WG.run tab_ok 2 rfl ?_
  refine WG.nil ?_
  refine WE.nxt ?_
  refine W.seq ?_
  refine W.seq ?_
  refine W.region _ ?_
  refine WG.run tab_ok 1 rfl ?_
  refine WG.nil ?_
  refine WE.nxt ?_
  refine W.block ?_
  refine W.loopK (β := Nat) (fun i => (i : Int) ≤ 56 + u % 8 ∧ i ≤ 61) (fun i => [(4, true, .string (str (manyF i))), (5, true, .int .i64 (manyE i)), (6, true, .int .i64 (i : Int))]) [3] [_] [] _ rfl (fun i => []) (fun i => 63 - i) (0) (⟨by omega, by decide⟩) ⟨rfl, rfl, rfl, rfl, rfl⟩ (by (repeat (first | exact List.Sublist.refl _ | exact List.nil_sublist _ | apply List.Sublist.cons_cons | apply List.Sublist.cons)); done) ?_
  intro i hst
  dsimp only [zipE, setAll, List.cons_append, List.nil_append, List.set_cons_zero, List.set_cons_succ] at hst ⊢
  obtain ⟨hik, hi61⟩ := hst
  refine W.seq ?_
  refine W.seq ?_
  refine W.region _ ?_
  refine WG.run tab_ok 4 rfl ?_
  refine WG.y rfl rfl (by decide) (pureV_ok tab_ok rfl (by first | exact fun _ => rfl | exact fun h => h | (intro h; simp_all; done) | (intro h; rcases hend with ⟨he, h6, hk, hl⟩ | ⟨he, h6, hl⟩ <;> simp_all <;> omega))) ?_
  refine WG.y rfl rfl (by decide) (pureV_ok tab_ok rfl (by first | exact fun _ => rfl | exact fun h => h | (intro h; simp_all; done) | (intro h; rcases hend with ⟨he, h6, hk, hl⟩ | ⟨he, h6, hl⟩ <;> simp_all <;> omega))) ?_
  refine WG.y rfl rfl (by decide) (Yl.pand rfl rfl rfl (fun _ => rfl) (by intro h1 h2; first | (simp_all <;> omega; done) | (rcases hend with ⟨he, h6, hk, hl⟩ | ⟨he, h6, hl⟩ <;> simp_all <;> omega))) ?_
  refine WG.nil ?_
  refine WE.nxt ?_
  refine W.cond rfl (fun hc0 => ?_) (fun hc0 => ?_)
  · try simp only [decide_eq_true_eq, decide_eq_false_iff_not, beq_iff_eq, bne_iff_ne, beq_eq_false_iff_ne, bne_eq_false_iff_eq, ne_eq, Bool.or_eq_true, Bool.or_eq_false_iff, Bool.and_eq_true, Bool.and_eq_false_imp, Bool.not_eq_true, Bool.not_eq_true', Bool.not_eq_false', Classical.not_not, Int.not_lt, Int.not_le, gt_iff_lt, ge_iff_le] at hc0
    have hi60 : i ≤ 60 := by have := hc0.2; unfold manyE at this; split at this <;> omega
    have hma := many_append hi60
    refine W.skip ?_
    refine WE.nxt ?_
    refine W.seq ?_
    refine W.block ?_
    refine W.seq ?_
    refine W.region _ ?_
    refine WG.run tab_ok 1 rfl ?_
    refine WG.nil ?_
    refine WE.nxt ?_
    refine W.seq ?_
    refine W.region _ ?_
    refine WG.run tab_ok 1 rfl ?_
    refine WG.callV en18 rfl rfl (by decide) (CallOp.mk' rfl rfl rfl rfl) (fun _ => rfl) (fun hg => JAppend_V hG (j := manyF i) (t := [116]) (by have := manyF_len i; omega) (by decide)) ?_
    refine WG.run tab_ok 5 rfl ?_
    refine WG.nil ?_
    refine WE.nxt ?_
    refine W.seq ?_
    refine W.region _ ?_
    refine WG.run tab_ok 2 rfl ?_
    refine WG.nil ?_
    refine WE.nxt ?_
    refine W.condE rfl (fun hc1 => ?_) (fun hc1 => ?_)
    · try dsimp only at hc1
      have hlt : i < 60 := by
        apply Classical.byContradiction; intro h
        rw [if_neg h] at hma; rw [← hma] at hc1; exact absurd hc1 (by decide)
      have ha : appendJ (manyF i) [116] = (manyF (i + 1), manyE (i + 1)) := by
        rw [if_pos hlt] at hma; rw [← hma]; unfold manyE; rw [if_pos (by omega)]
      refine W.region _ ?_
      refine WG.run tab_ok 2 rfl ?_
      refine WG.nil ?_
      refine WE.blk _ ?_
      refine WE.nxt ?_
      refine W.region _ ?_
      refine WG.run tab_ok 1 rfl ?_
      refine WG.y rfl rfl (by decide) (Yl.add rfl rfl rfl (fun _ => rfl) (by intro _; constructor <;> (try dsimp only) <;> omega)) ?_
      refine WG.run tab_ok 1 rfl ?_
      refine WG.nil ?_
      rw [ha]
      refine WE.again (i + 1) (⟨by omega, by omega⟩) (by (try dsimp only); omega) ⟨rfl, rfl, rfl, rfl, rfl⟩ (RLe.refl _) (by (repeat (first | exact List.Sublist.refl _ | exact List.nil_sublist _ | apply List.Sublist.cons_cons | apply List.Sublist.cons)); done)
    · try dsimp only at hc1
      have he60 : i = 60 := by
        apply Classical.byContradiction; intro h
        rw [if_pos (by omega)] at hma; rw [← hma] at hc1; exact hc1 rfl
      subst he60
      have ha : appendJ (manyF 60) [116] = ([], manyE (60 + 1)) := by
        rw [if_neg (by decide)] at hma; exact hma.symm
      have hf : manyF 60 = manyF (60 + 1) := rfl
      refine W.skip ?_
      refine WE.blk _ ?_
      refine WE.nxt ?_
      refine W.region _ ?_
      refine WG.run tab_ok 1 rfl ?_
      refine WG.y rfl rfl (by decide) (Yl.add rfl rfl rfl (fun _ => rfl) (by intro _; constructor <;> (try dsimp only) <;> omega)) ?_
      refine WG.run tab_ok 1 rfl ?_
      refine WG.nil ?_
      rw [ha, hf]
      refine WE.again (60 + 1) (⟨by omega, by omega⟩) (by (try dsimp only); omega) ⟨rfl, rfl, rfl, rfl, rfl⟩ (RLe.refl _) (by (repeat (first | exact List.Sublist.refl _ | exact List.nil_sublist _ | apply List.Sublist.cons_cons | apply List.Sublist.cons)); done)
  · try simp only [decide_eq_true_eq, decide_eq_false_iff_not, beq_iff_eq, bne_iff_ne, beq_eq_false_iff_ne, bne_eq_false_iff_eq, ne_eq, Bool.or_eq_true, Bool.or_eq_false_iff, Bool.and_eq_true, Bool.and_eq_false_imp, Bool.not_eq_true, Bool.not_eq_true', Bool.not_eq_false', Classical.not_not, Int.not_lt, Int.not_le, gt_iff_lt, ge_iff_le] at hc0
    have hend : (manyE i = 0 ∧ i ≤ 60 ∧ (i : Int) = 56 + u % 8 ∧ (readJ (manyF i)).1.length = i) ∨ (manyE i = 3 ∧ i = 61 ∧ (readJ (manyF i)).1.length = 60) := by
      have hrd := many_read i
      by_cases h6 : i ≤ 60
      · have e : manyE i = 0 := if_pos h6
        have h7 : ¬ ((i : Int) < 56 + u % 8) := fun h => (hc0 h) e
        exact .inl ⟨e, h6, by omega, by omega⟩
      · exact .inr ⟨if_neg h6, by omega, by omega⟩
    have hu8 : 0 ≤ u % 8 ∧ u % 8 ≤ 7 := by omega
    refine W.exit ?_
    refine WE.then_exit ?_
    refine WE.then_exit ?_
    refine WE.blk_exit ?_
    refine WE.nxt ?_
    refine W.seq ?_
    refine W.region _ ?_
    refine WG.run tab_ok 1 rfl ?_
    refine WL.call en16 rfl rfl (by decide) (CallOp.mkT rfl rfl rfl rfl) (JRead_C hG (j := manyF i) (by have := manyF_len i; omega) w0) ?_
    rintro _ _ _ - ⟨a2, c2, rfl, rfl, rfl⟩
    refine WG.run tab_ok 5 rfl ?_
    refine WG.nil ?_
    refine WE.nxt ?_
    refine W.seq ?_
    refine W.region _ ?_
    refine WG.run tab_ok 6 rfl ?_
    refine WG.y rfl rfl (by decide) (pureV_ok tab_ok rfl (by first | exact fun _ => rfl | exact fun h => h | (intro h; simp_all; done) | (intro h; rcases hend with ⟨he, h6, hk, hl⟩ | ⟨he, h6, hl⟩ <;> simp_all <;> omega))) ?_
    refine WG.y rfl rfl (by decide) (pureV_ok tab_ok rfl (by first | exact fun _ => rfl | exact fun h => h | (intro h; simp_all; done) | (intro h; rcases hend with ⟨he, h6, hk, hl⟩ | ⟨he, h6, hl⟩ <;> simp_all <;> omega))) ?_
    refine WG.y rfl rfl (by decide) (pureV_ok tab_ok rfl (by first | exact fun _ => rfl | exact fun h => h | (intro h; simp_all; done) | (intro h; rcases hend with ⟨he, h6, hk, hl⟩ | ⟨he, h6, hl⟩ <;> simp_all <;> omega))) ?_
    refine WG.y rfl rfl (by decide) (pureV_ok tab_ok rfl (by first | exact fun _ => rfl | exact fun h => h | (intro h; simp_all; done) | (intro h; rcases hend with ⟨he, h6, hk, hl⟩ | ⟨he, h6, hl⟩ <;> simp_all <;> omega))) ?_
    refine WG.y rfl rfl (by decide) (Yl.eqB tab_ok rfl rfl rfl rfl rfl (by first | exact fun _ => rfl | exact fun h => h | (intro h; simp_all; done) | (intro h; rcases hend with ⟨he, h6, hk, hl⟩ | ⟨he, h6, hl⟩ <;> simp_all <;> omega))) ?_
    refine WG.y rfl rfl (by decide) (Yl.pand rfl rfl rfl (fun _ => rfl) (by intro h1 h2; first | (simp_all <;> omega; done) | (rcases hend with ⟨he, h6, hk, hl⟩ | ⟨he, h6, hl⟩ <;> simp_all <;> omega))) ?_
    refine WG.run tab_ok 1 rfl ?_
    refine WG.y rfl rfl (by decide) (pureV_ok tab_ok rfl (by first | exact fun _ => rfl | exact fun h => h | (intro h; simp_all; done) | (intro h; rcases hend with ⟨he, h6, hk, hl⟩ | ⟨he, h6, hl⟩ <;> simp_all <;> omega))) ?_
    refine WG.y rfl rfl (by decide) (pureV_ok tab_ok rfl (by first | exact fun _ => rfl | exact fun h => h | (intro h; simp_all; done) | (intro h; rcases hend with ⟨he, h6, hk, hl⟩ | ⟨he, h6, hl⟩ <;> simp_all <;> omega))) ?_
    refine WG.y rfl rfl (by decide) (pureV_ok tab_ok rfl (by first | exact fun _ => rfl | exact fun h => h | (intro h; simp_all; done) | (intro h; rcases hend with ⟨he, h6, hk, hl⟩ | ⟨he, h6, hl⟩ <;> simp_all <;> omega))) ?_
    refine WG.y rfl rfl (by decide) (pureV_ok tab_ok rfl (by first | exact fun _ => rfl | exact fun h => h | (intro h; simp_all; done) | (intro h; rcases hend with ⟨he, h6, hk, hl⟩ | ⟨he, h6, hl⟩ <;> simp_all <;> omega))) ?_
    refine WG.y rfl rfl (by decide) (pureV_ok tab_ok rfl (by first | exact fun _ => rfl | exact fun h => h | (intro h; simp_all; done) | (intro h; rcases hend with ⟨he, h6, hk, hl⟩ | ⟨he, h6, hl⟩ <;> simp_all <;> omega))) ?_
    refine WG.y rfl rfl (by decide) (Yl.por rfl rfl rfl (by first | exact fun _ => rfl | exact fun h => h | (intro h; simp_all; done) | (intro h; rcases hend with ⟨he, h6, hk, hl⟩ | ⟨he, h6, hl⟩ <;> simp_all <;> omega)) (by intro h1 h2; first | (simp_all <;> omega; done) | (rcases hend with ⟨he, h6, hk, hl⟩ | ⟨he, h6, hl⟩ <;> simp_all <;> omega))) ?_
    refine WG.y rfl rfl (by decide) (Yl.pand rfl rfl rfl (fun _ => rfl) (by intro h1 h2; first | (simp_all <;> omega; done) | (rcases hend with ⟨he, h6, hk, hl⟩ | ⟨he, h6, hl⟩ <;> simp_all <;> omega))) ?_
    refine WG.run tab_ok 1 rfl ?_
    refine WG.callV en13 rfl rfl (by decide) (CallOp.mk' rfl rfl rfl rfl) (by first | exact fun _ => rfl | exact fun h => h | (intro h; simp_all; done) | (intro h; rcases hend with ⟨he, h6, hk, hl⟩ | ⟨he, h6, hl⟩ <;> simp_all <;> omega)) (fun hg => JSane_V hG) ?_
    refine WG.y rfl rfl (by decide) (Yl.pand rfl rfl rfl (fun _ => rfl) (by intro h1 h2; first | (simp_all <;> omega; done) | (rcases hend with ⟨he, h6, hk, hl⟩ | ⟨he, h6, hl⟩ <;> simp_all <;> omega))) ?_
    refine WG.run tab_ok 1 rfl ?_
    refine WG.nil ?_
    refine WE.nxt ?_
    refine W.ret ?_
    refine WE.retF tab_ok [_] rfl ⟨rfl, trivial⟩ (RLe.refl _) ?_
    (try simp only [resVal]); rcases hend with ⟨he, h6, hk, hl⟩ | ⟨he, h6, hl⟩
    · rw [he, hl]; simp; omega
    · rw [he, hl]; simp; omega

end Go.Proofs.YtjacpnojnoompaaDoor

/- Chapter 16, plain: what the line's functions compute. No condition. -/
namespace Go.Proofs.YtjacpnojnoompaaDoor.M
open Go Go.Proofs.YtjacpnojnoompaaDoor.K

def BadC (cap classes ticks : Int) : Prop := cap < 1 ∨ 4000 < cap ∨ classes < 1 ∨ 6 < classes ∨ ticks < 0 ∨ 2000 < ticks
instance (cap classes ticks : Int) : Decidable (BadC cap classes ticks) := by unfold BadC; infer_instance
def flowGo (classes : Int) : List Pkt → Int
  | [] => 0
  | p :: ps => if classes ≤ p.flow then 2 else flowGo classes ps
def checkE (cap classes ticks : Int) (ps : List Pkt) : Int := if BadC cap classes ticks then 2 else flowGo classes ps
theorem Ok.at {ps : List Pkt} (h : Ok ps) {p : Pkt} (hp : p ∈ ps) : 0 ≤ p.flow ∧ p.flow < 60 ∧ 0 ≤ p.time ∧ p.time ≤ 2000 ∧ 1 ≤ p.size ∧ p.size ≤ 1500 := by
  have := h.each p hp; unfold BadP at this; omega
theorem Ok.fit {ps : List Pkt} (h : Ok ps) {classes : Nat} (hc : ∀ p ∈ ps, p.flow < classes) : Fit ps classes :=
  ⟨by have := h.len; omega, fun p hp => by have := h.at hp; have := hc p hp; omega⟩

def goodF (ps : List Pkt) (ms : MS) (_ : Unit) : Prop := ms.before ≤ ps.length
theorem firstR_lt (ps : List Pkt) (ms : MS) : firstR ps ms < ps.length ∧ -1 ≤ firstR ps ms := by
  unfold firstR
  dsimp only
  split <;> omega
/-- the bytes of a class that have been sent -/
def qGo (cls t : Int) : Int → Nat → List (List Int) → Option Int
  | acc, _, [] => some acc
  | acc, c, l :: ls => if (c : Int) ≠ cls ∧ cls ≠ -1 then qGo cls t acc (c + 1) ls else if (l.length : Int) ≤ t then none else qGo cls t (acc + nth l t.toNat) (c + 1) ls
def queueR (ps : List Pkt) (sent : List (List Int)) (cls t : Int) : Int × Int :=
  if cls < -1 ∨ (sent.length : Int) ≤ cls ∨ t < 0 then (0, 0) else
    match qGo cls t 0 0 sent with
    | none => (0, 0)
    | some s => (pbytes cls t ps - s, pbytes cls (t + 1) ps - s)
end Go.Proofs.YtjacpnojnoompaaDoor.M

/- What Traffic makes is a valid trace; laws of runs, plain. No condition. -/
namespace Go.Proofs.YtjacpnojnoompaaDoor.M
open Go Go.Proofs.YtjacpnojnoompaaDoor.K

/-! ### sizes and a capacity that are so many times as great -/
def scP (k : Int) (p : Pkt) : Pkt := { p with size := p.size * k }
theorem nth_map_lt {α β : Type} [Inhabited α] [Inhabited β] (f : α → β) {l : List α} {i : Nat} (h : i < l.length) : nth (l.map f) i = f (nth l i) := by
  rw [nth_eq (by simpa using h), nth_eq h]; simp
theorem firstR_scale (ps : List Pkt) (k : Int) (ms : MS) (l : Int) : firstR (ps.map (scP k)) { ms with left := l } = firstR ps ms := by
  unfold firstR
  dsimp only
  rw [List.length_map]
  by_cases h : skipTo ms.begun ms.before < ps.length
  · rw [nth_map_lt _ h]; rfl
  · rw [if_neg (by omega), if_neg (by omega)]

structure Sc (k : Int) (s s' : RS Unit) : Prop where
  cur : s'.cur = s.cur
  rest : s'.rest = s.rest * k
  done : s'.done = s.done
  ms : s'.ms = { s.ms with left := s.ms.left * k }
  pos : 0 ≤ s.cur → 1 ≤ s.rest ∧ s.cur.toNat < s.done.length
section
variable {ps : List Pkt} {k : Int} {s s' : RS Unit}
theorem Sc.pickup (hs : ∀ p ∈ ps, 1 ≤ p.size) (hl : s.done.length = ps.length) (h : Sc k s s') : Sc k (pickup ps (fifo ps) s) (pickup (ps.map (scP k)) (fifo (ps.map (scP k))) s') := by
  unfold M.pickup
  rw [h.cur]
  by_cases hc : 0 ≤ s.cur
  · rw [if_pos hc, if_pos hc]; exact h
  · rw [if_neg hc, if_neg hc]
    have hf : (fifo (ps.map (scP k)) s'.ms s'.sg) = (firstR ps s.ms, skipTo s.ms.begun s.ms.before, ()) := by
      unfold fifo; rw [h.ms, firstR_scale]
    rw [hf]
    have hf2 : fifo ps s.ms s.sg = (firstR ps s.ms, skipTo s.ms.begun s.ms.before, ()) := rfl
    rw [hf2]
    dsimp only
    have hlt := (firstR_lt ps s.ms).1
    by_cases hr : firstR ps s.ms < 0
    · rw [if_pos hr, if_pos hr]
      exact ⟨rfl, h.rest, h.done, by rw [h.ms], fun h0 => by dsimp only at h0; omega⟩
    · rw [if_neg hr, if_neg hr]
      have hi : (firstR ps s.ms).toNat < ps.length := by omega
      exact ⟨rfl, by dsimp only; rw [nth_map_lt _ hi]; rfl, h.done, by rw [h.ms], fun h0 => ⟨hs _ (nth_mem hi), by rw [hl]; exact hi⟩⟩
theorem Sc.send (hk : 1 ≤ k) {t : Nat} (h : Sc k s s') (hc : 0 ≤ s.cur) (hl : 0 < s.ms.left) : Sc k (send ps t s) (send (ps.map (scP k)) t s') ∧ (send ps t s).ms.left < s.ms.left ∧ (send ps t s).done.length = s.done.length := by
  obtain ⟨h1, h2⟩ := h.pos hc
  have hl' : s'.ms.left = s.ms.left * k := by rw [h.ms]
  have hn : (if s'.ms.left < s'.rest then s'.ms.left else s'.rest) = (if s.ms.left < s.rest then s.ms.left else s.rest) * k := by
    rw [hl', h.rest]
    by_cases hlt : s.ms.left < s.rest
    · rw [if_pos hlt, if_pos (Int.mul_lt_mul_of_pos_right hlt (by omega))]
    · rw [if_neg hlt, if_neg (by have := Int.mul_le_mul_of_nonneg_right (show s.rest ≤ s.ms.left by omega) (show 0 ≤ k by omega); omega)]
  have hn1 : 1 ≤ (if s.ms.left < s.rest then s.ms.left else s.rest) ∧ (if s.ms.left < s.rest then s.ms.left else s.rest) ≤ s.rest := by split <;> omega
  unfold M.send
  rw [hn]
  generalize (if s.ms.left < s.rest then s.ms.left else s.rest) = n at hn1 ⊢
  have hz : s'.rest - n * k = (s.rest - n) * k := by rw [h.rest, Int.sub_mul]
  have hz2 : (s.rest - n) * k = 0 ↔ s.rest - n = 0 := by
    rw [Int.mul_eq_zero]; omega
  dsimp only
  rw [hz]
  refine ⟨⟨?_, rfl, ?_, ?_, ?_⟩, by omega, by split <;> simp⟩
  · by_cases hq : s.rest - n = 0
    · rw [if_pos (hz2.2 hq), if_pos hq]
    · simp only [hq, if_false, show ¬ (s.rest - n) * k = 0 from fun h => hq (hz2.1 h)]; exact h.cur
  · by_cases hq : s.rest - n = 0
    · dsimp only; rw [if_pos (hz2.2 hq), if_pos hq, h.done, h.cur]
    · simp only [hq, if_false, show ¬ (s.rest - n) * k = 0 from fun h => hq (hz2.1 h)]; exact h.done
  · rw [h.ms]; simp only [Int.sub_mul]
  · dsimp only
    by_cases hq : s.rest - n = 0
    · rw [if_pos hq, if_pos hq]; intro h0; omega
    · rw [if_neg hq, if_neg hq]
      intro _
      exact ⟨by omega, h2⟩
theorem Sc.inner (hs : ∀ p ∈ ps, 1 ≤ p.size) (hk : 1 ≤ k) {t : Nat} : ∀ (j j' : Nat) (s s' : RS Unit), Sc k s s' → s.done.length = ps.length → s.ms.left ≤ j → s'.ms.left ≤ j' →
    Sc k (inner ps (fifo ps) t j s) (inner (ps.map (scP k)) (fifo (ps.map (scP k))) t j' s') ∧ (inner ps (fifo ps) t j s).done.length = ps.length
  | 0, j', s, s', h, hl, hj, hj' => by
    have hl' : s'.ms.left = s.ms.left * k := by rw [h.ms]
    have : s'.ms.left ≤ 0 := by rw [hl']; exact Int.mul_nonpos_of_nonpos_of_nonneg (by omega) (by omega)
    rw [inner_stop (by omega), inner_stop this]
    exact ⟨h, hl⟩
  | j + 1, j', s, s', h, hl, hj, hj' => by
    have hl' : s'.ms.left = s.ms.left * k := by rw [h.ms]
    by_cases h0 : s.ms.left ≤ 0
    · have : s'.ms.left ≤ 0 := by rw [hl']; exact Int.mul_nonpos_of_nonpos_of_nonneg (by omega) (by omega)
      rw [inner_stop h0, inner_stop this]
      exact ⟨h, hl⟩
    · have h0' : 0 < s'.ms.left := by rw [hl']; exact Int.mul_pos (by omega) (by omega)
      have hp := h.pickup hs hl
      have hps := pickup_same ps (fifo ps) s
      have hps' := pickup_same (ps.map (scP k)) (fifo (ps.map (scP k))) s'
      by_cases hc : (M.pickup ps (fifo ps) s).cur < 0
      · rw [inner_none hj (by omega) hc, inner_none hj' h0' (by rw [hp.cur]; exact hc)]
        exact ⟨hp, by rw [hps.2.2.2]; exact hl⟩
      · rw [inner_some hj (by omega) (by omega), inner_some hj' h0' (by rw [hp.cur]; omega)]
        obtain ⟨g1, g2, g3⟩ := hp.send hk (t := t) (by omega) (by rw [hps.1]; omega)
        have e1 : (M.send (ps.map (scP k)) t (M.pickup (ps.map (scP k)) (fifo (ps.map (scP k))) s')).ms.left = (M.send ps t (M.pickup ps (fifo ps) s)).ms.left * k := by rw [g1.ms]
        have e2 : (M.send ps t (M.pickup ps (fifo ps) s)).ms.left * k ≤ s.ms.left * k - k := by
          have : (M.send ps t (M.pickup ps (fifo ps) s)).ms.left ≤ s.ms.left - 1 := by rw [hps.1] at g2; omega
          have := Int.mul_le_mul_of_nonneg_right this (show 0 ≤ k by omega)
          rw [Int.sub_mul] at this; omega
        refine Sc.inner hs hk j (j' - 1) _ _ g1 (by rw [g3, hps.2.2.2]; exact hl) (by rw [hps.1] at g2; omega) (by rw [e1]; omega)
theorem Sc.ticks (hs : ∀ p ∈ ps, 1 ≤ p.size) (hk : 1 ≤ k) {c : Int} (hc : 0 ≤ c) : ∀ (m t : Nat) (s s' : RS Unit), Sc k s s' → s.done.length = ps.length →
    Sc k (ticksFrom ps (fifo ps) c t m s) (ticksFrom (ps.map (scP k)) (fifo (ps.map (scP k))) (c * k) t m s')
  | 0, t, s, s', h, hl => h
  | m + 1, t, s, s', h, hl => by
    have h1 : Sc k { s with ms := { s.ms with now := t, left := c }, sent := s.sent.map fun l => l ++ [nth l t] } { s' with ms := { s'.ms with now := t, left := c * k }, sent := s'.sent.map fun l => l ++ [nth l t] } :=
      ⟨h.cur, h.rest, h.done, by dsimp only; rw [h.ms], h.pos⟩
    have hck : 0 ≤ c * k := Int.mul_nonneg hc (by omega)
    obtain ⟨h2, h3⟩ := Sc.inner hs hk (t := t) c.toNat (c * k).toNat _ _ h1 hl (by dsimp only; omega) (by dsimp only; omega)
    exact Sc.ticks hs hk hc m (t + 1) _ _ h2 h3
end
end Go.Proofs.YtjacpnojnoompaaDoor.M

/- A law over a list of numbers: from its contract to its row. No condition. -/
namespace Go.Proofs.YtjacpnojnoompaaDoor.K
open Go Go.RowKit

theorem mem0 (W : World) : Mem W W (fun _ => none) [] :=
  ⟨Below.refl _ W, fun b cs h => (by cases h), fun e he => (by cases he), fun e he => (by cases he), List.Pairwise.nil⟩
theorem encI_flat : ∀ (zs : List Int), (zs.map encI).flatten = zs.map (Value.int .i64)
  | [] => rfl
  | z :: zs => by simp [encI, encI_flat zs]
theorem rs_of_ints {W : World} {a : Addr} {zs : List Int} (hcell : ∀ i, i < zs.length → W.cell? (a.add i) = some (.int .i64 (zs.getD i 0))) (hl : zs.length ≤ 9223372036854775807) :
    ∃ R, Mem W W R [] ∧ RS R 1 encI (some a) zs := by
  by_cases h0 : zs = []
  · subst h0
    exact ⟨_, mem0 W, by simp, .inl rfl, by simp⟩
  · have hpos : 0 < zs.length := List.length_pos_iff.2 h0
    have h1 := hcell 0 hpos
    unfold World.cell? at h1
    cases hh : W.heap[(a.add 0).block]? with
    | none => simp [hh] at h1
    | some o =>
      cases o with
      | cells arr T fz =>
        have hs : a.spot = none := by
          simp only [hh] at h1
          cases hsp : a.spot with
          | none => rfl
          | some x => simp [Addr.add, hsp] at h1
        have hb : (a.add 0).block = a.block := rfl
        rw [hb] at hh
        refine ⟨fun b => if b = a.block then some arr.toList else none, ⟨Below.refl _ W, fun b cs h => ?_, fun e he => (by cases he), fun e he => (by cases he), List.Pairwise.nil⟩, by simp [encI], .inr ⟨a.block, a.off, arr.toList, ?_, by simp, fun j v hv => ?_⟩, by simpa using hl⟩
        · by_cases hba : b = a.block
          · subst hba
            simp at h; subst h
            exact ⟨T, fz, by simpa using hh⟩
          · simp [hba] at h
        · cases a; simp only at hs; subst hs; rfl
        · rw [encI_flat] at hv
          have hj : j < zs.length := by
            have := (List.getElem?_eq_some_iff.1 hv).1
            simpa using this
          have h2 := hcell j hj
          unfold World.cell? at h2
          have hbj : (a.add j).block = a.block := by unfold Addr.add; split <;> rfl
          have hsj : (a.add j).spot = a.spot := by unfold Addr.add; split <;> simp [hs]
          have hoj : (a.add j).off = a.off + j := by unfold Addr.add; split <;> simp [*]
          rw [hbj, hh] at h2
          simp only [hsj, hs, hoj] at h2
          rw [List.getElem?_map, List.getElem?_eq_getElem hj] at hv
          simp only [Option.map_some, Option.some.injEq] at hv
          subst hv
          have e1 : zs.getD j 0 = zs[j] := by simp [List.getD, List.getElem?_eq_getElem hj]
          rw [e1] at h2
          simpa using h2
      | _ => simp [hh] at h1

/-- a contract over a list of numbers, seen from outside -/
def LawI (P : Program) (f : FuncId) : Prop := ∀ {R : Ro} {a : Option Addr} {c : Nat} {xs : List Int}, RS R 1 encI a xs → xs.length ≤ c → ∀ w0, Fn P f [.slice a xs.length c] w0 R [] (fun v _ _ => v = .bool true)
theorem LawI.nil {P : Program} {f : FuncId} (h : LawI P f) (W : World) : Calls P f #[.slice none 0 0] W fun e W' => e = .returned (.bool true) ∧ Below W.heap.size W W' := by
  refine (h (R := fun _ => none) (a := none) (c := 0) (xs := []) ⟨by simp, .inl rfl, by simp⟩ (Nat.le_refl _) W W (mem0 W)).mono ?_
  rintro e w' ⟨v, R', E', rfl, _, hm, rfl⟩
  exact ⟨rfl, hm.below⟩
theorem LawI.some {P : Program} {f : FuncId} (h : LawI P f) {W : World} {a : Addr} {len cap : Nat} {zs : List Int} (hcell : ∀ i, i < zs.length → W.cell? (a.add i) = some (.int .i64 (zs.getD i 0))) (hl : zs.length ≤ 9223372036854775807) (hz : zs.length = cap) (hc : len ≤ cap) :
    Calls P f #[.slice (some a) len cap] W fun e W' => e = .returned (.bool true) ∧ Below W.heap.size W W' := by
  obtain ⟨R, hm, hr⟩ := rs_of_ints hcell hl
  have hr := hr.take len
  have hlen : (zs.take len).length = len := by simp; omega
  have := h (c := cap) hr (by omega) W W hm
  rw [hlen] at this
  refine this.mono ?_
  rintro e w' ⟨v, R', E', rfl, _, hm, rfl⟩
  exact ⟨rfl, hm.below⟩
end Go.Proofs.YtjacpnojnoompaaDoor.K

/- A law over any data: from its contract to its row. No condition. -/
namespace Go.Proofs.YtjacpnojnoompaaDoor.K
open Go Go.RowKit Go.ChangeShapes Go.WideShapes Go.ChangeAt Go.WideElems Go.Maps

/-- all that lies in memory, as what is read only -/
def roOf (W : World) : Ro := fun b => match W.heap[b]? with
  | some (.cells arr _ _) => some arr.toList
  | _ => none
theorem memAll (W : World) : Mem W W (roOf W) [] := by
  refine ⟨Below.refl _ W, fun b cs h => ?_, fun e he => (by cases he), fun e he => (by cases he), List.Pairwise.nil⟩
  unfold roOf at h
  split at h
  · rename_i arr T fz hh
    simp only [Option.some.injEq] at h
    subst h
    exact ⟨T, fz, by simpa using hh⟩
  · cases h
def ints (z : List Int) : List Value := z.map (Value.int .i64)
section
variable {H : Type} {enc : TypeId × Value → H} {P : Program} {W : World} {spare : Nat → Bool}
/-- elements that are k numbers -/
def Flat (enc : TypeId × Value → H) (P : Program) (e k : Nat) : Prop := ∀ (W : World) (spare : Nat → Bool) (fuel : Nat) (cs : List Value) (x : DataW H × List MemPlace), DataW.trod enc P W 0 spare true fuel e cs = some x → ∃ z : List Int, z.length = k ∧ cs = ints z ∧ ∀ n ∈ z, InR n
theorem flat_int {e : Nat} (he : P.underlying e = some (.int .i64)) : Flat enc P e 1 := by
  intro W spare fuel cs x h
  obtain ⟨n, rfl, _, hw⟩ := DataW.trod_int he h
  exact ⟨[n], rfl, rfl, fun m hm => (by
    have e : m = n := by simpa using hm
    rw [e]; exact bounds_i64 hw)⟩
theorem carryAll (hl : laidOutB P = true) {W W' : World} : ∀ {ts : List TypeId} {vs : List Value} {ds : List (DataW H)} {ps : List MemPlace}, ts.all (fun t => P.readableRec t && decide (t < P.types.size)) = true → DataW.TrodAll enc P W 0 (fun _ => true) true ts vs ds ps → Below W.heap.size W W' → (∀ x ∈ ps, x.block < W.heap.size) →
    DataW.TrodAll enc P W' 0 (fun b => decide (b < W.heap.size)) true ts vs ds ps
  | [], vs, ds, ps, _, h, _, _ => by
    obtain ⟨rfl, rfl, rfl⟩ := trodAll_nil h
    exact trodAll_mk0
  | t :: ts, vs, ds, ps, hr, h, hb, hlt => by
    obtain ⟨v, vs', d, ds', p, q, rfl, rfl, rfl, h1, h2⟩ := trodAll_cons h
    simp only [List.all_cons, Bool.and_eq_true, decide_eq_true_eq] at hr
    exact ⟨p, q, Below.trod hl hr.1.1 hr.1.2 h1 hb (fun x hx => hlt x (by simp [hx])), carryAll hl (by simpa using hr.2) h2 hb (fun x hx => hlt x (by simp [hx])), rfl⟩
end
/-- a contract, seen from outside -/
theorem lift_calls {P : Program} {f : FuncId} {args : List Value} {W : World} (h : Fn P f args W (roOf W) [] (fun v _ _ => v = .bool true)) : Calls P f args.toArray W fun e W' => e = .returned (.bool true) ∧ Below W.heap.size W W' := by
  refine (h W (memAll W)).mono ?_
  rintro e w' ⟨v, R', E', rfl, _, hm, rfl⟩
  exact ⟨rfl, hm.below⟩
def decI (z : List Int) : Int := z.headD 0
def decP : List Int → M.Pkt
  | [a, b, c] => ⟨a, b, c⟩
  | _ => ⟨0, 0, 0⟩
end Go.Proofs.YtjacpnojnoompaaDoor.K

/- Any flat data: a law whose road reads package-level variables: all that exists when the call begins is read only; the builder that hands on the list of the variables and the shape of the world. No condition. -/
namespace Go.Proofs.YtjacpnojnoompaaDoor.K
open Go Go.RowKit

theorem ro_cell {W : World} {b : Nat} {v : Value} (h : W.cell? ⟨b, 0, none⟩ = some v) : ∃ rest, roOf W b = some (v :: rest) := by
  unfold World.cell? at h
  unfold roOf
  cases hh : W.heap[b]? with
  | none => simp [hh] at h
  | some o =>
    cases o with
    | cells arr T fz =>
      simp only [hh] at h ⊢
      obtain ⟨l⟩ := arr
      cases l with
      | nil => simp at h
      | cons x l => simp at h; subst h; exact ⟨l, rfl⟩
    | _ => simp [hh] at h
theorem returnsInHanded_laidB {H : Type} {enc : TypeId × Value → H} {a : Assume} {C : Checked} {os : Os} {f : FuncId} {fn : Func} {s : ChangeSpec} {conds : List PathCond} {apart fresh handsOn again : Bool} {X : World → Array Value → Prop}
    (hX : ∀ (w w' : World) (args : Array Value), w.heap = w'.heap → X w args → X w' args)
    (own : ownKnob C.prog.godebug = none) (started : os.Started) (noInit : C.prog.inits.idxOf? f = none) (hfn : C.prog.funcs[f]? = some fn)
    (witness : ∃ (w : World) (tape : Tape) (i : Input), w.os = os ∧ (w.forCall tape i).Shaped C.prog ∧ i.vars = [] ∧ Input.okWide C.prog (w.forCall tape i) .any w.heap.size f i ∧
      ((s.pre enc C.prog fn conds apart (w.forCall tape i).memory i.args ∧ X (w.forCall tape i).memory i.args) ∧ sizedMet enc C.prog fn (OpenSpec.ofChange s) apart (w.forCall tape i).memory i.args) ∧ a.holds C.prog (lone (Frame.enter C.prog f i.args .normal) [] (w.forCall tape i)))
    (contract : ∀ (W : World) (base : Nat) (args : Array Value) (ds gs : List (DataW H)) (before : List MemPlace),
      (∀ (j : Nat) t v, fn.params[j]? = some t → args[j]? = some v → Value.okWide C.prog W .any base t v) →
      DataW.Whole enc C.prog fn.params.toList s.vars apart W args.toList ds gs before →
      conds.all (PathCond.test C.prog ⟨fn.params.toList, ds, s.plain.varTypes C.prog, gs⟩) = true →
      X W args → W.ShapedOpen C.prog →
      Calls C.prog f args W fun e W' => ∃ v, e = .returned v ∧ s.post enc C.prog fn apart fresh handsOn again W args v W') :
    ReturnsInHanded a C os f .any (fun w args => (s.pre enc C.prog fn conds apart w args ∧ X w args) ∧ sizedMet enc C.prog fn (OpenSpec.ofChange s) apart w args) (s.post enc C.prog fn apart fresh handsOn again) := by
  refine returnsInHanded_of_calls own started noInit witness ?_
  intro w tape i _ hsh _ hok hpre hholds
  obtain ⟨_, _, _, fn', hfn', _, _, _, _, hval⟩ := hok
  have e : fn' = fn := Option.some.inj (hfn'.symm.trans hfn)
  subst e
  obtain ⟨⟨⟨ds, gs, before, hw, hc⟩, hx⟩, hz⟩ := hpre
  have hw' := DataW.Whole.of_heap (w' := w.forCall tape i) (by rfl) hw
  refine (contract (w.forCall tape i) w.heap.size i.args ds gs before hval hw' hc (hX _ _ _ (by rfl) hx) hsh).mono fun e W' ⟨v, he, hp⟩ => ?_
  subst he
  exact ChangeSpec.post_blind hp
end Go.Proofs.YtjacpnojnoompaaDoor.K

/- From the shape of the world to what the walks know of the variables. No condition. -/
namespace Go.Proofs.YtjacpnojnoompaaDoor
open Go Go.RowKit Go.Proofs.YtjacpnojnoompaaDoor.K
def laidJ : List (String × DataW Unit) := Rows.journalManyRow.laid
theorem glob_ofJ {W : World} (hsh : W.ShapedOpen Tryd.prog) : GlobJ (roOf W) := by
  obtain ⟨m, hm⟩ := Go.Proofs.cell_of_shapedOpen_int (g := 0) (zero := #[.int .i64 0]) (t := 3) hsh (of_decide_eq_true (by kernel_rfl)) (by kernel_rfl) rfl (by kernel_rfl) (by kernel_rfl) Tryd.underlying3
  obtain ⟨rest, hr⟩ := ro_cell hm
  exact ⟨m, rest, hr⟩
end Go.Proofs.YtjacpnojnoompaaDoor

/- JournalMany: for every input the law returns true, and the input reads afterwards as it read before; the listed variables of the library start as its text lays them. -/
namespace Go.Proofs.YtjacpnojnoompaaDoor
open Go Go.RowKit Go.ChangeShapes Go.WideShapes Go.ChangeAt Go.WideElems Go.Maps Go.Proofs.YtjacpnojnoompaaDoor.K Go.Proofs.YtjacpnojnoompaaDoor.M
open Go.ChangeMaps (open_string shut_string)
namespace journalMany
theorem own : ownKnob Tryd.prog.godebug = none := by kernel_rfl
theorem laidOut : laidOutB Tryd.prog = true := by kernel_rfl
theorem readable : (Tryd.f4.params.toList).all (fun t => Tryd.prog.readableRec t && decide (t < Tryd.prog.types.size)) = true := by kernel_rfl
section
variable {H : Type} {enc : TypeId × Value → H}
theorem flat_ints : Flat enc Tryd.prog 3 1 := flat_int Tryd.underlying3
theorem cells_ints : Tryd.prog.cellsOf 3 = 1 := by kernel_rfl
end
set_option maxRecDepth 100000 in
theorem lifted (os : Os) (started : os.Started) (H : Type) (enc : TypeId × Value → H) :
    ReturnsInHanded {} Tryd.checked os 4 .any (fun w args => (Rows.journalManySpec.pre enc Tryd.prog Tryd.f4 [] false w args ∧ laidMetH Tryd.prog laidJ w) ∧ sizedMet enc Tryd.prog Tryd.f4 (OpenSpec.ofChange Rows.journalManySpec) false w args)
      (Rows.journalManySpec.post enc Tryd.prog Tryd.f4 false true false false) := by
  refine returnsInHanded_laidB (C := Tryd.checked) (X := fun w _ => laidMetH Tryd.prog laidJ w) (fun _ _ _ hh h => h.of_heap hh) own started (by kernel_rfl) Tryd.func4
    (ChangeSpec.witness_shaped (enc := enc) (C := Tryd.checked) (os := os) (X := fun w _ => laidMetH Tryd.prog laidJ w) false (World.laidAll Tryd.prog os laidJ) #[.int .u8 0] 8 (World.laidAll_os _ _ _)
      (World.shaped_of_ZipB (by kernel_rfl) (by kernel_rfl)) (by kernel_rfl) (by kernel_rfl) (by kernel_rfl)
      (by rw [MakeChecks.laidMetH_plain _ _ _ (by kernel_rfl)]; exact laidMet_laidAll _ (by kernel_rfl) (by kernel_rfl))) ?_
  intro W base args ds gs before hval0 hW _ hL hsh
  have hG := glob_ofJ hsh
  have hval : ∀ (j : Nat) t v, Tryd.f4.params[j]? = some t → args[j]? = some v → Value.okWide Tryd.prog W .any base t v := hval0
  have hW' := hW
  obtain ⟨p, q, hA0, hV, rfl, _, _⟩ := hW
  have hA : DataW.TrodAll enc Tryd.prog W 0 (fun _ => true) true Tryd.f4.params.toList args.toList ds p := hA0
  have hA1 := hA
  obtain ⟨rfl, rfl⟩ := trodVars_none hV
  simp only [List.append_nil] at hW'
  have hlt : ∀ x ∈ p, x.block < W.heap.size := fun x hx => by simpa using hW'.lt x hx
  have hcarry : ∀ W', Below W.heap.size W W' → DataW.TrodAll enc Tryd.prog W' 0 (fun b => decide (b < W.heap.size)) true Tryd.f4.params.toList args.toList ds p := fun W' hb => carryAll laidOut readable hA1 hb hlt
  clear hA0 hval0 hA1
  rw [Tryd.params4] at hA
  obtain ⟨v0, vs0, d0, ds0, p0, q0, e0, rfl, e20, h0, t0⟩ := trodAll_cons hA
  obtain ⟨rfl, rfl, _⟩ := trodAll_nil t0
  have hargs : args = #[v0] := by rw [← Array.toArray_toList (xs := args), e0]
  subst hargs
  obtain ⟨z0, rfl, _, _, w0⟩ := open_int Tryd.underlying5 (hval 0 5 _ rfl rfl) h0
  have r0 := bounds_u8 w0
  have hcall := lift_calls (P := Tryd.prog) (f := 4) (args := [.int .u8 z0]) (W := W) (JournalMany_F hG r0 W)
  try simp only [List.length_map] at hcall
  refine hcall.mono fun e W' ⟨he, hb⟩ => ?_
  subst he
  exact ⟨_, rfl, ⟨_, _, _, [], _, [], hW', trodAll_mk1 (shut_bool Tryd.underlying4 _), hcarry W' hb, rfl, hb.frame _, fun h => by cases h⟩⟩
end journalMany
theorem journalMany_holds : Rows.JournalManySaid :=
  OpenClaim.holds_of_wide 4 Tryd.f4 rfl rfl rfl rfl rfl rfl rfl ⟨rfl, rfl, rfl, rfl, rfl⟩ rfl rfl rfl rfl rfl (by kernel_rfl) Tryd.func4 (by kernel_rfl)
    (of_decide_eq_true (by kernel_rfl)) (by unfold Func.isWrapper; first | (rw [if_pos (by decide +kernel)]; kernel_rfl) | (rw [if_neg (by decide +kernel)]; exact ⟨rfl, rfl⟩))
    (fun os started H enc _ => journalMany.lifted os started H enc)
theorem journalMany_card : Rows.JournalManyCardSaid :=
  Claim7.holds_tied_plain_at .later [] [.data, .pinned] true (true, "213b891203c229090194b21b738cbee38597a5feec4cee3bd091f8bcbc36b95e") true
    journalMany_holds (fun _ h => by cases h) (by kernel_rfl) (fun _ h => by cases h) journalMany_row_tie rfl ⟨rfl, rfl⟩ (by kernel_rfl) rfl
    (fun f fn hf hfn => by
      obtain rfl : f = 4 := Option.some.inj ((show Tryd.prog.funcNamed Tryd.f4.name = some 4 by kernel_rfl).symm.trans hf) |>.symm
      obtain rfl : fn = Tryd.f4 := (Option.some.inj (Tryd.func4.symm.trans hfn)).symm
      exact ⟨by kernel_rfl, fun j t ht => by
        rw [Tryd.params4] at ht
        have hm : t ∈ [5] := by simpa using Array.mem_of_getElem? ht
        have hall : ([5].all fun u => !Tryd.prog.wantsStandIn u) = true := by kernel_rfl
        exact (show Tryd.prog.wantsStandIn t = false by simpa using List.all_eq_true.1 hall t hm)⟩)
    (by kernel_rfl)
end Go.Proofs.YtjacpnojnoompaaDoor
