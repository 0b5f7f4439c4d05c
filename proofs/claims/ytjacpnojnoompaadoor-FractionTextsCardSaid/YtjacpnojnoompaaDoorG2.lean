/- FractionTexts: for every input the law returns true, and the input reads afterwards as it read before; the listed variables of the library start as its text lays them. -/
import Derived.Test.YtjacpnojnoompaaDoorG1
import Derived.Lib.ItoaNum
import Derived.Lib.LaidTab
import Derived.Lib.AppendIntMem
import Derived.Lib.AtoiErrMem
import Derived.Lib.IndexMore
import Derived.Lib.Atoi
import Derived.Lib.AtoiAll
import Derived.Lib.AtoiTie
import Derived.Lib.AtoiAllCases
import Derived.Lib.ItoaLen
import Derived.Lib.IndexBytes
import Derived.Shelf.Strconv.AtoiAll
import Derived.Shelf.Strconv.Itoa3
import Derived.Shelf.Strconv.Atoi
import Derived.Shelf.Strings.Cut
import Derived.Test.YtjacpnojnoompaaDoorRows
import Derived.ProofKit
import Derived.SizedLaws
import Derived.Maps.OwnSet
import Derived.WideKeyElems2
import Derived.Carry
import Derived.Deep.Slices
import Derived.OpenShut
import Derived.Handed
import Derived.HandedShaped
import Derived.LaidMore
import Derived.LaidHandle
import Derived.LaidLaws
import Derived.MakeChecks
import Derived.Stop.LaidErr
import Derived.Shelf.Vars
import Derived.Test.YtjacpnojnoompaaDoorTie
import Derived.Test.YtjacpnojnoompaaDoorCards
import Derived.SevenTiedAt
import Derived.Stop.Joined
/- A trial. No condition. -/
set_option linter.unusedSimpArgs false
set_option linter.unusedVariables false
namespace Go.Proofs.YtjacpnojnoompaaDoor
open Go Go.RowKit Go.Proofs.YtjacpnojnoompaaDoor.K Go.Proofs.YtjacpnojnoompaaDoor.M

theorem tmod_gt (x : Int) {n : Int} (h : 0 < n) : -n < x.tmod n := by
  rcases Int.le_total 0 x with h0 | h0
  · have := Int.tmod_nonneg n h0; omega
  · have h1 := Int.neg_tmod (a := x) (b := n)
    have h2 := Int.tmod_lt_of_pos (-x) h
    omega
theorem mod_pos {x n : Int} (h : 1 ≤ n) (hc : ¬ x.tmod n < 0) : x.tmod n = x % n := by
  rw [Int.tmod_eq_emod] at hc ⊢
  split at hc
  · rename_i h1; rw [if_pos h1]; omega
  · rename_i h1
    rw [if_neg h1]
    have := Int.emod_lt_of_pos x (show 0 < n by omega)
    have h2 : (n.natAbs : Int) = n := by omega
    omega
theorem mod_neg {x n : Int} (h : 1 ≤ n) (hc : x.tmod n < 0) : x.tmod n + n = x % n := by
  rw [Int.tmod_eq_emod] at hc ⊢
  split at hc
  · rename_i h1
    have := Int.emod_nonneg x (show n ≠ 0 by omega)
    omega
  · rename_i h1; rw [if_neg h1]
    have h2 : (n.natAbs : Int) = n := by omega
    omega
theorem src_end {b : Nat} {a : Option Addr} {cp : Nat} {xs : List Int} {c : Nat} (h : xs.length ≤ c) : srcE b a cp xs c = srcE b a cp xs (c + 1) := by
  unfold srcE
  rw [show min c xs.length = min (c + 1) xs.length by omega]
theorem src_next {b : Nat} {a : Option Addr} {cp : Nat} {xs : List Int} {c : Nat} (h : c < xs.length) : Ent.blk b [.slice a xs.length cp, .int .i64 (((min c xs.length : Nat) : Int) + 1)] = srcE b a cp xs (c + 1) := by
  unfold srcE
  rw [show ((min c xs.length : Nat) : Int) + 1 = ((min (c + 1) xs.length : Nat) : Int) by omega]

theorem Mod_V {R : Ro} {x n : Int} (hn : InR n) : FnV Tryd.prog 59 [.int .i64 x, .int .i64 n] R (.int .i64 (mod x n)) := by
  refine Fn.toV (fun w0 E => ?_)
  refine Fn.enter (n := 16) Tryd.func59 rfl rfl (Nat.le_of_ble_eq_true rfl) rfl ?_
  refine W.seq ?_
  refine W.region _ ?_
  refine WG.run tab_ok 1 rfl ?_
  refine WG.nil ?_
  refine WE.nxt ?_
  refine W.seq ?_
  refine W.seq ?_
  refine W.region _ ?_
  refine WG.run tab_ok 2 rfl ?_
  refine WG.nil ?_
  refine WE.nxt ?_
  refine W.condD rfl (fun hc0 => ?_) (fun hc0 => ?_)
  · try dsimp only at hc0
    refine W.seq ?_
    refine W.region _ ?_
    refine WG.run tab_ok 1 rfl ?_
    refine WG.nil ?_
    refine WE.nxt ?_
    refine W.ret ?_
    refine WE.then_ret ?_
    refine WE.retF tab_ok [_] rfl ⟨rfl, trivial⟩ (RLe.refl _) ?_
    exact ⟨by unfold mod; rw [if_pos hc0]; rfl, rfl⟩
  · try dsimp only at hc0
    refine W.skip ?_
    refine WE.nxt ?_
    refine W.seq ?_
    refine W.region _ ?_
    refine WG.run tab_ok 2 rfl ?_
    refine WG.y rfl rfl (by decide) (Yl.tmod rfl rfl rfl (fun _ => rfl) (by intro _; omega)) ?_
    refine WG.run tab_ok 1 rfl ?_
    refine WG.nil ?_
    refine WE.nxt ?_
    refine W.seq ?_
    refine W.seq ?_
    refine W.region _ ?_
    refine WG.run tab_ok 2 rfl ?_
    refine WG.nil ?_
    refine WE.nxt ?_
    refine W.condD rfl (fun hc1 => ?_) (fun hc1 => ?_)
    · try dsimp only at hc1
      refine W.region _ ?_
      refine WG.run tab_ok 2 rfl ?_
      refine WG.y rfl rfl (by decide) (Yl.add rfl rfl rfl (fun _ => rfl) (by intro _; have h9 := tmod_gt x (show (0 : Int) < n by omega); constructor <;> omega)) ?_
      refine WG.run tab_ok 1 rfl ?_
      refine WG.nil ?_
      refine WE.nxt ?_
      refine W.seq ?_
      refine W.region _ ?_
      refine WG.run tab_ok 2 rfl ?_
      refine WG.nil ?_
      refine WE.nxt ?_
      refine W.ret ?_
      refine WE.retF tab_ok [_] rfl ⟨rfl, trivial⟩ (RLe.refl _) ?_
      refine ⟨congrArg (Value.int .i64) ?_, rfl⟩
      unfold mod; rw [if_neg hc0]; exact mod_neg (by omega) hc1
    · try dsimp only at hc1
      refine W.skip ?_
      refine WE.nxt ?_
      refine W.seq ?_
      refine W.region _ ?_
      refine WG.run tab_ok 2 rfl ?_
      refine WG.nil ?_
      refine WE.nxt ?_
      refine W.ret ?_
      refine WE.retF tab_ok [_] rfl ⟨rfl, trivial⟩ (RLe.refl _) ?_
      refine ⟨congrArg (Value.int .i64) ?_, rfl⟩
      unfold mod; rw [if_neg hc0]; exact mod_pos (by omega) hc1

theorem Raw_C {R : Ro} {b : Nat} {a : Option Addr} {cp : Nat} {xs : List Int} {c : Nat} (w0 : World) (ha : RS R 1 encI a xs) : FnAt Tryd.prog 60 [.pointer (some ⟨b, 0, none⟩)] w0 R (srcE b a cp xs c) (RdPost (.int .i64 (nth xs c)) R (srcE b a cp xs (c + 1))) := by
  intro F
  have hla := ha.len
  refine Fn.enter (n := 31) Tryd.func60 rfl rfl (Nat.le_of_ble_eq_true rfl) rfl ?_
  refine W.seq ?_
  refine W.region _ ?_
  refine WG.run tab_ok 1 rfl ?_
  refine WG.nil ?_
  refine WE.nxt ?_
  refine W.seq ?_
  refine W.seq ?_
  refine W.regionQ _ mixed (by kernel_rfl) ?_
  refine WG.run tab_ok 3 rfl ?_
  refine' WG.y rfl rfl (by decide) (Yl.load1 tab_ok rfl rfl rfl (fun _ => rfl) ?r1 rfl ?h1) ?_
  case r1 => apply Rd.add; (first | exact Rd.blk 0 rfl | exact Rd.blk 1 rfl | exact Rd.blk 2 rfl | exact Rd.blk 3 rfl | exact Rd.blk 4 rfl | exact Rd.blk 5 rfl | exact Rd.blk 6 rfl | exact Rd.blk 7 rfl | (apply RS.rdD; assumption; ((try dsimp only) <;> omega)) | exact Rd.slD 0 rfl (by (try dsimp only) <;> omega) | exact Rd.slD 1 rfl (by (try dsimp only) <;> omega) | exact Rd.slD 2 rfl (by (try dsimp only) <;> omega) | exact Rd.slD 3 rfl (by (try dsimp only) <;> omega) | exact Rd.slD 4 rfl (by (try dsimp only) <;> omega) | exact Rd.slD 5 rfl (by (try dsimp only) <;> omega) | exact Rd.slD 6 rfl (by (try dsimp only) <;> omega) | exact Rd.slD 7 rfl (by (try dsimp only) <;> omega))
  case h1 => rfl
  refine WG.run tab_ok 3 rfl ?_
  refine' WG.y rfl rfl (by decide) (Yl.load1 tab_ok rfl rfl rfl (fun _ => rfl) ?r2 rfl ?h2) ?_
  case r2 => apply Rd.add; (first | exact Rd.blk 0 rfl | exact Rd.blk 1 rfl | exact Rd.blk 2 rfl | exact Rd.blk 3 rfl | exact Rd.blk 4 rfl | exact Rd.blk 5 rfl | exact Rd.blk 6 rfl | exact Rd.blk 7 rfl | (apply RS.rdD; assumption; ((try dsimp only) <;> omega)) | exact Rd.slD 0 rfl (by (try dsimp only) <;> omega) | exact Rd.slD 1 rfl (by (try dsimp only) <;> omega) | exact Rd.slD 2 rfl (by (try dsimp only) <;> omega) | exact Rd.slD 3 rfl (by (try dsimp only) <;> omega) | exact Rd.slD 4 rfl (by (try dsimp only) <;> omega) | exact Rd.slD 5 rfl (by (try dsimp only) <;> omega) | exact Rd.slD 6 rfl (by (try dsimp only) <;> omega) | exact Rd.slD 7 rfl (by (try dsimp only) <;> omega))
  case h2 => rfl
  refine WG.run tab_ok 2 rfl ?_
  refine WG.nil ?_
  refine WE.nxt ?_
  refine W.condD rfl (fun hc0 => ?_) (fun hc0 => ?_)
  · try dsimp only at hc0
    refine W.seq ?_
    refine W.region _ ?_
    refine WG.run tab_ok 1 rfl ?_
    refine WG.nil ?_
    refine WE.nxt ?_
    refine W.ret ?_
    refine WE.then_ret ?_
    refine WE.retF tab_ok [_] rfl ⟨rfl, trivial⟩ (RLe.refl _) ?_
    exact ⟨_, [], rfl, by rw [nth_out (by omega)]; rfl, rfl, src_end (by omega), rfl⟩
  · try dsimp only at hc0
    refine W.skip ?_
    refine WE.nxt ?_
    refine W.seq ?_
    refine W.region _ ?_
    refine WG.run tab_ok 3 rfl ?_
    refine' WG.y rfl rfl (by decide) (Yl.load1 tab_ok rfl rfl rfl (fun _ => rfl) ?r3 rfl ?h3) ?_
    case r3 => apply Rd.add; (first | exact Rd.blk 0 rfl | exact Rd.blk 1 rfl | exact Rd.blk 2 rfl | exact Rd.blk 3 rfl | exact Rd.blk 4 rfl | exact Rd.blk 5 rfl | exact Rd.blk 6 rfl | exact Rd.blk 7 rfl | (apply RS.rdD; assumption; ((try dsimp only) <;> omega)) | exact Rd.slD 0 rfl (by (try dsimp only) <;> omega) | exact Rd.slD 1 rfl (by (try dsimp only) <;> omega) | exact Rd.slD 2 rfl (by (try dsimp only) <;> omega) | exact Rd.slD 3 rfl (by (try dsimp only) <;> omega) | exact Rd.slD 4 rfl (by (try dsimp only) <;> omega) | exact Rd.slD 5 rfl (by (try dsimp only) <;> omega) | exact Rd.slD 6 rfl (by (try dsimp only) <;> omega) | exact Rd.slD 7 rfl (by (try dsimp only) <;> omega))
    case h3 => rfl
    refine WG.y rfl rfl (by decide) (Yl.add rfl rfl rfl (fun _ => rfl) (by intro _; constructor <;> (try dsimp only) <;> omega)) ?_
    refine WG.run tab_ok 2 rfl ?_
    first | refine WL.efN rfl rfl (Ef.store 0 tab_ok rfl rfl rfl rfl rfl rfl rfl rfl ?_) | refine WL.efN rfl rfl (Ef.store 1 tab_ok rfl rfl rfl rfl rfl rfl rfl rfl ?_) | refine WL.efN rfl rfl (Ef.store 2 tab_ok rfl rfl rfl rfl rfl rfl rfl rfl ?_) | refine WL.efN rfl rfl (Ef.store 3 tab_ok rfl rfl rfl rfl rfl rfl rfl rfl ?_) | refine WL.efN rfl rfl (Ef.store 4 tab_ok rfl rfl rfl rfl rfl rfl rfl rfl ?_) | refine WL.efN rfl rfl (Ef.store 5 tab_ok rfl rfl rfl rfl rfl rfl rfl rfl ?_) | refine WL.efN rfl rfl (Ef.store 6 tab_ok rfl rfl rfl rfl rfl rfl rfl rfl ?_) | refine WL.efN rfl rfl (Ef.store 7 tab_ok rfl rfl rfl rfl rfl rfl rfl rfl ?_)
    refine WG.nil ?_
    refine WE.nxt ?_
    refine W.seq ?_
    refine W.regionQ _ mixed (by kernel_rfl) ?_
    refine WG.run tab_ok 3 rfl ?_
    refine' WG.y rfl rfl (by decide) (Yl.load1 tab_ok rfl rfl rfl (fun _ => rfl) ?r4 rfl ?h4) ?_
    case r4 => apply Rd.add; (first | exact Rd.blk 0 rfl | exact Rd.blk 1 rfl | exact Rd.blk 2 rfl | exact Rd.blk 3 rfl | exact Rd.blk 4 rfl | exact Rd.blk 5 rfl | exact Rd.blk 6 rfl | exact Rd.blk 7 rfl | (apply RS.rdD; assumption; ((try dsimp only) <;> omega)) | exact Rd.slD 0 rfl (by (try dsimp only) <;> omega) | exact Rd.slD 1 rfl (by (try dsimp only) <;> omega) | exact Rd.slD 2 rfl (by (try dsimp only) <;> omega) | exact Rd.slD 3 rfl (by (try dsimp only) <;> omega) | exact Rd.slD 4 rfl (by (try dsimp only) <;> omega) | exact Rd.slD 5 rfl (by (try dsimp only) <;> omega) | exact Rd.slD 6 rfl (by (try dsimp only) <;> omega) | exact Rd.slD 7 rfl (by (try dsimp only) <;> omega))
    case h4 => rfl
    refine WG.run tab_ok 3 rfl ?_
    refine' WG.y rfl rfl (by decide) (Yl.load1 tab_ok rfl rfl rfl (fun _ => rfl) ?r5 rfl ?h5) ?_
    case r5 => apply Rd.add; (first | exact Rd.blk 0 rfl | exact Rd.blk 1 rfl | exact Rd.blk 2 rfl | exact Rd.blk 3 rfl | exact Rd.blk 4 rfl | exact Rd.blk 5 rfl | exact Rd.blk 6 rfl | exact Rd.blk 7 rfl | (apply RS.rdD; assumption; ((try dsimp only) <;> omega)) | exact Rd.slD 0 rfl (by (try dsimp only) <;> omega) | exact Rd.slD 1 rfl (by (try dsimp only) <;> omega) | exact Rd.slD 2 rfl (by (try dsimp only) <;> omega) | exact Rd.slD 3 rfl (by (try dsimp only) <;> omega) | exact Rd.slD 4 rfl (by (try dsimp only) <;> omega) | exact Rd.slD 5 rfl (by (try dsimp only) <;> omega) | exact Rd.slD 6 rfl (by (try dsimp only) <;> omega) | exact Rd.slD 7 rfl (by (try dsimp only) <;> omega))
    case h5 => rfl
    refine WG.y rfl rfl (by decide) (Yl.sub rfl rfl rfl (fun _ => rfl) (by intro _; constructor <;> (try dsimp only) <;> omega)) ?_
    refine WG.y rfl rfl (by decide) (Yl.index tab_ok rfl rfl rfl rfl rfl rfl (fun _ => rfl) (by intro _; constructor <;> (try dsimp only) <;> omega) (by intro _; first | exact fun _ _ _ _ => rfl | exact RS.has (by assumption) | exact fun _ _ _ _ => (by assumption) | exact HasMem.ownD 0 rfl | exact HasMem.ownD 1 rfl | exact HasMem.ownD 2 rfl | exact HasMem.ownD 3 rfl | exact HasMem.ownD 4 rfl | exact HasMem.ownD 5 rfl | exact HasMem.ownD 6 rfl | exact HasMem.ownD 7 rfl)) ?_
    refine' WG.y rfl rfl (by decide) (Yl.load1 tab_ok rfl rfl rfl (fun _ => rfl) ?r6 rfl ?h6) ?_
    case r6 => (first | (apply RS.rdD; assumption; ((try dsimp only) <;> omega)) | exact Rd.slD 0 rfl (by (try dsimp only) <;> omega) | exact Rd.slD 1 rfl (by (try dsimp only) <;> omega) | exact Rd.slD 2 rfl (by (try dsimp only) <;> omega) | exact Rd.slD 3 rfl (by (try dsimp only) <;> omega) | exact Rd.slD 4 rfl (by (try dsimp only) <;> omega) | exact Rd.slD 5 rfl (by (try dsimp only) <;> omega) | exact Rd.slD 6 rfl (by (try dsimp only) <;> omega) | exact Rd.slD 7 rfl (by (try dsimp only) <;> omega))
    case h6 => rfl
    refine WG.run tab_ok 1 rfl ?_
    refine WG.nil ?_
    refine WE.nxt ?_
    refine W.ret ?_
    refine WE.retF tab_ok [_] rfl ⟨rfl, trivial⟩ (RLe.refl _) ?_
    exact ⟨_, [], rfl, congrArg (fun i => Value.int .i64 (nth xs i)) (show _ = c by omega), rfl, src_next (by omega), rfl⟩

theorem N_C {R : Ro} {b : Nat} {a : Option Addr} {cp : Nat} {xs : List Int} {c : Nat} (w0 : World) {n : Int} (ha : RS R 1 encI a xs) (hn : InR n) : FnAt Tryd.prog 19 [.pointer (some ⟨b, 0, none⟩), .int .i64 n] w0 R (srcE b a cp xs c) (RdPost (.int .i64 (mod (nth xs c) n)) R (srcE b a cp xs (c + 1))) := by
  intro F
  refine Fn.enter (n := 9) Tryd.func19 rfl rfl (Nat.le_of_ble_eq_true rfl) rfl ?_
  refine W.seq ?_
  refine W.region _ ?_
  refine WG.run tab_ok 1 rfl ?_
  refine WG.nil ?_
  refine WE.nxt ?_
  refine W.seq ?_
  refine W.region _ ?_
  refine WG.run tab_ok 1 rfl ?_
  refine WL.callAt 0 en60 rfl rfl (by decide) (CallOp.mkT rfl rfl rfl rfl) rfl (Raw_C w0 ha _) ?_
  rintro _ _ _ _ - ⟨rfl, rfl, rfl, rfl⟩
  refine WG.run tab_ok 1 rfl ?_
  refine WG.callV en59 rfl rfl (by decide) (CallOp.mk' rfl rfl rfl rfl) (fun _ => rfl) (fun hg => Mod_V hn) ?_
  refine WG.run tab_ok 1 rfl ?_
  refine WG.nil ?_
  refine WE.nxt ?_
  refine W.ret ?_
  refine WE.retF tab_ok [_] rfl ⟨rfl, trivial⟩ (RLe.refl _) ?_
  exact ⟨_, [], rfl, rfl, rfl, rfl, rfl⟩

theorem New_C {R : Ro} {a : Option Addr} {cp : Nat} {l : List Int} (w0 : World) (E : List Ent) (hc : l.length ≤ cp) :
    K.Fn Tryd.prog 15 [.slice a l.length cp] w0 R E (fun v R' E' => ∃ b, v = .pointer (some ⟨b, 0, none⟩) ∧ R = R' ∧ E' = srcE b a cp (l.take 2000) 0 :: E) := by
  refine Fn.enter (n := 10) Tryd.func15 rfl rfl (Nat.le_of_ble_eq_true rfl) rfl ?_
  refine W.seq ?_
  refine W.region _ ?_
  refine WG.run tab_ok 1 rfl ?_
  refine WG.nil ?_
  refine WE.nxt ?_
  refine W.seq ?_
  refine W.region _ ?_
  refine WG.run tab_ok 4 rfl ?_
  refine WG.y rfl rfl (by decide) (Yl.sliceH tab_ok rfl rfl rfl rfl rfl (fun _ => rfl) (by intro _; split <;> constructor <;> omega) rfl) ?_
  -- build
  refine WG.y rfl rfl (by decide) (Yl.build (parts := [(0, .tmp 7)]) tab_ok rfl rfl rfl rfl (fun _ => rfl) rfl rfl) ?_
  refine WL.ef rfl rfl (by decide) (Ef.box rfl rfl (fun b9 => ?_))
  refine WG.run tab_ok 1 rfl ?_
  refine WG.nil ?_
  refine WE.nxt ?_
  refine W.ret ?_
  refine WE.retF tab_ok [_] rfl ⟨rfl, trivial⟩ (RLe.refl _) ?_
  refine ⟨_, rfl, rfl, ?_⟩
  unfold srcE
  rw [List.length_take, Nat.min_comm 0, Nat.min_zero]
  have e1 : ((if (2000 : Int) < (l.length : Int) then 2000 else (l.length : Int))).toNat = min 2000 l.length := by split <;> omega
  exact congrArg (fun n => Ent.blk _ [Value.slice a n cp, .int .i64 0] :: E) e1

end Go.Proofs.YtjacpnojnoompaaDoor

/- Fractions: the functions that compute. No condition. -/
set_option linter.unusedSimpArgs false
set_option linter.unusedVariables false
namespace Go.Proofs.YtjacpnojnoompaaDoor
open Go Go.RowKit Go.Proofs.YtjacpnojnoompaaDoor.K Go.Proofs.YtjacpnojnoompaaDoor.M

theorem duo51 : Duo Tryd.prog 51 := ⟨_, _, Tryd.underlying51, by kernel_rfl, by kernel_rfl, by decide, by decide, rfl, rfl, ⟨_, Tryd.underlying3⟩, ⟨_, Tryd.underlying3⟩, fun xs w v h => run_part_plain w (by kernel_rfl) h, fun xs w v h => run_part_plain w (by kernel_rfl) h⟩

theorem Divisor_V {R : Ro} {a b : Nat} (ha : a ≤ 18446744073709551615) (hb : b ≤ 18446744073709551615) : FnV Tryd.prog 70 [.int .u64 (a : Int), .int .u64 (b : Int)] R (.int .u64 (Nat.gcd a b : Int)) := by
  refine Fn.toV (fun w0 E => ?_)
  refine Fn.enter (n := 12) Tryd.func70 rfl rfl (Nat.le_of_ble_eq_true rfl) rfl ?_
  refine W.seq ?_
  refine W.region _ ?_
  refine WG.run tab_ok 1 rfl ?_
  refine WG.nil ?_
  refine WE.nxt ?_
  refine W.seq ?_
  refine W.block ?_
  refine W.loopK (β := Nat × Nat) (fun (x, y) => Nat.gcd x y = Nat.gcd a b) (fun (x, y) => [(0, true, .int .u64 (x : Int)), (1, true, .int .u64 (y : Int))]) [] [] [] _ rfl (fun (x, y) => []) (fun (x, y) => y) ((a, b)) (rfl) ⟨rfl, rfl, rfl⟩ (by (repeat (first | exact List.Sublist.refl _ | exact List.nil_sublist _ | apply List.Sublist.cons_cons | apply List.Sublist.cons)); done) ?_
  intro st hst
  obtain ⟨x, y⟩ := st
  dsimp only [zipE, setAll, List.cons_append, List.nil_append, List.set_cons_zero, List.set_cons_succ] at hst ⊢
  
  refine W.seq ?_
  refine W.seq ?_
  refine W.region _ ?_
  refine WG.run tab_ok 2 rfl ?_
  refine WG.nil ?_
  refine WE.nxt ?_
  refine W.condN rfl (fun hc0 => ?_) (fun hc0 => ?_)
  · try dsimp only at hc0
    refine W.skip ?_
    refine WE.nxt ?_
    refine W.block ?_
    refine W.regionQ _ mixed (by kernel_rfl) ?_
    refine WG.run tab_ok 3 rfl ?_
    refine WG.y rfl rfl (by decide) (Yl.remU rfl rfl rfl (fun _ => rfl) (by intro _; (try dsimp only) <;> omega) (by intro _; (try dsimp only) <;> omega)) ?_
    refine WG.run tab_ok 2 rfl ?_
    refine WG.nil ?_
    refine WE.blk _ ?_
    refine WE.again ((y, x % y)) ((gcd_step x y).trans hst) (by dsimp only; exact Nat.mod_lt _ (by omega)) ⟨rfl, rfl, rfl⟩ (RLe.refl _) (by (repeat (first | exact List.Sublist.refl _ | exact List.nil_sublist _ | apply List.Sublist.cons_cons | apply List.Sublist.cons)); done)
  · try dsimp only at hc0
    obtain rfl : y = 0 := by omega
    rw [Nat.gcd_zero_right] at hst
    subst hst
    refine W.exit ?_
    refine WE.then_exit ?_
    refine WE.then_exit ?_
    refine WE.blk_exit ?_
    refine WE.nxt ?_
    refine W.seq ?_
    refine W.region _ ?_
    refine WG.run tab_ok 2 rfl ?_
    refine WG.nil ?_
    refine WE.nxt ?_
    refine W.ret ?_
    refine WE.subE (E' := E) (by (repeat (first | exact List.Sublist.refl _ | exact List.nil_sublist _ | apply List.Sublist.cons_cons | apply List.Sublist.cons)); done) ?_
    refine WE.retF tab_ok [_] rfl ⟨rfl, trivial⟩ (RLe.refl _) ?_
    exact ⟨rfl, rfl⟩

theorem Size_V {R : Ro} {a : Int} (ha : InR a) : FnV Tryd.prog 71 [.int .i64 a] R (.int .u64 (a.natAbs : Int)) := by
  refine Fn.toV (fun w0 E => ?_)
  refine Fn.enter (n := 12) Tryd.func71 rfl rfl (Nat.le_of_ble_eq_true rfl) rfl ?_
  refine W.seq ?_
  refine W.region _ ?_
  refine WG.run tab_ok 1 rfl ?_
  refine WG.nil ?_
  refine WE.nxt ?_
  refine W.seq ?_
  refine W.seq ?_
  refine W.region _ ?_
  refine WG.run tab_ok 2 rfl ?_
  refine WG.nil ?_
  refine WE.nxt ?_
  refine W.condD rfl (fun hc0 => ?_) (fun hc0 => ?_)
  · try dsimp only at hc0
    refine W.seq ?_
    refine W.region _ ?_
    refine WG.run tab_ok 1 rfl ?_
    refine WG.y rfl rfl (by decide) (Yl.add rfl rfl rfl (fun _ => rfl) (by intro _; constructor <;> (try dsimp only) <;> omega)) ?_
    refine WG.y rfl rfl (by decide) (Yl.neg rfl rfl (fun _ => rfl) (by intro _; constructor <;> (try dsimp only) <;> omega)) ?_
    refine WG.y rfl rfl (by decide) (Yl.convId tab_ok rfl rfl rfl rfl rfl rfl (fun _ => rfl) (by intro _; (try dsimp only); first | exact u64_id ⟨by omega, by omega⟩ | exact i64_wrap ⟨by omega, by omega⟩)) ?_
    refine WG.y rfl rfl (by decide) (Yl.addU rfl rfl rfl (fun _ => rfl) (by intro _; constructor <;> (try dsimp only) <;> omega)) ?_
    refine WG.run tab_ok 1 rfl ?_
    refine WG.nil ?_
    refine WE.nxt ?_
    refine W.ret ?_
    refine WE.then_ret ?_
    refine WE.subE (E' := E) (by (repeat (first | exact List.Sublist.refl _ | exact List.nil_sublist _ | apply List.Sublist.cons_cons | apply List.Sublist.cons)); done) ?_
    refine WE.retF tab_ok [_] rfl ⟨rfl, trivial⟩ (RLe.refl _) ?_
    exact ⟨congrArg (Value.int .u64) (by omega), rfl⟩
  · try dsimp only at hc0
    refine W.skip ?_
    refine WE.nxt ?_
    refine W.seq ?_
    refine W.region _ ?_
    refine WG.run tab_ok 1 rfl ?_
    refine WG.y rfl rfl (by decide) (Yl.convId tab_ok rfl rfl rfl rfl rfl rfl (fun _ => rfl) (by intro _; (try dsimp only); first | exact u64_id ⟨by omega, by omega⟩ | exact i64_wrap ⟨by omega, by omega⟩)) ?_
    refine WG.run tab_ok 1 rfl ?_
    refine WG.nil ?_
    refine WE.nxt ?_
    refine W.ret ?_
    refine WE.subE (E' := E) (by (repeat (first | exact List.Sublist.refl _ | exact List.nil_sublist _ | apply List.Sublist.cons_cons | apply List.Sublist.cons)); done) ?_
    refine WE.retF tab_ok [_] rfl ⟨rfl, trivial⟩ (RLe.refl _) ?_
    exact ⟨congrArg (Value.int .u64) (by omega), rfl⟩

theorem Valid01_V {R : Ro} {x : Fr} (hx : InR x.1 ∧ InR x.2) : FnV Tryd.prog 35 [.agg #[.int .i64 x.1, .int .i64 x.2]] R (.bool (validF x)) := by
  refine Fn.toV (fun w0 E => ?_)
  refine Fn.enter (n := 31) Tryd.func35 rfl rfl (Nat.le_of_ble_eq_true rfl) rfl ?_
  refine W.seq ?_
  refine W.region _ ?_
  refine WL.ef rfl rfl (by decide) (Ef.box rfl rfl (fun b1 => ?_))
  refine WG.run tab_ok 1 rfl ?_
  refine WG.nil ?_
  refine WE.nxt ?_
  refine W.seq ?_
  refine W.regionQ _ mixed (by kernel_rfl) ?_
  refine WG.run tab_ok 1 rfl ?_
  refine' WG.y rfl rfl (by decide) (Yl.load1 tab_ok rfl rfl rfl (fun _ => rfl) ?r1 rfl ?h1) ?_
  case r1 => apply Rd.add; (first | exact Rd.blk 0 rfl)
  case h1 => rfl
  refine WG.run tab_ok 2 rfl ?_
  refine WG.y rfl rfl (by decide) (pureV_ok tab_ok rfl (by first | exact fun _ => rfl | exact fun h => h | (intro h; simp_all))) ?_
  refine' WG.y rfl rfl (by decide) (Yl.loadG tab_ok rfl rfl rfl (by first | exact fun _ => rfl | exact fun h => h | (intro h; simp_all)) ?r2 rfl ?h2 ?g2) ?_
  case r2 => apply Rd.addC; (first | exact Rd.blkC 0 rfl)
  case h2 => rfl
  case g2 => first | exact fun _ => trivial | (intro hg; (try simp only [decide_eq_true_eq, decide_eq_false_iff_not, beq_iff_eq, bne_iff_ne, beq_eq_false_iff_ne, bne_eq_false_iff_eq, ne_eq, Bool.or_eq_true, Bool.or_eq_false_iff, Bool.and_eq_true, Bool.and_eq_false_imp, Bool.not_eq_true, Bool.not_eq_true', Bool.not_eq_false', Classical.not_not, Int.not_lt, Int.not_le, gt_iff_lt, ge_iff_le] at hg); (try dsimp only); omega)
  refine WG.y rfl rfl (by decide) (pureV_ok tab_ok rfl (by first | exact fun _ => rfl | exact fun h => h | (intro h; simp_all))) ?_
  refine WG.y rfl rfl (by decide) (Yl.pand rfl rfl rfl (fun _ => rfl) (by intro h1 h2; simp_all <;> omega)) ?_
  refine WG.run tab_ok 1 rfl ?_
  refine WG.y rfl rfl (by decide) (pureV_ok tab_ok rfl (by first | exact fun _ => rfl | exact fun h => h | (intro h; simp_all))) ?_
  refine' WG.y rfl rfl (by decide) (Yl.loadG tab_ok rfl rfl rfl (by first | exact fun _ => rfl | exact fun h => h | (intro h; simp_all)) ?r3 rfl ?h3 ?g3) ?_
  case r3 => apply Rd.addC; (first | exact Rd.blkC 0 rfl)
  case h3 => rfl
  case g3 => first | exact fun _ => trivial | (intro hg; (try simp only [decide_eq_true_eq, decide_eq_false_iff_not, beq_iff_eq, bne_iff_ne, beq_eq_false_iff_ne, bne_eq_false_iff_eq, ne_eq, Bool.or_eq_true, Bool.or_eq_false_iff, Bool.and_eq_true, Bool.and_eq_false_imp, Bool.not_eq_true, Bool.not_eq_true', Bool.not_eq_false', Classical.not_not, Int.not_lt, Int.not_le, gt_iff_lt, ge_iff_le] at hg); (try dsimp only); omega)
  refine WG.y rfl rfl (by decide) (pureV_ok tab_ok rfl (by first | exact fun _ => rfl | exact fun h => h | (intro h; simp_all))) ?_
  refine WG.y rfl rfl (by decide) (Yl.pand rfl rfl rfl (fun _ => rfl) (by intro h1 h2; simp_all <;> omega)) ?_
  refine WG.run tab_ok 1 rfl ?_
  refine WG.y rfl rfl (by decide) (pureV_ok tab_ok rfl (by first | exact fun _ => rfl | exact fun h => h | (intro h; simp_all))) ?_
  refine' WG.y rfl rfl (by decide) (Yl.loadG tab_ok rfl rfl rfl (by first | exact fun _ => rfl | exact fun h => h | (intro h; simp_all)) ?r4 rfl ?h4 ?g4) ?_
  case r4 => apply Rd.addC; (first | exact Rd.blkC 0 rfl)
  case h4 => rfl
  case g4 => first | exact fun _ => trivial | (intro hg; (try simp only [decide_eq_true_eq, decide_eq_false_iff_not, beq_iff_eq, bne_iff_ne, beq_eq_false_iff_ne, bne_eq_false_iff_eq, ne_eq, Bool.or_eq_true, Bool.or_eq_false_iff, Bool.and_eq_true, Bool.and_eq_false_imp, Bool.not_eq_true, Bool.not_eq_true', Bool.not_eq_false', Classical.not_not, Int.not_lt, Int.not_le, gt_iff_lt, ge_iff_le] at hg); (try dsimp only); omega)
  refine WG.y rfl rfl (by decide) (pureV_ok tab_ok rfl (by first | exact fun _ => rfl | exact fun h => h | (intro h; simp_all))) ?_
  refine WG.y rfl rfl (by decide) (Yl.pand rfl rfl rfl (fun _ => rfl) (by intro h1 h2; simp_all <;> omega)) ?_
  refine WG.run tab_ok 1 rfl ?_
  refine WG.y rfl rfl (by decide) (pureV_ok tab_ok rfl (by first | exact fun _ => rfl | exact fun h => h | (intro h; simp_all))) ?_
  refine' WG.y rfl rfl (by decide) (Yl.loadG tab_ok rfl rfl rfl (by first | exact fun _ => rfl | exact fun h => h | (intro h; simp_all)) ?r5 rfl ?h5 ?g5) ?_
  case r5 => apply Rd.addC; (first | exact Rd.blkC 0 rfl)
  case h5 => rfl
  case g5 => first | exact fun _ => trivial | (intro hg; (try simp only [decide_eq_true_eq, decide_eq_false_iff_not, beq_iff_eq, bne_iff_ne, beq_eq_false_iff_ne, bne_eq_false_iff_eq, ne_eq, Bool.or_eq_true, Bool.or_eq_false_iff, Bool.and_eq_true, Bool.and_eq_false_imp, Bool.not_eq_true, Bool.not_eq_true', Bool.not_eq_false', Classical.not_not, Int.not_lt, Int.not_le, gt_iff_lt, ge_iff_le] at hg); (try dsimp only); omega)
  refine WG.callV en71 rfl rfl (by decide) (CallOp.mk' rfl rfl rfl rfl) (by first | exact fun _ => rfl | exact fun h => h | (intro h; simp_all)) (fun hg => Size_V hx.1) ?_
  refine WG.y rfl rfl (by decide) (pureV_ok tab_ok rfl (by first | exact fun _ => rfl | exact fun h => h | (intro h; simp_all))) ?_
  refine' WG.y rfl rfl (by decide) (Yl.loadG tab_ok rfl rfl rfl (by first | exact fun _ => rfl | exact fun h => h | (intro h; simp_all)) ?r6 rfl ?h6 ?g6) ?_
  case r6 => apply Rd.addC; (first | exact Rd.blkC 0 rfl)
  case h6 => rfl
  case g6 => first | exact fun _ => trivial | (intro hg; (try simp only [decide_eq_true_eq, decide_eq_false_iff_not, beq_iff_eq, bne_iff_ne, beq_eq_false_iff_ne, bne_eq_false_iff_eq, ne_eq, Bool.or_eq_true, Bool.or_eq_false_iff, Bool.and_eq_true, Bool.and_eq_false_imp, Bool.not_eq_true, Bool.not_eq_true', Bool.not_eq_false', Classical.not_not, Int.not_lt, Int.not_le, gt_iff_lt, ge_iff_le] at hg); (try dsimp only); omega)
  refine WG.y rfl rfl (by decide) (Yl.convId tab_ok rfl rfl rfl rfl rfl rfl (by first | exact fun _ => rfl | exact fun h => h | (intro h; simp_all)) (by intro hg; (try simp only [decide_eq_true_eq, decide_eq_false_iff_not, beq_iff_eq, bne_iff_ne, beq_eq_false_iff_ne, bne_eq_false_iff_eq, ne_eq, Bool.or_eq_true, Bool.or_eq_false_iff, Bool.and_eq_true, Bool.and_eq_false_imp, Bool.not_eq_true, Bool.not_eq_true', Bool.not_eq_false', Classical.not_not, Int.not_lt, Int.not_le, gt_iff_lt, ge_iff_le] at hg); (try dsimp only); first | exact u64_id ⟨by omega, by omega⟩ | exact i64_wrap ⟨by omega, by omega⟩)) ?_
  refine WG.callV (v := .int .u64 (Nat.gcd x.1.natAbs x.2.natAbs : Int)) en70 rfl rfl (by decide) (CallOp.mk' rfl rfl rfl rfl) (by first | exact fun _ => rfl | exact fun h => h | (intro h; simp_all)) (fun hg => by
    have h := Divisor_V (R := R) (a := x.1.natAbs) (b := x.2.natAbs) (by omega) (by omega)
    rw [show ((x.2.natAbs : Nat) : Int) = x.2 by (have hd : 1 ≤ x.2 := (by by_cases h9 : x.2 ≥ 1; exact h9; simp [h9] at hg); omega)] at h
    exact h) ?_
  refine WG.y rfl rfl (by decide) (pureV_ok tab_ok rfl (by first | exact fun _ => rfl | exact fun h => h | (intro h; simp_all))) ?_
  refine WG.y rfl rfl (by decide) (Yl.pand rfl rfl rfl (fun _ => rfl) (by intro h1 h2; simp_all <;> omega)) ?_
  refine WG.run tab_ok 1 rfl ?_
  refine WG.nil ?_
  refine WE.nxt ?_
  refine W.ret ?_
  refine WE.subE (E' := E) (by (repeat (first | exact List.Sublist.refl _ | exact List.nil_sublist _ | apply List.Sublist.cons_cons | apply List.Sublist.cons)); done) ?_
  refine WE.retF tab_ok [_] rfl ⟨rfl, trivial⟩ (RLe.refl _) ?_
  exact ⟨congrArg Value.bool (by
    unfold validF MT
    by_cases h1 : 1 ≤ x.2 <;> by_cases h2 : x.2 ≤ 1073741824 <;> by_cases h3 : -1073741824 ≤ x.1 <;> by_cases h4 : x.1 ≤ 1073741824 <;> by_cases h5 : Nat.gcd x.1.natAbs x.2.natAbs = 1 <;> simp [h1, h2, h3, h4, h5] <;> omega), rfl⟩

theorem New01_V {R : Ro} {a b : Int} (ha : InR a) (hb : InR b) : FnV Tryd.prog 36 [.int .i64 a, .int .i64 b] R (frV (newF a b)) := by
  refine Fn.toVS (fun w0 E => ?_)
  refine Fn.enter (n := 48) Tryd.func36 rfl rfl (Nat.le_of_ble_eq_true rfl) rfl ?_
  refine W.seq ?_
  refine W.region _ ?_
  refine WL.ef rfl rfl (by decide) (Ef.alloc tab_ok rfl rfl (fun b4 => ?_))
  refine WG.run tab_ok 1 rfl ?_
  refine WG.nil ?_
  refine WE.nxt ?_
  refine W.seq ?_
  refine W.seq ?_
  refine W.region _ ?_
  refine WG.run tab_ok 2 rfl ?_
  refine WG.nil ?_
  refine WE.nxt ?_
  refine W.condE rfl (fun hc0 => ?_) (fun hc0 => ?_)
  · try dsimp only at hc0
    refine W.seq ?_
    refine W.region _ ?_
    -- build
    refine WG.y rfl rfl (by decide) (Yl.build (parts := []) tab_ok rfl rfl rfl rfl (fun _ => rfl) rfl rfl) ?_
    first | refine WL.efN rfl rfl (Ef.store0 0 tab_ok rfl rfl rfl rfl rfl rfl rfl rfl ?_) | refine WL.efN rfl rfl (Ef.store0 1 tab_ok rfl rfl rfl rfl rfl rfl rfl rfl ?_)
    refine WG.run tab_ok 1 rfl ?_
    refine WG.nil ?_
    refine WE.nxt ?_
    refine W.ret ?_
    refine WE.then_ret ?_
    refine WE.retF tab_ok [_, _] rfl ⟨⟨_, _, _, rfl, rfl, rfl, (Rd.blk 0 rfl), rfl⟩, rfl, trivial⟩ (RLe.refl _) ?_
    exact ⟨by unfold newF; rw [if_pos (by omega)]; rfl, (by (repeat (first | exact List.Sublist.refl _ | exact List.nil_sublist _ | apply List.Sublist.cons_cons | apply List.Sublist.cons)); done)⟩
  · try dsimp only at hc0
    have hg0 : 0 < Nat.gcd a.natAbs b.natAbs := Nat.gcd_pos_of_pos_right _ (by omega)
    have hq1 : 0 ≤ (a.natAbs : Int) / ((Nat.gcd a.natAbs b.natAbs : Nat) : Int) ∧ (a.natAbs : Int) / ((Nat.gcd a.natAbs b.natAbs : Nat) : Int) ≤ a.natAbs := ⟨Int.ediv_nonneg (by omega) (by omega), Int.ediv_le_self _ (by omega)⟩
    have hq2 : 0 ≤ (b.natAbs : Int) / ((Nat.gcd a.natAbs b.natAbs : Nat) : Int) ∧ (b.natAbs : Int) / ((Nat.gcd a.natAbs b.natAbs : Nat) : Int) ≤ b.natAbs := ⟨Int.ediv_nonneg (by omega) (by omega), Int.ediv_le_self _ (by omega)⟩
    refine W.skip ?_
    refine WE.nxt ?_
    refine W.seq ?_
    refine W.region _ ?_
    refine WG.run tab_ok 1 rfl ?_
    refine WG.callV en71 rfl rfl (by decide) (CallOp.mk' rfl rfl rfl rfl) (fun _ => rfl) (fun hg => Size_V ha) ?_
    refine WG.run tab_ok 1 rfl ?_
    refine WG.callV en71 rfl rfl (by decide) (CallOp.mk' rfl rfl rfl rfl) (fun _ => rfl) (fun hg => Size_V hb) ?_
    refine WG.run tab_ok 2 rfl ?_
    refine WG.nil ?_
    refine WE.nxt ?_
    refine W.seq ?_
    refine W.region _ ?_
    refine WG.run tab_ok 2 rfl ?_
    refine WG.callV en70 rfl rfl (by decide) (CallOp.mk' rfl rfl rfl rfl) (fun _ => rfl) (fun hg => Divisor_V (by omega) (by omega)) ?_
    refine WG.run tab_ok 1 rfl ?_
    refine WG.nil ?_
    refine WE.nxt ?_
    refine W.seq ?_
    refine W.regionQ _ mixed (by kernel_rfl) ?_
    refine WG.run tab_ok 2 rfl ?_
    refine WG.y rfl rfl (by decide) (Yl.quoU rfl rfl rfl (fun _ => rfl) (by intro _; constructor <;> (try dsimp only) <;> omega) (by intro _; omega)) ?_
    refine WG.run tab_ok 2 rfl ?_
    refine WG.y rfl rfl (by decide) (Yl.quoU rfl rfl rfl (fun _ => rfl) (by intro _; constructor <;> (try dsimp only) <;> omega) (by intro _; omega)) ?_
    refine WG.run tab_ok 2 rfl ?_
    refine WG.nil ?_
    refine WE.nxt ?_
    refine W.seq ?_
    refine W.seq ?_
    refine W.region _ ?_
    refine WG.run tab_ok 3 rfl ?_
    refine WG.y rfl rfl (by decide) (pureV_ok tab_ok rfl (by first | exact fun _ => rfl | exact fun h => h | (intro h; simp_all))) ?_
    refine WG.y rfl rfl (by decide) (pureV_ok tab_ok rfl (by first | exact fun _ => rfl | exact fun h => h | (intro h; simp_all))) ?_
    refine WG.y rfl rfl (by decide) (Yl.por rfl rfl rfl (fun _ => rfl) (by intro h1 h2; simp_all <;> omega)) ?_
    refine WG.nil ?_
    refine WE.nxt ?_
    refine W.cond rfl (fun hc1 => ?_) (fun hc1 => ?_)
    · try simp only [decide_eq_true_eq, decide_eq_false_iff_not, beq_iff_eq, bne_iff_ne, beq_eq_false_iff_ne, bne_eq_false_iff_eq, ne_eq, Bool.or_eq_true, Bool.or_eq_false_iff, Bool.and_eq_true, Bool.and_eq_false_imp, Bool.not_eq_true, Bool.not_eq_true', Bool.not_eq_false', Classical.not_not, Int.not_lt, Int.not_le, gt_iff_lt, ge_iff_le] at hc1
      refine W.seq ?_
      refine W.region _ ?_
      -- build
      refine WG.y rfl rfl (by decide) (Yl.build (parts := []) tab_ok rfl rfl rfl rfl (fun _ => rfl) rfl rfl) ?_
      first | refine WL.efN rfl rfl (Ef.store0 0 tab_ok rfl rfl rfl rfl rfl rfl rfl rfl ?_) | refine WL.efN rfl rfl (Ef.store0 1 tab_ok rfl rfl rfl rfl rfl rfl rfl rfl ?_)
      refine WG.run tab_ok 1 rfl ?_
      refine WG.nil ?_
      refine WE.nxt ?_
      refine W.ret ?_
      refine WE.then_ret ?_
      refine WE.retF tab_ok [_, _] rfl ⟨⟨_, _, _, rfl, rfl, rfl, (Rd.blk 0 rfl), rfl⟩, rfl, trivial⟩ (RLe.refl _) ?_
      exact ⟨by unfold newF MT; rw [if_neg (by omega), if_pos (by omega)]; rfl, (by (repeat (first | exact List.Sublist.refl _ | exact List.nil_sublist _ | apply List.Sublist.cons_cons | apply List.Sublist.cons)); done)⟩
    · try simp only [decide_eq_true_eq, decide_eq_false_iff_not, beq_iff_eq, bne_iff_ne, beq_eq_false_iff_ne, bne_eq_false_iff_eq, ne_eq, Bool.or_eq_true, Bool.or_eq_false_iff, Bool.and_eq_true, Bool.and_eq_false_imp, Bool.not_eq_true, Bool.not_eq_true', Bool.not_eq_false', Classical.not_not, Int.not_lt, Int.not_le, gt_iff_lt, ge_iff_le] at hc1
      refine W.skip ?_
      refine WE.nxt ?_
      refine W.seq ?_
      refine W.seq ?_
      refine W.region _ ?_
      refine WG.run tab_ok 4 rfl ?_
      refine WG.y rfl rfl (by decide) (Yl.neB tab_ok rfl rfl rfl rfl rfl (fun _ => rfl)) ?_
      refine WG.nil ?_
      refine WE.nxt ?_
      refine W.cond rfl (fun hc2 => ?_) (fun hc2 => ?_)
      · try simp only [decide_eq_true_eq, decide_eq_false_iff_not, beq_iff_eq, bne_iff_ne, beq_eq_false_iff_ne, bne_eq_false_iff_eq, ne_eq, Bool.or_eq_true, Bool.or_eq_false_iff, Bool.and_eq_true, Bool.and_eq_false_imp, Bool.not_eq_true, Bool.not_eq_true', Bool.not_eq_false', Classical.not_not, Int.not_lt, Int.not_le, gt_iff_lt, ge_iff_le] at hc2
        simp at hc2
        refine W.seq ?_
        refine W.region _ ?_
        refine WG.run tab_ok 1 rfl ?_
        refine WG.y rfl rfl (by decide) (Yl.convId tab_ok rfl rfl rfl rfl rfl rfl (fun _ => rfl) (by intro _; (try dsimp only); first | exact u64_id ⟨by omega, by omega⟩ | exact i64_wrap ⟨by omega, by omega⟩)) ?_
        refine WG.y rfl rfl (by decide) (Yl.neg rfl rfl (fun _ => rfl) (by intro _; constructor <;> (try dsimp only) <;> omega)) ?_
        refine WG.run tab_ok 1 rfl ?_
        refine WG.y rfl rfl (by decide) (Yl.convId tab_ok rfl rfl rfl rfl rfl rfl (fun _ => rfl) (by intro _; (try dsimp only); first | exact u64_id ⟨by omega, by omega⟩ | exact i64_wrap ⟨by omega, by omega⟩)) ?_
        -- build
        refine WG.y rfl rfl (by decide) (Yl.build (parts := [(0, .tmp 39), (1, .tmp 41)]) tab_ok rfl rfl rfl rfl (fun _ => rfl) rfl rfl) ?_
        first | refine WL.efN rfl rfl (Ef.store0 0 tab_ok rfl rfl rfl rfl rfl rfl rfl rfl ?_) | refine WL.efN rfl rfl (Ef.store0 1 tab_ok rfl rfl rfl rfl rfl rfl rfl rfl ?_)
        refine WG.run tab_ok 1 rfl ?_
        refine WG.nil ?_
        refine WE.nxt ?_
        refine W.ret ?_
        refine WE.then_ret ?_
        refine WE.retF tab_ok [_, _] rfl ⟨⟨_, _, _, rfl, rfl, rfl, (Rd.blk 0 rfl), rfl⟩, rfl, trivial⟩ (RLe.refl _) ?_
        exact ⟨by unfold newF MT; rw [if_neg (by omega), if_neg (by omega), if_neg (by intro h; have := congrArg (· = true) h; simp at this; omega)]; rfl, (by (repeat (first | exact List.Sublist.refl _ | exact List.nil_sublist _ | apply List.Sublist.cons_cons | apply List.Sublist.cons)); done)⟩
      · try simp only [decide_eq_true_eq, decide_eq_false_iff_not, beq_iff_eq, bne_iff_ne, beq_eq_false_iff_ne, bne_eq_false_iff_eq, ne_eq, Bool.or_eq_true, Bool.or_eq_false_iff, Bool.and_eq_true, Bool.and_eq_false_imp, Bool.not_eq_true, Bool.not_eq_true', Bool.not_eq_false', Classical.not_not, Int.not_lt, Int.not_le, gt_iff_lt, ge_iff_le] at hc2
        simp at hc2
        refine W.skip ?_
        refine WE.nxt ?_
        refine W.seq ?_
        refine W.region _ ?_
        refine WG.run tab_ok 1 rfl ?_
        refine WG.y rfl rfl (by decide) (Yl.convId tab_ok rfl rfl rfl rfl rfl rfl (fun _ => rfl) (by intro _; (try dsimp only); first | exact u64_id ⟨by omega, by omega⟩ | exact i64_wrap ⟨by omega, by omega⟩)) ?_
        refine WG.run tab_ok 1 rfl ?_
        refine WG.y rfl rfl (by decide) (Yl.convId tab_ok rfl rfl rfl rfl rfl rfl (fun _ => rfl) (by intro _; (try dsimp only); first | exact u64_id ⟨by omega, by omega⟩ | exact i64_wrap ⟨by omega, by omega⟩)) ?_
        -- build
        refine WG.y rfl rfl (by decide) (Yl.build (parts := [(0, .tmp 44), (1, .tmp 46)]) tab_ok rfl rfl rfl rfl (fun _ => rfl) rfl rfl) ?_
        first | refine WL.efN rfl rfl (Ef.store0 0 tab_ok rfl rfl rfl rfl rfl rfl rfl rfl ?_) | refine WL.efN rfl rfl (Ef.store0 1 tab_ok rfl rfl rfl rfl rfl rfl rfl rfl ?_)
        refine WG.run tab_ok 1 rfl ?_
        refine WG.nil ?_
        refine WE.nxt ?_
        refine W.ret ?_
        refine WE.retF tab_ok [_, _] rfl ⟨⟨_, _, _, rfl, rfl, rfl, (Rd.blk 0 rfl), rfl⟩, rfl, trivial⟩ (RLe.refl _) ?_
        exact ⟨by unfold newF MT; rw [if_neg (by omega), if_neg (by omega), if_pos (decide_eq_decide.2 (by omega))]; rfl, (by (repeat (first | exact List.Sublist.refl _ | exact List.nil_sublist _ | apply List.Sublist.cons_cons | apply List.Sublist.cons)); done)⟩

theorem Floor01_V {R : Ro} {x : Fr} (hx : InR x.1 ∧ InR x.2) : FnV Tryd.prog 37 [.agg #[.int .i64 x.1, .int .i64 x.2]] R (.int .i64 (floorF x)) := by
  refine Fn.toV (fun w0 E => ?_)
  refine Fn.enter (n := 22) Tryd.func37 rfl rfl (Nat.le_of_ble_eq_true rfl) rfl ?_
  refine W.seq ?_
  refine W.region _ ?_
  refine WL.ef rfl rfl (by decide) (Ef.box rfl rfl (fun b1 => ?_))
  refine WG.run tab_ok 1 rfl ?_
  refine WG.nil ?_
  refine WE.nxt ?_
  refine W.seq ?_
  refine W.seq ?_
  refine W.region _ ?_
  refine' WG.y rfl rfl (by decide) (Yl.load1 tab_ok rfl rfl rfl (fun _ => rfl) ?r1 rfl ?h1) ?_
  case r1 => (first | exact Rd.blk 0 rfl | exact Rd.blk 1 rfl)
  case h1 => rfl
  refine WG.callV en35 rfl rfl (by decide) (CallOp.mk' rfl rfl rfl rfl) (fun _ => rfl) (fun hg => Valid01_V hx) ?_
  refine WG.run tab_ok 1 rfl ?_
  refine WG.nil ?_
  refine WE.nxt ?_
  refine W.cond rfl (fun hc0 => ?_) (fun hc0 => ?_)
  · try simp only [decide_eq_true_eq, decide_eq_false_iff_not, beq_iff_eq, bne_iff_ne, beq_eq_false_iff_ne, bne_eq_false_iff_eq, ne_eq, Bool.or_eq_true, Bool.or_eq_false_iff, Bool.and_eq_true, Bool.and_eq_false_imp, Bool.not_eq_true, Bool.not_eq_true', Bool.not_eq_false', Classical.not_not, Int.not_lt, Int.not_le, gt_iff_lt, ge_iff_le] at hc0
    have hvx : ¬ validF x = true := by simpa using hc0
    refine W.seq ?_
    refine W.region _ ?_
    refine WG.run tab_ok 1 rfl ?_
    refine WG.nil ?_
    refine WE.nxt ?_
    refine W.ret ?_
    refine WE.then_ret ?_
    refine WE.subE (E' := E) (by (repeat (first | exact List.Sublist.refl _ | exact List.nil_sublist _ | apply List.Sublist.cons_cons | apply List.Sublist.cons)); done) ?_
    refine WE.retF tab_ok [_] rfl ⟨rfl, trivial⟩ (RLe.refl _) ?_
    exact ⟨by unfold floorF; rw [if_neg hvx]; rfl, rfl⟩
  · try simp only [decide_eq_true_eq, decide_eq_false_iff_not, beq_iff_eq, bne_iff_ne, beq_eq_false_iff_ne, bne_eq_false_iff_eq, ne_eq, Bool.or_eq_true, Bool.or_eq_false_iff, Bool.and_eq_true, Bool.and_eq_false_imp, Bool.not_eq_true, Bool.not_eq_true', Bool.not_eq_false', Classical.not_not, Int.not_lt, Int.not_le, gt_iff_lt, ge_iff_le] at hc0
    have hvx : validF x = true := by simpa using hc0
    have hv := validF_iff.1 hvx
    have ht := tdiv_in (a := x.1) (b := x.2) (by omega)
    have hp := mul_in (a := x.1.tdiv x.2) (b := x.2) (A := 1073741824) (B := 1073741824) (by omega) (by omega)
    have hl := tdiv_floor (a := x.1) (b := x.2) (by omega)
    refine W.skip ?_
    refine WE.nxt ?_
    refine W.seq ?_
    refine W.region _ ?_
    refine WG.run tab_ok 1 rfl ?_
    refine' WG.y rfl rfl (by decide) (Yl.load1 tab_ok rfl rfl rfl (fun _ => rfl) ?r2 rfl ?h2) ?_
    case r2 => apply Rd.add; (first | exact Rd.blk 0 rfl | exact Rd.blk 1 rfl)
    case h2 => rfl
    refine WG.run tab_ok 1 rfl ?_
    refine' WG.y rfl rfl (by decide) (Yl.load1 tab_ok rfl rfl rfl (fun _ => rfl) ?r3 rfl ?h3) ?_
    case r3 => apply Rd.add; (first | exact Rd.blk 0 rfl | exact Rd.blk 1 rfl)
    case h3 => rfl
    refine WG.y rfl rfl (by decide) (Yl.tdiv rfl rfl rfl (fun _ => rfl) (by intro _; omega) (by intro _; constructor <;> (try dsimp only) <;> omega)) ?_
    refine WG.run tab_ok 1 rfl ?_
    refine WG.nil ?_
    refine WE.nxt ?_
    refine W.seq ?_
    refine W.seq ?_
    refine W.region _ ?_
    refine WG.run tab_ok 1 rfl ?_
    refine' WG.y rfl rfl (by decide) (Yl.load1 tab_ok rfl rfl rfl (fun _ => rfl) ?r4 rfl ?h4) ?_
    case r4 => apply Rd.add; (first | exact Rd.blk 0 rfl | exact Rd.blk 1 rfl)
    case h4 => rfl
    refine WG.run tab_ok 2 rfl ?_
    refine' WG.y rfl rfl (by decide) (Yl.load1 tab_ok rfl rfl rfl (fun _ => rfl) ?r5 rfl ?h5) ?_
    case r5 => apply Rd.add; (first | exact Rd.blk 0 rfl | exact Rd.blk 1 rfl)
    case h5 => rfl
    refine WG.y rfl rfl (by decide) (Yl.mul rfl rfl rfl (fun _ => rfl) (by intro _; constructor <;> (try dsimp only) <;> omega)) ?_
    refine WG.run tab_ok 1 rfl ?_
    refine WG.nil ?_
    refine WE.nxt ?_
    refine W.condD rfl (fun hc1 => ?_) (fun hc1 => ?_)
    · try dsimp only at hc1
      refine W.region _ ?_
      refine WG.run tab_ok 1 rfl ?_
      refine WG.y rfl rfl (by decide) (Yl.sub rfl rfl rfl (fun _ => rfl) (by intro _; constructor <;> (try dsimp only) <;> omega)) ?_
      refine WG.run tab_ok 1 rfl ?_
      refine WG.nil ?_
      refine WE.nxt ?_
      refine W.seq ?_
      refine W.region _ ?_
      refine WG.run tab_ok 2 rfl ?_
      refine WG.nil ?_
      refine WE.nxt ?_
      refine W.ret ?_
      refine WE.subE (E' := E) (by (repeat (first | exact List.Sublist.refl _ | exact List.nil_sublist _ | apply List.Sublist.cons_cons | apply List.Sublist.cons)); done) ?_
      refine WE.retF tab_ok [_] rfl ⟨rfl, trivial⟩ (RLe.refl _) ?_
      exact ⟨by unfold floorF; rw [if_pos hvx, hl, if_pos (by omega)]; rfl, rfl⟩
    · try dsimp only at hc1
      refine W.skip ?_
      refine WE.nxt ?_
      refine W.seq ?_
      refine W.region _ ?_
      refine WG.run tab_ok 2 rfl ?_
      refine WG.nil ?_
      refine WE.nxt ?_
      refine W.ret ?_
      refine WE.subE (E' := E) (by (repeat (first | exact List.Sublist.refl _ | exact List.nil_sublist _ | apply List.Sublist.cons_cons | apply List.Sublist.cons)); done) ?_
      refine WE.retF tab_ok [_] rfl ⟨rfl, trivial⟩ (RLe.refl _) ?_
      exact ⟨by unfold floorF; rw [if_pos hvx, hl, if_neg (by omega)]; rfl, rfl⟩

theorem Ceil01_V {R : Ro} {x : Fr} (hx : InR x.1 ∧ InR x.2) : FnV Tryd.prog 38 [.agg #[.int .i64 x.1, .int .i64 x.2]] R (.int .i64 (ceilF x)) := by
  refine Fn.toV (fun w0 E => ?_)
  refine Fn.enter (n := 22) Tryd.func38 rfl rfl (Nat.le_of_ble_eq_true rfl) rfl ?_
  refine W.seq ?_
  refine W.region _ ?_
  refine WL.ef rfl rfl (by decide) (Ef.box rfl rfl (fun b1 => ?_))
  refine WG.run tab_ok 1 rfl ?_
  refine WG.nil ?_
  refine WE.nxt ?_
  refine W.seq ?_
  refine W.seq ?_
  refine W.region _ ?_
  refine' WG.y rfl rfl (by decide) (Yl.load1 tab_ok rfl rfl rfl (fun _ => rfl) ?r1 rfl ?h1) ?_
  case r1 => (first | exact Rd.blk 0 rfl | exact Rd.blk 1 rfl)
  case h1 => rfl
  refine WG.callV en35 rfl rfl (by decide) (CallOp.mk' rfl rfl rfl rfl) (fun _ => rfl) (fun hg => Valid01_V hx) ?_
  refine WG.run tab_ok 1 rfl ?_
  refine WG.nil ?_
  refine WE.nxt ?_
  refine W.cond rfl (fun hc0 => ?_) (fun hc0 => ?_)
  · try simp only [decide_eq_true_eq, decide_eq_false_iff_not, beq_iff_eq, bne_iff_ne, beq_eq_false_iff_ne, bne_eq_false_iff_eq, ne_eq, Bool.or_eq_true, Bool.or_eq_false_iff, Bool.and_eq_true, Bool.and_eq_false_imp, Bool.not_eq_true, Bool.not_eq_true', Bool.not_eq_false', Classical.not_not, Int.not_lt, Int.not_le, gt_iff_lt, ge_iff_le] at hc0
    have hvx : ¬ validF x = true := by simpa using hc0
    refine W.seq ?_
    refine W.region _ ?_
    refine WG.run tab_ok 1 rfl ?_
    refine WG.nil ?_
    refine WE.nxt ?_
    refine W.ret ?_
    refine WE.then_ret ?_
    refine WE.subE (E' := E) (by (repeat (first | exact List.Sublist.refl _ | exact List.nil_sublist _ | apply List.Sublist.cons_cons | apply List.Sublist.cons)); done) ?_
    refine WE.retF tab_ok [_] rfl ⟨rfl, trivial⟩ (RLe.refl _) ?_
    exact ⟨by unfold ceilF; rw [if_neg hvx]; rfl, rfl⟩
  · try simp only [decide_eq_true_eq, decide_eq_false_iff_not, beq_iff_eq, bne_iff_ne, beq_eq_false_iff_ne, bne_eq_false_iff_eq, ne_eq, Bool.or_eq_true, Bool.or_eq_false_iff, Bool.and_eq_true, Bool.and_eq_false_imp, Bool.not_eq_true, Bool.not_eq_true', Bool.not_eq_false', Classical.not_not, Int.not_lt, Int.not_le, gt_iff_lt, ge_iff_le] at hc0
    have hvx : validF x = true := by simpa using hc0
    have hv := validF_iff.1 hvx
    have ht := tdiv_in (a := x.1) (b := x.2) (by omega)
    have hp := mul_in (a := x.1.tdiv x.2) (b := x.2) (A := 1073741824) (B := 1073741824) (by omega) (by omega)
    have hl := tdiv_ceil (a := x.1) (b := x.2) (by omega)
    refine W.skip ?_
    refine WE.nxt ?_
    refine W.seq ?_
    refine W.region _ ?_
    refine WG.run tab_ok 1 rfl ?_
    refine' WG.y rfl rfl (by decide) (Yl.load1 tab_ok rfl rfl rfl (fun _ => rfl) ?r2 rfl ?h2) ?_
    case r2 => apply Rd.add; (first | exact Rd.blk 0 rfl | exact Rd.blk 1 rfl)
    case h2 => rfl
    refine WG.run tab_ok 1 rfl ?_
    refine' WG.y rfl rfl (by decide) (Yl.load1 tab_ok rfl rfl rfl (fun _ => rfl) ?r3 rfl ?h3) ?_
    case r3 => apply Rd.add; (first | exact Rd.blk 0 rfl | exact Rd.blk 1 rfl)
    case h3 => rfl
    refine WG.y rfl rfl (by decide) (Yl.tdiv rfl rfl rfl (fun _ => rfl) (by intro _; omega) (by intro _; constructor <;> (try dsimp only) <;> omega)) ?_
    refine WG.run tab_ok 1 rfl ?_
    refine WG.nil ?_
    refine WE.nxt ?_
    refine W.seq ?_
    refine W.seq ?_
    refine W.region _ ?_
    refine WG.run tab_ok 1 rfl ?_
    refine' WG.y rfl rfl (by decide) (Yl.load1 tab_ok rfl rfl rfl (fun _ => rfl) ?r4 rfl ?h4) ?_
    case r4 => apply Rd.add; (first | exact Rd.blk 0 rfl | exact Rd.blk 1 rfl)
    case h4 => rfl
    refine WG.run tab_ok 2 rfl ?_
    refine' WG.y rfl rfl (by decide) (Yl.load1 tab_ok rfl rfl rfl (fun _ => rfl) ?r5 rfl ?h5) ?_
    case r5 => apply Rd.add; (first | exact Rd.blk 0 rfl | exact Rd.blk 1 rfl)
    case h5 => rfl
    refine WG.y rfl rfl (by decide) (Yl.mul rfl rfl rfl (fun _ => rfl) (by intro _; constructor <;> (try dsimp only) <;> omega)) ?_
    refine WG.run tab_ok 1 rfl ?_
    refine WG.nil ?_
    refine WE.nxt ?_
    refine W.condD rfl (fun hc1 => ?_) (fun hc1 => ?_)
    · try dsimp only at hc1
      refine W.region _ ?_
      refine WG.run tab_ok 1 rfl ?_
      refine WG.y rfl rfl (by decide) (Yl.add rfl rfl rfl (fun _ => rfl) (by intro _; constructor <;> (try dsimp only) <;> omega)) ?_
      refine WG.run tab_ok 1 rfl ?_
      refine WG.nil ?_
      refine WE.nxt ?_
      refine W.seq ?_
      refine W.region _ ?_
      refine WG.run tab_ok 2 rfl ?_
      refine WG.nil ?_
      refine WE.nxt ?_
      refine W.ret ?_
      refine WE.subE (E' := E) (by (repeat (first | exact List.Sublist.refl _ | exact List.nil_sublist _ | apply List.Sublist.cons_cons | apply List.Sublist.cons)); done) ?_
      refine WE.retF tab_ok [_] rfl ⟨rfl, trivial⟩ (RLe.refl _) ?_
      exact ⟨by unfold ceilF; rw [if_pos hvx, hl, if_pos (by omega)]; rfl, rfl⟩
    · try dsimp only at hc1
      refine W.skip ?_
      refine WE.nxt ?_
      refine W.seq ?_
      refine W.region _ ?_
      refine WG.run tab_ok 2 rfl ?_
      refine WG.nil ?_
      refine WE.nxt ?_
      refine W.ret ?_
      refine WE.subE (E' := E) (by (repeat (first | exact List.Sublist.refl _ | exact List.nil_sublist _ | apply List.Sublist.cons_cons | apply List.Sublist.cons)); done) ?_
      refine WE.retF tab_ok [_] rfl ⟨rfl, trivial⟩ (RLe.refl _) ?_
      exact ⟨by unfold ceilF; rw [if_pos hvx, hl, if_neg (by omega)]; rfl, rfl⟩

end Go.Proofs.YtjacpnojnoompaaDoor

/- Fractions: one that is drawn; and what the functions do, told by rational numbers. No condition. -/
set_option linter.unusedSimpArgs false
set_option linter.unusedVariables false
namespace Go.Proofs.YtjacpnojnoompaaDoor
open Go Go.RowKit Go.Proofs.YtjacpnojnoompaaDoor.K Go.Proofs.YtjacpnojnoompaaDoor.M

theorem Fraction_C {R : Ro} {b : Nat} {a : Option Addr} {cp : Nat} {xs : List Int} {c : Nat} (w0 : World) (ha : RS R 1 encI a xs) {top most : Int} (ht : 0 ≤ top * most ∧ top * most ≤ 1073741824) (hmo : 1 ≤ most ∧ most ≤ 1000) : FnAt Tryd.prog 32 [.pointer (some ⟨b, 0, none⟩), .int .i64 top, .int .i64 most] w0 R (srcE b a cp xs c) (RdPost (frC (ratS top most xs c)) R (srcE b a cp xs (c + 1 + 1))) := by
  intro F
  refine Fn.enter (n := 36) Tryd.func32 rfl rfl (Nat.le_of_ble_eq_true rfl) rfl ?_
  refine W.seq ?_
  refine W.region _ ?_
  refine WL.ef rfl rfl (by decide) (Ef.alloc tab_ok rfl rfl (fun b6 => ?_))
  refine WG.nil ?_
  refine WE.nxt ?_
  refine W.seq ?_
  refine W.region _ ?_
  refine WG.run tab_ok 3 rfl ?_
  refine WG.y rfl rfl (by decide) (Yl.mul rfl rfl rfl (fun _ => rfl) (by intro _; constructor <;> (try dsimp only) <;> omega)) ?_
  refine WG.y rfl rfl (by decide) (Yl.add rfl rfl rfl (fun _ => rfl) (by intro _; constructor <;> (try dsimp only) <;> omega)) ?_
  refine WL.callAt 1 en19 rfl rfl (by decide) (CallOp.mkT rfl rfl rfl rfl) rfl (N_C w0 ha (by constructor <;> omega) _) ?_
  rintro _ _ _ _ - ⟨rfl, rfl, rfl, rfl⟩
  have hm1 := mod_range (nth xs c) (show (1 : Int) ≤ top * most + 1 by omega)
  refine WG.run tab_ok 2 rfl ?_
  refine WL.callAt 1 en19 rfl rfl (by decide) (CallOp.mkT rfl rfl rfl rfl) rfl (N_C w0 ha (by constructor <;> omega) _) ?_
  rintro _ _ _ _ - ⟨rfl, rfl, rfl, rfl⟩
  have hm2 := mod_range (nth xs (c + 1)) (show (1 : Int) ≤ most by omega)
  obtain ⟨A, hA⟩ := Int.eq_ofNat_of_zero_le hm1.1
  rw [hA]
  refine WG.y rfl rfl (by decide) (Yl.add rfl rfl rfl (fun _ => rfl) (by intro _; constructor <;> (try dsimp only) <;> omega)) ?_
  obtain ⟨B, hB⟩ := Int.eq_ofNat_of_zero_le (show 0 ≤ 1 + mod (nth xs (c + 1)) most by omega)
  rw [hB]
  refine WG.run tab_ok 2 rfl ?_
  refine WG.nil ?_
  refine WE.nxt ?_
  refine W.seq ?_
  refine W.region _ ?_
  refine WG.run tab_ok 4 rfl ?_
  refine WG.nil ?_
  refine WE.nxt ?_
  refine W.seq ?_
  refine W.block ?_
  refine W.loopK (β := Nat × Nat) (fun (x, y) => Nat.gcd x y = Nat.gcd A B) (fun (x, y) => [(9, true, .int .i64 (x : Int)), (10, true, .int .i64 (y : Int))]) [6, 7, 8] [_, _, _] [] _ rfl (fun (x, y) => []) (fun (x, y) => y) ((A, B)) (rfl) ⟨rfl, rfl, rfl, rfl, rfl, rfl⟩ (by (repeat (first | exact List.Sublist.refl _ | exact List.nil_sublist _ | apply List.Sublist.cons_cons | apply List.Sublist.cons)); done) ?_
  intro st hst
  obtain ⟨x, y⟩ := st
  dsimp only [zipE, setAll, List.cons_append, List.nil_append, List.set_cons_zero, List.set_cons_succ] at hst ⊢
  
  refine W.seq ?_
  refine W.seq ?_
  refine W.region _ ?_
  refine WG.run tab_ok 2 rfl ?_
  refine WG.nil ?_
  refine WE.nxt ?_
  refine W.condN rfl (fun hc0 => ?_) (fun hc0 => ?_)
  · try dsimp only at hc0
    refine W.skip ?_
    refine WE.nxt ?_
    refine W.block ?_
    refine W.regionQ _ mixed (by kernel_rfl) ?_
    refine WG.run tab_ok 3 rfl ?_
    refine WG.y rfl rfl (by decide) (Yl.rem rfl rfl rfl (fun _ => rfl) (by intro _; (try dsimp only) <;> omega) (by intro _; (try dsimp only) <;> omega)) ?_
    refine WG.run tab_ok 2 rfl ?_
    refine WG.nil ?_
    refine WE.blk _ ?_
    refine WE.again ((y, x % y)) ((gcd_step x y).trans hst) (by dsimp only; exact Nat.mod_lt _ (by omega)) ⟨rfl, rfl, rfl, rfl, rfl, rfl⟩ (RLe.refl _) (by (repeat (first | exact List.Sublist.refl _ | exact List.nil_sublist _ | apply List.Sublist.cons_cons | apply List.Sublist.cons)); done)
  · try dsimp only at hc0
    obtain rfl : y = 0 := by omega
    rw [Nat.gcd_zero_right] at hst
    have hx0 : 0 < x := by rw [hst]; exact Nat.gcd_pos_of_pos_right _ (by omega)
    refine W.exit ?_
    refine WE.then_exit ?_
    refine WE.then_exit ?_
    refine WE.blk_exit ?_
    refine WE.nxt ?_
    refine W.seq ?_
    refine W.regionH _ (ES := []) mixed ?_
    refine WA.take 0 rfl (by kernel_rfl) (by kernel_rfl) (by kernel_rfl) rfl rfl (by decide) (pureV_ok tab_ok rfl (fun _ => rfl)) (by (repeat (first | exact List.Sublist.refl _ | exact List.nil_sublist _ | apply List.Sublist.cons_cons | apply List.Sublist.cons)); done) (by first | exact RLe.refl _ | assumption) ?_
    refine WA.take 1 rfl (by kernel_rfl) (by kernel_rfl) (by kernel_rfl) rfl rfl (by decide) (pureV_ok tab_ok rfl (fun _ => rfl)) (by (repeat (first | exact List.Sublist.refl _ | exact List.nil_sublist _ | apply List.Sublist.cons_cons | apply List.Sublist.cons)); done) (by first | exact RLe.refl _ | assumption) ?_
    refine WA.take 2 rfl (by kernel_rfl) (by kernel_rfl) (by kernel_rfl) rfl rfl (by decide) (Yl.quo rfl rfl rfl (fun _ => rfl) (by intro _; constructor <;> (try dsimp only) <;> omega) (by intro _; omega)) (by (repeat (first | exact List.Sublist.refl _ | exact List.nil_sublist _ | apply List.Sublist.cons_cons | apply List.Sublist.cons)); done) (by first | exact RLe.refl _ | assumption) ?_
    refine WA.take 3 rfl (by kernel_rfl) (by kernel_rfl) (by kernel_rfl) rfl rfl (by decide) (pureV_ok tab_ok rfl (fun _ => rfl)) (by (repeat (first | exact List.Sublist.refl _ | exact List.nil_sublist _ | apply List.Sublist.cons_cons | apply List.Sublist.cons)); done) (by first | exact RLe.refl _ | assumption) ?_
    refine WA.take 4 rfl (by kernel_rfl) (by kernel_rfl) (by kernel_rfl) rfl rfl (by decide) (pureV_ok tab_ok rfl (fun _ => rfl)) (by (repeat (first | exact List.Sublist.refl _ | exact List.nil_sublist _ | apply List.Sublist.cons_cons | apply List.Sublist.cons)); done) (by first | exact RLe.refl _ | assumption) ?_
    refine WA.take 5 rfl (by kernel_rfl) (by kernel_rfl) (by kernel_rfl) rfl rfl (by decide) (Yl.quo rfl rfl rfl (fun _ => rfl) (by intro _; constructor <;> (try dsimp only) <;> omega) (by intro _; omega)) (by (repeat (first | exact List.Sublist.refl _ | exact List.nil_sublist _ | apply List.Sublist.cons_cons | apply List.Sublist.cons)); done) (by first | exact RLe.refl _ | assumption) ?_
    -- build
    refine WA.take 6 rfl (by kernel_rfl) (by kernel_rfl) (by kernel_rfl) rfl rfl (by decide) (Yl.build (parts := [(0, .tmp 31), (1, .tmp 34)]) tab_ok rfl rfl rfl rfl (fun _ => rfl) rfl rfl) (by (repeat (first | exact List.Sublist.refl _ | exact List.nil_sublist _ | apply List.Sublist.cons_cons | apply List.Sublist.cons)); done) (by first | exact RLe.refl _ | assumption) ?_
    first | refine WA.effN 7 rfl (by kernel_rfl) rfl rfl (Ef.store0 0 tab_ok rfl rfl rfl rfl rfl rfl rfl rfl ?_) | refine WA.effN 7 rfl (by kernel_rfl) rfl rfl (Ef.store0 1 tab_ok rfl rfl rfl rfl rfl rfl rfl rfl ?_) | refine WA.effN 7 rfl (by kernel_rfl) rfl rfl (Ef.store0 2 tab_ok rfl rfl rfl rfl rfl rfl rfl rfl ?_)
    refine ⟨by first | exact RLe.refl _ | assumption, (by (repeat (first | exact List.Sublist.refl _ | exact List.nil_sublist _ | apply List.Sublist.cons_cons | apply List.Sublist.cons)); done), ?_⟩
    refine WA.done (by kernel_rfl) ?_
    refine WE.nxt ?_
    refine W.ret ?_
    refine WE.retFS (E' := (srcE b a cp xs (c + 1 + 1) :: F)) (by (repeat (first | exact List.Sublist.refl _ | exact List.nil_sublist _ | apply List.Sublist.cons_cons | apply List.Sublist.cons)); done) tab_ok [_] rfl ⟨⟨_, _, _, rfl, rfl, rfl, ((by first | exact Rd.blk 0 rfl | exact Rd.blk 1 rfl | exact Rd.blk 2 rfl)), rfl⟩, trivial⟩ (RLe.refl _) ?_
    exact ⟨_, [], rfl, by unfold ratS frC; rw [hA, hB, hst]; rfl, rfl, rfl, rfl⟩

theorem inr_frQ {r : Rat} {N D : Nat} (h : InQ r N D) (hN : N ≤ 1073741824) (hD : D ≤ 1073741824) : InR (frQ r).1 ∧ InR (frQ r).2 := by
  obtain ⟨h1, h2⟩ := h
  exact ⟨⟨by show _ ≤ r.num; omega, by show r.num ≤ _; omega⟩, ⟨by show _ ≤ (r.den : Int); omega, by show (r.den : Int) ≤ _; omega⟩⟩
end Go.Proofs.YtjacpnojnoompaaDoor

/- What the library's contracts leave of memory; strings as lists of bytes. No condition. -/
namespace Go.Proofs.YtjacpnojnoompaaDoor.K
open Go Go.RowKit

theorem Mem.belowAll {w0 w w' : World} {R : Ro} {E : List Ent} (h : Mem w0 w R E) (hb : Below w.heap.size w w') : Mem w0 w' R E :=
  ⟨h.below.trans (hb.mono h.below.size), fun b cs hr => by
    obtain ⟨T, fz, h1⟩ := h.ro b cs hr
    exact ⟨T, fz, by rw [hb.block b (h.ro_lt hr)]; exact h1⟩, fun e he => Ent.ok_of_block (h.own e he) (fun b hbk => hb.block b (h.lt he hbk)), h.disj, h.nodup⟩
theorem below_drewN (w : World) (n : Nat) : Below w.heap.size w (w.drewN n) := ⟨rfl, rfl, rfl, Nat.le_refl _, fun _ _ => rfl⟩
theorem FnV.of {P : Program} {f : FuncId} {args : List Value} {R : Ro} {v : Value} (h : ∀ w0 E w, Mem w0 w R E → Calls P f args.toArray w fun e w' => e = .returned v ∧ Below w.heap.size w w') : FnV P f args R v := by
  intro w0 E w hm
  refine (h w0 E w hm).mono ?_
  rintro e w' ⟨rfl, hb⟩
  exact ⟨rfl, hm.belowAll hb⟩
theorem Mem.cell {w0 w : World} {R : Ro} {E : List Ent} (h : Mem w0 w R E) {b : Nat} {v : Value} {rest : List Value} (hr : R b = some (v :: rest)) : w.cell? ⟨b, 0, none⟩ = some v := by
  obtain ⟨T, fz, h1⟩ := h.ro b _ hr
  unfold World.cell?
  simp [h1]
theorem Mem.tabIs {P : Program} {w0 w : World} {R : Ro} {E : List Ent} (h : Mem w0 w R E) {b : Nat} {name : String} {k : IntKind} {zs : List Int} (hg : P.globalNamed name = some b) (hr : R b = some (zs.map fun z => Value.int k z)) : Lib.TabIs P w name k zs := by
  obtain ⟨T, fz, h1⟩ := h.ro b _ hr
  unfold Lib.TabIs World.var?
  simp [hg, h1]
/-- a string of these bytes -/
def str (l : List UInt8) : ByteArray := ⟨l.toArray⟩
theorem str_append (a b : List UInt8) : str a ++ str b = str (a ++ b) := by
  unfold str
  apply ByteArray.ext
  simp
theorem str_inj {a b : List UInt8} (h : str a = str b) : a = b := by
  have := congrArg (fun x : ByteArray => x.data.toList) h
  simpa [str] using this
theorem str_size (a : List UInt8) : (str a).size = a.length := by simp [str, ByteArray.size]
theorem str_of (s : ByteArray) : s = str s.data.toList := by unfold str; apply ByteArray.ext; simp
theorem decDigits_le (u : Nat) : (Lib.decDigits u).length ≤ u + 1 := by
  induction u using Nat.strongRecOn with
  | _ u ih =>
    rw [Lib.decDigits]
    split
    · simp
    · have := ih (u / 10) (by omega)
      simp only [List.length_append, List.length_cons, List.length_nil]
      omega
theorem itoa_le (n : Int) : (Lib.itoa n).length ≤ n.natAbs + 2 := by
  unfold Lib.itoa
  split
  · have := decDigits_le n.natAbs; simp only [List.length_cons]; omega
  · have := decDigits_le n.toNat; omega
end Go.Proofs.YtjacpnojnoompaaDoor.K

/- Numbers as texts: what is written is read back. No condition. -/
namespace Go.Proofs.YtjacpnojnoompaaDoor.M
open Go Go.Proofs.YtjacpnojnoompaaDoor.K

theorem str_list (l : List UInt8) : (str l).data.toList = l := by simp [str]
/-- a digit -/
theorem digit_val {d : Nat} (h : d < 10) : Lib.digitVal (UInt8.ofNat (48 + d)) = some d := by
  unfold Lib.digitVal
  have e : (UInt8.ofNat (48 + d)).toNat = 48 + d := by rw [UInt8.toNat_ofNat']; omega
  rw [e, if_pos (by omega)]
  simp
theorem decFrom_append (a b : List UInt8) (acc : Nat) : Lib.decFrom acc (a ++ b) = (Lib.decFrom acc a).bind fun x => Lib.decFrom x b := by
  induction a generalizing acc with
  | nil => rfl
  | cons x a ih =>
    simp only [List.cons_append, Lib.decFrom]
    split
    · exact ih _
    · rfl
theorem decFrom_dec (u : Nat) : Lib.decFrom 0 (Lib.decDigits u) = some u := by
  induction u using Nat.strongRecOn with
  | _ u ih =>
    rw [Lib.decDigits]
    split
    · rename_i h
      simp only [Lib.decFrom, digit_val h, Nat.zero_mul, Nat.zero_add]
    · rename_i h
      rw [decFrom_append, ih (u / 10) (by omega)]
      simp only [Option.bind_some, Lib.decFrom, digit_val (show u % 10 < 10 by omega)]
      exact congrArg some (by omega)
theorem dec_ne (u : Nat) : Lib.decDigits u ≠ [] := by
  rw [Lib.decDigits]; split <;> simp
/-- a digit's byte lies in 48 .. 57 -/
theorem dec_mem (u : Nat) : ∀ x ∈ Lib.decDigits u, 48 ≤ x.toNat ∧ x.toNat ≤ 57 := by
  induction u using Nat.strongRecOn with
  | _ u ih =>
    intro x hx
    rw [Lib.decDigits] at hx
    have key : ∀ d, d < 10 → (UInt8.ofNat (48 + d)).toNat = 48 + d := fun d hd => by rw [UInt8.toNat_ofNat']; omega
    split at hx
    · rename_i h
      simp only [List.mem_cons, List.not_mem_nil, or_false] at hx
      rw [hx, key u h]; omega
    · rename_i h
      simp only [List.mem_append, List.mem_cons, List.not_mem_nil, or_false] at hx
      rcases hx with hx | hx
      · exact ih _ (by omega) x hx
      · rw [hx, key _ (by omega)]; omega
theorem atoi_itoa (n : Int) : Lib.atoi (Lib.itoa n) = some n := by
  unfold Lib.itoa
  split
  · rename_i h
    have h2 : Lib.decNat (Lib.decDigits n.natAbs) = some n.natAbs := by
      unfold Lib.decNat
      rw [if_neg (by simp [dec_ne]), decFrom_dec]
    simp only [Lib.atoi]
    rw [if_pos (by rfl), h2]
    simp only [Option.map_some]
    exact congrArg some (by omega)
  · rename_i h
    have h2 : Lib.decNat (Lib.decDigits n.toNat) = some n.toNat := by
      unfold Lib.decNat
      rw [if_neg (by simp [dec_ne]), decFrom_dec]
    have hm := dec_mem n.toNat
    have hne := dec_ne n.toNat
    cases hd : Lib.decDigits n.toNat with
    | nil => exact absurd hd hne
    | cons b r =>
      rw [hd] at h2 hm
      have hb := hm b (by simp)
      have e1 : (b == 45) = false := by rw [beq_eq_false_iff_ne]; rintro rfl; exact absurd hb (by decide)
      have e2 : (b == 43) = false := by rw [beq_eq_false_iff_ne]; rintro rfl; exact absurd hb (by decide)
      simp only [Lib.atoi, e1, e2]
      simp only [Bool.false_eq_true, if_false]
      rw [h2]
      simp only [Option.map_some]
      exact congrArg some (by omega)
theorem atoiAll_itoa {n : Int} (hn : -100000000000 ≤ n ∧ n ≤ 100000000000) (hl : (Lib.itoa n).length ≤ 18) : Lib.atoiAll (Lib.itoa n) = .ok n := by
  rw [Lib.atoiAll_short _ hl, atoi_itoa]; rfl
theorem decDigits_len {k : Nat} : ∀ {u : Nat}, u < 10 ^ (k + 1) → (Lib.decDigits u).length ≤ k + 1 := by
  induction k with
  | zero =>
    intro u h
    rw [Lib.decDigits, dif_pos (by omega)]; simp
  | succ k ih =>
    intro u h
    rw [Lib.decDigits]
    split
    · simp
    · have := ih (u := u / 10) (by rw [Nat.pow_succ] at h; omega)
      simp only [List.length_append, List.length_cons, List.length_nil]; omega
theorem itoa_len {n : Int} (hn : -1073741824 ≤ n ∧ n ≤ 1073741824) : (Lib.itoa n).length ≤ 11 := by
  unfold Lib.itoa
  split
  · have := decDigits_len (k := 9) (u := n.natAbs) (by omega); simp only [List.length_cons]; omega
  · have := decDigits_len (k := 9) (u := n.toNat) (by omega); omega
theorem itoa_mem (n : Int) : ∀ x ∈ Lib.itoa n, x ≠ 47 := by
  intro x hx
  unfold Lib.itoa at hx
  split at hx
  · rcases List.mem_cons.1 hx with rfl | hx
    · decide
    · have := dec_mem _ x hx; rintro rfl; exact absurd this (by decide)
  · have := dec_mem _ x hx; rintro rfl; exact absurd this (by decide)
/-- where a byte stands first -/
theorem indexByte_none {l : List UInt8} {c : UInt8} (h : ∀ x ∈ l, x ≠ c) : Lib.indexByte l c = -1 := by
  induction l with
  | nil => rfl
  | cons x l ih =>
    have h1 := h x (by simp)
    have h2 := ih (fun y hy => h y (by simp [hy]))
    unfold Lib.indexByte
    rw [h2]
    simp [h1]
theorem indexByte_at {l : List UInt8} {c : UInt8} (h : ∀ x ∈ l, x ≠ c) (r : List UInt8) : Lib.indexByte (l ++ c :: r) c = (l.length : Int) := by
  induction l with
  | nil => simp [Lib.indexByte]
  | cons x l ih =>
    have h1 := h x (by simp)
    have h2 := ih (fun y hy => h y (by simp [hy]))
    rw [List.cons_append]
    unfold Lib.indexByte
    rw [h2]
    have h3 : ((l.length : Int) == -1) = false := by rw [beq_eq_false_iff_ne]; omega
    simp [h1, h3]
def cutS (s : List UInt8) : List UInt8 × List UInt8 × Bool := Lib.cut s [47]
theorem cutS_none {l : List UInt8} (h : ∀ x ∈ l, x ≠ 47) : cutS l = (l, [], false) := by
  unfold cutS Lib.cut
  rw [Lib.index_one, indexByte_none h, if_neg (by decide)]
theorem cutS_at {l : List UInt8} (h : ∀ x ∈ l, x ≠ 47) (r : List UInt8) : cutS (l ++ 47 :: r) = (l, r, true) := by
  unfold cutS Lib.cut
  rw [Lib.index_one, indexByte_at h, if_pos (by omega)]
  have e : ((l.length : Int)).toNat = l.length := by omega
  rw [e]
  simp
theorem cutS_le (s : List UInt8) : (cutS s).1.length ≤ s.length ∧ (cutS s).2.1.length ≤ s.length := by
  unfold cutS Lib.cut
  split
  · simp only [List.length_take, List.length_drop]; omega
  · simp
def atBad (s : List UInt8) : Bool := match Lib.atoiAll s with | .ok _ => false | _ => true
def atNum (s : List UInt8) : Int := match Lib.atoiAll s with | .ok v => v | _ => 0
theorem atBad_ok {s : List UInt8} {v : Int} (h : Lib.atoiAll s = .ok v) : atBad s = false ∧ atNum s = v := by
  unfold atBad atNum; rw [h]; exact ⟨rfl, rfl⟩
def errV (b : Bool) (t : TypeId) (p : Value) : Value := match b with | true => .iface t p | false => .nilIface
theorem errV_cases (b : Bool) (t : TypeId) (p : Value) : (errV b t p = .nilIface ∧ b = false) ∨ ((∃ u z, errV b t p = .iface u z) ∧ b = true) := by
  cases b
  · exact .inl ⟨rfl, rfl⟩
  · exact .inr ⟨⟨t, p, rfl⟩, rfl⟩
end Go.Proofs.YtjacpnojnoompaaDoor.M

/- The contracts of the library that the walks take, laid at this translation. No condition. -/
namespace Go.Proofs.YtjacpnojnoompaaDoor
open Go.Shelf
def sh_laysC172_ren : Go.Shelf.Ren := ⟨fun | 172 => 68 | 244 => 80 | 245 => 81 | 247 => 88 | 279 => 89 | 280 => 90 | 281 => 91 | 282 => 92 | 287 => 101 | 316 => 102 | 171 => 69 | 205 => 103 | 321 => 111 | 322 => 112 | 243 => 82 | 246 => 93 | 283 => 104 | 284 => 105 | 285 => 106 | 286 => 107 | 129 => 114 | 317 => 113 | 318 => 115 | 319 => 116 | 320 => 117 | 337 => 118 | 338 => 119 | n => n, fun | 9 => 9 | 3 => 3 | 75 => 82 | 76 => 84 | 4 => 4 | 5 => 5 | 167 => 99 | 37 => 30 | 0 => 0 | 85 => 100 | 2 => 2 | 168 => 102 | 53 => 88 | 175 => 109 | 46 => 76 | 210 => 113 | 127 => 93 | 145 => 126 | 143 => 124 | 21 => 21 | 171 => 115 | 173 => 118 | 212 => 128 | 51 => 120 | 20 => 20 | 213 => 129 | 232 => 137 | 233 => 138 | 80 => 86 | n => n, fun | 15 => 1 | 16 => 2 | 17 => 3 | 18 => 6 | 19 => 7 | n => n⟩
theorem sh_laysC172 : Go.Proofs.LaysC.n172 Tryd.prog sh_laysC172_ren := {
  mixed := by kernel_rfl
  f129 := Tryd.func114.trans (congrArg some (by kernel_rfl))
  f171 := Tryd.func69.trans (congrArg some (by kernel_rfl))
  f172 := Tryd.func68.trans (congrArg some (by kernel_rfl))
  f205 := Tryd.func103.trans (congrArg some (by kernel_rfl))
  f243 := Tryd.func82.trans (congrArg some (by kernel_rfl))
  f244 := Tryd.func80.trans (congrArg some (by kernel_rfl))
  f245 := Tryd.func81.trans (congrArg some (by kernel_rfl))
  f246 := Tryd.func93.trans (congrArg some (by kernel_rfl))
  f247 := Tryd.func88.trans (congrArg some (by kernel_rfl))
  f279 := Tryd.func89.trans (congrArg some (by kernel_rfl))
  f280 := Tryd.func90.trans (congrArg some (by kernel_rfl))
  f281 := Tryd.func91.trans (congrArg some (by kernel_rfl))
  f282 := Tryd.func92.trans (congrArg some (by kernel_rfl))
  f283 := Tryd.func104.trans (congrArg some (by kernel_rfl))
  f284 := Tryd.func105.trans (congrArg some (by kernel_rfl))
  f285 := Tryd.func106.trans (congrArg some (by kernel_rfl))
  f286 := Tryd.func107.trans (congrArg some (by kernel_rfl))
  f287 := Tryd.func101.trans (congrArg some (by kernel_rfl))
  f316 := Tryd.func102.trans (congrArg some (by kernel_rfl))
  f317 := Tryd.func113.trans (congrArg some (by kernel_rfl))
  f318 := Tryd.func115.trans (congrArg some (by kernel_rfl))
  f319 := Tryd.func116.trans (congrArg some (by kernel_rfl))
  f320 := Tryd.func117.trans (congrArg some (by kernel_rfl))
  f321 := Tryd.func111.trans (congrArg some (by kernel_rfl))
  f322 := Tryd.func112.trans (congrArg some (by kernel_rfl))
  f337 := Tryd.func118.trans (congrArg some (by kernel_rfl))
  f338 := Tryd.func119.trans (congrArg some (by kernel_rfl))
  t0 := Tryd.underlying0
  a0 := Tryd.isAgg0
  z0 := Tryd.sizeOf0
  v0 := Tryd.zeroValue0
  t2 := Tryd.underlying2
  a2 := Tryd.isAgg2
  z2 := Tryd.sizeOf2
  v2 := Tryd.zeroValue2
  t3 := Tryd.underlying3
  a3 := Tryd.isAgg3
  z3 := Tryd.sizeOf3
  v3 := Tryd.zeroValue3
  t4 := Tryd.underlying4
  a4 := Tryd.isAgg4
  z4 := Tryd.sizeOf4
  v4 := Tryd.zeroValue4
  t5 := Tryd.underlying5
  a5 := Tryd.isAgg5
  z5 := Tryd.sizeOf5
  v5 := Tryd.zeroValue5
  t9 := Tryd.underlying9
  a9 := Tryd.isAgg9
  z9 := Tryd.sizeOf9
  v9 := Tryd.zeroValue9
  t20 := Tryd.underlying20
  a20 := Tryd.isAgg20
  z20 := Tryd.sizeOf20
  v20 := Tryd.zeroValue20
  t21 := Tryd.underlying21
  a21 := Tryd.isAgg21
  z21 := Tryd.sizeOf21
  v21 := Tryd.zeroValue21
  t37 := Tryd.underlying30
  a37 := Tryd.isAgg30
  z37 := Tryd.sizeOf30
  v37 := Tryd.zeroValue30
  t46 := Tryd.underlying76
  a46 := Tryd.isAgg76
  z46 := Tryd.sizeOf76
  v46 := Tryd.zeroValue76
  t51 := Tryd.underlying120
  a51 := Tryd.isAgg120
  z51 := Tryd.sizeOf120
  v51 := Tryd.zeroValue120
  t53 := Tryd.underlying88
  a53 := Tryd.isAgg88
  z53 := Tryd.sizeOf88
  v53 := Tryd.zeroValue88
  t75 := Tryd.underlying82
  a75 := Tryd.isAgg82
  z75 := Tryd.sizeOf82
  v75 := Tryd.zeroValue82
  t76 := Tryd.underlying84
  a76 := Tryd.isAgg84
  z76 := Tryd.sizeOf84
  v76 := Tryd.zeroValue84
  t85 := Tryd.underlying100
  a85 := Tryd.isAgg100
  z85 := Tryd.sizeOf100
  v85 := Tryd.zeroValue100
  t127 := Tryd.underlying93
  a127 := Tryd.isAgg93
  z127 := Tryd.sizeOf93
  v127 := Tryd.zeroValue93
  t143 := Tryd.underlying124
  a143 := Tryd.isAgg124
  z143 := Tryd.sizeOf124
  v143 := Tryd.zeroValue124
  t145 := Tryd.underlying126
  a145 := Tryd.isAgg126
  z145 := Tryd.sizeOf126
  v145 := Tryd.zeroValue126
  t167 := Tryd.underlying99
  a167 := Tryd.isAgg99
  z167 := Tryd.sizeOf99
  v167 := Tryd.zeroValue99
  t168 := Tryd.underlying102
  a168 := Tryd.isAgg102
  z168 := Tryd.sizeOf102
  v168 := Tryd.zeroValue102
  t171 := Tryd.underlying115
  a171 := Tryd.isAgg115
  z171 := Tryd.sizeOf115
  v171 := Tryd.zeroValue115
  t173 := Tryd.underlying118
  a173 := Tryd.isAgg118
  z173 := Tryd.sizeOf118
  v173 := Tryd.zeroValue118
  t175 := Tryd.underlying109
  a175 := Tryd.isAgg109
  z175 := Tryd.sizeOf109
  v175 := Tryd.zeroValue109
  t210 := Tryd.underlying113
  a210 := Tryd.isAgg113
  z210 := Tryd.sizeOf113
  v210 := Tryd.zeroValue113
  t212 := Tryd.underlying128
  a212 := Tryd.isAgg128
  z212 := Tryd.sizeOf128
  v212 := Tryd.zeroValue128
  t213 := Tryd.underlying129
  a213 := Tryd.isAgg129
  z213 := Tryd.sizeOf129
  t232 := Tryd.underlying137
  a232 := Tryd.isAgg137
  z232 := Tryd.sizeOf137
  v232 := Tryd.zeroValue137
  t233 := Tryd.underlying138
  a233 := Tryd.isAgg138
  z233 := Tryd.sizeOf138
  v233 := Tryd.zeroValue138
  g15 := by kernel_rfl
  g16 := by kernel_rfl
  g17 := by kernel_rfl
  g18 := by kernel_rfl
  g19 := by kernel_rfl
  t80 := Tryd.underlying86
  a80 := Tryd.isAgg86
  z80 := Tryd.sizeOf86
  v80 := Tryd.zeroValue86
  i0 := by kernel_rfl
  i2 := by kernel_rfl
  i3 := by kernel_rfl
  i4 := by kernel_rfl
  i5 := by kernel_rfl
  i9 := by kernel_rfl
  i20 := by kernel_rfl
  i21 := by kernel_rfl
  i37 := by kernel_rfl
  i46 := by kernel_rfl
  i51 := by kernel_rfl
  i53 := by kernel_rfl
  i75 := by kernel_rfl
  i76 := by kernel_rfl
  i80 := by kernel_rfl
  i85 := by kernel_rfl
  i127 := by kernel_rfl
  i143 := by kernel_rfl
  i145 := by kernel_rfl
  i167 := by kernel_rfl
  i168 := by kernel_rfl
  i171 := by kernel_rfl
  i173 := by kernel_rfl
  i175 := by kernel_rfl
  i210 := by kernel_rfl
  i212 := by kernel_rfl
  i232 := by kernel_rfl
  i233 := by kernel_rfl
  m15 := by kernel_rfl
  m16 := by kernel_rfl
  m17 := by kernel_rfl
  m18 := by kernel_rfl
  m19 := by kernel_rfl
  c0 := by kernel_rfl
  c2 := by kernel_rfl
  c3 := by kernel_rfl
  c4 := by kernel_rfl
  c5 := by kernel_rfl
  c9 := by kernel_rfl
  c20 := by kernel_rfl
  c21 := by kernel_rfl
  c37 := by kernel_rfl
  c46 := by kernel_rfl
  c51 := by kernel_rfl
  c53 := by kernel_rfl
  c75 := by kernel_rfl
  c76 := by kernel_rfl
  c80 := by kernel_rfl
  c85 := by kernel_rfl
  c127 := by kernel_rfl
  c143 := by kernel_rfl
  c145 := by kernel_rfl
  c167 := by kernel_rfl
  c168 := by kernel_rfl
  c171 := by kernel_rfl
  c173 := by kernel_rfl
  c175 := by kernel_rfl
  c210 := by kernel_rfl
  c212 := by kernel_rfl
  c213 := by kernel_rfl
  c232 := by kernel_rfl
  c233 := by kernel_rfl }
open Go.RowKit in
theorem sh_strconv_Atoi_ok (s : ByteArray) (hmax : s.size ≤ 9223372036854775806) (v : Int) (h : Lib.atoiAll s.data.toList = .ok v) (w : World) :
    Calls Tryd.prog 68 #[.string s] w fun e w' => e = .returned (.tuple #[.int .i64 v, .nilIface]) ∧ (w' = w ∨ ∃ t, w' = Lib.bytesWorld w 5 t) := Any.strconv_Atoi_ok sh_laysC172 s hmax v h w
open Go.RowKit in
theorem sh_strconv_Atoi_syntax (s : ByteArray) (hlim : s.size ≤ 281474976710656) (h : Lib.atoiAll s.data.toList = (Lib.NumEnd.ofOption none)) (ev : Value) (w : World) (hv : w.cell? ⟨1, 0, none⟩ = some ev) (hev : ev = .nilIface ∨ ∃ te pe, ev = .iface te pe) :
    Calls Tryd.prog 68 #[.string s] w fun e w' => ∃ N, e = .returned (.tuple #[.int .i64 (0), .iface 102 (.pointer (some ⟨N, 0, none⟩))]) ∧ w.heap.size ≤ N ∧ w'.heap[N]? = some (.cells #[.string ⟨#[65, 116, 111, 105]⟩, .string s, ev] 113 (0, 0)) ∧ Below w.heap.size w w' := Any.strconv_Atoi_syntax sh_laysC172 s hlim h ev w hv hev
open Go.RowKit in
theorem sh_strconv_Atoi_range (s : ByteArray) (hlim : s.size ≤ 281474976710656) (h : Lib.atoiAll s.data.toList = .range) (ev : Value) (w : World) (hv : w.cell? ⟨2, 0, none⟩ = some ev) (hev : ev = .nilIface ∨ ∃ te pe, ev = .iface te pe) :
    Calls Tryd.prog 68 #[.string s] w fun e w' => ∃ N, e = .returned (.tuple #[.int .i64 (Lib.atoiSat s.data.toList), .iface 102 (.pointer (some ⟨N, 0, none⟩))]) ∧ w.heap.size ≤ N ∧ w'.heap[N]? = some (.cells #[.string ⟨#[65, 116, 111, 105]⟩, .string s, ev] 113 (0, 0)) ∧ Below w.heap.size w w' := Any.strconv_Atoi_range sh_laysC172 s hlim h ev w hv hev
end Go.Proofs.YtjacpnojnoompaaDoor

/- The contracts of the library that the walks take, laid at this translation. No condition. -/
namespace Go.Proofs.YtjacpnojnoompaaDoor
open Go.Shelf
def sh_lays172_ren : Go.Shelf.Ren := ⟨fun | 172 => 68 | 244 => 80 | 245 => 81 | 247 => 88 | 279 => 89 | 280 => 90 | 281 => 91 | 282 => 92 | 287 => 101 | 316 => 102 | 171 => 69 | 205 => 103 | 321 => 111 | 322 => 112 | 243 => 82 | 246 => 93 | 283 => 104 | 284 => 105 | 285 => 106 | 286 => 107 | 129 => 114 | 317 => 113 | 318 => 115 | 319 => 116 | 320 => 117 | 337 => 118 | 338 => 119 | n => n, fun | 9 => 9 | 3 => 3 | 75 => 82 | 76 => 84 | 4 => 4 | 5 => 5 | 167 => 99 | 37 => 30 | 0 => 0 | 85 => 100 | 2 => 2 | 168 => 102 | 53 => 88 | 175 => 109 | 46 => 76 | 210 => 113 | 127 => 93 | 145 => 126 | 143 => 124 | 21 => 21 | 171 => 115 | 173 => 118 | 212 => 128 | 51 => 120 | 20 => 20 | 213 => 129 | 232 => 137 | 233 => 138 | 80 => 86 | n => n, fun | 15 => 1 | 16 => 2 | 17 => 3 | 18 => 6 | 19 => 7 | n => n⟩
theorem sh_lays172 : Go.Proofs.Lays.n172 Tryd.prog sh_lays172_ren := {
  mixed := by kernel_rfl
  f129 := Tryd.func114.trans (congrArg some (by kernel_rfl))
  f171 := Tryd.func69.trans (congrArg some (by kernel_rfl))
  f172 := Tryd.func68.trans (congrArg some (by kernel_rfl))
  f205 := Tryd.func103.trans (congrArg some (by kernel_rfl))
  f243 := Tryd.func82.trans (congrArg some (by kernel_rfl))
  f244 := Tryd.func80.trans (congrArg some (by kernel_rfl))
  f245 := Tryd.func81.trans (congrArg some (by kernel_rfl))
  f246 := Tryd.func93.trans (congrArg some (by kernel_rfl))
  f247 := Tryd.func88.trans (congrArg some (by kernel_rfl))
  f279 := Tryd.func89.trans (congrArg some (by kernel_rfl))
  f280 := Tryd.func90.trans (congrArg some (by kernel_rfl))
  f281 := Tryd.func91.trans (congrArg some (by kernel_rfl))
  f282 := Tryd.func92.trans (congrArg some (by kernel_rfl))
  f283 := Tryd.func104.trans (congrArg some (by kernel_rfl))
  f284 := Tryd.func105.trans (congrArg some (by kernel_rfl))
  f285 := Tryd.func106.trans (congrArg some (by kernel_rfl))
  f286 := Tryd.func107.trans (congrArg some (by kernel_rfl))
  f287 := Tryd.func101.trans (congrArg some (by kernel_rfl))
  f316 := Tryd.func102.trans (congrArg some (by kernel_rfl))
  f317 := Tryd.func113.trans (congrArg some (by kernel_rfl))
  f318 := Tryd.func115.trans (congrArg some (by kernel_rfl))
  f319 := Tryd.func116.trans (congrArg some (by kernel_rfl))
  f320 := Tryd.func117.trans (congrArg some (by kernel_rfl))
  f321 := Tryd.func111.trans (congrArg some (by kernel_rfl))
  f322 := Tryd.func112.trans (congrArg some (by kernel_rfl))
  f337 := Tryd.func118.trans (congrArg some (by kernel_rfl))
  f338 := Tryd.func119.trans (congrArg some (by kernel_rfl))
  t0 := Tryd.underlying0
  a0 := Tryd.isAgg0
  z0 := Tryd.sizeOf0
  v0 := Tryd.zeroValue0
  t2 := Tryd.underlying2
  a2 := Tryd.isAgg2
  z2 := Tryd.sizeOf2
  v2 := Tryd.zeroValue2
  t3 := Tryd.underlying3
  a3 := Tryd.isAgg3
  z3 := Tryd.sizeOf3
  v3 := Tryd.zeroValue3
  t4 := Tryd.underlying4
  a4 := Tryd.isAgg4
  z4 := Tryd.sizeOf4
  v4 := Tryd.zeroValue4
  t5 := Tryd.underlying5
  a5 := Tryd.isAgg5
  z5 := Tryd.sizeOf5
  v5 := Tryd.zeroValue5
  t9 := Tryd.underlying9
  a9 := Tryd.isAgg9
  z9 := Tryd.sizeOf9
  v9 := Tryd.zeroValue9
  t20 := Tryd.underlying20
  a20 := Tryd.isAgg20
  z20 := Tryd.sizeOf20
  v20 := Tryd.zeroValue20
  t21 := Tryd.underlying21
  a21 := Tryd.isAgg21
  z21 := Tryd.sizeOf21
  v21 := Tryd.zeroValue21
  t37 := Tryd.underlying30
  a37 := Tryd.isAgg30
  z37 := Tryd.sizeOf30
  v37 := Tryd.zeroValue30
  t46 := Tryd.underlying76
  a46 := Tryd.isAgg76
  z46 := Tryd.sizeOf76
  v46 := Tryd.zeroValue76
  t51 := Tryd.underlying120
  a51 := Tryd.isAgg120
  z51 := Tryd.sizeOf120
  v51 := Tryd.zeroValue120
  t53 := Tryd.underlying88
  a53 := Tryd.isAgg88
  z53 := Tryd.sizeOf88
  v53 := Tryd.zeroValue88
  t75 := Tryd.underlying82
  a75 := Tryd.isAgg82
  z75 := Tryd.sizeOf82
  v75 := Tryd.zeroValue82
  t76 := Tryd.underlying84
  a76 := Tryd.isAgg84
  z76 := Tryd.sizeOf84
  v76 := Tryd.zeroValue84
  t85 := Tryd.underlying100
  a85 := Tryd.isAgg100
  z85 := Tryd.sizeOf100
  v85 := Tryd.zeroValue100
  t127 := Tryd.underlying93
  a127 := Tryd.isAgg93
  z127 := Tryd.sizeOf93
  v127 := Tryd.zeroValue93
  t143 := Tryd.underlying124
  a143 := Tryd.isAgg124
  z143 := Tryd.sizeOf124
  v143 := Tryd.zeroValue124
  t145 := Tryd.underlying126
  a145 := Tryd.isAgg126
  z145 := Tryd.sizeOf126
  v145 := Tryd.zeroValue126
  t167 := Tryd.underlying99
  a167 := Tryd.isAgg99
  z167 := Tryd.sizeOf99
  v167 := Tryd.zeroValue99
  t168 := Tryd.underlying102
  a168 := Tryd.isAgg102
  z168 := Tryd.sizeOf102
  v168 := Tryd.zeroValue102
  t171 := Tryd.underlying115
  a171 := Tryd.isAgg115
  z171 := Tryd.sizeOf115
  v171 := Tryd.zeroValue115
  t173 := Tryd.underlying118
  a173 := Tryd.isAgg118
  z173 := Tryd.sizeOf118
  v173 := Tryd.zeroValue118
  t175 := Tryd.underlying109
  a175 := Tryd.isAgg109
  z175 := Tryd.sizeOf109
  v175 := Tryd.zeroValue109
  t210 := Tryd.underlying113
  a210 := Tryd.isAgg113
  z210 := Tryd.sizeOf113
  v210 := Tryd.zeroValue113
  t212 := Tryd.underlying128
  a212 := Tryd.isAgg128
  z212 := Tryd.sizeOf128
  v212 := Tryd.zeroValue128
  t213 := Tryd.underlying129
  a213 := Tryd.isAgg129
  z213 := Tryd.sizeOf129
  t232 := Tryd.underlying137
  a232 := Tryd.isAgg137
  z232 := Tryd.sizeOf137
  v232 := Tryd.zeroValue137
  t233 := Tryd.underlying138
  a233 := Tryd.isAgg138
  z233 := Tryd.sizeOf138
  v233 := Tryd.zeroValue138
  g15 := by kernel_rfl
  g16 := by kernel_rfl
  g17 := by kernel_rfl
  g18 := by kernel_rfl
  g19 := by kernel_rfl }
open Go.RowKit in
theorem sh_strconv_Atoi (s : ByteArray) (n : Int) (hl : s.size ≤ 18) (h : Lib.atoi s.data.toList = some n) (w : World) :
    Calls Tryd.prog 68 #[.string s] w fun e w' => e = .returned (.tuple #[.int .i64 n, .nilIface]) ∧ ∃ t, w' = Lib.bytesWorld w 5 t := Any.strconv_Atoi sh_lays172 s n hl h w
def sh_laysM171_ren : Go.Shelf.Ren := ⟨fun | 171 => 69 | 243 => 82 | 246 => 93 | 283 => 104 | 284 => 105 | 285 => 106 | 286 => 107 | 129 => 114 | 317 => 113 | 318 => 115 | 319 => 116 | 320 => 117 | 337 => 118 | 338 => 119 | n => n, fun | 3 => 3 | 9 => 9 | 2 => 2 | 4 => 4 | 171 => 115 | 0 => 0 | 53 => 88 | 37 => 30 | 5 => 5 | 173 => 118 | 212 => 128 | 51 => 120 | 20 => 20 | 213 => 129 | 46 => 76 | 232 => 137 | 233 => 138 | n => n, fun | 17 => 3 | 18 => 6 | 19 => 7 | n => n⟩
theorem sh_laysM171 : Go.Proofs.LaysM.n171 Tryd.prog sh_laysM171_ren := {
  mixed := by kernel_rfl
  f129 := Tryd.func114.trans (congrArg some (by kernel_rfl))
  f171 := Tryd.func69.trans (congrArg some (by kernel_rfl))
  f243 := Tryd.func82.trans (congrArg some (by kernel_rfl))
  f246 := Tryd.func93.trans (congrArg some (by kernel_rfl))
  f283 := Tryd.func104.trans (congrArg some (by kernel_rfl))
  f284 := Tryd.func105.trans (congrArg some (by kernel_rfl))
  f285 := Tryd.func106.trans (congrArg some (by kernel_rfl))
  f286 := Tryd.func107.trans (congrArg some (by kernel_rfl))
  f317 := Tryd.func113.trans (congrArg some (by kernel_rfl))
  f318 := Tryd.func115.trans (congrArg some (by kernel_rfl))
  f319 := Tryd.func116.trans (congrArg some (by kernel_rfl))
  f320 := Tryd.func117.trans (congrArg some (by kernel_rfl))
  f337 := Tryd.func118.trans (congrArg some (by kernel_rfl))
  f338 := Tryd.func119.trans (congrArg some (by kernel_rfl))
  t0 := Tryd.underlying0
  a0 := Tryd.isAgg0
  z0 := Tryd.sizeOf0
  v0 := Tryd.zeroValue0
  t2 := Tryd.underlying2
  a2 := Tryd.isAgg2
  z2 := Tryd.sizeOf2
  v2 := Tryd.zeroValue2
  t3 := Tryd.underlying3
  a3 := Tryd.isAgg3
  z3 := Tryd.sizeOf3
  v3 := Tryd.zeroValue3
  t4 := Tryd.underlying4
  a4 := Tryd.isAgg4
  z4 := Tryd.sizeOf4
  v4 := Tryd.zeroValue4
  t5 := Tryd.underlying5
  a5 := Tryd.isAgg5
  z5 := Tryd.sizeOf5
  v5 := Tryd.zeroValue5
  t9 := Tryd.underlying9
  a9 := Tryd.isAgg9
  z9 := Tryd.sizeOf9
  v9 := Tryd.zeroValue9
  t20 := Tryd.underlying20
  a20 := Tryd.isAgg20
  z20 := Tryd.sizeOf20
  v20 := Tryd.zeroValue20
  t37 := Tryd.underlying30
  a37 := Tryd.isAgg30
  z37 := Tryd.sizeOf30
  v37 := Tryd.zeroValue30
  t46 := Tryd.underlying76
  a46 := Tryd.isAgg76
  z46 := Tryd.sizeOf76
  v46 := Tryd.zeroValue76
  t51 := Tryd.underlying120
  a51 := Tryd.isAgg120
  z51 := Tryd.sizeOf120
  v51 := Tryd.zeroValue120
  t53 := Tryd.underlying88
  a53 := Tryd.isAgg88
  z53 := Tryd.sizeOf88
  v53 := Tryd.zeroValue88
  t171 := Tryd.underlying115
  a171 := Tryd.isAgg115
  z171 := Tryd.sizeOf115
  v171 := Tryd.zeroValue115
  t173 := Tryd.underlying118
  a173 := Tryd.isAgg118
  z173 := Tryd.sizeOf118
  v173 := Tryd.zeroValue118
  t212 := Tryd.underlying128
  a212 := Tryd.isAgg128
  z212 := Tryd.sizeOf128
  v212 := Tryd.zeroValue128
  t213 := Tryd.underlying129
  a213 := Tryd.isAgg129
  z213 := Tryd.sizeOf129
  t232 := Tryd.underlying137
  a232 := Tryd.isAgg137
  z232 := Tryd.sizeOf137
  v232 := Tryd.zeroValue137
  t233 := Tryd.underlying138
  a233 := Tryd.isAgg138
  z233 := Tryd.sizeOf138
  v233 := Tryd.zeroValue138
  g17 := by kernel_rfl
  g18 := by kernel_rfl
  g19 := by kernel_rfl
  i0 := by kernel_rfl
  i2 := by kernel_rfl
  i3 := by kernel_rfl
  i4 := by kernel_rfl
  i5 := by kernel_rfl
  i9 := by kernel_rfl
  i20 := by kernel_rfl
  i37 := by kernel_rfl
  i46 := by kernel_rfl
  i51 := by kernel_rfl
  i53 := by kernel_rfl
  i171 := by kernel_rfl
  i173 := by kernel_rfl
  i212 := by kernel_rfl
  i232 := by kernel_rfl
  i233 := by kernel_rfl
  m17 := by kernel_rfl
  m18 := by kernel_rfl
  m19 := by kernel_rfl }
open Go.RowKit Go.Sort Go.Lib in
theorem sh_strconv_Itoa (n : Int) (h0 : -9223372036854775808 ≤ n) (h1 : n ≤ 9223372036854775807) (w : World) (htab : Lib.TabIs Tryd.prog w "internal/strconv.uint64pow10" .u64 Lib.pow10Tab) :
    Calls Tryd.prog 69 #[.int .i64 n] w fun e w' => e = .returned (.string ⟨(Lib.itoa n).toArray⟩) ∧ ∃ k os, w' = grow (w.drewN k) os := Any.strconv_Itoa sh_laysM171 n h0 h1 w htab
def sh_lays171_ren : Go.Shelf.Ren := ⟨fun | 171 => 69 | 243 => 82 | 246 => 93 | 283 => 104 | 284 => 105 | 285 => 106 | 286 => 107 | 129 => 114 | 317 => 113 | 318 => 115 | 319 => 116 | 320 => 117 | 337 => 118 | 338 => 119 | n => n, fun | 3 => 3 | 9 => 9 | 2 => 2 | 4 => 4 | 171 => 115 | 0 => 0 | 53 => 88 | 37 => 30 | 5 => 5 | 173 => 118 | 212 => 128 | 51 => 120 | 20 => 20 | 213 => 129 | 46 => 76 | 232 => 137 | 233 => 138 | n => n, fun | 17 => 3 | 18 => 6 | 19 => 7 | n => n⟩
open Go.RowKit Go.Sort Go.Lib in
def sh_lays145_ren : Go.Shelf.Ren := ⟨fun | 145 => 57 | 220 => 77 | 219 => 83 | 217 => 94 | 225 => 95 | 224 => 96 | 267 => 97 | 266 => 108 | 314 => 109 | n => n, fun | 9 => 9 | 4 => 4 | 59 => 70 | 3 => 3 | 5 => 5 | 46 => 76 | 146 => 121 | 51 => 120 | n => n, fun | 1 => 0 | n => n⟩
theorem sh_lays145 : Go.Proofs.Lays.n145 Tryd.prog sh_lays145_ren := {
  mixed := by kernel_rfl
  f145 := Tryd.func57.trans (congrArg some (by kernel_rfl))
  f217 := Tryd.func94.trans (congrArg some (by kernel_rfl))
  f219 := Tryd.func83.trans (congrArg some (by kernel_rfl))
  f220 := Tryd.func77.trans (congrArg some (by kernel_rfl))
  f224 := Tryd.func96.trans (congrArg some (by kernel_rfl))
  f225 := Tryd.func95.trans (congrArg some (by kernel_rfl))
  f266 := Tryd.func108.trans (congrArg some (by kernel_rfl))
  f267 := Tryd.func97.trans (congrArg some (by kernel_rfl))
  f314 := Tryd.func109.trans (congrArg some (by kernel_rfl))
  t3 := Tryd.underlying3
  a3 := Tryd.isAgg3
  z3 := Tryd.sizeOf3
  v3 := Tryd.zeroValue3
  t4 := Tryd.underlying4
  a4 := Tryd.isAgg4
  z4 := Tryd.sizeOf4
  v4 := Tryd.zeroValue4
  t5 := Tryd.underlying5
  a5 := Tryd.isAgg5
  z5 := Tryd.sizeOf5
  v5 := Tryd.zeroValue5
  t9 := Tryd.underlying9
  a9 := Tryd.isAgg9
  z9 := Tryd.sizeOf9
  v9 := Tryd.zeroValue9
  t46 := Tryd.underlying76
  a46 := Tryd.isAgg76
  z46 := Tryd.sizeOf76
  v46 := Tryd.zeroValue76
  t51 := Tryd.underlying120
  a51 := Tryd.isAgg120
  z51 := Tryd.sizeOf120
  v51 := Tryd.zeroValue120
  t59 := Tryd.underlying70
  a59 := Tryd.isAgg70
  z59 := Tryd.sizeOf70
  v59 := Tryd.zeroValue70
  t146 := Tryd.underlying121
  a146 := Tryd.isAgg121
  z146 := Tryd.sizeOf121
  v146 := Tryd.zeroValue121
  g1 := by kernel_rfl }
open Go.RowKit Go.Lib in
theorem sh_strings_Cut (s sep : ByteArray) (m : Int) (w : World) (hs : s.size < 4294967281) (hm : w.cell? ⟨0, 0, none⟩ = some (.int .i64 m)) :
    Calls Tryd.prog 57 #[.string s, .string sep] w fun e w' => e = .returned (.tuple #[.string ⟨(Lib.cut s.data.toList sep.data.toList).1.toArray⟩, .string ⟨(Lib.cut s.data.toList sep.data.toList).2.1.toArray⟩, .bool (Lib.cut s.data.toList sep.data.toList).2.2]) ∧ ∃ n, w' = w.drewN n := Any.strings_Cut sh_lays145 s sep m w hs hm
end Go.Proofs.YtjacpnojnoompaaDoor

/- Fractions: their texts, and the examples of the chapter. No condition. -/
set_option linter.unusedSimpArgs false
set_option linter.unusedVariables false
namespace Go.Proofs.YtjacpnojnoompaaDoor
open Go Go.RowKit Go.Proofs.YtjacpnojnoompaaDoor.K Go.Proofs.YtjacpnojnoompaaDoor.M

theorem nilI82 : Tryd.prog.underlying 82 = some (.interface (Tryd.prog.methodsAt 82)) := by kernel_rfl
structure Glob (R : Ro) : Prop where
  m : ∃ (m : Int) (rest : List Value), R 0 = some (.int .i64 m :: rest)
  pow : R 3 = some (Lib.pow10Tab.map fun z => Value.int .u64 z)
theorem Glob.mono {R R' : Ro} (h : Glob R) (hR : RLe R R') : Glob R' := ⟨by obtain ⟨m, rest, hm⟩ := h.m; exact ⟨m, rest, hR _ _ hm⟩, hR _ _ h.pow⟩
theorem Itoa_V {R : Ro} (hG : Glob R) {n : Int} (hn : InR n) : FnV Tryd.prog 69 [.int .i64 n] R (.string (str (Lib.itoa n))) := by
  refine FnV.of (fun w0 E w hm => ?_)
  refine (sh_strconv_Itoa n hn.1 hn.2 w (hm.tabIs (by kernel_rfl) hG.pow)).mono ?_
  rintro e w' ⟨rfl, k, os, rfl⟩
  exact ⟨rfl, Lib.below_grow _ w (Nat.le_refl _) k os⟩
theorem Atoi_V {R : Ro} {s : ByteArray} {n : Int} (hl : s.size ≤ 18) (h : Lib.atoi s.data.toList = some n) : FnV Tryd.prog 68 [.string s] R (.tuple #[.int .i64 n, .nilIface]) := by
  refine FnV.of (fun w0 E w hm => ?_)
  refine (sh_strconv_Atoi s n hl h w).mono ?_
  rintro e w' ⟨rfl, t, rfl⟩
  exact ⟨rfl, Lib.bytesWorld_below w _ t⟩
theorem Cut_V {R : Ro} (hG : Glob R) {s sep : ByteArray} (hs : s.size < 4294967281) : FnV Tryd.prog 57 [.string s, .string sep] R (.tuple #[.string (str (Lib.cut s.data.toList sep.data.toList).1), .string (str (Lib.cut s.data.toList sep.data.toList).2.1), .bool (Lib.cut s.data.toList sep.data.toList).2.2]) := by
  obtain ⟨m, rest, hm0⟩ := hG.m
  refine FnV.of (fun w0 E w hm => ?_)
  refine (sh_strings_Cut s sep m w hs (hm.cell hm0)).mono ?_
  rintro e w' ⟨rfl, n, rfl⟩
  exact ⟨rfl, below_drewN w n⟩
def fmtF (x : Fr) : List UInt8 := if validF x = true then Lib.itoa x.1 ++ (if x.2 = 1 then [] else 47 :: Lib.itoa x.2) else []
theorem fmtF_le {x : Fr} (h : validF x = true) : (fmtF x).length ≤ 3000000000 := by
  obtain ⟨h1, h2, h3, h4, _⟩ := validF_iff.1 h
  have a := itoa_le x.1
  have b := itoa_le x.2
  unfold fmtF
  rw [if_pos h]
  split <;> simp only [List.length_append, List.length_cons, List.length_nil] <;> omega

theorem Format01_V {R : Ro} (hG : Glob R) {x : Fr} (hx : InR x.1 ∧ InR x.2) : FnV Tryd.prog 34 [.agg #[.int .i64 x.1, .int .i64 x.2]] R (.string (str (fmtF x))) := by
  refine Fn.toV (fun w0 E => ?_)
  refine Fn.enter (n := 20) Tryd.func34 rfl rfl (Nat.le_of_ble_eq_true rfl) rfl ?_
  refine W.seq ?_
  refine W.region _ ?_
  refine WL.ef rfl rfl (by decide) (Ef.box rfl rfl (fun b1 => ?_))
  refine WG.run tab_ok 1 rfl ?_
  refine WG.nil ?_
  refine WE.nxt ?_
  refine W.seq ?_
  refine W.seq ?_
  refine W.region _ ?_
  refine' WG.y rfl rfl (by decide) (Yl.load1 tab_ok rfl rfl rfl (fun _ => rfl) ?r1 rfl ?h1) ?_
  case r1 => (first | exact Rd.blk 0 rfl | exact Rd.blk 1 rfl)
  case h1 => rfl
  refine WG.callV en35 rfl rfl (by decide) (CallOp.mk' rfl rfl rfl rfl) (fun _ => rfl) (fun hg => Valid01_V hx) ?_
  refine WG.run tab_ok 1 rfl ?_
  refine WG.nil ?_
  refine WE.nxt ?_
  refine W.cond rfl (fun hc0 => ?_) (fun hc0 => ?_)
  · try simp only [decide_eq_true_eq, decide_eq_false_iff_not, beq_iff_eq, bne_iff_ne, beq_eq_false_iff_ne, bne_eq_false_iff_eq, ne_eq, Bool.or_eq_true, Bool.or_eq_false_iff, Bool.and_eq_true, Bool.and_eq_false_imp, Bool.not_eq_true, Bool.not_eq_true', Bool.not_eq_false', Classical.not_not, Int.not_lt, Int.not_le, gt_iff_lt, ge_iff_le] at hc0
    have hvx : ¬ validF x = true := by simpa using hc0
    refine W.seq ?_
    refine W.region _ ?_
    refine WG.run tab_ok 1 rfl ?_
    refine WG.nil ?_
    refine WE.nxt ?_
    refine W.ret ?_
    refine WE.then_ret ?_
    refine WE.subE (E' := E) (by (repeat (first | exact List.Sublist.refl _ | exact List.nil_sublist _ | apply List.Sublist.cons_cons | apply List.Sublist.cons)); done) ?_
    refine WE.retF tab_ok [_] rfl ⟨rfl, trivial⟩ (RLe.refl _) ?_
    exact ⟨by unfold fmtF; rw [if_neg hvx]; rfl, rfl⟩
  · try simp only [decide_eq_true_eq, decide_eq_false_iff_not, beq_iff_eq, bne_iff_ne, beq_eq_false_iff_ne, bne_eq_false_iff_eq, ne_eq, Bool.or_eq_true, Bool.or_eq_false_iff, Bool.and_eq_true, Bool.and_eq_false_imp, Bool.not_eq_true, Bool.not_eq_true', Bool.not_eq_false', Classical.not_not, Int.not_lt, Int.not_le, gt_iff_lt, ge_iff_le] at hc0
    have hvx : validF x = true := by simpa using hc0
    have hv := validF_iff.1 hvx
    have l1 := itoa_le x.1
    have l2 := itoa_le x.2
    have s1 := str_size (Lib.itoa x.1)
    have s2 := str_size (Lib.itoa x.2)
    have s3 : (⟨#[47]⟩ : ByteArray).size = 1 := rfl
    have s4 : ((⟨#[47]⟩ : ByteArray) ++ str (Lib.itoa x.2)).size = 1 + (Lib.itoa x.2).length := by rw [show (⟨#[47]⟩ : ByteArray) = str [47] from rfl, str_append, str_size]; simp; omega
    refine W.skip ?_
    refine WE.nxt ?_
    refine W.seq ?_
    refine W.region _ ?_
    refine WG.run tab_ok 1 rfl ?_
    refine' WG.y rfl rfl (by decide) (Yl.load1 tab_ok rfl rfl rfl (fun _ => rfl) ?r2 rfl ?h2) ?_
    case r2 => apply Rd.add; (first | exact Rd.blk 0 rfl | exact Rd.blk 1 rfl)
    case h2 => rfl
    refine WG.callV en69 rfl rfl (by decide) (CallOp.mk' rfl rfl rfl rfl) (fun _ => rfl) (fun hg => Itoa_V hG (by constructor <;> omega)) ?_
    refine WG.run tab_ok 1 rfl ?_
    refine WG.nil ?_
    refine WE.nxt ?_
    refine W.seq ?_
    refine W.seq ?_
    refine W.region _ ?_
    refine WG.run tab_ok 1 rfl ?_
    refine' WG.y rfl rfl (by decide) (Yl.load1 tab_ok rfl rfl rfl (fun _ => rfl) ?r3 rfl ?h3) ?_
    case r3 => apply Rd.add; (first | exact Rd.blk 0 rfl | exact Rd.blk 1 rfl)
    case h3 => rfl
    refine WG.run tab_ok 1 rfl ?_
    refine WG.nil ?_
    refine WE.nxt ?_
    refine W.condN rfl (fun hc1 => ?_) (fun hc1 => ?_)
    · try dsimp only at hc1
      refine W.region _ ?_
      refine WG.run tab_ok 2 rfl ?_
      refine' WG.y rfl rfl (by decide) (Yl.load1 tab_ok rfl rfl rfl (fun _ => rfl) ?r4 rfl ?h4) ?_
      case r4 => apply Rd.add; (first | exact Rd.blk 0 rfl | exact Rd.blk 1 rfl)
      case h4 => rfl
      refine WG.callV en69 rfl rfl (by decide) (CallOp.mk' rfl rfl rfl rfl) (fun _ => rfl) (fun hg => Itoa_V hG (by constructor <;> omega)) ?_
      refine WG.y rfl rfl (by decide) (Yl.cat rfl rfl rfl (fun _ => rfl) (by intro _; omega)) ?_
      refine WG.y rfl rfl (by decide) (Yl.cat rfl rfl rfl (fun _ => rfl) (by intro _; omega)) ?_
      refine WG.run tab_ok 1 rfl ?_
      refine WG.nil ?_
      refine WE.nxt ?_
      refine W.seq ?_
      refine W.region _ ?_
      refine WG.run tab_ok 2 rfl ?_
      refine WG.nil ?_
      refine WE.nxt ?_
      refine W.ret ?_
      refine WE.subE (E' := E) (by (repeat (first | exact List.Sublist.refl _ | exact List.nil_sublist _ | apply List.Sublist.cons_cons | apply List.Sublist.cons)); done) ?_
      refine WE.retF tab_ok [_] rfl ⟨rfl, trivial⟩ (RLe.refl _) ?_
      exact ⟨by unfold fmtF; rw [if_pos hvx, if_neg (by omega)]; show Value.string (str (Lib.itoa x.1) ++ (str [47] ++ str (Lib.itoa x.2))) = _; rw [str_append, str_append]; rfl, rfl⟩
    · try dsimp only at hc1
      refine W.skip ?_
      refine WE.nxt ?_
      refine W.seq ?_
      refine W.region _ ?_
      refine WG.run tab_ok 2 rfl ?_
      refine WG.nil ?_
      refine WE.nxt ?_
      refine W.ret ?_
      refine WE.subE (E' := E) (by (repeat (first | exact List.Sublist.refl _ | exact List.nil_sublist _ | apply List.Sublist.cons_cons | apply List.Sublist.cons)); done) ?_
      refine WE.retF tab_ok [_] rfl ⟨rfl, trivial⟩ (RLe.refl _) ?_
      exact ⟨by unfold fmtF; rw [if_pos hvx, if_pos (by omega), List.append_nil]; rfl, rfl⟩

theorem Parse42_V {R : Ro} (hG : Glob R) : FnV Tryd.prog 33 [.string ⟨#[52, 47, 50]⟩] R (.tuple #[.agg #[.int .i64 0, .int .i64 0], .int .i64 4]) := by
  refine Fn.toVS (fun w0 E => ?_)
  refine Fn.enter (n := 48) Tryd.func33 rfl rfl (Nat.le_of_ble_eq_true rfl) rfl ?_
  refine W.seq ?_
  refine W.region _ ?_
  refine WL.ef rfl rfl (by decide) (Ef.alloc tab_ok rfl rfl (fun b2 => ?_))
  refine WG.run tab_ok 1 rfl ?_
  refine WG.nil ?_
  refine WE.nxt ?_
  refine W.seq ?_
  refine W.region _ ?_
  refine WG.run tab_ok 1 rfl ?_
  refine WG.callV (v := .tuple #[.string (str [52]), .string (str [50]), .bool true]) en57 rfl rfl (by decide) (CallOp.mk' rfl rfl rfl rfl) (fun _ => rfl) (fun hg => by
    have h := Cut_V (R := R) hG (s := ⟨#[52, 47, 50]⟩) (sep := ⟨#[47]⟩) (by decide)
    rw [show Lib.cut (⟨#[52, 47, 50]⟩ : ByteArray).data.toList (⟨#[47]⟩ : ByteArray).data.toList = ([52], [50], true) from by kernel_rfl] at h
    exact h) ?_
  refine WG.run tab_ok 7 rfl ?_
  refine WG.nil ?_
  refine WE.nxt ?_
  refine W.seq ?_
  refine W.region _ ?_
  -- build
  refine WG.y rfl rfl (by decide) (Yl.build (parts := [(1, .const (.int .i64 1))]) tab_ok rfl rfl rfl rfl (fun _ => rfl) rfl rfl) ?_
  refine WL.ef rfl rfl (by decide) (Ef.alloc tab_ok rfl rfl (fun b7 => ?_))
  first | refine WL.efN rfl rfl (Ef.store0 0 tab_ok rfl rfl rfl rfl rfl rfl rfl rfl ?_) | refine WL.efN rfl rfl (Ef.store0 1 tab_ok rfl rfl rfl rfl rfl rfl rfl rfl ?_) | refine WL.efN rfl rfl (Ef.store0 2 tab_ok rfl rfl rfl rfl rfl rfl rfl rfl ?_) | refine WL.efN rfl rfl (Ef.store0 3 tab_ok rfl rfl rfl rfl rfl rfl rfl rfl ?_) | refine WL.efN rfl rfl (Ef.store0 4 tab_ok rfl rfl rfl rfl rfl rfl rfl rfl ?_)
  refine WG.nil ?_
  refine WE.nxt ?_
  refine W.seq ?_
  refine W.region _ ?_
  refine WG.run tab_ok 1 rfl ?_
  refine WG.callV en68 rfl rfl (by decide) (CallOp.mk' rfl rfl rfl rfl) (fun _ => rfl) (fun hg => Atoi_V (s := str [52]) (n := 4) (by decide) (by kernel_rfl)) ?_
  refine WG.run tab_ok 5 rfl ?_
  refine WG.nil ?_
  refine WE.nxt ?_
  refine W.seq ?_
  refine W.seq ?_
  refine W.region _ ?_
  refine WG.run tab_ok 1 rfl ?_
  refine WG.y rfl rfl (by decide) (Yl.neNilI nilI82 rfl rfl rfl (fun _ => rfl) (by first | exact .inl ⟨rfl, rfl⟩ | exact .inr ⟨⟨_, _, rfl⟩, rfl⟩)) ?_
  refine WG.nil ?_
  refine WE.nxt ?_
  refine W.cond rfl (fun hc0 => ?_) (fun hc0 => ?_)
  · try simp only [decide_eq_true_eq, decide_eq_false_iff_not, beq_iff_eq, bne_iff_ne, beq_eq_false_iff_ne, bne_eq_false_iff_eq, ne_eq, Bool.or_eq_true, Bool.or_eq_false_iff, Bool.and_eq_true, Bool.and_eq_false_imp, Bool.not_eq_true, Bool.not_eq_true', Bool.not_eq_false', Classical.not_not, Int.not_lt, Int.not_le, gt_iff_lt, ge_iff_le] at hc0
    first | done | exact absurd hc0 (by decide) | simp at hc0
  · try simp only [decide_eq_true_eq, decide_eq_false_iff_not, beq_iff_eq, bne_iff_ne, beq_eq_false_iff_ne, bne_eq_false_iff_eq, ne_eq, Bool.or_eq_true, Bool.or_eq_false_iff, Bool.and_eq_true, Bool.and_eq_false_imp, Bool.not_eq_true, Bool.not_eq_true', Bool.not_eq_false', Classical.not_not, Int.not_lt, Int.not_le, gt_iff_lt, ge_iff_le] at hc0
    refine W.skip ?_
    refine WE.nxt ?_
    refine W.seq ?_
    refine W.region _ ?_
    refine WG.run tab_ok 2 rfl ?_
    first | refine WL.efN rfl rfl (Ef.store 0 tab_ok rfl rfl rfl rfl rfl rfl rfl rfl ?_) | refine WL.efN rfl rfl (Ef.store 1 tab_ok rfl rfl rfl rfl rfl rfl rfl rfl ?_) | refine WL.efN rfl rfl (Ef.store 2 tab_ok rfl rfl rfl rfl rfl rfl rfl rfl ?_) | refine WL.efN rfl rfl (Ef.store 3 tab_ok rfl rfl rfl rfl rfl rfl rfl rfl ?_) | refine WL.efN rfl rfl (Ef.store 4 tab_ok rfl rfl rfl rfl rfl rfl rfl rfl ?_)
    refine WG.nil ?_
    refine WE.nxt ?_
    refine W.seq ?_
    refine W.seq ?_
    refine W.region _ ?_
    refine WG.run tab_ok 1 rfl ?_
    refine WG.nil ?_
    refine WE.nxt ?_
    refine W.cond rfl (fun hc1 => ?_) (fun hc1 => ?_)
    · try simp only [decide_eq_true_eq, decide_eq_false_iff_not, beq_iff_eq, bne_iff_ne, beq_eq_false_iff_ne, bne_eq_false_iff_eq, ne_eq, Bool.or_eq_true, Bool.or_eq_false_iff, Bool.and_eq_true, Bool.and_eq_false_imp, Bool.not_eq_true, Bool.not_eq_true', Bool.not_eq_false', Classical.not_not, Int.not_lt, Int.not_le, gt_iff_lt, ge_iff_le] at hc1
      refine W.seq ?_
      refine W.region _ ?_
      refine WG.run tab_ok 1 rfl ?_
      refine WG.callV en68 rfl rfl (by decide) (CallOp.mk' rfl rfl rfl rfl) (fun _ => rfl) (fun hg => Atoi_V (s := str [50]) (n := 2) (by decide) (by kernel_rfl)) ?_
      refine WG.run tab_ok 4 rfl ?_
      first | refine WL.efN rfl rfl (Ef.store 0 tab_ok rfl rfl rfl rfl rfl rfl rfl rfl ?_) | refine WL.efN rfl rfl (Ef.store 1 tab_ok rfl rfl rfl rfl rfl rfl rfl rfl ?_) | refine WL.efN rfl rfl (Ef.store 2 tab_ok rfl rfl rfl rfl rfl rfl rfl rfl ?_) | refine WL.efN rfl rfl (Ef.store 3 tab_ok rfl rfl rfl rfl rfl rfl rfl rfl ?_) | refine WL.efN rfl rfl (Ef.store 4 tab_ok rfl rfl rfl rfl rfl rfl rfl rfl ?_)
      refine WG.run tab_ok 1 rfl ?_
      refine WG.nil ?_
      refine WE.nxt ?_
      refine W.seq ?_
      refine W.region _ ?_
      refine WG.run tab_ok 1 rfl ?_
      refine WG.y rfl rfl (by decide) (Yl.neNilI nilI82 rfl rfl rfl (fun _ => rfl) (by first | exact .inl ⟨rfl, rfl⟩ | exact .inr ⟨⟨_, _, rfl⟩, rfl⟩)) ?_
      refine WG.nil ?_
      refine WE.nxt ?_
      refine W.cond rfl (fun hc2 => ?_) (fun hc2 => ?_)
      · try simp only [decide_eq_true_eq, decide_eq_false_iff_not, beq_iff_eq, bne_iff_ne, beq_eq_false_iff_ne, bne_eq_false_iff_eq, ne_eq, Bool.or_eq_true, Bool.or_eq_false_iff, Bool.and_eq_true, Bool.and_eq_false_imp, Bool.not_eq_true, Bool.not_eq_true', Bool.not_eq_false', Classical.not_not, Int.not_lt, Int.not_le, gt_iff_lt, ge_iff_le] at hc2
        first | done | exact absurd hc2 (by decide) | simp at hc2
      · try simp only [decide_eq_true_eq, decide_eq_false_iff_not, beq_iff_eq, bne_iff_ne, beq_eq_false_iff_ne, bne_eq_false_iff_eq, ne_eq, Bool.or_eq_true, Bool.or_eq_false_iff, Bool.and_eq_true, Bool.and_eq_false_imp, Bool.not_eq_true, Bool.not_eq_true', Bool.not_eq_false', Classical.not_not, Int.not_lt, Int.not_le, gt_iff_lt, ge_iff_le] at hc2
        refine W.skip ?_
        refine WE.nxt ?_
        refine W.seq ?_
        refine W.seq ?_
        refine W.region _ ?_
        refine' WG.y rfl rfl (by decide) (Yl.load1 tab_ok rfl rfl rfl (fun _ => rfl) ?r1 rfl ?h1) ?_
        case r1 => (first | exact Rd.blk 0 rfl | exact Rd.blk 1 rfl | exact Rd.blk 2 rfl | exact Rd.blk 3 rfl | exact Rd.blk 4 rfl)
        case h1 => rfl
        refine WG.callV (v := .bool false) en35 rfl rfl (by decide) (CallOp.mk' rfl rfl rfl rfl) (fun _ => rfl) (fun hg => by
          have h := Valid01_V (R := R) (x := (4, 2)) ⟨by constructor <;> decide, by constructor <;> decide⟩
          rw [show validF (4, 2) = false from by kernel_rfl] at h
          exact h) ?_
        refine WG.run tab_ok 2 rfl ?_
        refine' WG.y rfl rfl (by decide) (Yl.loadG tab_ok rfl rfl rfl (by first | exact fun _ => rfl | exact fun h => h | (intro h; simp_all)) ?r2 rfl ?h2 ?g2) ?_
        case r2 => (first | exact Rd.blkC 0 rfl | exact Rd.blkC 1 rfl | exact Rd.blkC 2 rfl | exact Rd.blkC 3 rfl | exact Rd.blkC 4 rfl)
        case h2 => rfl
        case g2 => first | exact fun _ => trivial | (intro hg; (try simp only [decide_eq_true_eq, decide_eq_false_iff_not, beq_iff_eq, bne_iff_ne, beq_eq_false_iff_ne, bne_eq_false_iff_eq, ne_eq, Bool.or_eq_true, Bool.or_eq_false_iff, Bool.and_eq_true, Bool.and_eq_false_imp, Bool.not_eq_true, Bool.not_eq_true', Bool.not_eq_false', Classical.not_not, Int.not_lt, Int.not_le, gt_iff_lt, ge_iff_le] at hg); (try dsimp only); omega)
        refine WG.callV (v := .string (str [])) en34 rfl rfl (by decide) (CallOp.mk' rfl rfl rfl rfl) (by first | exact fun _ => rfl | exact fun h => h | (intro h; simp_all)) (fun hg => absurd hg (by decide)) ?_
        refine WG.y rfl rfl (by decide) (pureV_ok tab_ok rfl (by first | exact fun _ => rfl | exact fun h => h | (intro h; simp_all))) ?_
        refine WG.y rfl rfl (by decide) (Yl.neS rfl rfl rfl (by first | exact fun _ => rfl | exact fun h => h | (intro h; simp_all))) ?_
        refine WG.y rfl rfl (by decide) (Yl.por rfl rfl rfl (fun _ => rfl) (by intro h1 h2; simp_all <;> omega)) ?_
        refine WG.nil ?_
        refine WE.nxt ?_
        refine W.cond rfl (fun hc3 => ?_) (fun hc3 => ?_)
        · try simp only [decide_eq_true_eq, decide_eq_false_iff_not, beq_iff_eq, bne_iff_ne, beq_eq_false_iff_ne, bne_eq_false_iff_eq, ne_eq, Bool.or_eq_true, Bool.or_eq_false_iff, Bool.and_eq_true, Bool.and_eq_false_imp, Bool.not_eq_true, Bool.not_eq_true', Bool.not_eq_false', Classical.not_not, Int.not_lt, Int.not_le, gt_iff_lt, ge_iff_le] at hc3
          refine W.seq ?_
          refine W.region _ ?_
          -- build
          refine WG.y rfl rfl (by decide) (Yl.build (parts := []) tab_ok rfl rfl rfl rfl (fun _ => rfl) rfl rfl) ?_
          first | refine WL.efN rfl rfl (Ef.store0 0 tab_ok rfl rfl rfl rfl rfl rfl rfl rfl ?_) | refine WL.efN rfl rfl (Ef.store0 1 tab_ok rfl rfl rfl rfl rfl rfl rfl rfl ?_) | refine WL.efN rfl rfl (Ef.store0 2 tab_ok rfl rfl rfl rfl rfl rfl rfl rfl ?_) | refine WL.efN rfl rfl (Ef.store0 3 tab_ok rfl rfl rfl rfl rfl rfl rfl rfl ?_) | refine WL.efN rfl rfl (Ef.store0 4 tab_ok rfl rfl rfl rfl rfl rfl rfl rfl ?_)
          refine WG.run tab_ok 1 rfl ?_
          refine WG.nil ?_
          refine WE.nxt ?_
          refine W.ret ?_
          refine WE.then_ret ?_
          refine WE.retF tab_ok [_, _] rfl ⟨⟨_, _, _, rfl, rfl, rfl, ((by first | exact Rd.blk 0 rfl | exact Rd.blk 1 rfl | exact Rd.blk 2 rfl | exact Rd.blk 3 rfl | exact Rd.blk 4 rfl)), rfl⟩, rfl, trivial⟩ (RLe.refl _) ?_
          exact ⟨rfl, (by (repeat (first | exact List.Sublist.refl _ | exact List.nil_sublist _ | apply List.Sublist.cons_cons | apply List.Sublist.cons)); done)⟩
        · try simp only [decide_eq_true_eq, decide_eq_false_iff_not, beq_iff_eq, bne_iff_ne, beq_eq_false_iff_ne, bne_eq_false_iff_eq, ne_eq, Bool.or_eq_true, Bool.or_eq_false_iff, Bool.and_eq_true, Bool.and_eq_false_imp, Bool.not_eq_true, Bool.not_eq_true', Bool.not_eq_false', Classical.not_not, Int.not_lt, Int.not_le, gt_iff_lt, ge_iff_le] at hc3
          simp at hc3
    · try simp only [decide_eq_true_eq, decide_eq_false_iff_not, beq_iff_eq, bne_iff_ne, beq_eq_false_iff_ne, bne_eq_false_iff_eq, ne_eq, Bool.or_eq_true, Bool.or_eq_false_iff, Bool.and_eq_true, Bool.and_eq_false_imp, Bool.not_eq_true, Bool.not_eq_true', Bool.not_eq_false', Classical.not_not, Int.not_lt, Int.not_le, gt_iff_lt, ge_iff_le] at hc1
      first | done | exact absurd hc1 (by decide) | simp at hc1

theorem Awake01_C {R : Ro} (hG : Glob R) (w0 : World) (E : List Ent) : K.Fn Tryd.prog 31 [] w0 R E (fun v R' E' => v = .bool true ∧ E.Sublist E') := by
  refine Fn.enter (n := 39) Tryd.func31 rfl rfl (Nat.le_of_ble_eq_true rfl) rfl ?_
  refine W.seq ?_
  refine W.region _ ?_
  refine WG.run tab_ok 1 rfl ?_
  refine WG.nil ?_
  refine WE.nxt ?_
  refine W.seq ?_
  refine W.region _ ?_
  refine WG.callV (v := .tuple #[.agg #[.int .i64 (-3), .int .i64 2], .int .i64 0]) en36 rfl rfl (by decide) (CallOp.mk' rfl rfl rfl rfl) (fun _ => rfl) (fun hg => by
    have h := New01_V (R := R) (a := 6) (b := -4) (by constructor <;> decide) (by constructor <;> decide)
    rw [show newF 6 (-4) = ((-3, 2), 0) from by kernel_rfl] at h
    exact h) ?_
  refine WG.run tab_ok 3 rfl ?_
  refine WL.ef rfl rfl (by decide) (Ef.alloc tab_ok rfl rfl (fun b1 => ?_))
  first | refine WL.efN rfl rfl (Ef.store0 0 tab_ok rfl rfl rfl rfl rfl rfl rfl rfl ?_) | refine WL.efN rfl rfl (Ef.store0 1 tab_ok rfl rfl rfl rfl rfl rfl rfl rfl ?_) | refine WL.efN rfl rfl (Ef.store0 2 tab_ok rfl rfl rfl rfl rfl rfl rfl rfl ?_) | refine WL.efN rfl rfl (Ef.store0 3 tab_ok rfl rfl rfl rfl rfl rfl rfl rfl ?_)
  refine WG.run tab_ok 1 rfl ?_
  refine WG.nil ?_
  refine WE.nxt ?_
  refine W.seq ?_
  refine W.region _ ?_
  refine WG.callV en33 rfl rfl (by decide) (CallOp.mk' rfl rfl rfl rfl) (fun _ => rfl) (fun hg => Parse42_V hG) ?_
  refine WG.run tab_ok 3 rfl ?_
  refine WL.ef rfl rfl (by decide) (Ef.alloc tab_ok rfl rfl (fun b3 => ?_))
  first | refine WL.efN rfl rfl (Ef.store0 0 tab_ok rfl rfl rfl rfl rfl rfl rfl rfl ?_) | refine WL.efN rfl rfl (Ef.store0 1 tab_ok rfl rfl rfl rfl rfl rfl rfl rfl ?_) | refine WL.efN rfl rfl (Ef.store0 2 tab_ok rfl rfl rfl rfl rfl rfl rfl rfl ?_) | refine WL.efN rfl rfl (Ef.store0 3 tab_ok rfl rfl rfl rfl rfl rfl rfl rfl ?_)
  refine WG.run tab_ok 1 rfl ?_
  refine WG.nil ?_
  refine WE.nxt ?_
  refine W.seq ?_
  refine W.region _ ?_
  refine WG.run tab_ok 3 rfl ?_
  refine WL.guardT rfl (by first | rfl | decide | simp) ?_
  refine' WG.y rfl rfl (by decide) (Yl.load1 tab_ok rfl rfl rfl (fun _ => rfl) ?r1 rfl ?h1) ?_
  case r1 => (first | exact Rd.blk 0 rfl | exact Rd.blk 1 rfl | exact Rd.blk 2 rfl | exact Rd.blk 3 rfl)
  case h1 => rfl
  refine WL.guardT rfl (by first | rfl | decide | simp) ?_
  -- build
  refine WG.y rfl rfl (by decide) (Yl.build (parts := [(0, .const (.int .i64 (-3))), (1, .const (.int .i64 2))]) tab_ok rfl rfl rfl rfl (fun _ => rfl) rfl rfl) ?_
  refine WL.guardT rfl (by first | rfl | decide | simp) ?_
  refine WG.y rfl rfl (by decide) (Yl.eqDuo duo51 rfl rfl rfl (fun _ => rfl)) ?_
  refine WG.y rfl rfl (by decide) (Yl.pand rfl rfl rfl (fun _ => rfl) (by intro h1 h2; simp_all <;> omega)) ?_
  refine WG.run tab_ok 1 rfl ?_
  refine WL.guardT rfl (by first | rfl | decide | simp) ?_
  refine' WG.y rfl rfl (by decide) (Yl.load1 tab_ok rfl rfl rfl (fun _ => rfl) ?r2 rfl ?h2) ?_
  case r2 => (first | exact Rd.blk 0 rfl | exact Rd.blk 1 rfl | exact Rd.blk 2 rfl | exact Rd.blk 3 rfl)
  case h2 => rfl
  refine WL.guardT rfl (by first | rfl | decide | simp) ?_
  refine WG.callV (v := .string ⟨#[45, 51, 47, 50]⟩) en34 rfl rfl (by decide) (CallOp.mk' rfl rfl rfl rfl) (fun _ => rfl) (fun hg => by
    have h := Format01_V (R := R) hG (x := (-3, 2)) ⟨by constructor <;> decide, by constructor <;> decide⟩
    rw [show fmtF (-3, 2) = [45, 51, 47, 50] from by rw [fmtF, if_pos (by kernel_rfl), if_neg (by decide)]; simp [Lib.itoa, Lib.decDigits]] at h
    exact h) ?_
  refine WL.guardT rfl (by first | rfl | decide | simp) ?_
  refine WG.y rfl rfl (by decide) (Yl.eqS rfl rfl rfl (fun _ => rfl)) ?_
  refine WG.y rfl rfl (by decide) (Yl.pand rfl rfl rfl (fun _ => rfl) (by intro h1 h2; simp_all <;> omega)) ?_
  refine WG.run tab_ok 1 rfl ?_
  refine WL.guardT rfl (by first | rfl | decide | simp) ?_
  refine' WG.y rfl rfl (by decide) (Yl.load1 tab_ok rfl rfl rfl (fun _ => rfl) ?r3 rfl ?h3) ?_
  case r3 => (first | exact Rd.blk 0 rfl | exact Rd.blk 1 rfl | exact Rd.blk 2 rfl | exact Rd.blk 3 rfl)
  case h3 => rfl
  refine WL.guardT rfl (by first | rfl | decide | simp) ?_
  refine WG.callV (v := .int .i64 (-2)) en37 rfl rfl (by decide) (CallOp.mk' rfl rfl rfl rfl) (fun _ => rfl) (fun hg => by
    have h := Floor01_V (R := R) (x := (-3, 2)) ⟨by constructor <;> decide, by constructor <;> decide⟩
    rw [show floorF (-3, 2) = -2 from by kernel_rfl] at h
    exact h) ?_
  refine WL.guardT rfl (by first | rfl | decide | simp) ?_
  refine WG.y rfl rfl (by decide) (pureV_ok tab_ok rfl (fun _ => rfl)) ?_
  refine WG.y rfl rfl (by decide) (Yl.pand rfl rfl rfl (fun _ => rfl) (by intro h1 h2; simp_all <;> omega)) ?_
  refine WG.run tab_ok 1 rfl ?_
  refine WL.guardT rfl (by first | rfl | decide | simp) ?_
  refine' WG.y rfl rfl (by decide) (Yl.load1 tab_ok rfl rfl rfl (fun _ => rfl) ?r4 rfl ?h4) ?_
  case r4 => (first | exact Rd.blk 0 rfl | exact Rd.blk 1 rfl | exact Rd.blk 2 rfl | exact Rd.blk 3 rfl)
  case h4 => rfl
  refine WL.guardT rfl (by first | rfl | decide | simp) ?_
  refine WG.callV (v := .int .i64 (-1)) en38 rfl rfl (by decide) (CallOp.mk' rfl rfl rfl rfl) (fun _ => rfl) (fun hg => by
    have h := Ceil01_V (R := R) (x := (-3, 2)) ⟨by constructor <;> decide, by constructor <;> decide⟩
    rw [show ceilF (-3, 2) = -1 from by kernel_rfl] at h
    exact h) ?_
  refine WL.guardT rfl (by first | rfl | decide | simp) ?_
  refine WG.y rfl rfl (by decide) (pureV_ok tab_ok rfl (fun _ => rfl)) ?_
  refine WG.y rfl rfl (by decide) (Yl.pand rfl rfl rfl (fun _ => rfl) (by intro h1 h2; simp_all <;> omega)) ?_
  refine WG.run tab_ok 1 rfl ?_
  refine WL.guardT rfl (by first | rfl | decide | simp) ?_
  refine WG.y rfl rfl (by decide) (pureV_ok tab_ok rfl (fun _ => rfl)) ?_
  refine WL.guardT rfl (by first | rfl | decide | simp) ?_
  refine WG.y rfl rfl (by decide) (pureV_ok tab_ok rfl (fun _ => rfl)) ?_
  refine WG.y rfl rfl (by decide) (Yl.pand rfl rfl rfl (fun _ => rfl) (by intro h1 h2; simp_all <;> omega)) ?_
  refine WG.run tab_ok 1 rfl ?_
  refine WG.nil ?_
  refine WE.nxt ?_
  refine W.ret ?_
  refine WE.retF tab_ok [_] rfl ⟨rfl, trivial⟩ (RLe.refl _) ?_
  exact ⟨by first | rfl | simp, (by (repeat (first | exact List.Sublist.refl _ | exact List.nil_sublist _ | apply List.Sublist.cons_cons | apply List.Sublist.cons)); done)⟩

end Go.Proofs.YtjacpnojnoompaaDoor

/- Fractions: texts are read. No condition. -/
set_option linter.unusedSimpArgs false
set_option linter.unusedVariables false
namespace Go.Proofs.YtjacpnojnoompaaDoor
open Go Go.RowKit Go.Proofs.YtjacpnojnoompaaDoor.K Go.Proofs.YtjacpnojnoompaaDoor.M

structure GlobE (R : Ro) : Prop where
  es : ∃ (t : TypeId) (p : Value), R 1 = some [.iface t p]
  er : ∃ (t : TypeId) (p : Value), R 2 = some [.iface t p]
theorem GlobE.mono {R R' : Ro} (h : GlobE R) (hR : RLe R R') : GlobE R' := ⟨by obtain ⟨t, p, h⟩ := h.es; exact ⟨t, p, hR _ _ h⟩, by obtain ⟨t, p, h⟩ := h.er; exact ⟨t, p, hR _ _ h⟩⟩
theorem AtoiA_C {R : Ro} (hE : GlobE R) {s : List UInt8} (hs : s.length ≤ 4000000000) (w0 : World) (E : List Ent) : K.Fn Tryd.prog 68 [.string (str s)] w0 R E (fun v R' E' => ∃ (n : Int) (t : TypeId) (p : Value), (atBad s = false → Lib.atoiAll s = .ok n ∧ n = atNum s) ∧ InR n ∧ v = .tuple #[.int .i64 n, errV (atBad s) t p] ∧ R = R' ∧ E = E') := by
  intro w hm
  have hsz := str_size s
  have hli := str_list s
  obtain ⟨t1, p1, h1⟩ := hE.es
  obtain ⟨t2, p2, h2⟩ := hE.er
  rcases h : Lib.atoiAll s with v | _ | _
  · refine (sh_strconv_Atoi_ok (str s) (by omega) v (by rw [hli]; exact h) w).mono ?_
    obtain ⟨e1, e2⟩ := atBad_ok h
    rintro e w' ⟨rfl, hw⟩
    refine ⟨_, R, E, rfl, RLe.refl _, hm.belowAll ?_, v, 0, .nilIface, fun _ => ⟨rfl, e2.symm⟩, Lib.atoiAll_bounds h, by rw [e1]; rfl, rfl, rfl⟩
    rcases hw with rfl | ⟨t, rfl⟩
    · exact Below.refl _ _
    · exact Lib.bytesWorld_below w _ t
  · refine (sh_strconv_Atoi_syntax (str s) (by omega) (by rw [hli]; exact h) _ w (hm.cell h1) (.inr ⟨_, _, rfl⟩)).mono ?_
    have e1 : atBad s = true := by unfold atBad; rw [h]
    rintro e w' ⟨N, rfl, _, _, hb⟩
    exact ⟨_, R, E, rfl, RLe.refl _, hm.belowAll hb, 0, _, _, fun hh => absurd (e1.symm.trans hh) (by decide), by constructor <;> decide, by rw [e1]; rfl, rfl, rfl⟩
  · refine (sh_strconv_Atoi_range (str s) (by omega) (by rw [hli]; exact h) _ w (hm.cell h2) (.inr ⟨_, _, rfl⟩)).mono ?_
    have e1 : atBad s = true := by unfold atBad; rw [h]
    rintro e w' ⟨N, rfl, _, _, hb⟩
    exact ⟨_, R, E, rfl, RLe.refl _, hm.belowAll hb, Lib.atoiSat (str s).data.toList, _, _, fun hh => absurd (e1.symm.trans hh) (by decide), by unfold Lib.atoiSat; split <;> constructor <;> decide, by rw [e1]; rfl, rfl, rfl⟩
def finF (s : List UInt8) (x : Fr) : Fr × Int := if validF x = true ∧ fmtF x = s then (x, 0) else ((0, 0), 4)
def parseF (s : List UInt8) : Fr × Int :=
  if atBad (cutS s).1 = true then ((0, 0), 4)
  else if (cutS s).2.2 = true then (if atBad (cutS s).2.1 = true then ((0, 0), 4) else finF s (atNum (cutS s).1, atNum (cutS s).2.1))
  else finF s (atNum (cutS s).1, 1)
/-- what is written is read back -/
theorem parse_fmt {x : Fr} (h : validF x = true) : parseF (fmtF x) = (x, 0) := by
  obtain ⟨h1, h2, h3, h4, _⟩ := validF_iff.1 h
  have hf : finF (fmtF x) x = (x, 0) := if_pos ⟨h, rfl⟩
  have a1 : ∀ n : Int, -1073741824 ≤ n ∧ n ≤ 1073741824 → atBad (Lib.itoa n) = false ∧ atNum (Lib.itoa n) = n := fun n hn => by
    have := itoa_len hn
    exact atBad_ok (atoiAll_itoa (by omega) (by omega))
  have b1 := a1 x.1 ⟨h3, h4⟩
  have b2 := a1 x.2 ⟨by omega, h2⟩
  have e : fmtF x = Lib.itoa x.1 ++ (if x.2 = 1 then [] else 47 :: Lib.itoa x.2) := if_pos h
  generalize fmtF x = s at e hf ⊢
  unfold parseF
  by_cases h5 : x.2 = 1
  · rw [if_pos h5, List.append_nil] at e
    subst e
    rw [cutS_none (itoa_mem _)]
    dsimp only
    rw [if_neg (by rw [b1.1]; decide), if_neg (by decide), b1.2, show (x.1, (1 : Int)) = x from Prod.ext rfl h5.symm]
    exact hf
  · rw [if_neg h5] at e
    subst e
    rw [cutS_at (itoa_mem _)]
    dsimp only
    rw [if_neg (by rw [b1.1]; decide), if_pos rfl, if_neg (by rw [b2.1]; decide), b1.2, b2.2]
    exact hf
/-- what is taken is written again -/
theorem parse_ok {s : List UInt8} {x : Fr} (h : parseF s = (x, 0)) : validF x = true ∧ fmtF x = s := by
  have key : ∀ y, finF s y = (x, 0) → validF x = true ∧ fmtF x = s := fun y hy => by
    unfold finF at hy
    split at hy
    · rename_i h1
      have := (Prod.mk.inj hy).1
      subst this
      exact h1
    · have := (Prod.mk.inj hy).2; cases this
  unfold parseF at h
  split at h
  · have := (Prod.mk.inj h).2; cases this
  · split at h
    · split at h
      · have := (Prod.mk.inj h).2; cases this
      · exact key _ h
    · exact key _ h
theorem parse_in (s : List UInt8) : InR (parseF s).1.1 ∧ InR (parseF s).1.2 ∧ ((parseF s).2 = 0 ∨ (parseF s).2 = 4) := by
  have key : ∀ y, InR (finF s y).1.1 ∧ InR (finF s y).1.2 ∧ ((finF s y).2 = 0 ∨ (finF s y).2 = 4) := fun y => by
    unfold finF
    split
    · rename_i h1
      have := validF_iff.1 h1.1
      exact ⟨by constructor <;> (dsimp only; omega), by constructor <;> (dsimp only; omega), .inl rfl⟩
    · exact ⟨by constructor <;> decide, by constructor <;> decide, .inr rfl⟩
  unfold parseF
  split
  · exact ⟨by constructor <;> decide, by constructor <;> decide, .inr rfl⟩
  · split
    · split
      · exact ⟨by constructor <;> decide, by constructor <;> decide, .inr rfl⟩
      · exact key _
    · exact key _

theorem Parse01_V {R : Ro} (hG : Glob R) (hE : GlobE R) {s : List UInt8} (hs : s.length ≤ 4000000000) : FnV Tryd.prog 33 [.string (str s)] R (frV (parseF s)) := by
  refine Fn.toVS (fun w0 E => ?_)
  have hcl := cutS_le s
  refine Fn.enter (n := 48) Tryd.func33 rfl rfl (Nat.le_of_ble_eq_true rfl) rfl ?_
  refine W.seq ?_
  refine W.region _ ?_
  refine WL.ef rfl rfl (by decide) (Ef.alloc tab_ok rfl rfl (fun b2 => ?_))
  refine WG.run tab_ok 1 rfl ?_
  refine WG.nil ?_
  refine WE.nxt ?_
  refine W.seq ?_
  refine W.region _ ?_
  refine WG.run tab_ok 1 rfl ?_
  refine WG.callV (v := .tuple #[.string (str (cutS s).1), .string (str (cutS s).2.1), .bool (cutS s).2.2]) en57 rfl rfl (by decide) (CallOp.mk' rfl rfl rfl rfl) (fun _ => rfl) (fun hg => by
    have h := Cut_V (R := R) hG (s := str s) (sep := str [47]) (by rw [str_size]; omega)
    rw [str_list, str_list] at h
    exact h) ?_
  refine WG.run tab_ok 7 rfl ?_
  refine WG.nil ?_
  refine WE.nxt ?_
  refine W.seq ?_
  refine W.region _ ?_
  -- build
  refine WG.y rfl rfl (by decide) (Yl.build (parts := [(1, .const (.int .i64 1))]) tab_ok rfl rfl rfl rfl (fun _ => rfl) rfl rfl) ?_
  refine WL.ef rfl rfl (by decide) (Ef.alloc tab_ok rfl rfl (fun b7 => ?_))
  first | refine WL.efN rfl rfl (Ef.store0 0 tab_ok rfl rfl rfl rfl rfl rfl rfl rfl ?_) | refine WL.efN rfl rfl (Ef.store0 1 tab_ok rfl rfl rfl rfl rfl rfl rfl rfl ?_) | refine WL.efN rfl rfl (Ef.store0 2 tab_ok rfl rfl rfl rfl rfl rfl rfl rfl ?_) | refine WL.efN rfl rfl (Ef.store0 3 tab_ok rfl rfl rfl rfl rfl rfl rfl rfl ?_) | refine WL.efN rfl rfl (Ef.store0 4 tab_ok rfl rfl rfl rfl rfl rfl rfl rfl ?_)
  refine WG.nil ?_
  refine WE.nxt ?_
  refine W.seq ?_
  refine W.region _ ?_
  refine WG.run tab_ok 1 rfl ?_
  refine WL.call en68 rfl rfl (by decide) (CallOp.mkT rfl rfl rfl rfl) (AtoiA_C hE (s := (cutS s).1) (by omega) w0 _) ?_
  rintro _ _ _ - ⟨n1, t1, p1, hn1, hr1, rfl, rfl, rfl⟩
  refine WG.run tab_ok 5 rfl ?_
  refine WG.nil ?_
  refine WE.nxt ?_
  refine W.seq ?_
  refine W.seq ?_
  refine W.region _ ?_
  refine WG.run tab_ok 1 rfl ?_
  refine WG.y rfl rfl (by decide) (Yl.neNilI nilI82 rfl rfl rfl (fun _ => rfl) (errV_cases _ _ _)) ?_
  refine WG.nil ?_
  refine WE.nxt ?_
  refine W.cond rfl (fun hc0 => ?_) (fun hc0 => ?_)
  · try simp only [decide_eq_true_eq, decide_eq_false_iff_not, beq_iff_eq, bne_iff_ne, beq_eq_false_iff_ne, bne_eq_false_iff_eq, ne_eq, Bool.or_eq_true, Bool.or_eq_false_iff, Bool.and_eq_true, Bool.and_eq_false_imp, Bool.not_eq_true, Bool.not_eq_true', Bool.not_eq_false', Classical.not_not, Int.not_lt, Int.not_le, gt_iff_lt, ge_iff_le] at hc0
    refine W.seq ?_
    refine W.region _ ?_
    -- build
    refine WG.y rfl rfl (by decide) (Yl.build (parts := []) tab_ok rfl rfl rfl rfl (fun _ => rfl) rfl rfl) ?_
    first | refine WL.efN rfl rfl (Ef.store0 0 tab_ok rfl rfl rfl rfl rfl rfl rfl rfl ?_) | refine WL.efN rfl rfl (Ef.store0 1 tab_ok rfl rfl rfl rfl rfl rfl rfl rfl ?_) | refine WL.efN rfl rfl (Ef.store0 2 tab_ok rfl rfl rfl rfl rfl rfl rfl rfl ?_) | refine WL.efN rfl rfl (Ef.store0 3 tab_ok rfl rfl rfl rfl rfl rfl rfl rfl ?_) | refine WL.efN rfl rfl (Ef.store0 4 tab_ok rfl rfl rfl rfl rfl rfl rfl rfl ?_)
    refine WG.run tab_ok 1 rfl ?_
    refine WG.nil ?_
    refine WE.nxt ?_
    refine W.ret ?_
    refine WE.then_ret ?_
    refine WE.retF tab_ok [_, _] rfl ⟨⟨_, _, _, rfl, rfl, rfl, ((by first | exact Rd.blk 0 rfl | exact Rd.blk 1 rfl | exact Rd.blk 2 rfl | exact Rd.blk 3 rfl | exact Rd.blk 4 rfl)), rfl⟩, rfl, trivial⟩ (RLe.refl _) ?_
    exact ⟨by unfold parseF; rw [if_pos hc0]; rfl, (by (repeat (first | exact List.Sublist.refl _ | exact List.nil_sublist _ | apply List.Sublist.cons_cons | apply List.Sublist.cons)); done)⟩
  · try simp only [decide_eq_true_eq, decide_eq_false_iff_not, beq_iff_eq, bne_iff_ne, beq_eq_false_iff_ne, bne_eq_false_iff_eq, ne_eq, Bool.or_eq_true, Bool.or_eq_false_iff, Bool.and_eq_true, Bool.and_eq_false_imp, Bool.not_eq_true, Bool.not_eq_true', Bool.not_eq_false', Classical.not_not, Int.not_lt, Int.not_le, gt_iff_lt, ge_iff_le] at hc0
    obtain ⟨hk1, hm1⟩ := hn1 hc0
    refine W.skip ?_
    refine WE.nxt ?_
    refine W.seq ?_
    refine W.region _ ?_
    refine WG.run tab_ok 2 rfl ?_
    first | refine WL.efN rfl rfl (Ef.store 0 tab_ok rfl rfl rfl rfl rfl rfl rfl rfl ?_) | refine WL.efN rfl rfl (Ef.store 1 tab_ok rfl rfl rfl rfl rfl rfl rfl rfl ?_) | refine WL.efN rfl rfl (Ef.store 2 tab_ok rfl rfl rfl rfl rfl rfl rfl rfl ?_) | refine WL.efN rfl rfl (Ef.store 3 tab_ok rfl rfl rfl rfl rfl rfl rfl rfl ?_) | refine WL.efN rfl rfl (Ef.store 4 tab_ok rfl rfl rfl rfl rfl rfl rfl rfl ?_)
    refine WG.nil ?_
    refine WE.nxt ?_
    refine W.seqCut (β := Fr) (fun x => (InR x.1 ∧ InR x.2) ∧ parseF s = finF s x) (fun x => [(0, true, .string (str s)), (2, true, .pointer (some ⟨b2, 0, none⟩)), (7, true, .pointer (some ⟨b7, 0, none⟩))]) (fun _ => R) (fun x => [.blk b7 [.int .i64 x.1, .int .i64 x.2], .blk b2 [.int .i64 0, .int .i64 0]] ++ E) ?_ ?_
    ·
      intro x hst
      obtain ⟨hx, hpx⟩ := hst
      refine W.seq ?_
      refine W.seq ?_
      refine W.region _ ?_
      refine' WG.y rfl rfl (by decide) (Yl.load1 tab_ok rfl rfl rfl (fun _ => rfl) ?r1 rfl ?h1) ?_
      case r1 => (first | exact Rd.blk 0 rfl | exact Rd.blk 1 rfl | exact Rd.blk 2 rfl | exact Rd.blk 3 rfl | exact Rd.blk 4 rfl)
      case h1 => rfl
      refine WG.callV en35 rfl rfl (by decide) (CallOp.mk' rfl rfl rfl rfl) (fun _ => rfl) (fun hg => Valid01_V hx) ?_
      refine WG.run tab_ok 2 rfl ?_
      refine' WG.y rfl rfl (by decide) (Yl.loadG tab_ok rfl rfl rfl (by first | exact fun _ => rfl | exact fun h => h | (intro h; simp_all)) ?r2 rfl ?h2 ?g2) ?_
      case r2 => (first | exact Rd.blkC 0 rfl | exact Rd.blkC 1 rfl | exact Rd.blkC 2 rfl | exact Rd.blkC 3 rfl | exact Rd.blkC 4 rfl)
      case h2 => rfl
      case g2 => first | exact fun _ => trivial | (intro hg; (try simp only [decide_eq_true_eq, decide_eq_false_iff_not, beq_iff_eq, bne_iff_ne, beq_eq_false_iff_ne, bne_eq_false_iff_eq, ne_eq, Bool.or_eq_true, Bool.or_eq_false_iff, Bool.and_eq_true, Bool.and_eq_false_imp, Bool.not_eq_true, Bool.not_eq_true', Bool.not_eq_false', Classical.not_not, Int.not_lt, Int.not_le, gt_iff_lt, ge_iff_le] at hg); (try dsimp only); omega)
      refine WG.callV en34 rfl rfl (by decide) (CallOp.mk' rfl rfl rfl rfl) (by first | exact fun _ => rfl | exact fun h => h | (intro h; simp_all)) (fun hg => Format01_V hG hx) ?_
      refine WG.y rfl rfl (by decide) (pureV_ok tab_ok rfl (by first | exact fun _ => rfl | exact fun h => h | (intro h; simp_all))) ?_
      refine WG.y rfl rfl (by decide) (Yl.neS rfl rfl rfl (by first | exact fun _ => rfl | exact fun h => h | (intro h; simp_all))) ?_
      refine WG.y rfl rfl (by decide) (Yl.por rfl rfl rfl (fun _ => rfl) (by intro h1 h2; simp_all <;> omega)) ?_
      refine WG.nil ?_
      refine WE.nxt ?_
      refine W.cond rfl (fun hc1 => ?_) (fun hc1 => ?_)
      · try simp only [decide_eq_true_eq, decide_eq_false_iff_not, beq_iff_eq, bne_iff_ne, beq_eq_false_iff_ne, bne_eq_false_iff_eq, ne_eq, Bool.or_eq_true, Bool.or_eq_false_iff, Bool.and_eq_true, Bool.and_eq_false_imp, Bool.not_eq_true, Bool.not_eq_true', Bool.not_eq_false', Classical.not_not, Int.not_lt, Int.not_le, gt_iff_lt, ge_iff_le] at hc1
        have hfin : finF s x = ((0, 0), 4) := if_neg (by rintro ⟨h1, h2⟩; rw [h1, h2] at hc1; simp at hc1)
        refine W.seq ?_
        refine W.region _ ?_
        -- build
        refine WG.y rfl rfl (by decide) (Yl.build (parts := []) tab_ok rfl rfl rfl rfl (fun _ => rfl) rfl rfl) ?_
        first | refine WL.efN rfl rfl (Ef.store0 0 tab_ok rfl rfl rfl rfl rfl rfl rfl rfl ?_) | refine WL.efN rfl rfl (Ef.store0 1 tab_ok rfl rfl rfl rfl rfl rfl rfl rfl ?_) | refine WL.efN rfl rfl (Ef.store0 2 tab_ok rfl rfl rfl rfl rfl rfl rfl rfl ?_) | refine WL.efN rfl rfl (Ef.store0 3 tab_ok rfl rfl rfl rfl rfl rfl rfl rfl ?_) | refine WL.efN rfl rfl (Ef.store0 4 tab_ok rfl rfl rfl rfl rfl rfl rfl rfl ?_)
        refine WG.run tab_ok 1 rfl ?_
        refine WG.nil ?_
        refine WE.nxt ?_
        refine W.ret ?_
        refine WE.then_ret ?_
        refine WE.retF tab_ok [_, _] rfl ⟨⟨_, _, _, rfl, rfl, rfl, ((by first | exact Rd.blk 0 rfl | exact Rd.blk 1 rfl | exact Rd.blk 2 rfl | exact Rd.blk 3 rfl | exact Rd.blk 4 rfl)), rfl⟩, rfl, trivial⟩ (RLe.refl _) ?_
        exact ⟨by rw [hpx, hfin]; rfl, (by (repeat (first | exact List.Sublist.refl _ | exact List.nil_sublist _ | apply List.Sublist.cons_cons | apply List.Sublist.cons)); done)⟩
      · try simp only [decide_eq_true_eq, decide_eq_false_iff_not, beq_iff_eq, bne_iff_ne, beq_eq_false_iff_ne, bne_eq_false_iff_eq, ne_eq, Bool.or_eq_true, Bool.or_eq_false_iff, Bool.and_eq_true, Bool.and_eq_false_imp, Bool.not_eq_true, Bool.not_eq_true', Bool.not_eq_false', Classical.not_not, Int.not_lt, Int.not_le, gt_iff_lt, ge_iff_le] at hc1
        have hfin : finF s x = (x, 0) := if_pos (by revert hc1; cases hv : validF x <;> simp; intro h; exact str_inj h)
        refine W.skip ?_
        refine WE.nxt ?_
        refine W.seq ?_
        refine W.region _ ?_
        refine' WG.y rfl rfl (by decide) (Yl.load1 tab_ok rfl rfl rfl (fun _ => rfl) ?r3 rfl ?h3) ?_
        case r3 => (first | exact Rd.blk 0 rfl | exact Rd.blk 1 rfl | exact Rd.blk 2 rfl | exact Rd.blk 3 rfl | exact Rd.blk 4 rfl)
        case h3 => rfl
        first | refine WL.efN rfl rfl (Ef.store0 0 tab_ok rfl rfl rfl rfl rfl rfl rfl rfl ?_) | refine WL.efN rfl rfl (Ef.store0 1 tab_ok rfl rfl rfl rfl rfl rfl rfl rfl ?_) | refine WL.efN rfl rfl (Ef.store0 2 tab_ok rfl rfl rfl rfl rfl rfl rfl rfl ?_) | refine WL.efN rfl rfl (Ef.store0 3 tab_ok rfl rfl rfl rfl rfl rfl rfl rfl ?_) | refine WL.efN rfl rfl (Ef.store0 4 tab_ok rfl rfl rfl rfl rfl rfl rfl rfl ?_)
        refine WG.run tab_ok 1 rfl ?_
        refine WG.nil ?_
        refine WE.nxt ?_
        refine W.ret ?_
        refine WE.retF tab_ok [_, _] rfl ⟨⟨_, _, _, rfl, rfl, rfl, ((by first | exact Rd.blk 0 rfl | exact Rd.blk 1 rfl | exact Rd.blk 2 rfl | exact Rd.blk 3 rfl | exact Rd.blk 4 rfl)), rfl⟩, rfl, trivial⟩ (RLe.refl _) ?_
        exact ⟨by rw [hpx, hfin]; rfl, (by (repeat (first | exact List.Sublist.refl _ | exact List.nil_sublist _ | apply List.Sublist.cons_cons | apply List.Sublist.cons)); done)⟩
    ·
      refine W.seq ?_
      refine W.region _ ?_
      refine WG.run tab_ok 1 rfl ?_
      refine WG.nil ?_
      refine WE.nxt ?_
      refine W.cond rfl (fun hc2 => ?_) (fun hc2 => ?_)
      · try simp only [decide_eq_true_eq, decide_eq_false_iff_not, beq_iff_eq, bne_iff_ne, beq_eq_false_iff_ne, bne_eq_false_iff_eq, ne_eq, Bool.or_eq_true, Bool.or_eq_false_iff, Bool.and_eq_true, Bool.and_eq_false_imp, Bool.not_eq_true, Bool.not_eq_true', Bool.not_eq_false', Classical.not_not, Int.not_lt, Int.not_le, gt_iff_lt, ge_iff_le] at hc2
        refine W.seq ?_
        refine W.region _ ?_
        refine WG.run tab_ok 1 rfl ?_
        refine WL.call en68 rfl rfl (by decide) (CallOp.mkT rfl rfl rfl rfl) (AtoiA_C hE (s := (cutS s).2.1) (by omega) w0 _) ?_
        rintro _ _ _ - ⟨n2, t2, p2, hn2, hr2, rfl, rfl, rfl⟩
        refine WG.run tab_ok 4 rfl ?_
        first | refine WL.efN rfl rfl (Ef.store 0 tab_ok rfl rfl rfl rfl rfl rfl rfl rfl ?_) | refine WL.efN rfl rfl (Ef.store 1 tab_ok rfl rfl rfl rfl rfl rfl rfl rfl ?_) | refine WL.efN rfl rfl (Ef.store 2 tab_ok rfl rfl rfl rfl rfl rfl rfl rfl ?_) | refine WL.efN rfl rfl (Ef.store 3 tab_ok rfl rfl rfl rfl rfl rfl rfl rfl ?_) | refine WL.efN rfl rfl (Ef.store 4 tab_ok rfl rfl rfl rfl rfl rfl rfl rfl ?_)
        refine WG.run tab_ok 1 rfl ?_
        refine WG.nil ?_
        refine WE.nxt ?_
        refine W.seq ?_
        refine W.region _ ?_
        refine WG.run tab_ok 1 rfl ?_
        refine WG.y rfl rfl (by decide) (Yl.neNilI nilI82 rfl rfl rfl (fun _ => rfl) (errV_cases _ _ _)) ?_
        refine WG.nil ?_
        refine WE.nxt ?_
        refine W.cond rfl (fun hc3 => ?_) (fun hc3 => ?_)
        · try simp only [decide_eq_true_eq, decide_eq_false_iff_not, beq_iff_eq, bne_iff_ne, beq_eq_false_iff_ne, bne_eq_false_iff_eq, ne_eq, Bool.or_eq_true, Bool.or_eq_false_iff, Bool.and_eq_true, Bool.and_eq_false_imp, Bool.not_eq_true, Bool.not_eq_true', Bool.not_eq_false', Classical.not_not, Int.not_lt, Int.not_le, gt_iff_lt, ge_iff_le] at hc3
          refine W.seq ?_
          refine W.region _ ?_
          -- build
          refine WG.y rfl rfl (by decide) (Yl.build (parts := []) tab_ok rfl rfl rfl rfl (fun _ => rfl) rfl rfl) ?_
          first | refine WL.efN rfl rfl (Ef.store0 0 tab_ok rfl rfl rfl rfl rfl rfl rfl rfl ?_) | refine WL.efN rfl rfl (Ef.store0 1 tab_ok rfl rfl rfl rfl rfl rfl rfl rfl ?_) | refine WL.efN rfl rfl (Ef.store0 2 tab_ok rfl rfl rfl rfl rfl rfl rfl rfl ?_) | refine WL.efN rfl rfl (Ef.store0 3 tab_ok rfl rfl rfl rfl rfl rfl rfl rfl ?_) | refine WL.efN rfl rfl (Ef.store0 4 tab_ok rfl rfl rfl rfl rfl rfl rfl rfl ?_)
          refine WG.run tab_ok 1 rfl ?_
          refine WG.nil ?_
          refine WE.nxt ?_
          refine W.ret ?_
          refine WE.then_ret ?_
          refine WE.retF tab_ok [_, _] rfl ⟨⟨_, _, _, rfl, rfl, rfl, ((by first | exact Rd.blk 0 rfl | exact Rd.blk 1 rfl | exact Rd.blk 2 rfl | exact Rd.blk 3 rfl | exact Rd.blk 4 rfl)), rfl⟩, rfl, trivial⟩ (RLe.refl _) ?_
          exact ⟨by unfold parseF; rw [if_neg (by rw [hc0]; decide), if_pos hc2, if_pos hc3]; rfl, (by (repeat (first | exact List.Sublist.refl _ | exact List.nil_sublist _ | apply List.Sublist.cons_cons | apply List.Sublist.cons)); done)⟩
        · try simp only [decide_eq_true_eq, decide_eq_false_iff_not, beq_iff_eq, bne_iff_ne, beq_eq_false_iff_ne, bne_eq_false_iff_eq, ne_eq, Bool.or_eq_true, Bool.or_eq_false_iff, Bool.and_eq_true, Bool.and_eq_false_imp, Bool.not_eq_true, Bool.not_eq_true', Bool.not_eq_false', Classical.not_not, Int.not_lt, Int.not_le, gt_iff_lt, ge_iff_le] at hc3
          obtain ⟨hk2, hm2⟩ := hn2 hc3
          refine W.skip ?_
          refine WE.cut (n1, n2) ⟨⟨hr1, hr2⟩, by unfold parseF; rw [if_neg (by rw [hc0]; decide), if_pos hc2, if_neg (by rw [hc3]; decide), hm1, hm2]⟩ ⟨rfl, rfl, rfl, rfl⟩ (RLe.refl _) (by (repeat (first | exact List.Sublist.refl _ | exact List.nil_sublist _ | apply List.Sublist.cons_cons | apply List.Sublist.cons)); done)
      · try simp only [decide_eq_true_eq, decide_eq_false_iff_not, beq_iff_eq, bne_iff_ne, beq_eq_false_iff_ne, bne_eq_false_iff_eq, ne_eq, Bool.or_eq_true, Bool.or_eq_false_iff, Bool.and_eq_true, Bool.and_eq_false_imp, Bool.not_eq_true, Bool.not_eq_true', Bool.not_eq_false', Classical.not_not, Int.not_lt, Int.not_le, gt_iff_lt, ge_iff_le] at hc2
        refine W.skip ?_
        refine WE.cut (n1, 1) ⟨⟨hr1, by show InR 1; constructor <;> decide⟩, by unfold parseF; rw [if_neg (by rw [hc0]; decide), if_neg (by rw [hc2]; decide), hm1]⟩ ⟨rfl, rfl, rfl, rfl⟩ (RLe.refl _) (by (repeat (first | exact List.Sublist.refl _ | exact List.nil_sublist _ | apply List.Sublist.cons_cons | apply List.Sublist.cons)); done)

end Go.Proofs.YtjacpnojnoompaaDoor

/- Fractions: texts. No condition. -/
set_option linter.unusedSimpArgs false
set_option linter.unusedVariables false
namespace Go.Proofs.YtjacpnojnoompaaDoor
open Go Go.RowKit Go.Proofs.YtjacpnojnoompaaDoor.K Go.Proofs.YtjacpnojnoompaaDoor.M

theorem FractionTexts_F {R : Ro} {s : List UInt8} {a : Option Addr} {c : Nat} {xs : List Int} (ha : RS R 1 encI a xs) (hG : Glob R) (hE : GlobE R) (hc : xs.length ≤ c) (w0 : World) : K.Fn Tryd.prog 7 [.string (str s), .slice a xs.length c] w0 R [] (fun v _ _ => v = .bool true) := by
  have hss := str_size s
  refine Fn.enter (n := 58) Tryd.func7 rfl rfl (Nat.le_of_ble_eq_true rfl) rfl ?_
  refine W.seq ?_
  refine W.region _ ?_
  refine WG.run tab_ok 1 rfl ?_
  refine WG.nil ?_
  refine WE.nxt ?_
  refine W.seq ?_
  refine W.seq ?_
  refine W.region _ ?_
  refine WG.run tab_ok 3 rfl ?_
  refine WG.nil ?_
  refine WE.nxt ?_
  refine W.condD rfl (fun hc0 => ?_) (fun hc0 => ?_)
  · try dsimp only at hc0
    refine W.seq ?_
    refine W.region _ ?_
    refine WL.call en31 rfl rfl (by decide) (CallOp.mkT rfl rfl rfl rfl) (Awake01_C hG w0 _) ?_
    rintro _ R9 E9 hR9 ⟨rfl, hsub9⟩
    refine WL.subE hsub9 ?_
    refine WG.run tab_ok 1 rfl ?_
    refine WG.nil ?_
    refine WE.nxt ?_
    refine W.ret ?_
    refine WE.then_ret ?_
    refine WE.retF tab_ok [_] rfl ⟨rfl, trivial⟩ (by first | exact RLe.refl _ | exact hR9) ?_
    exact rfl
  · try dsimp only at hc0
    refine W.skip ?_
    refine WE.nxt ?_
    refine W.seq ?_
    refine W.region _ ?_
    refine WG.run tab_ok 1 rfl ?_
    refine WL.call en15 rfl rfl (by decide) (CallOp.mkT rfl rfl rfl rfl) (New_C w0 _ hc) ?_
    rintro _ _ _ - ⟨b, rfl, rfl, rfl⟩
    have hz := ha.take 2000
    refine WG.run tab_ok 1 rfl ?_
    refine WG.nil ?_
    refine WE.nxt ?_
    refine W.seq ?_
    refine W.region _ ?_
    refine WG.run tab_ok 1 rfl ?_
    refine WL.callAt 0 en32 rfl rfl (by decide) (CallOp.mkT rfl rfl rfl rfl) rfl (Fraction_C w0 hz (top := 89478485) (most := 12) (by decide) (by decide) _) ?_
    rintro _ _ _ _ - ⟨rfl, rfl, rfl, rfl⟩
    obtain ⟨ra, ea, ia, na⟩ := ratS_rat (top := 89478485) (most := 12) (by decide) (by decide) (by decide) (xs.take 2000) (0)
    have ia : InQ ra 1073741820 12 := ia
    rw [ea, show frC (frQ ra) = .agg #[.int .i64 ra.num, .int .i64 (ra.den : Int)] from rfl]
    refine WL.ef rfl rfl (by decide) (Ef.alloc tab_ok rfl rfl (fun b6 => ?_))
    first | refine WL.efN rfl rfl (Ef.store0 0 tab_ok rfl rfl rfl rfl rfl rfl rfl rfl ?_) | refine WL.efN rfl rfl (Ef.store0 1 tab_ok rfl rfl rfl rfl rfl rfl rfl rfl ?_) | refine WL.efN rfl rfl (Ef.store0 2 tab_ok rfl rfl rfl rfl rfl rfl rfl rfl ?_) | refine WL.efN rfl rfl (Ef.store0 3 tab_ok rfl rfl rfl rfl rfl rfl rfl rfl ?_) | refine WL.efN rfl rfl (Ef.store0 4 tab_ok rfl rfl rfl rfl rfl rfl rfl rfl ?_) | refine WL.efN rfl rfl (Ef.store0 5 tab_ok rfl rfl rfl rfl rfl rfl rfl rfl ?_) | refine WL.efN rfl rfl (Ef.store0 6 tab_ok rfl rfl rfl rfl rfl rfl rfl rfl ?_) | refine WL.efN rfl rfl (Ef.store0 7 tab_ok rfl rfl rfl rfl rfl rfl rfl rfl ?_) | refine WL.efN rfl rfl (Ef.store0 8 tab_ok rfl rfl rfl rfl rfl rfl rfl rfl ?_)
    refine WG.nil ?_
    refine WE.nxt ?_
    refine W.seqCut (β := Rat × Nat) (fun (q, cn) => InQ q 1073741820 12) (fun (q, cn) => [(0, true, .string (str s)), (5, true, .pointer (some ⟨b, 0, none⟩)), (6, true, .pointer (some ⟨b6, 0, none⟩))]) (fun _ => R) (fun (q, cn) => [.blk b6 [.int .i64 q.num, .int .i64 (q.den : Int)], srcE b a c (xs.take 2000) cn]) ?_ ?_
    ·
      intro zz hst
      obtain ⟨q, cn⟩ := zz
      have iq : InQ q 1073741820 12 := hst
      dsimp only
      have vq := validF_frQ (iq.mono (show 1073741820 ≤ 1073741824 by decide) (show 12 ≤ 1073741824 by decide))
      refine W.seq ?_
      refine W.region _ ?_
      refine' WG.y rfl rfl (by decide) (Yl.load1 tab_ok rfl rfl rfl (fun _ => rfl) ?r1 rfl ?h1) ?_
      case r1 => (first | exact Rd.blk 0 rfl | exact Rd.blk 1 rfl | exact Rd.blk 2 rfl | exact Rd.blk 3 rfl | exact Rd.blk 4 rfl | exact Rd.blk 5 rfl | exact Rd.blk 6 rfl | exact Rd.blk 7 rfl | exact Rd.blk 8 rfl)
      case h1 => rfl
      refine WG.callV en34 rfl rfl (by decide) (CallOp.mk' rfl rfl rfl rfl) (fun _ => rfl) (fun hg => Format01_V (x := frQ q) hG (inr_frQ iq (by decide) (by decide))) ?_
      refine WG.callV (v := .tuple #[.agg #[.int .i64 q.num, .int .i64 (q.den : Int)], .int .i64 0]) en33 rfl rfl (by decide) (CallOp.mk' rfl rfl rfl rfl) (fun _ => rfl) (fun hg => by
        have h := Parse01_V (R := R) hG hE (s := fmtF (frQ q)) (by have := fmtF_le vq; omega)
        rw [parse_fmt vq] at h
        exact h) ?_
      refine WG.run tab_ok 3 rfl ?_
      refine WL.ef rfl rfl (by decide) (Ef.alloc tab_ok rfl rfl (fun b7 => ?_))
      first | refine WL.efN rfl rfl (Ef.store0 0 tab_ok rfl rfl rfl rfl rfl rfl rfl rfl ?_) | refine WL.efN rfl rfl (Ef.store0 1 tab_ok rfl rfl rfl rfl rfl rfl rfl rfl ?_) | refine WL.efN rfl rfl (Ef.store0 2 tab_ok rfl rfl rfl rfl rfl rfl rfl rfl ?_) | refine WL.efN rfl rfl (Ef.store0 3 tab_ok rfl rfl rfl rfl rfl rfl rfl rfl ?_) | refine WL.efN rfl rfl (Ef.store0 4 tab_ok rfl rfl rfl rfl rfl rfl rfl rfl ?_) | refine WL.efN rfl rfl (Ef.store0 5 tab_ok rfl rfl rfl rfl rfl rfl rfl rfl ?_) | refine WL.efN rfl rfl (Ef.store0 6 tab_ok rfl rfl rfl rfl rfl rfl rfl rfl ?_) | refine WL.efN rfl rfl (Ef.store0 7 tab_ok rfl rfl rfl rfl rfl rfl rfl rfl ?_) | refine WL.efN rfl rfl (Ef.store0 8 tab_ok rfl rfl rfl rfl rfl rfl rfl rfl ?_)
      refine WG.run tab_ok 1 rfl ?_
      refine WG.nil ?_
      refine WE.nxt ?_
      refine W.seq ?_
      refine W.seq ?_
      refine W.region _ ?_
      refine WG.run tab_ok 3 rfl ?_
      refine WL.guardT rfl (by first | rfl | decide | simp) ?_
      refine' WG.y rfl rfl (by decide) (Yl.load1 tab_ok rfl rfl rfl (fun _ => rfl) ?r2 rfl ?h2) ?_
      case r2 => (first | exact Rd.blk 0 rfl | exact Rd.blk 1 rfl | exact Rd.blk 2 rfl | exact Rd.blk 3 rfl | exact Rd.blk 4 rfl | exact Rd.blk 5 rfl | exact Rd.blk 6 rfl | exact Rd.blk 7 rfl | exact Rd.blk 8 rfl)
      case h2 => rfl
      refine WL.guardT rfl (by first | rfl | decide | simp) ?_
      refine' WG.y rfl rfl (by decide) (Yl.load1 tab_ok rfl rfl rfl (fun _ => rfl) ?r3 rfl ?h3) ?_
      case r3 => (first | exact Rd.blk 0 rfl | exact Rd.blk 1 rfl | exact Rd.blk 2 rfl | exact Rd.blk 3 rfl | exact Rd.blk 4 rfl | exact Rd.blk 5 rfl | exact Rd.blk 6 rfl | exact Rd.blk 7 rfl | exact Rd.blk 8 rfl)
      case h3 => rfl
      refine WL.guardT rfl (by first | rfl | decide | simp) ?_
      refine WG.y rfl rfl (by decide) (Yl.neDuo duo51 rfl rfl rfl (fun _ => rfl)) ?_
      refine WG.y rfl rfl (by decide) (Yl.por rfl rfl rfl (fun _ => rfl) (by intro h1 h2; simp_all <;> omega)) ?_
      refine WG.nil ?_
      refine WE.nxt ?_
      refine W.cond rfl (fun hc1 => ?_) (fun hc1 => ?_)
      · try simp only [decide_eq_true_eq, decide_eq_false_iff_not, beq_iff_eq, bne_iff_ne, beq_eq_false_iff_ne, bne_eq_false_iff_eq, ne_eq, Bool.or_eq_true, Bool.or_eq_false_iff, Bool.and_eq_true, Bool.and_eq_false_imp, Bool.not_eq_true, Bool.not_eq_true', Bool.not_eq_false', Classical.not_not, Int.not_lt, Int.not_le, gt_iff_lt, ge_iff_le] at hc1
        exfalso; revert hc1; simp
      · try simp only [decide_eq_true_eq, decide_eq_false_iff_not, beq_iff_eq, bne_iff_ne, beq_eq_false_iff_ne, bne_eq_false_iff_eq, ne_eq, Bool.or_eq_true, Bool.or_eq_false_iff, Bool.and_eq_true, Bool.and_eq_false_imp, Bool.not_eq_true, Bool.not_eq_true', Bool.not_eq_false', Classical.not_not, Int.not_lt, Int.not_le, gt_iff_lt, ge_iff_le] at hc1
        refine W.skip ?_
        refine WE.nxt ?_
        refine W.seq ?_
        refine W.seq ?_
        refine W.region _ ?_
        refine WG.run tab_ok 1 rfl ?_
        refine WG.callV (v := .tuple #[.agg #[.int .i64 (parseF s).1.1, .int .i64 (parseF s).1.2], .int .i64 (parseF s).2]) en33 rfl rfl (by decide) (CallOp.mk' rfl rfl rfl rfl) (fun _ => rfl) (fun hg => Parse01_V hG hE (s := s) (by omega)) ?_
        refine WG.run tab_ok 3 rfl ?_
        refine WL.ef rfl rfl (by decide) (Ef.alloc tab_ok rfl rfl (fun b9 => ?_))
        first | refine WL.efN rfl rfl (Ef.store0 0 tab_ok rfl rfl rfl rfl rfl rfl rfl rfl ?_) | refine WL.efN rfl rfl (Ef.store0 1 tab_ok rfl rfl rfl rfl rfl rfl rfl rfl ?_) | refine WL.efN rfl rfl (Ef.store0 2 tab_ok rfl rfl rfl rfl rfl rfl rfl rfl ?_) | refine WL.efN rfl rfl (Ef.store0 3 tab_ok rfl rfl rfl rfl rfl rfl rfl rfl ?_) | refine WL.efN rfl rfl (Ef.store0 4 tab_ok rfl rfl rfl rfl rfl rfl rfl rfl ?_) | refine WL.efN rfl rfl (Ef.store0 5 tab_ok rfl rfl rfl rfl rfl rfl rfl rfl ?_) | refine WL.efN rfl rfl (Ef.store0 6 tab_ok rfl rfl rfl rfl rfl rfl rfl rfl ?_) | refine WL.efN rfl rfl (Ef.store0 7 tab_ok rfl rfl rfl rfl rfl rfl rfl rfl ?_) | refine WL.efN rfl rfl (Ef.store0 8 tab_ok rfl rfl rfl rfl rfl rfl rfl rfl ?_)
        refine WG.run tab_ok 1 rfl ?_
        refine WG.nil ?_
        refine WE.nxt ?_
        refine W.seq ?_
        refine W.region _ ?_
        refine WG.run tab_ok 3 rfl ?_
        refine' WG.y rfl rfl (by decide) (Yl.loadG tab_ok rfl rfl rfl (by first | exact fun _ => rfl | exact fun h => h | (intro h; simp_all)) ?r4 rfl ?h4 ?g4) ?_
        case r4 => (first | exact Rd.blkC 0 rfl | exact Rd.blkC 1 rfl | exact Rd.blkC 2 rfl | exact Rd.blkC 3 rfl | exact Rd.blkC 4 rfl | exact Rd.blkC 5 rfl | exact Rd.blkC 6 rfl | exact Rd.blkC 7 rfl | exact Rd.blkC 8 rfl)
        case h4 => rfl
        case g4 => first | exact fun _ => trivial | (intro hg; (try simp only [decide_eq_true_eq, decide_eq_false_iff_not, beq_iff_eq, bne_iff_ne, beq_eq_false_iff_ne, bne_eq_false_iff_eq, ne_eq, Bool.or_eq_true, Bool.or_eq_false_iff, Bool.and_eq_true, Bool.and_eq_false_imp, Bool.not_eq_true, Bool.not_eq_true', Bool.not_eq_false', Classical.not_not, Int.not_lt, Int.not_le, gt_iff_lt, ge_iff_le] at hg); (try dsimp only); omega)
        refine WG.callV en34 rfl rfl (by decide) (CallOp.mk' rfl rfl rfl rfl) (by first | exact fun _ => rfl | exact fun h => h | (intro h; simp_all)) (fun hg => Format01_V (x := (parseF s).1) hG ⟨(parse_in s).1, (parse_in s).2.1⟩) ?_
        refine WG.y rfl rfl (by decide) (pureV_ok tab_ok rfl (by first | exact fun _ => rfl | exact fun h => h | (intro h; simp_all))) ?_
        refine WG.y rfl rfl (by decide) (Yl.neS rfl rfl rfl (by first | exact fun _ => rfl | exact fun h => h | (intro h; simp_all))) ?_
        refine WG.y rfl rfl (by decide) (pureV_ok tab_ok rfl (by first | exact fun _ => rfl | exact fun h => h | (intro h; simp_all))) ?_
        refine' WG.y rfl rfl (by decide) (Yl.loadG tab_ok rfl rfl rfl (by first | exact fun _ => rfl | exact fun h => h | (intro h; simp_all)) ?r5 rfl ?h5 ?g5) ?_
        case r5 => (first | exact Rd.blkC 0 rfl | exact Rd.blkC 1 rfl | exact Rd.blkC 2 rfl | exact Rd.blkC 3 rfl | exact Rd.blkC 4 rfl | exact Rd.blkC 5 rfl | exact Rd.blkC 6 rfl | exact Rd.blkC 7 rfl | exact Rd.blkC 8 rfl)
        case h5 => rfl
        case g5 => first | exact fun _ => trivial | (intro hg; (try simp only [decide_eq_true_eq, decide_eq_false_iff_not, beq_iff_eq, bne_iff_ne, beq_eq_false_iff_ne, bne_eq_false_iff_eq, ne_eq, Bool.or_eq_true, Bool.or_eq_false_iff, Bool.and_eq_true, Bool.and_eq_false_imp, Bool.not_eq_true, Bool.not_eq_true', Bool.not_eq_false', Classical.not_not, Int.not_lt, Int.not_le, gt_iff_lt, ge_iff_le] at hg); (try dsimp only); omega)
        refine WG.callV en35 rfl rfl (by decide) (CallOp.mk' rfl rfl rfl rfl) (by first | exact fun _ => rfl | exact fun h => h | (intro h; simp_all)) (fun hg => Valid01_V (x := (parseF s).1) ⟨(parse_in s).1, (parse_in s).2.1⟩) ?_
        refine WG.y rfl rfl (by decide) (pureV_ok tab_ok rfl (by first | exact fun _ => rfl | exact fun h => h | (intro h; simp_all))) ?_
        refine WG.y rfl rfl (by decide) (Yl.por rfl rfl rfl (by first | exact fun _ => rfl | exact fun h => h | (intro h; simp_all)) (by intro h1 h2; simp_all <;> omega)) ?_
        refine WG.y rfl rfl (by decide) (Yl.pand rfl rfl rfl (fun _ => rfl) (by intro h1 h2; simp_all <;> omega)) ?_
        refine WG.nil ?_
        refine WE.nxt ?_
        refine W.cond rfl (fun hc2 => ?_) (fun hc2 => ?_)
        · try simp only [decide_eq_true_eq, decide_eq_false_iff_not, beq_iff_eq, bne_iff_ne, beq_eq_false_iff_ne, bne_eq_false_iff_eq, ne_eq, Bool.or_eq_true, Bool.or_eq_false_iff, Bool.and_eq_true, Bool.and_eq_false_imp, Bool.not_eq_true, Bool.not_eq_true', Bool.not_eq_false', Classical.not_not, Int.not_lt, Int.not_le, gt_iff_lt, ge_iff_le] at hc2
          exfalso
          by_cases h0 : (parseF s).2 = 0
          · obtain ⟨h1, h2⟩ := parse_ok (s := s) (x := (parseF s).1) (Prod.ext rfl h0)
            rw [h2, h1] at hc2
            simp at hc2
          · simp [h0] at hc2
        · try simp only [decide_eq_true_eq, decide_eq_false_iff_not, beq_iff_eq, bne_iff_ne, beq_eq_false_iff_ne, bne_eq_false_iff_eq, ne_eq, Bool.or_eq_true, Bool.or_eq_false_iff, Bool.and_eq_true, Bool.and_eq_false_imp, Bool.not_eq_true, Bool.not_eq_true', Bool.not_eq_false', Classical.not_not, Int.not_lt, Int.not_le, gt_iff_lt, ge_iff_le] at hc2
          refine W.skip ?_
          refine WE.nxt ?_
          refine W.seq ?_
          refine W.region _ ?_
          refine WL.call en31 rfl rfl (by decide) (CallOp.mkT rfl rfl rfl rfl) (Awake01_C hG w0 _) ?_
          rintro _ R9 E9 hR9 ⟨rfl, hsub9⟩
          refine WL.subE hsub9 ?_
          refine WG.run tab_ok 1 rfl ?_
          refine WG.nil ?_
          refine WE.nxt ?_
          refine W.ret ?_
          refine WE.retF tab_ok [_] rfl ⟨rfl, trivial⟩ (by first | exact RLe.refl _ | exact hR9) ?_
          exact rfl
    ·
      refine W.seq ?_
      refine W.region _ ?_
      refine WG.run tab_ok 1 rfl ?_
      refine WL.callAt 1 en19 rfl rfl (by decide) (CallOp.mkT rfl rfl rfl rfl) rfl (N_C w0 hz (by constructor <;> decide) _) ?_
      rintro _ _ _ _ - ⟨rfl, rfl, rfl, rfl⟩
      refine WG.run tab_ok 1 rfl ?_
      refine WG.nil ?_
      refine WE.nxt ?_
      refine W.condE rfl (fun hc3 => ?_) (fun hc3 => ?_)
      · try dsimp only at hc3
        have hr1 := ra.num; have hr2 := ia.1
        refine W.region _ ?_
        refine WG.run tab_ok 1 rfl ?_
        refine' WG.y rfl rfl (by decide) (Yl.load1 tab_ok rfl rfl rfl (fun _ => rfl) ?r6 rfl ?h6) ?_
        case r6 => apply Rd.add; (first | exact Rd.blk 0 rfl | exact Rd.blk 1 rfl | exact Rd.blk 2 rfl | exact Rd.blk 3 rfl | exact Rd.blk 4 rfl | exact Rd.blk 5 rfl | exact Rd.blk 6 rfl | exact Rd.blk 7 rfl | exact Rd.blk 8 rfl)
        case h6 => rfl
        refine WG.y rfl rfl (by decide) (Yl.neg rfl rfl (fun _ => rfl) (by intro _; constructor <;> (try dsimp only) <;> omega)) ?_
        refine WG.run tab_ok 1 rfl ?_
        first | refine WL.efN rfl rfl (Ef.store 0 tab_ok rfl rfl rfl rfl rfl rfl rfl rfl ?_) | refine WL.efN rfl rfl (Ef.store 1 tab_ok rfl rfl rfl rfl rfl rfl rfl rfl ?_) | refine WL.efN rfl rfl (Ef.store 2 tab_ok rfl rfl rfl rfl rfl rfl rfl rfl ?_) | refine WL.efN rfl rfl (Ef.store 3 tab_ok rfl rfl rfl rfl rfl rfl rfl rfl ?_) | refine WL.efN rfl rfl (Ef.store 4 tab_ok rfl rfl rfl rfl rfl rfl rfl rfl ?_) | refine WL.efN rfl rfl (Ef.store 5 tab_ok rfl rfl rfl rfl rfl rfl rfl rfl ?_) | refine WL.efN rfl rfl (Ef.store 6 tab_ok rfl rfl rfl rfl rfl rfl rfl rfl ?_) | refine WL.efN rfl rfl (Ef.store 7 tab_ok rfl rfl rfl rfl rfl rfl rfl rfl ?_) | refine WL.efN rfl rfl (Ef.store 8 tab_ok rfl rfl rfl rfl rfl rfl rfl rfl ?_)
        refine WG.nil ?_
        refine WE.cut (-ra, 0 + 1 + 1 + 1) (by show InQ (-ra) 1073741820 12; exact ⟨by show (-ra.num).natAbs ≤ 1073741820; have := ia.1; omega, ia.2⟩) ⟨rfl, rfl, rfl, rfl⟩ (RLe.refl _) (by (repeat (first | exact List.Sublist.refl _ | exact List.nil_sublist _ | apply List.Sublist.cons_cons | apply List.Sublist.cons)); done)
      · try dsimp only at hc3
        refine W.skip ?_
        refine WE.cut (ra, 0 + 1 + 1 + 1) ia ⟨rfl, rfl, rfl, rfl⟩ (RLe.refl _) (by (repeat (first | exact List.Sublist.refl _ | exact List.nil_sublist _ | apply List.Sublist.cons_cons | apply List.Sublist.cons)); done)

end Go.Proofs.YtjacpnojnoompaaDoor

/- A law over a list of numbers: from its contract to its row. No condition. -/
namespace Go.Proofs.YtjacpnojnoompaaDoor.K
open Go Go.RowKit

theorem mem0 (W : World) : Mem W W (fun _ => none) [] :=
  ⟨Below.refl _ W, fun b cs h => (by cases h), fun e he => (by cases he), fun e he => (by cases he), List.Pairwise.nil⟩
theorem encI_flat : ∀ (zs : List Int), (zs.map encI).flatten = zs.map (Value.int .i64)
  | [] => rfl
  | z :: zs => by simp [encI, encI_flat zs]
theorem rs_of_ints {W : World} {a : Addr} {zs : List Int} (hcell : ∀ i, i < zs.length → W.cell? (a.add i) = some (.int .i64 (zs.getD i 0))) (hl : zs.length ≤ 9223372036854775807) :
    ∃ R, Mem W W R [] ∧ RS R 1 encI (some a) zs := by
  by_cases h0 : zs = []
  · subst h0
    exact ⟨_, mem0 W, by simp, .inl rfl, by simp⟩
  · have hpos : 0 < zs.length := List.length_pos_iff.2 h0
    have h1 := hcell 0 hpos
    unfold World.cell? at h1
    cases hh : W.heap[(a.add 0).block]? with
    | none => simp [hh] at h1
    | some o =>
      cases o with
      | cells arr T fz =>
        have hs : a.spot = none := by
          simp only [hh] at h1
          cases hsp : a.spot with
          | none => rfl
          | some x => simp [Addr.add, hsp] at h1
        have hb : (a.add 0).block = a.block := rfl
        rw [hb] at hh
        refine ⟨fun b => if b = a.block then some arr.toList else none, ⟨Below.refl _ W, fun b cs h => ?_, fun e he => (by cases he), fun e he => (by cases he), List.Pairwise.nil⟩, by simp [encI], .inr ⟨a.block, a.off, arr.toList, ?_, by simp, fun j v hv => ?_⟩, by simpa using hl⟩
        · by_cases hba : b = a.block
          · subst hba
            simp at h; subst h
            exact ⟨T, fz, by simpa using hh⟩
          · simp [hba] at h
        · cases a; simp only at hs; subst hs; rfl
        · rw [encI_flat] at hv
          have hj : j < zs.length := by
            have := (List.getElem?_eq_some_iff.1 hv).1
            simpa using this
          have h2 := hcell j hj
          unfold World.cell? at h2
          have hbj : (a.add j).block = a.block := by unfold Addr.add; split <;> rfl
          have hsj : (a.add j).spot = a.spot := by unfold Addr.add; split <;> simp [hs]
          have hoj : (a.add j).off = a.off + j := by unfold Addr.add; split <;> simp [*]
          rw [hbj, hh] at h2
          simp only [hsj, hs, hoj] at h2
          rw [List.getElem?_map, List.getElem?_eq_getElem hj] at hv
          simp only [Option.map_some, Option.some.injEq] at hv
          subst hv
          have e1 : zs.getD j 0 = zs[j] := by simp [List.getD, List.getElem?_eq_getElem hj]
          rw [e1] at h2
          simpa using h2
      | _ => simp [hh] at h1

/-- a contract over a list of numbers, seen from outside -/
def LawI (P : Program) (f : FuncId) : Prop := ∀ {R : Ro} {a : Option Addr} {c : Nat} {xs : List Int}, RS R 1 encI a xs → xs.length ≤ c → ∀ w0, Fn P f [.slice a xs.length c] w0 R [] (fun v _ _ => v = .bool true)
theorem LawI.nil {P : Program} {f : FuncId} (h : LawI P f) (W : World) : Calls P f #[.slice none 0 0] W fun e W' => e = .returned (.bool true) ∧ Below W.heap.size W W' := by
  refine (h (R := fun _ => none) (a := none) (c := 0) (xs := []) ⟨by simp, .inl rfl, by simp⟩ (Nat.le_refl _) W W (mem0 W)).mono ?_
  rintro e w' ⟨v, R', E', rfl, _, hm, rfl⟩
  exact ⟨rfl, hm.below⟩
theorem LawI.some {P : Program} {f : FuncId} (h : LawI P f) {W : World} {a : Addr} {len cap : Nat} {zs : List Int} (hcell : ∀ i, i < zs.length → W.cell? (a.add i) = some (.int .i64 (zs.getD i 0))) (hl : zs.length ≤ 9223372036854775807) (hz : zs.length = cap) (hc : len ≤ cap) :
    Calls P f #[.slice (some a) len cap] W fun e W' => e = .returned (.bool true) ∧ Below W.heap.size W W' := by
  obtain ⟨R, hm, hr⟩ := rs_of_ints hcell hl
  have hr := hr.take len
  have hlen : (zs.take len).length = len := by simp; omega
  have := h (c := cap) hr (by omega) W W hm
  rw [hlen] at this
  refine this.mono ?_
  rintro e w' ⟨v, R', E', rfl, _, hm, rfl⟩
  exact ⟨rfl, hm.below⟩
end Go.Proofs.YtjacpnojnoompaaDoor.K

/- A law over any data: from its contract to its row. No condition. -/
namespace Go.Proofs.YtjacpnojnoompaaDoor.K
open Go Go.RowKit Go.ChangeShapes Go.WideShapes Go.ChangeAt Go.WideElems Go.Maps

/-- all that lies in memory, as what is read only -/
def roOf (W : World) : Ro := fun b => match W.heap[b]? with
  | some (.cells arr _ _) => some arr.toList
  | _ => none
theorem memAll (W : World) : Mem W W (roOf W) [] := by
  refine ⟨Below.refl _ W, fun b cs h => ?_, fun e he => (by cases he), fun e he => (by cases he), List.Pairwise.nil⟩
  unfold roOf at h
  split at h
  · rename_i arr T fz hh
    simp only [Option.some.injEq] at h
    subst h
    exact ⟨T, fz, by simpa using hh⟩
  · cases h
def ints (z : List Int) : List Value := z.map (Value.int .i64)
/-- rows of numbers that lie in memory -/
theorem rsl_of {W : World} {k : Nat} {a : Addr} {zss : List (List Int)} (hk : 0 < k) (hl : ∀ z ∈ zss, z.length = k) (hm : zss.length ≤ 9223372036854775807)
    (hc : ∀ i z, zss[i]? = some z → ∀ j v, (ints z)[j]? = some v → W.cell? (a.add (i * k + j)) = some v) : RSl (roOf W) k (some a) (zss.map ints) := by
  have hlen : ∀ r ∈ zss.map ints, r.length = k := fun r hr => by
    obtain ⟨z, hz, rfl⟩ := List.mem_map.1 hr
    simp [ints, hl z hz]
  by_cases h0 : zss = []
  · subst h0
    exact ⟨by simp, .inl rfl, by simp⟩
  · have hpos : 0 < zss.length := List.length_pos_iff.2 h0
    have hz0 : (ints zss[0]).length = k := by simp [ints, hl _ (List.getElem_mem hpos)]
    have h1 := hc 0 zss[0] (List.getElem?_eq_getElem hpos) 0 ((ints zss[0])[0]'(by omega)) (List.getElem?_eq_getElem (by omega))
    rw [Nat.zero_mul, Nat.zero_add] at h1
    unfold World.cell? at h1
    cases hh : W.heap[(a.add 0).block]? with
    | none => simp [hh] at h1
    | some o =>
      cases o with
      | cells arr T fz =>
        have hs : a.spot = none := by
          simp only [hh] at h1
          cases hsp : a.spot with
          | none => rfl
          | some x => simp [Addr.add, hsp] at h1
        have hb : (a.add 0).block = a.block := rfl
        rw [hb] at hh
        refine ⟨hlen, .inr ⟨a.block, a.off, arr.toList, ?_, ?_, fun m v hv => ?_⟩, by simpa using hm⟩
        · cases a; simp only at hs; subst hs; rfl
        · unfold roOf; rw [hh]
        · have hmlt : m < (zss.map ints).flatten.length := (List.getElem?_eq_some_iff.1 hv).1
          rw [flatten_len hlen, List.length_map] at hmlt
          have hi : m / k < zss.length := Nat.div_lt_of_lt_mul (by rw [Nat.mul_comm]; exact hmlt)
          have hj : m % k < k := Nat.mod_lt _ hk
          have hzi := hl _ (List.getElem_mem hi)
          have hg := flatten_get hlen (i := m / k) (j := m % k) (row := ints zss[m / k]) (v := (ints zss[m / k])[m % k]'(by simp [ints, hzi, hj])) (by rw [List.getElem?_map, List.getElem?_eq_getElem hi]; rfl) (List.getElem?_eq_getElem _)
          have hme : m / k * k + m % k = m := by rw [Nat.mul_comm]; exact Nat.div_add_mod m k
          rw [hme, hv] at hg
          have hv' : v = (ints zss[m / k])[m % k]'(by simp [ints, hzi, hj]) := by simpa using hg
          have h2 := hc (m / k) _ (List.getElem?_eq_getElem hi) (m % k) v (by rw [hv']; exact List.getElem?_eq_getElem _)
          rw [hme] at h2
          unfold World.cell? at h2
          have hbj : (a.add m).block = a.block := by unfold Addr.add; split <;> rfl
          have hsj : (a.add m).spot = a.spot := by unfold Addr.add; split <;> simp [hs]
          have hoj : (a.add m).off = a.off + m := by unfold Addr.add; split <;> simp [*]
          rw [hbj, hh] at h2
          simp only [hsj, hs, hoj] at h2
          simpa using h2
      | _ => simp [hh] at h1

section
variable {H : Type} {enc : TypeId × Value → H} {P : Program} {W : World} {spare : Nat → Bool}
/-- elements that are k numbers -/
def Flat (enc : TypeId × Value → H) (P : Program) (e k : Nat) : Prop := ∀ (W : World) (spare : Nat → Bool) (fuel : Nat) (cs : List Value) (x : DataW H × List MemPlace), DataW.trod enc P W 0 spare true fuel e cs = some x → ∃ z : List Int, z.length = k ∧ cs = ints z ∧ ∀ n ∈ z, InR n
theorem flat_int {e : Nat} (he : P.underlying e = some (.int .i64)) : Flat enc P e 1 := by
  intro W spare fuel cs x h
  obtain ⟨n, rfl, _, hw⟩ := DataW.trod_int he h
  exact ⟨[n], rfl, rfl, fun m hm => (by
    have e : m = n := by simpa using hm
    rw [e]; exact bounds_i64 hw)⟩
theorem open_flat {t e k : Nat} {v : Value} {d : DataW H} {ps : List MemPlace} (ht : P.underlying t = some (.slice e)) (hk : 0 < k) (hce : P.cellsOf e = k) (hfl : Flat enc P e k)
    (hval : Value.okWide P W .any 0 t v) (h : DataW.Trod enc P W 0 spare true t v d ps) :
    ∃ (a : Option Addr) (cap : Nat) (zss : List (List Int)), v = .slice a zss.length cap ∧ zss.length ≤ cap ∧ (∀ z ∈ zss, z.length = k) ∧ RSl (roOf W) k a (zss.map ints) ∧ ∀ z ∈ zss, ∀ n ∈ z, InR n := by
  obtain ⟨a0, len, cap, rfl⟩ := okWide_slice ht hval
  obtain ⟨fuel, hf⟩ := h
  rcases Go.Deep.open_slice ht hf with ⟨hcs, _⟩ | ⟨a, len', cap', m, n, D, Pl, hcs, _, hl, hm, hmm, _, hx⟩
  · simp [Value.cells] at hcs
    obtain ⟨rfl, rfl, rfl⟩ := hcs
    exact ⟨none, 0, [], rfl, Nat.le_refl _, by simp, ⟨by simp, .inl rfl, by simp⟩, by simp⟩
  · simp [Value.cells] at hcs
    obtain ⟨rfl, rfl, rfl⟩ := hcs
    have hlm : len ≤ m := by rw [hmm]; split <;> omega
    have each : ∀ i, i < len → ∃ z : List Int, z.length = k ∧ (∀ j v, (ints z)[j]? = some v → W.cell? (a.add (i * k + j)) = some v) ∧ ∀ n ∈ z, InR n := by
      intro i hi
      obtain ⟨cs', h1, h2⟩ := hx i (by omega)
      rw [hce] at h1
      obtain ⟨_, hlen, hcell⟩ := World.cells?_some h1
      obtain ⟨z, hz, rfl, hr⟩ := hfl W spare n cs' _ h2
      refine ⟨z, hz, fun j v hj => ?_, hr⟩
      have hjk : j < k := by have := (List.getElem?_eq_some_iff.1 hj).1; simp [ints, hz] at this; exact this
      have := hcell j hjk
      rw [addr_add_add] at this
      rw [this, hj]
    have hch : ∃ f : Nat → List Int, ∀ i, i < len → (f i).length = k ∧ (∀ j v, (ints (f i))[j]? = some v → W.cell? (a.add (i * k + j)) = some v) ∧ ∀ n ∈ f i, InR n :=
      ⟨fun i => if h : i < len then (each i h).choose else [], fun i hi => by simp only [hi, dif_pos]; exact (each i hi).choose_spec⟩
    obtain ⟨f, hf'⟩ := hch
    have hlen : ((List.range len).map f).length = len := by simp
    refine ⟨some a, cap, (List.range len).map f, by rw [hlen], by rw [hlen]; exact hl, fun z hz => ?_, ?_, fun z hz => ?_⟩
    · obtain ⟨i, hi, rfl⟩ := List.mem_map.1 hz
      exact (hf' i (by simpa using hi)).1
    · refine rsl_of hk (fun z hz => ?_) (by rw [hlen]; simp only [maxLen] at hm; omega) (fun i z hi => ?_)
      · obtain ⟨i, hi, rfl⟩ := List.mem_map.1 hz
        exact (hf' i (by simpa using hi)).1
      · have hil : i < len := by have := (List.getElem?_eq_some_iff.1 hi).1; simpa using this
        have : z = f i := by simp [List.getElem?_map, hil] at hi; exact hi.symm
        subst this
        exact (hf' i hil).2.1
    · obtain ⟨i, hi, rfl⟩ := List.mem_map.1 hz
      exact (hf' i (by simpa using hi)).2.2

/-- typed -/
theorem RS.ofFlat {α : Type} {_i : Inhabited α} {R : Ro} {k : Nat} {en : α → List Value} {dec : List Int → α} {a : Option Addr} {zss : List (List Int)} (h : RSl R k a (zss.map ints)) (hl : ∀ z ∈ zss, z.length = k) (hd : ∀ z : List Int, z.length = k → en (dec z) = ints z) :
    RS (_i := _i) R k en a (zss.map dec) := by
  unfold RS
  have : (zss.map dec).map en = zss.map ints := by
    rw [List.map_map]
    exact List.map_congr_left fun z hz => hd z (hl z hz)
  rw [this]; exact h

theorem carryAll (hl : laidOutB P = true) {W W' : World} : ∀ {ts : List TypeId} {vs : List Value} {ds : List (DataW H)} {ps : List MemPlace}, ts.all (fun t => P.readableRec t && decide (t < P.types.size)) = true → DataW.TrodAll enc P W 0 (fun _ => true) true ts vs ds ps → Below W.heap.size W W' → (∀ x ∈ ps, x.block < W.heap.size) →
    DataW.TrodAll enc P W' 0 (fun b => decide (b < W.heap.size)) true ts vs ds ps
  | [], vs, ds, ps, _, h, _, _ => by
    obtain ⟨rfl, rfl, rfl⟩ := trodAll_nil h
    exact trodAll_mk0
  | t :: ts, vs, ds, ps, hr, h, hb, hlt => by
    obtain ⟨v, vs', d, ds', p, q, rfl, rfl, rfl, h1, h2⟩ := trodAll_cons h
    simp only [List.all_cons, Bool.and_eq_true, decide_eq_true_eq] at hr
    exact ⟨p, q, Below.trod hl hr.1.1 hr.1.2 h1 hb (fun x hx => hlt x (by simp [hx])), carryAll hl (by simpa using hr.2) h2 hb (fun x hx => hlt x (by simp [hx])), rfl⟩
end
/-- a contract, seen from outside -/
theorem lift_calls {P : Program} {f : FuncId} {args : List Value} {W : World} (h : Fn P f args W (roOf W) [] (fun v _ _ => v = .bool true)) : Calls P f args.toArray W fun e W' => e = .returned (.bool true) ∧ Below W.heap.size W W' := by
  refine (h W (memAll W)).mono ?_
  rintro e w' ⟨v, R', E', rfl, _, hm, rfl⟩
  exact ⟨rfl, hm.below⟩
def decI (z : List Int) : Int := z.headD 0
theorem decI_enc : ∀ z : List Int, z.length = 1 → encI (decI z) = ints z
  | [x], _ => rfl
  | [], h => by simp at h
  | _ :: _ :: _, h => by simp at h
def decP : List Int → M.Pkt
  | [a, b, c] => ⟨a, b, c⟩
  | _ => ⟨0, 0, 0⟩
end Go.Proofs.YtjacpnojnoompaaDoor.K

/- Any flat data: a law whose road reads package-level variables: all that exists when the call begins is read only; the builder that hands on the list of the variables and the shape of the world. No condition. -/
namespace Go.Proofs.YtjacpnojnoompaaDoor.K
open Go Go.RowKit

theorem ro_cell {W : World} {b : Nat} {v : Value} (h : W.cell? ⟨b, 0, none⟩ = some v) : ∃ rest, roOf W b = some (v :: rest) := by
  unfold World.cell? at h
  unfold roOf
  cases hh : W.heap[b]? with
  | none => simp [hh] at h
  | some o =>
    cases o with
    | cells arr T fz =>
      simp only [hh] at h ⊢
      obtain ⟨l⟩ := arr
      cases l with
      | nil => simp at h
      | cons x l => simp at h; subst h; exact ⟨l, rfl⟩
    | _ => simp [hh] at h
theorem ro_var {P : Program} {W : World} {name : String} {g : Nat} {cs : Array Value} (hg : P.globalNamed name = some g) (h : W.var? P name = some cs) : roOf W g = some cs.toList := by
  unfold World.var? at h
  simp only [hg, Option.bind_some] at h
  unfold roOf
  split at h
  · simp only [Option.some.injEq] at h; subst h; simp [*]
  · cases h

theorem returnsInHanded_laidB {H : Type} {enc : TypeId × Value → H} {a : Assume} {C : Checked} {os : Os} {f : FuncId} {fn : Func} {s : ChangeSpec} {conds : List PathCond} {apart fresh handsOn again : Bool} {X : World → Array Value → Prop}
    (hX : ∀ (w w' : World) (args : Array Value), w.heap = w'.heap → X w args → X w' args)
    (own : ownKnob C.prog.godebug = none) (started : os.Started) (noInit : C.prog.inits.idxOf? f = none) (hfn : C.prog.funcs[f]? = some fn)
    (witness : ∃ (w : World) (tape : Tape) (i : Input), w.os = os ∧ (w.forCall tape i).Shaped C.prog ∧ i.vars = [] ∧ Input.okWide C.prog (w.forCall tape i) .any w.heap.size f i ∧
      ((s.pre enc C.prog fn conds apart (w.forCall tape i).memory i.args ∧ X (w.forCall tape i).memory i.args) ∧ sizedMet enc C.prog fn (OpenSpec.ofChange s) apart (w.forCall tape i).memory i.args) ∧ a.holds C.prog (lone (Frame.enter C.prog f i.args .normal) [] (w.forCall tape i)))
    (contract : ∀ (W : World) (base : Nat) (args : Array Value) (ds gs : List (DataW H)) (before : List MemPlace),
      (∀ (j : Nat) t v, fn.params[j]? = some t → args[j]? = some v → Value.okWide C.prog W .any base t v) →
      DataW.Whole enc C.prog fn.params.toList s.vars apart W args.toList ds gs before →
      conds.all (PathCond.test C.prog ⟨fn.params.toList, ds, s.plain.varTypes C.prog, gs⟩) = true →
      X W args → W.ShapedOpen C.prog →
      Calls C.prog f args W fun e W' => ∃ v, e = .returned v ∧ s.post enc C.prog fn apart fresh handsOn again W args v W') :
    ReturnsInHanded a C os f .any (fun w args => (s.pre enc C.prog fn conds apart w args ∧ X w args) ∧ sizedMet enc C.prog fn (OpenSpec.ofChange s) apart w args) (s.post enc C.prog fn apart fresh handsOn again) := by
  refine returnsInHanded_of_calls own started noInit witness ?_
  intro w tape i _ hsh _ hok hpre hholds
  obtain ⟨_, _, _, fn', hfn', _, _, _, _, hval⟩ := hok
  have e : fn' = fn := Option.some.inj (hfn'.symm.trans hfn)
  subst e
  obtain ⟨⟨⟨ds, gs, before, hw, hc⟩, hx⟩, hz⟩ := hpre
  have hw' := DataW.Whole.of_heap (w' := w.forCall tape i) (by rfl) hw
  refine (contract (w.forCall tape i) w.heap.size i.args ds gs before hval hw' hc (hX _ _ _ (by rfl) hx) hsh).mono fun e W' ⟨v, he, hp⟩ => ?_
  subst he
  exact ChangeSpec.post_blind hp
end Go.Proofs.YtjacpnojnoompaaDoor.K

/- From the list of the variables to what the walks know of them. No condition. -/
namespace Go.Proofs.YtjacpnojnoompaaDoor
open Go Go.RowKit Go.Proofs.YtjacpnojnoompaaDoor.K
theorem starE : "*" ++ "errors.errorString" = "*errors.errorString" := by decide
def laidL : List (String × DataW Unit) := Rows.fractionFieldRow.laid
theorem glob_of {W : World} (hsh : W.ShapedOpen Tryd.prog) (hL : laidMetH Tryd.prog laidL W) : Glob (roOf W) ∧ GlobE (roOf W) := by
  unfold laidL Rows.fractionFieldRow at hL
  dsimp only at hL
  rw [MakeChecks.laidMetH_plain _ _ _ (by kernel_rfl)] at hL
  have h3 := hL.tail.tail
  have ht : (Rows.laid_internal_strconv_uint64pow10 : DataW Unit) = Lib.tabData .u64 Lib.pow10Tab := by kernel_rfl
  have h3b := h3
  rw [ht] at h3b
  have h4 := Lib.tabIs_of_head (g := 3) (t := 128) (e := 88) (n := 20) (by kernel_rfl) (by kernel_rfl) Tryd.underlying128 Tryd.underlying88 (by kernel_rfl) (by kernel_rfl) h3b
  have h5 := ro_var (P := Tryd.prog) (g := 3) (by kernel_rfl) h4
  have h6 := h3.tail
  have h7 := h6.tail
  have hrow : ∀ u, Tryd.prog.typeName? 3 u = some "*errors.errorString" → u = 124 := fun u hu => typeName_ptr_named (P := Tryd.prog) (nm := "errors.errorString") (by rw [starE]; kernel_rfl) (by kernel_rfl) (by decide) u (by rw [starE]; exact hu)
  obtain ⟨a1, s1, e1, _, _, _⟩ := laid_sentinel (g := 2) (ti := 82) (tp := 124) (te := 126) (ts := 9) h6 (by kernel_rfl) (by kernel_rfl) Tryd.underlying82 hrow Tryd.underlying124 Tryd.underlying126 rfl rfl Tryd.underlying9 (by kernel_rfl) (by kernel_rfl)
  obtain ⟨a2, s2, e2, _, _, _⟩ := laid_sentinel (g := 1) (ti := 82) (tp := 124) (te := 126) (ts := 9) h7 (by kernel_rfl) (by kernel_rfl) Tryd.underlying82 hrow Tryd.underlying124 Tryd.underlying126 rfl rfl Tryd.underlying9 (by kernel_rfl) (by kernel_rfl)
  refine ⟨⟨?_, ?_⟩, ⟨?_, ?_⟩⟩
  · obtain ⟨m, hm⟩ := Go.Proofs.cell_of_shapedOpen_int (g := 0) (zero := #[.int .i64 0]) (t := 3) hsh (of_decide_eq_true (by kernel_rfl)) (by kernel_rfl) rfl (by kernel_rfl) (by kernel_rfl) Tryd.underlying3
    obtain ⟨rest, hr⟩ := ro_cell hm
    exact ⟨m, rest, hr⟩
  · rw [h5]
  · exact ⟨_, _, ro_var (P := Tryd.prog) (g := 1) (by kernel_rfl) e2⟩
  · exact ⟨_, _, ro_var (P := Tryd.prog) (g := 2) (by kernel_rfl) e1⟩
end Go.Proofs.YtjacpnojnoompaaDoor

/- FractionTexts: for every input the law returns true, and the input reads afterwards as it read before; the listed variables of the library start as its text lays them. -/
namespace Go.Proofs.YtjacpnojnoompaaDoor
open Go Go.RowKit Go.ChangeShapes Go.WideShapes Go.ChangeAt Go.WideElems Go.Maps Go.Proofs.YtjacpnojnoompaaDoor.K Go.Proofs.YtjacpnojnoompaaDoor.M
open Go.ChangeMaps (open_string shut_string)
namespace fractionTexts
theorem own : ownKnob Tryd.prog.godebug = none := by kernel_rfl
theorem laidOut : laidOutB Tryd.prog = true := by kernel_rfl
theorem readable : (Tryd.f7.params.toList).all (fun t => Tryd.prog.readableRec t && decide (t < Tryd.prog.types.size)) = true := by kernel_rfl
section
variable {H : Type} {enc : TypeId × Value → H}
theorem flat_ints : Flat enc Tryd.prog 3 1 := flat_int Tryd.underlying3
theorem cells_ints : Tryd.prog.cellsOf 3 = 1 := by kernel_rfl
end
theorem door_met (os : Os) (args : Array Value) : laidMetH Tryd.prog laidL ((World.doorLaid Tryd.prog 72 os).forCall (fun _ _ => 0) ⟨#[], args, []⟩).memory :=
  laidMetH_of_parts3 (fuel := 8) (laidMet_of_run' 8 (by kernel_rfl) (by kernel_rfl)) (by kernel_rfl) (by kernel_rfl)
set_option maxRecDepth 100000 in
theorem lifted (os : Os) (started : os.Started) (H : Type) (enc : TypeId × Value → H) :
    ReturnsInHanded {} Tryd.checked os 7 .any (fun w args => (Rows.fractionTextsSpec.pre enc Tryd.prog Tryd.f7 [] false w args ∧ laidMetH Tryd.prog laidL w) ∧ sizedMet enc Tryd.prog Tryd.f7 (OpenSpec.ofChange Rows.fractionTextsSpec) false w args)
      (Rows.fractionTextsSpec.post enc Tryd.prog Tryd.f7 false true false false) := by
  refine returnsInHanded_laidB (C := Tryd.checked) (X := fun w _ => laidMetH Tryd.prog laidL w) (fun _ _ _ hh h => h.of_heap hh) own started (by kernel_rfl) Tryd.func7
    (ChangeSpec.witness_shaped (enc := enc) (C := Tryd.checked) (os := os) (X := fun w _ => laidMetH Tryd.prog laidL w) false (World.doorLaid Tryd.prog 72 os) #[.string ⟨#[]⟩, .slice none 0 0] 8 rfl (World.shaped_of_RefB (by kernel_rfl) (by kernel_rfl)) (by kernel_rfl) (by kernel_rfl) (by kernel_rfl) (door_met os _)) ?_
  intro W base args ds gs before hval0 hW _ hL hsh
  obtain ⟨hG, hE⟩ := glob_of hsh hL
  have hval : ∀ (j : Nat) t v, Tryd.f7.params[j]? = some t → args[j]? = some v → Value.okWide Tryd.prog W .any base t v := hval0
  have hW' := hW
  obtain ⟨p, q, hA0, hV, rfl, _, _⟩ := hW
  have hA : DataW.TrodAll enc Tryd.prog W 0 (fun _ => true) true Tryd.f7.params.toList args.toList ds p := hA0
  have hA1 := hA
  obtain ⟨rfl, rfl⟩ := trodVars_none hV
  simp only [List.append_nil] at hW'
  have hlt : ∀ x ∈ p, x.block < W.heap.size := fun x hx => by simpa using hW'.lt x hx
  have hcarry : ∀ W', Below W.heap.size W W' → DataW.TrodAll enc Tryd.prog W' 0 (fun b => decide (b < W.heap.size)) true Tryd.f7.params.toList args.toList ds p := fun W' hb => carryAll laidOut readable hA1 hb hlt
  clear hA0 hval0 hA1
  rw [Tryd.params7] at hA
  obtain ⟨v0, vs0, d0, ds0, p0, q0, e0, rfl, e20, h0, t0⟩ := trodAll_cons hA
  obtain ⟨v1, vs1, d1, ds1, p1, q1, rfl, rfl, e21, h1, t1⟩ := trodAll_cons t0
  obtain ⟨rfl, rfl, _⟩ := trodAll_nil t1
  have hargs : args = #[v0, v1] := by rw [← Array.toArray_toList (xs := args), e0]
  subst hargs
  obtain ⟨s0, rfl, _, _, w0⟩ := open_string Tryd.underlying9 (hval 0 9 _ rfl rfl) h0
  obtain ⟨a1, cp1, zs1, rfl, c1, l1, m1, r1⟩ := open_flat Tryd.underlying22 (by decide) cells_ints flat_ints (hval 1 22 _ rfl rfl) h1
  have g1 : RS (roOf W) 1 encI a1 (zs1.map decI) := RS.ofFlat m1 l1 decI_enc
  have n1 : (zs1.map decI).length = zs1.length := by simp
  rw [← n1] at c1
  have hcall := lift_calls (P := Tryd.prog) (f := 7) (args := [.string s0, .slice a1 (zs1.map decI).length cp1]) (W := W) (by have h := FractionTexts_F (s := s0.data.toList) g1 hG hE c1 W; rw [← str_of s0] at h; exact h)
  simp only [List.length_map] at hcall
  refine hcall.mono fun e W' ⟨he, hb⟩ => ?_
  subst he
  exact ⟨_, rfl, ⟨_, _, _, [], _, [], hW', trodAll_mk1 (shut_bool Tryd.underlying4 _), hcarry W' hb, rfl, hb.frame _, fun h => by cases h⟩⟩
end fractionTexts
theorem fractionTexts_holds : Rows.FractionTextsSaid :=
  OpenClaim.holds_of_wide 7 Tryd.f7 rfl rfl rfl rfl rfl rfl rfl ⟨rfl, rfl, rfl, rfl, rfl⟩ rfl rfl rfl rfl rfl (by kernel_rfl) Tryd.func7 (by kernel_rfl)
    (of_decide_eq_true (by kernel_rfl)) (by unfold Func.isWrapper; first | (rw [if_pos (by decide +kernel)]; kernel_rfl) | (rw [if_neg (by decide +kernel)]; exact ⟨rfl, rfl⟩))
    (fun os started H enc _ => fractionTexts.lifted os started H enc)
theorem fractionTexts_card : Rows.FractionTextsCardSaid :=
  Claim7.holds_tied_plain_at .later [] [.data, .data, .data, .sentinel, .sentinel] true (true, "213b891203c229090194b21b738cbee38597a5feec4cee3bd091f8bcbc36b95e") true
    fractionTexts_holds (fun _ h => by cases h) (by kernel_rfl) (fun _ h => by cases h) fractionTexts_row_tie rfl ⟨rfl, rfl⟩ (by kernel_rfl) rfl
    (fun f fn hf hfn => by
      obtain rfl : f = 7 := Option.some.inj ((show Tryd.prog.funcNamed Tryd.f7.name = some 7 by kernel_rfl).symm.trans hf) |>.symm
      obtain rfl : fn = Tryd.f7 := (Option.some.inj (Tryd.func7.symm.trans hfn)).symm
      exact ⟨by kernel_rfl, fun j t ht => by
        rw [Tryd.params7] at ht
        have hm : t ∈ [9, 22] := by simpa using Array.mem_of_getElem? ht
        have hall : ([9, 22].all fun u => !Tryd.prog.wantsStandIn u) = true := by kernel_rfl
        exact (show Tryd.prog.wantsStandIn t = false by simpa using List.all_eq_true.1 hall t hm)⟩)
    (by kernel_rfl)
end Go.Proofs.YtjacpnojnoompaaDoor
