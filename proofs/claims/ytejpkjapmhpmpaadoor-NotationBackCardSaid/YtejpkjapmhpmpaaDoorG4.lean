/- Rules and walks, joined from 10 texts: the first of them says: A small curve that a statement makes. No condition. -/
import Derived.Test.YtejpkjapmhpmpaaDoorG3
import Derived.Laws.Pointers
import Derived.Lib.Builder
import Derived.Lib.AppendStr
import Derived.Laws.Externs
import Derived.Laws.BytesString
import Derived.Laws.IdiomStrings
import Derived.Laws.Runes
import Derived.WalkSmall
import Derived.Defers
import Derived.Recover
/- A small curve that a statement makes. No condition. -/
set_option maxRecDepth 4000
set_option linter.unusedSimpArgs false
set_option linter.unusedVariables false
namespace Go.Proofs.YtejpkjapmhpmpaaDoor
open Go Go.RowKit Go.Proofs.YtejpkjapmhpmpaaDoor.K Go.Proofs.YtejpkjapmhpmpaaDoor.M

set_option maxHeartbeats 4000000 in
theorem KCurve_C {R : Ro} {b : Nat} {a : Option Addr} {cp : Nat} {xs : List Int} {c : Nat} (w0 : World) (ha : RS R 1 encI a xs) {most : Nat} (hmo : 1 ≤ most ∧ most ≤ 20) : FnAt Tryd.prog 10 [.pointer (some ⟨b, 0, none⟩), .int .i64 (most : Int)] w0 R (srcE b a cp xs c) (fun v R' e' N => ∃ (f : Option Addr) (fc cn : Nat) (cv : Cv), v = .agg #[.slice f cv.vals.length fc, .int .i64 cv.per, .int .i64 cv.inc] ∧ RS R' 1 encI f cv.vals ∧ SmallC cv ∧ cv.vals.length ≤ fc ∧ e' = srcE b a cp xs cn ∧ N = []) := by
 intro F
 have hm0 := mod_range (nth xs c) (show (1 : Int) ≤ (most : Int) by omega)
 obtain ⟨n, hn⟩ := Int.eq_ofNat_of_zero_le (show 0 ≤ 1 + mod (nth xs c) (most : Int) by omega)
 have hn20 : 1 ≤ n ∧ n ≤ 20 := by omega
 refine fE 77 Tryd.func10 ?_
 refine zQ (zG ?_)
 refine zA fun b4 => ?_
 refine zN (zU (zQ (zG (zR 2 rfl ?_))))
 refine WL.callAt 1 en12 rfl rfl qD (CallOp.mkT rfl rfl rfl rfl) rfl (N_C w0 ha (by constructor <;> omega) _) ?_
 rintro _ _ _ _ - ⟨rfl, rfl, rfl, rfl⟩
 refine yA ?_
 rw [hn]
 refine zR 1 rfl (zN (zU (zQ (zG (zR 3 rfl ?_)))))
 refine WL.callAt 1 en12 rfl rfl qD (CallOp.mkT rfl rfl rfl rfl) rfl (N_C w0 ha (by constructor <;> split <;> omega) _) ?_
 rintro _ _ _ _ - ⟨rfl, rfl, rfl, rfl⟩
 have hm1 := mod_range (nth xs (c + 1)) (show (1 : Int) ≤ (if (4 : Int) < (n : Int) then 4 else (n : Int)) by split <;> omega)
 obtain ⟨P, hP⟩ := Int.eq_ofNat_of_zero_le (show 0 ≤ 1 + mod (nth xs (c + 1)) (if (4 : Int) < (n : Int) then 4 else (n : Int)) by omega)
 have hP4 : 1 ≤ P ∧ P ≤ 4 ∧ P ≤ n := by generalize mod (nth xs (c + 1)) (if (4 : Int) < (n : Int) then 4 else (n : Int)) = q at hm1 hP; split at hm1 <;> omega
 refine yA ?_
 rw [hP]
 -- build
 refine WG.y rfl rfl qD (Yl.build (parts := [(1, .tmp 17)]) tab_ok rfl rfl rfl rfl (fun _ => rfl) rfl rfl) ?_
 refine zA fun b6 => ?_
 first | refine WL.efN rfl rfl (Ef.store0 0 tab_ok rfl rfl rfl rfl rfl rfl rfl rfl ?_) | refine WL.efN rfl rfl (Ef.store0 1 tab_ok rfl rfl rfl rfl rfl rfl rfl rfl ?_) | refine WL.efN rfl rfl (Ef.store0 2 tab_ok rfl rfl rfl rfl rfl rfl rfl rfl ?_) | refine WL.efN rfl rfl (Ef.store0 3 tab_ok rfl rfl rfl rfl rfl rfl rfl rfl ?_) | refine WL.efN rfl rfl (Ef.store0 4 tab_ok rfl rfl rfl rfl rfl rfl rfl rfl ?_) | refine WL.efN rfl rfl (Ef.store0 5 tab_ok rfl rfl rfl rfl rfl rfl rfl rfl ?_) | refine WL.efN rfl rfl (Ef.store0 6 tab_ok rfl rfl rfl rfl rfl rfl rfl rfl ?_)
 refine zN (zU (zQ (zG (zR 1 rfl ?_))))
 refine WL.ef rfl rfl qD (Ef.buildSliceD (enc := encI) (parts := [.const (.int .i64 0), .const (.int .i64 0), .const (.int .i64 0), .const (.int .i64 3)]) [_, _, _, _] tab_ok rfl rfl rfl rfl rfl rfl rfl rfl qD qD (fun a20 => ?_))
 refine WL.callAt 3 en33 rfl rfl qD (CallOp.mkT rfl rfl rfl rfl) rfl (PickM_C (j := 0) w0 ([0, 0, 0, 3] : List Int) rfl qD qD ha rfl) ?_
 rintro _ _ _ _ - ⟨rfl, rfl, rfl, rfl⟩
 obtain ⟨v0, hv0⟩ : ∃ v, nth ([0, 0, 0, 3] : List Int) (mod (nth xs (c + 1 + 1)) ((4 : Nat) : Int)).toNat = v := ⟨_, rfl⟩
 have hv03 : 0 ≤ v0 ∧ v0 ≤ 3 := by
  have hm2 := mod_range (nth xs (c + 1 + 1)) (show (1 : Int) ≤ ((4 : Nat) : Int) by decide)
  rw [← hv0]
  exact nth_in (by decide) (by simp only [List.length_cons, List.length_nil]; omega)
 rw [hv0]
 refine zR 1 rfl (zN (zU (zQ ?_)))
 refine W.nil 3 1 qD ?_
 refine zQ (zG (zR 1 rfl (zN (zU (zB ?_)))))
 refine W.loopK (β := Nat × Option Addr × Nat) (fun (i, a8, c8) => i ≤ n) (fun (i, a8, c8) => [(7, true, .int .i64 ((upV xs (c + 3) v0) i)), (8, true, .int .i64 (i : Int))]) [0, 4, 5, 6] [_, _, _, _] [] _ rfl (fun (i, a8, c8) => [(0, .sl 3 1 a8 c8 ((fvals (upV xs (c + 3) v0) i).map encI)), (2, .blk b6 [.slice a8 (fvals (upV xs (c + 3) v0) i).length c8, .int .i64 (P : Int), .int .i64 0]), (4, srcE b a cp xs (c + 3 + i))]) (fun (i, a8, c8) => n - i) ((0, none, 0)) (Nat.zero_le _) ⟨rfl, rfl, rfl, rfl, rfl, rfl, rfl⟩ qS ?_
 intro st hst
 obtain ⟨i, a8, c8⟩ := st
 dsimp only [zipE, setAll, List.cons_append, List.nil_append, List.set_cons_zero, List.set_cons_succ] at hst ⊢
 have hUb := upV_bound xs (c + 3) v0 i
 have hUl := fvals_len (upV xs (c + 3) v0) i
 refine zQ (zQ (zG (zR 3 rfl (zN (zU ?_)))))
 refine W.condD rfl (fun hc0 => ?_) (fun hc0 => ?_)
 ·try dsimp only at hc0
  have hil : i < n := by omega
  have hpk : 0 ≤ nth ([0, 0, 1, 2, 5, 9] : List Int) (mod (nth xs (c + 3 + i)) ((6 : Nat) : Int)).toNat ∧ nth ([0, 0, 1, 2, 5, 9] : List Int) (mod (nth xs (c + 3 + i)) ((6 : Nat) : Int)).toNat ≤ 9 := by
   have hm2 := mod_range (nth xs (c + 3 + i)) (show (1 : Int) ≤ ((6 : Nat) : Int) by decide)
   exact nth_in (by decide) (by simp only [List.length_cons, List.length_nil]; omega)
  refine zK (zU (zQ (zB (zQ (zG (zR 1 rfl ?_))))))
  refine' WG.y rfl rfl qD (Yl.load1 tab_ok rfl rfl rfl (fun _ => rfl) ?r1 rfl ?h1) ?_
  case r1 => apply Rd.add; (first | exact Rd.blk 0 rfl | exact Rd.blk 1 rfl | exact Rd.blk 2 rfl | exact Rd.blk 3 rfl | exact Rd.blk 4 rfl | exact Rd.blk 5 rfl | exact Rd.blk 6 rfl)
  case h1 => rfl
  refine zR 1 rfl ?_
  refine WL.ef rfl rfl qD (Ef.buildSliceD (enc := encI) (parts := [.tmp 29]) [_] tab_ok rfl rfl rfl rfl rfl rfl rfl rfl qD qD (fun a30 => ?_))
  first | refine WL.ef rfl rfl (by decide) (Ef.appendD 1 0 tab_ok rfl rfl rfl rfl rfl rfl rfl rfl rfl rfl rfl (fun _ _ => rfl) (by simp only [List.length_cons, List.length_nil]; omega) (by simp only [List.length_cons, List.length_nil]; omega) (fun a31 c31 ha31 => ?_)) | refine WL.ef rfl rfl (by decide) (Ef.appendD 2 0 tab_ok rfl rfl rfl rfl rfl rfl rfl rfl rfl rfl rfl (fun _ _ => rfl) (by simp only [List.length_cons, List.length_nil]; omega) (by simp only [List.length_cons, List.length_nil]; omega) (fun a31 c31 ha31 => ?_)) | refine WL.ef rfl rfl (by decide) (Ef.appendD 3 0 tab_ok rfl rfl rfl rfl rfl rfl rfl rfl rfl rfl rfl (fun _ _ => rfl) (by simp only [List.length_cons, List.length_nil]; omega) (by simp only [List.length_cons, List.length_nil]; omega) (fun a31 c31 ha31 => ?_)) | refine WL.ef rfl rfl (by decide) (Ef.appendD 4 0 tab_ok rfl rfl rfl rfl rfl rfl rfl rfl rfl rfl rfl (fun _ _ => rfl) (by simp only [List.length_cons, List.length_nil]; omega) (by simp only [List.length_cons, List.length_nil]; omega) (fun a31 c31 ha31 => ?_)) | refine WL.ef rfl rfl (by decide) (Ef.appendD 5 0 tab_ok rfl rfl rfl rfl rfl rfl rfl rfl rfl rfl rfl (fun _ _ => rfl) (by simp only [List.length_cons, List.length_nil]; omega) (by simp only [List.length_cons, List.length_nil]; omega) (fun a31 c31 ha31 => ?_)) | refine WL.ef rfl rfl (by decide) (Ef.appendD 6 0 tab_ok rfl rfl rfl rfl rfl rfl rfl rfl rfl rfl rfl (fun _ _ => rfl) (by simp only [List.length_cons, List.length_nil]; omega) (by simp only [List.length_cons, List.length_nil]; omega) (fun a31 c31 ha31 => ?_)) | refine WL.ef rfl rfl (by decide) (Ef.appendR 0 tab_ok rfl rfl rfl rfl rfl rfl rfl rfl rfl rfl (by assumption) (fun _ _ => rfl) (by (try dsimp only); omega) (by omega) (fun a31 c31 ha31 => ?_)) | refine WL.ef rfl rfl (by decide) (Ef.appendR 1 tab_ok rfl rfl rfl rfl rfl rfl rfl rfl rfl rfl (by assumption) (fun _ _ => rfl) (by (try dsimp only); omega) (by omega) (fun a31 c31 ha31 => ?_)) | refine WL.ef rfl rfl (by decide) (Ef.appendR 2 tab_ok rfl rfl rfl rfl rfl rfl rfl rfl rfl rfl (by assumption) (fun _ _ => rfl) (by (try dsimp only); omega) (by omega) (fun a31 c31 ha31 => ?_)) | refine WL.ef rfl rfl (by decide) (Ef.appendR 3 tab_ok rfl rfl rfl rfl rfl rfl rfl rfl rfl rfl (by assumption) (fun _ _ => rfl) (by (try dsimp only); omega) (by omega) (fun a31 c31 ha31 => ?_)) | refine WL.ef rfl rfl (by decide) (Ef.appendR 4 tab_ok rfl rfl rfl rfl rfl rfl rfl rfl rfl rfl (by assumption) (fun _ _ => rfl) (by (try dsimp only); omega) (by omega) (fun a31 c31 ha31 => ?_)) | refine WL.ef rfl rfl (by decide) (Ef.appendR 5 tab_ok rfl rfl rfl rfl rfl rfl rfl rfl rfl rfl (by assumption) (fun _ _ => rfl) (by (try dsimp only); omega) (by omega) (fun a31 c31 ha31 => ?_)) | refine WL.ef rfl rfl (by decide) (Ef.appendR 6 tab_ok rfl rfl rfl rfl rfl rfl rfl rfl rfl rfl (by assumption) (fun _ _ => rfl) (by (try dsimp only); omega) (by omega) (fun a31 c31 ha31 => ?_))
  refine zR 1 rfl ?_
  first | refine WL.efN rfl rfl (Ef.store 0 tab_ok rfl rfl rfl rfl rfl rfl rfl rfl ?_) | refine WL.efN rfl rfl (Ef.store 1 tab_ok rfl rfl rfl rfl rfl rfl rfl rfl ?_) | refine WL.efN rfl rfl (Ef.store 2 tab_ok rfl rfl rfl rfl rfl rfl rfl rfl ?_) | refine WL.efN rfl rfl (Ef.store 3 tab_ok rfl rfl rfl rfl rfl rfl rfl rfl ?_) | refine WL.efN rfl rfl (Ef.store 4 tab_ok rfl rfl rfl rfl rfl rfl rfl rfl ?_) | refine WL.efN rfl rfl (Ef.store 5 tab_ok rfl rfl rfl rfl rfl rfl rfl rfl ?_) | refine WL.efN rfl rfl (Ef.store 6 tab_ok rfl rfl rfl rfl rfl rfl rfl rfl ?_)
  refine zN (zU (zG (zR 2 rfl ?_)))
  refine WL.ef rfl rfl qD (Ef.buildSliceD (enc := encI) (parts := [.const (.int .i64 0), .const (.int .i64 0), .const (.int .i64 1), .const (.int .i64 2), .const (.int .i64 5), .const (.int .i64 9)]) [_, _, _, _, _, _] tab_ok rfl rfl rfl rfl rfl rfl rfl rfl qD qD (fun a35 => ?_))
  refine WL.callAt 6 en33 rfl rfl qD (CallOp.mkT rfl rfl rfl rfl) rfl (PickM_C (j := 0) w0 ([0, 0, 1, 2, 5, 9] : List Int) rfl qD qD ha rfl) ?_
  rintro _ _ _ _ - ⟨rfl, rfl, rfl, rfl⟩
  refine yA ?_
  refine zR 1 rfl (zN (zL (zU (zG (zR 1 rfl ?_)))))
  refine yA ?_
  refine zR 1 rfl (zN ?_)
  refine WE.again ((i + 1, a31, c31)) (by dsimp only; omega) (by (try dsimp only); omega) ⟨rfl, rfl, rfl, rfl, rfl, rfl, rfl⟩ (RLe.refl _) (by dsimp only [setAll, List.set_cons_zero, List.set_cons_succ]; rw [fvals_snoc, List.length_append]; exact qS)
 ·try dsimp only at hc0
  obtain hin : i = n := by omega
  rw [hin] at hUb hUl ⊢
  have hVl : (fvals (upV xs (c + 3) v0) n).length = n := hUl
  have hx1 : nth (fvals (upV xs (c + 3) v0) n) ((n : Int) - 1).toNat = (upV xs (c + 3) v0) (n - 1) := by rw [show ((n : Int) - 1).toNat = n - 1 by omega, fvals_nth _ (by omega)]
  have hx2 : nth (fvals (upV xs (c + 3) v0) n) ((n : Int) - (P : Int)).toNat = (upV xs (c + 3) v0) (n - P) := by rw [show ((n : Int) - (P : Int)).toNat = n - P by omega, fvals_nth _ (by omega)]
  have hgap := upV_gap xs (c + 3) v0 (n - P) (P - 1)
  rw [show n - P + (P - 1) = n - 1 by omega] at hgap
  have hmo2 := upV_mono xs (c + 3) v0 (show n - P ≤ n - 1 by omega)
  have hb1 := upV_bound xs (c + 3) v0 (n - 1)
  have hb2 := upV_bound xs (c + 3) v0 (n - P)
  have hpi : 0 ≤ nth ([0, 0, 1, 3, 4, 8] : List Int) (mod (nth xs (c + 3 + n)) ((6 : Nat) : Int)).toNat ∧ nth ([0, 0, 1, 3, 4, 8] : List Int) (mod (nth xs (c + 3 + n)) ((6 : Nat) : Int)).toNat ≤ 8 := by
   have hm2 := mod_range (nth xs (c + 3 + n)) (show (1 : Int) ≤ ((6 : Nat) : Int) by decide)
   exact nth_in (by decide) (by simp only [List.length_cons, List.length_nil]; omega)
  refine zX ?_
  refine wx (wx (zY (zU ?_)))
  refine W.seqCut (β := Int) (fun I => 0 ≤ I ∧ (upV xs (c + 3) v0) (n - 1) - (upV xs (c + 3) v0) (n - P) ≤ I ∧ I ≤ 50) (fun I => [(0, true, .pointer (some ⟨b, 0, none⟩)), (4, true, .pointer (some ⟨b4, 0, none⟩)), (6, true, .pointer (some ⟨b6, 0, none⟩))]) (fun _ => R) (fun I => .sl 3 1 a8 c8 ((fvals (upV xs (c + 3) v0) n).map encI) :: .blk b6 [.slice a8 (fvals (upV xs (c + 3) v0) n).length c8, .int .i64 (P : Int), .int .i64 I] :: .blk b4 [.slice none 0 0, .int .i64 0, .int .i64 0] :: srcE b a cp xs (c + 3 + n + 1) :: F) ?_ ?_
  ·
   intro I hst
   obtain ⟨hI0, hI1, hI2⟩ := hst
   refine zQ (zQ (zG (zR 1 rfl ?_)))
   refine WL.callAt 3 en12 rfl rfl qD (CallOp.mkT rfl rfl rfl rfl) rfl (N_C w0 ha (by constructor <;> omega) _) ?_
   rintro _ _ _ _ - ⟨rfl, rfl, rfl, rfl⟩
   refine zN (zU (zB (zQ (zG (zR 2 rfl (zN (zU ?_)))))))
   refine W.condE rfl (fun hc1 => ?_) (fun hc1 => ?_)
   ·try dsimp only at hc1
    refine zG (zR 1 rfl ?_)
    refine' WG.y rfl rfl qD (Yl.load1 tab_ok rfl rfl rfl (fun _ => rfl) ?r2 rfl ?h2) ?_
    case r2 => apply Rd.add; (first | exact Rd.blk 0 rfl | exact Rd.blk 1 rfl | exact Rd.blk 2 rfl | exact Rd.blk 3 rfl | exact Rd.blk 4 rfl | exact Rd.blk 5 rfl | exact Rd.blk 6 rfl)
    case h2 => rfl
    refine WL.ef rfl rfl qD (Ef.buildSliceD (enc := encI) (parts := [.const (.int .i64 4611686018427387904)]) [_] tab_ok rfl rfl rfl rfl rfl rfl rfl rfl qD qD (fun a64 => ?_))
    first | refine WL.ef rfl rfl (by decide) (Ef.appendD 1 0 tab_ok rfl rfl rfl rfl rfl rfl rfl rfl rfl rfl rfl (fun _ _ => rfl) (by simp only [List.length_cons, List.length_nil]; omega) (by simp only [List.length_cons, List.length_nil]; omega) (fun a65 c65 ha65 => ?_)) | refine WL.ef rfl rfl (by decide) (Ef.appendD 2 0 tab_ok rfl rfl rfl rfl rfl rfl rfl rfl rfl rfl rfl (fun _ _ => rfl) (by simp only [List.length_cons, List.length_nil]; omega) (by simp only [List.length_cons, List.length_nil]; omega) (fun a65 c65 ha65 => ?_)) | refine WL.ef rfl rfl (by decide) (Ef.appendD 3 0 tab_ok rfl rfl rfl rfl rfl rfl rfl rfl rfl rfl rfl (fun _ _ => rfl) (by simp only [List.length_cons, List.length_nil]; omega) (by simp only [List.length_cons, List.length_nil]; omega) (fun a65 c65 ha65 => ?_)) | refine WL.ef rfl rfl (by decide) (Ef.appendD 4 0 tab_ok rfl rfl rfl rfl rfl rfl rfl rfl rfl rfl rfl (fun _ _ => rfl) (by simp only [List.length_cons, List.length_nil]; omega) (by simp only [List.length_cons, List.length_nil]; omega) (fun a65 c65 ha65 => ?_)) | refine WL.ef rfl rfl (by decide) (Ef.appendD 5 0 tab_ok rfl rfl rfl rfl rfl rfl rfl rfl rfl rfl rfl (fun _ _ => rfl) (by simp only [List.length_cons, List.length_nil]; omega) (by simp only [List.length_cons, List.length_nil]; omega) (fun a65 c65 ha65 => ?_)) | refine WL.ef rfl rfl (by decide) (Ef.appendD 6 0 tab_ok rfl rfl rfl rfl rfl rfl rfl rfl rfl rfl rfl (fun _ _ => rfl) (by simp only [List.length_cons, List.length_nil]; omega) (by simp only [List.length_cons, List.length_nil]; omega) (fun a65 c65 ha65 => ?_)) | refine WL.ef rfl rfl (by decide) (Ef.appendR 0 tab_ok rfl rfl rfl rfl rfl rfl rfl rfl rfl rfl (by assumption) (fun _ _ => rfl) (by (try dsimp only); omega) (by omega) (fun a65 c65 ha65 => ?_)) | refine WL.ef rfl rfl (by decide) (Ef.appendR 1 tab_ok rfl rfl rfl rfl rfl rfl rfl rfl rfl rfl (by assumption) (fun _ _ => rfl) (by (try dsimp only); omega) (by omega) (fun a65 c65 ha65 => ?_)) | refine WL.ef rfl rfl (by decide) (Ef.appendR 2 tab_ok rfl rfl rfl rfl rfl rfl rfl rfl rfl rfl (by assumption) (fun _ _ => rfl) (by (try dsimp only); omega) (by omega) (fun a65 c65 ha65 => ?_)) | refine WL.ef rfl rfl (by decide) (Ef.appendR 3 tab_ok rfl rfl rfl rfl rfl rfl rfl rfl rfl rfl (by assumption) (fun _ _ => rfl) (by (try dsimp only); omega) (by omega) (fun a65 c65 ha65 => ?_)) | refine WL.ef rfl rfl (by decide) (Ef.appendR 4 tab_ok rfl rfl rfl rfl rfl rfl rfl rfl rfl rfl (by assumption) (fun _ _ => rfl) (by (try dsimp only); omega) (by omega) (fun a65 c65 ha65 => ?_)) | refine WL.ef rfl rfl (by decide) (Ef.appendR 5 tab_ok rfl rfl rfl rfl rfl rfl rfl rfl rfl rfl (by assumption) (fun _ _ => rfl) (by (try dsimp only); omega) (by omega) (fun a65 c65 ha65 => ?_)) | refine WL.ef rfl rfl (by decide) (Ef.appendR 6 tab_ok rfl rfl rfl rfl rfl rfl rfl rfl rfl rfl (by assumption) (fun _ _ => rfl) (by (try dsimp only); omega) (by omega) (fun a65 c65 ha65 => ?_))
    -- build
    refine WG.y rfl rfl qD (Yl.build (parts := [(0, .tmp 65), (1, .const (.int .i64 1))]) tab_ok rfl rfl rfl rfl (fun _ => rfl) rfl rfl) ?_
    first | refine WL.efN rfl rfl (Ef.store0 0 tab_ok rfl rfl rfl rfl rfl rfl rfl rfl ?_) | refine WL.efN rfl rfl (Ef.store0 1 tab_ok rfl rfl rfl rfl rfl rfl rfl rfl ?_) | refine WL.efN rfl rfl (Ef.store0 2 tab_ok rfl rfl rfl rfl rfl rfl rfl rfl ?_) | refine WL.efN rfl rfl (Ef.store0 3 tab_ok rfl rfl rfl rfl rfl rfl rfl rfl ?_) | refine WL.efN rfl rfl (Ef.store0 4 tab_ok rfl rfl rfl rfl rfl rfl rfl rfl ?_) | refine WL.efN rfl rfl (Ef.store0 5 tab_ok rfl rfl rfl rfl rfl rfl rfl rfl ?_) | refine WL.efN rfl rfl (Ef.store0 6 tab_ok rfl rfl rfl rfl rfl rfl rfl rfl ?_)
    refine WL.cap 1 rfl ?_
    intro hcp
    rw [List.length_map] at hcp
    refine WL.freeze (enc := encI) (xs := (fvals (upV xs (c + 3) v0) n) ++ [4611686018427387904]) 1 rfl ?_
    intro R1 hR1 hfz
    have hsm := small_inf (F := (upV xs (c + 3) v0)) (n := n) (by omega) (by have := upV_bound xs (c + 3) v0 0; omega) (fun t => (upV_step xs (c + 3) v0 t).1) (fun t ht => by have := upV_bound xs (c + 3) v0 t; omega)
    refine zN (zL (zU (zQ (zG ?_))))
    refine' WG.y rfl rfl qD (Yl.load1 tab_ok rfl rfl rfl (fun _ => rfl) ?r3 rfl ?h3) ?_
    case r3 => (first | exact Rd.blk 0 rfl | exact Rd.blk 1 rfl | exact Rd.blk 2 rfl | exact Rd.blk 3 rfl | exact Rd.blk 4 rfl | exact Rd.blk 5 rfl | exact Rd.blk 6 rfl)
    case h3 => rfl
    first | refine WL.efN rfl rfl (Ef.store0 0 tab_ok rfl rfl rfl rfl rfl rfl rfl rfl ?_) | refine WL.efN rfl rfl (Ef.store0 1 tab_ok rfl rfl rfl rfl rfl rfl rfl rfl ?_) | refine WL.efN rfl rfl (Ef.store0 2 tab_ok rfl rfl rfl rfl rfl rfl rfl rfl ?_) | refine WL.efN rfl rfl (Ef.store0 3 tab_ok rfl rfl rfl rfl rfl rfl rfl rfl ?_) | refine WL.efN rfl rfl (Ef.store0 4 tab_ok rfl rfl rfl rfl rfl rfl rfl rfl ?_) | refine WL.efN rfl rfl (Ef.store0 5 tab_ok rfl rfl rfl rfl rfl rfl rfl rfl ?_) | refine WL.efN rfl rfl (Ef.store0 6 tab_ok rfl rfl rfl rfl rfl rfl rfl rfl ?_)
    refine zN (zU (zT ?_))
    refine WE.retFS (E' := srcE b a cp xs (c + 3 + n + 1 + 1) :: F) qS tab_ok [_] rfl ⟨⟨_, _, _, rfl, rfl, rfl, qB, rfl⟩, trivial⟩ ((by first | exact hR1 | exact hR1.trans hRL)) ?_
    exact ⟨_, [], rfl, _, _, _, ⟨(fvals (upV xs (c + 3) v0) n) ++ [4611686018427387904], 1, 0⟩, rfl, hfz, hsm, hcp, rfl, rfl⟩
   ·try dsimp only at hc1
    refine zQ (zG (zR 2 rfl (zN (zU ?_))))
    refine W.condE rfl (fun hc2 => ?_) (fun hc2 => ?_)
    ·try dsimp only at hc2
     refine W.cap 0 rfl ?_
     intro hcp
     rw [List.length_map] at hcp
     refine W.freeze (enc := encI) (xs := (fvals (upV xs (c + 3) v0) n)) 0 rfl ?_
     intro R1 hR1 hfz
     have hsm := small_fin (F := (upV xs (c + 3) v0)) (n := n) (P := (P : Int)) (I := I) hn20 (by omega) (by omega) (by have := upV_bound xs (c + 3) v0 0; omega) (fun t => (upV_step xs (c + 3) v0 t).1) (fun t ht => by have := upV_bound xs (c + 3) v0 t; omega) (by rw [Int.toNat_natCast]; omega)
     have ha1 := ha.mono hR1
     have hmm1 := mod_range (nth xs (c + 3 + n + 1 + 1)) (show (1 : Int) ≤ 4 by decide)
     have hmm2 := mod_range (nth xs (c + 3 + n + 1 + 1 + 1)) (show (1 : Int) ≤ 2 by decide)
     have hfb : finB (⟨(fvals (upV xs (c + 3) v0) n), (P : Int), I⟩ : Cv) = true := by
      unfold finB
      have := upV_bound xs (c + 3) v0 (n - 1)
      dsimp only
      rw [fvals_len, fvals_nth _ (by omega), bne_iff_ne]
      unfold INF; omega
     have hv200 : ∀ x ∈ (⟨(fvals (upV xs (c + 3) v0) n), (P : Int), I⟩ : Cv).vals, x ≤ 200 := all_of_nth (fun j hj => by
      have hj2 : j < n := by rw [hVl] at hj; exact hj
      have := upV_bound xs (c + 3) v0 j
      show nth (fvals (upV xs (c + 3) v0) n) j ≤ 200
      rw [fvals_nth _ hj2]; omega)
     refine W.regionH _ (ES := []) mixed ?_
     refine tP 1 ?_
     refine tP 3 ?_
     refine WA.br2 (i := 0) (j := 2) qK ?_ ?_
     ·
      refine' WS.yl rfl rfl rfl qD (Yl.load1 tab_ok rfl rfl rfl (fun _ => rfl) ?r4 rfl ?h4) qS qR ?_
      case r4 => (first | exact Rd.blk 0 rfl | exact Rd.blk 1 rfl | exact Rd.blk 2 rfl | exact Rd.blk 3 rfl | exact Rd.blk 4 rfl | exact Rd.blk 5 rfl | exact Rd.blk 6 rfl)
      case h4 => rfl
      refine WA.callAt 2 2 rfl qK en12 rfl rfl qD (CallOp.mkT rfl rfl rfl rfl) rfl (N_C w0 ha1 (by constructor <;> omega) _) ?_
      rintro _ _ _ _ - ⟨rfl, rfl, rfl, rfl⟩
      refine ⟨RLe.refl _, qS, ?_⟩
      refine WA.callAt 2 4 rfl qK en12 rfl rfl qD (CallOp.mkT rfl rfl rfl rfl) rfl (N_C w0 ha1 (by constructor <;> omega) _) ?_
      rintro _ _ _ _ - ⟨rfl, rfl, rfl, rfl⟩
      refine ⟨RLe.refl _, qS, ?_⟩
      refine tA 5 ?_
      refine WA.callG 6 rfl qK en34 rfl (by first | rfl | decide) rfl qD (CallOp.mkT rfl rfl rfl rfl) (LongerV_C (c := (⟨(fvals (upV xs (c + 3) v0) n), (P : Int), I⟩ : Cv)) hsm hfb (by show (fvals (upV xs (c + 3) v0) n).length ≤ 20; omega) (by show (P : Int) ≤ 4; omega) (by show I ≤ 50; omega) hv200 hfz qO qO w0 _) ?_
      rintro _ RL EL hRL ⟨fl, flc, cl, rfl, hfl, hsl, hfl2, hcl, hsubL⟩
      refine ⟨hRL, List.nil_sublist _, ?_⟩
      refine WA.subE hsubL ?_
      first | refine WA.effN 7 rfl qK rfl rfl (Ef.store0 0 tab_ok rfl rfl rfl rfl rfl rfl rfl rfl ?_) | refine WA.effN 7 rfl qK rfl rfl (Ef.store0 1 tab_ok rfl rfl rfl rfl rfl rfl rfl rfl ?_) | refine WA.effN 7 rfl qK rfl rfl (Ef.store0 2 tab_ok rfl rfl rfl rfl rfl rfl rfl rfl ?_) | refine WA.effN 7 rfl qK rfl rfl (Ef.store0 3 tab_ok rfl rfl rfl rfl rfl rfl rfl rfl ?_) | refine WA.effN 7 rfl qK rfl rfl (Ef.store0 4 tab_ok rfl rfl rfl rfl rfl rfl rfl rfl ?_) | refine WA.effN 7 rfl qK rfl rfl (Ef.store0 5 tab_ok rfl rfl rfl rfl rfl rfl rfl rfl ?_) | refine WA.effN 7 rfl qK rfl rfl (Ef.store0 6 tab_ok rfl rfl rfl rfl rfl rfl rfl rfl ?_)
      refine ⟨qR, qS, ?_⟩
      refine WA.done qK ?_
      refine zL (zU (zQ (zG ?_)))
      refine' WG.y rfl rfl qD (Yl.load1 tab_ok rfl rfl rfl (fun _ => rfl) ?r5 rfl ?h5) ?_
      case r5 => (first | exact Rd.blk 0 rfl | exact Rd.blk 1 rfl | exact Rd.blk 2 rfl | exact Rd.blk 3 rfl | exact Rd.blk 4 rfl | exact Rd.blk 5 rfl | exact Rd.blk 6 rfl)
      case h5 => rfl
      first | refine WL.efN rfl rfl (Ef.store0 0 tab_ok rfl rfl rfl rfl rfl rfl rfl rfl ?_) | refine WL.efN rfl rfl (Ef.store0 1 tab_ok rfl rfl rfl rfl rfl rfl rfl rfl ?_) | refine WL.efN rfl rfl (Ef.store0 2 tab_ok rfl rfl rfl rfl rfl rfl rfl rfl ?_) | refine WL.efN rfl rfl (Ef.store0 3 tab_ok rfl rfl rfl rfl rfl rfl rfl rfl ?_) | refine WL.efN rfl rfl (Ef.store0 4 tab_ok rfl rfl rfl rfl rfl rfl rfl rfl ?_) | refine WL.efN rfl rfl (Ef.store0 5 tab_ok rfl rfl rfl rfl rfl rfl rfl rfl ?_) | refine WL.efN rfl rfl (Ef.store0 6 tab_ok rfl rfl rfl rfl rfl rfl rfl rfl ?_)
      refine zN (zU (zT ?_))
      refine WE.retFS (E' := srcE b a cp xs (c + 3 + n + 1 + 1 + 1 + 1) :: F) qS tab_ok [_] rfl ⟨⟨_, _, _, rfl, rfl, rfl, qB, rfl⟩, trivial⟩ ((by first | exact hR1 | exact hR1.trans hRL)) ?_
      exact ⟨_, [], rfl, fl, flc, _, cl, rfl, hfl, hsl, hcl, rfl, rfl⟩
     ·
      refine WS.callAt 2 rfl en12 rfl rfl qD (CallOp.mkT rfl rfl rfl rfl) rfl (N_C w0 ha1 (by constructor <;> omega) _) ?_
      rintro _ _ _ _ - ⟨rfl, rfl, rfl, rfl⟩
      refine ⟨qR, qS, ?_⟩
      refine WA.br2 (i := 0) (j := 4) qK ?_ ?_
      ·
       refine' WS.yl rfl rfl rfl qD (Yl.load1 tab_ok rfl rfl rfl (fun _ => rfl) ?r6 rfl ?h6) qS qR ?_
       case r6 => (first | exact Rd.blk 0 rfl | exact Rd.blk 1 rfl | exact Rd.blk 2 rfl | exact Rd.blk 3 rfl | exact Rd.blk 4 rfl | exact Rd.blk 5 rfl | exact Rd.blk 6 rfl)
       case h6 => rfl
       refine WA.callAt 2 4 rfl qK en12 rfl rfl qD (CallOp.mkT rfl rfl rfl rfl) rfl (N_C w0 ha1 (by constructor <;> omega) _) ?_
       rintro _ _ _ _ - ⟨rfl, rfl, rfl, rfl⟩
       refine ⟨RLe.refl _, qS, ?_⟩
       refine tA 5 ?_
       refine WA.callG 6 rfl qK en34 rfl (by first | rfl | decide) rfl qD (CallOp.mkT rfl rfl rfl rfl) (LongerV_C (c := (⟨(fvals (upV xs (c + 3) v0) n), (P : Int), I⟩ : Cv)) hsm hfb (by show (fvals (upV xs (c + 3) v0) n).length ≤ 20; omega) (by show (P : Int) ≤ 4; omega) (by show I ≤ 50; omega) hv200 hfz qO qO w0 _) ?_
       rintro _ RL EL hRL ⟨fl, flc, cl, rfl, hfl, hsl, hfl2, hcl, hsubL⟩
       refine ⟨hRL, List.nil_sublist _, ?_⟩
       refine WA.subE hsubL ?_
       first | refine WA.effN 7 rfl qK rfl rfl (Ef.store0 0 tab_ok rfl rfl rfl rfl rfl rfl rfl rfl ?_) | refine WA.effN 7 rfl qK rfl rfl (Ef.store0 1 tab_ok rfl rfl rfl rfl rfl rfl rfl rfl ?_) | refine WA.effN 7 rfl qK rfl rfl (Ef.store0 2 tab_ok rfl rfl rfl rfl rfl rfl rfl rfl ?_) | refine WA.effN 7 rfl qK rfl rfl (Ef.store0 3 tab_ok rfl rfl rfl rfl rfl rfl rfl rfl ?_) | refine WA.effN 7 rfl qK rfl rfl (Ef.store0 4 tab_ok rfl rfl rfl rfl rfl rfl rfl rfl ?_) | refine WA.effN 7 rfl qK rfl rfl (Ef.store0 5 tab_ok rfl rfl rfl rfl rfl rfl rfl rfl ?_) | refine WA.effN 7 rfl qK rfl rfl (Ef.store0 6 tab_ok rfl rfl rfl rfl rfl rfl rfl rfl ?_)
       refine ⟨qR, qS, ?_⟩
       refine WA.done qK ?_
       refine zL (zU (zQ (zG ?_)))
       refine' WG.y rfl rfl qD (Yl.load1 tab_ok rfl rfl rfl (fun _ => rfl) ?r7 rfl ?h7) ?_
       case r7 => (first | exact Rd.blk 0 rfl | exact Rd.blk 1 rfl | exact Rd.blk 2 rfl | exact Rd.blk 3 rfl | exact Rd.blk 4 rfl | exact Rd.blk 5 rfl | exact Rd.blk 6 rfl)
       case h7 => rfl
       first | refine WL.efN rfl rfl (Ef.store0 0 tab_ok rfl rfl rfl rfl rfl rfl rfl rfl ?_) | refine WL.efN rfl rfl (Ef.store0 1 tab_ok rfl rfl rfl rfl rfl rfl rfl rfl ?_) | refine WL.efN rfl rfl (Ef.store0 2 tab_ok rfl rfl rfl rfl rfl rfl rfl rfl ?_) | refine WL.efN rfl rfl (Ef.store0 3 tab_ok rfl rfl rfl rfl rfl rfl rfl rfl ?_) | refine WL.efN rfl rfl (Ef.store0 4 tab_ok rfl rfl rfl rfl rfl rfl rfl rfl ?_) | refine WL.efN rfl rfl (Ef.store0 5 tab_ok rfl rfl rfl rfl rfl rfl rfl rfl ?_) | refine WL.efN rfl rfl (Ef.store0 6 tab_ok rfl rfl rfl rfl rfl rfl rfl rfl ?_)
       refine zN (zU (zT ?_))
       refine WE.retFS (E' := srcE b a cp xs (c + 3 + n + 1 + 1 + 1 + 1) :: F) qS tab_ok [_] rfl ⟨⟨_, _, _, rfl, rfl, rfl, qB, rfl⟩, trivial⟩ ((by first | exact hR1 | exact hR1.trans hRL)) ?_
       exact ⟨_, [], rfl, fl, flc, _, cl, rfl, hfl, hsl, hcl, rfl, rfl⟩
      ·
       refine WS.callAt 2 rfl en12 rfl rfl qD (CallOp.mkT rfl rfl rfl rfl) rfl (N_C w0 ha1 (by constructor <;> omega) _) ?_
       rintro _ _ _ _ - ⟨rfl, rfl, rfl, rfl⟩
       refine ⟨qR, qS, ?_⟩
       refine tA 5 ?_
       refine' WA.yl 0 rfl qK rfl rfl qD (Yl.load1 tab_ok rfl rfl rfl (fun _ => rfl) ?r8 rfl ?h8) qS qR ?_
       case r8 => (first | exact Rd.blk 0 rfl | exact Rd.blk 1 rfl | exact Rd.blk 2 rfl | exact Rd.blk 3 rfl | exact Rd.blk 4 rfl | exact Rd.blk 5 rfl | exact Rd.blk 6 rfl)
       case h8 => rfl
       refine WA.callG 6 rfl qK en34 rfl (by first | rfl | decide) rfl qD (CallOp.mkT rfl rfl rfl rfl) (LongerV_C (c := (⟨(fvals (upV xs (c + 3) v0) n), (P : Int), I⟩ : Cv)) hsm hfb (by show (fvals (upV xs (c + 3) v0) n).length ≤ 20; omega) (by show (P : Int) ≤ 4; omega) (by show I ≤ 50; omega) hv200 hfz qO qO w0 _) ?_
       rintro _ RL EL hRL ⟨fl, flc, cl, rfl, hfl, hsl, hfl2, hcl, hsubL⟩
       refine ⟨hRL, List.nil_sublist _, ?_⟩
       refine WA.subE hsubL ?_
       first | refine WA.effN 7 rfl qK rfl rfl (Ef.store0 0 tab_ok rfl rfl rfl rfl rfl rfl rfl rfl ?_) | refine WA.effN 7 rfl qK rfl rfl (Ef.store0 1 tab_ok rfl rfl rfl rfl rfl rfl rfl rfl ?_) | refine WA.effN 7 rfl qK rfl rfl (Ef.store0 2 tab_ok rfl rfl rfl rfl rfl rfl rfl rfl ?_) | refine WA.effN 7 rfl qK rfl rfl (Ef.store0 3 tab_ok rfl rfl rfl rfl rfl rfl rfl rfl ?_) | refine WA.effN 7 rfl qK rfl rfl (Ef.store0 4 tab_ok rfl rfl rfl rfl rfl rfl rfl rfl ?_) | refine WA.effN 7 rfl qK rfl rfl (Ef.store0 5 tab_ok rfl rfl rfl rfl rfl rfl rfl rfl ?_) | refine WA.effN 7 rfl qK rfl rfl (Ef.store0 6 tab_ok rfl rfl rfl rfl rfl rfl rfl rfl ?_)
       refine ⟨qR, qS, ?_⟩
       refine WA.done qK ?_
       refine zL (zU (zQ (zG ?_)))
       refine' WG.y rfl rfl qD (Yl.load1 tab_ok rfl rfl rfl (fun _ => rfl) ?r9 rfl ?h9) ?_
       case r9 => (first | exact Rd.blk 0 rfl | exact Rd.blk 1 rfl | exact Rd.blk 2 rfl | exact Rd.blk 3 rfl | exact Rd.blk 4 rfl | exact Rd.blk 5 rfl | exact Rd.blk 6 rfl)
       case h9 => rfl
       first | refine WL.efN rfl rfl (Ef.store0 0 tab_ok rfl rfl rfl rfl rfl rfl rfl rfl ?_) | refine WL.efN rfl rfl (Ef.store0 1 tab_ok rfl rfl rfl rfl rfl rfl rfl rfl ?_) | refine WL.efN rfl rfl (Ef.store0 2 tab_ok rfl rfl rfl rfl rfl rfl rfl rfl ?_) | refine WL.efN rfl rfl (Ef.store0 3 tab_ok rfl rfl rfl rfl rfl rfl rfl rfl ?_) | refine WL.efN rfl rfl (Ef.store0 4 tab_ok rfl rfl rfl rfl rfl rfl rfl rfl ?_) | refine WL.efN rfl rfl (Ef.store0 5 tab_ok rfl rfl rfl rfl rfl rfl rfl rfl ?_) | refine WL.efN rfl rfl (Ef.store0 6 tab_ok rfl rfl rfl rfl rfl rfl rfl rfl ?_)
       refine zN (zU (zT ?_))
       refine WE.retFS (E' := srcE b a cp xs (c + 3 + n + 1 + 1 + 1 + 1) :: F) qS tab_ok [_] rfl ⟨⟨_, _, _, rfl, rfl, rfl, qB, rfl⟩, trivial⟩ ((by first | exact hR1 | exact hR1.trans hRL)) ?_
       exact ⟨_, [], rfl, fl, flc, _, cl, rfl, hfl, hsl, hcl, rfl, rfl⟩
    ·try dsimp only at hc2
     refine W.cap 0 rfl ?_
     intro hcp
     rw [List.length_map] at hcp
     refine W.freeze (enc := encI) (xs := (fvals (upV xs (c + 3) v0) n)) 0 rfl ?_
     intro R1 hR1 hfz
     have hsm := small_fin (F := (upV xs (c + 3) v0)) (n := n) (P := (P : Int)) (I := I) hn20 (by omega) (by omega) (by have := upV_bound xs (c + 3) v0 0; omega) (fun t => (upV_step xs (c + 3) v0 t).1) (fun t ht => by have := upV_bound xs (c + 3) v0 t; omega) (by rw [Int.toNat_natCast]; omega)
     refine zK (zL (zU (zQ (zG ?_))))
     refine' WG.y rfl rfl qD (Yl.load1 tab_ok rfl rfl rfl (fun _ => rfl) ?r10 rfl ?h10) ?_
     case r10 => (first | exact Rd.blk 0 rfl | exact Rd.blk 1 rfl | exact Rd.blk 2 rfl | exact Rd.blk 3 rfl | exact Rd.blk 4 rfl | exact Rd.blk 5 rfl | exact Rd.blk 6 rfl)
     case h10 => rfl
     first | refine WL.efN rfl rfl (Ef.store0 0 tab_ok rfl rfl rfl rfl rfl rfl rfl rfl ?_) | refine WL.efN rfl rfl (Ef.store0 1 tab_ok rfl rfl rfl rfl rfl rfl rfl rfl ?_) | refine WL.efN rfl rfl (Ef.store0 2 tab_ok rfl rfl rfl rfl rfl rfl rfl rfl ?_) | refine WL.efN rfl rfl (Ef.store0 3 tab_ok rfl rfl rfl rfl rfl rfl rfl rfl ?_) | refine WL.efN rfl rfl (Ef.store0 4 tab_ok rfl rfl rfl rfl rfl rfl rfl rfl ?_) | refine WL.efN rfl rfl (Ef.store0 5 tab_ok rfl rfl rfl rfl rfl rfl rfl rfl ?_) | refine WL.efN rfl rfl (Ef.store0 6 tab_ok rfl rfl rfl rfl rfl rfl rfl rfl ?_)
     refine zN (zU (zT ?_))
     refine WE.retFS (E' := srcE b a cp xs (c + 3 + n + 1 + 1) :: F) qS tab_ok [_] rfl ⟨⟨_, _, _, rfl, rfl, rfl, qB, rfl⟩, trivial⟩ ((by first | exact hR1 | exact hR1.trans hRL)) ?_
     exact ⟨_, [], rfl, a8, c8, _, (⟨(fvals (upV xs (c + 3) v0) n), (P : Int), I⟩ : Cv), rfl, hfz, hsm, hcp, rfl, rfl⟩
  ·
   refine W.regionH _ (ES := [.sl 3 1 a8 c8 ((fvals (upV xs (c + 3) v0) n).map encI)]) mixed ?_
   refine tP 0 ?_
   refine tP 2 ?_
   refine tS 3 ?_
   refine tP 6 ?_
   refine tP 8 ?_
   refine tP 9 ?_
   refine tP 15 ?_
   refine WA.br4 (i := 1) (j := 7) (k := 10) (l := 16) qK ?_ ?_ ?_ ?_
   ·
    refine' WS.yl rfl rfl rfl qD (Yl.load1 tab_ok rfl rfl rfl (fun _ => rfl) ?r11 rfl ?h11) qS qR ?_
    case r11 => apply Rd.add; (first | exact Rd.blk 0 rfl | exact Rd.blk 1 rfl | exact Rd.blk 2 rfl | exact Rd.blk 3 rfl | exact Rd.blk 4 rfl | exact Rd.blk 5 rfl | exact Rd.blk 6 rfl)
    case h11 => rfl
    refine WA.take 4 rfl qK qK qK rfl rfl qD (Yl.index tab_ok rfl rfl rfl rfl rfl rfl (fun _ => rfl) qA qH) qS qR ?_
    refine' WA.take 5 rfl qK qK qK rfl rfl qD (Yl.load1 tab_ok rfl rfl rfl (fun _ => rfl) ?r12 rfl ?h12) qS qR ?_
    case r12 => (first | (apply RS.rdD; assumption; ((try dsimp only) <;> omega)) | exact Rd.slD 0 rfl qX | exact Rd.slD 1 rfl qX | exact Rd.slD 2 rfl qX | exact Rd.slD 3 rfl qX | exact Rd.slD 4 rfl qX | exact Rd.slD 5 rfl qX | exact Rd.slD 6 rfl qX)
    case h12 => rfl
    refine WA.br3 (i := 7) (j := 10) (k := 16) qK ?_ ?_ ?_
    ·
     refine' WS.yl rfl rfl rfl qD (Yl.load1 tab_ok rfl rfl rfl (fun _ => rfl) ?r13 rfl ?h13) qS qR ?_
     case r13 => apply Rd.add; (first | exact Rd.blk 0 rfl | exact Rd.blk 1 rfl | exact Rd.blk 2 rfl | exact Rd.blk 3 rfl | exact Rd.blk 4 rfl | exact Rd.blk 5 rfl | exact Rd.blk 6 rfl)
     case h13 => rfl
     refine WA.br2 (i := 10) (j := 16) qK ?_ ?_
     ·
      refine' WS.yl rfl rfl rfl qD (Yl.load1 tab_ok rfl rfl rfl (fun _ => rfl) ?r14 rfl ?h14) qS qR ?_
      case r14 => apply Rd.add; (first | exact Rd.blk 0 rfl | exact Rd.blk 1 rfl | exact Rd.blk 2 rfl | exact Rd.blk 3 rfl | exact Rd.blk 4 rfl | exact Rd.blk 5 rfl | exact Rd.blk 6 rfl)
      case h14 => rfl
      refine tS 11 ?_
      refine WA.take 12 rfl qK qK qK rfl rfl qD (Yl.index tab_ok rfl rfl rfl rfl rfl rfl (fun _ => rfl) qA qH) qS qR ?_
      refine' WA.take 13 rfl qK qK qK rfl rfl qD (Yl.load1 tab_ok rfl rfl rfl (fun _ => rfl) ?r15 rfl ?h15) qS qR ?_
      case r15 => (first | (apply RS.rdD; assumption; ((try dsimp only) <;> omega)) | exact Rd.slD 0 rfl qX | exact Rd.slD 1 rfl qX | exact Rd.slD 2 rfl qX | exact Rd.slD 3 rfl qX | exact Rd.slD 4 rfl qX | exact Rd.slD 5 rfl qX | exact Rd.slD 6 rfl qX)
      case h15 => rfl
      refine tS 14 ?_
      refine WA.eff 16 rfl qK rfl rfl qD (Ef.buildSliceD (enc := encI) (parts := [.const (.int .i64 0), .const (.int .i64 0), .const (.int .i64 1), .const (.int .i64 3), .const (.int .i64 4), .const (.int .i64 8)]) [_, _, _, _, _, _] tab_ok rfl rfl rfl rfl rfl rfl rfl rfl qD qD (fun a54 => ?_))
      refine ⟨qR, qS, ?_⟩
      refine WA.callAt 5 17 rfl qK en33 rfl rfl qD (CallOp.mkT rfl rfl rfl rfl) rfl (PickM_C (j := 0) w0 ([0, 0, 1, 3, 4, 8] : List Int) rfl qD qD ha rfl) ?_
      rintro _ _ _ _ - ⟨rfl, rfl, rfl, rfl⟩
      refine ⟨RLe.refl _, qS, ?_⟩
      refine tA 18 ?_
      refine tP 19 ?_
      first | refine WA.effN 20 rfl qK rfl rfl (Ef.store 0 tab_ok rfl rfl rfl rfl rfl rfl rfl rfl ?_) | refine WA.effN 20 rfl qK rfl rfl (Ef.store 1 tab_ok rfl rfl rfl rfl rfl rfl rfl rfl ?_) | refine WA.effN 20 rfl qK rfl rfl (Ef.store 2 tab_ok rfl rfl rfl rfl rfl rfl rfl rfl ?_) | refine WA.effN 20 rfl qK rfl rfl (Ef.store 3 tab_ok rfl rfl rfl rfl rfl rfl rfl rfl ?_) | refine WA.effN 20 rfl qK rfl rfl (Ef.store 4 tab_ok rfl rfl rfl rfl rfl rfl rfl rfl ?_) | refine WA.effN 20 rfl qK rfl rfl (Ef.store 5 tab_ok rfl rfl rfl rfl rfl rfl rfl rfl ?_) | refine WA.effN 20 rfl qK rfl rfl (Ef.store 6 tab_ok rfl rfl rfl rfl rfl rfl rfl rfl ?_)
      refine ⟨qR, qS, ?_⟩
      refine WA.done qK ?_
      refine WE.cut (nth (fvals (upV xs (c + 3) v0) n) ((n : Int) - 1).toNat - nth (fvals (upV xs (c + 3) v0) n) ((n : Int) - (P : Int)).toNat + nth ([0, 0, 1, 3, 4, 8] : List Int) (mod (nth xs (c + 3 + n)) ((6 : Nat) : Int)).toNat) ⟨by omega, by omega, by omega⟩ ⟨rfl, rfl, rfl, rfl⟩ (RLe.refl _) qS
     ·
      refine WS.eff rfl rfl rfl qD (Ef.buildSliceD (enc := encI) (parts := [.const (.int .i64 0), .const (.int .i64 0), .const (.int .i64 1), .const (.int .i64 3), .const (.int .i64 4), .const (.int .i64 8)]) [_, _, _, _, _, _] tab_ok rfl rfl rfl rfl rfl rfl rfl rfl qD qD (fun a54 => ?_))
      refine ⟨qR, qS, ?_⟩
      refine WA.br2 (i := 10) (j := 17) qK ?_ ?_
      ·
       refine' WS.yl rfl rfl rfl qD (Yl.load1 tab_ok rfl rfl rfl (fun _ => rfl) ?r16 rfl ?h16) qS qR ?_
       case r16 => apply Rd.add; (first | exact Rd.blk 0 rfl | exact Rd.blk 1 rfl | exact Rd.blk 2 rfl | exact Rd.blk 3 rfl | exact Rd.blk 4 rfl | exact Rd.blk 5 rfl | exact Rd.blk 6 rfl)
       case h16 => rfl
       refine tS 11 ?_
       refine WA.take 12 rfl qK qK qK rfl rfl qD (Yl.index tab_ok rfl rfl rfl rfl rfl rfl (fun _ => rfl) qA qH) qS qR ?_
       refine' WA.take 13 rfl qK qK qK rfl rfl qD (Yl.load1 tab_ok rfl rfl rfl (fun _ => rfl) ?r17 rfl ?h17) qS qR ?_
       case r17 => (first | (apply RS.rdD; assumption; ((try dsimp only) <;> omega)) | exact Rd.slD 0 rfl qX | exact Rd.slD 1 rfl qX | exact Rd.slD 2 rfl qX | exact Rd.slD 3 rfl qX | exact Rd.slD 4 rfl qX | exact Rd.slD 5 rfl qX | exact Rd.slD 6 rfl qX)
       case h17 => rfl
       refine tS 14 ?_
       refine WA.callAt 5 17 rfl qK en33 rfl rfl qD (CallOp.mkT rfl rfl rfl rfl) rfl (PickM_C (j := 0) w0 ([0, 0, 1, 3, 4, 8] : List Int) rfl qD qD ha rfl) ?_
       rintro _ _ _ _ - ⟨rfl, rfl, rfl, rfl⟩
       refine ⟨RLe.refl _, qS, ?_⟩
       refine tA 18 ?_
       refine tP 19 ?_
       first | refine WA.effN 20 rfl qK rfl rfl (Ef.store 0 tab_ok rfl rfl rfl rfl rfl rfl rfl rfl ?_) | refine WA.effN 20 rfl qK rfl rfl (Ef.store 1 tab_ok rfl rfl rfl rfl rfl rfl rfl rfl ?_) | refine WA.effN 20 rfl qK rfl rfl (Ef.store 2 tab_ok rfl rfl rfl rfl rfl rfl rfl rfl ?_) | refine WA.effN 20 rfl qK rfl rfl (Ef.store 3 tab_ok rfl rfl rfl rfl rfl rfl rfl rfl ?_) | refine WA.effN 20 rfl qK rfl rfl (Ef.store 4 tab_ok rfl rfl rfl rfl rfl rfl rfl rfl ?_) | refine WA.effN 20 rfl qK rfl rfl (Ef.store 5 tab_ok rfl rfl rfl rfl rfl rfl rfl rfl ?_) | refine WA.effN 20 rfl qK rfl rfl (Ef.store 6 tab_ok rfl rfl rfl rfl rfl rfl rfl rfl ?_)
       refine ⟨qR, qS, ?_⟩
       refine WA.done qK ?_
       refine WE.cut (nth (fvals (upV xs (c + 3) v0) n) ((n : Int) - 1).toNat - nth (fvals (upV xs (c + 3) v0) n) ((n : Int) - (P : Int)).toNat + nth ([0, 0, 1, 3, 4, 8] : List Int) (mod (nth xs (c + 3 + n)) ((6 : Nat) : Int)).toNat) ⟨by omega, by omega, by omega⟩ ⟨rfl, rfl, rfl, rfl⟩ (RLe.refl _) qS
      ·
       refine WS.callAt 5 rfl en33 rfl rfl qD (CallOp.mkT rfl rfl rfl rfl) rfl (PickM_C (j := 0) w0 ([0, 0, 1, 3, 4, 8] : List Int) rfl qD qD ha rfl) ?_
       rintro _ _ _ _ - ⟨rfl, rfl, rfl, rfl⟩
       refine ⟨qR, qS, ?_⟩
       refine' WA.yl 10 rfl qK rfl rfl qD (Yl.load1 tab_ok rfl rfl rfl (fun _ => rfl) ?r18 rfl ?h18) qS qR ?_
       case r18 => apply Rd.add; (first | exact Rd.blk 0 rfl | exact Rd.blk 1 rfl | exact Rd.blk 2 rfl | exact Rd.blk 3 rfl | exact Rd.blk 4 rfl | exact Rd.blk 5 rfl | exact Rd.blk 6 rfl)
       case h18 => rfl
       refine tS 11 ?_
       refine WA.take 12 rfl qK qK qK rfl rfl qD (Yl.index tab_ok rfl rfl rfl rfl rfl rfl (fun _ => rfl) qA qH) qS qR ?_
       refine' WA.take 13 rfl qK qK qK rfl rfl qD (Yl.load1 tab_ok rfl rfl rfl (fun _ => rfl) ?r19 rfl ?h19) qS qR ?_
       case r19 => (first | (apply RS.rdD; assumption; ((try dsimp only) <;> omega)) | exact Rd.slD 0 rfl qX | exact Rd.slD 1 rfl qX | exact Rd.slD 2 rfl qX | exact Rd.slD 3 rfl qX | exact Rd.slD 4 rfl qX | exact Rd.slD 5 rfl qX | exact Rd.slD 6 rfl qX)
       case h19 => rfl
       refine tS 14 ?_
       refine tA 18 ?_
       refine tP 19 ?_
       first | refine WA.effN 20 rfl qK rfl rfl (Ef.store 0 tab_ok rfl rfl rfl rfl rfl rfl rfl rfl ?_) | refine WA.effN 20 rfl qK rfl rfl (Ef.store 1 tab_ok rfl rfl rfl rfl rfl rfl rfl rfl ?_) | refine WA.effN 20 rfl qK rfl rfl (Ef.store 2 tab_ok rfl rfl rfl rfl rfl rfl rfl rfl ?_) | refine WA.effN 20 rfl qK rfl rfl (Ef.store 3 tab_ok rfl rfl rfl rfl rfl rfl rfl rfl ?_) | refine WA.effN 20 rfl qK rfl rfl (Ef.store 4 tab_ok rfl rfl rfl rfl rfl rfl rfl rfl ?_) | refine WA.effN 20 rfl qK rfl rfl (Ef.store 5 tab_ok rfl rfl rfl rfl rfl rfl rfl rfl ?_) | refine WA.effN 20 rfl qK rfl rfl (Ef.store 6 tab_ok rfl rfl rfl rfl rfl rfl rfl rfl ?_)
       refine ⟨qR, qS, ?_⟩
       refine WA.done qK ?_
       refine WE.cut (nth (fvals (upV xs (c + 3) v0) n) ((n : Int) - 1).toNat - nth (fvals (upV xs (c + 3) v0) n) ((n : Int) - (P : Int)).toNat + nth ([0, 0, 1, 3, 4, 8] : List Int) (mod (nth xs (c + 3 + n)) ((6 : Nat) : Int)).toNat) ⟨by omega, by omega, by omega⟩ ⟨rfl, rfl, rfl, rfl⟩ (RLe.refl _) qS
    ·
     refine' WS.yl rfl rfl rfl qD (Yl.load1 tab_ok rfl rfl rfl (fun _ => rfl) ?r20 rfl ?h20) qS qR ?_
     case r20 => apply Rd.add; (first | exact Rd.blk 0 rfl | exact Rd.blk 1 rfl | exact Rd.blk 2 rfl | exact Rd.blk 3 rfl | exact Rd.blk 4 rfl | exact Rd.blk 5 rfl | exact Rd.blk 6 rfl)
     case h20 => rfl
     refine tS 11 ?_
     refine WA.br2 (i := 7) (j := 16) qK ?_ ?_
     ·
      refine' WS.yl rfl rfl rfl qD (Yl.load1 tab_ok rfl rfl rfl (fun _ => rfl) ?r21 rfl ?h21) qS qR ?_
      case r21 => apply Rd.add; (first | exact Rd.blk 0 rfl | exact Rd.blk 1 rfl | exact Rd.blk 2 rfl | exact Rd.blk 3 rfl | exact Rd.blk 4 rfl | exact Rd.blk 5 rfl | exact Rd.blk 6 rfl)
      case h21 => rfl
      refine WA.take 12 rfl qK qK qK rfl rfl qD (Yl.index tab_ok rfl rfl rfl rfl rfl rfl (fun _ => rfl) qA qH) qS qR ?_
      refine' WA.take 13 rfl qK qK qK rfl rfl qD (Yl.load1 tab_ok rfl rfl rfl (fun _ => rfl) ?r22 rfl ?h22) qS qR ?_
      case r22 => (first | (apply RS.rdD; assumption; ((try dsimp only) <;> omega)) | exact Rd.slD 0 rfl qX | exact Rd.slD 1 rfl qX | exact Rd.slD 2 rfl qX | exact Rd.slD 3 rfl qX | exact Rd.slD 4 rfl qX | exact Rd.slD 5 rfl qX | exact Rd.slD 6 rfl qX)
      case h22 => rfl
      refine tS 14 ?_
      refine WA.eff 16 rfl qK rfl rfl qD (Ef.buildSliceD (enc := encI) (parts := [.const (.int .i64 0), .const (.int .i64 0), .const (.int .i64 1), .const (.int .i64 3), .const (.int .i64 4), .const (.int .i64 8)]) [_, _, _, _, _, _] tab_ok rfl rfl rfl rfl rfl rfl rfl rfl qD qD (fun a54 => ?_))
      refine ⟨qR, qS, ?_⟩
      refine WA.callAt 5 17 rfl qK en33 rfl rfl qD (CallOp.mkT rfl rfl rfl rfl) rfl (PickM_C (j := 0) w0 ([0, 0, 1, 3, 4, 8] : List Int) rfl qD qD ha rfl) ?_
      rintro _ _ _ _ - ⟨rfl, rfl, rfl, rfl⟩
      refine ⟨RLe.refl _, qS, ?_⟩
      refine tA 18 ?_
      refine tP 19 ?_
      first | refine WA.effN 20 rfl qK rfl rfl (Ef.store 0 tab_ok rfl rfl rfl rfl rfl rfl rfl rfl ?_) | refine WA.effN 20 rfl qK rfl rfl (Ef.store 1 tab_ok rfl rfl rfl rfl rfl rfl rfl rfl ?_) | refine WA.effN 20 rfl qK rfl rfl (Ef.store 2 tab_ok rfl rfl rfl rfl rfl rfl rfl rfl ?_) | refine WA.effN 20 rfl qK rfl rfl (Ef.store 3 tab_ok rfl rfl rfl rfl rfl rfl rfl rfl ?_) | refine WA.effN 20 rfl qK rfl rfl (Ef.store 4 tab_ok rfl rfl rfl rfl rfl rfl rfl rfl ?_) | refine WA.effN 20 rfl qK rfl rfl (Ef.store 5 tab_ok rfl rfl rfl rfl rfl rfl rfl rfl ?_) | refine WA.effN 20 rfl qK rfl rfl (Ef.store 6 tab_ok rfl rfl rfl rfl rfl rfl rfl rfl ?_)
      refine ⟨qR, qS, ?_⟩
      refine WA.done qK ?_
      refine WE.cut (nth (fvals (upV xs (c + 3) v0) n) ((n : Int) - 1).toNat - nth (fvals (upV xs (c + 3) v0) n) ((n : Int) - (P : Int)).toNat + nth ([0, 0, 1, 3, 4, 8] : List Int) (mod (nth xs (c + 3 + n)) ((6 : Nat) : Int)).toNat) ⟨by omega, by omega, by omega⟩ ⟨rfl, rfl, rfl, rfl⟩ (RLe.refl _) qS
     ·
      refine WS.eff rfl rfl rfl qD (Ef.buildSliceD (enc := encI) (parts := [.const (.int .i64 0), .const (.int .i64 0), .const (.int .i64 1), .const (.int .i64 3), .const (.int .i64 4), .const (.int .i64 8)]) [_, _, _, _, _, _] tab_ok rfl rfl rfl rfl rfl rfl rfl rfl qD qD (fun a54 => ?_))
      refine ⟨qR, qS, ?_⟩
      refine WA.br2 (i := 7) (j := 17) qK ?_ ?_
      ·
       refine' WS.yl rfl rfl rfl qD (Yl.load1 tab_ok rfl rfl rfl (fun _ => rfl) ?r23 rfl ?h23) qS qR ?_
       case r23 => apply Rd.add; (first | exact Rd.blk 0 rfl | exact Rd.blk 1 rfl | exact Rd.blk 2 rfl | exact Rd.blk 3 rfl | exact Rd.blk 4 rfl | exact Rd.blk 5 rfl | exact Rd.blk 6 rfl)
       case h23 => rfl
       refine WA.take 12 rfl qK qK qK rfl rfl qD (Yl.index tab_ok rfl rfl rfl rfl rfl rfl (fun _ => rfl) qA qH) qS qR ?_
       refine' WA.take 13 rfl qK qK qK rfl rfl qD (Yl.load1 tab_ok rfl rfl rfl (fun _ => rfl) ?r24 rfl ?h24) qS qR ?_
       case r24 => (first | (apply RS.rdD; assumption; ((try dsimp only) <;> omega)) | exact Rd.slD 0 rfl qX | exact Rd.slD 1 rfl qX | exact Rd.slD 2 rfl qX | exact Rd.slD 3 rfl qX | exact Rd.slD 4 rfl qX | exact Rd.slD 5 rfl qX | exact Rd.slD 6 rfl qX)
       case h24 => rfl
       refine tS 14 ?_
       refine WA.callAt 5 17 rfl qK en33 rfl rfl qD (CallOp.mkT rfl rfl rfl rfl) rfl (PickM_C (j := 0) w0 ([0, 0, 1, 3, 4, 8] : List Int) rfl qD qD ha rfl) ?_
       rintro _ _ _ _ - ⟨rfl, rfl, rfl, rfl⟩
       refine ⟨RLe.refl _, qS, ?_⟩
       refine tA 18 ?_
       refine tP 19 ?_
       first | refine WA.effN 20 rfl qK rfl rfl (Ef.store 0 tab_ok rfl rfl rfl rfl rfl rfl rfl rfl ?_) | refine WA.effN 20 rfl qK rfl rfl (Ef.store 1 tab_ok rfl rfl rfl rfl rfl rfl rfl rfl ?_) | refine WA.effN 20 rfl qK rfl rfl (Ef.store 2 tab_ok rfl rfl rfl rfl rfl rfl rfl rfl ?_) | refine WA.effN 20 rfl qK rfl rfl (Ef.store 3 tab_ok rfl rfl rfl rfl rfl rfl rfl rfl ?_) | refine WA.effN 20 rfl qK rfl rfl (Ef.store 4 tab_ok rfl rfl rfl rfl rfl rfl rfl rfl ?_) | refine WA.effN 20 rfl qK rfl rfl (Ef.store 5 tab_ok rfl rfl rfl rfl rfl rfl rfl rfl ?_) | refine WA.effN 20 rfl qK rfl rfl (Ef.store 6 tab_ok rfl rfl rfl rfl rfl rfl rfl rfl ?_)
       refine ⟨qR, qS, ?_⟩
       refine WA.done qK ?_
       refine WE.cut (nth (fvals (upV xs (c + 3) v0) n) ((n : Int) - 1).toNat - nth (fvals (upV xs (c + 3) v0) n) ((n : Int) - (P : Int)).toNat + nth ([0, 0, 1, 3, 4, 8] : List Int) (mod (nth xs (c + 3 + n)) ((6 : Nat) : Int)).toNat) ⟨by omega, by omega, by omega⟩ ⟨rfl, rfl, rfl, rfl⟩ (RLe.refl _) qS
      ·
       refine WS.callAt 5 rfl en33 rfl rfl qD (CallOp.mkT rfl rfl rfl rfl) rfl (PickM_C (j := 0) w0 ([0, 0, 1, 3, 4, 8] : List Int) rfl qD qD ha rfl) ?_
       rintro _ _ _ _ - ⟨rfl, rfl, rfl, rfl⟩
       refine ⟨qR, qS, ?_⟩
       refine' WA.yl 7 rfl qK rfl rfl qD (Yl.load1 tab_ok rfl rfl rfl (fun _ => rfl) ?r25 rfl ?h25) qS qR ?_
       case r25 => apply Rd.add; (first | exact Rd.blk 0 rfl | exact Rd.blk 1 rfl | exact Rd.blk 2 rfl | exact Rd.blk 3 rfl | exact Rd.blk 4 rfl | exact Rd.blk 5 rfl | exact Rd.blk 6 rfl)
       case h25 => rfl
       refine WA.take 12 rfl qK qK qK rfl rfl qD (Yl.index tab_ok rfl rfl rfl rfl rfl rfl (fun _ => rfl) qA qH) qS qR ?_
       refine' WA.take 13 rfl qK qK qK rfl rfl qD (Yl.load1 tab_ok rfl rfl rfl (fun _ => rfl) ?r26 rfl ?h26) qS qR ?_
       case r26 => (first | (apply RS.rdD; assumption; ((try dsimp only) <;> omega)) | exact Rd.slD 0 rfl qX | exact Rd.slD 1 rfl qX | exact Rd.slD 2 rfl qX | exact Rd.slD 3 rfl qX | exact Rd.slD 4 rfl qX | exact Rd.slD 5 rfl qX | exact Rd.slD 6 rfl qX)
       case h26 => rfl
       refine tS 14 ?_
       refine tA 18 ?_
       refine tP 19 ?_
       first | refine WA.effN 20 rfl qK rfl rfl (Ef.store 0 tab_ok rfl rfl rfl rfl rfl rfl rfl rfl ?_) | refine WA.effN 20 rfl qK rfl rfl (Ef.store 1 tab_ok rfl rfl rfl rfl rfl rfl rfl rfl ?_) | refine WA.effN 20 rfl qK rfl rfl (Ef.store 2 tab_ok rfl rfl rfl rfl rfl rfl rfl rfl ?_) | refine WA.effN 20 rfl qK rfl rfl (Ef.store 3 tab_ok rfl rfl rfl rfl rfl rfl rfl rfl ?_) | refine WA.effN 20 rfl qK rfl rfl (Ef.store 4 tab_ok rfl rfl rfl rfl rfl rfl rfl rfl ?_) | refine WA.effN 20 rfl qK rfl rfl (Ef.store 5 tab_ok rfl rfl rfl rfl rfl rfl rfl rfl ?_) | refine WA.effN 20 rfl qK rfl rfl (Ef.store 6 tab_ok rfl rfl rfl rfl rfl rfl rfl rfl ?_)
       refine ⟨qR, qS, ?_⟩
       refine WA.done qK ?_
       refine WE.cut (nth (fvals (upV xs (c + 3) v0) n) ((n : Int) - 1).toNat - nth (fvals (upV xs (c + 3) v0) n) ((n : Int) - (P : Int)).toNat + nth ([0, 0, 1, 3, 4, 8] : List Int) (mod (nth xs (c + 3 + n)) ((6 : Nat) : Int)).toNat) ⟨by omega, by omega, by omega⟩ ⟨rfl, rfl, rfl, rfl⟩ (RLe.refl _) qS
    ·
     refine WS.eff rfl rfl rfl qD (Ef.buildSliceD (enc := encI) (parts := [.const (.int .i64 0), .const (.int .i64 0), .const (.int .i64 1), .const (.int .i64 3), .const (.int .i64 4), .const (.int .i64 8)]) [_, _, _, _, _, _] tab_ok rfl rfl rfl rfl rfl rfl rfl rfl qD qD (fun a54 => ?_))
     refine ⟨qR, qS, ?_⟩
     refine WA.br3 (i := 7) (j := 10) (k := 17) qK ?_ ?_ ?_
     ·
      refine' WS.yl rfl rfl rfl qD (Yl.load1 tab_ok rfl rfl rfl (fun _ => rfl) ?r27 rfl ?h27) qS qR ?_
      case r27 => apply Rd.add; (first | exact Rd.blk 0 rfl | exact Rd.blk 1 rfl | exact Rd.blk 2 rfl | exact Rd.blk 3 rfl | exact Rd.blk 4 rfl | exact Rd.blk 5 rfl | exact Rd.blk 6 rfl)
      case h27 => rfl
      refine WA.br2 (i := 10) (j := 17) qK ?_ ?_
      ·
       refine' WS.yl rfl rfl rfl qD (Yl.load1 tab_ok rfl rfl rfl (fun _ => rfl) ?r28 rfl ?h28) qS qR ?_
       case r28 => apply Rd.add; (first | exact Rd.blk 0 rfl | exact Rd.blk 1 rfl | exact Rd.blk 2 rfl | exact Rd.blk 3 rfl | exact Rd.blk 4 rfl | exact Rd.blk 5 rfl | exact Rd.blk 6 rfl)
       case h28 => rfl
       refine tS 11 ?_
       refine WA.take 12 rfl qK qK qK rfl rfl qD (Yl.index tab_ok rfl rfl rfl rfl rfl rfl (fun _ => rfl) qA qH) qS qR ?_
       refine' WA.take 13 rfl qK qK qK rfl rfl qD (Yl.load1 tab_ok rfl rfl rfl (fun _ => rfl) ?r29 rfl ?h29) qS qR ?_
       case r29 => (first | (apply RS.rdD; assumption; ((try dsimp only) <;> omega)) | exact Rd.slD 0 rfl qX | exact Rd.slD 1 rfl qX | exact Rd.slD 2 rfl qX | exact Rd.slD 3 rfl qX | exact Rd.slD 4 rfl qX | exact Rd.slD 5 rfl qX | exact Rd.slD 6 rfl qX)
       case h29 => rfl
       refine tS 14 ?_
       refine WA.callAt 5 17 rfl qK en33 rfl rfl qD (CallOp.mkT rfl rfl rfl rfl) rfl (PickM_C (j := 0) w0 ([0, 0, 1, 3, 4, 8] : List Int) rfl qD qD ha rfl) ?_
       rintro _ _ _ _ - ⟨rfl, rfl, rfl, rfl⟩
       refine ⟨RLe.refl _, qS, ?_⟩
       refine tA 18 ?_
       refine tP 19 ?_
       first | refine WA.effN 20 rfl qK rfl rfl (Ef.store 0 tab_ok rfl rfl rfl rfl rfl rfl rfl rfl ?_) | refine WA.effN 20 rfl qK rfl rfl (Ef.store 1 tab_ok rfl rfl rfl rfl rfl rfl rfl rfl ?_) | refine WA.effN 20 rfl qK rfl rfl (Ef.store 2 tab_ok rfl rfl rfl rfl rfl rfl rfl rfl ?_) | refine WA.effN 20 rfl qK rfl rfl (Ef.store 3 tab_ok rfl rfl rfl rfl rfl rfl rfl rfl ?_) | refine WA.effN 20 rfl qK rfl rfl (Ef.store 4 tab_ok rfl rfl rfl rfl rfl rfl rfl rfl ?_) | refine WA.effN 20 rfl qK rfl rfl (Ef.store 5 tab_ok rfl rfl rfl rfl rfl rfl rfl rfl ?_) | refine WA.effN 20 rfl qK rfl rfl (Ef.store 6 tab_ok rfl rfl rfl rfl rfl rfl rfl rfl ?_)
       refine ⟨qR, qS, ?_⟩
       refine WA.done qK ?_
       refine WE.cut (nth (fvals (upV xs (c + 3) v0) n) ((n : Int) - 1).toNat - nth (fvals (upV xs (c + 3) v0) n) ((n : Int) - (P : Int)).toNat + nth ([0, 0, 1, 3, 4, 8] : List Int) (mod (nth xs (c + 3 + n)) ((6 : Nat) : Int)).toNat) ⟨by omega, by omega, by omega⟩ ⟨rfl, rfl, rfl, rfl⟩ (RLe.refl _) qS
      ·
       refine WS.callAt 5 rfl en33 rfl rfl qD (CallOp.mkT rfl rfl rfl rfl) rfl (PickM_C (j := 0) w0 ([0, 0, 1, 3, 4, 8] : List Int) rfl qD qD ha rfl) ?_
       rintro _ _ _ _ - ⟨rfl, rfl, rfl, rfl⟩
       refine ⟨qR, qS, ?_⟩
       refine' WA.yl 10 rfl qK rfl rfl qD (Yl.load1 tab_ok rfl rfl rfl (fun _ => rfl) ?r30 rfl ?h30) qS qR ?_
       case r30 => apply Rd.add; (first | exact Rd.blk 0 rfl | exact Rd.blk 1 rfl | exact Rd.blk 2 rfl | exact Rd.blk 3 rfl | exact Rd.blk 4 rfl | exact Rd.blk 5 rfl | exact Rd.blk 6 rfl)
       case h30 => rfl
       refine tS 11 ?_
       refine WA.take 12 rfl qK qK qK rfl rfl qD (Yl.index tab_ok rfl rfl rfl rfl rfl rfl (fun _ => rfl) qA qH) qS qR ?_
       refine' WA.take 13 rfl qK qK qK rfl rfl qD (Yl.load1 tab_ok rfl rfl rfl (fun _ => rfl) ?r31 rfl ?h31) qS qR ?_
       case r31 => (first | (apply RS.rdD; assumption; ((try dsimp only) <;> omega)) | exact Rd.slD 0 rfl qX | exact Rd.slD 1 rfl qX | exact Rd.slD 2 rfl qX | exact Rd.slD 3 rfl qX | exact Rd.slD 4 rfl qX | exact Rd.slD 5 rfl qX | exact Rd.slD 6 rfl qX)
       case h31 => rfl
       refine tS 14 ?_
       refine tA 18 ?_
       refine tP 19 ?_
       first | refine WA.effN 20 rfl qK rfl rfl (Ef.store 0 tab_ok rfl rfl rfl rfl rfl rfl rfl rfl ?_) | refine WA.effN 20 rfl qK rfl rfl (Ef.store 1 tab_ok rfl rfl rfl rfl rfl rfl rfl rfl ?_) | refine WA.effN 20 rfl qK rfl rfl (Ef.store 2 tab_ok rfl rfl rfl rfl rfl rfl rfl rfl ?_) | refine WA.effN 20 rfl qK rfl rfl (Ef.store 3 tab_ok rfl rfl rfl rfl rfl rfl rfl rfl ?_) | refine WA.effN 20 rfl qK rfl rfl (Ef.store 4 tab_ok rfl rfl rfl rfl rfl rfl rfl rfl ?_) | refine WA.effN 20 rfl qK rfl rfl (Ef.store 5 tab_ok rfl rfl rfl rfl rfl rfl rfl rfl ?_) | refine WA.effN 20 rfl qK rfl rfl (Ef.store 6 tab_ok rfl rfl rfl rfl rfl rfl rfl rfl ?_)
       refine ⟨qR, qS, ?_⟩
       refine WA.done qK ?_
       refine WE.cut (nth (fvals (upV xs (c + 3) v0) n) ((n : Int) - 1).toNat - nth (fvals (upV xs (c + 3) v0) n) ((n : Int) - (P : Int)).toNat + nth ([0, 0, 1, 3, 4, 8] : List Int) (mod (nth xs (c + 3 + n)) ((6 : Nat) : Int)).toNat) ⟨by omega, by omega, by omega⟩ ⟨rfl, rfl, rfl, rfl⟩ (RLe.refl _) qS
     ·
      refine' WS.yl rfl rfl rfl qD (Yl.load1 tab_ok rfl rfl rfl (fun _ => rfl) ?r32 rfl ?h32) qS qR ?_
      case r32 => apply Rd.add; (first | exact Rd.blk 0 rfl | exact Rd.blk 1 rfl | exact Rd.blk 2 rfl | exact Rd.blk 3 rfl | exact Rd.blk 4 rfl | exact Rd.blk 5 rfl | exact Rd.blk 6 rfl)
      case h32 => rfl
      refine tS 11 ?_
      refine WA.br2 (i := 7) (j := 17) qK ?_ ?_
      ·
       refine' WS.yl rfl rfl rfl qD (Yl.load1 tab_ok rfl rfl rfl (fun _ => rfl) ?r33 rfl ?h33) qS qR ?_
       case r33 => apply Rd.add; (first | exact Rd.blk 0 rfl | exact Rd.blk 1 rfl | exact Rd.blk 2 rfl | exact Rd.blk 3 rfl | exact Rd.blk 4 rfl | exact Rd.blk 5 rfl | exact Rd.blk 6 rfl)
       case h33 => rfl
       refine WA.take 12 rfl qK qK qK rfl rfl qD (Yl.index tab_ok rfl rfl rfl rfl rfl rfl (fun _ => rfl) qA qH) qS qR ?_
       refine' WA.take 13 rfl qK qK qK rfl rfl qD (Yl.load1 tab_ok rfl rfl rfl (fun _ => rfl) ?r34 rfl ?h34) qS qR ?_
       case r34 => (first | (apply RS.rdD; assumption; ((try dsimp only) <;> omega)) | exact Rd.slD 0 rfl qX | exact Rd.slD 1 rfl qX | exact Rd.slD 2 rfl qX | exact Rd.slD 3 rfl qX | exact Rd.slD 4 rfl qX | exact Rd.slD 5 rfl qX | exact Rd.slD 6 rfl qX)
       case h34 => rfl
       refine tS 14 ?_
       refine WA.callAt 5 17 rfl qK en33 rfl rfl qD (CallOp.mkT rfl rfl rfl rfl) rfl (PickM_C (j := 0) w0 ([0, 0, 1, 3, 4, 8] : List Int) rfl qD qD ha rfl) ?_
       rintro _ _ _ _ - ⟨rfl, rfl, rfl, rfl⟩
       refine ⟨RLe.refl _, qS, ?_⟩
       refine tA 18 ?_
       refine tP 19 ?_
       first | refine WA.effN 20 rfl qK rfl rfl (Ef.store 0 tab_ok rfl rfl rfl rfl rfl rfl rfl rfl ?_) | refine WA.effN 20 rfl qK rfl rfl (Ef.store 1 tab_ok rfl rfl rfl rfl rfl rfl rfl rfl ?_) | refine WA.effN 20 rfl qK rfl rfl (Ef.store 2 tab_ok rfl rfl rfl rfl rfl rfl rfl rfl ?_) | refine WA.effN 20 rfl qK rfl rfl (Ef.store 3 tab_ok rfl rfl rfl rfl rfl rfl rfl rfl ?_) | refine WA.effN 20 rfl qK rfl rfl (Ef.store 4 tab_ok rfl rfl rfl rfl rfl rfl rfl rfl ?_) | refine WA.effN 20 rfl qK rfl rfl (Ef.store 5 tab_ok rfl rfl rfl rfl rfl rfl rfl rfl ?_) | refine WA.effN 20 rfl qK rfl rfl (Ef.store 6 tab_ok rfl rfl rfl rfl rfl rfl rfl rfl ?_)
       refine ⟨qR, qS, ?_⟩
       refine WA.done qK ?_
       refine WE.cut (nth (fvals (upV xs (c + 3) v0) n) ((n : Int) - 1).toNat - nth (fvals (upV xs (c + 3) v0) n) ((n : Int) - (P : Int)).toNat + nth ([0, 0, 1, 3, 4, 8] : List Int) (mod (nth xs (c + 3 + n)) ((6 : Nat) : Int)).toNat) ⟨by omega, by omega, by omega⟩ ⟨rfl, rfl, rfl, rfl⟩ (RLe.refl _) qS
      ·
       refine WS.callAt 5 rfl en33 rfl rfl qD (CallOp.mkT rfl rfl rfl rfl) rfl (PickM_C (j := 0) w0 ([0, 0, 1, 3, 4, 8] : List Int) rfl qD qD ha rfl) ?_
       rintro _ _ _ _ - ⟨rfl, rfl, rfl, rfl⟩
       refine ⟨qR, qS, ?_⟩
       refine' WA.yl 7 rfl qK rfl rfl qD (Yl.load1 tab_ok rfl rfl rfl (fun _ => rfl) ?r35 rfl ?h35) qS qR ?_
       case r35 => apply Rd.add; (first | exact Rd.blk 0 rfl | exact Rd.blk 1 rfl | exact Rd.blk 2 rfl | exact Rd.blk 3 rfl | exact Rd.blk 4 rfl | exact Rd.blk 5 rfl | exact Rd.blk 6 rfl)
       case h35 => rfl
       refine WA.take 12 rfl qK qK qK rfl rfl qD (Yl.index tab_ok rfl rfl rfl rfl rfl rfl (fun _ => rfl) qA qH) qS qR ?_
       refine' WA.take 13 rfl qK qK qK rfl rfl qD (Yl.load1 tab_ok rfl rfl rfl (fun _ => rfl) ?r36 rfl ?h36) qS qR ?_
       case r36 => (first | (apply RS.rdD; assumption; ((try dsimp only) <;> omega)) | exact Rd.slD 0 rfl qX | exact Rd.slD 1 rfl qX | exact Rd.slD 2 rfl qX | exact Rd.slD 3 rfl qX | exact Rd.slD 4 rfl qX | exact Rd.slD 5 rfl qX | exact Rd.slD 6 rfl qX)
       case h36 => rfl
       refine tS 14 ?_
       refine tA 18 ?_
       refine tP 19 ?_
       first | refine WA.effN 20 rfl qK rfl rfl (Ef.store 0 tab_ok rfl rfl rfl rfl rfl rfl rfl rfl ?_) | refine WA.effN 20 rfl qK rfl rfl (Ef.store 1 tab_ok rfl rfl rfl rfl rfl rfl rfl rfl ?_) | refine WA.effN 20 rfl qK rfl rfl (Ef.store 2 tab_ok rfl rfl rfl rfl rfl rfl rfl rfl ?_) | refine WA.effN 20 rfl qK rfl rfl (Ef.store 3 tab_ok rfl rfl rfl rfl rfl rfl rfl rfl ?_) | refine WA.effN 20 rfl qK rfl rfl (Ef.store 4 tab_ok rfl rfl rfl rfl rfl rfl rfl rfl ?_) | refine WA.effN 20 rfl qK rfl rfl (Ef.store 5 tab_ok rfl rfl rfl rfl rfl rfl rfl rfl ?_) | refine WA.effN 20 rfl qK rfl rfl (Ef.store 6 tab_ok rfl rfl rfl rfl rfl rfl rfl rfl ?_)
       refine ⟨qR, qS, ?_⟩
       refine WA.done qK ?_
       refine WE.cut (nth (fvals (upV xs (c + 3) v0) n) ((n : Int) - 1).toNat - nth (fvals (upV xs (c + 3) v0) n) ((n : Int) - (P : Int)).toNat + nth ([0, 0, 1, 3, 4, 8] : List Int) (mod (nth xs (c + 3 + n)) ((6 : Nat) : Int)).toNat) ⟨by omega, by omega, by omega⟩ ⟨rfl, rfl, rfl, rfl⟩ (RLe.refl _) qS
     ·
      refine WS.callAt 5 rfl en33 rfl rfl qD (CallOp.mkT rfl rfl rfl rfl) rfl (PickM_C (j := 0) w0 ([0, 0, 1, 3, 4, 8] : List Int) rfl qD qD ha rfl) ?_
      rintro _ _ _ _ - ⟨rfl, rfl, rfl, rfl⟩
      refine ⟨qR, qS, ?_⟩
      refine WA.br2 (i := 7) (j := 10) qK ?_ ?_
      ·
       refine' WS.yl rfl rfl rfl qD (Yl.load1 tab_ok rfl rfl rfl (fun _ => rfl) ?r37 rfl ?h37) qS qR ?_
       case r37 => apply Rd.add; (first | exact Rd.blk 0 rfl | exact Rd.blk 1 rfl | exact Rd.blk 2 rfl | exact Rd.blk 3 rfl | exact Rd.blk 4 rfl | exact Rd.blk 5 rfl | exact Rd.blk 6 rfl)
       case h37 => rfl
       refine' WA.yl 10 rfl qK rfl rfl qD (Yl.load1 tab_ok rfl rfl rfl (fun _ => rfl) ?r38 rfl ?h38) qS qR ?_
       case r38 => apply Rd.add; (first | exact Rd.blk 0 rfl | exact Rd.blk 1 rfl | exact Rd.blk 2 rfl | exact Rd.blk 3 rfl | exact Rd.blk 4 rfl | exact Rd.blk 5 rfl | exact Rd.blk 6 rfl)
       case h38 => rfl
       refine tS 11 ?_
       refine WA.take 12 rfl qK qK qK rfl rfl qD (Yl.index tab_ok rfl rfl rfl rfl rfl rfl (fun _ => rfl) qA qH) qS qR ?_
       refine' WA.take 13 rfl qK qK qK rfl rfl qD (Yl.load1 tab_ok rfl rfl rfl (fun _ => rfl) ?r39 rfl ?h39) qS qR ?_
       case r39 => (first | (apply RS.rdD; assumption; ((try dsimp only) <;> omega)) | exact Rd.slD 0 rfl qX | exact Rd.slD 1 rfl qX | exact Rd.slD 2 rfl qX | exact Rd.slD 3 rfl qX | exact Rd.slD 4 rfl qX | exact Rd.slD 5 rfl qX | exact Rd.slD 6 rfl qX)
       case h39 => rfl
       refine tS 14 ?_
       refine tA 18 ?_
       refine tP 19 ?_
       first | refine WA.effN 20 rfl qK rfl rfl (Ef.store 0 tab_ok rfl rfl rfl rfl rfl rfl rfl rfl ?_) | refine WA.effN 20 rfl qK rfl rfl (Ef.store 1 tab_ok rfl rfl rfl rfl rfl rfl rfl rfl ?_) | refine WA.effN 20 rfl qK rfl rfl (Ef.store 2 tab_ok rfl rfl rfl rfl rfl rfl rfl rfl ?_) | refine WA.effN 20 rfl qK rfl rfl (Ef.store 3 tab_ok rfl rfl rfl rfl rfl rfl rfl rfl ?_) | refine WA.effN 20 rfl qK rfl rfl (Ef.store 4 tab_ok rfl rfl rfl rfl rfl rfl rfl rfl ?_) | refine WA.effN 20 rfl qK rfl rfl (Ef.store 5 tab_ok rfl rfl rfl rfl rfl rfl rfl rfl ?_) | refine WA.effN 20 rfl qK rfl rfl (Ef.store 6 tab_ok rfl rfl rfl rfl rfl rfl rfl rfl ?_)
       refine ⟨qR, qS, ?_⟩
       refine WA.done qK ?_
       refine WE.cut (nth (fvals (upV xs (c + 3) v0) n) ((n : Int) - 1).toNat - nth (fvals (upV xs (c + 3) v0) n) ((n : Int) - (P : Int)).toNat + nth ([0, 0, 1, 3, 4, 8] : List Int) (mod (nth xs (c + 3 + n)) ((6 : Nat) : Int)).toNat) ⟨by omega, by omega, by omega⟩ ⟨rfl, rfl, rfl, rfl⟩ (RLe.refl _) qS
      ·
       refine' WS.yl rfl rfl rfl qD (Yl.load1 tab_ok rfl rfl rfl (fun _ => rfl) ?r40 rfl ?h40) qS qR ?_
       case r40 => apply Rd.add; (first | exact Rd.blk 0 rfl | exact Rd.blk 1 rfl | exact Rd.blk 2 rfl | exact Rd.blk 3 rfl | exact Rd.blk 4 rfl | exact Rd.blk 5 rfl | exact Rd.blk 6 rfl)
       case h40 => rfl
       refine tS 11 ?_
       refine' WA.yl 7 rfl qK rfl rfl qD (Yl.load1 tab_ok rfl rfl rfl (fun _ => rfl) ?r41 rfl ?h41) qS qR ?_
       case r41 => apply Rd.add; (first | exact Rd.blk 0 rfl | exact Rd.blk 1 rfl | exact Rd.blk 2 rfl | exact Rd.blk 3 rfl | exact Rd.blk 4 rfl | exact Rd.blk 5 rfl | exact Rd.blk 6 rfl)
       case h41 => rfl
       refine WA.take 12 rfl qK qK qK rfl rfl qD (Yl.index tab_ok rfl rfl rfl rfl rfl rfl (fun _ => rfl) qA qH) qS qR ?_
       refine' WA.take 13 rfl qK qK qK rfl rfl qD (Yl.load1 tab_ok rfl rfl rfl (fun _ => rfl) ?r42 rfl ?h42) qS qR ?_
       case r42 => (first | (apply RS.rdD; assumption; ((try dsimp only) <;> omega)) | exact Rd.slD 0 rfl qX | exact Rd.slD 1 rfl qX | exact Rd.slD 2 rfl qX | exact Rd.slD 3 rfl qX | exact Rd.slD 4 rfl qX | exact Rd.slD 5 rfl qX | exact Rd.slD 6 rfl qX)
       case h42 => rfl
       refine tS 14 ?_
       refine tA 18 ?_
       refine tP 19 ?_
       first | refine WA.effN 20 rfl qK rfl rfl (Ef.store 0 tab_ok rfl rfl rfl rfl rfl rfl rfl rfl ?_) | refine WA.effN 20 rfl qK rfl rfl (Ef.store 1 tab_ok rfl rfl rfl rfl rfl rfl rfl rfl ?_) | refine WA.effN 20 rfl qK rfl rfl (Ef.store 2 tab_ok rfl rfl rfl rfl rfl rfl rfl rfl ?_) | refine WA.effN 20 rfl qK rfl rfl (Ef.store 3 tab_ok rfl rfl rfl rfl rfl rfl rfl rfl ?_) | refine WA.effN 20 rfl qK rfl rfl (Ef.store 4 tab_ok rfl rfl rfl rfl rfl rfl rfl rfl ?_) | refine WA.effN 20 rfl qK rfl rfl (Ef.store 5 tab_ok rfl rfl rfl rfl rfl rfl rfl rfl ?_) | refine WA.effN 20 rfl qK rfl rfl (Ef.store 6 tab_ok rfl rfl rfl rfl rfl rfl rfl rfl ?_)
       refine ⟨qR, qS, ?_⟩
       refine WA.done qK ?_
       refine WE.cut (nth (fvals (upV xs (c + 3) v0) n) ((n : Int) - 1).toNat - nth (fvals (upV xs (c + 3) v0) n) ((n : Int) - (P : Int)).toNat + nth ([0, 0, 1, 3, 4, 8] : List Int) (mod (nth xs (c + 3 + n)) ((6 : Nat) : Int)).toNat) ⟨by omega, by omega, by omega⟩ ⟨rfl, rfl, rfl, rfl⟩ (RLe.refl _) qS
   ·
    refine' WS.yl rfl rfl rfl qD (Yl.load1 tab_ok rfl rfl rfl (fun _ => rfl) ?r43 rfl ?h43) qS qR ?_
    case r43 => apply Rd.add; (first | exact Rd.blk 0 rfl | exact Rd.blk 1 rfl | exact Rd.blk 2 rfl | exact Rd.blk 3 rfl | exact Rd.blk 4 rfl | exact Rd.blk 5 rfl | exact Rd.blk 6 rfl)
    case h43 => rfl
    refine WA.br3 (i := 1) (j := 10) (k := 16) qK ?_ ?_ ?_
    ·
     refine' WS.yl rfl rfl rfl qD (Yl.load1 tab_ok rfl rfl rfl (fun _ => rfl) ?r44 rfl ?h44) qS qR ?_
     case r44 => apply Rd.add; (first | exact Rd.blk 0 rfl | exact Rd.blk 1 rfl | exact Rd.blk 2 rfl | exact Rd.blk 3 rfl | exact Rd.blk 4 rfl | exact Rd.blk 5 rfl | exact Rd.blk 6 rfl)
     case h44 => rfl
     refine WA.take 4 rfl qK qK qK rfl rfl qD (Yl.index tab_ok rfl rfl rfl rfl rfl rfl (fun _ => rfl) qA qH) qS qR ?_
     refine' WA.take 5 rfl qK qK qK rfl rfl qD (Yl.load1 tab_ok rfl rfl rfl (fun _ => rfl) ?r45 rfl ?h45) qS qR ?_
     case r45 => (first | (apply RS.rdD; assumption; ((try dsimp only) <;> omega)) | exact Rd.slD 0 rfl qX | exact Rd.slD 1 rfl qX | exact Rd.slD 2 rfl qX | exact Rd.slD 3 rfl qX | exact Rd.slD 4 rfl qX | exact Rd.slD 5 rfl qX | exact Rd.slD 6 rfl qX)
     case h45 => rfl
     refine WA.br2 (i := 10) (j := 16) qK ?_ ?_
     ·
      refine' WS.yl rfl rfl rfl qD (Yl.load1 tab_ok rfl rfl rfl (fun _ => rfl) ?r46 rfl ?h46) qS qR ?_
      case r46 => apply Rd.add; (first | exact Rd.blk 0 rfl | exact Rd.blk 1 rfl | exact Rd.blk 2 rfl | exact Rd.blk 3 rfl | exact Rd.blk 4 rfl | exact Rd.blk 5 rfl | exact Rd.blk 6 rfl)
      case h46 => rfl
      refine tS 11 ?_
      refine WA.take 12 rfl qK qK qK rfl rfl qD (Yl.index tab_ok rfl rfl rfl rfl rfl rfl (fun _ => rfl) qA qH) qS qR ?_
      refine' WA.take 13 rfl qK qK qK rfl rfl qD (Yl.load1 tab_ok rfl rfl rfl (fun _ => rfl) ?r47 rfl ?h47) qS qR ?_
      case r47 => (first | (apply RS.rdD; assumption; ((try dsimp only) <;> omega)) | exact Rd.slD 0 rfl qX | exact Rd.slD 1 rfl qX | exact Rd.slD 2 rfl qX | exact Rd.slD 3 rfl qX | exact Rd.slD 4 rfl qX | exact Rd.slD 5 rfl qX | exact Rd.slD 6 rfl qX)
      case h47 => rfl
      refine tS 14 ?_
      refine WA.eff 16 rfl qK rfl rfl qD (Ef.buildSliceD (enc := encI) (parts := [.const (.int .i64 0), .const (.int .i64 0), .const (.int .i64 1), .const (.int .i64 3), .const (.int .i64 4), .const (.int .i64 8)]) [_, _, _, _, _, _] tab_ok rfl rfl rfl rfl rfl rfl rfl rfl qD qD (fun a54 => ?_))
      refine ⟨qR, qS, ?_⟩
      refine WA.callAt 5 17 rfl qK en33 rfl rfl qD (CallOp.mkT rfl rfl rfl rfl) rfl (PickM_C (j := 0) w0 ([0, 0, 1, 3, 4, 8] : List Int) rfl qD qD ha rfl) ?_
      rintro _ _ _ _ - ⟨rfl, rfl, rfl, rfl⟩
      refine ⟨RLe.refl _, qS, ?_⟩
      refine tA 18 ?_
      refine tP 19 ?_
      first | refine WA.effN 20 rfl qK rfl rfl (Ef.store 0 tab_ok rfl rfl rfl rfl rfl rfl rfl rfl ?_) | refine WA.effN 20 rfl qK rfl rfl (Ef.store 1 tab_ok rfl rfl rfl rfl rfl rfl rfl rfl ?_) | refine WA.effN 20 rfl qK rfl rfl (Ef.store 2 tab_ok rfl rfl rfl rfl rfl rfl rfl rfl ?_) | refine WA.effN 20 rfl qK rfl rfl (Ef.store 3 tab_ok rfl rfl rfl rfl rfl rfl rfl rfl ?_) | refine WA.effN 20 rfl qK rfl rfl (Ef.store 4 tab_ok rfl rfl rfl rfl rfl rfl rfl rfl ?_) | refine WA.effN 20 rfl qK rfl rfl (Ef.store 5 tab_ok rfl rfl rfl rfl rfl rfl rfl rfl ?_) | refine WA.effN 20 rfl qK rfl rfl (Ef.store 6 tab_ok rfl rfl rfl rfl rfl rfl rfl rfl ?_)
      refine ⟨qR, qS, ?_⟩
      refine WA.done qK ?_
      refine WE.cut (nth (fvals (upV xs (c + 3) v0) n) ((n : Int) - 1).toNat - nth (fvals (upV xs (c + 3) v0) n) ((n : Int) - (P : Int)).toNat + nth ([0, 0, 1, 3, 4, 8] : List Int) (mod (nth xs (c + 3 + n)) ((6 : Nat) : Int)).toNat) ⟨by omega, by omega, by omega⟩ ⟨rfl, rfl, rfl, rfl⟩ (RLe.refl _) qS
     ·
      refine WS.eff rfl rfl rfl qD (Ef.buildSliceD (enc := encI) (parts := [.const (.int .i64 0), .const (.int .i64 0), .const (.int .i64 1), .const (.int .i64 3), .const (.int .i64 4), .const (.int .i64 8)]) [_, _, _, _, _, _] tab_ok rfl rfl rfl rfl rfl rfl rfl rfl qD qD (fun a54 => ?_))
      refine ⟨qR, qS, ?_⟩
      refine WA.br2 (i := 10) (j := 17) qK ?_ ?_
      ·
       refine' WS.yl rfl rfl rfl qD (Yl.load1 tab_ok rfl rfl rfl (fun _ => rfl) ?r48 rfl ?h48) qS qR ?_
       case r48 => apply Rd.add; (first | exact Rd.blk 0 rfl | exact Rd.blk 1 rfl | exact Rd.blk 2 rfl | exact Rd.blk 3 rfl | exact Rd.blk 4 rfl | exact Rd.blk 5 rfl | exact Rd.blk 6 rfl)
       case h48 => rfl
       refine tS 11 ?_
       refine WA.take 12 rfl qK qK qK rfl rfl qD (Yl.index tab_ok rfl rfl rfl rfl rfl rfl (fun _ => rfl) qA qH) qS qR ?_
       refine' WA.take 13 rfl qK qK qK rfl rfl qD (Yl.load1 tab_ok rfl rfl rfl (fun _ => rfl) ?r49 rfl ?h49) qS qR ?_
       case r49 => (first | (apply RS.rdD; assumption; ((try dsimp only) <;> omega)) | exact Rd.slD 0 rfl qX | exact Rd.slD 1 rfl qX | exact Rd.slD 2 rfl qX | exact Rd.slD 3 rfl qX | exact Rd.slD 4 rfl qX | exact Rd.slD 5 rfl qX | exact Rd.slD 6 rfl qX)
       case h49 => rfl
       refine tS 14 ?_
       refine WA.callAt 5 17 rfl qK en33 rfl rfl qD (CallOp.mkT rfl rfl rfl rfl) rfl (PickM_C (j := 0) w0 ([0, 0, 1, 3, 4, 8] : List Int) rfl qD qD ha rfl) ?_
       rintro _ _ _ _ - ⟨rfl, rfl, rfl, rfl⟩
       refine ⟨RLe.refl _, qS, ?_⟩
       refine tA 18 ?_
       refine tP 19 ?_
       first | refine WA.effN 20 rfl qK rfl rfl (Ef.store 0 tab_ok rfl rfl rfl rfl rfl rfl rfl rfl ?_) | refine WA.effN 20 rfl qK rfl rfl (Ef.store 1 tab_ok rfl rfl rfl rfl rfl rfl rfl rfl ?_) | refine WA.effN 20 rfl qK rfl rfl (Ef.store 2 tab_ok rfl rfl rfl rfl rfl rfl rfl rfl ?_) | refine WA.effN 20 rfl qK rfl rfl (Ef.store 3 tab_ok rfl rfl rfl rfl rfl rfl rfl rfl ?_) | refine WA.effN 20 rfl qK rfl rfl (Ef.store 4 tab_ok rfl rfl rfl rfl rfl rfl rfl rfl ?_) | refine WA.effN 20 rfl qK rfl rfl (Ef.store 5 tab_ok rfl rfl rfl rfl rfl rfl rfl rfl ?_) | refine WA.effN 20 rfl qK rfl rfl (Ef.store 6 tab_ok rfl rfl rfl rfl rfl rfl rfl rfl ?_)
       refine ⟨qR, qS, ?_⟩
       refine WA.done qK ?_
       refine WE.cut (nth (fvals (upV xs (c + 3) v0) n) ((n : Int) - 1).toNat - nth (fvals (upV xs (c + 3) v0) n) ((n : Int) - (P : Int)).toNat + nth ([0, 0, 1, 3, 4, 8] : List Int) (mod (nth xs (c + 3 + n)) ((6 : Nat) : Int)).toNat) ⟨by omega, by omega, by omega⟩ ⟨rfl, rfl, rfl, rfl⟩ (RLe.refl _) qS
      ·
       refine WS.callAt 5 rfl en33 rfl rfl qD (CallOp.mkT rfl rfl rfl rfl) rfl (PickM_C (j := 0) w0 ([0, 0, 1, 3, 4, 8] : List Int) rfl qD qD ha rfl) ?_
       rintro _ _ _ _ - ⟨rfl, rfl, rfl, rfl⟩
       refine ⟨qR, qS, ?_⟩
       refine' WA.yl 10 rfl qK rfl rfl qD (Yl.load1 tab_ok rfl rfl rfl (fun _ => rfl) ?r50 rfl ?h50) qS qR ?_
       case r50 => apply Rd.add; (first | exact Rd.blk 0 rfl | exact Rd.blk 1 rfl | exact Rd.blk 2 rfl | exact Rd.blk 3 rfl | exact Rd.blk 4 rfl | exact Rd.blk 5 rfl | exact Rd.blk 6 rfl)
       case h50 => rfl
       refine tS 11 ?_
       refine WA.take 12 rfl qK qK qK rfl rfl qD (Yl.index tab_ok rfl rfl rfl rfl rfl rfl (fun _ => rfl) qA qH) qS qR ?_
       refine' WA.take 13 rfl qK qK qK rfl rfl qD (Yl.load1 tab_ok rfl rfl rfl (fun _ => rfl) ?r51 rfl ?h51) qS qR ?_
       case r51 => (first | (apply RS.rdD; assumption; ((try dsimp only) <;> omega)) | exact Rd.slD 0 rfl qX | exact Rd.slD 1 rfl qX | exact Rd.slD 2 rfl qX | exact Rd.slD 3 rfl qX | exact Rd.slD 4 rfl qX | exact Rd.slD 5 rfl qX | exact Rd.slD 6 rfl qX)
       case h51 => rfl
       refine tS 14 ?_
       refine tA 18 ?_
       refine tP 19 ?_
       first | refine WA.effN 20 rfl qK rfl rfl (Ef.store 0 tab_ok rfl rfl rfl rfl rfl rfl rfl rfl ?_) | refine WA.effN 20 rfl qK rfl rfl (Ef.store 1 tab_ok rfl rfl rfl rfl rfl rfl rfl rfl ?_) | refine WA.effN 20 rfl qK rfl rfl (Ef.store 2 tab_ok rfl rfl rfl rfl rfl rfl rfl rfl ?_) | refine WA.effN 20 rfl qK rfl rfl (Ef.store 3 tab_ok rfl rfl rfl rfl rfl rfl rfl rfl ?_) | refine WA.effN 20 rfl qK rfl rfl (Ef.store 4 tab_ok rfl rfl rfl rfl rfl rfl rfl rfl ?_) | refine WA.effN 20 rfl qK rfl rfl (Ef.store 5 tab_ok rfl rfl rfl rfl rfl rfl rfl rfl ?_) | refine WA.effN 20 rfl qK rfl rfl (Ef.store 6 tab_ok rfl rfl rfl rfl rfl rfl rfl rfl ?_)
       refine ⟨qR, qS, ?_⟩
       refine WA.done qK ?_
       refine WE.cut (nth (fvals (upV xs (c + 3) v0) n) ((n : Int) - 1).toNat - nth (fvals (upV xs (c + 3) v0) n) ((n : Int) - (P : Int)).toNat + nth ([0, 0, 1, 3, 4, 8] : List Int) (mod (nth xs (c + 3 + n)) ((6 : Nat) : Int)).toNat) ⟨by omega, by omega, by omega⟩ ⟨rfl, rfl, rfl, rfl⟩ (RLe.refl _) qS
    ·
     refine' WS.yl rfl rfl rfl qD (Yl.load1 tab_ok rfl rfl rfl (fun _ => rfl) ?r52 rfl ?h52) qS qR ?_
     case r52 => apply Rd.add; (first | exact Rd.blk 0 rfl | exact Rd.blk 1 rfl | exact Rd.blk 2 rfl | exact Rd.blk 3 rfl | exact Rd.blk 4 rfl | exact Rd.blk 5 rfl | exact Rd.blk 6 rfl)
     case h52 => rfl
     refine tS 11 ?_
     refine WA.take 12 rfl qK qK qK rfl rfl qD (Yl.index tab_ok rfl rfl rfl rfl rfl rfl (fun _ => rfl) qA qH) qS qR ?_
     refine' WA.take 13 rfl qK qK qK rfl rfl qD (Yl.load1 tab_ok rfl rfl rfl (fun _ => rfl) ?r53 rfl ?h53) qS qR ?_
     case r53 => (first | (apply RS.rdD; assumption; ((try dsimp only) <;> omega)) | exact Rd.slD 0 rfl qX | exact Rd.slD 1 rfl qX | exact Rd.slD 2 rfl qX | exact Rd.slD 3 rfl qX | exact Rd.slD 4 rfl qX | exact Rd.slD 5 rfl qX | exact Rd.slD 6 rfl qX)
     case h53 => rfl
     refine WA.br2 (i := 1) (j := 16) qK ?_ ?_
     ·
      refine' WS.yl rfl rfl rfl qD (Yl.load1 tab_ok rfl rfl rfl (fun _ => rfl) ?r54 rfl ?h54) qS qR ?_
      case r54 => apply Rd.add; (first | exact Rd.blk 0 rfl | exact Rd.blk 1 rfl | exact Rd.blk 2 rfl | exact Rd.blk 3 rfl | exact Rd.blk 4 rfl | exact Rd.blk 5 rfl | exact Rd.blk 6 rfl)
      case h54 => rfl
      refine WA.take 4 rfl qK qK qK rfl rfl qD (Yl.index tab_ok rfl rfl rfl rfl rfl rfl (fun _ => rfl) qA qH) qS qR ?_
      refine' WA.take 5 rfl qK qK qK rfl rfl qD (Yl.load1 tab_ok rfl rfl rfl (fun _ => rfl) ?r55 rfl ?h55) qS qR ?_
      case r55 => (first | (apply RS.rdD; assumption; ((try dsimp only) <;> omega)) | exact Rd.slD 0 rfl qX | exact Rd.slD 1 rfl qX | exact Rd.slD 2 rfl qX | exact Rd.slD 3 rfl qX | exact Rd.slD 4 rfl qX | exact Rd.slD 5 rfl qX | exact Rd.slD 6 rfl qX)
      case h55 => rfl
      refine tS 14 ?_
      refine WA.eff 16 rfl qK rfl rfl qD (Ef.buildSliceD (enc := encI) (parts := [.const (.int .i64 0), .const (.int .i64 0), .const (.int .i64 1), .const (.int .i64 3), .const (.int .i64 4), .const (.int .i64 8)]) [_, _, _, _, _, _] tab_ok rfl rfl rfl rfl rfl rfl rfl rfl qD qD (fun a54 => ?_))
      refine ⟨qR, qS, ?_⟩
      refine WA.callAt 5 17 rfl qK en33 rfl rfl qD (CallOp.mkT rfl rfl rfl rfl) rfl (PickM_C (j := 0) w0 ([0, 0, 1, 3, 4, 8] : List Int) rfl qD qD ha rfl) ?_
      rintro _ _ _ _ - ⟨rfl, rfl, rfl, rfl⟩
      refine ⟨RLe.refl _, qS, ?_⟩
      refine tA 18 ?_
      refine tP 19 ?_
      first | refine WA.effN 20 rfl qK rfl rfl (Ef.store 0 tab_ok rfl rfl rfl rfl rfl rfl rfl rfl ?_) | refine WA.effN 20 rfl qK rfl rfl (Ef.store 1 tab_ok rfl rfl rfl rfl rfl rfl rfl rfl ?_) | refine WA.effN 20 rfl qK rfl rfl (Ef.store 2 tab_ok rfl rfl rfl rfl rfl rfl rfl rfl ?_) | refine WA.effN 20 rfl qK rfl rfl (Ef.store 3 tab_ok rfl rfl rfl rfl rfl rfl rfl rfl ?_) | refine WA.effN 20 rfl qK rfl rfl (Ef.store 4 tab_ok rfl rfl rfl rfl rfl rfl rfl rfl ?_) | refine WA.effN 20 rfl qK rfl rfl (Ef.store 5 tab_ok rfl rfl rfl rfl rfl rfl rfl rfl ?_) | refine WA.effN 20 rfl qK rfl rfl (Ef.store 6 tab_ok rfl rfl rfl rfl rfl rfl rfl rfl ?_)
      refine ⟨qR, qS, ?_⟩
      refine WA.done qK ?_
      refine WE.cut (nth (fvals (upV xs (c + 3) v0) n) ((n : Int) - 1).toNat - nth (fvals (upV xs (c + 3) v0) n) ((n : Int) - (P : Int)).toNat + nth ([0, 0, 1, 3, 4, 8] : List Int) (mod (nth xs (c + 3 + n)) ((6 : Nat) : Int)).toNat) ⟨by omega, by omega, by omega⟩ ⟨rfl, rfl, rfl, rfl⟩ (RLe.refl _) qS
     ·
      refine WS.eff rfl rfl rfl qD (Ef.buildSliceD (enc := encI) (parts := [.const (.int .i64 0), .const (.int .i64 0), .const (.int .i64 1), .const (.int .i64 3), .const (.int .i64 4), .const (.int .i64 8)]) [_, _, _, _, _, _] tab_ok rfl rfl rfl rfl rfl rfl rfl rfl qD qD (fun a54 => ?_))
      refine ⟨qR, qS, ?_⟩
      refine WA.br2 (i := 1) (j := 17) qK ?_ ?_
      ·
       refine' WS.yl rfl rfl rfl qD (Yl.load1 tab_ok rfl rfl rfl (fun _ => rfl) ?r56 rfl ?h56) qS qR ?_
       case r56 => apply Rd.add; (first | exact Rd.blk 0 rfl | exact Rd.blk 1 rfl | exact Rd.blk 2 rfl | exact Rd.blk 3 rfl | exact Rd.blk 4 rfl | exact Rd.blk 5 rfl | exact Rd.blk 6 rfl)
       case h56 => rfl
       refine WA.take 4 rfl qK qK qK rfl rfl qD (Yl.index tab_ok rfl rfl rfl rfl rfl rfl (fun _ => rfl) qA qH) qS qR ?_
       refine' WA.take 5 rfl qK qK qK rfl rfl qD (Yl.load1 tab_ok rfl rfl rfl (fun _ => rfl) ?r57 rfl ?h57) qS qR ?_
       case r57 => (first | (apply RS.rdD; assumption; ((try dsimp only) <;> omega)) | exact Rd.slD 0 rfl qX | exact Rd.slD 1 rfl qX | exact Rd.slD 2 rfl qX | exact Rd.slD 3 rfl qX | exact Rd.slD 4 rfl qX | exact Rd.slD 5 rfl qX | exact Rd.slD 6 rfl qX)
       case h57 => rfl
       refine tS 14 ?_
       refine WA.callAt 5 17 rfl qK en33 rfl rfl qD (CallOp.mkT rfl rfl rfl rfl) rfl (PickM_C (j := 0) w0 ([0, 0, 1, 3, 4, 8] : List Int) rfl qD qD ha rfl) ?_
       rintro _ _ _ _ - ⟨rfl, rfl, rfl, rfl⟩
       refine ⟨RLe.refl _, qS, ?_⟩
       refine tA 18 ?_
       refine tP 19 ?_
       first | refine WA.effN 20 rfl qK rfl rfl (Ef.store 0 tab_ok rfl rfl rfl rfl rfl rfl rfl rfl ?_) | refine WA.effN 20 rfl qK rfl rfl (Ef.store 1 tab_ok rfl rfl rfl rfl rfl rfl rfl rfl ?_) | refine WA.effN 20 rfl qK rfl rfl (Ef.store 2 tab_ok rfl rfl rfl rfl rfl rfl rfl rfl ?_) | refine WA.effN 20 rfl qK rfl rfl (Ef.store 3 tab_ok rfl rfl rfl rfl rfl rfl rfl rfl ?_) | refine WA.effN 20 rfl qK rfl rfl (Ef.store 4 tab_ok rfl rfl rfl rfl rfl rfl rfl rfl ?_) | refine WA.effN 20 rfl qK rfl rfl (Ef.store 5 tab_ok rfl rfl rfl rfl rfl rfl rfl rfl ?_) | refine WA.effN 20 rfl qK rfl rfl (Ef.store 6 tab_ok rfl rfl rfl rfl rfl rfl rfl rfl ?_)
       refine ⟨qR, qS, ?_⟩
       refine WA.done qK ?_
       refine WE.cut (nth (fvals (upV xs (c + 3) v0) n) ((n : Int) - 1).toNat - nth (fvals (upV xs (c + 3) v0) n) ((n : Int) - (P : Int)).toNat + nth ([0, 0, 1, 3, 4, 8] : List Int) (mod (nth xs (c + 3 + n)) ((6 : Nat) : Int)).toNat) ⟨by omega, by omega, by omega⟩ ⟨rfl, rfl, rfl, rfl⟩ (RLe.refl _) qS
      ·
       refine WS.callAt 5 rfl en33 rfl rfl qD (CallOp.mkT rfl rfl rfl rfl) rfl (PickM_C (j := 0) w0 ([0, 0, 1, 3, 4, 8] : List Int) rfl qD qD ha rfl) ?_
       rintro _ _ _ _ - ⟨rfl, rfl, rfl, rfl⟩
       refine ⟨qR, qS, ?_⟩
       refine' WA.yl 1 rfl qK rfl rfl qD (Yl.load1 tab_ok rfl rfl rfl (fun _ => rfl) ?r58 rfl ?h58) qS qR ?_
       case r58 => apply Rd.add; (first | exact Rd.blk 0 rfl | exact Rd.blk 1 rfl | exact Rd.blk 2 rfl | exact Rd.blk 3 rfl | exact Rd.blk 4 rfl | exact Rd.blk 5 rfl | exact Rd.blk 6 rfl)
       case h58 => rfl
       refine WA.take 4 rfl qK qK qK rfl rfl qD (Yl.index tab_ok rfl rfl rfl rfl rfl rfl (fun _ => rfl) qA qH) qS qR ?_
       refine' WA.take 5 rfl qK qK qK rfl rfl qD (Yl.load1 tab_ok rfl rfl rfl (fun _ => rfl) ?r59 rfl ?h59) qS qR ?_
       case r59 => (first | (apply RS.rdD; assumption; ((try dsimp only) <;> omega)) | exact Rd.slD 0 rfl qX | exact Rd.slD 1 rfl qX | exact Rd.slD 2 rfl qX | exact Rd.slD 3 rfl qX | exact Rd.slD 4 rfl qX | exact Rd.slD 5 rfl qX | exact Rd.slD 6 rfl qX)
       case h59 => rfl
       refine tS 14 ?_
       refine tA 18 ?_
       refine tP 19 ?_
       first | refine WA.effN 20 rfl qK rfl rfl (Ef.store 0 tab_ok rfl rfl rfl rfl rfl rfl rfl rfl ?_) | refine WA.effN 20 rfl qK rfl rfl (Ef.store 1 tab_ok rfl rfl rfl rfl rfl rfl rfl rfl ?_) | refine WA.effN 20 rfl qK rfl rfl (Ef.store 2 tab_ok rfl rfl rfl rfl rfl rfl rfl rfl ?_) | refine WA.effN 20 rfl qK rfl rfl (Ef.store 3 tab_ok rfl rfl rfl rfl rfl rfl rfl rfl ?_) | refine WA.effN 20 rfl qK rfl rfl (Ef.store 4 tab_ok rfl rfl rfl rfl rfl rfl rfl rfl ?_) | refine WA.effN 20 rfl qK rfl rfl (Ef.store 5 tab_ok rfl rfl rfl rfl rfl rfl rfl rfl ?_) | refine WA.effN 20 rfl qK rfl rfl (Ef.store 6 tab_ok rfl rfl rfl rfl rfl rfl rfl rfl ?_)
       refine ⟨qR, qS, ?_⟩
       refine WA.done qK ?_
       refine WE.cut (nth (fvals (upV xs (c + 3) v0) n) ((n : Int) - 1).toNat - nth (fvals (upV xs (c + 3) v0) n) ((n : Int) - (P : Int)).toNat + nth ([0, 0, 1, 3, 4, 8] : List Int) (mod (nth xs (c + 3 + n)) ((6 : Nat) : Int)).toNat) ⟨by omega, by omega, by omega⟩ ⟨rfl, rfl, rfl, rfl⟩ (RLe.refl _) qS
    ·
     refine WS.eff rfl rfl rfl qD (Ef.buildSliceD (enc := encI) (parts := [.const (.int .i64 0), .const (.int .i64 0), .const (.int .i64 1), .const (.int .i64 3), .const (.int .i64 4), .const (.int .i64 8)]) [_, _, _, _, _, _] tab_ok rfl rfl rfl rfl rfl rfl rfl rfl qD qD (fun a54 => ?_))
     refine ⟨qR, qS, ?_⟩
     refine WA.br3 (i := 1) (j := 10) (k := 17) qK ?_ ?_ ?_
     ·
      refine' WS.yl rfl rfl rfl qD (Yl.load1 tab_ok rfl rfl rfl (fun _ => rfl) ?r60 rfl ?h60) qS qR ?_
      case r60 => apply Rd.add; (first | exact Rd.blk 0 rfl | exact Rd.blk 1 rfl | exact Rd.blk 2 rfl | exact Rd.blk 3 rfl | exact Rd.blk 4 rfl | exact Rd.blk 5 rfl | exact Rd.blk 6 rfl)
      case h60 => rfl
      refine WA.take 4 rfl qK qK qK rfl rfl qD (Yl.index tab_ok rfl rfl rfl rfl rfl rfl (fun _ => rfl) qA qH) qS qR ?_
      refine' WA.take 5 rfl qK qK qK rfl rfl qD (Yl.load1 tab_ok rfl rfl rfl (fun _ => rfl) ?r61 rfl ?h61) qS qR ?_
      case r61 => (first | (apply RS.rdD; assumption; ((try dsimp only) <;> omega)) | exact Rd.slD 0 rfl qX | exact Rd.slD 1 rfl qX | exact Rd.slD 2 rfl qX | exact Rd.slD 3 rfl qX | exact Rd.slD 4 rfl qX | exact Rd.slD 5 rfl qX | exact Rd.slD 6 rfl qX)
      case h61 => rfl
      refine WA.br2 (i := 10) (j := 17) qK ?_ ?_
      ·
       refine' WS.yl rfl rfl rfl qD (Yl.load1 tab_ok rfl rfl rfl (fun _ => rfl) ?r62 rfl ?h62) qS qR ?_
       case r62 => apply Rd.add; (first | exact Rd.blk 0 rfl | exact Rd.blk 1 rfl | exact Rd.blk 2 rfl | exact Rd.blk 3 rfl | exact Rd.blk 4 rfl | exact Rd.blk 5 rfl | exact Rd.blk 6 rfl)
       case h62 => rfl
       refine tS 11 ?_
       refine WA.take 12 rfl qK qK qK rfl rfl qD (Yl.index tab_ok rfl rfl rfl rfl rfl rfl (fun _ => rfl) qA qH) qS qR ?_
       refine' WA.take 13 rfl qK qK qK rfl rfl qD (Yl.load1 tab_ok rfl rfl rfl (fun _ => rfl) ?r63 rfl ?h63) qS qR ?_
       case r63 => (first | (apply RS.rdD; assumption; ((try dsimp only) <;> omega)) | exact Rd.slD 0 rfl qX | exact Rd.slD 1 rfl qX | exact Rd.slD 2 rfl qX | exact Rd.slD 3 rfl qX | exact Rd.slD 4 rfl qX | exact Rd.slD 5 rfl qX | exact Rd.slD 6 rfl qX)
       case h63 => rfl
       refine tS 14 ?_
       refine WA.callAt 5 17 rfl qK en33 rfl rfl qD (CallOp.mkT rfl rfl rfl rfl) rfl (PickM_C (j := 0) w0 ([0, 0, 1, 3, 4, 8] : List Int) rfl qD qD ha rfl) ?_
       rintro _ _ _ _ - ⟨rfl, rfl, rfl, rfl⟩
       refine ⟨RLe.refl _, qS, ?_⟩
       refine tA 18 ?_
       refine tP 19 ?_
       first | refine WA.effN 20 rfl qK rfl rfl (Ef.store 0 tab_ok rfl rfl rfl rfl rfl rfl rfl rfl ?_) | refine WA.effN 20 rfl qK rfl rfl (Ef.store 1 tab_ok rfl rfl rfl rfl rfl rfl rfl rfl ?_) | refine WA.effN 20 rfl qK rfl rfl (Ef.store 2 tab_ok rfl rfl rfl rfl rfl rfl rfl rfl ?_) | refine WA.effN 20 rfl qK rfl rfl (Ef.store 3 tab_ok rfl rfl rfl rfl rfl rfl rfl rfl ?_) | refine WA.effN 20 rfl qK rfl rfl (Ef.store 4 tab_ok rfl rfl rfl rfl rfl rfl rfl rfl ?_) | refine WA.effN 20 rfl qK rfl rfl (Ef.store 5 tab_ok rfl rfl rfl rfl rfl rfl rfl rfl ?_) | refine WA.effN 20 rfl qK rfl rfl (Ef.store 6 tab_ok rfl rfl rfl rfl rfl rfl rfl rfl ?_)
       refine ⟨qR, qS, ?_⟩
       refine WA.done qK ?_
       refine WE.cut (nth (fvals (upV xs (c + 3) v0) n) ((n : Int) - 1).toNat - nth (fvals (upV xs (c + 3) v0) n) ((n : Int) - (P : Int)).toNat + nth ([0, 0, 1, 3, 4, 8] : List Int) (mod (nth xs (c + 3 + n)) ((6 : Nat) : Int)).toNat) ⟨by omega, by omega, by omega⟩ ⟨rfl, rfl, rfl, rfl⟩ (RLe.refl _) qS
      ·
       refine WS.callAt 5 rfl en33 rfl rfl qD (CallOp.mkT rfl rfl rfl rfl) rfl (PickM_C (j := 0) w0 ([0, 0, 1, 3, 4, 8] : List Int) rfl qD qD ha rfl) ?_
       rintro _ _ _ _ - ⟨rfl, rfl, rfl, rfl⟩
       refine ⟨qR, qS, ?_⟩
       refine' WA.yl 10 rfl qK rfl rfl qD (Yl.load1 tab_ok rfl rfl rfl (fun _ => rfl) ?r64 rfl ?h64) qS qR ?_
       case r64 => apply Rd.add; (first | exact Rd.blk 0 rfl | exact Rd.blk 1 rfl | exact Rd.blk 2 rfl | exact Rd.blk 3 rfl | exact Rd.blk 4 rfl | exact Rd.blk 5 rfl | exact Rd.blk 6 rfl)
       case h64 => rfl
       refine tS 11 ?_
       refine WA.take 12 rfl qK qK qK rfl rfl qD (Yl.index tab_ok rfl rfl rfl rfl rfl rfl (fun _ => rfl) qA qH) qS qR ?_
       refine' WA.take 13 rfl qK qK qK rfl rfl qD (Yl.load1 tab_ok rfl rfl rfl (fun _ => rfl) ?r65 rfl ?h65) qS qR ?_
       case r65 => (first | (apply RS.rdD; assumption; ((try dsimp only) <;> omega)) | exact Rd.slD 0 rfl qX | exact Rd.slD 1 rfl qX | exact Rd.slD 2 rfl qX | exact Rd.slD 3 rfl qX | exact Rd.slD 4 rfl qX | exact Rd.slD 5 rfl qX | exact Rd.slD 6 rfl qX)
       case h65 => rfl
       refine tS 14 ?_
       refine tA 18 ?_
       refine tP 19 ?_
       first | refine WA.effN 20 rfl qK rfl rfl (Ef.store 0 tab_ok rfl rfl rfl rfl rfl rfl rfl rfl ?_) | refine WA.effN 20 rfl qK rfl rfl (Ef.store 1 tab_ok rfl rfl rfl rfl rfl rfl rfl rfl ?_) | refine WA.effN 20 rfl qK rfl rfl (Ef.store 2 tab_ok rfl rfl rfl rfl rfl rfl rfl rfl ?_) | refine WA.effN 20 rfl qK rfl rfl (Ef.store 3 tab_ok rfl rfl rfl rfl rfl rfl rfl rfl ?_) | refine WA.effN 20 rfl qK rfl rfl (Ef.store 4 tab_ok rfl rfl rfl rfl rfl rfl rfl rfl ?_) | refine WA.effN 20 rfl qK rfl rfl (Ef.store 5 tab_ok rfl rfl rfl rfl rfl rfl rfl rfl ?_) | refine WA.effN 20 rfl qK rfl rfl (Ef.store 6 tab_ok rfl rfl rfl rfl rfl rfl rfl rfl ?_)
       refine ⟨qR, qS, ?_⟩
       refine WA.done qK ?_
       refine WE.cut (nth (fvals (upV xs (c + 3) v0) n) ((n : Int) - 1).toNat - nth (fvals (upV xs (c + 3) v0) n) ((n : Int) - (P : Int)).toNat + nth ([0, 0, 1, 3, 4, 8] : List Int) (mod (nth xs (c + 3 + n)) ((6 : Nat) : Int)).toNat) ⟨by omega, by omega, by omega⟩ ⟨rfl, rfl, rfl, rfl⟩ (RLe.refl _) qS
     ·
      refine' WS.yl rfl rfl rfl qD (Yl.load1 tab_ok rfl rfl rfl (fun _ => rfl) ?r66 rfl ?h66) qS qR ?_
      case r66 => apply Rd.add; (first | exact Rd.blk 0 rfl | exact Rd.blk 1 rfl | exact Rd.blk 2 rfl | exact Rd.blk 3 rfl | exact Rd.blk 4 rfl | exact Rd.blk 5 rfl | exact Rd.blk 6 rfl)
      case h66 => rfl
      refine tS 11 ?_
      refine WA.take 12 rfl qK qK qK rfl rfl qD (Yl.index tab_ok rfl rfl rfl rfl rfl rfl (fun _ => rfl) qA qH) qS qR ?_
      refine' WA.take 13 rfl qK qK qK rfl rfl qD (Yl.load1 tab_ok rfl rfl rfl (fun _ => rfl) ?r67 rfl ?h67) qS qR ?_
      case r67 => (first | (apply RS.rdD; assumption; ((try dsimp only) <;> omega)) | exact Rd.slD 0 rfl qX | exact Rd.slD 1 rfl qX | exact Rd.slD 2 rfl qX | exact Rd.slD 3 rfl qX | exact Rd.slD 4 rfl qX | exact Rd.slD 5 rfl qX | exact Rd.slD 6 rfl qX)
      case h67 => rfl
      refine WA.br2 (i := 1) (j := 17) qK ?_ ?_
      ·
       refine' WS.yl rfl rfl rfl qD (Yl.load1 tab_ok rfl rfl rfl (fun _ => rfl) ?r68 rfl ?h68) qS qR ?_
       case r68 => apply Rd.add; (first | exact Rd.blk 0 rfl | exact Rd.blk 1 rfl | exact Rd.blk 2 rfl | exact Rd.blk 3 rfl | exact Rd.blk 4 rfl | exact Rd.blk 5 rfl | exact Rd.blk 6 rfl)
       case h68 => rfl
       refine WA.take 4 rfl qK qK qK rfl rfl qD (Yl.index tab_ok rfl rfl rfl rfl rfl rfl (fun _ => rfl) qA qH) qS qR ?_
       refine' WA.take 5 rfl qK qK qK rfl rfl qD (Yl.load1 tab_ok rfl rfl rfl (fun _ => rfl) ?r69 rfl ?h69) qS qR ?_
       case r69 => (first | (apply RS.rdD; assumption; ((try dsimp only) <;> omega)) | exact Rd.slD 0 rfl qX | exact Rd.slD 1 rfl qX | exact Rd.slD 2 rfl qX | exact Rd.slD 3 rfl qX | exact Rd.slD 4 rfl qX | exact Rd.slD 5 rfl qX | exact Rd.slD 6 rfl qX)
       case h69 => rfl
       refine tS 14 ?_
       refine WA.callAt 5 17 rfl qK en33 rfl rfl qD (CallOp.mkT rfl rfl rfl rfl) rfl (PickM_C (j := 0) w0 ([0, 0, 1, 3, 4, 8] : List Int) rfl qD qD ha rfl) ?_
       rintro _ _ _ _ - ⟨rfl, rfl, rfl, rfl⟩
       refine ⟨RLe.refl _, qS, ?_⟩
       refine tA 18 ?_
       refine tP 19 ?_
       first | refine WA.effN 20 rfl qK rfl rfl (Ef.store 0 tab_ok rfl rfl rfl rfl rfl rfl rfl rfl ?_) | refine WA.effN 20 rfl qK rfl rfl (Ef.store 1 tab_ok rfl rfl rfl rfl rfl rfl rfl rfl ?_) | refine WA.effN 20 rfl qK rfl rfl (Ef.store 2 tab_ok rfl rfl rfl rfl rfl rfl rfl rfl ?_) | refine WA.effN 20 rfl qK rfl rfl (Ef.store 3 tab_ok rfl rfl rfl rfl rfl rfl rfl rfl ?_) | refine WA.effN 20 rfl qK rfl rfl (Ef.store 4 tab_ok rfl rfl rfl rfl rfl rfl rfl rfl ?_) | refine WA.effN 20 rfl qK rfl rfl (Ef.store 5 tab_ok rfl rfl rfl rfl rfl rfl rfl rfl ?_) | refine WA.effN 20 rfl qK rfl rfl (Ef.store 6 tab_ok rfl rfl rfl rfl rfl rfl rfl rfl ?_)
       refine ⟨qR, qS, ?_⟩
       refine WA.done qK ?_
       refine WE.cut (nth (fvals (upV xs (c + 3) v0) n) ((n : Int) - 1).toNat - nth (fvals (upV xs (c + 3) v0) n) ((n : Int) - (P : Int)).toNat + nth ([0, 0, 1, 3, 4, 8] : List Int) (mod (nth xs (c + 3 + n)) ((6 : Nat) : Int)).toNat) ⟨by omega, by omega, by omega⟩ ⟨rfl, rfl, rfl, rfl⟩ (RLe.refl _) qS
      ·
       refine WS.callAt 5 rfl en33 rfl rfl qD (CallOp.mkT rfl rfl rfl rfl) rfl (PickM_C (j := 0) w0 ([0, 0, 1, 3, 4, 8] : List Int) rfl qD qD ha rfl) ?_
       rintro _ _ _ _ - ⟨rfl, rfl, rfl, rfl⟩
       refine ⟨qR, qS, ?_⟩
       refine' WA.yl 1 rfl qK rfl rfl qD (Yl.load1 tab_ok rfl rfl rfl (fun _ => rfl) ?r70 rfl ?h70) qS qR ?_
       case r70 => apply Rd.add; (first | exact Rd.blk 0 rfl | exact Rd.blk 1 rfl | exact Rd.blk 2 rfl | exact Rd.blk 3 rfl | exact Rd.blk 4 rfl | exact Rd.blk 5 rfl | exact Rd.blk 6 rfl)
       case h70 => rfl
       refine WA.take 4 rfl qK qK qK rfl rfl qD (Yl.index tab_ok rfl rfl rfl rfl rfl rfl (fun _ => rfl) qA qH) qS qR ?_
       refine' WA.take 5 rfl qK qK qK rfl rfl qD (Yl.load1 tab_ok rfl rfl rfl (fun _ => rfl) ?r71 rfl ?h71) qS qR ?_
       case r71 => (first | (apply RS.rdD; assumption; ((try dsimp only) <;> omega)) | exact Rd.slD 0 rfl qX | exact Rd.slD 1 rfl qX | exact Rd.slD 2 rfl qX | exact Rd.slD 3 rfl qX | exact Rd.slD 4 rfl qX | exact Rd.slD 5 rfl qX | exact Rd.slD 6 rfl qX)
       case h71 => rfl
       refine tS 14 ?_
       refine tA 18 ?_
       refine tP 19 ?_
       first | refine WA.effN 20 rfl qK rfl rfl (Ef.store 0 tab_ok rfl rfl rfl rfl rfl rfl rfl rfl ?_) | refine WA.effN 20 rfl qK rfl rfl (Ef.store 1 tab_ok rfl rfl rfl rfl rfl rfl rfl rfl ?_) | refine WA.effN 20 rfl qK rfl rfl (Ef.store 2 tab_ok rfl rfl rfl rfl rfl rfl rfl rfl ?_) | refine WA.effN 20 rfl qK rfl rfl (Ef.store 3 tab_ok rfl rfl rfl rfl rfl rfl rfl rfl ?_) | refine WA.effN 20 rfl qK rfl rfl (Ef.store 4 tab_ok rfl rfl rfl rfl rfl rfl rfl rfl ?_) | refine WA.effN 20 rfl qK rfl rfl (Ef.store 5 tab_ok rfl rfl rfl rfl rfl rfl rfl rfl ?_) | refine WA.effN 20 rfl qK rfl rfl (Ef.store 6 tab_ok rfl rfl rfl rfl rfl rfl rfl rfl ?_)
       refine ⟨qR, qS, ?_⟩
       refine WA.done qK ?_
       refine WE.cut (nth (fvals (upV xs (c + 3) v0) n) ((n : Int) - 1).toNat - nth (fvals (upV xs (c + 3) v0) n) ((n : Int) - (P : Int)).toNat + nth ([0, 0, 1, 3, 4, 8] : List Int) (mod (nth xs (c + 3 + n)) ((6 : Nat) : Int)).toNat) ⟨by omega, by omega, by omega⟩ ⟨rfl, rfl, rfl, rfl⟩ (RLe.refl _) qS
     ·
      refine WS.callAt 5 rfl en33 rfl rfl qD (CallOp.mkT rfl rfl rfl rfl) rfl (PickM_C (j := 0) w0 ([0, 0, 1, 3, 4, 8] : List Int) rfl qD qD ha rfl) ?_
      rintro _ _ _ _ - ⟨rfl, rfl, rfl, rfl⟩
      refine ⟨qR, qS, ?_⟩
      refine WA.br2 (i := 1) (j := 10) qK ?_ ?_
      ·
       refine' WS.yl rfl rfl rfl qD (Yl.load1 tab_ok rfl rfl rfl (fun _ => rfl) ?r72 rfl ?h72) qS qR ?_
       case r72 => apply Rd.add; (first | exact Rd.blk 0 rfl | exact Rd.blk 1 rfl | exact Rd.blk 2 rfl | exact Rd.blk 3 rfl | exact Rd.blk 4 rfl | exact Rd.blk 5 rfl | exact Rd.blk 6 rfl)
       case h72 => rfl
       refine WA.take 4 rfl qK qK qK rfl rfl qD (Yl.index tab_ok rfl rfl rfl rfl rfl rfl (fun _ => rfl) qA qH) qS qR ?_
       refine' WA.take 5 rfl qK qK qK rfl rfl qD (Yl.load1 tab_ok rfl rfl rfl (fun _ => rfl) ?r73 rfl ?h73) qS qR ?_
       case r73 => (first | (apply RS.rdD; assumption; ((try dsimp only) <;> omega)) | exact Rd.slD 0 rfl qX | exact Rd.slD 1 rfl qX | exact Rd.slD 2 rfl qX | exact Rd.slD 3 rfl qX | exact Rd.slD 4 rfl qX | exact Rd.slD 5 rfl qX | exact Rd.slD 6 rfl qX)
       case h73 => rfl
       refine' WA.yl 10 rfl qK rfl rfl qD (Yl.load1 tab_ok rfl rfl rfl (fun _ => rfl) ?r74 rfl ?h74) qS qR ?_
       case r74 => apply Rd.add; (first | exact Rd.blk 0 rfl | exact Rd.blk 1 rfl | exact Rd.blk 2 rfl | exact Rd.blk 3 rfl | exact Rd.blk 4 rfl | exact Rd.blk 5 rfl | exact Rd.blk 6 rfl)
       case h74 => rfl
       refine tS 11 ?_
       refine WA.take 12 rfl qK qK qK rfl rfl qD (Yl.index tab_ok rfl rfl rfl rfl rfl rfl (fun _ => rfl) qA qH) qS qR ?_
       refine' WA.take 13 rfl qK qK qK rfl rfl qD (Yl.load1 tab_ok rfl rfl rfl (fun _ => rfl) ?r75 rfl ?h75) qS qR ?_
       case r75 => (first | (apply RS.rdD; assumption; ((try dsimp only) <;> omega)) | exact Rd.slD 0 rfl qX | exact Rd.slD 1 rfl qX | exact Rd.slD 2 rfl qX | exact Rd.slD 3 rfl qX | exact Rd.slD 4 rfl qX | exact Rd.slD 5 rfl qX | exact Rd.slD 6 rfl qX)
       case h75 => rfl
       refine tS 14 ?_
       refine tA 18 ?_
       refine tP 19 ?_
       first | refine WA.effN 20 rfl qK rfl rfl (Ef.store 0 tab_ok rfl rfl rfl rfl rfl rfl rfl rfl ?_) | refine WA.effN 20 rfl qK rfl rfl (Ef.store 1 tab_ok rfl rfl rfl rfl rfl rfl rfl rfl ?_) | refine WA.effN 20 rfl qK rfl rfl (Ef.store 2 tab_ok rfl rfl rfl rfl rfl rfl rfl rfl ?_) | refine WA.effN 20 rfl qK rfl rfl (Ef.store 3 tab_ok rfl rfl rfl rfl rfl rfl rfl rfl ?_) | refine WA.effN 20 rfl qK rfl rfl (Ef.store 4 tab_ok rfl rfl rfl rfl rfl rfl rfl rfl ?_) | refine WA.effN 20 rfl qK rfl rfl (Ef.store 5 tab_ok rfl rfl rfl rfl rfl rfl rfl rfl ?_) | refine WA.effN 20 rfl qK rfl rfl (Ef.store 6 tab_ok rfl rfl rfl rfl rfl rfl rfl rfl ?_)
       refine ⟨qR, qS, ?_⟩
       refine WA.done qK ?_
       refine WE.cut (nth (fvals (upV xs (c + 3) v0) n) ((n : Int) - 1).toNat - nth (fvals (upV xs (c + 3) v0) n) ((n : Int) - (P : Int)).toNat + nth ([0, 0, 1, 3, 4, 8] : List Int) (mod (nth xs (c + 3 + n)) ((6 : Nat) : Int)).toNat) ⟨by omega, by omega, by omega⟩ ⟨rfl, rfl, rfl, rfl⟩ (RLe.refl _) qS
      ·
       refine' WS.yl rfl rfl rfl qD (Yl.load1 tab_ok rfl rfl rfl (fun _ => rfl) ?r76 rfl ?h76) qS qR ?_
       case r76 => apply Rd.add; (first | exact Rd.blk 0 rfl | exact Rd.blk 1 rfl | exact Rd.blk 2 rfl | exact Rd.blk 3 rfl | exact Rd.blk 4 rfl | exact Rd.blk 5 rfl | exact Rd.blk 6 rfl)
       case h76 => rfl
       refine tS 11 ?_
       refine WA.take 12 rfl qK qK qK rfl rfl qD (Yl.index tab_ok rfl rfl rfl rfl rfl rfl (fun _ => rfl) qA qH) qS qR ?_
       refine' WA.take 13 rfl qK qK qK rfl rfl qD (Yl.load1 tab_ok rfl rfl rfl (fun _ => rfl) ?r77 rfl ?h77) qS qR ?_
       case r77 => (first | (apply RS.rdD; assumption; ((try dsimp only) <;> omega)) | exact Rd.slD 0 rfl qX | exact Rd.slD 1 rfl qX | exact Rd.slD 2 rfl qX | exact Rd.slD 3 rfl qX | exact Rd.slD 4 rfl qX | exact Rd.slD 5 rfl qX | exact Rd.slD 6 rfl qX)
       case h77 => rfl
       refine' WA.yl 1 rfl qK rfl rfl qD (Yl.load1 tab_ok rfl rfl rfl (fun _ => rfl) ?r78 rfl ?h78) qS qR ?_
       case r78 => apply Rd.add; (first | exact Rd.blk 0 rfl | exact Rd.blk 1 rfl | exact Rd.blk 2 rfl | exact Rd.blk 3 rfl | exact Rd.blk 4 rfl | exact Rd.blk 5 rfl | exact Rd.blk 6 rfl)
       case h78 => rfl
       refine WA.take 4 rfl qK qK qK rfl rfl qD (Yl.index tab_ok rfl rfl rfl rfl rfl rfl (fun _ => rfl) qA qH) qS qR ?_
       refine' WA.take 5 rfl qK qK qK rfl rfl qD (Yl.load1 tab_ok rfl rfl rfl (fun _ => rfl) ?r79 rfl ?h79) qS qR ?_
       case r79 => (first | (apply RS.rdD; assumption; ((try dsimp only) <;> omega)) | exact Rd.slD 0 rfl qX | exact Rd.slD 1 rfl qX | exact Rd.slD 2 rfl qX | exact Rd.slD 3 rfl qX | exact Rd.slD 4 rfl qX | exact Rd.slD 5 rfl qX | exact Rd.slD 6 rfl qX)
       case h79 => rfl
       refine tS 14 ?_
       refine tA 18 ?_
       refine tP 19 ?_
       first | refine WA.effN 20 rfl qK rfl rfl (Ef.store 0 tab_ok rfl rfl rfl rfl rfl rfl rfl rfl ?_) | refine WA.effN 20 rfl qK rfl rfl (Ef.store 1 tab_ok rfl rfl rfl rfl rfl rfl rfl rfl ?_) | refine WA.effN 20 rfl qK rfl rfl (Ef.store 2 tab_ok rfl rfl rfl rfl rfl rfl rfl rfl ?_) | refine WA.effN 20 rfl qK rfl rfl (Ef.store 3 tab_ok rfl rfl rfl rfl rfl rfl rfl rfl ?_) | refine WA.effN 20 rfl qK rfl rfl (Ef.store 4 tab_ok rfl rfl rfl rfl rfl rfl rfl rfl ?_) | refine WA.effN 20 rfl qK rfl rfl (Ef.store 5 tab_ok rfl rfl rfl rfl rfl rfl rfl rfl ?_) | refine WA.effN 20 rfl qK rfl rfl (Ef.store 6 tab_ok rfl rfl rfl rfl rfl rfl rfl rfl ?_)
       refine ⟨qR, qS, ?_⟩
       refine WA.done qK ?_
       refine WE.cut (nth (fvals (upV xs (c + 3) v0) n) ((n : Int) - 1).toNat - nth (fvals (upV xs (c + 3) v0) n) ((n : Int) - (P : Int)).toNat + nth ([0, 0, 1, 3, 4, 8] : List Int) (mod (nth xs (c + 3 + n)) ((6 : Nat) : Int)).toNat) ⟨by omega, by omega, by omega⟩ ⟨rfl, rfl, rfl, rfl⟩ (RLe.refl _) qS
   ·
    refine' WS.yl rfl rfl rfl qD (Yl.load1 tab_ok rfl rfl rfl (fun _ => rfl) ?r80 rfl ?h80) qS qR ?_
    case r80 => apply Rd.add; (first | exact Rd.blk 0 rfl | exact Rd.blk 1 rfl | exact Rd.blk 2 rfl | exact Rd.blk 3 rfl | exact Rd.blk 4 rfl | exact Rd.blk 5 rfl | exact Rd.blk 6 rfl)
    case h80 => rfl
    refine tS 11 ?_
    refine WA.br3 (i := 1) (j := 7) (k := 16) qK ?_ ?_ ?_
    ·
     refine' WS.yl rfl rfl rfl qD (Yl.load1 tab_ok rfl rfl rfl (fun _ => rfl) ?r81 rfl ?h81) qS qR ?_
     case r81 => apply Rd.add; (first | exact Rd.blk 0 rfl | exact Rd.blk 1 rfl | exact Rd.blk 2 rfl | exact Rd.blk 3 rfl | exact Rd.blk 4 rfl | exact Rd.blk 5 rfl | exact Rd.blk 6 rfl)
     case h81 => rfl
     refine WA.take 4 rfl qK qK qK rfl rfl qD (Yl.index tab_ok rfl rfl rfl rfl rfl rfl (fun _ => rfl) qA qH) qS qR ?_
     refine' WA.take 5 rfl qK qK qK rfl rfl qD (Yl.load1 tab_ok rfl rfl rfl (fun _ => rfl) ?r82 rfl ?h82) qS qR ?_
     case r82 => (first | (apply RS.rdD; assumption; ((try dsimp only) <;> omega)) | exact Rd.slD 0 rfl qX | exact Rd.slD 1 rfl qX | exact Rd.slD 2 rfl qX | exact Rd.slD 3 rfl qX | exact Rd.slD 4 rfl qX | exact Rd.slD 5 rfl qX | exact Rd.slD 6 rfl qX)
     case h82 => rfl
     refine WA.br2 (i := 7) (j := 16) qK ?_ ?_
     ·
      refine' WS.yl rfl rfl rfl qD (Yl.load1 tab_ok rfl rfl rfl (fun _ => rfl) ?r83 rfl ?h83) qS qR ?_
      case r83 => apply Rd.add; (first | exact Rd.blk 0 rfl | exact Rd.blk 1 rfl | exact Rd.blk 2 rfl | exact Rd.blk 3 rfl | exact Rd.blk 4 rfl | exact Rd.blk 5 rfl | exact Rd.blk 6 rfl)
      case h83 => rfl
      refine WA.take 12 rfl qK qK qK rfl rfl qD (Yl.index tab_ok rfl rfl rfl rfl rfl rfl (fun _ => rfl) qA qH) qS qR ?_
      refine' WA.take 13 rfl qK qK qK rfl rfl qD (Yl.load1 tab_ok rfl rfl rfl (fun _ => rfl) ?r84 rfl ?h84) qS qR ?_
      case r84 => (first | (apply RS.rdD; assumption; ((try dsimp only) <;> omega)) | exact Rd.slD 0 rfl qX | exact Rd.slD 1 rfl qX | exact Rd.slD 2 rfl qX | exact Rd.slD 3 rfl qX | exact Rd.slD 4 rfl qX | exact Rd.slD 5 rfl qX | exact Rd.slD 6 rfl qX)
      case h84 => rfl
      refine tS 14 ?_
      refine WA.eff 16 rfl qK rfl rfl qD (Ef.buildSliceD (enc := encI) (parts := [.const (.int .i64 0), .const (.int .i64 0), .const (.int .i64 1), .const (.int .i64 3), .const (.int .i64 4), .const (.int .i64 8)]) [_, _, _, _, _, _] tab_ok rfl rfl rfl rfl rfl rfl rfl rfl qD qD (fun a54 => ?_))
      refine ⟨qR, qS, ?_⟩
      refine WA.callAt 5 17 rfl qK en33 rfl rfl qD (CallOp.mkT rfl rfl rfl rfl) rfl (PickM_C (j := 0) w0 ([0, 0, 1, 3, 4, 8] : List Int) rfl qD qD ha rfl) ?_
      rintro _ _ _ _ - ⟨rfl, rfl, rfl, rfl⟩
      refine ⟨RLe.refl _, qS, ?_⟩
      refine tA 18 ?_
      refine tP 19 ?_
      first | refine WA.effN 20 rfl qK rfl rfl (Ef.store 0 tab_ok rfl rfl rfl rfl rfl rfl rfl rfl ?_) | refine WA.effN 20 rfl qK rfl rfl (Ef.store 1 tab_ok rfl rfl rfl rfl rfl rfl rfl rfl ?_) | refine WA.effN 20 rfl qK rfl rfl (Ef.store 2 tab_ok rfl rfl rfl rfl rfl rfl rfl rfl ?_) | refine WA.effN 20 rfl qK rfl rfl (Ef.store 3 tab_ok rfl rfl rfl rfl rfl rfl rfl rfl ?_) | refine WA.effN 20 rfl qK rfl rfl (Ef.store 4 tab_ok rfl rfl rfl rfl rfl rfl rfl rfl ?_) | refine WA.effN 20 rfl qK rfl rfl (Ef.store 5 tab_ok rfl rfl rfl rfl rfl rfl rfl rfl ?_) | refine WA.effN 20 rfl qK rfl rfl (Ef.store 6 tab_ok rfl rfl rfl rfl rfl rfl rfl rfl ?_)
      refine ⟨qR, qS, ?_⟩
      refine WA.done qK ?_
      refine WE.cut (nth (fvals (upV xs (c + 3) v0) n) ((n : Int) - 1).toNat - nth (fvals (upV xs (c + 3) v0) n) ((n : Int) - (P : Int)).toNat + nth ([0, 0, 1, 3, 4, 8] : List Int) (mod (nth xs (c + 3 + n)) ((6 : Nat) : Int)).toNat) ⟨by omega, by omega, by omega⟩ ⟨rfl, rfl, rfl, rfl⟩ (RLe.refl _) qS
     ·
      refine WS.eff rfl rfl rfl qD (Ef.buildSliceD (enc := encI) (parts := [.const (.int .i64 0), .const (.int .i64 0), .const (.int .i64 1), .const (.int .i64 3), .const (.int .i64 4), .const (.int .i64 8)]) [_, _, _, _, _, _] tab_ok rfl rfl rfl rfl rfl rfl rfl rfl qD qD (fun a54 => ?_))
      refine ⟨qR, qS, ?_⟩
      refine WA.br2 (i := 7) (j := 17) qK ?_ ?_
      ·
       refine' WS.yl rfl rfl rfl qD (Yl.load1 tab_ok rfl rfl rfl (fun _ => rfl) ?r85 rfl ?h85) qS qR ?_
       case r85 => apply Rd.add; (first | exact Rd.blk 0 rfl | exact Rd.blk 1 rfl | exact Rd.blk 2 rfl | exact Rd.blk 3 rfl | exact Rd.blk 4 rfl | exact Rd.blk 5 rfl | exact Rd.blk 6 rfl)
       case h85 => rfl
       refine WA.take 12 rfl qK qK qK rfl rfl qD (Yl.index tab_ok rfl rfl rfl rfl rfl rfl (fun _ => rfl) qA qH) qS qR ?_
       refine' WA.take 13 rfl qK qK qK rfl rfl qD (Yl.load1 tab_ok rfl rfl rfl (fun _ => rfl) ?r86 rfl ?h86) qS qR ?_
       case r86 => (first | (apply RS.rdD; assumption; ((try dsimp only) <;> omega)) | exact Rd.slD 0 rfl qX | exact Rd.slD 1 rfl qX | exact Rd.slD 2 rfl qX | exact Rd.slD 3 rfl qX | exact Rd.slD 4 rfl qX | exact Rd.slD 5 rfl qX | exact Rd.slD 6 rfl qX)
       case h86 => rfl
       refine tS 14 ?_
       refine WA.callAt 5 17 rfl qK en33 rfl rfl qD (CallOp.mkT rfl rfl rfl rfl) rfl (PickM_C (j := 0) w0 ([0, 0, 1, 3, 4, 8] : List Int) rfl qD qD ha rfl) ?_
       rintro _ _ _ _ - ⟨rfl, rfl, rfl, rfl⟩
       refine ⟨RLe.refl _, qS, ?_⟩
       refine tA 18 ?_
       refine tP 19 ?_
       first | refine WA.effN 20 rfl qK rfl rfl (Ef.store 0 tab_ok rfl rfl rfl rfl rfl rfl rfl rfl ?_) | refine WA.effN 20 rfl qK rfl rfl (Ef.store 1 tab_ok rfl rfl rfl rfl rfl rfl rfl rfl ?_) | refine WA.effN 20 rfl qK rfl rfl (Ef.store 2 tab_ok rfl rfl rfl rfl rfl rfl rfl rfl ?_) | refine WA.effN 20 rfl qK rfl rfl (Ef.store 3 tab_ok rfl rfl rfl rfl rfl rfl rfl rfl ?_) | refine WA.effN 20 rfl qK rfl rfl (Ef.store 4 tab_ok rfl rfl rfl rfl rfl rfl rfl rfl ?_) | refine WA.effN 20 rfl qK rfl rfl (Ef.store 5 tab_ok rfl rfl rfl rfl rfl rfl rfl rfl ?_) | refine WA.effN 20 rfl qK rfl rfl (Ef.store 6 tab_ok rfl rfl rfl rfl rfl rfl rfl rfl ?_)
       refine ⟨qR, qS, ?_⟩
       refine WA.done qK ?_
       refine WE.cut (nth (fvals (upV xs (c + 3) v0) n) ((n : Int) - 1).toNat - nth (fvals (upV xs (c + 3) v0) n) ((n : Int) - (P : Int)).toNat + nth ([0, 0, 1, 3, 4, 8] : List Int) (mod (nth xs (c + 3 + n)) ((6 : Nat) : Int)).toNat) ⟨by omega, by omega, by omega⟩ ⟨rfl, rfl, rfl, rfl⟩ (RLe.refl _) qS
      ·
       refine WS.callAt 5 rfl en33 rfl rfl qD (CallOp.mkT rfl rfl rfl rfl) rfl (PickM_C (j := 0) w0 ([0, 0, 1, 3, 4, 8] : List Int) rfl qD qD ha rfl) ?_
       rintro _ _ _ _ - ⟨rfl, rfl, rfl, rfl⟩
       refine ⟨qR, qS, ?_⟩
       refine' WA.yl 7 rfl qK rfl rfl qD (Yl.load1 tab_ok rfl rfl rfl (fun _ => rfl) ?r87 rfl ?h87) qS qR ?_
       case r87 => apply Rd.add; (first | exact Rd.blk 0 rfl | exact Rd.blk 1 rfl | exact Rd.blk 2 rfl | exact Rd.blk 3 rfl | exact Rd.blk 4 rfl | exact Rd.blk 5 rfl | exact Rd.blk 6 rfl)
       case h87 => rfl
       refine WA.take 12 rfl qK qK qK rfl rfl qD (Yl.index tab_ok rfl rfl rfl rfl rfl rfl (fun _ => rfl) qA qH) qS qR ?_
       refine' WA.take 13 rfl qK qK qK rfl rfl qD (Yl.load1 tab_ok rfl rfl rfl (fun _ => rfl) ?r88 rfl ?h88) qS qR ?_
       case r88 => (first | (apply RS.rdD; assumption; ((try dsimp only) <;> omega)) | exact Rd.slD 0 rfl qX | exact Rd.slD 1 rfl qX | exact Rd.slD 2 rfl qX | exact Rd.slD 3 rfl qX | exact Rd.slD 4 rfl qX | exact Rd.slD 5 rfl qX | exact Rd.slD 6 rfl qX)
       case h88 => rfl
       refine tS 14 ?_
       refine tA 18 ?_
       refine tP 19 ?_
       first | refine WA.effN 20 rfl qK rfl rfl (Ef.store 0 tab_ok rfl rfl rfl rfl rfl rfl rfl rfl ?_) | refine WA.effN 20 rfl qK rfl rfl (Ef.store 1 tab_ok rfl rfl rfl rfl rfl rfl rfl rfl ?_) | refine WA.effN 20 rfl qK rfl rfl (Ef.store 2 tab_ok rfl rfl rfl rfl rfl rfl rfl rfl ?_) | refine WA.effN 20 rfl qK rfl rfl (Ef.store 3 tab_ok rfl rfl rfl rfl rfl rfl rfl rfl ?_) | refine WA.effN 20 rfl qK rfl rfl (Ef.store 4 tab_ok rfl rfl rfl rfl rfl rfl rfl rfl ?_) | refine WA.effN 20 rfl qK rfl rfl (Ef.store 5 tab_ok rfl rfl rfl rfl rfl rfl rfl rfl ?_) | refine WA.effN 20 rfl qK rfl rfl (Ef.store 6 tab_ok rfl rfl rfl rfl rfl rfl rfl rfl ?_)
       refine ⟨qR, qS, ?_⟩
       refine WA.done qK ?_
       refine WE.cut (nth (fvals (upV xs (c + 3) v0) n) ((n : Int) - 1).toNat - nth (fvals (upV xs (c + 3) v0) n) ((n : Int) - (P : Int)).toNat + nth ([0, 0, 1, 3, 4, 8] : List Int) (mod (nth xs (c + 3 + n)) ((6 : Nat) : Int)).toNat) ⟨by omega, by omega, by omega⟩ ⟨rfl, rfl, rfl, rfl⟩ (RLe.refl _) qS
    ·
     refine' WS.yl rfl rfl rfl qD (Yl.load1 tab_ok rfl rfl rfl (fun _ => rfl) ?r89 rfl ?h89) qS qR ?_
     case r89 => apply Rd.add; (first | exact Rd.blk 0 rfl | exact Rd.blk 1 rfl | exact Rd.blk 2 rfl | exact Rd.blk 3 rfl | exact Rd.blk 4 rfl | exact Rd.blk 5 rfl | exact Rd.blk 6 rfl)
     case h89 => rfl
     refine WA.take 12 rfl qK qK qK rfl rfl qD (Yl.index tab_ok rfl rfl rfl rfl rfl rfl (fun _ => rfl) qA qH) qS qR ?_
     refine' WA.take 13 rfl qK qK qK rfl rfl qD (Yl.load1 tab_ok rfl rfl rfl (fun _ => rfl) ?r90 rfl ?h90) qS qR ?_
     case r90 => (first | (apply RS.rdD; assumption; ((try dsimp only) <;> omega)) | exact Rd.slD 0 rfl qX | exact Rd.slD 1 rfl qX | exact Rd.slD 2 rfl qX | exact Rd.slD 3 rfl qX | exact Rd.slD 4 rfl qX | exact Rd.slD 5 rfl qX | exact Rd.slD 6 rfl qX)
     case h90 => rfl
     refine WA.br2 (i := 1) (j := 16) qK ?_ ?_
     ·
      refine' WS.yl rfl rfl rfl qD (Yl.load1 tab_ok rfl rfl rfl (fun _ => rfl) ?r91 rfl ?h91) qS qR ?_
      case r91 => apply Rd.add; (first | exact Rd.blk 0 rfl | exact Rd.blk 1 rfl | exact Rd.blk 2 rfl | exact Rd.blk 3 rfl | exact Rd.blk 4 rfl | exact Rd.blk 5 rfl | exact Rd.blk 6 rfl)
      case h91 => rfl
      refine WA.take 4 rfl qK qK qK rfl rfl qD (Yl.index tab_ok rfl rfl rfl rfl rfl rfl (fun _ => rfl) qA qH) qS qR ?_
      refine' WA.take 5 rfl qK qK qK rfl rfl qD (Yl.load1 tab_ok rfl rfl rfl (fun _ => rfl) ?r92 rfl ?h92) qS qR ?_
      case r92 => (first | (apply RS.rdD; assumption; ((try dsimp only) <;> omega)) | exact Rd.slD 0 rfl qX | exact Rd.slD 1 rfl qX | exact Rd.slD 2 rfl qX | exact Rd.slD 3 rfl qX | exact Rd.slD 4 rfl qX | exact Rd.slD 5 rfl qX | exact Rd.slD 6 rfl qX)
      case h92 => rfl
      refine tS 14 ?_
      refine WA.eff 16 rfl qK rfl rfl qD (Ef.buildSliceD (enc := encI) (parts := [.const (.int .i64 0), .const (.int .i64 0), .const (.int .i64 1), .const (.int .i64 3), .const (.int .i64 4), .const (.int .i64 8)]) [_, _, _, _, _, _] tab_ok rfl rfl rfl rfl rfl rfl rfl rfl qD qD (fun a54 => ?_))
      refine ⟨qR, qS, ?_⟩
      refine WA.callAt 5 17 rfl qK en33 rfl rfl qD (CallOp.mkT rfl rfl rfl rfl) rfl (PickM_C (j := 0) w0 ([0, 0, 1, 3, 4, 8] : List Int) rfl qD qD ha rfl) ?_
      rintro _ _ _ _ - ⟨rfl, rfl, rfl, rfl⟩
      refine ⟨RLe.refl _, qS, ?_⟩
      refine tA 18 ?_
      refine tP 19 ?_
      first | refine WA.effN 20 rfl qK rfl rfl (Ef.store 0 tab_ok rfl rfl rfl rfl rfl rfl rfl rfl ?_) | refine WA.effN 20 rfl qK rfl rfl (Ef.store 1 tab_ok rfl rfl rfl rfl rfl rfl rfl rfl ?_) | refine WA.effN 20 rfl qK rfl rfl (Ef.store 2 tab_ok rfl rfl rfl rfl rfl rfl rfl rfl ?_) | refine WA.effN 20 rfl qK rfl rfl (Ef.store 3 tab_ok rfl rfl rfl rfl rfl rfl rfl rfl ?_) | refine WA.effN 20 rfl qK rfl rfl (Ef.store 4 tab_ok rfl rfl rfl rfl rfl rfl rfl rfl ?_) | refine WA.effN 20 rfl qK rfl rfl (Ef.store 5 tab_ok rfl rfl rfl rfl rfl rfl rfl rfl ?_) | refine WA.effN 20 rfl qK rfl rfl (Ef.store 6 tab_ok rfl rfl rfl rfl rfl rfl rfl rfl ?_)
      refine ⟨qR, qS, ?_⟩
      refine WA.done qK ?_
      refine WE.cut (nth (fvals (upV xs (c + 3) v0) n) ((n : Int) - 1).toNat - nth (fvals (upV xs (c + 3) v0) n) ((n : Int) - (P : Int)).toNat + nth ([0, 0, 1, 3, 4, 8] : List Int) (mod (nth xs (c + 3 + n)) ((6 : Nat) : Int)).toNat) ⟨by omega, by omega, by omega⟩ ⟨rfl, rfl, rfl, rfl⟩ (RLe.refl _) qS
     ·
      refine WS.eff rfl rfl rfl qD (Ef.buildSliceD (enc := encI) (parts := [.const (.int .i64 0), .const (.int .i64 0), .const (.int .i64 1), .const (.int .i64 3), .const (.int .i64 4), .const (.int .i64 8)]) [_, _, _, _, _, _] tab_ok rfl rfl rfl rfl rfl rfl rfl rfl qD qD (fun a54 => ?_))
      refine ⟨qR, qS, ?_⟩
      refine WA.br2 (i := 1) (j := 17) qK ?_ ?_
      ·
       refine' WS.yl rfl rfl rfl qD (Yl.load1 tab_ok rfl rfl rfl (fun _ => rfl) ?r93 rfl ?h93) qS qR ?_
       case r93 => apply Rd.add; (first | exact Rd.blk 0 rfl | exact Rd.blk 1 rfl | exact Rd.blk 2 rfl | exact Rd.blk 3 rfl | exact Rd.blk 4 rfl | exact Rd.blk 5 rfl | exact Rd.blk 6 rfl)
       case h93 => rfl
       refine WA.take 4 rfl qK qK qK rfl rfl qD (Yl.index tab_ok rfl rfl rfl rfl rfl rfl (fun _ => rfl) qA qH) qS qR ?_
       refine' WA.take 5 rfl qK qK qK rfl rfl qD (Yl.load1 tab_ok rfl rfl rfl (fun _ => rfl) ?r94 rfl ?h94) qS qR ?_
       case r94 => (first | (apply RS.rdD; assumption; ((try dsimp only) <;> omega)) | exact Rd.slD 0 rfl qX | exact Rd.slD 1 rfl qX | exact Rd.slD 2 rfl qX | exact Rd.slD 3 rfl qX | exact Rd.slD 4 rfl qX | exact Rd.slD 5 rfl qX | exact Rd.slD 6 rfl qX)
       case h94 => rfl
       refine tS 14 ?_
       refine WA.callAt 5 17 rfl qK en33 rfl rfl qD (CallOp.mkT rfl rfl rfl rfl) rfl (PickM_C (j := 0) w0 ([0, 0, 1, 3, 4, 8] : List Int) rfl qD qD ha rfl) ?_
       rintro _ _ _ _ - ⟨rfl, rfl, rfl, rfl⟩
       refine ⟨RLe.refl _, qS, ?_⟩
       refine tA 18 ?_
       refine tP 19 ?_
       first | refine WA.effN 20 rfl qK rfl rfl (Ef.store 0 tab_ok rfl rfl rfl rfl rfl rfl rfl rfl ?_) | refine WA.effN 20 rfl qK rfl rfl (Ef.store 1 tab_ok rfl rfl rfl rfl rfl rfl rfl rfl ?_) | refine WA.effN 20 rfl qK rfl rfl (Ef.store 2 tab_ok rfl rfl rfl rfl rfl rfl rfl rfl ?_) | refine WA.effN 20 rfl qK rfl rfl (Ef.store 3 tab_ok rfl rfl rfl rfl rfl rfl rfl rfl ?_) | refine WA.effN 20 rfl qK rfl rfl (Ef.store 4 tab_ok rfl rfl rfl rfl rfl rfl rfl rfl ?_) | refine WA.effN 20 rfl qK rfl rfl (Ef.store 5 tab_ok rfl rfl rfl rfl rfl rfl rfl rfl ?_) | refine WA.effN 20 rfl qK rfl rfl (Ef.store 6 tab_ok rfl rfl rfl rfl rfl rfl rfl rfl ?_)
       refine ⟨qR, qS, ?_⟩
       refine WA.done qK ?_
       refine WE.cut (nth (fvals (upV xs (c + 3) v0) n) ((n : Int) - 1).toNat - nth (fvals (upV xs (c + 3) v0) n) ((n : Int) - (P : Int)).toNat + nth ([0, 0, 1, 3, 4, 8] : List Int) (mod (nth xs (c + 3 + n)) ((6 : Nat) : Int)).toNat) ⟨by omega, by omega, by omega⟩ ⟨rfl, rfl, rfl, rfl⟩ (RLe.refl _) qS
      ·
       refine WS.callAt 5 rfl en33 rfl rfl qD (CallOp.mkT rfl rfl rfl rfl) rfl (PickM_C (j := 0) w0 ([0, 0, 1, 3, 4, 8] : List Int) rfl qD qD ha rfl) ?_
       rintro _ _ _ _ - ⟨rfl, rfl, rfl, rfl⟩
       refine ⟨qR, qS, ?_⟩
       refine' WA.yl 1 rfl qK rfl rfl qD (Yl.load1 tab_ok rfl rfl rfl (fun _ => rfl) ?r95 rfl ?h95) qS qR ?_
       case r95 => apply Rd.add; (first | exact Rd.blk 0 rfl | exact Rd.blk 1 rfl | exact Rd.blk 2 rfl | exact Rd.blk 3 rfl | exact Rd.blk 4 rfl | exact Rd.blk 5 rfl | exact Rd.blk 6 rfl)
       case h95 => rfl
       refine WA.take 4 rfl qK qK qK rfl rfl qD (Yl.index tab_ok rfl rfl rfl rfl rfl rfl (fun _ => rfl) qA qH) qS qR ?_
       refine' WA.take 5 rfl qK qK qK rfl rfl qD (Yl.load1 tab_ok rfl rfl rfl (fun _ => rfl) ?r96 rfl ?h96) qS qR ?_
       case r96 => (first | (apply RS.rdD; assumption; ((try dsimp only) <;> omega)) | exact Rd.slD 0 rfl qX | exact Rd.slD 1 rfl qX | exact Rd.slD 2 rfl qX | exact Rd.slD 3 rfl qX | exact Rd.slD 4 rfl qX | exact Rd.slD 5 rfl qX | exact Rd.slD 6 rfl qX)
       case h96 => rfl
       refine tS 14 ?_
       refine tA 18 ?_
       refine tP 19 ?_
       first | refine WA.effN 20 rfl qK rfl rfl (Ef.store 0 tab_ok rfl rfl rfl rfl rfl rfl rfl rfl ?_) | refine WA.effN 20 rfl qK rfl rfl (Ef.store 1 tab_ok rfl rfl rfl rfl rfl rfl rfl rfl ?_) | refine WA.effN 20 rfl qK rfl rfl (Ef.store 2 tab_ok rfl rfl rfl rfl rfl rfl rfl rfl ?_) | refine WA.effN 20 rfl qK rfl rfl (Ef.store 3 tab_ok rfl rfl rfl rfl rfl rfl rfl rfl ?_) | refine WA.effN 20 rfl qK rfl rfl (Ef.store 4 tab_ok rfl rfl rfl rfl rfl rfl rfl rfl ?_) | refine WA.effN 20 rfl qK rfl rfl (Ef.store 5 tab_ok rfl rfl rfl rfl rfl rfl rfl rfl ?_) | refine WA.effN 20 rfl qK rfl rfl (Ef.store 6 tab_ok rfl rfl rfl rfl rfl rfl rfl rfl ?_)
       refine ⟨qR, qS, ?_⟩
       refine WA.done qK ?_
       refine WE.cut (nth (fvals (upV xs (c + 3) v0) n) ((n : Int) - 1).toNat - nth (fvals (upV xs (c + 3) v0) n) ((n : Int) - (P : Int)).toNat + nth ([0, 0, 1, 3, 4, 8] : List Int) (mod (nth xs (c + 3 + n)) ((6 : Nat) : Int)).toNat) ⟨by omega, by omega, by omega⟩ ⟨rfl, rfl, rfl, rfl⟩ (RLe.refl _) qS
    ·
     refine WS.eff rfl rfl rfl qD (Ef.buildSliceD (enc := encI) (parts := [.const (.int .i64 0), .const (.int .i64 0), .const (.int .i64 1), .const (.int .i64 3), .const (.int .i64 4), .const (.int .i64 8)]) [_, _, _, _, _, _] tab_ok rfl rfl rfl rfl rfl rfl rfl rfl qD qD (fun a54 => ?_))
     refine ⟨qR, qS, ?_⟩
     refine WA.br3 (i := 1) (j := 7) (k := 17) qK ?_ ?_ ?_
     ·
      refine' WS.yl rfl rfl rfl qD (Yl.load1 tab_ok rfl rfl rfl (fun _ => rfl) ?r97 rfl ?h97) qS qR ?_
      case r97 => apply Rd.add; (first | exact Rd.blk 0 rfl | exact Rd.blk 1 rfl | exact Rd.blk 2 rfl | exact Rd.blk 3 rfl | exact Rd.blk 4 rfl | exact Rd.blk 5 rfl | exact Rd.blk 6 rfl)
      case h97 => rfl
      refine WA.take 4 rfl qK qK qK rfl rfl qD (Yl.index tab_ok rfl rfl rfl rfl rfl rfl (fun _ => rfl) qA qH) qS qR ?_
      refine' WA.take 5 rfl qK qK qK rfl rfl qD (Yl.load1 tab_ok rfl rfl rfl (fun _ => rfl) ?r98 rfl ?h98) qS qR ?_
      case r98 => (first | (apply RS.rdD; assumption; ((try dsimp only) <;> omega)) | exact Rd.slD 0 rfl qX | exact Rd.slD 1 rfl qX | exact Rd.slD 2 rfl qX | exact Rd.slD 3 rfl qX | exact Rd.slD 4 rfl qX | exact Rd.slD 5 rfl qX | exact Rd.slD 6 rfl qX)
      case h98 => rfl
      refine WA.br2 (i := 7) (j := 17) qK ?_ ?_
      ·
       refine' WS.yl rfl rfl rfl qD (Yl.load1 tab_ok rfl rfl rfl (fun _ => rfl) ?r99 rfl ?h99) qS qR ?_
       case r99 => apply Rd.add; (first | exact Rd.blk 0 rfl | exact Rd.blk 1 rfl | exact Rd.blk 2 rfl | exact Rd.blk 3 rfl | exact Rd.blk 4 rfl | exact Rd.blk 5 rfl | exact Rd.blk 6 rfl)
       case h99 => rfl
       refine WA.take 12 rfl qK qK qK rfl rfl qD (Yl.index tab_ok rfl rfl rfl rfl rfl rfl (fun _ => rfl) qA qH) qS qR ?_
       refine' WA.take 13 rfl qK qK qK rfl rfl qD (Yl.load1 tab_ok rfl rfl rfl (fun _ => rfl) ?r100 rfl ?h100) qS qR ?_
       case r100 => (first | (apply RS.rdD; assumption; ((try dsimp only) <;> omega)) | exact Rd.slD 0 rfl qX | exact Rd.slD 1 rfl qX | exact Rd.slD 2 rfl qX | exact Rd.slD 3 rfl qX | exact Rd.slD 4 rfl qX | exact Rd.slD 5 rfl qX | exact Rd.slD 6 rfl qX)
       case h100 => rfl
       refine tS 14 ?_
       refine WA.callAt 5 17 rfl qK en33 rfl rfl qD (CallOp.mkT rfl rfl rfl rfl) rfl (PickM_C (j := 0) w0 ([0, 0, 1, 3, 4, 8] : List Int) rfl qD qD ha rfl) ?_
       rintro _ _ _ _ - ⟨rfl, rfl, rfl, rfl⟩
       refine ⟨RLe.refl _, qS, ?_⟩
       refine tA 18 ?_
       refine tP 19 ?_
       first | refine WA.effN 20 rfl qK rfl rfl (Ef.store 0 tab_ok rfl rfl rfl rfl rfl rfl rfl rfl ?_) | refine WA.effN 20 rfl qK rfl rfl (Ef.store 1 tab_ok rfl rfl rfl rfl rfl rfl rfl rfl ?_) | refine WA.effN 20 rfl qK rfl rfl (Ef.store 2 tab_ok rfl rfl rfl rfl rfl rfl rfl rfl ?_) | refine WA.effN 20 rfl qK rfl rfl (Ef.store 3 tab_ok rfl rfl rfl rfl rfl rfl rfl rfl ?_) | refine WA.effN 20 rfl qK rfl rfl (Ef.store 4 tab_ok rfl rfl rfl rfl rfl rfl rfl rfl ?_) | refine WA.effN 20 rfl qK rfl rfl (Ef.store 5 tab_ok rfl rfl rfl rfl rfl rfl rfl rfl ?_) | refine WA.effN 20 rfl qK rfl rfl (Ef.store 6 tab_ok rfl rfl rfl rfl rfl rfl rfl rfl ?_)
       refine ⟨qR, qS, ?_⟩
       refine WA.done qK ?_
       refine WE.cut (nth (fvals (upV xs (c + 3) v0) n) ((n : Int) - 1).toNat - nth (fvals (upV xs (c + 3) v0) n) ((n : Int) - (P : Int)).toNat + nth ([0, 0, 1, 3, 4, 8] : List Int) (mod (nth xs (c + 3 + n)) ((6 : Nat) : Int)).toNat) ⟨by omega, by omega, by omega⟩ ⟨rfl, rfl, rfl, rfl⟩ (RLe.refl _) qS
      ·
       refine WS.callAt 5 rfl en33 rfl rfl qD (CallOp.mkT rfl rfl rfl rfl) rfl (PickM_C (j := 0) w0 ([0, 0, 1, 3, 4, 8] : List Int) rfl qD qD ha rfl) ?_
       rintro _ _ _ _ - ⟨rfl, rfl, rfl, rfl⟩
       refine ⟨qR, qS, ?_⟩
       refine' WA.yl 7 rfl qK rfl rfl qD (Yl.load1 tab_ok rfl rfl rfl (fun _ => rfl) ?r101 rfl ?h101) qS qR ?_
       case r101 => apply Rd.add; (first | exact Rd.blk 0 rfl | exact Rd.blk 1 rfl | exact Rd.blk 2 rfl | exact Rd.blk 3 rfl | exact Rd.blk 4 rfl | exact Rd.blk 5 rfl | exact Rd.blk 6 rfl)
       case h101 => rfl
       refine WA.take 12 rfl qK qK qK rfl rfl qD (Yl.index tab_ok rfl rfl rfl rfl rfl rfl (fun _ => rfl) qA qH) qS qR ?_
       refine' WA.take 13 rfl qK qK qK rfl rfl qD (Yl.load1 tab_ok rfl rfl rfl (fun _ => rfl) ?r102 rfl ?h102) qS qR ?_
       case r102 => (first | (apply RS.rdD; assumption; ((try dsimp only) <;> omega)) | exact Rd.slD 0 rfl qX | exact Rd.slD 1 rfl qX | exact Rd.slD 2 rfl qX | exact Rd.slD 3 rfl qX | exact Rd.slD 4 rfl qX | exact Rd.slD 5 rfl qX | exact Rd.slD 6 rfl qX)
       case h102 => rfl
       refine tS 14 ?_
       refine tA 18 ?_
       refine tP 19 ?_
       first | refine WA.effN 20 rfl qK rfl rfl (Ef.store 0 tab_ok rfl rfl rfl rfl rfl rfl rfl rfl ?_) | refine WA.effN 20 rfl qK rfl rfl (Ef.store 1 tab_ok rfl rfl rfl rfl rfl rfl rfl rfl ?_) | refine WA.effN 20 rfl qK rfl rfl (Ef.store 2 tab_ok rfl rfl rfl rfl rfl rfl rfl rfl ?_) | refine WA.effN 20 rfl qK rfl rfl (Ef.store 3 tab_ok rfl rfl rfl rfl rfl rfl rfl rfl ?_) | refine WA.effN 20 rfl qK rfl rfl (Ef.store 4 tab_ok rfl rfl rfl rfl rfl rfl rfl rfl ?_) | refine WA.effN 20 rfl qK rfl rfl (Ef.store 5 tab_ok rfl rfl rfl rfl rfl rfl rfl rfl ?_) | refine WA.effN 20 rfl qK rfl rfl (Ef.store 6 tab_ok rfl rfl rfl rfl rfl rfl rfl rfl ?_)
       refine ⟨qR, qS, ?_⟩
       refine WA.done qK ?_
       refine WE.cut (nth (fvals (upV xs (c + 3) v0) n) ((n : Int) - 1).toNat - nth (fvals (upV xs (c + 3) v0) n) ((n : Int) - (P : Int)).toNat + nth ([0, 0, 1, 3, 4, 8] : List Int) (mod (nth xs (c + 3 + n)) ((6 : Nat) : Int)).toNat) ⟨by omega, by omega, by omega⟩ ⟨rfl, rfl, rfl, rfl⟩ (RLe.refl _) qS
     ·
      refine' WS.yl rfl rfl rfl qD (Yl.load1 tab_ok rfl rfl rfl (fun _ => rfl) ?r103 rfl ?h103) qS qR ?_
      case r103 => apply Rd.add; (first | exact Rd.blk 0 rfl | exact Rd.blk 1 rfl | exact Rd.blk 2 rfl | exact Rd.blk 3 rfl | exact Rd.blk 4 rfl | exact Rd.blk 5 rfl | exact Rd.blk 6 rfl)
      case h103 => rfl
      refine WA.take 12 rfl qK qK qK rfl rfl qD (Yl.index tab_ok rfl rfl rfl rfl rfl rfl (fun _ => rfl) qA qH) qS qR ?_
      refine' WA.take 13 rfl qK qK qK rfl rfl qD (Yl.load1 tab_ok rfl rfl rfl (fun _ => rfl) ?r104 rfl ?h104) qS qR ?_
      case r104 => (first | (apply RS.rdD; assumption; ((try dsimp only) <;> omega)) | exact Rd.slD 0 rfl qX | exact Rd.slD 1 rfl qX | exact Rd.slD 2 rfl qX | exact Rd.slD 3 rfl qX | exact Rd.slD 4 rfl qX | exact Rd.slD 5 rfl qX | exact Rd.slD 6 rfl qX)
      case h104 => rfl
      refine WA.br2 (i := 1) (j := 17) qK ?_ ?_
      ·
       refine' WS.yl rfl rfl rfl qD (Yl.load1 tab_ok rfl rfl rfl (fun _ => rfl) ?r105 rfl ?h105) qS qR ?_
       case r105 => apply Rd.add; (first | exact Rd.blk 0 rfl | exact Rd.blk 1 rfl | exact Rd.blk 2 rfl | exact Rd.blk 3 rfl | exact Rd.blk 4 rfl | exact Rd.blk 5 rfl | exact Rd.blk 6 rfl)
       case h105 => rfl
       refine WA.take 4 rfl qK qK qK rfl rfl qD (Yl.index tab_ok rfl rfl rfl rfl rfl rfl (fun _ => rfl) qA qH) qS qR ?_
       refine' WA.take 5 rfl qK qK qK rfl rfl qD (Yl.load1 tab_ok rfl rfl rfl (fun _ => rfl) ?r106 rfl ?h106) qS qR ?_
       case r106 => (first | (apply RS.rdD; assumption; ((try dsimp only) <;> omega)) | exact Rd.slD 0 rfl qX | exact Rd.slD 1 rfl qX | exact Rd.slD 2 rfl qX | exact Rd.slD 3 rfl qX | exact Rd.slD 4 rfl qX | exact Rd.slD 5 rfl qX | exact Rd.slD 6 rfl qX)
       case h106 => rfl
       refine tS 14 ?_
       refine WA.callAt 5 17 rfl qK en33 rfl rfl qD (CallOp.mkT rfl rfl rfl rfl) rfl (PickM_C (j := 0) w0 ([0, 0, 1, 3, 4, 8] : List Int) rfl qD qD ha rfl) ?_
       rintro _ _ _ _ - ⟨rfl, rfl, rfl, rfl⟩
       refine ⟨RLe.refl _, qS, ?_⟩
       refine tA 18 ?_
       refine tP 19 ?_
       first | refine WA.effN 20 rfl qK rfl rfl (Ef.store 0 tab_ok rfl rfl rfl rfl rfl rfl rfl rfl ?_) | refine WA.effN 20 rfl qK rfl rfl (Ef.store 1 tab_ok rfl rfl rfl rfl rfl rfl rfl rfl ?_) | refine WA.effN 20 rfl qK rfl rfl (Ef.store 2 tab_ok rfl rfl rfl rfl rfl rfl rfl rfl ?_) | refine WA.effN 20 rfl qK rfl rfl (Ef.store 3 tab_ok rfl rfl rfl rfl rfl rfl rfl rfl ?_) | refine WA.effN 20 rfl qK rfl rfl (Ef.store 4 tab_ok rfl rfl rfl rfl rfl rfl rfl rfl ?_) | refine WA.effN 20 rfl qK rfl rfl (Ef.store 5 tab_ok rfl rfl rfl rfl rfl rfl rfl rfl ?_) | refine WA.effN 20 rfl qK rfl rfl (Ef.store 6 tab_ok rfl rfl rfl rfl rfl rfl rfl rfl ?_)
       refine ⟨qR, qS, ?_⟩
       refine WA.done qK ?_
       refine WE.cut (nth (fvals (upV xs (c + 3) v0) n) ((n : Int) - 1).toNat - nth (fvals (upV xs (c + 3) v0) n) ((n : Int) - (P : Int)).toNat + nth ([0, 0, 1, 3, 4, 8] : List Int) (mod (nth xs (c + 3 + n)) ((6 : Nat) : Int)).toNat) ⟨by omega, by omega, by omega⟩ ⟨rfl, rfl, rfl, rfl⟩ (RLe.refl _) qS
      ·
       refine WS.callAt 5 rfl en33 rfl rfl qD (CallOp.mkT rfl rfl rfl rfl) rfl (PickM_C (j := 0) w0 ([0, 0, 1, 3, 4, 8] : List Int) rfl qD qD ha rfl) ?_
       rintro _ _ _ _ - ⟨rfl, rfl, rfl, rfl⟩
       refine ⟨qR, qS, ?_⟩
       refine' WA.yl 1 rfl qK rfl rfl qD (Yl.load1 tab_ok rfl rfl rfl (fun _ => rfl) ?r107 rfl ?h107) qS qR ?_
       case r107 => apply Rd.add; (first | exact Rd.blk 0 rfl | exact Rd.blk 1 rfl | exact Rd.blk 2 rfl | exact Rd.blk 3 rfl | exact Rd.blk 4 rfl | exact Rd.blk 5 rfl | exact Rd.blk 6 rfl)
       case h107 => rfl
       refine WA.take 4 rfl qK qK qK rfl rfl qD (Yl.index tab_ok rfl rfl rfl rfl rfl rfl (fun _ => rfl) qA qH) qS qR ?_
       refine' WA.take 5 rfl qK qK qK rfl rfl qD (Yl.load1 tab_ok rfl rfl rfl (fun _ => rfl) ?r108 rfl ?h108) qS qR ?_
       case r108 => (first | (apply RS.rdD; assumption; ((try dsimp only) <;> omega)) | exact Rd.slD 0 rfl qX | exact Rd.slD 1 rfl qX | exact Rd.slD 2 rfl qX | exact Rd.slD 3 rfl qX | exact Rd.slD 4 rfl qX | exact Rd.slD 5 rfl qX | exact Rd.slD 6 rfl qX)
       case h108 => rfl
       refine tS 14 ?_
       refine tA 18 ?_
       refine tP 19 ?_
       first | refine WA.effN 20 rfl qK rfl rfl (Ef.store 0 tab_ok rfl rfl rfl rfl rfl rfl rfl rfl ?_) | refine WA.effN 20 rfl qK rfl rfl (Ef.store 1 tab_ok rfl rfl rfl rfl rfl rfl rfl rfl ?_) | refine WA.effN 20 rfl qK rfl rfl (Ef.store 2 tab_ok rfl rfl rfl rfl rfl rfl rfl rfl ?_) | refine WA.effN 20 rfl qK rfl rfl (Ef.store 3 tab_ok rfl rfl rfl rfl rfl rfl rfl rfl ?_) | refine WA.effN 20 rfl qK rfl rfl (Ef.store 4 tab_ok rfl rfl rfl rfl rfl rfl rfl rfl ?_) | refine WA.effN 20 rfl qK rfl rfl (Ef.store 5 tab_ok rfl rfl rfl rfl rfl rfl rfl rfl ?_) | refine WA.effN 20 rfl qK rfl rfl (Ef.store 6 tab_ok rfl rfl rfl rfl rfl rfl rfl rfl ?_)
       refine ⟨qR, qS, ?_⟩
       refine WA.done qK ?_
       refine WE.cut (nth (fvals (upV xs (c + 3) v0) n) ((n : Int) - 1).toNat - nth (fvals (upV xs (c + 3) v0) n) ((n : Int) - (P : Int)).toNat + nth ([0, 0, 1, 3, 4, 8] : List Int) (mod (nth xs (c + 3 + n)) ((6 : Nat) : Int)).toNat) ⟨by omega, by omega, by omega⟩ ⟨rfl, rfl, rfl, rfl⟩ (RLe.refl _) qS
     ·
      refine WS.callAt 5 rfl en33 rfl rfl qD (CallOp.mkT rfl rfl rfl rfl) rfl (PickM_C (j := 0) w0 ([0, 0, 1, 3, 4, 8] : List Int) rfl qD qD ha rfl) ?_
      rintro _ _ _ _ - ⟨rfl, rfl, rfl, rfl⟩
      refine ⟨qR, qS, ?_⟩
      refine WA.br2 (i := 1) (j := 7) qK ?_ ?_
      ·
       refine' WS.yl rfl rfl rfl qD (Yl.load1 tab_ok rfl rfl rfl (fun _ => rfl) ?r109 rfl ?h109) qS qR ?_
       case r109 => apply Rd.add; (first | exact Rd.blk 0 rfl | exact Rd.blk 1 rfl | exact Rd.blk 2 rfl | exact Rd.blk 3 rfl | exact Rd.blk 4 rfl | exact Rd.blk 5 rfl | exact Rd.blk 6 rfl)
       case h109 => rfl
       refine WA.take 4 rfl qK qK qK rfl rfl qD (Yl.index tab_ok rfl rfl rfl rfl rfl rfl (fun _ => rfl) qA qH) qS qR ?_
       refine' WA.take 5 rfl qK qK qK rfl rfl qD (Yl.load1 tab_ok rfl rfl rfl (fun _ => rfl) ?r110 rfl ?h110) qS qR ?_
       case r110 => (first | (apply RS.rdD; assumption; ((try dsimp only) <;> omega)) | exact Rd.slD 0 rfl qX | exact Rd.slD 1 rfl qX | exact Rd.slD 2 rfl qX | exact Rd.slD 3 rfl qX | exact Rd.slD 4 rfl qX | exact Rd.slD 5 rfl qX | exact Rd.slD 6 rfl qX)
       case h110 => rfl
       refine' WA.yl 7 rfl qK rfl rfl qD (Yl.load1 tab_ok rfl rfl rfl (fun _ => rfl) ?r111 rfl ?h111) qS qR ?_
       case r111 => apply Rd.add; (first | exact Rd.blk 0 rfl | exact Rd.blk 1 rfl | exact Rd.blk 2 rfl | exact Rd.blk 3 rfl | exact Rd.blk 4 rfl | exact Rd.blk 5 rfl | exact Rd.blk 6 rfl)
       case h111 => rfl
       refine WA.take 12 rfl qK qK qK rfl rfl qD (Yl.index tab_ok rfl rfl rfl rfl rfl rfl (fun _ => rfl) qA qH) qS qR ?_
       refine' WA.take 13 rfl qK qK qK rfl rfl qD (Yl.load1 tab_ok rfl rfl rfl (fun _ => rfl) ?r112 rfl ?h112) qS qR ?_
       case r112 => (first | (apply RS.rdD; assumption; ((try dsimp only) <;> omega)) | exact Rd.slD 0 rfl qX | exact Rd.slD 1 rfl qX | exact Rd.slD 2 rfl qX | exact Rd.slD 3 rfl qX | exact Rd.slD 4 rfl qX | exact Rd.slD 5 rfl qX | exact Rd.slD 6 rfl qX)
       case h112 => rfl
       refine tS 14 ?_
       refine tA 18 ?_
       refine tP 19 ?_
       first | refine WA.effN 20 rfl qK rfl rfl (Ef.store 0 tab_ok rfl rfl rfl rfl rfl rfl rfl rfl ?_) | refine WA.effN 20 rfl qK rfl rfl (Ef.store 1 tab_ok rfl rfl rfl rfl rfl rfl rfl rfl ?_) | refine WA.effN 20 rfl qK rfl rfl (Ef.store 2 tab_ok rfl rfl rfl rfl rfl rfl rfl rfl ?_) | refine WA.effN 20 rfl qK rfl rfl (Ef.store 3 tab_ok rfl rfl rfl rfl rfl rfl rfl rfl ?_) | refine WA.effN 20 rfl qK rfl rfl (Ef.store 4 tab_ok rfl rfl rfl rfl rfl rfl rfl rfl ?_) | refine WA.effN 20 rfl qK rfl rfl (Ef.store 5 tab_ok rfl rfl rfl rfl rfl rfl rfl rfl ?_) | refine WA.effN 20 rfl qK rfl rfl (Ef.store 6 tab_ok rfl rfl rfl rfl rfl rfl rfl rfl ?_)
       refine ⟨qR, qS, ?_⟩
       refine WA.done qK ?_
       refine WE.cut (nth (fvals (upV xs (c + 3) v0) n) ((n : Int) - 1).toNat - nth (fvals (upV xs (c + 3) v0) n) ((n : Int) - (P : Int)).toNat + nth ([0, 0, 1, 3, 4, 8] : List Int) (mod (nth xs (c + 3 + n)) ((6 : Nat) : Int)).toNat) ⟨by omega, by omega, by omega⟩ ⟨rfl, rfl, rfl, rfl⟩ (RLe.refl _) qS
      ·
       refine' WS.yl rfl rfl rfl qD (Yl.load1 tab_ok rfl rfl rfl (fun _ => rfl) ?r113 rfl ?h113) qS qR ?_
       case r113 => apply Rd.add; (first | exact Rd.blk 0 rfl | exact Rd.blk 1 rfl | exact Rd.blk 2 rfl | exact Rd.blk 3 rfl | exact Rd.blk 4 rfl | exact Rd.blk 5 rfl | exact Rd.blk 6 rfl)
       case h113 => rfl
       refine WA.take 12 rfl qK qK qK rfl rfl qD (Yl.index tab_ok rfl rfl rfl rfl rfl rfl (fun _ => rfl) qA qH) qS qR ?_
       refine' WA.take 13 rfl qK qK qK rfl rfl qD (Yl.load1 tab_ok rfl rfl rfl (fun _ => rfl) ?r114 rfl ?h114) qS qR ?_
       case r114 => (first | (apply RS.rdD; assumption; ((try dsimp only) <;> omega)) | exact Rd.slD 0 rfl qX | exact Rd.slD 1 rfl qX | exact Rd.slD 2 rfl qX | exact Rd.slD 3 rfl qX | exact Rd.slD 4 rfl qX | exact Rd.slD 5 rfl qX | exact Rd.slD 6 rfl qX)
       case h114 => rfl
       refine' WA.yl 1 rfl qK rfl rfl qD (Yl.load1 tab_ok rfl rfl rfl (fun _ => rfl) ?r115 rfl ?h115) qS qR ?_
       case r115 => apply Rd.add; (first | exact Rd.blk 0 rfl | exact Rd.blk 1 rfl | exact Rd.blk 2 rfl | exact Rd.blk 3 rfl | exact Rd.blk 4 rfl | exact Rd.blk 5 rfl | exact Rd.blk 6 rfl)
       case h115 => rfl
       refine WA.take 4 rfl qK qK qK rfl rfl qD (Yl.index tab_ok rfl rfl rfl rfl rfl rfl (fun _ => rfl) qA qH) qS qR ?_
       refine' WA.take 5 rfl qK qK qK rfl rfl qD (Yl.load1 tab_ok rfl rfl rfl (fun _ => rfl) ?r116 rfl ?h116) qS qR ?_
       case r116 => (first | (apply RS.rdD; assumption; ((try dsimp only) <;> omega)) | exact Rd.slD 0 rfl qX | exact Rd.slD 1 rfl qX | exact Rd.slD 2 rfl qX | exact Rd.slD 3 rfl qX | exact Rd.slD 4 rfl qX | exact Rd.slD 5 rfl qX | exact Rd.slD 6 rfl qX)
       case h116 => rfl
       refine tS 14 ?_
       refine tA 18 ?_
       refine tP 19 ?_
       first | refine WA.effN 20 rfl qK rfl rfl (Ef.store 0 tab_ok rfl rfl rfl rfl rfl rfl rfl rfl ?_) | refine WA.effN 20 rfl qK rfl rfl (Ef.store 1 tab_ok rfl rfl rfl rfl rfl rfl rfl rfl ?_) | refine WA.effN 20 rfl qK rfl rfl (Ef.store 2 tab_ok rfl rfl rfl rfl rfl rfl rfl rfl ?_) | refine WA.effN 20 rfl qK rfl rfl (Ef.store 3 tab_ok rfl rfl rfl rfl rfl rfl rfl rfl ?_) | refine WA.effN 20 rfl qK rfl rfl (Ef.store 4 tab_ok rfl rfl rfl rfl rfl rfl rfl rfl ?_) | refine WA.effN 20 rfl qK rfl rfl (Ef.store 5 tab_ok rfl rfl rfl rfl rfl rfl rfl rfl ?_) | refine WA.effN 20 rfl qK rfl rfl (Ef.store 6 tab_ok rfl rfl rfl rfl rfl rfl rfl rfl ?_)
       refine ⟨qR, qS, ?_⟩
       refine WA.done qK ?_
       refine WE.cut (nth (fvals (upV xs (c + 3) v0) n) ((n : Int) - 1).toNat - nth (fvals (upV xs (c + 3) v0) n) ((n : Int) - (P : Int)).toNat + nth ([0, 0, 1, 3, 4, 8] : List Int) (mod (nth xs (c + 3 + n)) ((6 : Nat) : Int)).toNat) ⟨by omega, by omega, by omega⟩ ⟨rfl, rfl, rfl, rfl⟩ (RLe.refl _) qS
   ·
    refine WS.eff rfl rfl rfl qD (Ef.buildSliceD (enc := encI) (parts := [.const (.int .i64 0), .const (.int .i64 0), .const (.int .i64 1), .const (.int .i64 3), .const (.int .i64 4), .const (.int .i64 8)]) [_, _, _, _, _, _] tab_ok rfl rfl rfl rfl rfl rfl rfl rfl qD qD (fun a54 => ?_))
    refine ⟨qR, qS, ?_⟩
    refine WA.br4 (i := 1) (j := 7) (k := 10) (l := 17) qK ?_ ?_ ?_ ?_
    ·
     refine' WS.yl rfl rfl rfl qD (Yl.load1 tab_ok rfl rfl rfl (fun _ => rfl) ?r117 rfl ?h117) qS qR ?_
     case r117 => apply Rd.add; (first | exact Rd.blk 0 rfl | exact Rd.blk 1 rfl | exact Rd.blk 2 rfl | exact Rd.blk 3 rfl | exact Rd.blk 4 rfl | exact Rd.blk 5 rfl | exact Rd.blk 6 rfl)
     case h117 => rfl
     refine WA.take 4 rfl qK qK qK rfl rfl qD (Yl.index tab_ok rfl rfl rfl rfl rfl rfl (fun _ => rfl) qA qH) qS qR ?_
     refine' WA.take 5 rfl qK qK qK rfl rfl qD (Yl.load1 tab_ok rfl rfl rfl (fun _ => rfl) ?r118 rfl ?h118) qS qR ?_
     case r118 => (first | (apply RS.rdD; assumption; ((try dsimp only) <;> omega)) | exact Rd.slD 0 rfl qX | exact Rd.slD 1 rfl qX | exact Rd.slD 2 rfl qX | exact Rd.slD 3 rfl qX | exact Rd.slD 4 rfl qX | exact Rd.slD 5 rfl qX | exact Rd.slD 6 rfl qX)
     case h118 => rfl
     refine WA.br3 (i := 7) (j := 10) (k := 17) qK ?_ ?_ ?_
     ·
      refine' WS.yl rfl rfl rfl qD (Yl.load1 tab_ok rfl rfl rfl (fun _ => rfl) ?r119 rfl ?h119) qS qR ?_
      case r119 => apply Rd.add; (first | exact Rd.blk 0 rfl | exact Rd.blk 1 rfl | exact Rd.blk 2 rfl | exact Rd.blk 3 rfl | exact Rd.blk 4 rfl | exact Rd.blk 5 rfl | exact Rd.blk 6 rfl)
      case h119 => rfl
      refine WA.br2 (i := 10) (j := 17) qK ?_ ?_
      ·
       refine' WS.yl rfl rfl rfl qD (Yl.load1 tab_ok rfl rfl rfl (fun _ => rfl) ?r120 rfl ?h120) qS qR ?_
       case r120 => apply Rd.add; (first | exact Rd.blk 0 rfl | exact Rd.blk 1 rfl | exact Rd.blk 2 rfl | exact Rd.blk 3 rfl | exact Rd.blk 4 rfl | exact Rd.blk 5 rfl | exact Rd.blk 6 rfl)
       case h120 => rfl
       refine tS 11 ?_
       refine WA.take 12 rfl qK qK qK rfl rfl qD (Yl.index tab_ok rfl rfl rfl rfl rfl rfl (fun _ => rfl) qA qH) qS qR ?_
       refine' WA.take 13 rfl qK qK qK rfl rfl qD (Yl.load1 tab_ok rfl rfl rfl (fun _ => rfl) ?r121 rfl ?h121) qS qR ?_
       case r121 => (first | (apply RS.rdD; assumption; ((try dsimp only) <;> omega)) | exact Rd.slD 0 rfl qX | exact Rd.slD 1 rfl qX | exact Rd.slD 2 rfl qX | exact Rd.slD 3 rfl qX | exact Rd.slD 4 rfl qX | exact Rd.slD 5 rfl qX | exact Rd.slD 6 rfl qX)
       case h121 => rfl
       refine tS 14 ?_
       refine WA.callAt 5 17 rfl qK en33 rfl rfl qD (CallOp.mkT rfl rfl rfl rfl) rfl (PickM_C (j := 0) w0 ([0, 0, 1, 3, 4, 8] : List Int) rfl qD qD ha rfl) ?_
       rintro _ _ _ _ - ⟨rfl, rfl, rfl, rfl⟩
       refine ⟨RLe.refl _, qS, ?_⟩
       refine tA 18 ?_
       refine tP 19 ?_
       first | refine WA.effN 20 rfl qK rfl rfl (Ef.store 0 tab_ok rfl rfl rfl rfl rfl rfl rfl rfl ?_) | refine WA.effN 20 rfl qK rfl rfl (Ef.store 1 tab_ok rfl rfl rfl rfl rfl rfl rfl rfl ?_) | refine WA.effN 20 rfl qK rfl rfl (Ef.store 2 tab_ok rfl rfl rfl rfl rfl rfl rfl rfl ?_) | refine WA.effN 20 rfl qK rfl rfl (Ef.store 3 tab_ok rfl rfl rfl rfl rfl rfl rfl rfl ?_) | refine WA.effN 20 rfl qK rfl rfl (Ef.store 4 tab_ok rfl rfl rfl rfl rfl rfl rfl rfl ?_) | refine WA.effN 20 rfl qK rfl rfl (Ef.store 5 tab_ok rfl rfl rfl rfl rfl rfl rfl rfl ?_) | refine WA.effN 20 rfl qK rfl rfl (Ef.store 6 tab_ok rfl rfl rfl rfl rfl rfl rfl rfl ?_)
       refine ⟨qR, qS, ?_⟩
       refine WA.done qK ?_
       refine WE.cut (nth (fvals (upV xs (c + 3) v0) n) ((n : Int) - 1).toNat - nth (fvals (upV xs (c + 3) v0) n) ((n : Int) - (P : Int)).toNat + nth ([0, 0, 1, 3, 4, 8] : List Int) (mod (nth xs (c + 3 + n)) ((6 : Nat) : Int)).toNat) ⟨by omega, by omega, by omega⟩ ⟨rfl, rfl, rfl, rfl⟩ (RLe.refl _) qS
      ·
       refine WS.callAt 5 rfl en33 rfl rfl qD (CallOp.mkT rfl rfl rfl rfl) rfl (PickM_C (j := 0) w0 ([0, 0, 1, 3, 4, 8] : List Int) rfl qD qD ha rfl) ?_
       rintro _ _ _ _ - ⟨rfl, rfl, rfl, rfl⟩
       refine ⟨qR, qS, ?_⟩
       refine' WA.yl 10 rfl qK rfl rfl qD (Yl.load1 tab_ok rfl rfl rfl (fun _ => rfl) ?r122 rfl ?h122) qS qR ?_
       case r122 => apply Rd.add; (first | exact Rd.blk 0 rfl | exact Rd.blk 1 rfl | exact Rd.blk 2 rfl | exact Rd.blk 3 rfl | exact Rd.blk 4 rfl | exact Rd.blk 5 rfl | exact Rd.blk 6 rfl)
       case h122 => rfl
       refine tS 11 ?_
       refine WA.take 12 rfl qK qK qK rfl rfl qD (Yl.index tab_ok rfl rfl rfl rfl rfl rfl (fun _ => rfl) qA qH) qS qR ?_
       refine' WA.take 13 rfl qK qK qK rfl rfl qD (Yl.load1 tab_ok rfl rfl rfl (fun _ => rfl) ?r123 rfl ?h123) qS qR ?_
       case r123 => (first | (apply RS.rdD; assumption; ((try dsimp only) <;> omega)) | exact Rd.slD 0 rfl qX | exact Rd.slD 1 rfl qX | exact Rd.slD 2 rfl qX | exact Rd.slD 3 rfl qX | exact Rd.slD 4 rfl qX | exact Rd.slD 5 rfl qX | exact Rd.slD 6 rfl qX)
       case h123 => rfl
       refine tS 14 ?_
       refine tA 18 ?_
       refine tP 19 ?_
       first | refine WA.effN 20 rfl qK rfl rfl (Ef.store 0 tab_ok rfl rfl rfl rfl rfl rfl rfl rfl ?_) | refine WA.effN 20 rfl qK rfl rfl (Ef.store 1 tab_ok rfl rfl rfl rfl rfl rfl rfl rfl ?_) | refine WA.effN 20 rfl qK rfl rfl (Ef.store 2 tab_ok rfl rfl rfl rfl rfl rfl rfl rfl ?_) | refine WA.effN 20 rfl qK rfl rfl (Ef.store 3 tab_ok rfl rfl rfl rfl rfl rfl rfl rfl ?_) | refine WA.effN 20 rfl qK rfl rfl (Ef.store 4 tab_ok rfl rfl rfl rfl rfl rfl rfl rfl ?_) | refine WA.effN 20 rfl qK rfl rfl (Ef.store 5 tab_ok rfl rfl rfl rfl rfl rfl rfl rfl ?_) | refine WA.effN 20 rfl qK rfl rfl (Ef.store 6 tab_ok rfl rfl rfl rfl rfl rfl rfl rfl ?_)
       refine ⟨qR, qS, ?_⟩
       refine WA.done qK ?_
       refine WE.cut (nth (fvals (upV xs (c + 3) v0) n) ((n : Int) - 1).toNat - nth (fvals (upV xs (c + 3) v0) n) ((n : Int) - (P : Int)).toNat + nth ([0, 0, 1, 3, 4, 8] : List Int) (mod (nth xs (c + 3 + n)) ((6 : Nat) : Int)).toNat) ⟨by omega, by omega, by omega⟩ ⟨rfl, rfl, rfl, rfl⟩ (RLe.refl _) qS
     ·
      refine' WS.yl rfl rfl rfl qD (Yl.load1 tab_ok rfl rfl rfl (fun _ => rfl) ?r124 rfl ?h124) qS qR ?_
      case r124 => apply Rd.add; (first | exact Rd.blk 0 rfl | exact Rd.blk 1 rfl | exact Rd.blk 2 rfl | exact Rd.blk 3 rfl | exact Rd.blk 4 rfl | exact Rd.blk 5 rfl | exact Rd.blk 6 rfl)
      case h124 => rfl
      refine tS 11 ?_
      refine WA.br2 (i := 7) (j := 17) qK ?_ ?_
      ·
       refine' WS.yl rfl rfl rfl qD (Yl.load1 tab_ok rfl rfl rfl (fun _ => rfl) ?r125 rfl ?h125) qS qR ?_
       case r125 => apply Rd.add; (first | exact Rd.blk 0 rfl | exact Rd.blk 1 rfl | exact Rd.blk 2 rfl | exact Rd.blk 3 rfl | exact Rd.blk 4 rfl | exact Rd.blk 5 rfl | exact Rd.blk 6 rfl)
       case h125 => rfl
       refine WA.take 12 rfl qK qK qK rfl rfl qD (Yl.index tab_ok rfl rfl rfl rfl rfl rfl (fun _ => rfl) qA qH) qS qR ?_
       refine' WA.take 13 rfl qK qK qK rfl rfl qD (Yl.load1 tab_ok rfl rfl rfl (fun _ => rfl) ?r126 rfl ?h126) qS qR ?_
       case r126 => (first | (apply RS.rdD; assumption; ((try dsimp only) <;> omega)) | exact Rd.slD 0 rfl qX | exact Rd.slD 1 rfl qX | exact Rd.slD 2 rfl qX | exact Rd.slD 3 rfl qX | exact Rd.slD 4 rfl qX | exact Rd.slD 5 rfl qX | exact Rd.slD 6 rfl qX)
       case h126 => rfl
       refine tS 14 ?_
       refine WA.callAt 5 17 rfl qK en33 rfl rfl qD (CallOp.mkT rfl rfl rfl rfl) rfl (PickM_C (j := 0) w0 ([0, 0, 1, 3, 4, 8] : List Int) rfl qD qD ha rfl) ?_
       rintro _ _ _ _ - ⟨rfl, rfl, rfl, rfl⟩
       refine ⟨RLe.refl _, qS, ?_⟩
       refine tA 18 ?_
       refine tP 19 ?_
       first | refine WA.effN 20 rfl qK rfl rfl (Ef.store 0 tab_ok rfl rfl rfl rfl rfl rfl rfl rfl ?_) | refine WA.effN 20 rfl qK rfl rfl (Ef.store 1 tab_ok rfl rfl rfl rfl rfl rfl rfl rfl ?_) | refine WA.effN 20 rfl qK rfl rfl (Ef.store 2 tab_ok rfl rfl rfl rfl rfl rfl rfl rfl ?_) | refine WA.effN 20 rfl qK rfl rfl (Ef.store 3 tab_ok rfl rfl rfl rfl rfl rfl rfl rfl ?_) | refine WA.effN 20 rfl qK rfl rfl (Ef.store 4 tab_ok rfl rfl rfl rfl rfl rfl rfl rfl ?_) | refine WA.effN 20 rfl qK rfl rfl (Ef.store 5 tab_ok rfl rfl rfl rfl rfl rfl rfl rfl ?_) | refine WA.effN 20 rfl qK rfl rfl (Ef.store 6 tab_ok rfl rfl rfl rfl rfl rfl rfl rfl ?_)
       refine ⟨qR, qS, ?_⟩
       refine WA.done qK ?_
       refine WE.cut (nth (fvals (upV xs (c + 3) v0) n) ((n : Int) - 1).toNat - nth (fvals (upV xs (c + 3) v0) n) ((n : Int) - (P : Int)).toNat + nth ([0, 0, 1, 3, 4, 8] : List Int) (mod (nth xs (c + 3 + n)) ((6 : Nat) : Int)).toNat) ⟨by omega, by omega, by omega⟩ ⟨rfl, rfl, rfl, rfl⟩ (RLe.refl _) qS
      ·
       refine WS.callAt 5 rfl en33 rfl rfl qD (CallOp.mkT rfl rfl rfl rfl) rfl (PickM_C (j := 0) w0 ([0, 0, 1, 3, 4, 8] : List Int) rfl qD qD ha rfl) ?_
       rintro _ _ _ _ - ⟨rfl, rfl, rfl, rfl⟩
       refine ⟨qR, qS, ?_⟩
       refine' WA.yl 7 rfl qK rfl rfl qD (Yl.load1 tab_ok rfl rfl rfl (fun _ => rfl) ?r127 rfl ?h127) qS qR ?_
       case r127 => apply Rd.add; (first | exact Rd.blk 0 rfl | exact Rd.blk 1 rfl | exact Rd.blk 2 rfl | exact Rd.blk 3 rfl | exact Rd.blk 4 rfl | exact Rd.blk 5 rfl | exact Rd.blk 6 rfl)
       case h127 => rfl
       refine WA.take 12 rfl qK qK qK rfl rfl qD (Yl.index tab_ok rfl rfl rfl rfl rfl rfl (fun _ => rfl) qA qH) qS qR ?_
       refine' WA.take 13 rfl qK qK qK rfl rfl qD (Yl.load1 tab_ok rfl rfl rfl (fun _ => rfl) ?r128 rfl ?h128) qS qR ?_
       case r128 => (first | (apply RS.rdD; assumption; ((try dsimp only) <;> omega)) | exact Rd.slD 0 rfl qX | exact Rd.slD 1 rfl qX | exact Rd.slD 2 rfl qX | exact Rd.slD 3 rfl qX | exact Rd.slD 4 rfl qX | exact Rd.slD 5 rfl qX | exact Rd.slD 6 rfl qX)
       case h128 => rfl
       refine tS 14 ?_
       refine tA 18 ?_
       refine tP 19 ?_
       first | refine WA.effN 20 rfl qK rfl rfl (Ef.store 0 tab_ok rfl rfl rfl rfl rfl rfl rfl rfl ?_) | refine WA.effN 20 rfl qK rfl rfl (Ef.store 1 tab_ok rfl rfl rfl rfl rfl rfl rfl rfl ?_) | refine WA.effN 20 rfl qK rfl rfl (Ef.store 2 tab_ok rfl rfl rfl rfl rfl rfl rfl rfl ?_) | refine WA.effN 20 rfl qK rfl rfl (Ef.store 3 tab_ok rfl rfl rfl rfl rfl rfl rfl rfl ?_) | refine WA.effN 20 rfl qK rfl rfl (Ef.store 4 tab_ok rfl rfl rfl rfl rfl rfl rfl rfl ?_) | refine WA.effN 20 rfl qK rfl rfl (Ef.store 5 tab_ok rfl rfl rfl rfl rfl rfl rfl rfl ?_) | refine WA.effN 20 rfl qK rfl rfl (Ef.store 6 tab_ok rfl rfl rfl rfl rfl rfl rfl rfl ?_)
       refine ⟨qR, qS, ?_⟩
       refine WA.done qK ?_
       refine WE.cut (nth (fvals (upV xs (c + 3) v0) n) ((n : Int) - 1).toNat - nth (fvals (upV xs (c + 3) v0) n) ((n : Int) - (P : Int)).toNat + nth ([0, 0, 1, 3, 4, 8] : List Int) (mod (nth xs (c + 3 + n)) ((6 : Nat) : Int)).toNat) ⟨by omega, by omega, by omega⟩ ⟨rfl, rfl, rfl, rfl⟩ (RLe.refl _) qS
     ·
      refine WS.callAt 5 rfl en33 rfl rfl qD (CallOp.mkT rfl rfl rfl rfl) rfl (PickM_C (j := 0) w0 ([0, 0, 1, 3, 4, 8] : List Int) rfl qD qD ha rfl) ?_
      rintro _ _ _ _ - ⟨rfl, rfl, rfl, rfl⟩
      refine ⟨qR, qS, ?_⟩
      refine WA.br2 (i := 7) (j := 10) qK ?_ ?_
      ·
       refine' WS.yl rfl rfl rfl qD (Yl.load1 tab_ok rfl rfl rfl (fun _ => rfl) ?r129 rfl ?h129) qS qR ?_
       case r129 => apply Rd.add; (first | exact Rd.blk 0 rfl | exact Rd.blk 1 rfl | exact Rd.blk 2 rfl | exact Rd.blk 3 rfl | exact Rd.blk 4 rfl | exact Rd.blk 5 rfl | exact Rd.blk 6 rfl)
       case h129 => rfl
       refine' WA.yl 10 rfl qK rfl rfl qD (Yl.load1 tab_ok rfl rfl rfl (fun _ => rfl) ?r130 rfl ?h130) qS qR ?_
       case r130 => apply Rd.add; (first | exact Rd.blk 0 rfl | exact Rd.blk 1 rfl | exact Rd.blk 2 rfl | exact Rd.blk 3 rfl | exact Rd.blk 4 rfl | exact Rd.blk 5 rfl | exact Rd.blk 6 rfl)
       case h130 => rfl
       refine tS 11 ?_
       refine WA.take 12 rfl qK qK qK rfl rfl qD (Yl.index tab_ok rfl rfl rfl rfl rfl rfl (fun _ => rfl) qA qH) qS qR ?_
       refine' WA.take 13 rfl qK qK qK rfl rfl qD (Yl.load1 tab_ok rfl rfl rfl (fun _ => rfl) ?r131 rfl ?h131) qS qR ?_
       case r131 => (first | (apply RS.rdD; assumption; ((try dsimp only) <;> omega)) | exact Rd.slD 0 rfl qX | exact Rd.slD 1 rfl qX | exact Rd.slD 2 rfl qX | exact Rd.slD 3 rfl qX | exact Rd.slD 4 rfl qX | exact Rd.slD 5 rfl qX | exact Rd.slD 6 rfl qX)
       case h131 => rfl
       refine tS 14 ?_
       refine tA 18 ?_
       refine tP 19 ?_
       first | refine WA.effN 20 rfl qK rfl rfl (Ef.store 0 tab_ok rfl rfl rfl rfl rfl rfl rfl rfl ?_) | refine WA.effN 20 rfl qK rfl rfl (Ef.store 1 tab_ok rfl rfl rfl rfl rfl rfl rfl rfl ?_) | refine WA.effN 20 rfl qK rfl rfl (Ef.store 2 tab_ok rfl rfl rfl rfl rfl rfl rfl rfl ?_) | refine WA.effN 20 rfl qK rfl rfl (Ef.store 3 tab_ok rfl rfl rfl rfl rfl rfl rfl rfl ?_) | refine WA.effN 20 rfl qK rfl rfl (Ef.store 4 tab_ok rfl rfl rfl rfl rfl rfl rfl rfl ?_) | refine WA.effN 20 rfl qK rfl rfl (Ef.store 5 tab_ok rfl rfl rfl rfl rfl rfl rfl rfl ?_) | refine WA.effN 20 rfl qK rfl rfl (Ef.store 6 tab_ok rfl rfl rfl rfl rfl rfl rfl rfl ?_)
       refine ⟨qR, qS, ?_⟩
       refine WA.done qK ?_
       refine WE.cut (nth (fvals (upV xs (c + 3) v0) n) ((n : Int) - 1).toNat - nth (fvals (upV xs (c + 3) v0) n) ((n : Int) - (P : Int)).toNat + nth ([0, 0, 1, 3, 4, 8] : List Int) (mod (nth xs (c + 3 + n)) ((6 : Nat) : Int)).toNat) ⟨by omega, by omega, by omega⟩ ⟨rfl, rfl, rfl, rfl⟩ (RLe.refl _) qS
      ·
       refine' WS.yl rfl rfl rfl qD (Yl.load1 tab_ok rfl rfl rfl (fun _ => rfl) ?r132 rfl ?h132) qS qR ?_
       case r132 => apply Rd.add; (first | exact Rd.blk 0 rfl | exact Rd.blk 1 rfl | exact Rd.blk 2 rfl | exact Rd.blk 3 rfl | exact Rd.blk 4 rfl | exact Rd.blk 5 rfl | exact Rd.blk 6 rfl)
       case h132 => rfl
       refine tS 11 ?_
       refine' WA.yl 7 rfl qK rfl rfl qD (Yl.load1 tab_ok rfl rfl rfl (fun _ => rfl) ?r133 rfl ?h133) qS qR ?_
       case r133 => apply Rd.add; (first | exact Rd.blk 0 rfl | exact Rd.blk 1 rfl | exact Rd.blk 2 rfl | exact Rd.blk 3 rfl | exact Rd.blk 4 rfl | exact Rd.blk 5 rfl | exact Rd.blk 6 rfl)
       case h133 => rfl
       refine WA.take 12 rfl qK qK qK rfl rfl qD (Yl.index tab_ok rfl rfl rfl rfl rfl rfl (fun _ => rfl) qA qH) qS qR ?_
       refine' WA.take 13 rfl qK qK qK rfl rfl qD (Yl.load1 tab_ok rfl rfl rfl (fun _ => rfl) ?r134 rfl ?h134) qS qR ?_
       case r134 => (first | (apply RS.rdD; assumption; ((try dsimp only) <;> omega)) | exact Rd.slD 0 rfl qX | exact Rd.slD 1 rfl qX | exact Rd.slD 2 rfl qX | exact Rd.slD 3 rfl qX | exact Rd.slD 4 rfl qX | exact Rd.slD 5 rfl qX | exact Rd.slD 6 rfl qX)
       case h134 => rfl
       refine tS 14 ?_
       refine tA 18 ?_
       refine tP 19 ?_
       first | refine WA.effN 20 rfl qK rfl rfl (Ef.store 0 tab_ok rfl rfl rfl rfl rfl rfl rfl rfl ?_) | refine WA.effN 20 rfl qK rfl rfl (Ef.store 1 tab_ok rfl rfl rfl rfl rfl rfl rfl rfl ?_) | refine WA.effN 20 rfl qK rfl rfl (Ef.store 2 tab_ok rfl rfl rfl rfl rfl rfl rfl rfl ?_) | refine WA.effN 20 rfl qK rfl rfl (Ef.store 3 tab_ok rfl rfl rfl rfl rfl rfl rfl rfl ?_) | refine WA.effN 20 rfl qK rfl rfl (Ef.store 4 tab_ok rfl rfl rfl rfl rfl rfl rfl rfl ?_) | refine WA.effN 20 rfl qK rfl rfl (Ef.store 5 tab_ok rfl rfl rfl rfl rfl rfl rfl rfl ?_) | refine WA.effN 20 rfl qK rfl rfl (Ef.store 6 tab_ok rfl rfl rfl rfl rfl rfl rfl rfl ?_)
       refine ⟨qR, qS, ?_⟩
       refine WA.done qK ?_
       refine WE.cut (nth (fvals (upV xs (c + 3) v0) n) ((n : Int) - 1).toNat - nth (fvals (upV xs (c + 3) v0) n) ((n : Int) - (P : Int)).toNat + nth ([0, 0, 1, 3, 4, 8] : List Int) (mod (nth xs (c + 3 + n)) ((6 : Nat) : Int)).toNat) ⟨by omega, by omega, by omega⟩ ⟨rfl, rfl, rfl, rfl⟩ (RLe.refl _) qS
    ·
     refine' WS.yl rfl rfl rfl qD (Yl.load1 tab_ok rfl rfl rfl (fun _ => rfl) ?r135 rfl ?h135) qS qR ?_
     case r135 => apply Rd.add; (first | exact Rd.blk 0 rfl | exact Rd.blk 1 rfl | exact Rd.blk 2 rfl | exact Rd.blk 3 rfl | exact Rd.blk 4 rfl | exact Rd.blk 5 rfl | exact Rd.blk 6 rfl)
     case h135 => rfl
     refine WA.br3 (i := 1) (j := 10) (k := 17) qK ?_ ?_ ?_
     ·
      refine' WS.yl rfl rfl rfl qD (Yl.load1 tab_ok rfl rfl rfl (fun _ => rfl) ?r136 rfl ?h136) qS qR ?_
      case r136 => apply Rd.add; (first | exact Rd.blk 0 rfl | exact Rd.blk 1 rfl | exact Rd.blk 2 rfl | exact Rd.blk 3 rfl | exact Rd.blk 4 rfl | exact Rd.blk 5 rfl | exact Rd.blk 6 rfl)
      case h136 => rfl
      refine WA.take 4 rfl qK qK qK rfl rfl qD (Yl.index tab_ok rfl rfl rfl rfl rfl rfl (fun _ => rfl) qA qH) qS qR ?_
      refine' WA.take 5 rfl qK qK qK rfl rfl qD (Yl.load1 tab_ok rfl rfl rfl (fun _ => rfl) ?r137 rfl ?h137) qS qR ?_
      case r137 => (first | (apply RS.rdD; assumption; ((try dsimp only) <;> omega)) | exact Rd.slD 0 rfl qX | exact Rd.slD 1 rfl qX | exact Rd.slD 2 rfl qX | exact Rd.slD 3 rfl qX | exact Rd.slD 4 rfl qX | exact Rd.slD 5 rfl qX | exact Rd.slD 6 rfl qX)
      case h137 => rfl
      refine WA.br2 (i := 10) (j := 17) qK ?_ ?_
      ·
       refine' WS.yl rfl rfl rfl qD (Yl.load1 tab_ok rfl rfl rfl (fun _ => rfl) ?r138 rfl ?h138) qS qR ?_
       case r138 => apply Rd.add; (first | exact Rd.blk 0 rfl | exact Rd.blk 1 rfl | exact Rd.blk 2 rfl | exact Rd.blk 3 rfl | exact Rd.blk 4 rfl | exact Rd.blk 5 rfl | exact Rd.blk 6 rfl)
       case h138 => rfl
       refine tS 11 ?_
       refine WA.take 12 rfl qK qK qK rfl rfl qD (Yl.index tab_ok rfl rfl rfl rfl rfl rfl (fun _ => rfl) qA qH) qS qR ?_
       refine' WA.take 13 rfl qK qK qK rfl rfl qD (Yl.load1 tab_ok rfl rfl rfl (fun _ => rfl) ?r139 rfl ?h139) qS qR ?_
       case r139 => (first | (apply RS.rdD; assumption; ((try dsimp only) <;> omega)) | exact Rd.slD 0 rfl qX | exact Rd.slD 1 rfl qX | exact Rd.slD 2 rfl qX | exact Rd.slD 3 rfl qX | exact Rd.slD 4 rfl qX | exact Rd.slD 5 rfl qX | exact Rd.slD 6 rfl qX)
       case h139 => rfl
       refine tS 14 ?_
       refine WA.callAt 5 17 rfl qK en33 rfl rfl qD (CallOp.mkT rfl rfl rfl rfl) rfl (PickM_C (j := 0) w0 ([0, 0, 1, 3, 4, 8] : List Int) rfl qD qD ha rfl) ?_
       rintro _ _ _ _ - ⟨rfl, rfl, rfl, rfl⟩
       refine ⟨RLe.refl _, qS, ?_⟩
       refine tA 18 ?_
       refine tP 19 ?_
       first | refine WA.effN 20 rfl qK rfl rfl (Ef.store 0 tab_ok rfl rfl rfl rfl rfl rfl rfl rfl ?_) | refine WA.effN 20 rfl qK rfl rfl (Ef.store 1 tab_ok rfl rfl rfl rfl rfl rfl rfl rfl ?_) | refine WA.effN 20 rfl qK rfl rfl (Ef.store 2 tab_ok rfl rfl rfl rfl rfl rfl rfl rfl ?_) | refine WA.effN 20 rfl qK rfl rfl (Ef.store 3 tab_ok rfl rfl rfl rfl rfl rfl rfl rfl ?_) | refine WA.effN 20 rfl qK rfl rfl (Ef.store 4 tab_ok rfl rfl rfl rfl rfl rfl rfl rfl ?_) | refine WA.effN 20 rfl qK rfl rfl (Ef.store 5 tab_ok rfl rfl rfl rfl rfl rfl rfl rfl ?_) | refine WA.effN 20 rfl qK rfl rfl (Ef.store 6 tab_ok rfl rfl rfl rfl rfl rfl rfl rfl ?_)
       refine ⟨qR, qS, ?_⟩
       refine WA.done qK ?_
       refine WE.cut (nth (fvals (upV xs (c + 3) v0) n) ((n : Int) - 1).toNat - nth (fvals (upV xs (c + 3) v0) n) ((n : Int) - (P : Int)).toNat + nth ([0, 0, 1, 3, 4, 8] : List Int) (mod (nth xs (c + 3 + n)) ((6 : Nat) : Int)).toNat) ⟨by omega, by omega, by omega⟩ ⟨rfl, rfl, rfl, rfl⟩ (RLe.refl _) qS
      ·
       refine WS.callAt 5 rfl en33 rfl rfl qD (CallOp.mkT rfl rfl rfl rfl) rfl (PickM_C (j := 0) w0 ([0, 0, 1, 3, 4, 8] : List Int) rfl qD qD ha rfl) ?_
       rintro _ _ _ _ - ⟨rfl, rfl, rfl, rfl⟩
       refine ⟨qR, qS, ?_⟩
       refine' WA.yl 10 rfl qK rfl rfl qD (Yl.load1 tab_ok rfl rfl rfl (fun _ => rfl) ?r140 rfl ?h140) qS qR ?_
       case r140 => apply Rd.add; (first | exact Rd.blk 0 rfl | exact Rd.blk 1 rfl | exact Rd.blk 2 rfl | exact Rd.blk 3 rfl | exact Rd.blk 4 rfl | exact Rd.blk 5 rfl | exact Rd.blk 6 rfl)
       case h140 => rfl
       refine tS 11 ?_
       refine WA.take 12 rfl qK qK qK rfl rfl qD (Yl.index tab_ok rfl rfl rfl rfl rfl rfl (fun _ => rfl) qA qH) qS qR ?_
       refine' WA.take 13 rfl qK qK qK rfl rfl qD (Yl.load1 tab_ok rfl rfl rfl (fun _ => rfl) ?r141 rfl ?h141) qS qR ?_
       case r141 => (first | (apply RS.rdD; assumption; ((try dsimp only) <;> omega)) | exact Rd.slD 0 rfl qX | exact Rd.slD 1 rfl qX | exact Rd.slD 2 rfl qX | exact Rd.slD 3 rfl qX | exact Rd.slD 4 rfl qX | exact Rd.slD 5 rfl qX | exact Rd.slD 6 rfl qX)
       case h141 => rfl
       refine tS 14 ?_
       refine tA 18 ?_
       refine tP 19 ?_
       first | refine WA.effN 20 rfl qK rfl rfl (Ef.store 0 tab_ok rfl rfl rfl rfl rfl rfl rfl rfl ?_) | refine WA.effN 20 rfl qK rfl rfl (Ef.store 1 tab_ok rfl rfl rfl rfl rfl rfl rfl rfl ?_) | refine WA.effN 20 rfl qK rfl rfl (Ef.store 2 tab_ok rfl rfl rfl rfl rfl rfl rfl rfl ?_) | refine WA.effN 20 rfl qK rfl rfl (Ef.store 3 tab_ok rfl rfl rfl rfl rfl rfl rfl rfl ?_) | refine WA.effN 20 rfl qK rfl rfl (Ef.store 4 tab_ok rfl rfl rfl rfl rfl rfl rfl rfl ?_) | refine WA.effN 20 rfl qK rfl rfl (Ef.store 5 tab_ok rfl rfl rfl rfl rfl rfl rfl rfl ?_) | refine WA.effN 20 rfl qK rfl rfl (Ef.store 6 tab_ok rfl rfl rfl rfl rfl rfl rfl rfl ?_)
       refine ⟨qR, qS, ?_⟩
       refine WA.done qK ?_
       refine WE.cut (nth (fvals (upV xs (c + 3) v0) n) ((n : Int) - 1).toNat - nth (fvals (upV xs (c + 3) v0) n) ((n : Int) - (P : Int)).toNat + nth ([0, 0, 1, 3, 4, 8] : List Int) (mod (nth xs (c + 3 + n)) ((6 : Nat) : Int)).toNat) ⟨by omega, by omega, by omega⟩ ⟨rfl, rfl, rfl, rfl⟩ (RLe.refl _) qS
     ·
      refine' WS.yl rfl rfl rfl qD (Yl.load1 tab_ok rfl rfl rfl (fun _ => rfl) ?r142 rfl ?h142) qS qR ?_
      case r142 => apply Rd.add; (first | exact Rd.blk 0 rfl | exact Rd.blk 1 rfl | exact Rd.blk 2 rfl | exact Rd.blk 3 rfl | exact Rd.blk 4 rfl | exact Rd.blk 5 rfl | exact Rd.blk 6 rfl)
      case h142 => rfl
      refine tS 11 ?_
      refine WA.take 12 rfl qK qK qK rfl rfl qD (Yl.index tab_ok rfl rfl rfl rfl rfl rfl (fun _ => rfl) qA qH) qS qR ?_
      refine' WA.take 13 rfl qK qK qK rfl rfl qD (Yl.load1 tab_ok rfl rfl rfl (fun _ => rfl) ?r143 rfl ?h143) qS qR ?_
      case r143 => (first | (apply RS.rdD; assumption; ((try dsimp only) <;> omega)) | exact Rd.slD 0 rfl qX | exact Rd.slD 1 rfl qX | exact Rd.slD 2 rfl qX | exact Rd.slD 3 rfl qX | exact Rd.slD 4 rfl qX | exact Rd.slD 5 rfl qX | exact Rd.slD 6 rfl qX)
      case h143 => rfl
      refine WA.br2 (i := 1) (j := 17) qK ?_ ?_
      ·
       refine' WS.yl rfl rfl rfl qD (Yl.load1 tab_ok rfl rfl rfl (fun _ => rfl) ?r144 rfl ?h144) qS qR ?_
       case r144 => apply Rd.add; (first | exact Rd.blk 0 rfl | exact Rd.blk 1 rfl | exact Rd.blk 2 rfl | exact Rd.blk 3 rfl | exact Rd.blk 4 rfl | exact Rd.blk 5 rfl | exact Rd.blk 6 rfl)
       case h144 => rfl
       refine WA.take 4 rfl qK qK qK rfl rfl qD (Yl.index tab_ok rfl rfl rfl rfl rfl rfl (fun _ => rfl) qA qH) qS qR ?_
       refine' WA.take 5 rfl qK qK qK rfl rfl qD (Yl.load1 tab_ok rfl rfl rfl (fun _ => rfl) ?r145 rfl ?h145) qS qR ?_
       case r145 => (first | (apply RS.rdD; assumption; ((try dsimp only) <;> omega)) | exact Rd.slD 0 rfl qX | exact Rd.slD 1 rfl qX | exact Rd.slD 2 rfl qX | exact Rd.slD 3 rfl qX | exact Rd.slD 4 rfl qX | exact Rd.slD 5 rfl qX | exact Rd.slD 6 rfl qX)
       case h145 => rfl
       refine tS 14 ?_
       refine WA.callAt 5 17 rfl qK en33 rfl rfl qD (CallOp.mkT rfl rfl rfl rfl) rfl (PickM_C (j := 0) w0 ([0, 0, 1, 3, 4, 8] : List Int) rfl qD qD ha rfl) ?_
       rintro _ _ _ _ - ⟨rfl, rfl, rfl, rfl⟩
       refine ⟨RLe.refl _, qS, ?_⟩
       refine tA 18 ?_
       refine tP 19 ?_
       first | refine WA.effN 20 rfl qK rfl rfl (Ef.store 0 tab_ok rfl rfl rfl rfl rfl rfl rfl rfl ?_) | refine WA.effN 20 rfl qK rfl rfl (Ef.store 1 tab_ok rfl rfl rfl rfl rfl rfl rfl rfl ?_) | refine WA.effN 20 rfl qK rfl rfl (Ef.store 2 tab_ok rfl rfl rfl rfl rfl rfl rfl rfl ?_) | refine WA.effN 20 rfl qK rfl rfl (Ef.store 3 tab_ok rfl rfl rfl rfl rfl rfl rfl rfl ?_) | refine WA.effN 20 rfl qK rfl rfl (Ef.store 4 tab_ok rfl rfl rfl rfl rfl rfl rfl rfl ?_) | refine WA.effN 20 rfl qK rfl rfl (Ef.store 5 tab_ok rfl rfl rfl rfl rfl rfl rfl rfl ?_) | refine WA.effN 20 rfl qK rfl rfl (Ef.store 6 tab_ok rfl rfl rfl rfl rfl rfl rfl rfl ?_)
       refine ⟨qR, qS, ?_⟩
       refine WA.done qK ?_
       refine WE.cut (nth (fvals (upV xs (c + 3) v0) n) ((n : Int) - 1).toNat - nth (fvals (upV xs (c + 3) v0) n) ((n : Int) - (P : Int)).toNat + nth ([0, 0, 1, 3, 4, 8] : List Int) (mod (nth xs (c + 3 + n)) ((6 : Nat) : Int)).toNat) ⟨by omega, by omega, by omega⟩ ⟨rfl, rfl, rfl, rfl⟩ (RLe.refl _) qS
      ·
       refine WS.callAt 5 rfl en33 rfl rfl qD (CallOp.mkT rfl rfl rfl rfl) rfl (PickM_C (j := 0) w0 ([0, 0, 1, 3, 4, 8] : List Int) rfl qD qD ha rfl) ?_
       rintro _ _ _ _ - ⟨rfl, rfl, rfl, rfl⟩
       refine ⟨qR, qS, ?_⟩
       refine' WA.yl 1 rfl qK rfl rfl qD (Yl.load1 tab_ok rfl rfl rfl (fun _ => rfl) ?r146 rfl ?h146) qS qR ?_
       case r146 => apply Rd.add; (first | exact Rd.blk 0 rfl | exact Rd.blk 1 rfl | exact Rd.blk 2 rfl | exact Rd.blk 3 rfl | exact Rd.blk 4 rfl | exact Rd.blk 5 rfl | exact Rd.blk 6 rfl)
       case h146 => rfl
       refine WA.take 4 rfl qK qK qK rfl rfl qD (Yl.index tab_ok rfl rfl rfl rfl rfl rfl (fun _ => rfl) qA qH) qS qR ?_
       refine' WA.take 5 rfl qK qK qK rfl rfl qD (Yl.load1 tab_ok rfl rfl rfl (fun _ => rfl) ?r147 rfl ?h147) qS qR ?_
       case r147 => (first | (apply RS.rdD; assumption; ((try dsimp only) <;> omega)) | exact Rd.slD 0 rfl qX | exact Rd.slD 1 rfl qX | exact Rd.slD 2 rfl qX | exact Rd.slD 3 rfl qX | exact Rd.slD 4 rfl qX | exact Rd.slD 5 rfl qX | exact Rd.slD 6 rfl qX)
       case h147 => rfl
       refine tS 14 ?_
       refine tA 18 ?_
       refine tP 19 ?_
       first | refine WA.effN 20 rfl qK rfl rfl (Ef.store 0 tab_ok rfl rfl rfl rfl rfl rfl rfl rfl ?_) | refine WA.effN 20 rfl qK rfl rfl (Ef.store 1 tab_ok rfl rfl rfl rfl rfl rfl rfl rfl ?_) | refine WA.effN 20 rfl qK rfl rfl (Ef.store 2 tab_ok rfl rfl rfl rfl rfl rfl rfl rfl ?_) | refine WA.effN 20 rfl qK rfl rfl (Ef.store 3 tab_ok rfl rfl rfl rfl rfl rfl rfl rfl ?_) | refine WA.effN 20 rfl qK rfl rfl (Ef.store 4 tab_ok rfl rfl rfl rfl rfl rfl rfl rfl ?_) | refine WA.effN 20 rfl qK rfl rfl (Ef.store 5 tab_ok rfl rfl rfl rfl rfl rfl rfl rfl ?_) | refine WA.effN 20 rfl qK rfl rfl (Ef.store 6 tab_ok rfl rfl rfl rfl rfl rfl rfl rfl ?_)
       refine ⟨qR, qS, ?_⟩
       refine WA.done qK ?_
       refine WE.cut (nth (fvals (upV xs (c + 3) v0) n) ((n : Int) - 1).toNat - nth (fvals (upV xs (c + 3) v0) n) ((n : Int) - (P : Int)).toNat + nth ([0, 0, 1, 3, 4, 8] : List Int) (mod (nth xs (c + 3 + n)) ((6 : Nat) : Int)).toNat) ⟨by omega, by omega, by omega⟩ ⟨rfl, rfl, rfl, rfl⟩ (RLe.refl _) qS
     ·
      refine WS.callAt 5 rfl en33 rfl rfl qD (CallOp.mkT rfl rfl rfl rfl) rfl (PickM_C (j := 0) w0 ([0, 0, 1, 3, 4, 8] : List Int) rfl qD qD ha rfl) ?_
      rintro _ _ _ _ - ⟨rfl, rfl, rfl, rfl⟩
      refine ⟨qR, qS, ?_⟩
      refine WA.br2 (i := 1) (j := 10) qK ?_ ?_
      ·
       refine' WS.yl rfl rfl rfl qD (Yl.load1 tab_ok rfl rfl rfl (fun _ => rfl) ?r148 rfl ?h148) qS qR ?_
       case r148 => apply Rd.add; (first | exact Rd.blk 0 rfl | exact Rd.blk 1 rfl | exact Rd.blk 2 rfl | exact Rd.blk 3 rfl | exact Rd.blk 4 rfl | exact Rd.blk 5 rfl | exact Rd.blk 6 rfl)
       case h148 => rfl
       refine WA.take 4 rfl qK qK qK rfl rfl qD (Yl.index tab_ok rfl rfl rfl rfl rfl rfl (fun _ => rfl) qA qH) qS qR ?_
       refine' WA.take 5 rfl qK qK qK rfl rfl qD (Yl.load1 tab_ok rfl rfl rfl (fun _ => rfl) ?r149 rfl ?h149) qS qR ?_
       case r149 => (first | (apply RS.rdD; assumption; ((try dsimp only) <;> omega)) | exact Rd.slD 0 rfl qX | exact Rd.slD 1 rfl qX | exact Rd.slD 2 rfl qX | exact Rd.slD 3 rfl qX | exact Rd.slD 4 rfl qX | exact Rd.slD 5 rfl qX | exact Rd.slD 6 rfl qX)
       case h149 => rfl
       refine' WA.yl 10 rfl qK rfl rfl qD (Yl.load1 tab_ok rfl rfl rfl (fun _ => rfl) ?r150 rfl ?h150) qS qR ?_
       case r150 => apply Rd.add; (first | exact Rd.blk 0 rfl | exact Rd.blk 1 rfl | exact Rd.blk 2 rfl | exact Rd.blk 3 rfl | exact Rd.blk 4 rfl | exact Rd.blk 5 rfl | exact Rd.blk 6 rfl)
       case h150 => rfl
       refine tS 11 ?_
       refine WA.take 12 rfl qK qK qK rfl rfl qD (Yl.index tab_ok rfl rfl rfl rfl rfl rfl (fun _ => rfl) qA qH) qS qR ?_
       refine' WA.take 13 rfl qK qK qK rfl rfl qD (Yl.load1 tab_ok rfl rfl rfl (fun _ => rfl) ?r151 rfl ?h151) qS qR ?_
       case r151 => (first | (apply RS.rdD; assumption; ((try dsimp only) <;> omega)) | exact Rd.slD 0 rfl qX | exact Rd.slD 1 rfl qX | exact Rd.slD 2 rfl qX | exact Rd.slD 3 rfl qX | exact Rd.slD 4 rfl qX | exact Rd.slD 5 rfl qX | exact Rd.slD 6 rfl qX)
       case h151 => rfl
       refine tS 14 ?_
       refine tA 18 ?_
       refine tP 19 ?_
       first | refine WA.effN 20 rfl qK rfl rfl (Ef.store 0 tab_ok rfl rfl rfl rfl rfl rfl rfl rfl ?_) | refine WA.effN 20 rfl qK rfl rfl (Ef.store 1 tab_ok rfl rfl rfl rfl rfl rfl rfl rfl ?_) | refine WA.effN 20 rfl qK rfl rfl (Ef.store 2 tab_ok rfl rfl rfl rfl rfl rfl rfl rfl ?_) | refine WA.effN 20 rfl qK rfl rfl (Ef.store 3 tab_ok rfl rfl rfl rfl rfl rfl rfl rfl ?_) | refine WA.effN 20 rfl qK rfl rfl (Ef.store 4 tab_ok rfl rfl rfl rfl rfl rfl rfl rfl ?_) | refine WA.effN 20 rfl qK rfl rfl (Ef.store 5 tab_ok rfl rfl rfl rfl rfl rfl rfl rfl ?_) | refine WA.effN 20 rfl qK rfl rfl (Ef.store 6 tab_ok rfl rfl rfl rfl rfl rfl rfl rfl ?_)
       refine ⟨qR, qS, ?_⟩
       refine WA.done qK ?_
       refine WE.cut (nth (fvals (upV xs (c + 3) v0) n) ((n : Int) - 1).toNat - nth (fvals (upV xs (c + 3) v0) n) ((n : Int) - (P : Int)).toNat + nth ([0, 0, 1, 3, 4, 8] : List Int) (mod (nth xs (c + 3 + n)) ((6 : Nat) : Int)).toNat) ⟨by omega, by omega, by omega⟩ ⟨rfl, rfl, rfl, rfl⟩ (RLe.refl _) qS
      ·
       refine' WS.yl rfl rfl rfl qD (Yl.load1 tab_ok rfl rfl rfl (fun _ => rfl) ?r152 rfl ?h152) qS qR ?_
       case r152 => apply Rd.add; (first | exact Rd.blk 0 rfl | exact Rd.blk 1 rfl | exact Rd.blk 2 rfl | exact Rd.blk 3 rfl | exact Rd.blk 4 rfl | exact Rd.blk 5 rfl | exact Rd.blk 6 rfl)
       case h152 => rfl
       refine tS 11 ?_
       refine WA.take 12 rfl qK qK qK rfl rfl qD (Yl.index tab_ok rfl rfl rfl rfl rfl rfl (fun _ => rfl) qA qH) qS qR ?_
       refine' WA.take 13 rfl qK qK qK rfl rfl qD (Yl.load1 tab_ok rfl rfl rfl (fun _ => rfl) ?r153 rfl ?h153) qS qR ?_
       case r153 => (first | (apply RS.rdD; assumption; ((try dsimp only) <;> omega)) | exact Rd.slD 0 rfl qX | exact Rd.slD 1 rfl qX | exact Rd.slD 2 rfl qX | exact Rd.slD 3 rfl qX | exact Rd.slD 4 rfl qX | exact Rd.slD 5 rfl qX | exact Rd.slD 6 rfl qX)
       case h153 => rfl
       refine' WA.yl 1 rfl qK rfl rfl qD (Yl.load1 tab_ok rfl rfl rfl (fun _ => rfl) ?r154 rfl ?h154) qS qR ?_
       case r154 => apply Rd.add; (first | exact Rd.blk 0 rfl | exact Rd.blk 1 rfl | exact Rd.blk 2 rfl | exact Rd.blk 3 rfl | exact Rd.blk 4 rfl | exact Rd.blk 5 rfl | exact Rd.blk 6 rfl)
       case h154 => rfl
       refine WA.take 4 rfl qK qK qK rfl rfl qD (Yl.index tab_ok rfl rfl rfl rfl rfl rfl (fun _ => rfl) qA qH) qS qR ?_
       refine' WA.take 5 rfl qK qK qK rfl rfl qD (Yl.load1 tab_ok rfl rfl rfl (fun _ => rfl) ?r155 rfl ?h155) qS qR ?_
       case r155 => (first | (apply RS.rdD; assumption; ((try dsimp only) <;> omega)) | exact Rd.slD 0 rfl qX | exact Rd.slD 1 rfl qX | exact Rd.slD 2 rfl qX | exact Rd.slD 3 rfl qX | exact Rd.slD 4 rfl qX | exact Rd.slD 5 rfl qX | exact Rd.slD 6 rfl qX)
       case h155 => rfl
       refine tS 14 ?_
       refine tA 18 ?_
       refine tP 19 ?_
       first | refine WA.effN 20 rfl qK rfl rfl (Ef.store 0 tab_ok rfl rfl rfl rfl rfl rfl rfl rfl ?_) | refine WA.effN 20 rfl qK rfl rfl (Ef.store 1 tab_ok rfl rfl rfl rfl rfl rfl rfl rfl ?_) | refine WA.effN 20 rfl qK rfl rfl (Ef.store 2 tab_ok rfl rfl rfl rfl rfl rfl rfl rfl ?_) | refine WA.effN 20 rfl qK rfl rfl (Ef.store 3 tab_ok rfl rfl rfl rfl rfl rfl rfl rfl ?_) | refine WA.effN 20 rfl qK rfl rfl (Ef.store 4 tab_ok rfl rfl rfl rfl rfl rfl rfl rfl ?_) | refine WA.effN 20 rfl qK rfl rfl (Ef.store 5 tab_ok rfl rfl rfl rfl rfl rfl rfl rfl ?_) | refine WA.effN 20 rfl qK rfl rfl (Ef.store 6 tab_ok rfl rfl rfl rfl rfl rfl rfl rfl ?_)
       refine ⟨qR, qS, ?_⟩
       refine WA.done qK ?_
       refine WE.cut (nth (fvals (upV xs (c + 3) v0) n) ((n : Int) - 1).toNat - nth (fvals (upV xs (c + 3) v0) n) ((n : Int) - (P : Int)).toNat + nth ([0, 0, 1, 3, 4, 8] : List Int) (mod (nth xs (c + 3 + n)) ((6 : Nat) : Int)).toNat) ⟨by omega, by omega, by omega⟩ ⟨rfl, rfl, rfl, rfl⟩ (RLe.refl _) qS
    ·
     refine' WS.yl rfl rfl rfl qD (Yl.load1 tab_ok rfl rfl rfl (fun _ => rfl) ?r156 rfl ?h156) qS qR ?_
     case r156 => apply Rd.add; (first | exact Rd.blk 0 rfl | exact Rd.blk 1 rfl | exact Rd.blk 2 rfl | exact Rd.blk 3 rfl | exact Rd.blk 4 rfl | exact Rd.blk 5 rfl | exact Rd.blk 6 rfl)
     case h156 => rfl
     refine tS 11 ?_
     refine WA.br3 (i := 1) (j := 7) (k := 17) qK ?_ ?_ ?_
     ·
      refine' WS.yl rfl rfl rfl qD (Yl.load1 tab_ok rfl rfl rfl (fun _ => rfl) ?r157 rfl ?h157) qS qR ?_
      case r157 => apply Rd.add; (first | exact Rd.blk 0 rfl | exact Rd.blk 1 rfl | exact Rd.blk 2 rfl | exact Rd.blk 3 rfl | exact Rd.blk 4 rfl | exact Rd.blk 5 rfl | exact Rd.blk 6 rfl)
      case h157 => rfl
      refine WA.take 4 rfl qK qK qK rfl rfl qD (Yl.index tab_ok rfl rfl rfl rfl rfl rfl (fun _ => rfl) qA qH) qS qR ?_
      refine' WA.take 5 rfl qK qK qK rfl rfl qD (Yl.load1 tab_ok rfl rfl rfl (fun _ => rfl) ?r158 rfl ?h158) qS qR ?_
      case r158 => (first | (apply RS.rdD; assumption; ((try dsimp only) <;> omega)) | exact Rd.slD 0 rfl qX | exact Rd.slD 1 rfl qX | exact Rd.slD 2 rfl qX | exact Rd.slD 3 rfl qX | exact Rd.slD 4 rfl qX | exact Rd.slD 5 rfl qX | exact Rd.slD 6 rfl qX)
      case h158 => rfl
      refine WA.br2 (i := 7) (j := 17) qK ?_ ?_
      ·
       refine' WS.yl rfl rfl rfl qD (Yl.load1 tab_ok rfl rfl rfl (fun _ => rfl) ?r159 rfl ?h159) qS qR ?_
       case r159 => apply Rd.add; (first | exact Rd.blk 0 rfl | exact Rd.blk 1 rfl | exact Rd.blk 2 rfl | exact Rd.blk 3 rfl | exact Rd.blk 4 rfl | exact Rd.blk 5 rfl | exact Rd.blk 6 rfl)
       case h159 => rfl
       refine WA.take 12 rfl qK qK qK rfl rfl qD (Yl.index tab_ok rfl rfl rfl rfl rfl rfl (fun _ => rfl) qA qH) qS qR ?_
       refine' WA.take 13 rfl qK qK qK rfl rfl qD (Yl.load1 tab_ok rfl rfl rfl (fun _ => rfl) ?r160 rfl ?h160) qS qR ?_
       case r160 => (first | (apply RS.rdD; assumption; ((try dsimp only) <;> omega)) | exact Rd.slD 0 rfl qX | exact Rd.slD 1 rfl qX | exact Rd.slD 2 rfl qX | exact Rd.slD 3 rfl qX | exact Rd.slD 4 rfl qX | exact Rd.slD 5 rfl qX | exact Rd.slD 6 rfl qX)
       case h160 => rfl
       refine tS 14 ?_
       refine WA.callAt 5 17 rfl qK en33 rfl rfl qD (CallOp.mkT rfl rfl rfl rfl) rfl (PickM_C (j := 0) w0 ([0, 0, 1, 3, 4, 8] : List Int) rfl qD qD ha rfl) ?_
       rintro _ _ _ _ - ⟨rfl, rfl, rfl, rfl⟩
       refine ⟨RLe.refl _, qS, ?_⟩
       refine tA 18 ?_
       refine tP 19 ?_
       first | refine WA.effN 20 rfl qK rfl rfl (Ef.store 0 tab_ok rfl rfl rfl rfl rfl rfl rfl rfl ?_) | refine WA.effN 20 rfl qK rfl rfl (Ef.store 1 tab_ok rfl rfl rfl rfl rfl rfl rfl rfl ?_) | refine WA.effN 20 rfl qK rfl rfl (Ef.store 2 tab_ok rfl rfl rfl rfl rfl rfl rfl rfl ?_) | refine WA.effN 20 rfl qK rfl rfl (Ef.store 3 tab_ok rfl rfl rfl rfl rfl rfl rfl rfl ?_) | refine WA.effN 20 rfl qK rfl rfl (Ef.store 4 tab_ok rfl rfl rfl rfl rfl rfl rfl rfl ?_) | refine WA.effN 20 rfl qK rfl rfl (Ef.store 5 tab_ok rfl rfl rfl rfl rfl rfl rfl rfl ?_) | refine WA.effN 20 rfl qK rfl rfl (Ef.store 6 tab_ok rfl rfl rfl rfl rfl rfl rfl rfl ?_)
       refine ⟨qR, qS, ?_⟩
       refine WA.done qK ?_
       refine WE.cut (nth (fvals (upV xs (c + 3) v0) n) ((n : Int) - 1).toNat - nth (fvals (upV xs (c + 3) v0) n) ((n : Int) - (P : Int)).toNat + nth ([0, 0, 1, 3, 4, 8] : List Int) (mod (nth xs (c + 3 + n)) ((6 : Nat) : Int)).toNat) ⟨by omega, by omega, by omega⟩ ⟨rfl, rfl, rfl, rfl⟩ (RLe.refl _) qS
      ·
       refine WS.callAt 5 rfl en33 rfl rfl qD (CallOp.mkT rfl rfl rfl rfl) rfl (PickM_C (j := 0) w0 ([0, 0, 1, 3, 4, 8] : List Int) rfl qD qD ha rfl) ?_
       rintro _ _ _ _ - ⟨rfl, rfl, rfl, rfl⟩
       refine ⟨qR, qS, ?_⟩
       refine' WA.yl 7 rfl qK rfl rfl qD (Yl.load1 tab_ok rfl rfl rfl (fun _ => rfl) ?r161 rfl ?h161) qS qR ?_
       case r161 => apply Rd.add; (first | exact Rd.blk 0 rfl | exact Rd.blk 1 rfl | exact Rd.blk 2 rfl | exact Rd.blk 3 rfl | exact Rd.blk 4 rfl | exact Rd.blk 5 rfl | exact Rd.blk 6 rfl)
       case h161 => rfl
       refine WA.take 12 rfl qK qK qK rfl rfl qD (Yl.index tab_ok rfl rfl rfl rfl rfl rfl (fun _ => rfl) qA qH) qS qR ?_
       refine' WA.take 13 rfl qK qK qK rfl rfl qD (Yl.load1 tab_ok rfl rfl rfl (fun _ => rfl) ?r162 rfl ?h162) qS qR ?_
       case r162 => (first | (apply RS.rdD; assumption; ((try dsimp only) <;> omega)) | exact Rd.slD 0 rfl qX | exact Rd.slD 1 rfl qX | exact Rd.slD 2 rfl qX | exact Rd.slD 3 rfl qX | exact Rd.slD 4 rfl qX | exact Rd.slD 5 rfl qX | exact Rd.slD 6 rfl qX)
       case h162 => rfl
       refine tS 14 ?_
       refine tA 18 ?_
       refine tP 19 ?_
       first | refine WA.effN 20 rfl qK rfl rfl (Ef.store 0 tab_ok rfl rfl rfl rfl rfl rfl rfl rfl ?_) | refine WA.effN 20 rfl qK rfl rfl (Ef.store 1 tab_ok rfl rfl rfl rfl rfl rfl rfl rfl ?_) | refine WA.effN 20 rfl qK rfl rfl (Ef.store 2 tab_ok rfl rfl rfl rfl rfl rfl rfl rfl ?_) | refine WA.effN 20 rfl qK rfl rfl (Ef.store 3 tab_ok rfl rfl rfl rfl rfl rfl rfl rfl ?_) | refine WA.effN 20 rfl qK rfl rfl (Ef.store 4 tab_ok rfl rfl rfl rfl rfl rfl rfl rfl ?_) | refine WA.effN 20 rfl qK rfl rfl (Ef.store 5 tab_ok rfl rfl rfl rfl rfl rfl rfl rfl ?_) | refine WA.effN 20 rfl qK rfl rfl (Ef.store 6 tab_ok rfl rfl rfl rfl rfl rfl rfl rfl ?_)
       refine ⟨qR, qS, ?_⟩
       refine WA.done qK ?_
       refine WE.cut (nth (fvals (upV xs (c + 3) v0) n) ((n : Int) - 1).toNat - nth (fvals (upV xs (c + 3) v0) n) ((n : Int) - (P : Int)).toNat + nth ([0, 0, 1, 3, 4, 8] : List Int) (mod (nth xs (c + 3 + n)) ((6 : Nat) : Int)).toNat) ⟨by omega, by omega, by omega⟩ ⟨rfl, rfl, rfl, rfl⟩ (RLe.refl _) qS
     ·
      refine' WS.yl rfl rfl rfl qD (Yl.load1 tab_ok rfl rfl rfl (fun _ => rfl) ?r163 rfl ?h163) qS qR ?_
      case r163 => apply Rd.add; (first | exact Rd.blk 0 rfl | exact Rd.blk 1 rfl | exact Rd.blk 2 rfl | exact Rd.blk 3 rfl | exact Rd.blk 4 rfl | exact Rd.blk 5 rfl | exact Rd.blk 6 rfl)
      case h163 => rfl
      refine WA.take 12 rfl qK qK qK rfl rfl qD (Yl.index tab_ok rfl rfl rfl rfl rfl rfl (fun _ => rfl) qA qH) qS qR ?_
      refine' WA.take 13 rfl qK qK qK rfl rfl qD (Yl.load1 tab_ok rfl rfl rfl (fun _ => rfl) ?r164 rfl ?h164) qS qR ?_
      case r164 => (first | (apply RS.rdD; assumption; ((try dsimp only) <;> omega)) | exact Rd.slD 0 rfl qX | exact Rd.slD 1 rfl qX | exact Rd.slD 2 rfl qX | exact Rd.slD 3 rfl qX | exact Rd.slD 4 rfl qX | exact Rd.slD 5 rfl qX | exact Rd.slD 6 rfl qX)
      case h164 => rfl
      refine WA.br2 (i := 1) (j := 17) qK ?_ ?_
      ·
       refine' WS.yl rfl rfl rfl qD (Yl.load1 tab_ok rfl rfl rfl (fun _ => rfl) ?r165 rfl ?h165) qS qR ?_
       case r165 => apply Rd.add; (first | exact Rd.blk 0 rfl | exact Rd.blk 1 rfl | exact Rd.blk 2 rfl | exact Rd.blk 3 rfl | exact Rd.blk 4 rfl | exact Rd.blk 5 rfl | exact Rd.blk 6 rfl)
       case h165 => rfl
       refine WA.take 4 rfl qK qK qK rfl rfl qD (Yl.index tab_ok rfl rfl rfl rfl rfl rfl (fun _ => rfl) qA qH) qS qR ?_
       refine' WA.take 5 rfl qK qK qK rfl rfl qD (Yl.load1 tab_ok rfl rfl rfl (fun _ => rfl) ?r166 rfl ?h166) qS qR ?_
       case r166 => (first | (apply RS.rdD; assumption; ((try dsimp only) <;> omega)) | exact Rd.slD 0 rfl qX | exact Rd.slD 1 rfl qX | exact Rd.slD 2 rfl qX | exact Rd.slD 3 rfl qX | exact Rd.slD 4 rfl qX | exact Rd.slD 5 rfl qX | exact Rd.slD 6 rfl qX)
       case h166 => rfl
       refine tS 14 ?_
       refine WA.callAt 5 17 rfl qK en33 rfl rfl qD (CallOp.mkT rfl rfl rfl rfl) rfl (PickM_C (j := 0) w0 ([0, 0, 1, 3, 4, 8] : List Int) rfl qD qD ha rfl) ?_
       rintro _ _ _ _ - ⟨rfl, rfl, rfl, rfl⟩
       refine ⟨RLe.refl _, qS, ?_⟩
       refine tA 18 ?_
       refine tP 19 ?_
       first | refine WA.effN 20 rfl qK rfl rfl (Ef.store 0 tab_ok rfl rfl rfl rfl rfl rfl rfl rfl ?_) | refine WA.effN 20 rfl qK rfl rfl (Ef.store 1 tab_ok rfl rfl rfl rfl rfl rfl rfl rfl ?_) | refine WA.effN 20 rfl qK rfl rfl (Ef.store 2 tab_ok rfl rfl rfl rfl rfl rfl rfl rfl ?_) | refine WA.effN 20 rfl qK rfl rfl (Ef.store 3 tab_ok rfl rfl rfl rfl rfl rfl rfl rfl ?_) | refine WA.effN 20 rfl qK rfl rfl (Ef.store 4 tab_ok rfl rfl rfl rfl rfl rfl rfl rfl ?_) | refine WA.effN 20 rfl qK rfl rfl (Ef.store 5 tab_ok rfl rfl rfl rfl rfl rfl rfl rfl ?_) | refine WA.effN 20 rfl qK rfl rfl (Ef.store 6 tab_ok rfl rfl rfl rfl rfl rfl rfl rfl ?_)
       refine ⟨qR, qS, ?_⟩
       refine WA.done qK ?_
       refine WE.cut (nth (fvals (upV xs (c + 3) v0) n) ((n : Int) - 1).toNat - nth (fvals (upV xs (c + 3) v0) n) ((n : Int) - (P : Int)).toNat + nth ([0, 0, 1, 3, 4, 8] : List Int) (mod (nth xs (c + 3 + n)) ((6 : Nat) : Int)).toNat) ⟨by omega, by omega, by omega⟩ ⟨rfl, rfl, rfl, rfl⟩ (RLe.refl _) qS
      ·
       refine WS.callAt 5 rfl en33 rfl rfl qD (CallOp.mkT rfl rfl rfl rfl) rfl (PickM_C (j := 0) w0 ([0, 0, 1, 3, 4, 8] : List Int) rfl qD qD ha rfl) ?_
       rintro _ _ _ _ - ⟨rfl, rfl, rfl, rfl⟩
       refine ⟨qR, qS, ?_⟩
       refine' WA.yl 1 rfl qK rfl rfl qD (Yl.load1 tab_ok rfl rfl rfl (fun _ => rfl) ?r167 rfl ?h167) qS qR ?_
       case r167 => apply Rd.add; (first | exact Rd.blk 0 rfl | exact Rd.blk 1 rfl | exact Rd.blk 2 rfl | exact Rd.blk 3 rfl | exact Rd.blk 4 rfl | exact Rd.blk 5 rfl | exact Rd.blk 6 rfl)
       case h167 => rfl
       refine WA.take 4 rfl qK qK qK rfl rfl qD (Yl.index tab_ok rfl rfl rfl rfl rfl rfl (fun _ => rfl) qA qH) qS qR ?_
       refine' WA.take 5 rfl qK qK qK rfl rfl qD (Yl.load1 tab_ok rfl rfl rfl (fun _ => rfl) ?r168 rfl ?h168) qS qR ?_
       case r168 => (first | (apply RS.rdD; assumption; ((try dsimp only) <;> omega)) | exact Rd.slD 0 rfl qX | exact Rd.slD 1 rfl qX | exact Rd.slD 2 rfl qX | exact Rd.slD 3 rfl qX | exact Rd.slD 4 rfl qX | exact Rd.slD 5 rfl qX | exact Rd.slD 6 rfl qX)
       case h168 => rfl
       refine tS 14 ?_
       refine tA 18 ?_
       refine tP 19 ?_
       first | refine WA.effN 20 rfl qK rfl rfl (Ef.store 0 tab_ok rfl rfl rfl rfl rfl rfl rfl rfl ?_) | refine WA.effN 20 rfl qK rfl rfl (Ef.store 1 tab_ok rfl rfl rfl rfl rfl rfl rfl rfl ?_) | refine WA.effN 20 rfl qK rfl rfl (Ef.store 2 tab_ok rfl rfl rfl rfl rfl rfl rfl rfl ?_) | refine WA.effN 20 rfl qK rfl rfl (Ef.store 3 tab_ok rfl rfl rfl rfl rfl rfl rfl rfl ?_) | refine WA.effN 20 rfl qK rfl rfl (Ef.store 4 tab_ok rfl rfl rfl rfl rfl rfl rfl rfl ?_) | refine WA.effN 20 rfl qK rfl rfl (Ef.store 5 tab_ok rfl rfl rfl rfl rfl rfl rfl rfl ?_) | refine WA.effN 20 rfl qK rfl rfl (Ef.store 6 tab_ok rfl rfl rfl rfl rfl rfl rfl rfl ?_)
       refine ⟨qR, qS, ?_⟩
       refine WA.done qK ?_
       refine WE.cut (nth (fvals (upV xs (c + 3) v0) n) ((n : Int) - 1).toNat - nth (fvals (upV xs (c + 3) v0) n) ((n : Int) - (P : Int)).toNat + nth ([0, 0, 1, 3, 4, 8] : List Int) (mod (nth xs (c + 3 + n)) ((6 : Nat) : Int)).toNat) ⟨by omega, by omega, by omega⟩ ⟨rfl, rfl, rfl, rfl⟩ (RLe.refl _) qS
     ·
      refine WS.callAt 5 rfl en33 rfl rfl qD (CallOp.mkT rfl rfl rfl rfl) rfl (PickM_C (j := 0) w0 ([0, 0, 1, 3, 4, 8] : List Int) rfl qD qD ha rfl) ?_
      rintro _ _ _ _ - ⟨rfl, rfl, rfl, rfl⟩
      refine ⟨qR, qS, ?_⟩
      refine WA.br2 (i := 1) (j := 7) qK ?_ ?_
      ·
       refine' WS.yl rfl rfl rfl qD (Yl.load1 tab_ok rfl rfl rfl (fun _ => rfl) ?r169 rfl ?h169) qS qR ?_
       case r169 => apply Rd.add; (first | exact Rd.blk 0 rfl | exact Rd.blk 1 rfl | exact Rd.blk 2 rfl | exact Rd.blk 3 rfl | exact Rd.blk 4 rfl | exact Rd.blk 5 rfl | exact Rd.blk 6 rfl)
       case h169 => rfl
       refine WA.take 4 rfl qK qK qK rfl rfl qD (Yl.index tab_ok rfl rfl rfl rfl rfl rfl (fun _ => rfl) qA qH) qS qR ?_
       refine' WA.take 5 rfl qK qK qK rfl rfl qD (Yl.load1 tab_ok rfl rfl rfl (fun _ => rfl) ?r170 rfl ?h170) qS qR ?_
       case r170 => (first | (apply RS.rdD; assumption; ((try dsimp only) <;> omega)) | exact Rd.slD 0 rfl qX | exact Rd.slD 1 rfl qX | exact Rd.slD 2 rfl qX | exact Rd.slD 3 rfl qX | exact Rd.slD 4 rfl qX | exact Rd.slD 5 rfl qX | exact Rd.slD 6 rfl qX)
       case h170 => rfl
       refine' WA.yl 7 rfl qK rfl rfl qD (Yl.load1 tab_ok rfl rfl rfl (fun _ => rfl) ?r171 rfl ?h171) qS qR ?_
       case r171 => apply Rd.add; (first | exact Rd.blk 0 rfl | exact Rd.blk 1 rfl | exact Rd.blk 2 rfl | exact Rd.blk 3 rfl | exact Rd.blk 4 rfl | exact Rd.blk 5 rfl | exact Rd.blk 6 rfl)
       case h171 => rfl
       refine WA.take 12 rfl qK qK qK rfl rfl qD (Yl.index tab_ok rfl rfl rfl rfl rfl rfl (fun _ => rfl) qA qH) qS qR ?_
       refine' WA.take 13 rfl qK qK qK rfl rfl qD (Yl.load1 tab_ok rfl rfl rfl (fun _ => rfl) ?r172 rfl ?h172) qS qR ?_
       case r172 => (first | (apply RS.rdD; assumption; ((try dsimp only) <;> omega)) | exact Rd.slD 0 rfl qX | exact Rd.slD 1 rfl qX | exact Rd.slD 2 rfl qX | exact Rd.slD 3 rfl qX | exact Rd.slD 4 rfl qX | exact Rd.slD 5 rfl qX | exact Rd.slD 6 rfl qX)
       case h172 => rfl
       refine tS 14 ?_
       refine tA 18 ?_
       refine tP 19 ?_
       first | refine WA.effN 20 rfl qK rfl rfl (Ef.store 0 tab_ok rfl rfl rfl rfl rfl rfl rfl rfl ?_) | refine WA.effN 20 rfl qK rfl rfl (Ef.store 1 tab_ok rfl rfl rfl rfl rfl rfl rfl rfl ?_) | refine WA.effN 20 rfl qK rfl rfl (Ef.store 2 tab_ok rfl rfl rfl rfl rfl rfl rfl rfl ?_) | refine WA.effN 20 rfl qK rfl rfl (Ef.store 3 tab_ok rfl rfl rfl rfl rfl rfl rfl rfl ?_) | refine WA.effN 20 rfl qK rfl rfl (Ef.store 4 tab_ok rfl rfl rfl rfl rfl rfl rfl rfl ?_) | refine WA.effN 20 rfl qK rfl rfl (Ef.store 5 tab_ok rfl rfl rfl rfl rfl rfl rfl rfl ?_) | refine WA.effN 20 rfl qK rfl rfl (Ef.store 6 tab_ok rfl rfl rfl rfl rfl rfl rfl rfl ?_)
       refine ⟨qR, qS, ?_⟩
       refine WA.done qK ?_
       refine WE.cut (nth (fvals (upV xs (c + 3) v0) n) ((n : Int) - 1).toNat - nth (fvals (upV xs (c + 3) v0) n) ((n : Int) - (P : Int)).toNat + nth ([0, 0, 1, 3, 4, 8] : List Int) (mod (nth xs (c + 3 + n)) ((6 : Nat) : Int)).toNat) ⟨by omega, by omega, by omega⟩ ⟨rfl, rfl, rfl, rfl⟩ (RLe.refl _) qS
      ·
       refine' WS.yl rfl rfl rfl qD (Yl.load1 tab_ok rfl rfl rfl (fun _ => rfl) ?r173 rfl ?h173) qS qR ?_
       case r173 => apply Rd.add; (first | exact Rd.blk 0 rfl | exact Rd.blk 1 rfl | exact Rd.blk 2 rfl | exact Rd.blk 3 rfl | exact Rd.blk 4 rfl | exact Rd.blk 5 rfl | exact Rd.blk 6 rfl)
       case h173 => rfl
       refine WA.take 12 rfl qK qK qK rfl rfl qD (Yl.index tab_ok rfl rfl rfl rfl rfl rfl (fun _ => rfl) qA qH) qS qR ?_
       refine' WA.take 13 rfl qK qK qK rfl rfl qD (Yl.load1 tab_ok rfl rfl rfl (fun _ => rfl) ?r174 rfl ?h174) qS qR ?_
       case r174 => (first | (apply RS.rdD; assumption; ((try dsimp only) <;> omega)) | exact Rd.slD 0 rfl qX | exact Rd.slD 1 rfl qX | exact Rd.slD 2 rfl qX | exact Rd.slD 3 rfl qX | exact Rd.slD 4 rfl qX | exact Rd.slD 5 rfl qX | exact Rd.slD 6 rfl qX)
       case h174 => rfl
       refine' WA.yl 1 rfl qK rfl rfl qD (Yl.load1 tab_ok rfl rfl rfl (fun _ => rfl) ?r175 rfl ?h175) qS qR ?_
       case r175 => apply Rd.add; (first | exact Rd.blk 0 rfl | exact Rd.blk 1 rfl | exact Rd.blk 2 rfl | exact Rd.blk 3 rfl | exact Rd.blk 4 rfl | exact Rd.blk 5 rfl | exact Rd.blk 6 rfl)
       case h175 => rfl
       refine WA.take 4 rfl qK qK qK rfl rfl qD (Yl.index tab_ok rfl rfl rfl rfl rfl rfl (fun _ => rfl) qA qH) qS qR ?_
       refine' WA.take 5 rfl qK qK qK rfl rfl qD (Yl.load1 tab_ok rfl rfl rfl (fun _ => rfl) ?r176 rfl ?h176) qS qR ?_
       case r176 => (first | (apply RS.rdD; assumption; ((try dsimp only) <;> omega)) | exact Rd.slD 0 rfl qX | exact Rd.slD 1 rfl qX | exact Rd.slD 2 rfl qX | exact Rd.slD 3 rfl qX | exact Rd.slD 4 rfl qX | exact Rd.slD 5 rfl qX | exact Rd.slD 6 rfl qX)
       case h176 => rfl
       refine tS 14 ?_
       refine tA 18 ?_
       refine tP 19 ?_
       first | refine WA.effN 20 rfl qK rfl rfl (Ef.store 0 tab_ok rfl rfl rfl rfl rfl rfl rfl rfl ?_) | refine WA.effN 20 rfl qK rfl rfl (Ef.store 1 tab_ok rfl rfl rfl rfl rfl rfl rfl rfl ?_) | refine WA.effN 20 rfl qK rfl rfl (Ef.store 2 tab_ok rfl rfl rfl rfl rfl rfl rfl rfl ?_) | refine WA.effN 20 rfl qK rfl rfl (Ef.store 3 tab_ok rfl rfl rfl rfl rfl rfl rfl rfl ?_) | refine WA.effN 20 rfl qK rfl rfl (Ef.store 4 tab_ok rfl rfl rfl rfl rfl rfl rfl rfl ?_) | refine WA.effN 20 rfl qK rfl rfl (Ef.store 5 tab_ok rfl rfl rfl rfl rfl rfl rfl rfl ?_) | refine WA.effN 20 rfl qK rfl rfl (Ef.store 6 tab_ok rfl rfl rfl rfl rfl rfl rfl rfl ?_)
       refine ⟨qR, qS, ?_⟩
       refine WA.done qK ?_
       refine WE.cut (nth (fvals (upV xs (c + 3) v0) n) ((n : Int) - 1).toNat - nth (fvals (upV xs (c + 3) v0) n) ((n : Int) - (P : Int)).toNat + nth ([0, 0, 1, 3, 4, 8] : List Int) (mod (nth xs (c + 3 + n)) ((6 : Nat) : Int)).toNat) ⟨by omega, by omega, by omega⟩ ⟨rfl, rfl, rfl, rfl⟩ (RLe.refl _) qS
    ·
     refine WS.callAt 5 rfl en33 rfl rfl qD (CallOp.mkT rfl rfl rfl rfl) rfl (PickM_C (j := 0) w0 ([0, 0, 1, 3, 4, 8] : List Int) rfl qD qD ha rfl) ?_
     rintro _ _ _ _ - ⟨rfl, rfl, rfl, rfl⟩
     refine ⟨qR, qS, ?_⟩
     refine WA.br3 (i := 1) (j := 7) (k := 10) qK ?_ ?_ ?_
     ·
      refine' WS.yl rfl rfl rfl qD (Yl.load1 tab_ok rfl rfl rfl (fun _ => rfl) ?r177 rfl ?h177) qS qR ?_
      case r177 => apply Rd.add; (first | exact Rd.blk 0 rfl | exact Rd.blk 1 rfl | exact Rd.blk 2 rfl | exact Rd.blk 3 rfl | exact Rd.blk 4 rfl | exact Rd.blk 5 rfl | exact Rd.blk 6 rfl)
      case h177 => rfl
      refine WA.take 4 rfl qK qK qK rfl rfl qD (Yl.index tab_ok rfl rfl rfl rfl rfl rfl (fun _ => rfl) qA qH) qS qR ?_
      refine' WA.take 5 rfl qK qK qK rfl rfl qD (Yl.load1 tab_ok rfl rfl rfl (fun _ => rfl) ?r178 rfl ?h178) qS qR ?_
      case r178 => (first | (apply RS.rdD; assumption; ((try dsimp only) <;> omega)) | exact Rd.slD 0 rfl qX | exact Rd.slD 1 rfl qX | exact Rd.slD 2 rfl qX | exact Rd.slD 3 rfl qX | exact Rd.slD 4 rfl qX | exact Rd.slD 5 rfl qX | exact Rd.slD 6 rfl qX)
      case h178 => rfl
      refine WA.br2 (i := 7) (j := 10) qK ?_ ?_
      ·
       refine' WS.yl rfl rfl rfl qD (Yl.load1 tab_ok rfl rfl rfl (fun _ => rfl) ?r179 rfl ?h179) qS qR ?_
       case r179 => apply Rd.add; (first | exact Rd.blk 0 rfl | exact Rd.blk 1 rfl | exact Rd.blk 2 rfl | exact Rd.blk 3 rfl | exact Rd.blk 4 rfl | exact Rd.blk 5 rfl | exact Rd.blk 6 rfl)
       case h179 => rfl
       refine' WA.yl 10 rfl qK rfl rfl qD (Yl.load1 tab_ok rfl rfl rfl (fun _ => rfl) ?r180 rfl ?h180) qS qR ?_
       case r180 => apply Rd.add; (first | exact Rd.blk 0 rfl | exact Rd.blk 1 rfl | exact Rd.blk 2 rfl | exact Rd.blk 3 rfl | exact Rd.blk 4 rfl | exact Rd.blk 5 rfl | exact Rd.blk 6 rfl)
       case h180 => rfl
       refine tS 11 ?_
       refine WA.take 12 rfl qK qK qK rfl rfl qD (Yl.index tab_ok rfl rfl rfl rfl rfl rfl (fun _ => rfl) qA qH) qS qR ?_
       refine' WA.take 13 rfl qK qK qK rfl rfl qD (Yl.load1 tab_ok rfl rfl rfl (fun _ => rfl) ?r181 rfl ?h181) qS qR ?_
       case r181 => (first | (apply RS.rdD; assumption; ((try dsimp only) <;> omega)) | exact Rd.slD 0 rfl qX | exact Rd.slD 1 rfl qX | exact Rd.slD 2 rfl qX | exact Rd.slD 3 rfl qX | exact Rd.slD 4 rfl qX | exact Rd.slD 5 rfl qX | exact Rd.slD 6 rfl qX)
       case h181 => rfl
       refine tS 14 ?_
       refine tA 18 ?_
       refine tP 19 ?_
       first | refine WA.effN 20 rfl qK rfl rfl (Ef.store 0 tab_ok rfl rfl rfl rfl rfl rfl rfl rfl ?_) | refine WA.effN 20 rfl qK rfl rfl (Ef.store 1 tab_ok rfl rfl rfl rfl rfl rfl rfl rfl ?_) | refine WA.effN 20 rfl qK rfl rfl (Ef.store 2 tab_ok rfl rfl rfl rfl rfl rfl rfl rfl ?_) | refine WA.effN 20 rfl qK rfl rfl (Ef.store 3 tab_ok rfl rfl rfl rfl rfl rfl rfl rfl ?_) | refine WA.effN 20 rfl qK rfl rfl (Ef.store 4 tab_ok rfl rfl rfl rfl rfl rfl rfl rfl ?_) | refine WA.effN 20 rfl qK rfl rfl (Ef.store 5 tab_ok rfl rfl rfl rfl rfl rfl rfl rfl ?_) | refine WA.effN 20 rfl qK rfl rfl (Ef.store 6 tab_ok rfl rfl rfl rfl rfl rfl rfl rfl ?_)
       refine ⟨qR, qS, ?_⟩
       refine WA.done qK ?_
       refine WE.cut (nth (fvals (upV xs (c + 3) v0) n) ((n : Int) - 1).toNat - nth (fvals (upV xs (c + 3) v0) n) ((n : Int) - (P : Int)).toNat + nth ([0, 0, 1, 3, 4, 8] : List Int) (mod (nth xs (c + 3 + n)) ((6 : Nat) : Int)).toNat) ⟨by omega, by omega, by omega⟩ ⟨rfl, rfl, rfl, rfl⟩ (RLe.refl _) qS
      ·
       refine' WS.yl rfl rfl rfl qD (Yl.load1 tab_ok rfl rfl rfl (fun _ => rfl) ?r182 rfl ?h182) qS qR ?_
       case r182 => apply Rd.add; (first | exact Rd.blk 0 rfl | exact Rd.blk 1 rfl | exact Rd.blk 2 rfl | exact Rd.blk 3 rfl | exact Rd.blk 4 rfl | exact Rd.blk 5 rfl | exact Rd.blk 6 rfl)
       case h182 => rfl
       refine tS 11 ?_
       refine' WA.yl 7 rfl qK rfl rfl qD (Yl.load1 tab_ok rfl rfl rfl (fun _ => rfl) ?r183 rfl ?h183) qS qR ?_
       case r183 => apply Rd.add; (first | exact Rd.blk 0 rfl | exact Rd.blk 1 rfl | exact Rd.blk 2 rfl | exact Rd.blk 3 rfl | exact Rd.blk 4 rfl | exact Rd.blk 5 rfl | exact Rd.blk 6 rfl)
       case h183 => rfl
       refine WA.take 12 rfl qK qK qK rfl rfl qD (Yl.index tab_ok rfl rfl rfl rfl rfl rfl (fun _ => rfl) qA qH) qS qR ?_
       refine' WA.take 13 rfl qK qK qK rfl rfl qD (Yl.load1 tab_ok rfl rfl rfl (fun _ => rfl) ?r184 rfl ?h184) qS qR ?_
       case r184 => (first | (apply RS.rdD; assumption; ((try dsimp only) <;> omega)) | exact Rd.slD 0 rfl qX | exact Rd.slD 1 rfl qX | exact Rd.slD 2 rfl qX | exact Rd.slD 3 rfl qX | exact Rd.slD 4 rfl qX | exact Rd.slD 5 rfl qX | exact Rd.slD 6 rfl qX)
       case h184 => rfl
       refine tS 14 ?_
       refine tA 18 ?_
       refine tP 19 ?_
       first | refine WA.effN 20 rfl qK rfl rfl (Ef.store 0 tab_ok rfl rfl rfl rfl rfl rfl rfl rfl ?_) | refine WA.effN 20 rfl qK rfl rfl (Ef.store 1 tab_ok rfl rfl rfl rfl rfl rfl rfl rfl ?_) | refine WA.effN 20 rfl qK rfl rfl (Ef.store 2 tab_ok rfl rfl rfl rfl rfl rfl rfl rfl ?_) | refine WA.effN 20 rfl qK rfl rfl (Ef.store 3 tab_ok rfl rfl rfl rfl rfl rfl rfl rfl ?_) | refine WA.effN 20 rfl qK rfl rfl (Ef.store 4 tab_ok rfl rfl rfl rfl rfl rfl rfl rfl ?_) | refine WA.effN 20 rfl qK rfl rfl (Ef.store 5 tab_ok rfl rfl rfl rfl rfl rfl rfl rfl ?_) | refine WA.effN 20 rfl qK rfl rfl (Ef.store 6 tab_ok rfl rfl rfl rfl rfl rfl rfl rfl ?_)
       refine ⟨qR, qS, ?_⟩
       refine WA.done qK ?_
       refine WE.cut (nth (fvals (upV xs (c + 3) v0) n) ((n : Int) - 1).toNat - nth (fvals (upV xs (c + 3) v0) n) ((n : Int) - (P : Int)).toNat + nth ([0, 0, 1, 3, 4, 8] : List Int) (mod (nth xs (c + 3 + n)) ((6 : Nat) : Int)).toNat) ⟨by omega, by omega, by omega⟩ ⟨rfl, rfl, rfl, rfl⟩ (RLe.refl _) qS
     ·
      refine' WS.yl rfl rfl rfl qD (Yl.load1 tab_ok rfl rfl rfl (fun _ => rfl) ?r185 rfl ?h185) qS qR ?_
      case r185 => apply Rd.add; (first | exact Rd.blk 0 rfl | exact Rd.blk 1 rfl | exact Rd.blk 2 rfl | exact Rd.blk 3 rfl | exact Rd.blk 4 rfl | exact Rd.blk 5 rfl | exact Rd.blk 6 rfl)
      case h185 => rfl
      refine WA.br2 (i := 1) (j := 10) qK ?_ ?_
      ·
       refine' WS.yl rfl rfl rfl qD (Yl.load1 tab_ok rfl rfl rfl (fun _ => rfl) ?r186 rfl ?h186) qS qR ?_
       case r186 => apply Rd.add; (first | exact Rd.blk 0 rfl | exact Rd.blk 1 rfl | exact Rd.blk 2 rfl | exact Rd.blk 3 rfl | exact Rd.blk 4 rfl | exact Rd.blk 5 rfl | exact Rd.blk 6 rfl)
       case h186 => rfl
       refine WA.take 4 rfl qK qK qK rfl rfl qD (Yl.index tab_ok rfl rfl rfl rfl rfl rfl (fun _ => rfl) qA qH) qS qR ?_
       refine' WA.take 5 rfl qK qK qK rfl rfl qD (Yl.load1 tab_ok rfl rfl rfl (fun _ => rfl) ?r187 rfl ?h187) qS qR ?_
       case r187 => (first | (apply RS.rdD; assumption; ((try dsimp only) <;> omega)) | exact Rd.slD 0 rfl qX | exact Rd.slD 1 rfl qX | exact Rd.slD 2 rfl qX | exact Rd.slD 3 rfl qX | exact Rd.slD 4 rfl qX | exact Rd.slD 5 rfl qX | exact Rd.slD 6 rfl qX)
       case h187 => rfl
       refine' WA.yl 10 rfl qK rfl rfl qD (Yl.load1 tab_ok rfl rfl rfl (fun _ => rfl) ?r188 rfl ?h188) qS qR ?_
       case r188 => apply Rd.add; (first | exact Rd.blk 0 rfl | exact Rd.blk 1 rfl | exact Rd.blk 2 rfl | exact Rd.blk 3 rfl | exact Rd.blk 4 rfl | exact Rd.blk 5 rfl | exact Rd.blk 6 rfl)
       case h188 => rfl
       refine tS 11 ?_
       refine WA.take 12 rfl qK qK qK rfl rfl qD (Yl.index tab_ok rfl rfl rfl rfl rfl rfl (fun _ => rfl) qA qH) qS qR ?_
       refine' WA.take 13 rfl qK qK qK rfl rfl qD (Yl.load1 tab_ok rfl rfl rfl (fun _ => rfl) ?r189 rfl ?h189) qS qR ?_
       case r189 => (first | (apply RS.rdD; assumption; ((try dsimp only) <;> omega)) | exact Rd.slD 0 rfl qX | exact Rd.slD 1 rfl qX | exact Rd.slD 2 rfl qX | exact Rd.slD 3 rfl qX | exact Rd.slD 4 rfl qX | exact Rd.slD 5 rfl qX | exact Rd.slD 6 rfl qX)
       case h189 => rfl
       refine tS 14 ?_
       refine tA 18 ?_
       refine tP 19 ?_
       first | refine WA.effN 20 rfl qK rfl rfl (Ef.store 0 tab_ok rfl rfl rfl rfl rfl rfl rfl rfl ?_) | refine WA.effN 20 rfl qK rfl rfl (Ef.store 1 tab_ok rfl rfl rfl rfl rfl rfl rfl rfl ?_) | refine WA.effN 20 rfl qK rfl rfl (Ef.store 2 tab_ok rfl rfl rfl rfl rfl rfl rfl rfl ?_) | refine WA.effN 20 rfl qK rfl rfl (Ef.store 3 tab_ok rfl rfl rfl rfl rfl rfl rfl rfl ?_) | refine WA.effN 20 rfl qK rfl rfl (Ef.store 4 tab_ok rfl rfl rfl rfl rfl rfl rfl rfl ?_) | refine WA.effN 20 rfl qK rfl rfl (Ef.store 5 tab_ok rfl rfl rfl rfl rfl rfl rfl rfl ?_) | refine WA.effN 20 rfl qK rfl rfl (Ef.store 6 tab_ok rfl rfl rfl rfl rfl rfl rfl rfl ?_)
       refine ⟨qR, qS, ?_⟩
       refine WA.done qK ?_
       refine WE.cut (nth (fvals (upV xs (c + 3) v0) n) ((n : Int) - 1).toNat - nth (fvals (upV xs (c + 3) v0) n) ((n : Int) - (P : Int)).toNat + nth ([0, 0, 1, 3, 4, 8] : List Int) (mod (nth xs (c + 3 + n)) ((6 : Nat) : Int)).toNat) ⟨by omega, by omega, by omega⟩ ⟨rfl, rfl, rfl, rfl⟩ (RLe.refl _) qS
      ·
       refine' WS.yl rfl rfl rfl qD (Yl.load1 tab_ok rfl rfl rfl (fun _ => rfl) ?r190 rfl ?h190) qS qR ?_
       case r190 => apply Rd.add; (first | exact Rd.blk 0 rfl | exact Rd.blk 1 rfl | exact Rd.blk 2 rfl | exact Rd.blk 3 rfl | exact Rd.blk 4 rfl | exact Rd.blk 5 rfl | exact Rd.blk 6 rfl)
       case h190 => rfl
       refine tS 11 ?_
       refine WA.take 12 rfl qK qK qK rfl rfl qD (Yl.index tab_ok rfl rfl rfl rfl rfl rfl (fun _ => rfl) qA qH) qS qR ?_
       refine' WA.take 13 rfl qK qK qK rfl rfl qD (Yl.load1 tab_ok rfl rfl rfl (fun _ => rfl) ?r191 rfl ?h191) qS qR ?_
       case r191 => (first | (apply RS.rdD; assumption; ((try dsimp only) <;> omega)) | exact Rd.slD 0 rfl qX | exact Rd.slD 1 rfl qX | exact Rd.slD 2 rfl qX | exact Rd.slD 3 rfl qX | exact Rd.slD 4 rfl qX | exact Rd.slD 5 rfl qX | exact Rd.slD 6 rfl qX)
       case h191 => rfl
       refine' WA.yl 1 rfl qK rfl rfl qD (Yl.load1 tab_ok rfl rfl rfl (fun _ => rfl) ?r192 rfl ?h192) qS qR ?_
       case r192 => apply Rd.add; (first | exact Rd.blk 0 rfl | exact Rd.blk 1 rfl | exact Rd.blk 2 rfl | exact Rd.blk 3 rfl | exact Rd.blk 4 rfl | exact Rd.blk 5 rfl | exact Rd.blk 6 rfl)
       case h192 => rfl
       refine WA.take 4 rfl qK qK qK rfl rfl qD (Yl.index tab_ok rfl rfl rfl rfl rfl rfl (fun _ => rfl) qA qH) qS qR ?_
       refine' WA.take 5 rfl qK qK qK rfl rfl qD (Yl.load1 tab_ok rfl rfl rfl (fun _ => rfl) ?r193 rfl ?h193) qS qR ?_
       case r193 => (first | (apply RS.rdD; assumption; ((try dsimp only) <;> omega)) | exact Rd.slD 0 rfl qX | exact Rd.slD 1 rfl qX | exact Rd.slD 2 rfl qX | exact Rd.slD 3 rfl qX | exact Rd.slD 4 rfl qX | exact Rd.slD 5 rfl qX | exact Rd.slD 6 rfl qX)
       case h193 => rfl
       refine tS 14 ?_
       refine tA 18 ?_
       refine tP 19 ?_
       first | refine WA.effN 20 rfl qK rfl rfl (Ef.store 0 tab_ok rfl rfl rfl rfl rfl rfl rfl rfl ?_) | refine WA.effN 20 rfl qK rfl rfl (Ef.store 1 tab_ok rfl rfl rfl rfl rfl rfl rfl rfl ?_) | refine WA.effN 20 rfl qK rfl rfl (Ef.store 2 tab_ok rfl rfl rfl rfl rfl rfl rfl rfl ?_) | refine WA.effN 20 rfl qK rfl rfl (Ef.store 3 tab_ok rfl rfl rfl rfl rfl rfl rfl rfl ?_) | refine WA.effN 20 rfl qK rfl rfl (Ef.store 4 tab_ok rfl rfl rfl rfl rfl rfl rfl rfl ?_) | refine WA.effN 20 rfl qK rfl rfl (Ef.store 5 tab_ok rfl rfl rfl rfl rfl rfl rfl rfl ?_) | refine WA.effN 20 rfl qK rfl rfl (Ef.store 6 tab_ok rfl rfl rfl rfl rfl rfl rfl rfl ?_)
       refine ⟨qR, qS, ?_⟩
       refine WA.done qK ?_
       refine WE.cut (nth (fvals (upV xs (c + 3) v0) n) ((n : Int) - 1).toNat - nth (fvals (upV xs (c + 3) v0) n) ((n : Int) - (P : Int)).toNat + nth ([0, 0, 1, 3, 4, 8] : List Int) (mod (nth xs (c + 3 + n)) ((6 : Nat) : Int)).toNat) ⟨by omega, by omega, by omega⟩ ⟨rfl, rfl, rfl, rfl⟩ (RLe.refl _) qS
     ·
      refine' WS.yl rfl rfl rfl qD (Yl.load1 tab_ok rfl rfl rfl (fun _ => rfl) ?r194 rfl ?h194) qS qR ?_
      case r194 => apply Rd.add; (first | exact Rd.blk 0 rfl | exact Rd.blk 1 rfl | exact Rd.blk 2 rfl | exact Rd.blk 3 rfl | exact Rd.blk 4 rfl | exact Rd.blk 5 rfl | exact Rd.blk 6 rfl)
      case h194 => rfl
      refine tS 11 ?_
      refine WA.br2 (i := 1) (j := 7) qK ?_ ?_
      ·
       refine' WS.yl rfl rfl rfl qD (Yl.load1 tab_ok rfl rfl rfl (fun _ => rfl) ?r195 rfl ?h195) qS qR ?_
       case r195 => apply Rd.add; (first | exact Rd.blk 0 rfl | exact Rd.blk 1 rfl | exact Rd.blk 2 rfl | exact Rd.blk 3 rfl | exact Rd.blk 4 rfl | exact Rd.blk 5 rfl | exact Rd.blk 6 rfl)
       case h195 => rfl
       refine WA.take 4 rfl qK qK qK rfl rfl qD (Yl.index tab_ok rfl rfl rfl rfl rfl rfl (fun _ => rfl) qA qH) qS qR ?_
       refine' WA.take 5 rfl qK qK qK rfl rfl qD (Yl.load1 tab_ok rfl rfl rfl (fun _ => rfl) ?r196 rfl ?h196) qS qR ?_
       case r196 => (first | (apply RS.rdD; assumption; ((try dsimp only) <;> omega)) | exact Rd.slD 0 rfl qX | exact Rd.slD 1 rfl qX | exact Rd.slD 2 rfl qX | exact Rd.slD 3 rfl qX | exact Rd.slD 4 rfl qX | exact Rd.slD 5 rfl qX | exact Rd.slD 6 rfl qX)
       case h196 => rfl
       refine' WA.yl 7 rfl qK rfl rfl qD (Yl.load1 tab_ok rfl rfl rfl (fun _ => rfl) ?r197 rfl ?h197) qS qR ?_
       case r197 => apply Rd.add; (first | exact Rd.blk 0 rfl | exact Rd.blk 1 rfl | exact Rd.blk 2 rfl | exact Rd.blk 3 rfl | exact Rd.blk 4 rfl | exact Rd.blk 5 rfl | exact Rd.blk 6 rfl)
       case h197 => rfl
       refine WA.take 12 rfl qK qK qK rfl rfl qD (Yl.index tab_ok rfl rfl rfl rfl rfl rfl (fun _ => rfl) qA qH) qS qR ?_
       refine' WA.take 13 rfl qK qK qK rfl rfl qD (Yl.load1 tab_ok rfl rfl rfl (fun _ => rfl) ?r198 rfl ?h198) qS qR ?_
       case r198 => (first | (apply RS.rdD; assumption; ((try dsimp only) <;> omega)) | exact Rd.slD 0 rfl qX | exact Rd.slD 1 rfl qX | exact Rd.slD 2 rfl qX | exact Rd.slD 3 rfl qX | exact Rd.slD 4 rfl qX | exact Rd.slD 5 rfl qX | exact Rd.slD 6 rfl qX)
       case h198 => rfl
       refine tS 14 ?_
       refine tA 18 ?_
       refine tP 19 ?_
       first | refine WA.effN 20 rfl qK rfl rfl (Ef.store 0 tab_ok rfl rfl rfl rfl rfl rfl rfl rfl ?_) | refine WA.effN 20 rfl qK rfl rfl (Ef.store 1 tab_ok rfl rfl rfl rfl rfl rfl rfl rfl ?_) | refine WA.effN 20 rfl qK rfl rfl (Ef.store 2 tab_ok rfl rfl rfl rfl rfl rfl rfl rfl ?_) | refine WA.effN 20 rfl qK rfl rfl (Ef.store 3 tab_ok rfl rfl rfl rfl rfl rfl rfl rfl ?_) | refine WA.effN 20 rfl qK rfl rfl (Ef.store 4 tab_ok rfl rfl rfl rfl rfl rfl rfl rfl ?_) | refine WA.effN 20 rfl qK rfl rfl (Ef.store 5 tab_ok rfl rfl rfl rfl rfl rfl rfl rfl ?_) | refine WA.effN 20 rfl qK rfl rfl (Ef.store 6 tab_ok rfl rfl rfl rfl rfl rfl rfl rfl ?_)
       refine ⟨qR, qS, ?_⟩
       refine WA.done qK ?_
       refine WE.cut (nth (fvals (upV xs (c + 3) v0) n) ((n : Int) - 1).toNat - nth (fvals (upV xs (c + 3) v0) n) ((n : Int) - (P : Int)).toNat + nth ([0, 0, 1, 3, 4, 8] : List Int) (mod (nth xs (c + 3 + n)) ((6 : Nat) : Int)).toNat) ⟨by omega, by omega, by omega⟩ ⟨rfl, rfl, rfl, rfl⟩ (RLe.refl _) qS
      ·
       refine' WS.yl rfl rfl rfl qD (Yl.load1 tab_ok rfl rfl rfl (fun _ => rfl) ?r199 rfl ?h199) qS qR ?_
       case r199 => apply Rd.add; (first | exact Rd.blk 0 rfl | exact Rd.blk 1 rfl | exact Rd.blk 2 rfl | exact Rd.blk 3 rfl | exact Rd.blk 4 rfl | exact Rd.blk 5 rfl | exact Rd.blk 6 rfl)
       case h199 => rfl
       refine WA.take 12 rfl qK qK qK rfl rfl qD (Yl.index tab_ok rfl rfl rfl rfl rfl rfl (fun _ => rfl) qA qH) qS qR ?_
       refine' WA.take 13 rfl qK qK qK rfl rfl qD (Yl.load1 tab_ok rfl rfl rfl (fun _ => rfl) ?r200 rfl ?h200) qS qR ?_
       case r200 => (first | (apply RS.rdD; assumption; ((try dsimp only) <;> omega)) | exact Rd.slD 0 rfl qX | exact Rd.slD 1 rfl qX | exact Rd.slD 2 rfl qX | exact Rd.slD 3 rfl qX | exact Rd.slD 4 rfl qX | exact Rd.slD 5 rfl qX | exact Rd.slD 6 rfl qX)
       case h200 => rfl
       refine' WA.yl 1 rfl qK rfl rfl qD (Yl.load1 tab_ok rfl rfl rfl (fun _ => rfl) ?r201 rfl ?h201) qS qR ?_
       case r201 => apply Rd.add; (first | exact Rd.blk 0 rfl | exact Rd.blk 1 rfl | exact Rd.blk 2 rfl | exact Rd.blk 3 rfl | exact Rd.blk 4 rfl | exact Rd.blk 5 rfl | exact Rd.blk 6 rfl)
       case h201 => rfl
       refine WA.take 4 rfl qK qK qK rfl rfl qD (Yl.index tab_ok rfl rfl rfl rfl rfl rfl (fun _ => rfl) qA qH) qS qR ?_
       refine' WA.take 5 rfl qK qK qK rfl rfl qD (Yl.load1 tab_ok rfl rfl rfl (fun _ => rfl) ?r202 rfl ?h202) qS qR ?_
       case r202 => (first | (apply RS.rdD; assumption; ((try dsimp only) <;> omega)) | exact Rd.slD 0 rfl qX | exact Rd.slD 1 rfl qX | exact Rd.slD 2 rfl qX | exact Rd.slD 3 rfl qX | exact Rd.slD 4 rfl qX | exact Rd.slD 5 rfl qX | exact Rd.slD 6 rfl qX)
       case h202 => rfl
       refine tS 14 ?_
       refine tA 18 ?_
       refine tP 19 ?_
       first | refine WA.effN 20 rfl qK rfl rfl (Ef.store 0 tab_ok rfl rfl rfl rfl rfl rfl rfl rfl ?_) | refine WA.effN 20 rfl qK rfl rfl (Ef.store 1 tab_ok rfl rfl rfl rfl rfl rfl rfl rfl ?_) | refine WA.effN 20 rfl qK rfl rfl (Ef.store 2 tab_ok rfl rfl rfl rfl rfl rfl rfl rfl ?_) | refine WA.effN 20 rfl qK rfl rfl (Ef.store 3 tab_ok rfl rfl rfl rfl rfl rfl rfl rfl ?_) | refine WA.effN 20 rfl qK rfl rfl (Ef.store 4 tab_ok rfl rfl rfl rfl rfl rfl rfl rfl ?_) | refine WA.effN 20 rfl qK rfl rfl (Ef.store 5 tab_ok rfl rfl rfl rfl rfl rfl rfl rfl ?_) | refine WA.effN 20 rfl qK rfl rfl (Ef.store 6 tab_ok rfl rfl rfl rfl rfl rfl rfl rfl ?_)
       refine ⟨qR, qS, ?_⟩
       refine WA.done qK ?_
       refine WE.cut (nth (fvals (upV xs (c + 3) v0) n) ((n : Int) - 1).toNat - nth (fvals (upV xs (c + 3) v0) n) ((n : Int) - (P : Int)).toNat + nth ([0, 0, 1, 3, 4, 8] : List Int) (mod (nth xs (c + 3 + n)) ((6 : Nat) : Int)).toNat) ⟨by omega, by omega, by omega⟩ ⟨rfl, rfl, rfl, rfl⟩ (RLe.refl _) qS

end Go.Proofs.YtejpkjapmhpmpaaDoor

/- Rule: a pointer against nil. No condition. -/
namespace Go.Proofs.YtejpkjapmhpmpaaDoor.K
open Go Go.RowKit
section
variable {P : Program} {T : Tab} {n : Nat} {env : Env} {w0 : World} {R : Ro} {E : List Ent} {o : Oper} {pc p q r : Bool}
end
end Go.Proofs.YtejpkjapmhpmpaaDoor.K

/- Rules: an object whose type is known (a strings.Builder), pointers against nil and themselves, unsafe.Pointer there and back, append of a string, texts of bytes, shifts. No condition. -/
namespace Go.Proofs.YtejpkjapmhpmpaaDoor.K
open Go Go.RowKit

def encY (c : UInt8) : List Value := [.int .u8 c.toNat]
section
variable {P : Program} {T : Tab} {n : Nat} {env : Env} {w0 : World} {R : Ro} {E : List Ent} {o : Oper} {pc p q r : Bool}
theorem Rd.obj {b : Nat} {cs : Array Value} {t : TypeId} {fz : Nat × Nat} (i : Nat) (h : E[i]? = some (.obj b (.cells cs t fz))) : Rd R E ⟨b, 0, none⟩ cs.toList := by
 intro w0 w hm j v hv
 obtain ⟨_, hb⟩ := hm.own _ (mem_of_get h)
 rw [addr_add_mk]
 have : cs[j]? = some v := by simpa using hv
 simp [World.cell?, hb, this]
/-- append(b, s...) -/
theorem encY_flat : ∀ ys : List UInt8, (ys.map encY).flatten = ys.map fun c => Value.int .u8 c.toNat
 | [] => rfl
 | c :: ys => by simp [encY, encY_flat ys]
theorem Ef.appendStr {K : Value → Ro → List Ent → Prop} {t u e : TypeId} {x y : Operand} {m cap : Nat} {a : Option Addr} {xs l : List UInt8} {d d2 d3 : TD} (i : Nat) (hT : TabOk P T) (ho : o.op = .call { callee := .builtin .append, args := #[x, y], argTypes := #[t, u] }) (hd : T.at t = some d) (hk : d.k = .slice e) (hd2 : T.at e = some d2) (hs2 : d2.size = 1) (hb2 : d2.bytes = 1) (hz2 : (P.info? e).bind (·.zero) = some (.int .u8 0)) (hd3 : T.at u = some d3) (hk3 : d3.k = .str)
  (hx : ev env x = some (true, .slice a m cap)) (hm : m = xs.length) (hE : E[i]? = some (.sl e 1 a cap (xs.map encY))) (hy : ev env y = some (true, .string (str l))) (hbytes : xs.length + l.length ≤ 140737488355328)
  (hK : ∀ a' cap', K (.slice a' (xs ++ l).length cap') R (E.set i (.sl e 1 a' cap' ((xs ++ l).map encY)))) : Ef P n env w0 R E o K := by
 intro ac w hkn hmm
 have hsl := own_sl hmm (mem_of_get hE)
 obtain ⟨inf, z, hi, hz, hzc, hsz, hby⟩ := hT.info hd2
 have hz' : inf.zero = some (.int .u8 0) := by rw [hi] at hz2; exact hz2
 rw [hs2] at hsz
 rw [hb2] at hby
 have hsc : Lib.strCells (str l) = l.map fun c => Value.int .u8 c.toNat := by unfold Lib.strCells; rw [show (str l).data.toList = l by simp [str]]
 have hss := str_size l
 have hlen : (xs ++ l).length = xs.length + l.length := by simp
 have hml : (xs.map encY).length = xs.length := by simp
 have hrows : ∀ r ∈ (xs ++ l).map encY, r.length = 1 := fun r hr => by obtain ⟨c, _, rfl⟩ := List.mem_map.1 hr; rfl
 have hfl : ((xs ++ l).map encY).flatten = (xs.map fun c => Value.int .u8 c.toNat) ++ (l.map fun c => Value.int .u8 c.toNat) := by rw [encY_flat, List.map_append]
 have exec : ∀ v' w', (Builtin.append_ #[t, u] o.type #[.slice a m cap, .string (str l)]).run P w = .ok v' w' → (execOp ac.eval o).run P w = .ok (.value v') w' := fun v' w' hr => by
  unfold execOp
  simp only [ho, resolve, invoke, builtin, Sem.run_bind, Sem.run_pure, Result.andThen_ok, List.map_toArray, List.map_cons, List.map_nil, hkn.ev hx rfl, hkn.ev hy rfl, hr]
 have mkNew : ∀ nc, xs.length + l.length ≤ nc → nc ≤ maxLen → ∀ cur : Array Value, cur.toList = (xs.map fun c => Value.int .u8 c.toNat) ++ (l.map fun c => Value.int .u8 c.toNat) ++ (Builtin.zeroCells (Value.int .u8 0).cells (nc - (xs.length + l.length))).toList →
   Mem w0 (w.drew.alloc (.cells cur e)) R (E.set i (.sl e 1 (some ⟨w.heap.size, 0, none⟩) nc ((xs ++ l).map encY))) := fun nc hge hcm cur hcur => by
  have hz1 : (Value.int IntKind.u8 0).cells.size = 1 := rfl
  refine hmm.set (row := none) hE ⟨rfl, rfl, rfl, by simp, fun j hj _ => heap_alloc_old w.drew _ hj⟩ (fun _ h => by cases h) (ok_sl (g := w.heap.size) hrows (by decide) hmm.below.size (heap_alloc_new w.drew _) (by rw [List.length_map, hlen]; exact hge) hcm ?_ ?_) (fun b hb => by simp [Ent.block] at hb; right; omega)
  ·rw [← Array.length_toList, hcur]
   simp only [List.length_append, List.length_map, Array.length_toList, size_zeroCells, hz1]
   omega
  ·rw [hcur, hfl, List.length_map, hlen]
   exact List.take_left' (by simp)
 by_cases hl0 : l = []
 ·subst hl0
  refine ⟨_, w, R, _, .inl (exec (.slice a m cap) w ?_), ?_, by have := hK a cap; rw [List.append_nil] at this; rw [hm]; exact this⟩
  ·have hle : m ≤ cap := by
    obtain ⟨_, _, h2⟩ := hsl
    rw [hml] at h2
    rcases h2 with ⟨_, h3, _⟩ | ⟨g, cur, _, _, _, hn, _⟩
    ·have : xs = [] := by simpa using h3
     subst this; simp at hm; omega
    ·omega
   have hf := Lib.run_firstCells_string (P := P) w 1 (str [])
   have h0 : (str []).size = 0 := rfl
   have hd0 : (str []).data.toList = [] := rfl
   rw [h0] at hf
   cases a with
   | none => simp [Builtin.append_, run_underlying (hT.slice hd hk), run_underlying (hT.str hd3 hk3), sizeOf, typeInfo, hi, hsz, Builtin.lenOf, h0, hle, hf, Lib.strCells]
   | some ad => simp [Builtin.append_, run_underlying (hT.slice hd hk), run_underlying (hT.str hd3 hk3), sizeOf, typeInfo, hi, hsz, Builtin.lenOf, h0, hle, hf, Lib.strCells, hd0, storeCells]
  ·have e1 : E.set i (.sl e 1 a cap ((xs ++ []).map encY)) = E := by
    rw [List.append_nil]
    apply List.ext_getElem?
    intro j
    by_cases hj : i = j
    ·subst hj
     rw [hE, List.getElem?_set_self (List.getElem?_eq_some_iff.1 hE).1]
    ·rw [List.getElem?_set_ne hj]
   rw [List.append_nil] at e1
   rw [e1]; exact hmm
 ·have hlp : 0 < l.length := List.length_pos_iff.2 hl0
  obtain ⟨_, _, h2⟩ := hsl
  rw [hml] at h2
  rcases h2 with ⟨ha, h3, hc0⟩ | ⟨g, cur, ha, hbase, hh, hn, hc, hs, ht⟩
  ·have hx0 : xs = [] := by simpa using h3
   subst ha; subst hx0; subst hc0
   simp only [List.length_nil] at hm
   subst hm
   have hr := run_append_nil_string (P := P) w t u o.type e inf (.int .u8 0) (hT.slice hd hk) (hT.str hd3 hk3) hi hz' (str l) (by omega) (by omega) (by rw [hby, hss]; simp at hbytes; omega)
   have hcm := grownCap_le_maxLen w (str l).size 0 e (by rw [hss]; simp only [maxLen]; simp at hbytes; omega)
   have hge := grownCap_ge w (str l).size 0 e
   have hnew := mkNew (grownCap w (str l).size 0 e) (by simp; omega) hcm ((str l).data.map (fun b => Value.int .u8 b.toNat) ++ Builtin.zeroCells (Value.int .u8 0).cells (grownCap w (str l).size 0 e - (str l).size)) (by rw [hss]; simp [str])
   refine ⟨_, _, R, _, .inl (exec _ _ hr), hnew, ?_⟩
   rw [hss]
   exact hK _ _
  ·subst ha
   rw [hm] at exec
   by_cases hroom : xs.length + (str l).size ≤ cap
   ·have hr := Lib.run_append_room_string (P := P) w t u o.type e inf (hT.slice hd hk) (hT.str hd3 hk3) hi hsz g xs.length cap cur hh (str l) hroom (by omega)
    rw [hsc, hss] at hr
    refine ⟨_, _, R, _, .inl (exec _ _ hr), hmm.set hE (grownBy_setRow g _) (fun _ h => by simpa [Ent.block] using h) (ok_sl (g := g) (rows := (xs ++ l).map encY) (cap := cap) hrows (by decide) hbase (setRow_heap w g cur _ e _ hh) (by rw [List.length_map, hlen]; omega) hc ?_ ?_) (fun _ h => .inl h), ?_⟩
    ·simp only [List.size_toArray, List.length_append, List.length_take, List.length_drop, Array.length_toList, List.length_map]
     omega
    ·have ht' : cur.toList.take xs.length = xs.map fun c => Value.int .u8 c.toNat := by rw [← encY_flat, ← ht]; simp
     rw [hfl, List.length_map, hlen]
     simp only [Nat.mul_one]
     rw [ht']
     exact List.take_left' (by simp)
    ·have := hK (some ⟨g, 0, none⟩) cap
     rw [hlen] at this
     exact this
   ·have holds : ∀ j v, (xs.map fun c => Value.int .u8 c.toNat)[j]? = some v → w.cell? ((⟨g, 0, none⟩ : Addr).add j) = some v := fun j v hv => by
     rw [← encY_flat, ← ht, List.getElem?_take] at hv
     rw [addr_add_mk]
     split at hv
     ·simpa [World.cell?, hh] using hv
     ·cases hv
    have hr := Lib.run_append_grow_string (P := P) w t u o.type e inf (.int .u8 0) (hT.slice hd hk) (hT.str hd3 hk3) hi hz' ⟨g, 0, none⟩ xs.length cap (xs.map fun c => Value.int .u8 c.toNat) (by rw [hsz]; simp) holds (str l) (by omega) (by omega) (by rw [hby]; exact growslice_fits (by omega) (by omega))
    have hcm := grownCap_le_maxLen w (xs.length + (str l).size) cap e (by simp only [maxLen]; omega)
    have hge := grownCap_ge w (xs.length + (str l).size) cap e
    have hnew := mkNew (grownCap w (xs.length + (str l).size) cap e) (by omega) hcm ((xs.map fun c => Value.int .u8 c.toNat).toArray ++ (Lib.strCells (str l)).toArray ++ Builtin.zeroCells (Value.int .u8 0).cells (grownCap w (xs.length + (str l).size) cap e - (xs.length + (str l).size))) (by simp [hsc, hss])
    refine ⟨_, _, R, _, .inl (exec _ _ hr), hnew, ?_⟩
    have := hK (some ⟨w.heap.size, 0, none⟩) (grownCap w (xs.length + (str l).size) cap e)
    rw [hlen] at this
    rw [hss] at this ⊢
    exact this
end
end Go.Proofs.YtejpkjapmhpmpaaDoor.K

/- Digits, plain: what the reference reads. No condition. -/
namespace Go.Proofs.YtejpkjapmhpmpaaDoor.M
open Go Go.Proofs.YtejpkjapmhpmpaaDoor.K

def digGo (n : Int) : List UInt8 → Int
  | [] => n
  | c :: r => if (c.toNat : Int) < 48 ∨ 57 < (c.toNat : Int) ∨ 1073741824 < n then 0 else digGo (10 * n + ((c.toNat : Int) - 48)) r
def digF (l : List UInt8) : Int := digGo 0 l
def noExit (n : Int) : List UInt8 → Prop
  | [] => True
  | c :: r => ¬ ((c.toNat : Int) < 48 ∨ 57 < (c.toNat : Int) ∨ 1073741824 < n) ∧ noExit (10 * n + ((c.toNat : Int) - 48)) r
def rnum (l : List UInt8) : Int := if 0 < l.length ∧ byteAt l 0 = 45 then -(digF (l.drop 1)) else digF l
def rparts (l : List UInt8) : List UInt8 × List UInt8 := if (cutS l).2.2 = true then ((cutS l).1, (cutS l).2.1) else (l, [49])
end Go.Proofs.YtejpkjapmhpmpaaDoor.M

/- Rules of shifts and texts of bytes. No condition. -/
namespace Go.Proofs.YtejpkjapmhpmpaaDoor.K
open Go Go.RowKit
section
variable {P : Program} {T : Tab} {n : Nat} {env : Env} {w0 : World} {R : Ro} {E : List Ent} {o : Oper} {pc p q r : Bool}
/-- string(b) of bytes of one's own -/
theorem Yl.bytesStr {src dst e : TypeId} {x : Operand} {m cap : Nat} {a : Option Addr} {l : List UInt8} {d d2 d3 : TD} (i : Nat) (hT : TabOk P T) (ho : o.op = .convert src dst x) (hd : T.at src = some d) (hk : d.k = .slice e) (hd2 : T.at e = some d2) (hk2 : d2.k = .int .u8) (hd3 : T.at dst = some d3) (hk3 : d3.k = .str)
  (hE : E[i]? = some (.sl e 1 a cap (l.map encY))) (hx : ev env x = some (p, .slice a m cap)) (hm : m = l.length) (hl : 0 < l.length) (hp : pc = true → p = true) : Yl P n env w0 R E o pc (.string (str l)) := by
 intro ac w hkn hmm hpc
 subst hm
 obtain ⟨_, _, h2⟩ := own_sl hmm (mem_of_get hE)
 rcases h2 with ⟨_, h3, _⟩ | ⟨g, cur, rfl, hbase, hh, hn, hc, hs, ht⟩
 ·have : l = [] := by simpa using h3
  subst this; simp at hl
 ·have hcells : ∀ (j : Nat) (b : UInt8), l[j]? = some b → w.cell? ((⟨g, 0, none⟩ : Addr).add j) = some (.int .u8 b.toNat) := fun j b hj => by
   have h4 : ((l.map encY).flatten)[j]? = some (.int .u8 b.toNat) := by rw [encY_flat, List.getElem?_map, hj]; rfl
   rw [← ht, List.getElem?_take] at h4
   rw [addr_add_mk]
   split at h4
   ·simpa [World.cell?, hh] using h4
   ·cases h4
  have e1 := run_convert_bytes_back w src dst e ⟨g, 0, none⟩ cap l (hT.slice hd hk) (hT.int hd2 hk2) (hT.str hd3 hk3) (fun j hj => hcells j _ (List.getElem?_eq_getElem hj))
  unfold execOp
  simp [ho, hkn.ev hx (hp hpc), e1, str]
end
def RBelow (w0 : World) (R : Ro) : Prop := ∀ b cs, R b = some cs → b < w0.heap.size
theorem FnV.ofOwn {P : Program} {f : FuncId} {args : List Value} {R : Ro} {v : Value} (h : ∀ w0, RBelow w0 R → Fn P f args w0 R [] (fun v' _ _ => v' = v)) : FnV P f args R v := by
 intro w0 E w hm
 have hm0 : Mem w w R [] := ⟨Below.refl _ w, hm.ro, fun e he => (by cases he), fun e he => (by cases he), List.Pairwise.nil⟩
 refine (h w (fun b cs hb => hm.ro_lt hb) w hm0).mono ?_
 rintro e w' ⟨v', R', E', rfl, _, hm', rfl⟩
 exact ⟨rfl, hm.belowAll hm'.below⟩
end Go.Proofs.YtejpkjapmhpmpaaDoor.K

/- A walk begins anew where nothing is owned: all that exists is read only and lies below; string(b) of bytes of one's own. No condition. -/
namespace Go.Proofs.YtejpkjapmhpmpaaDoor.K
open Go Go.RowKit
section
variable {P : Program} {n : Nat} {env : Env} {w0 w1 : World} {R R1 : Ro} {E : List Ent} {c : Code} {Q : Exit → Act → World → Prop} {e : Exit}
theorem W.rebase (h : ∀ w1, Mem w0 w1 R [] → RBelow w1 R → W P c Q n env w1 R []) : W P c Q n env w0 R [] := fun a w hk hm =>
 h w hm (fun _ _ hb => hm.ro_lt hb) a w hk ⟨Below.refl _ w, hm.ro, fun e he => (by cases he), fun e he => (by cases he), List.Pairwise.nil⟩
theorem WE.rebase (hb : Mem w0 w1 R1 []) (h : WE Q e n env w0 R1 []) : WE Q e n env w1 R E := fun a w hk hm => h a w hk (hb.belowAll hm.below)
end
end Go.Proofs.YtejpkjapmhpmpaaDoor.K

/- Finite curves: values, gains, validity. No condition. -/
set_option maxRecDepth 4000
set_option linter.unusedSimpArgs false
set_option linter.unusedVariables false
namespace Go.Proofs.YtejpkjapmhpmpaaDoor
open Go Go.RowKit Go.Proofs.YtejpkjapmhpmpaaDoor.K Go.Proofs.YtejpkjapmhpmpaaDoor.M





theorem CValidG_V {R : Ro} {fa : Option Addr} {fc : Nat} {c : Cv} (ha : RS R 1 encI fa c.vals) (hl : c.vals.length ≤ 100000) : FnV Tryd.prog 39 [.agg #[.slice fa c.vals.length fc, .int .i64 c.per, .int .i64 c.inc]] R (.bool (validB c)) := by
 refine Fn.toV (fun w0 E => ?_)
 refine fE 85 Tryd.func39 ?_
 refine zQ (zG ?_)
 refine zO fun b1 => ?_
 refine zR 1 rfl (zN (zU (zQ (zG (zR 1 rfl ?_)))))
 refine' WG.y rfl rfl qD (Yl.load1 tab_ok rfl rfl rfl (fun _ => rfl) ?r1 rfl ?h1) ?_
 case r1 => apply Rd.add; (first | exact Rd.blk 0 rfl | exact Rd.blk 1 rfl)
 case h1 => rfl
 refine zR 2 rfl (zN (zU (zQ (zQ (zG (zR 3 rfl ?_))))))
 refine yP ?_
 refine yP ?_
 refine yO ?_
 refine zR 1 rfl ?_
 refine yP ?_
 refine' WG.y rfl rfl qD (Yl.loadG tab_ok rfl rfl rfl qE ?r2 rfl ?h2 ?g2) ?_
 case r2 => apply Rd.addC; (first | exact Rd.blkC 0 rfl | exact Rd.blkC 1 rfl)
 case h2 => rfl
 case g2 => first | exact fun _ => trivial | (intro hg; (try simp only [zk] at hg); (try dsimp only); omega)
 refine yP ?_
 refine yO ?_
 refine zR 1 rfl ?_
 refine yP ?_
 refine' WG.y rfl rfl qD (Yl.loadG tab_ok rfl rfl rfl qE ?r3 rfl ?h3 ?g3) ?_
 case r3 => apply Rd.addC; (first | exact Rd.blkC 0 rfl | exact Rd.blkC 1 rfl)
 case h3 => rfl
 case g3 => first | exact fun _ => trivial | (intro hg; (try simp only [zk] at hg); (try dsimp only); omega)
 refine yP ?_
 refine yO ?_
 refine zR 1 rfl ?_
 refine yP ?_
 refine' WG.y rfl rfl qD (Yl.loadG tab_ok rfl rfl rfl qE ?r4 rfl ?h4 ?g4) ?_
 case r4 => apply Rd.addC; (first | exact Rd.blkC 0 rfl | exact Rd.blkC 1 rfl)
 case h4 => rfl
 case g4 => first | exact fun _ => trivial | (intro hg; (try simp only [zk] at hg); (try dsimp only); omega)
 refine yP ?_
 refine yP ?_
 refine yO ?_
 refine zR 1 rfl ?_
 refine yP ?_
 refine' WG.y rfl rfl qD (Yl.loadG tab_ok rfl rfl rfl qE ?r5 rfl ?h5 ?g5) ?_
 case r5 => apply Rd.addC; (first | exact Rd.blkC 0 rfl | exact Rd.blkC 1 rfl)
 case h5 => rfl
 case g5 => first | exact fun _ => trivial | (intro hg; (try simp only [zk] at hg); (try dsimp only); omega)
 refine yP ?_
 refine yO ?_
 refine zR 1 rfl ?_
 refine yP ?_
 refine' WG.y rfl rfl qD (Yl.loadG tab_ok rfl rfl rfl qE ?r6 rfl ?h6 ?g6) ?_
 case r6 => apply Rd.addC; (first | exact Rd.blkC 0 rfl | exact Rd.blkC 1 rfl)
 case h6 => rfl
 case g6 => first | exact fun _ => trivial | (intro hg; (try simp only [zk] at hg); (try dsimp only); omega)
 refine yP ?_
 refine yO ?_
 refine zN (zU ?_)
 refine W.cond rfl (fun hc0 => ?_) (fun hc0 => ?_)
 ·try simp only [zk] at hc0
  have hno : validB c = false := validB_false (fun h => by obtain ⟨⟨a1, a2, a3, a4, a5, a6, a7⟩, _⟩ := h; unfold MAXV at a7; omega)
  refine zQ (zG (zR 1 rfl (zN (zU (zT (wt ?_))))))
  refine sE (E := E) ?_
  refine WE.retF tab_ok [_] rfl ⟨rfl, trivial⟩ (RLe.refl _) ?_
  exact ⟨by rw [hno]; rfl, rfl⟩
 ·try simp only [zk] at hc0
  have hall : 1 ≤ c.vals.length ∧ c.vals.length ≤ 400 ∧ 1 ≤ c.per ∧ c.per ≤ 120 ∧ c.per ≤ c.vals.length ∧ 0 ≤ c.inc ∧ c.inc ≤ MAXV := by unfold MAXV; omega
  refine zK (zU (zQ (zG (zR 1 rfl (zN (zU (zQ (zQ (zG (zR 1 rfl ?_))))))))))
  refine' WG.y rfl rfl qD (Yl.load1 tab_ok rfl rfl rfl (fun _ => rfl) ?r7 rfl ?h7) ?_
  case r7 => apply Rd.add; (first | exact Rd.blk 0 rfl | exact Rd.blk 1 rfl)
  case h7 => rfl
  refine zR 2 rfl (zN (zU (zB ?_)))
  refine W.loopK (β := Nat) (fun t => t ≤ c.vals.length ∧ ∀ i, i < t → (nth c.vals i = INF ∨ (0 ≤ nth c.vals i ∧ nth c.vals i ≤ MAXV)) ∧ (i = 0 ∨ nth c.vals (i - 1) ≤ nth c.vals i)) (fun t => [(4, true, .int .i64 (lastV c.vals t)), (45, true, .int .i64 (t : Int))]) [1, 3, 43, 44] [_, _, _, _] [] _ rfl (fun t => []) (fun t => c.vals.length - t) (0) (⟨Nat.zero_le _, fun i hi => by omega⟩) ⟨rfl, rfl, rfl, rfl, rfl, rfl, rfl⟩ qS ?_
  intro t hst
  dsimp only [zipE, setAll, List.cons_append, List.nil_append, List.set_cons_zero, List.set_cons_succ] at hst ⊢
  have hlast : 0 ≤ lastV c.vals t ∧ (lastV c.vals t = INF ∨ lastV c.vals t ≤ MAXV) := by
   unfold lastV
   by_cases h : t = 0
   ·rw [if_pos h]; exact ⟨Int.le_refl _, .inr (by decide)⟩
   ·rw [if_neg h]
    have := (hst.2 (t - 1) (by omega)).1
    unfold INF MAXV at this ⊢
    omega
  refine zQ (zG (zR 1 rfl (zN (zU (zQ ?_)))))
  refine W.condD rfl (fun hc1 => ?_) (fun hc1 => ?_)
  ·try dsimp only at hc1
   have htl : t < c.vals.length := by omega
   refine zK (zU (zQ (zB (zQ (zG ?_)))))
   refine WG.y rfl rfl qD (Yl.indexN tab_ok rfl rfl rfl rfl rfl rfl (fun _ => rfl) qN qH) ?_
   refine' WG.y rfl rfl qD (Yl.load1 tab_ok rfl rfl rfl (fun _ => rfl) ?r8 rfl ?h8) ?_
   case r8 => (first | (apply RS.rdD; assumption; ((try dsimp only) <;> omega)) | exact Rd.slD 0 rfl qX | exact Rd.slD 1 rfl qX)
   case h8 => rfl
   refine zR 1 rfl (zN (zU (zQ (zQ (zG (zR 4 rfl ?_))))))
   refine yP ?_
   refine yP ?_
   refine yP ?_
   refine yP ?_
   refine yP ?_
   refine yN ?_
   refine yO ?_
   refine zN (zU ?_)
   refine W.cond rfl (fun hc2 => ?_) (fun hc2 => ?_)
   ·try simp only [zk] at hc2
    have hno : validB c = false := validB_false (fun h => by
     have h2 := h.2.1 t htl
     unfold lastV at hc2
     unfold INF MAXV at h2
     rcases hc2 with x | x
     ·split at x
      ·omega
      ·have := h2.2.resolve_left (by omega)
       omega
     ·omega)
    refine zQ (zG (zR 1 rfl (zN (zU (zT (wt (wb (wt (wt (wb (wt ?_)))))))))))
    refine sE (E := E) ?_
    refine WE.retF tab_ok [_] rfl ⟨rfl, trivial⟩ (RLe.refl _) ?_
    exact ⟨by rw [hno]; rfl, rfl⟩
   ·try simp only [zk] at hc2
    have hy : (nth c.vals t = INF ∨ (0 ≤ nth c.vals t ∧ nth c.vals t ≤ MAXV)) ∧ (t = 0 ∨ nth c.vals (t - 1) ≤ nth c.vals t) := by
     unfold INF MAXV
     have hle : lastV c.vals t ≤ nth c.vals t := by omega
     refine ⟨by omega, ?_⟩
     unfold lastV at hle
     by_cases h : t = 0
     ·exact .inl h
     ·rw [if_neg h] at hle; exact .inr hle
    refine zK (zU (zG (zR 2 rfl (zN (zL (zU (zG ?_)))))))
    refine yA ?_
    refine zR 1 rfl (zN ?_)
    refine WE.again (t + 1) (⟨by omega, fun i hi => by
     by_cases e : i = t
     ·subst e; exact hy
     ·exact hst.2 i (by omega)⟩) (by (try dsimp only); omega) ⟨vint (lastV_succ _ _), rfl, rfl, rfl, rfl, rfl, rfl⟩ (RLe.refl _) qS
  ·try dsimp only at hc1
   obtain rfl : t = c.vals.length := by omega
   obtain ⟨P, hP⟩ := Int.eq_ofNat_of_zero_le (show 0 ≤ c.per by omega)
   have hlv : lastV c.vals c.vals.length = nth c.vals (c.vals.length - 1) := if_neg (by omega)
   have e3 : ((c.vals.length : Int) - c.per).toNat = c.vals.length - c.per.toNat := by omega
   refine zX ?_
   refine wx (wx (zY (zU (zQ (zQ (zG (zR 2 rfl (zN (zU ?_)))))))))
   refine W.condE rfl (fun hc3 => ?_) (fun hc3 => ?_)
   ·try dsimp only at hc3
    have hif : (if nth c.vals (c.vals.length - 1) = INF then c.per = 1 ∧ c.inc = 0 else nth c.vals (c.vals.length - 1) ≤ nth c.vals (c.vals.length - c.per.toNat) + c.inc) ↔ (c.per = 1 ∧ c.inc = 0) := by rw [if_pos (by rw [← hlv]; exact hc3)]
    refine zQ (zG (zR 1 rfl ?_))
    refine' WG.y rfl rfl qD (Yl.load1 tab_ok rfl rfl rfl (fun _ => rfl) ?r9 rfl ?h9) ?_
    case r9 => apply Rd.add; (first | exact Rd.blk 0 rfl | exact Rd.blk 1 rfl)
    case h9 => rfl
    refine zR 2 rfl ?_
    refine yP ?_
    refine' WG.y rfl rfl qD (Yl.loadG tab_ok rfl rfl rfl qE ?r10 rfl ?h10 ?g10) ?_
    case r10 => apply Rd.addC; (first | exact Rd.blkC 0 rfl | exact Rd.blkC 1 rfl)
    case h10 => rfl
    case g10 => first | exact fun _ => trivial | (intro hg; (try simp only [zk] at hg); (try dsimp only); omega)
    refine yP ?_
    refine yN ?_
    refine zR 1 rfl (zN (zU (zT (wt ?_))))
    refine sE (E := E) ?_
    refine WE.retF tab_ok [_] rfl ⟨rfl, trivial⟩ (RLe.refl _) ?_
    refine ⟨congrArg Value.bool ?_, rfl⟩
    rw [Bool.eq_iff_iff, validB_iff, hif]
    simp only [Bool.and_eq_true, beq_iff_eq]
    exact ⟨fun h => ⟨hall, fun j hj => hst.2 j hj, h⟩, fun h => h.2.2⟩
   ·try dsimp only at hc3
    have hif : (if nth c.vals (c.vals.length - 1) = INF then c.per = 1 ∧ c.inc = 0 else nth c.vals (c.vals.length - 1) ≤ nth c.vals (c.vals.length - c.per.toNat) + c.inc) ↔ (nth c.vals (c.vals.length - 1) ≤ nth c.vals (c.vals.length - c.per.toNat) + c.inc) := by rw [if_neg (by rw [← hlv]; exact hc3)]
    have hx2 := (hst.2 (c.vals.length - c.per.toNat) (by omega)).1
    rw [← e3] at hx2
    unfold INF MAXV at hx2 hall
    refine zK (zU (zQ ?_))
    refine W.regionQ _ mixed qK ?_
    refine zR 1 rfl ?_
    refine' WG.y rfl rfl qD (Yl.load1 tab_ok rfl rfl rfl (fun _ => rfl) ?r11 rfl ?h11) ?_
    case r11 => apply Rd.add; (first | exact Rd.blk 0 rfl | exact Rd.blk 1 rfl)
    case h11 => rfl
    refine zR 2 rfl ?_
    refine' WG.y rfl rfl qD (Yl.load1 tab_ok rfl rfl rfl (fun _ => rfl) ?r12 rfl ?h12) ?_
    case r12 => apply Rd.add; (first | exact Rd.blk 0 rfl | exact Rd.blk 1 rfl)
    case h12 => rfl
    refine yS ?_
    refine WG.y rfl rfl qD (Yl.index tab_ok rfl rfl rfl rfl rfl rfl (fun _ => rfl) qA qH) ?_
    refine' WG.y rfl rfl qD (Yl.load1 tab_ok rfl rfl rfl (fun _ => rfl) ?r13 rfl ?h13) ?_
    case r13 => (first | (apply RS.rdD; assumption; ((try dsimp only) <;> omega)) | exact Rd.slD 0 rfl qX | exact Rd.slD 1 rfl qX)
    case h13 => rfl
    refine zR 1 rfl ?_
    refine' WG.y rfl rfl qD (Yl.load1 tab_ok rfl rfl rfl (fun _ => rfl) ?r14 rfl ?h14) ?_
    case r14 => apply Rd.add; (first | exact Rd.blk 0 rfl | exact Rd.blk 1 rfl)
    case h14 => rfl
    refine yA ?_
    refine zR 3 rfl (zN (zU (zT ?_)))
    refine sE (E := E) ?_
    refine WE.retF tab_ok [_] rfl ⟨rfl, trivial⟩ (RLe.refl _) ?_
    refine ⟨congrArg Value.bool ?_, rfl⟩
    rw [Bool.eq_iff_iff, validB_iff, hif, e3, hlv]
    simp only [decide_eq_true_eq]
    exact ⟨fun h => ⟨by unfold MAXV; omega, fun j hj => hst.2 j hj, by omega⟩, fun h => by have := h.2.2; omega⟩

end Go.Proofs.YtejpkjapmhpmpaaDoor

/- Functions that may panic with a value: their contracts, and the rules that take and pass a panic. No condition. -/
namespace Go.Proofs.YtejpkjapmhpmpaaDoor.K
open Go Go.RowKit
section
variable {P : Program} {T : Tab} {n : Nat} {env : Env} {w0 : World} {R : Ro} {E : List Ent} {Q : Exit → Act → World → Prop} {K : Act → World → Prop} {ch : List PanicEntry}
theorem WE.then_panic (h : WE Q (.panic ch) n env w0 R E) : WE (Exit.then K Q) (.panic ch) n env w0 R E := h
theorem WE.blk_panic {id : Nat} (h : WE Q (.panic ch) n env w0 R E) : WE (Exit.inBlock id Q) (.panic ch) n env w0 R E := h
/-- a function's contract: it returns, or it panics with a value -/
def FnXR (w0 : World) (R0 : Ro) (Post PX : Value → Ro → List Ent → Prop) : Ending → World → Prop :=
  fun e w' => (∃ v R' E', e = .returned v ∧ RLe R0 R' ∧ Mem w0 w' R' E' ∧ Post v R' E') ∨ (∃ v R' E', e = .panicked [{ v := v, recovered := false }] ∧ RLe R0 R' ∧ Mem w0 w' R' E' ∧ PX v R' E')
def FnX (P : Program) (f : FuncId) (args : List Value) (w0 : World) (R : Ro) (E : List Ent) (Post PX : Value → Ro → List Ent → Prop) : Prop :=
  ∀ w, Mem w0 w R E → Calls P f args.toArray w (FnXR w0 R Post PX)
def FnXAt (P : Program) (f : FuncId) (vs : List Value) (w0 : World) (R : Ro) (e : Ent) (Post : Value → Ro → Ent → List Ent → Prop) (PX : Value → Ro → Ent → Prop) : Prop :=
  ∀ F, FnX P f vs w0 R (e :: F) (fun v R' E' => ∃ e' N, E' = N ++ e' :: F ∧ Post v R' e' N) (fun v R' E' => ∃ e', E' = e' :: F ∧ PX v R' e')
theorem FnX.enter {f : FuncId} {fn : Func} {c : Code} {args : List Value} {Post PX : Value → Ro → List Ent → Prop} {n : Nat}
  (hf : P.funcs[f]? = some fn) (hb : fn.body = some c) (hn : fn.ntmps = n) (ha : args.length ≤ n) (hs : Nat.ble n 99999 = true)
  (h : W P c (bodyPost P fn (FnXR w0 R Post PX)) n (argEnv 0 args) w0 R E) : FnX P f args w0 R E Post PX := by
 intro w hm
 have hs := Nat.le_of_ble_eq_true hs
 refine calls_of_wp hf hb (h _ w ⟨?_, hs, (argEnv_mark 0 args (by omega)).symm, fun t p v ht => ?_⟩ hm)
 ·simp [hn]; omega
 ·obtain ⟨hp, _, hv⟩ := argEnv_look 0 args t p v ht
  simp only [Nat.sub_zero] at hv
  subst hp
  have hlt : t < args.length := (List.getElem?_eq_some_iff.1 hv).1
  rw [Array.getElem?_append_left (by simpa using hlt)]
  simpa using hv
theorem WE.retX (hT : TabOk P T) {fn : Func} {Post PX : Value → Ro → List Ent → Prop} {R0 : Ro} {rs : List ResultVar} (vs : List Value) (hr : fn.results = rs.toArray) (h : ResAll T env R E rs vs) (hR : RLe R0 R) (hp : Post (resVal vs) R E) (hds : markOf env = none := by rfl) :
  WE (bodyPost P fn (FnXR w0 R0 Post PX)) .ret n env w0 R E := fun _ _ hk hm => ⟨by rw [hk.defers]; unfold dsOf; rw [hds], resVal vs, results_ok hT hr hk hm h, .inl ⟨resVal vs, R, E, rfl, hR, hm, hp⟩⟩
theorem WE.endX (hT : TabOk P T) {fn : Func} {Post PX : Value → Ro → List Ent → Prop} {R0 : Ro} {rs : List ResultVar} (vs : List Value) (hr : fn.results = rs.toArray) (h : ResAll T env R E rs vs) (hR : RLe R0 R) (hp : Post (resVal vs) R E) (hds : markOf env = none := by rfl) :
  WE (bodyPost P fn (FnXR w0 R0 Post PX)) .normal n env w0 R E := fun _ _ hk hm => ⟨by rw [hk.defers]; unfold dsOf; rw [hds], resVal vs, results_ok hT hr hk hm h, .inl ⟨resVal vs, R, E, rfl, hR, hm, hp⟩⟩
theorem WE.panicX {fn : Func} {Post PX : Value → Ro → List Ent → Prop} {R0 : Ro} {v : Value} (hR : RLe R0 R) (hp : PX v R E) (hds : markOf env = none := by rfl) :
  WE (bodyPost P fn (FnXR w0 R0 Post PX)) (.panic [{ v := v, recovered := false }]) n env w0 R E := fun _ _ hk hm => ⟨by rw [hk.defers]; unfold dsOf; rw [hds], .inr ⟨v, R, E, rfl, hR, hm, hp⟩⟩
variable {o : Oper} {ops rest : List Oper}
/-- the text's own panic -/
theorem WL.panic {x : Operand} {t : TypeId} {u : Value} (hg : o.guard = none) (ho : o.op = .panic x) (hx : ev env x = some (true, .iface t u))
  (h : WE Q (.panic [{ v := .iface t u, recovered := false }]) n env w0 R E) : WG false P ops Q (o :: rest) n env w0 R E := by
 intro a w hk hm
 refine wpList_plain hg fun K hK => ?_
 have e : (execOp a.eval o).run P w = .halt (.panic (.iface t u)) w := by
  unfold execOp
  rw [ho]
  simp only [hk.ev hx rfl, Sem.run_bind, run_panic_iface]
  rfl
 unfold Oper.wp
 rw [e]
 exact h a w hk hm
/-- a call of a function that may panic -/
theorem WL.callX {d : Nat} {f : FuncId} {vs : List Value} {Post PX : Value → Ro → List Ent → Prop} (hf : Enters P f) (hg : o.guard = none) (hd : o.dst = some d) (hdn : d < n)
  (hc : CallOp env o.op true f vs) (hv : FnX P f vs w0 R E Post PX)
  (hx : ∀ v R' E', RLe R R' → PX v R' E' → WE Q (.panic [{ v := v, recovered := false }]) n env w0 R' E')
  (h : ∀ v R' E', RLe R R' → Post v R' E' → WG false P ops Q rest n ((d, true, v) :: env) w0 R' E') : WG false P ops Q (o :: rest) n env w0 R E := by
 intro a w hk hm
 refine wpList_plain hg fun K hK => ?_
 unfold Oper.wp
 rw [run_call hk hc rfl hf]
 refine (hv w hm).mono ?_
 rintro e w' (⟨v, R', E', rfl, hR, hm', hp⟩ | ⟨v, R', E', rfl, hR, hm', hp⟩)
 ·simp only [hd]
  exact hK _ _ (h v R' E' hR hp _ _ (hk.putT hdn v) hm')
 ·exact hx v R' E' hR hp _ _ hk hm'
/-- a call that turns the resource number i, or panics -/
theorem WL.callXAt {d : Nat} {f : FuncId} {vs : List Value} {e : Ent} {Post : Value → Ro → Ent → List Ent → Prop} {PX : Value → Ro → Ent → Prop} (i : Nat) (hf : Enters P f) (hg : o.guard = none) (hd : o.dst = some d) (hdn : d < n)
  (hc : CallOp env o.op true f vs) (hE : E[i]? = some e)
  (hv : FnX P f vs w0 R (e :: E.eraseIdx i) (fun v R' E' => ∃ e' N, E' = N ++ e' :: E.eraseIdx i ∧ Post v R' e' N) (fun v R' E' => ∃ e', E' = e' :: E.eraseIdx i ∧ PX v R' e'))
  (hx : ∀ v R' e', RLe R R' → PX v R' e' → WE Q (.panic [{ v := v, recovered := false }]) n env w0 R' (E.set i e'))
  (h : ∀ v R' e' N, RLe R R' → Post v R' e' N → WG false P ops Q rest n ((d, true, v) :: env) w0 R' (N ++ E.set i e')) : WG false P ops Q (o :: rest) n env w0 R E := by
 intro a w hk hm
 refine wpList_plain hg fun K hK => ?_
 unfold Oper.wp
 rw [run_call hk hc rfl hf]
 refine (hv w (hm.perm (perm_get hE))).mono ?_
 rintro e0 w' (⟨v, R', E', rfl, hR, hm', e', N, rfl, hp⟩ | ⟨v, R', E', rfl, hR, hm', e', rfl, hp⟩)
 ·simp only [hd]
  exact hK _ _ (h v R' e' N hR hp _ _ (hk.putT hdn v) (hm'.perm ((perm_set e' hE).append_left N)))
 ·exact hx v R' e' hR hp _ _ hk (hm'.perm (perm_set e' hE))
end
end Go.Proofs.YtejpkjapmhpmpaaDoor.K
